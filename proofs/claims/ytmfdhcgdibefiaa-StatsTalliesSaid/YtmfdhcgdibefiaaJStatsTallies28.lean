/- Texts joined by wip/tools/merge.py: Tx1 Ux1 Arr2 ROpens TOpens UOpens TalQ KidP KidR May18 Ref15 Rx3 Rx4 OwnL SpanN RefG OwnM SpanT RefH. -/
import Derived.Test.YtmfdhcgdibefiaaJStatsTallies25
import Derived.Test.YtmfdhcgdibefiaaJStatsTallies24
import Derived.Test.YtmfdhcgdibefiaaJStatsTallies27
import Derived.Test.YtmfdhcgdibefiaaJStatsTallies26
import Derived.KernelRfl
import Derived.Test.YtmfdhcgdibefiaaJStatsTallies22
import Derived.Test.YtmfdhcgdibefiaaJStatsTallies2
-- Written by wip/tools/gp.py, a program of this session round the kit's printer. Lean checks it.
namespace Go.Proofs.Ytmfdhcgdibefiaa.T
open Go.RowKit Go.Proofs.Ytmfdhcgdibefiaa.Q Go.Proofs.YtmfdhcgdibefiaaW.PrintWords Go.Proofs.YtmfdhcgdibefiaaW.PrintLast Go.Proofs.YtmfdhcgdibefiaaW.PrintMore
attribute [local go_sem] max2_int min2_int max_two min_two max_three min_three max_four min_four   -- for this text's walks alone
set_option linter.unusedVariables false
set_option linter.unusedSimpArgs false

/-! ### merkhetref27_Of: function 22 -/
mutual
def merkhetref27_Of.l0 : Nat → List (S37) → List (S37) → Int → Option ((List (S44)))
  | 0, _, _, _ => none
  | k + 1, x0, x3, x4 => if x4 < (x0.length : Int) then (if 0 ≤ x4 then ((merkhetref01_May.f k ((rd_T37 x0 x4).f0) ((rd_T37 x0 x4).f1) ((rd_T37 x0 x4).f2) ((rd_T37 x0 x4).f3) ((rd_T37 x0 x4).f4) ((rd_T37 x0 x4).f5) ((rd_T37 x0 x4).f6) ((rd_T37 x0 x4).f7)).bind fun t105 => (if t105 = true then (if x3.length < 1759218604441 then (merkhetref27_Of.l0 k x0 (x3 ++ [(⟨(rd_T37 x0 x4).f0, (rd_T37 x0 x4).f1, (rd_T37 x0 x4).f2, (rd_T37 x0 x4).f3, (rd_T37 x0 x4).f4, (rd_T37 x0 x4).f5, (rd_T37 x0 x4).f6, (rd_T37 x0 x4).f7⟩ : S37)]) (wrap64 (x4 + 1))) else (none)) else (merkhetref27_Of.l0 k x0 x3 (wrap64 (x4 + 1))))) else (none)) else ((merkhetref09_Hosts.f k x3).bind fun t113 => (merkhetref27_Of.l1 k x3 (([] : List (S44))) t113 0))
def merkhetref27_Of.l1 : Nat → List (S37) → List (S44) → List ByteArray → Int → Option ((List (S44)))
  | 0, _, _, _, _ => none
  | k + 1, x3, x5, x6, x7 => if x7 < (x6.length : Int) then (if 0 ≤ x7 then (merkhetref27_Of.l2 k x3 x5 x6 x7 0 (rdOf ByteArray.empty x6 x7) 0 0 0 0) else (none)) else (some x5)
def merkhetref27_Of.l2 : Nat → List (S37) → List (S44) → List ByteArray → Int → Int → ByteArray → Int → Int → Int → Int → Option ((List (S44)))
  | 0, _, _, _, _, _, _, _, _, _, _ => none
  | k + 1, x3, x5, x6, x7, x9, x118000, x118001, x118002, x118003, x118004 => if x9 < (x3.length : Int) then (if 0 ≤ x9 then (if 0 ≤ x7 then (if x7 < (x6.length : Int) then (if ((rd_T37 x3 x9).f4).toList = (rdOf ByteArray.empty x6 x7).toList then (if x118002 > (wrap64 (9223372036854775807 - ((rd_T37 x3 x9).f7))) then (merkhetref27_Of.j3 k x3 x5 x6 x7 x9 x118000 (wrap64 (x118001 + 1)) 9223372036854775807 x118003 x118004 ((rd_T37 x3 x9).f0) ((rd_T37 x3 x9).f1) ((rd_T37 x3 x9).f2) ((rd_T37 x3 x9).f3) ((rd_T37 x3 x9).f4) ((rd_T37 x3 x9).f5) ((rd_T37 x3 x9).f6) ((rd_T37 x3 x9).f7)) else (merkhetref27_Of.j3 k x3 x5 x6 x7 x9 x118000 (wrap64 (x118001 + 1)) (wrap64 (x118002 + ((rd_T37 x3 x9).f7))) x118003 x118004 ((rd_T37 x3 x9).f0) ((rd_T37 x3 x9).f1) ((rd_T37 x3 x9).f2) ((rd_T37 x3 x9).f3) ((rd_T37 x3 x9).f4) ((rd_T37 x3 x9).f5) ((rd_T37 x3 x9).f6) ((rd_T37 x3 x9).f7))) else (merkhetref27_Of.l2 k x3 x5 x6 x7 (wrap64 (x9 + 1)) x118000 x118001 x118002 x118003 x118004)) else (none)) else (none)) else (none)) else (if x5.length < 2932031007402 then (merkhetref27_Of.l1 k x3 (x5 ++ [(⟨x118000, x118001, x118002, x118003, x118004⟩ : S44)]) x6 (wrap64 (x7 + 1))) else (none))
def merkhetref27_Of.j3 : Nat → List (S37) → List (S44) → List ByteArray → Int → Int → ByteArray → Int → Int → Int → Int → Int → Int → Int → Int → ByteArray → ByteArray → Int → Int → Option ((List (S44)))
  | 0, _, _, _, _, _, _, _, _, _, _, _, _, _, _, _, _, _, _ => none
  | k + 1, x3, x5, x6, x7, x9, x118000, x118001, x118002, x118003, x118004, x123000, x123001, x123002, x123003, x123004, x123005, x123006, x123007 => if x123003 = 1 then (if x123003 = 2 then (merkhetref27_Of.l2 k x3 x5 x6 x7 (wrap64 (x9 + 1)) x118000 x118001 x118002 (wrap64 (x118003 + 1)) (wrap64 (x118004 + 1))) else (merkhetref27_Of.l2 k x3 x5 x6 x7 (wrap64 (x9 + 1)) x118000 x118001 x118002 (wrap64 (x118003 + 1)) x118004)) else (if x123003 = 2 then (merkhetref27_Of.l2 k x3 x5 x6 x7 (wrap64 (x9 + 1)) x118000 x118001 x118002 x118003 (wrap64 (x118004 + 1))) else (merkhetref27_Of.l2 k x3 x5 x6 x7 (wrap64 (x9 + 1)) x118000 x118001 x118002 x118003 x118004))
end
def merkhetref27_Of.f (k : Nat) (l0 : List (S37)) : Option ((List (S44))) := merkhetref27_Of.l0 k l0 (([] : List (S37))) 0
theorem merkhetref27_Of.mono_l : ∀ k, (∀ y0 y1 y2, LeO (merkhetref27_Of.l0 k y0 y1 y2) (merkhetref27_Of.l0 (k + 1) y0 y1 y2)) ∧ (∀ y0 y1 y2 y3, LeO (merkhetref27_Of.l1 k y0 y1 y2 y3) (merkhetref27_Of.l1 (k + 1) y0 y1 y2 y3)) ∧ (∀ y0 y1 y2 y3 y4 y5 y6 y7 y8 y9, LeO (merkhetref27_Of.l2 k y0 y1 y2 y3 y4 y5 y6 y7 y8 y9) (merkhetref27_Of.l2 (k + 1) y0 y1 y2 y3 y4 y5 y6 y7 y8 y9)) ∧ (∀ y0 y1 y2 y3 y4 y5 y6 y7 y8 y9 y10 y11 y12 y13 y14 y15 y16 y17, LeO (merkhetref27_Of.j3 k y0 y1 y2 y3 y4 y5 y6 y7 y8 y9 y10 y11 y12 y13 y14 y15 y16 y17) (merkhetref27_Of.j3 (k + 1) y0 y1 y2 y3 y4 y5 y6 y7 y8 y9 y10 y11 y12 y13 y14 y15 y16 y17))
  | 0 => ⟨fun _ _ _ r h => by simp [merkhetref27_Of.l0] at h, fun _ _ _ _ r h => by simp [merkhetref27_Of.l1] at h, fun _ _ _ _ _ _ _ _ _ _ r h => by simp [merkhetref27_Of.l2] at h, fun _ _ _ _ _ _ _ _ _ _ _ _ _ _ _ _ _ _ r h => by simp [merkhetref27_Of.j3] at h⟩
  | k + 1 => by
    obtain ⟨ih0, ih1, ih2, ih3⟩ := merkhetref27_Of.mono_l k
    refine ⟨?_, ?_, ?_, ?_⟩
    · intro y0 y1 y2
      unfold merkhetref27_Of.l0
      repeat' first
      | (with_reducible exact ih0 _ _ _)
      | (with_reducible exact ih1 _ _ _ _)
      | (with_reducible exact ih2 _ _ _ _ _ _ _ _ _ _)
      | (with_reducible exact ih3 _ _ _ _ _ _ _ _ _ _ _ _ _ _ _ _ _ _)
      | (with_reducible exact merkhetref01_May.mono _ _ _ _ _ _ _ _ _)
      | (with_reducible exact merkhetref09_Hosts.mono _ _)
      | (with_reducible exact LeO.refl _)
      | (with_reducible exact LeO.none _)
      | (with_reducible refine LeO.ite ?_ ?_)
      | (with_reducible refine LeO.bind ?_ (fun _ => ?_))
      | exact ih0 _ _ _
      | exact ih1 _ _ _ _
      | exact ih2 _ _ _ _ _ _ _ _ _ _
      | exact ih3 _ _ _ _ _ _ _ _ _ _ _ _ _ _ _ _ _ _
      | exact merkhetref01_May.mono _ _ _ _ _ _ _ _ _
      | exact merkhetref09_Hosts.mono _ _
      | exact LeO.none _
      | refine LeO.ite ?_ ?_
      | refine LeO.bind ?_ (fun _ => ?_)
    · intro y0 y1 y2 y3
      unfold merkhetref27_Of.l1
      repeat' first
      | (with_reducible exact ih0 _ _ _)
      | (with_reducible exact ih1 _ _ _ _)
      | (with_reducible exact ih2 _ _ _ _ _ _ _ _ _ _)
      | (with_reducible exact ih3 _ _ _ _ _ _ _ _ _ _ _ _ _ _ _ _ _ _)
      | (with_reducible exact merkhetref01_May.mono _ _ _ _ _ _ _ _ _)
      | (with_reducible exact merkhetref09_Hosts.mono _ _)
      | (with_reducible exact LeO.refl _)
      | (with_reducible exact LeO.none _)
      | (with_reducible refine LeO.ite ?_ ?_)
      | (with_reducible refine LeO.bind ?_ (fun _ => ?_))
      | exact ih0 _ _ _
      | exact ih1 _ _ _ _
      | exact ih2 _ _ _ _ _ _ _ _ _ _
      | exact ih3 _ _ _ _ _ _ _ _ _ _ _ _ _ _ _ _ _ _
      | exact merkhetref01_May.mono _ _ _ _ _ _ _ _ _
      | exact merkhetref09_Hosts.mono _ _
      | exact LeO.none _
      | refine LeO.ite ?_ ?_
      | refine LeO.bind ?_ (fun _ => ?_)
    · intro y0 y1 y2 y3 y4 y5 y6 y7 y8 y9
      unfold merkhetref27_Of.l2
      repeat' first
      | (with_reducible exact ih0 _ _ _)
      | (with_reducible exact ih1 _ _ _ _)
      | (with_reducible exact ih2 _ _ _ _ _ _ _ _ _ _)
      | (with_reducible exact ih3 _ _ _ _ _ _ _ _ _ _ _ _ _ _ _ _ _ _)
      | (with_reducible exact merkhetref01_May.mono _ _ _ _ _ _ _ _ _)
      | (with_reducible exact merkhetref09_Hosts.mono _ _)
      | (with_reducible exact LeO.refl _)
      | (with_reducible exact LeO.none _)
      | (with_reducible refine LeO.ite ?_ ?_)
      | (with_reducible refine LeO.bind ?_ (fun _ => ?_))
      | exact ih0 _ _ _
      | exact ih1 _ _ _ _
      | exact ih2 _ _ _ _ _ _ _ _ _ _
      | exact ih3 _ _ _ _ _ _ _ _ _ _ _ _ _ _ _ _ _ _
      | exact merkhetref01_May.mono _ _ _ _ _ _ _ _ _
      | exact merkhetref09_Hosts.mono _ _
      | exact LeO.none _
      | refine LeO.ite ?_ ?_
      | refine LeO.bind ?_ (fun _ => ?_)
    · intro y0 y1 y2 y3 y4 y5 y6 y7 y8 y9 y10 y11 y12 y13 y14 y15 y16 y17
      unfold merkhetref27_Of.j3
      repeat' first
      | (with_reducible exact ih0 _ _ _)
      | (with_reducible exact ih1 _ _ _ _)
      | (with_reducible exact ih2 _ _ _ _ _ _ _ _ _ _)
      | (with_reducible exact ih3 _ _ _ _ _ _ _ _ _ _ _ _ _ _ _ _ _ _)
      | (with_reducible exact merkhetref01_May.mono _ _ _ _ _ _ _ _ _)
      | (with_reducible exact merkhetref09_Hosts.mono _ _)
      | (with_reducible exact LeO.refl _)
      | (with_reducible exact LeO.none _)
      | (with_reducible refine LeO.ite ?_ ?_)
      | (with_reducible refine LeO.bind ?_ (fun _ => ?_))
      | exact ih0 _ _ _
      | exact ih1 _ _ _ _
      | exact ih2 _ _ _ _ _ _ _ _ _ _
      | exact ih3 _ _ _ _ _ _ _ _ _ _ _ _ _ _ _ _ _ _
      | exact merkhetref01_May.mono _ _ _ _ _ _ _ _ _
      | exact merkhetref09_Hosts.mono _ _
      | exact LeO.none _
      | refine LeO.ite ?_ ?_
      | refine LeO.bind ?_ (fun _ => ?_)
theorem merkhetref27_Of.mono : ∀ a0 k, LeO (merkhetref27_Of.f k a0) (merkhetref27_Of.f (k + 1) a0) := by
  intro a0 k
  obtain ⟨ih0, ih1, ih2, ih3⟩ := merkhetref27_Of.mono_l k
  unfold merkhetref27_Of.f
  repeat' first
      | (with_reducible exact ih0 _ _ _)
      | (with_reducible exact ih1 _ _ _ _)
      | (with_reducible exact ih2 _ _ _ _ _ _ _ _ _ _)
      | (with_reducible exact ih3 _ _ _ _ _ _ _ _ _ _ _ _ _ _ _ _ _ _)
      | (with_reducible exact merkhetref01_May.mono _ _ _ _ _ _ _ _ _)
      | (with_reducible exact merkhetref09_Hosts.mono _ _)
      | (with_reducible exact LeO.refl _)
      | (with_reducible exact LeO.none _)
      | (with_reducible refine LeO.ite ?_ ?_)
      | (with_reducible refine LeO.bind ?_ (fun _ => ?_))
      | exact ih0 _ _ _
      | exact ih1 _ _ _ _
      | exact ih2 _ _ _ _ _ _ _ _ _ _
      | exact ih3 _ _ _ _ _ _ _ _ _ _ _ _ _ _ _ _ _ _
      | exact merkhetref01_May.mono _ _ _ _ _ _ _ _ _
      | exact merkhetref09_Hosts.mono _ _
      | exact LeO.none _
      | refine LeO.ite ?_ ?_
      | refine LeO.bind ?_ (fun _ => ?_)
set_option maxHeartbeats 8000000 in
set_option maxRecDepth 100000 in
theorem merkhetref27_Of.calls (k : Nat) (A0 : Option Addr) (c0 : Nat) (l0 : List (S37)) (r : List (S44)) (w : World) (hr0 : Kd.C k37 w A0 l0.length l0) (hc0 : l0.length ≤ c0) (h : merkhetref27_Of.f k l0 = some r) :
    Calls Try.prog 22 #[.slice A0 l0.length c0] w fun e w' => ∃ v0_ : Value, e = .returned (v0_) ∧ Kd.R k44 44 w' w.heap.size (fun _ => True) v0_ r ∧ Below w.heap.size w w' := by
  have hu37 := Try.underlying37
  have hu44 := Try.underlying44
  have HR0 := Aside0.mk hr0
  have HC0 := Aside0.mk hc0
  clear hr0 hc0
  have HB := Aside0.mk (Below.refl w.heap.size w)
  have H : (merkhetref27_Of.l0 k l0 (([] : List (S37))) 0) = some r := h
  clear h
  obtain ⟨y101, hy101⟩ : ∃ y_ : List (S37), y_ = (([] : List (S37))) := ⟨_, rfl⟩
  replace H : (merkhetref27_Of.l0 k l0 y101 0) = some r := by first | (rw [hy101]; with_reducible exact H) | (have H2_ := (Option.bind_some _ _).symm.trans H; rw [hy101]; with_reducible exact H2_) | (have H2_ := (Option.bind_some _ _).symm.trans H; with_reducible exact H2_) | with_reducible exact H | (rw [hy101]; exact H) | exact H
  have Ny101 := Aside0.mk hy101
  clear hy101
  have H' := Aside0.mk H
  clear H
  go_enter Try.func22, Try.ntmps22
  go_wp2_with (first | ((with_reducible refine gate_dst (N := 11) rfl ?_); refine Kd.R_lit k37 _ 37 ?hg (N := 11) ?hd (xs := ([] : List (S37))) (inner := []) (ok := fun _ => True) (okp := fun _ => True) ?hr ?hp (fun _ hk => hk) trivial (Below.refl _ _) (Nat.le_refl _) (by simp) ?_; (case hd => rfl); (case hg => rfl); (case hr => first | (go_simp; done) | (go_simp; rfl)); (case hp => exact (Reps.none _ _)); intro v102 w2 ho3 hb hg_ hnew_; clear hg_ hnew_; (first | rw [← Ny101.out] at ho3 | (simp only [Int.reduceToNat] at ho3; rw [← Ny101.out] at ho3)); have n0_ := Aside0.mk (Kd.R_lower ho3 (below_size (by repeat (first | (with_reducible first | exact HB.out | apply below_alloc | apply pw_below_drewN | apply below_drew1) | exact HB.out)))); have n1_ := Aside0.mk (below_step (by repeat (first | (with_reducible first | exact HB.out | apply below_alloc | apply pw_below_drewN | apply below_drew1) | exact HB.out)) hb); clear HB; have HO103 := n0_; have HB := n1_; clear n0_ n1_; clear hb ho3))
  repeat (go_quiet (first | ((with_reducible refine gate_dst (N := 11) rfl ?_); refine Kd.R_lit k37 _ 37 ?hg (N := 11) ?hd (xs := ([] : List (S37))) (inner := []) (ok := fun _ => True) (okp := fun _ => True) ?hr ?hp (fun _ hk => hk) trivial (Below.refl _ _) (Nat.le_refl _) (by simp) ?_; (case hd => rfl); (case hg => rfl); (case hr => first | (go_simp; done) | (go_simp; rfl)); (case hp => exact (Reps.none _ _)); intro v102 w2 ho3 hb hg_ hnew_; clear hg_ hnew_; (first | rw [← Ny101.out] at ho3 | (simp only [Int.reduceToNat] at ho3; rw [← Ny101.out] at ho3)); have n0_ := Aside0.mk (Kd.R_lower ho3 (below_size (by repeat (first | (with_reducible first | exact HB.out | apply below_alloc | apply pw_below_drewN | apply below_drew1) | exact HB.out)))); have n1_ := Aside0.mk (below_step (by repeat (first | (with_reducible first | exact HB.out | apply below_alloc | apply pw_below_drewN | apply below_drew1) | exact HB.out)) hb); clear HB; have HO103 := n0_; have HB := n1_; clear n0_ n1_; clear hb ho3)); try go_wp2_with (first | ((with_reducible refine gate_dst (N := 11) rfl ?_); refine Kd.R_lit k37 _ 37 ?hg (N := 11) ?hd (xs := ([] : List (S37))) (inner := []) (ok := fun _ => True) (okp := fun _ => True) ?hr ?hp (fun _ hk => hk) trivial (Below.refl _ _) (Nat.le_refl _) (by simp) ?_; (case hd => rfl); (case hg => rfl); (case hr => first | (go_simp; done) | (go_simp; rfl)); (case hp => exact (Reps.none _ _)); intro v102 w2 ho3 hb hg_ hnew_; clear hg_ hnew_; (first | rw [← Ny101.out] at ho3 | (simp only [Int.reduceToNat] at ho3; rw [← Ny101.out] at ho3)); have n0_ := Aside0.mk (Kd.R_lower ho3 (below_size (by repeat (first | (with_reducible first | exact HB.out | apply below_alloc | apply pw_below_drewN | apply below_drew1) | exact HB.out)))); have n1_ := Aside0.mk (below_step (by repeat (first | (with_reducible first | exact HB.out | apply below_alloc | apply pw_below_drewN | apply below_drew1) | exact HB.out)) hb); clear HB; have HO103 := n0_; have HB := n1_; clear n0_ n1_; clear hb ho3)))
  go_loopg [3, 4] k (fun kq v3 v4 w' => ∃ (x3_1 : List (S37)) (x4_1 : Int), v4 = .int .i64 x4_1 ∧ Aside0 (merkhetref27_Of.l0 kq l0 x3_1 x4_1 = some r) ∧ Aside0 (kq ≤ k) ∧ Aside0 (Kd.R k37 37 w' w.heap.size (fun _ => True) v3 x3_1) ∧ Aside0 (Below w.heap.size w w'))
  case atStart => exact ⟨(y101), (0), (by first | rfl | (simp; done) | (simp [*]; done)), H', ⟨Nat.le_refl _⟩, ⟨by (with_reducible repeat (first | apply Kd.R_alloc | apply Kd.R_drewN | apply Kd.R_drew)); exact HO103.out⟩, ⟨by repeat (first | (with_reducible first | exact HB.out | apply below_alloc | apply pw_below_drewN | apply below_drew1) | exact HB.out)⟩⟩
  case round =>
    clear H'
    (try clear c2); (try clear p2)
    obtain ⟨x3_1, x4_1, rfl, HA, HK1, HO_3, HB⟩ := hrel
    cases gk with
    | zero => exact absurd HA.out (by simp [merkhetref27_Of.l0])
    | succ k1 =>
      have H := HA.out
      clear HA
      simp only [merkhetref27_Of.l0] at H
      by_cases c4 : x4_1 < (l0.length : Int)
      · rw [if_pos c4] at H
        have c4b0 : decide (x4_1 < (l0.length : Int)) = true := decide_eq_true c4
        clear c4
        by_cases c5 : 0 ≤ x4_1
        · rw [if_pos c5] at H
          have c5b0 : decide (0 ≤ x4_1) = true := decide_eq_true c5
          clear c5
          replace H := Option.bind_eq_some_iff.mp H
          obtain ⟨t105, A60, H⟩ := H
          replace H : (if t105 = true then (if x3_1.length < 1759218604441 then (merkhetref27_Of.l0 k1 l0 (x3_1 ++ [(⟨(rd_T37 l0 x4_1).f0, (rd_T37 l0 x4_1).f1, (rd_T37 l0 x4_1).f2, (rd_T37 l0 x4_1).f3, (rd_T37 l0 x4_1).f4, (rd_T37 l0 x4_1).f5, (rd_T37 l0 x4_1).f6, (rd_T37 l0 x4_1).f7⟩ : S37)]) (wrap64 (x4_1 + 1))) else (none)) else (merkhetref27_Of.l0 k1 l0 x3_1 (wrap64 (x4_1 + 1)))) = some r := H
          have A6 := Aside0.mk A60
          clear A60
          by_cases c7 : t105 = true
          · subst c7
            have H1 : (if x3_1.length < 1759218604441 then (merkhetref27_Of.l0 k1 l0 (x3_1 ++ [(⟨(rd_T37 l0 x4_1).f0, (rd_T37 l0 x4_1).f1, (rd_T37 l0 x4_1).f2, (rd_T37 l0 x4_1).f3, (rd_T37 l0 x4_1).f4, (rd_T37 l0 x4_1).f5, (rd_T37 l0 x4_1).f6, (rd_T37 l0 x4_1).f7⟩ : S37)]) (wrap64 (x4_1 + 1))) else (none)) = some r := by rw [if_pos rfl] at H; exact H
            clear H
            have H := H1
            clear H1
            by_cases c8 : x3_1.length < 1759218604441
            · rw [if_pos c8] at H
              have LMc8 := Aside0.mk c8
              clear c8
              obtain ⟨y107, hy107⟩ : ∃ y_ : List (S37), y_ = (x3_1 ++ [(⟨(rd_T37 l0 x4_1).f0, (rd_T37 l0 x4_1).f1, (rd_T37 l0 x4_1).f2, (rd_T37 l0 x4_1).f3, (rd_T37 l0 x4_1).f4, (rd_T37 l0 x4_1).f5, (rd_T37 l0 x4_1).f6, (rd_T37 l0 x4_1).f7⟩ : S37)]) := ⟨_, rfl⟩
              replace H : (merkhetref27_Of.l0 k1 l0 y107 (wrap64 (x4_1 + 1))) = some r := by first | (rw [hy107]; with_reducible exact H) | (have H2_ := (Option.bind_some _ _).symm.trans H; rw [hy107]; with_reducible exact H2_) | (have H2_ := (Option.bind_some _ _).symm.trans H; with_reducible exact H2_) | with_reducible exact H | (rw [hy107]; exact H) | exact H
              have Ny107 := Aside0.mk hy107
              clear hy107
              have H' := Aside0.mk H
              clear H
              have p104 : 0 ≤ (x4_1 : Int) := of_decide_eq_true (by first | (with_reducible assumption) | assumption)
              have q104 : x4_1 < (l0.length : Int) := of_decide_eq_true (by first | (with_reducible assumption) | assumption)
              obtain ⟨ad104, e104, hx104_0, hx104_1, hx104_2, hx104_3, hx104_4, hx104_5, hx104_6, hx104_7⟩ := at_T37 HR0.out x4_1 p104 q104
              cases e104
              replace hx104_0 := (HB.out.cell (World.block_lt_of_cell? w _ hx104_0)).trans hx104_0
              replace hx104_1 := (HB.out.cell (World.block_lt_of_cell? w _ hx104_1)).trans hx104_1
              replace hx104_2 := (HB.out.cell (World.block_lt_of_cell? w _ hx104_2)).trans hx104_2
              replace hx104_3 := (HB.out.cell (World.block_lt_of_cell? w _ hx104_3)).trans hx104_3
              replace hx104_4 := (HB.out.cell (World.block_lt_of_cell? w _ hx104_4)).trans hx104_4
              replace hx104_5 := (HB.out.cell (World.block_lt_of_cell? w _ hx104_5)).trans hx104_5
              replace hx104_6 := (HB.out.cell (World.block_lt_of_cell? w _ hx104_6)).trans hx104_6
              replace hx104_7 := (HB.out.cell (World.block_lt_of_cell? w _ hx104_7)).trans hx104_7
              replace p104 := eq_true p104
              replace q104 := eq_true q104
              go_wp2_with (first | (go_at_call 50; (with_reducible refine (merkhetref01_May.calls k1 ((rd_T37 l0 x4_1).f0) ((rd_T37 l0 x4_1).f1) ((rd_T37 l0 x4_1).f2) ((rd_T37 l0 x4_1).f3) ((rd_T37 l0 x4_1).f4) ((rd_T37 l0 x4_1).f5) ((rd_T37 l0 x4_1).f6) ((rd_T37 l0 x4_1).f7) true _ A6.out).mono ?_); rintro e w9 ⟨rfl, hb⟩; have n0_ := Aside0.mk (Kd.R_below (by (with_reducible repeat (first | apply Kd.R_alloc | apply Kd.R_drewN | apply Kd.R_drew)); exact HO_3.out) hb); have n1_ := Aside0.mk (below_step (by repeat (first | (with_reducible first | exact HB.out | apply below_alloc | apply pw_below_drewN | apply below_drew1) | exact HB.out)) hb); clear HO_3; clear HB; have HO_3 := n0_; have HB := n1_; clear n0_ n1_; (try clear hb); (try clear hb2); (try clear hk); (try clear hi); have p106 : 0 ≤ (x4_1 : Int) := of_decide_eq_true (by first | (with_reducible assumption) | assumption); have q106 : x4_1 < (l0.length : Int) := of_decide_eq_true (by first | (with_reducible assumption) | assumption); obtain ⟨ad106, e106, hx106_0, hx106_1, hx106_2, hx106_3, hx106_4, hx106_5, hx106_6, hx106_7⟩ := at_T37 HR0.out x4_1 p106 q106; obtain rfl : ad104 = ad106 := (by injection e106); replace hx106_0 := (HB.out.cell (World.block_lt_of_cell? w _ hx106_0)).trans hx106_0; replace hx106_1 := (HB.out.cell (World.block_lt_of_cell? w _ hx106_1)).trans hx106_1; replace hx106_2 := (HB.out.cell (World.block_lt_of_cell? w _ hx106_2)).trans hx106_2; replace hx106_3 := (HB.out.cell (World.block_lt_of_cell? w _ hx106_3)).trans hx106_3; replace hx106_4 := (HB.out.cell (World.block_lt_of_cell? w _ hx106_4)).trans hx106_4; replace hx106_5 := (HB.out.cell (World.block_lt_of_cell? w _ hx106_5)).trans hx106_5; replace hx106_6 := (HB.out.cell (World.block_lt_of_cell? w _ hx106_6)).trans hx106_6; replace hx106_7 := (HB.out.cell (World.block_lt_of_cell? w _ hx106_7)).trans hx106_7; replace p106 := eq_true p106; replace q106 := eq_true q106) | ((with_reducible refine gate_builtin (b := .append) (xs := #[.tmp 23, .tmp 28]) rfl ?_); at_builtin; refine Kd.R_append k37 (w0 := w) w.heap.size rfl (.tmp 23) (.tmp 28) 28 37 (.agg #[(.int .u64 0), (.int .u64 0), (.int .u64 0), (.int .u8 0), (.string ⟨#[]⟩), (.string ⟨#[]⟩), (.int .i64 0), (.int .i64 0)]) 80 rfl Try.underlying28 info37 rfl (by decide) (by omega) u3 x3_1 (⟨(rd_T37 l0 x4_1).f0, (rd_T37 l0 x4_1).f1, (rd_T37 l0 x4_1).f2, (rd_T37 l0 x4_1).f3, (rd_T37 l0 x4_1).f4, (rd_T37 l0 x4_1).f5, (rd_T37 l0 x4_1).f6, (rd_T37 l0 x4_1).f7⟩ : S37) [.int .u64 ((rd_T37 l0 x4_1).f0), .int .u64 ((rd_T37 l0 x4_1).f1), .int .u64 ((rd_T37 l0 x4_1).f2), .int .u8 ((rd_T37 l0 x4_1).f3), .string ((rd_T37 l0 x4_1).f4), .string ((rd_T37 l0 x4_1).f5), .int .i64 ((rd_T37 l0 x4_1).f6), .int .i64 ((rd_T37 l0 x4_1).f7)] (fun _ => True) (fun _ => False) rfl rfl ?aP (fun _ hk => hk.elim) ?aF ?aO ?aB ?aS ?aL ?_; (case aP => exact k37_mkM _ _ _ (⟨(rd_T37 l0 x4_1).f0, (rd_T37 l0 x4_1).f1, (rd_T37 l0 x4_1).f2, (rd_T37 l0 x4_1).f3, (rd_T37 l0 x4_1).f4, (rd_T37 l0 x4_1).f5, (rd_T37 l0 x4_1).f6, (rd_T37 l0 x4_1).f7⟩ : S37)); (case aB => exact (by repeat (first | (with_reducible first | exact HB.out | apply below_alloc | apply pw_below_drewN | apply below_drew1) | exact HB.out))); (case aF => exact (fun _ _ => trivial)); (case aO => exact (by (with_reducible repeat (first | apply Kd.R_alloc | apply Kd.R_drewN | apply Kd.R_drew)); exact HO_3.out)); (case aS => exact (below_size (by repeat (first | (with_reducible first | exact HB.out | apply below_alloc | apply pw_below_drewN | apply below_drew1) | exact HB.out)))); (case aL => have := LMc8.out; omega); intro v108 w10 ho hb hg hat; rw [← Ny107.out] at ho; have n0_ := Aside0.mk (hb); have n1_ := Aside0.mk (ho); clear HB; clear HO_3; have HB := n0_; have HO109 := n1_; clear n0_ n1_; clear ho hb hg hat))
              repeat (go_quiet (first | (go_at_call 50; (with_reducible refine (merkhetref01_May.calls k1 ((rd_T37 l0 x4_1).f0) ((rd_T37 l0 x4_1).f1) ((rd_T37 l0 x4_1).f2) ((rd_T37 l0 x4_1).f3) ((rd_T37 l0 x4_1).f4) ((rd_T37 l0 x4_1).f5) ((rd_T37 l0 x4_1).f6) ((rd_T37 l0 x4_1).f7) true _ A6.out).mono ?_); rintro e w9 ⟨rfl, hb⟩; have n0_ := Aside0.mk (Kd.R_below (by (with_reducible repeat (first | apply Kd.R_alloc | apply Kd.R_drewN | apply Kd.R_drew)); exact HO_3.out) hb); have n1_ := Aside0.mk (below_step (by repeat (first | (with_reducible first | exact HB.out | apply below_alloc | apply pw_below_drewN | apply below_drew1) | exact HB.out)) hb); clear HO_3; clear HB; have HO_3 := n0_; have HB := n1_; clear n0_ n1_; (try clear hb); (try clear hb2); (try clear hk); (try clear hi); have p106 : 0 ≤ (x4_1 : Int) := of_decide_eq_true (by first | (with_reducible assumption) | assumption); have q106 : x4_1 < (l0.length : Int) := of_decide_eq_true (by first | (with_reducible assumption) | assumption); obtain ⟨ad106, e106, hx106_0, hx106_1, hx106_2, hx106_3, hx106_4, hx106_5, hx106_6, hx106_7⟩ := at_T37 HR0.out x4_1 p106 q106; obtain rfl : ad104 = ad106 := (by injection e106); replace hx106_0 := (HB.out.cell (World.block_lt_of_cell? w _ hx106_0)).trans hx106_0; replace hx106_1 := (HB.out.cell (World.block_lt_of_cell? w _ hx106_1)).trans hx106_1; replace hx106_2 := (HB.out.cell (World.block_lt_of_cell? w _ hx106_2)).trans hx106_2; replace hx106_3 := (HB.out.cell (World.block_lt_of_cell? w _ hx106_3)).trans hx106_3; replace hx106_4 := (HB.out.cell (World.block_lt_of_cell? w _ hx106_4)).trans hx106_4; replace hx106_5 := (HB.out.cell (World.block_lt_of_cell? w _ hx106_5)).trans hx106_5; replace hx106_6 := (HB.out.cell (World.block_lt_of_cell? w _ hx106_6)).trans hx106_6; replace hx106_7 := (HB.out.cell (World.block_lt_of_cell? w _ hx106_7)).trans hx106_7; replace p106 := eq_true p106; replace q106 := eq_true q106) | ((with_reducible refine gate_builtin (b := .append) (xs := #[.tmp 23, .tmp 28]) rfl ?_); at_builtin; refine Kd.R_append k37 (w0 := w) w.heap.size rfl (.tmp 23) (.tmp 28) 28 37 (.agg #[(.int .u64 0), (.int .u64 0), (.int .u64 0), (.int .u8 0), (.string ⟨#[]⟩), (.string ⟨#[]⟩), (.int .i64 0), (.int .i64 0)]) 80 rfl Try.underlying28 info37 rfl (by decide) (by omega) u3 x3_1 (⟨(rd_T37 l0 x4_1).f0, (rd_T37 l0 x4_1).f1, (rd_T37 l0 x4_1).f2, (rd_T37 l0 x4_1).f3, (rd_T37 l0 x4_1).f4, (rd_T37 l0 x4_1).f5, (rd_T37 l0 x4_1).f6, (rd_T37 l0 x4_1).f7⟩ : S37) [.int .u64 ((rd_T37 l0 x4_1).f0), .int .u64 ((rd_T37 l0 x4_1).f1), .int .u64 ((rd_T37 l0 x4_1).f2), .int .u8 ((rd_T37 l0 x4_1).f3), .string ((rd_T37 l0 x4_1).f4), .string ((rd_T37 l0 x4_1).f5), .int .i64 ((rd_T37 l0 x4_1).f6), .int .i64 ((rd_T37 l0 x4_1).f7)] (fun _ => True) (fun _ => False) rfl rfl ?aP (fun _ hk => hk.elim) ?aF ?aO ?aB ?aS ?aL ?_; (case aP => exact k37_mkM _ _ _ (⟨(rd_T37 l0 x4_1).f0, (rd_T37 l0 x4_1).f1, (rd_T37 l0 x4_1).f2, (rd_T37 l0 x4_1).f3, (rd_T37 l0 x4_1).f4, (rd_T37 l0 x4_1).f5, (rd_T37 l0 x4_1).f6, (rd_T37 l0 x4_1).f7⟩ : S37)); (case aB => exact (by repeat (first | (with_reducible first | exact HB.out | apply below_alloc | apply pw_below_drewN | apply below_drew1) | exact HB.out))); (case aF => exact (fun _ _ => trivial)); (case aO => exact (by (with_reducible repeat (first | apply Kd.R_alloc | apply Kd.R_drewN | apply Kd.R_drew)); exact HO_3.out)); (case aS => exact (below_size (by repeat (first | (with_reducible first | exact HB.out | apply below_alloc | apply pw_below_drewN | apply below_drew1) | exact HB.out)))); (case aL => have := LMc8.out; omega); intro v108 w10 ho hb hg hat; rw [← Ny107.out] at ho; have n0_ := Aside0.mk (hb); have n1_ := Aside0.mk (ho); clear HB; clear HO_3; have HB := n0_; have HO109 := n1_; clear n0_ n1_; clear ho hb hg hat)); try go_wp2_with (first | (go_at_call 50; (with_reducible refine (merkhetref01_May.calls k1 ((rd_T37 l0 x4_1).f0) ((rd_T37 l0 x4_1).f1) ((rd_T37 l0 x4_1).f2) ((rd_T37 l0 x4_1).f3) ((rd_T37 l0 x4_1).f4) ((rd_T37 l0 x4_1).f5) ((rd_T37 l0 x4_1).f6) ((rd_T37 l0 x4_1).f7) true _ A6.out).mono ?_); rintro e w9 ⟨rfl, hb⟩; have n0_ := Aside0.mk (Kd.R_below (by (with_reducible repeat (first | apply Kd.R_alloc | apply Kd.R_drewN | apply Kd.R_drew)); exact HO_3.out) hb); have n1_ := Aside0.mk (below_step (by repeat (first | (with_reducible first | exact HB.out | apply below_alloc | apply pw_below_drewN | apply below_drew1) | exact HB.out)) hb); clear HO_3; clear HB; have HO_3 := n0_; have HB := n1_; clear n0_ n1_; (try clear hb); (try clear hb2); (try clear hk); (try clear hi); have p106 : 0 ≤ (x4_1 : Int) := of_decide_eq_true (by first | (with_reducible assumption) | assumption); have q106 : x4_1 < (l0.length : Int) := of_decide_eq_true (by first | (with_reducible assumption) | assumption); obtain ⟨ad106, e106, hx106_0, hx106_1, hx106_2, hx106_3, hx106_4, hx106_5, hx106_6, hx106_7⟩ := at_T37 HR0.out x4_1 p106 q106; obtain rfl : ad104 = ad106 := (by injection e106); replace hx106_0 := (HB.out.cell (World.block_lt_of_cell? w _ hx106_0)).trans hx106_0; replace hx106_1 := (HB.out.cell (World.block_lt_of_cell? w _ hx106_1)).trans hx106_1; replace hx106_2 := (HB.out.cell (World.block_lt_of_cell? w _ hx106_2)).trans hx106_2; replace hx106_3 := (HB.out.cell (World.block_lt_of_cell? w _ hx106_3)).trans hx106_3; replace hx106_4 := (HB.out.cell (World.block_lt_of_cell? w _ hx106_4)).trans hx106_4; replace hx106_5 := (HB.out.cell (World.block_lt_of_cell? w _ hx106_5)).trans hx106_5; replace hx106_6 := (HB.out.cell (World.block_lt_of_cell? w _ hx106_6)).trans hx106_6; replace hx106_7 := (HB.out.cell (World.block_lt_of_cell? w _ hx106_7)).trans hx106_7; replace p106 := eq_true p106; replace q106 := eq_true q106) | ((with_reducible refine gate_builtin (b := .append) (xs := #[.tmp 23, .tmp 28]) rfl ?_); at_builtin; refine Kd.R_append k37 (w0 := w) w.heap.size rfl (.tmp 23) (.tmp 28) 28 37 (.agg #[(.int .u64 0), (.int .u64 0), (.int .u64 0), (.int .u8 0), (.string ⟨#[]⟩), (.string ⟨#[]⟩), (.int .i64 0), (.int .i64 0)]) 80 rfl Try.underlying28 info37 rfl (by decide) (by omega) u3 x3_1 (⟨(rd_T37 l0 x4_1).f0, (rd_T37 l0 x4_1).f1, (rd_T37 l0 x4_1).f2, (rd_T37 l0 x4_1).f3, (rd_T37 l0 x4_1).f4, (rd_T37 l0 x4_1).f5, (rd_T37 l0 x4_1).f6, (rd_T37 l0 x4_1).f7⟩ : S37) [.int .u64 ((rd_T37 l0 x4_1).f0), .int .u64 ((rd_T37 l0 x4_1).f1), .int .u64 ((rd_T37 l0 x4_1).f2), .int .u8 ((rd_T37 l0 x4_1).f3), .string ((rd_T37 l0 x4_1).f4), .string ((rd_T37 l0 x4_1).f5), .int .i64 ((rd_T37 l0 x4_1).f6), .int .i64 ((rd_T37 l0 x4_1).f7)] (fun _ => True) (fun _ => False) rfl rfl ?aP (fun _ hk => hk.elim) ?aF ?aO ?aB ?aS ?aL ?_; (case aP => exact k37_mkM _ _ _ (⟨(rd_T37 l0 x4_1).f0, (rd_T37 l0 x4_1).f1, (rd_T37 l0 x4_1).f2, (rd_T37 l0 x4_1).f3, (rd_T37 l0 x4_1).f4, (rd_T37 l0 x4_1).f5, (rd_T37 l0 x4_1).f6, (rd_T37 l0 x4_1).f7⟩ : S37)); (case aB => exact (by repeat (first | (with_reducible first | exact HB.out | apply below_alloc | apply pw_below_drewN | apply below_drew1) | exact HB.out))); (case aF => exact (fun _ _ => trivial)); (case aO => exact (by (with_reducible repeat (first | apply Kd.R_alloc | apply Kd.R_drewN | apply Kd.R_drew)); exact HO_3.out)); (case aS => exact (below_size (by repeat (first | (with_reducible first | exact HB.out | apply below_alloc | apply pw_below_drewN | apply below_drew1) | exact HB.out)))); (case aL => have := LMc8.out; omega); intro v108 w10 ho hb hg hat; rw [← Ny107.out] at ho; have n0_ := Aside0.mk (hb); have n1_ := Aside0.mk (ho); clear HB; clear HO_3; have HB := n0_; have HO109 := n1_; clear n0_ n1_; clear ho hb hg hat)))
              go_roundg k1
              case measure => have := HK1.out; omega
              case rel => exact ⟨(y107), (wrap64 (x4_1 + 1)), (by first | rfl | (simp; done) | (simp [*]; done)), H', ⟨by have := HK1.out; omega⟩, ⟨by (with_reducible repeat (first | apply Kd.R_alloc | apply Kd.R_drewN | apply Kd.R_drew)); exact HO109.out⟩, ⟨by repeat (first | (with_reducible first | exact HB.out | apply below_alloc | apply pw_below_drewN | apply below_drew1) | exact HB.out)⟩⟩
            · rw [if_neg c8] at H
              exact absurd H (by simp)
          · replace c7 := Bool.eq_false_iff.mpr c7
            subst c7
            have H1 : (merkhetref27_Of.l0 k1 l0 x3_1 (wrap64 (x4_1 + 1))) = some r := by rw [if_neg (show ¬ (false = true) by decide)] at H; exact H
            clear H
            have H := H1
            clear H1
            have H' := Aside0.mk H
            clear H
            have p104 : 0 ≤ (x4_1 : Int) := of_decide_eq_true (by first | (with_reducible assumption) | assumption)
            have q104 : x4_1 < (l0.length : Int) := of_decide_eq_true (by first | (with_reducible assumption) | assumption)
            obtain ⟨ad104, e104, hx104_0, hx104_1, hx104_2, hx104_3, hx104_4, hx104_5, hx104_6, hx104_7⟩ := at_T37 HR0.out x4_1 p104 q104
            cases e104
            replace hx104_0 := (HB.out.cell (World.block_lt_of_cell? w _ hx104_0)).trans hx104_0
            replace hx104_1 := (HB.out.cell (World.block_lt_of_cell? w _ hx104_1)).trans hx104_1
            replace hx104_2 := (HB.out.cell (World.block_lt_of_cell? w _ hx104_2)).trans hx104_2
            replace hx104_3 := (HB.out.cell (World.block_lt_of_cell? w _ hx104_3)).trans hx104_3
            replace hx104_4 := (HB.out.cell (World.block_lt_of_cell? w _ hx104_4)).trans hx104_4
            replace hx104_5 := (HB.out.cell (World.block_lt_of_cell? w _ hx104_5)).trans hx104_5
            replace hx104_6 := (HB.out.cell (World.block_lt_of_cell? w _ hx104_6)).trans hx104_6
            replace hx104_7 := (HB.out.cell (World.block_lt_of_cell? w _ hx104_7)).trans hx104_7
            replace p104 := eq_true p104
            replace q104 := eq_true q104
            go_wp2_with (first | (go_at_call 50; (with_reducible refine (merkhetref01_May.calls k1 ((rd_T37 l0 x4_1).f0) ((rd_T37 l0 x4_1).f1) ((rd_T37 l0 x4_1).f2) ((rd_T37 l0 x4_1).f3) ((rd_T37 l0 x4_1).f4) ((rd_T37 l0 x4_1).f5) ((rd_T37 l0 x4_1).f6) ((rd_T37 l0 x4_1).f7) false _ A6.out).mono ?_); rintro e w11 ⟨rfl, hb⟩; have n0_ := Aside0.mk (Kd.R_below (by (with_reducible repeat (first | apply Kd.R_alloc | apply Kd.R_drewN | apply Kd.R_drew)); exact HO_3.out) hb); have n1_ := Aside0.mk (below_step (by repeat (first | (with_reducible first | exact HB.out | apply below_alloc | apply pw_below_drewN | apply below_drew1) | exact HB.out)) hb); clear HO_3; clear HB; have HO_3 := n0_; have HB := n1_; clear n0_ n1_; (try clear hb); (try clear hb2); (try clear hk); (try clear hi)))
            repeat (go_quiet (first | (go_at_call 50; (with_reducible refine (merkhetref01_May.calls k1 ((rd_T37 l0 x4_1).f0) ((rd_T37 l0 x4_1).f1) ((rd_T37 l0 x4_1).f2) ((rd_T37 l0 x4_1).f3) ((rd_T37 l0 x4_1).f4) ((rd_T37 l0 x4_1).f5) ((rd_T37 l0 x4_1).f6) ((rd_T37 l0 x4_1).f7) false _ A6.out).mono ?_); rintro e w11 ⟨rfl, hb⟩; have n0_ := Aside0.mk (Kd.R_below (by (with_reducible repeat (first | apply Kd.R_alloc | apply Kd.R_drewN | apply Kd.R_drew)); exact HO_3.out) hb); have n1_ := Aside0.mk (below_step (by repeat (first | (with_reducible first | exact HB.out | apply below_alloc | apply pw_below_drewN | apply below_drew1) | exact HB.out)) hb); clear HO_3; clear HB; have HO_3 := n0_; have HB := n1_; clear n0_ n1_; (try clear hb); (try clear hb2); (try clear hk); (try clear hi))); try go_wp2_with (first | (go_at_call 50; (with_reducible refine (merkhetref01_May.calls k1 ((rd_T37 l0 x4_1).f0) ((rd_T37 l0 x4_1).f1) ((rd_T37 l0 x4_1).f2) ((rd_T37 l0 x4_1).f3) ((rd_T37 l0 x4_1).f4) ((rd_T37 l0 x4_1).f5) ((rd_T37 l0 x4_1).f6) ((rd_T37 l0 x4_1).f7) false _ A6.out).mono ?_); rintro e w11 ⟨rfl, hb⟩; have n0_ := Aside0.mk (Kd.R_below (by (with_reducible repeat (first | apply Kd.R_alloc | apply Kd.R_drewN | apply Kd.R_drew)); exact HO_3.out) hb); have n1_ := Aside0.mk (below_step (by repeat (first | (with_reducible first | exact HB.out | apply below_alloc | apply pw_below_drewN | apply below_drew1) | exact HB.out)) hb); clear HO_3; clear HB; have HO_3 := n0_; have HB := n1_; clear n0_ n1_; (try clear hb); (try clear hb2); (try clear hk); (try clear hi))))
            go_roundg k1
            case measure => have := HK1.out; omega
            case rel => exact ⟨(x3_1), (wrap64 (x4_1 + 1)), (by first | rfl | (simp; done) | (simp [*]; done)), H', ⟨by have := HK1.out; omega⟩, ⟨by (with_reducible repeat (first | apply Kd.R_alloc | apply Kd.R_drewN | apply Kd.R_drew)); exact HO_3.out⟩, ⟨by repeat (first | (with_reducible first | exact HB.out | apply below_alloc | apply pw_below_drewN | apply below_drew1) | exact HB.out)⟩⟩
        · rw [if_neg c5] at H
          exact absurd H (by simp)
      · rw [if_neg c4] at H
        have c4b0 : decide (x4_1 < (l0.length : Int)) = false := decide_eq_false c4
        clear c4
        obtain ⟨y110, hy110⟩ : ∃ y_ : List (S44), y_ = (([] : List (S44))) := ⟨_, rfl⟩
        replace H : ((merkhetref09_Hosts.f k1 x3_1).bind fun t113 => (merkhetref27_Of.l1 k1 x3_1 y110 t113 0)) = some r := by first | (rw [hy110]; with_reducible exact H) | (have H2_ := (Option.bind_some _ _).symm.trans H; rw [hy110]; with_reducible exact H2_) | (have H2_ := (Option.bind_some _ _).symm.trans H; with_reducible exact H2_) | with_reducible exact H | (rw [hy110]; exact H) | exact H
        have Ny110 := Aside0.mk hy110
        clear hy110
        replace H := Option.bind_eq_some_iff.mp H
        obtain ⟨t113, A120, H⟩ := H
        replace H : (merkhetref27_Of.l1 k1 x3_1 y110 t113 0) = some r := H
        have A12 := Aside0.mk A120
        clear A120
        have H' := Aside0.mk H
        clear H
        go_wp2_with (first | ((with_reducible refine gate_dst (N := 30) rfl ?_); refine Kd.R_lit k44 _ 44 ?hg (N := 30) ?hd (xs := ([] : List (S44))) (inner := []) (ok := fun _ => True) (okp := fun _ => True) ?hr ?hp (fun _ hk => hk) trivial (Below.refl _ _) (Nat.le_refl _) (by simp) ?_; (case hd => rfl); (case hg => rfl); (case hr => first | (go_simp; done) | (go_simp; rfl)); (case hp => exact (Reps.none _ _)); intro v111 w13 ho14 hb hg_ hnew_; clear hg_ hnew_; (first | rw [← Ny110.out] at ho14 | (simp only [Int.reduceToNat] at ho14; rw [← Ny110.out] at ho14)); have n0_ := Aside0.mk (Kd.R_below (by (with_reducible repeat (first | apply Kd.R_alloc | apply Kd.R_drewN | apply Kd.R_drew)); exact HO_3.out) hb); have n1_ := Aside0.mk (Kd.R_lower ho14 (below_size (by repeat (first | (with_reducible first | exact HB.out | apply below_alloc | apply pw_below_drewN | apply below_drew1) | exact HB.out)))); have n2_ := Aside0.mk (below_step (by repeat (first | (with_reducible first | exact HB.out | apply below_alloc | apply pw_below_drewN | apply below_drew1) | exact HB.out)) hb); clear HO_3; clear HB; have HO_3 := n0_; have HO112 := n1_; have HB := n2_; clear n0_ n1_ n2_; clear hb ho14; obtain ⟨Ao15, co15, eo15⟩ := Kd.R_slice HO_3.out; subst eo15) | (go_at_call 51; (with_reducible refine (merkhetref09_Hosts.calls k1 _ _ x3_1 t113 _ ?side1 ?side2 A12.out).mono ?_); (case side1 => repeat (first | exact (Kd.R_reads' HO_3.out).2.2 | (with_reducible refine Kd.C_alloc ?_ _) | (with_reducible refine Kd.C_drewN ?_ _) | (with_reducible refine Kd.C_drew ?_))); (case side2 => exact (Kd.R_reads' HO_3.out).2.1); rintro e w16 ⟨v114, rfl, ho0, hb⟩; have n0_ := Aside0.mk (Kd.R_below (by (with_reducible repeat (first | apply Kd.R_alloc | apply Kd.R_drewN | apply Kd.R_drew)); exact HO_3.out) hb); have n1_ := Aside0.mk (Kd.R_below (by (with_reducible repeat (first | apply Kd.R_alloc | apply Kd.R_drewN | apply Kd.R_drew)); exact HO112.out) hb); have n2_ := Aside0.mk (Kd.R_lower ho0 (below_size (by repeat (first | (with_reducible first | exact HB.out | apply below_alloc | apply pw_below_drewN | apply below_drew1) | exact HB.out)))); have n3_ := Aside0.mk (below_step (by repeat (first | (with_reducible first | exact HB.out | apply below_alloc | apply pw_below_drewN | apply below_drew1) | exact HB.out)) hb); clear HO_3; clear HO112; clear HB; have HO_3 := n0_; have HO112 := n1_; have HO115 := n2_; have HB := n3_; clear n0_ n1_ n2_ n3_; (try clear hb); (try clear hb2); (try clear hk); (try clear hi); (try clear ho0)))
        repeat (go_quiet (first | ((with_reducible refine gate_dst (N := 30) rfl ?_); refine Kd.R_lit k44 _ 44 ?hg (N := 30) ?hd (xs := ([] : List (S44))) (inner := []) (ok := fun _ => True) (okp := fun _ => True) ?hr ?hp (fun _ hk => hk) trivial (Below.refl _ _) (Nat.le_refl _) (by simp) ?_; (case hd => rfl); (case hg => rfl); (case hr => first | (go_simp; done) | (go_simp; rfl)); (case hp => exact (Reps.none _ _)); intro v111 w13 ho14 hb hg_ hnew_; clear hg_ hnew_; (first | rw [← Ny110.out] at ho14 | (simp only [Int.reduceToNat] at ho14; rw [← Ny110.out] at ho14)); have n0_ := Aside0.mk (Kd.R_below (by (with_reducible repeat (first | apply Kd.R_alloc | apply Kd.R_drewN | apply Kd.R_drew)); exact HO_3.out) hb); have n1_ := Aside0.mk (Kd.R_lower ho14 (below_size (by repeat (first | (with_reducible first | exact HB.out | apply below_alloc | apply pw_below_drewN | apply below_drew1) | exact HB.out)))); have n2_ := Aside0.mk (below_step (by repeat (first | (with_reducible first | exact HB.out | apply below_alloc | apply pw_below_drewN | apply below_drew1) | exact HB.out)) hb); clear HO_3; clear HB; have HO_3 := n0_; have HO112 := n1_; have HB := n2_; clear n0_ n1_ n2_; clear hb ho14; obtain ⟨Ao15, co15, eo15⟩ := Kd.R_slice HO_3.out; subst eo15) | (go_at_call 51; (with_reducible refine (merkhetref09_Hosts.calls k1 _ _ x3_1 t113 _ ?side1 ?side2 A12.out).mono ?_); (case side1 => repeat (first | exact (Kd.R_reads' HO_3.out).2.2 | (with_reducible refine Kd.C_alloc ?_ _) | (with_reducible refine Kd.C_drewN ?_ _) | (with_reducible refine Kd.C_drew ?_))); (case side2 => exact (Kd.R_reads' HO_3.out).2.1); rintro e w16 ⟨v114, rfl, ho0, hb⟩; have n0_ := Aside0.mk (Kd.R_below (by (with_reducible repeat (first | apply Kd.R_alloc | apply Kd.R_drewN | apply Kd.R_drew)); exact HO_3.out) hb); have n1_ := Aside0.mk (Kd.R_below (by (with_reducible repeat (first | apply Kd.R_alloc | apply Kd.R_drewN | apply Kd.R_drew)); exact HO112.out) hb); have n2_ := Aside0.mk (Kd.R_lower ho0 (below_size (by repeat (first | (with_reducible first | exact HB.out | apply below_alloc | apply pw_below_drewN | apply below_drew1) | exact HB.out)))); have n3_ := Aside0.mk (below_step (by repeat (first | (with_reducible first | exact HB.out | apply below_alloc | apply pw_below_drewN | apply below_drew1) | exact HB.out)) hb); clear HO_3; clear HO112; clear HB; have HO_3 := n0_; have HO112 := n1_; have HO115 := n2_; have HB := n3_; clear n0_ n1_ n2_ n3_; (try clear hb); (try clear hb2); (try clear hk); (try clear hi); (try clear ho0))); try go_wp2_with (first | ((with_reducible refine gate_dst (N := 30) rfl ?_); refine Kd.R_lit k44 _ 44 ?hg (N := 30) ?hd (xs := ([] : List (S44))) (inner := []) (ok := fun _ => True) (okp := fun _ => True) ?hr ?hp (fun _ hk => hk) trivial (Below.refl _ _) (Nat.le_refl _) (by simp) ?_; (case hd => rfl); (case hg => rfl); (case hr => first | (go_simp; done) | (go_simp; rfl)); (case hp => exact (Reps.none _ _)); intro v111 w13 ho14 hb hg_ hnew_; clear hg_ hnew_; (first | rw [← Ny110.out] at ho14 | (simp only [Int.reduceToNat] at ho14; rw [← Ny110.out] at ho14)); have n0_ := Aside0.mk (Kd.R_below (by (with_reducible repeat (first | apply Kd.R_alloc | apply Kd.R_drewN | apply Kd.R_drew)); exact HO_3.out) hb); have n1_ := Aside0.mk (Kd.R_lower ho14 (below_size (by repeat (first | (with_reducible first | exact HB.out | apply below_alloc | apply pw_below_drewN | apply below_drew1) | exact HB.out)))); have n2_ := Aside0.mk (below_step (by repeat (first | (with_reducible first | exact HB.out | apply below_alloc | apply pw_below_drewN | apply below_drew1) | exact HB.out)) hb); clear HO_3; clear HB; have HO_3 := n0_; have HO112 := n1_; have HB := n2_; clear n0_ n1_ n2_; clear hb ho14; obtain ⟨Ao15, co15, eo15⟩ := Kd.R_slice HO_3.out; subst eo15) | (go_at_call 51; (with_reducible refine (merkhetref09_Hosts.calls k1 _ _ x3_1 t113 _ ?side1 ?side2 A12.out).mono ?_); (case side1 => repeat (first | exact (Kd.R_reads' HO_3.out).2.2 | (with_reducible refine Kd.C_alloc ?_ _) | (with_reducible refine Kd.C_drewN ?_ _) | (with_reducible refine Kd.C_drew ?_))); (case side2 => exact (Kd.R_reads' HO_3.out).2.1); rintro e w16 ⟨v114, rfl, ho0, hb⟩; have n0_ := Aside0.mk (Kd.R_below (by (with_reducible repeat (first | apply Kd.R_alloc | apply Kd.R_drewN | apply Kd.R_drew)); exact HO_3.out) hb); have n1_ := Aside0.mk (Kd.R_below (by (with_reducible repeat (first | apply Kd.R_alloc | apply Kd.R_drewN | apply Kd.R_drew)); exact HO112.out) hb); have n2_ := Aside0.mk (Kd.R_lower ho0 (below_size (by repeat (first | (with_reducible first | exact HB.out | apply below_alloc | apply pw_below_drewN | apply below_drew1) | exact HB.out)))); have n3_ := Aside0.mk (below_step (by repeat (first | (with_reducible first | exact HB.out | apply below_alloc | apply pw_below_drewN | apply below_drew1) | exact HB.out)) hb); clear HO_3; clear HO112; clear HB; have HO_3 := n0_; have HO112 := n1_; have HO115 := n2_; have HB := n3_; clear n0_ n1_ n2_ n3_; (try clear hb); (try clear hb2); (try clear hk); (try clear hi); (try clear ho0))))
        go_loopg [5, 7] k1 (fun kq v5 v7 w' => ∃ (x5_2 : List (S44)) (x7_2 : Int), v7 = .int .i64 x7_2 ∧ Aside0 (merkhetref27_Of.l1 kq x3_1 x5_2 t113 x7_2 = some r) ∧ Aside0 (kq ≤ k1) ∧ Aside0 (Kd.R k37 37 w' w.heap.size (fun _ => True) (.slice Ao15 x3_1.length co15) x3_1) ∧ Aside0 (Kd.R k44 44 w' w.heap.size (fun _ => True) v5 x5_2) ∧ Aside0 (Kd.R Kd.string 9 w' w.heap.size (fun _ => True) v114 t113) ∧ Aside0 (Below w.heap.size w w'))
        case atStart => exact ⟨(y110), (0), (by first | rfl | (simp; done) | (simp [*]; done)), H', ⟨Nat.le_refl _⟩, ⟨by (with_reducible repeat (first | apply Kd.R_alloc | apply Kd.R_drewN | apply Kd.R_drew)); exact HO_3.out⟩, ⟨by (with_reducible repeat (first | apply Kd.R_alloc | apply Kd.R_drewN | apply Kd.R_drew)); exact HO112.out⟩, ⟨by (with_reducible repeat (first | apply Kd.R_alloc | apply Kd.R_drewN | apply Kd.R_drew)); exact HO115.out⟩, ⟨by repeat (first | (with_reducible first | exact HB.out | apply below_alloc | apply pw_below_drewN | apply below_drew1) | exact HB.out)⟩⟩
        case round =>
          clear H'
          (try clear p1); (try clear q1); (try clear hx1); (try clear c2); (try clear p2); (try clear c4); (try clear c4b0); (try clear c5); (try clear c5b0); (try clear p6); (try clear c7); (try clear c8); (try clear p10); (try clear q10); (try clear hx10); (try clear hx104_0); (try clear hx104_1); (try clear hx104_2); (try clear hx104_3); (try clear hx104_4); (try clear hx104_5); (try clear hx104_6); (try clear hx104_7); (try clear hx106_0); (try clear hx106_1); (try clear hx106_2); (try clear hx106_3); (try clear hx106_4); (try clear hx106_5); (try clear hx106_6); (try clear hx106_7); (try clear p104); (try clear p106); (try clear p2); (try clear q104); (try clear q106)
          obtain ⟨x5_2, x7_2, rfl, HA, HK2, HO_3, HO_5, HO_6, HB⟩ := hrel
          cases gk with
          | zero => exact absurd HA.out (by simp [merkhetref27_Of.l1])
          | succ k2 =>
            have H := HA.out
            clear HA
            simp only [merkhetref27_Of.l1] at H
            by_cases c17 : x7_2 < (t113.length : Int)
            · rw [if_pos c17] at H
              have c17b0 : decide (x7_2 < (t113.length : Int)) = true := decide_eq_true c17
              clear c17
              by_cases c18 : 0 ≤ x7_2
              · rw [if_pos c18] at H
                have c18b0 : decide (0 ≤ x7_2) = true := decide_eq_true c18
                clear c18
                have H' := Aside0.mk H
                clear H
                obtain ⟨Ao19, co19, eo19⟩ := Kd.R_slice HO_6.out
                subst eo19
                have p116 : 0 ≤ (x7_2 : Int) := of_decide_eq_true (by first | (with_reducible assumption) | assumption)
                have q116 : x7_2 < (t113.length : Int) := of_decide_eq_true (by first | (with_reducible assumption) | assumption)
                obtain ⟨ad116, e116, hx116_0⟩ := Kd.at_string (Kd.R_reads' HO_6.out).2.2 x7_2 p116 q116
                cases e116
                replace p116 := eq_true p116
                replace q116 := eq_true q116
                go_wp2_with (first | ((with_reducible refine gate_dst (N := 8) rfl ?_); refine box_event ?hg (N := 8) ?hd (cs := #[.string (⟨#[]⟩ : ByteArray), .int .i64 0, .int .i64 0, .int .i64 0, .int .i64 0]) (t := 44) ?hr ?_; (case hd => rfl); (case hg => rfl); (case hr => first | (go_simp; done) | (go_simp; rfl)); intro gb117 hg w20 hbox hb; have n0_ := Aside0.mk (Kd.R_below (by (with_reducible repeat (first | apply Kd.R_alloc | apply Kd.R_drewN | apply Kd.R_drew)); exact HO_3.out) hb); have n1_ := Aside0.mk (Kd.R_below (Kd.R_elderB (by (with_reducible repeat (first | apply Kd.R_alloc | apply Kd.R_drewN | apply Kd.R_drew)); exact HO_5.out) gb117 (Nat.le_of_eq hg.symm)) hb); have n2_ := Aside0.mk (Kd.R_below (by (with_reducible repeat (first | apply Kd.R_alloc | apply Kd.R_drewN | apply Kd.R_drew)); exact HO_6.out) hb); have n3_ := Aside0.mk (below_step (by repeat (first | (with_reducible first | exact HB.out | apply below_alloc | apply pw_below_drewN | apply below_drew1) | exact HB.out)) hb); have n4_ := Aside0.mk (hbox); have n5_ := Aside0.mk ((by rw [hg]; exact (below_size (by repeat (first | (with_reducible first | exact HB.out | apply below_alloc | apply pw_below_drewN | apply below_drew1) | exact HB.out))) : w.heap.size ≤ gb117)); have n6_ := Aside0.mk ((by rw [hg]; exact (below_size (by repeat (first | (with_reducible first | exact HB.out | apply below_alloc | apply pw_below_drewN | apply below_drew1) | exact HB.out))) : w.heap.size ≤ gb117)); clear HO_3; clear HO_5; clear HO_6; clear HB; have HO_3 := n0_; have HO_5 := n1_; have HO_6 := n2_; have HB := n3_; have BK117 := n4_; have GW117 := n5_; have GE117 := n6_; clear n0_ n1_ n2_ n3_ n4_ n5_ n6_; clear hb hbox hg; have hcz21_0 : w20.cell? ⟨gb117, 0, none⟩ = some (.string (⟨#[]⟩ : ByteArray)) := (blk_cell BK117.out 0).trans rfl; have hcz21_1 : w20.cell? ⟨gb117, 1, none⟩ = some (.int .i64 0) := (blk_cell BK117.out 1).trans rfl; have hcz21_2 : w20.cell? ⟨gb117, 2, none⟩ = some (.int .i64 0) := (blk_cell BK117.out 2).trans rfl; have hcz21_3 : w20.cell? ⟨gb117, 3, none⟩ = some (.int .i64 0) := (blk_cell BK117.out 3).trans rfl; have hcz21_4 : w20.cell? ⟨gb117, 4, none⟩ = some (.int .i64 0) := (blk_cell BK117.out 4).trans rfl; have hfz21_0 := blk_frozen BK117.out 0; have hfz21_1 := blk_frozen BK117.out 1; have hfz21_2 := blk_frozen BK117.out 2; have hfz21_3 := blk_frozen BK117.out 3; have hfz21_4 := blk_frozen BK117.out 4))
                repeat (go_quiet (first | ((with_reducible refine gate_dst (N := 8) rfl ?_); refine box_event ?hg (N := 8) ?hd (cs := #[.string (⟨#[]⟩ : ByteArray), .int .i64 0, .int .i64 0, .int .i64 0, .int .i64 0]) (t := 44) ?hr ?_; (case hd => rfl); (case hg => rfl); (case hr => first | (go_simp; done) | (go_simp; rfl)); intro gb117 hg w20 hbox hb; have n0_ := Aside0.mk (Kd.R_below (by (with_reducible repeat (first | apply Kd.R_alloc | apply Kd.R_drewN | apply Kd.R_drew)); exact HO_3.out) hb); have n1_ := Aside0.mk (Kd.R_below (Kd.R_elderB (by (with_reducible repeat (first | apply Kd.R_alloc | apply Kd.R_drewN | apply Kd.R_drew)); exact HO_5.out) gb117 (Nat.le_of_eq hg.symm)) hb); have n2_ := Aside0.mk (Kd.R_below (by (with_reducible repeat (first | apply Kd.R_alloc | apply Kd.R_drewN | apply Kd.R_drew)); exact HO_6.out) hb); have n3_ := Aside0.mk (below_step (by repeat (first | (with_reducible first | exact HB.out | apply below_alloc | apply pw_below_drewN | apply below_drew1) | exact HB.out)) hb); have n4_ := Aside0.mk (hbox); have n5_ := Aside0.mk ((by rw [hg]; exact (below_size (by repeat (first | (with_reducible first | exact HB.out | apply below_alloc | apply pw_below_drewN | apply below_drew1) | exact HB.out))) : w.heap.size ≤ gb117)); have n6_ := Aside0.mk ((by rw [hg]; exact (below_size (by repeat (first | (with_reducible first | exact HB.out | apply below_alloc | apply pw_below_drewN | apply below_drew1) | exact HB.out))) : w.heap.size ≤ gb117)); clear HO_3; clear HO_5; clear HO_6; clear HB; have HO_3 := n0_; have HO_5 := n1_; have HO_6 := n2_; have HB := n3_; have BK117 := n4_; have GW117 := n5_; have GE117 := n6_; clear n0_ n1_ n2_ n3_ n4_ n5_ n6_; clear hb hbox hg; have hcz21_0 : w20.cell? ⟨gb117, 0, none⟩ = some (.string (⟨#[]⟩ : ByteArray)) := (blk_cell BK117.out 0).trans rfl; have hcz21_1 : w20.cell? ⟨gb117, 1, none⟩ = some (.int .i64 0) := (blk_cell BK117.out 1).trans rfl; have hcz21_2 : w20.cell? ⟨gb117, 2, none⟩ = some (.int .i64 0) := (blk_cell BK117.out 2).trans rfl; have hcz21_3 : w20.cell? ⟨gb117, 3, none⟩ = some (.int .i64 0) := (blk_cell BK117.out 3).trans rfl; have hcz21_4 : w20.cell? ⟨gb117, 4, none⟩ = some (.int .i64 0) := (blk_cell BK117.out 4).trans rfl; have hfz21_0 := blk_frozen BK117.out 0; have hfz21_1 := blk_frozen BK117.out 1; have hfz21_2 := blk_frozen BK117.out 2; have hfz21_3 := blk_frozen BK117.out 3; have hfz21_4 := blk_frozen BK117.out 4)); try go_wp2_with (first | ((with_reducible refine gate_dst (N := 8) rfl ?_); refine box_event ?hg (N := 8) ?hd (cs := #[.string (⟨#[]⟩ : ByteArray), .int .i64 0, .int .i64 0, .int .i64 0, .int .i64 0]) (t := 44) ?hr ?_; (case hd => rfl); (case hg => rfl); (case hr => first | (go_simp; done) | (go_simp; rfl)); intro gb117 hg w20 hbox hb; have n0_ := Aside0.mk (Kd.R_below (by (with_reducible repeat (first | apply Kd.R_alloc | apply Kd.R_drewN | apply Kd.R_drew)); exact HO_3.out) hb); have n1_ := Aside0.mk (Kd.R_below (Kd.R_elderB (by (with_reducible repeat (first | apply Kd.R_alloc | apply Kd.R_drewN | apply Kd.R_drew)); exact HO_5.out) gb117 (Nat.le_of_eq hg.symm)) hb); have n2_ := Aside0.mk (Kd.R_below (by (with_reducible repeat (first | apply Kd.R_alloc | apply Kd.R_drewN | apply Kd.R_drew)); exact HO_6.out) hb); have n3_ := Aside0.mk (below_step (by repeat (first | (with_reducible first | exact HB.out | apply below_alloc | apply pw_below_drewN | apply below_drew1) | exact HB.out)) hb); have n4_ := Aside0.mk (hbox); have n5_ := Aside0.mk ((by rw [hg]; exact (below_size (by repeat (first | (with_reducible first | exact HB.out | apply below_alloc | apply pw_below_drewN | apply below_drew1) | exact HB.out))) : w.heap.size ≤ gb117)); have n6_ := Aside0.mk ((by rw [hg]; exact (below_size (by repeat (first | (with_reducible first | exact HB.out | apply below_alloc | apply pw_below_drewN | apply below_drew1) | exact HB.out))) : w.heap.size ≤ gb117)); clear HO_3; clear HO_5; clear HO_6; clear HB; have HO_3 := n0_; have HO_5 := n1_; have HO_6 := n2_; have HB := n3_; have BK117 := n4_; have GW117 := n5_; have GE117 := n6_; clear n0_ n1_ n2_ n3_ n4_ n5_ n6_; clear hb hbox hg; have hcz21_0 : w20.cell? ⟨gb117, 0, none⟩ = some (.string (⟨#[]⟩ : ByteArray)) := (blk_cell BK117.out 0).trans rfl; have hcz21_1 : w20.cell? ⟨gb117, 1, none⟩ = some (.int .i64 0) := (blk_cell BK117.out 1).trans rfl; have hcz21_2 : w20.cell? ⟨gb117, 2, none⟩ = some (.int .i64 0) := (blk_cell BK117.out 2).trans rfl; have hcz21_3 : w20.cell? ⟨gb117, 3, none⟩ = some (.int .i64 0) := (blk_cell BK117.out 3).trans rfl; have hcz21_4 : w20.cell? ⟨gb117, 4, none⟩ = some (.int .i64 0) := (blk_cell BK117.out 4).trans rfl; have hfz21_0 := blk_frozen BK117.out 0; have hfz21_1 := blk_frozen BK117.out 1; have hfz21_2 := blk_frozen BK117.out 2; have hfz21_3 := blk_frozen BK117.out 3; have hfz21_4 := blk_frozen BK117.out 4)))
                go_loopg [9] k2 (fun kq v9 w' => ∃ (x9_3 : Int) (x118001_3 : Int) (x118002_3 : Int) (x118003_3 : Int) (x118004_3 : Int), v9 = .int .i64 x9_3 ∧ Aside0 (merkhetref27_Of.l2 kq x3_1 x5_2 t113 x7_2 x9_3 (rdOf ByteArray.empty t113 x7_2) x118001_3 x118002_3 x118003_3 x118004_3 = some r) ∧ Aside0 (kq ≤ k2) ∧ Aside0 (Kd.R k37 37 w' w.heap.size (fun _ => True) (.slice Ao15 x3_1.length co15) x3_1) ∧ Aside0 (Kd.R k44 44 w' w.heap.size (fun k_ => k_ ≠ gb117) u5 x5_2) ∧ Aside0 (Kd.R Kd.string 9 w' w.heap.size (fun _ => True) (.slice (some ad116) t113.length co19) t113) ∧ Aside0 (w'.heap[gb117]? = some (.cells #[.string (rdOf ByteArray.empty t113 x7_2), .int .i64 x118001_3, .int .i64 x118002_3, .int .i64 x118003_3, .int .i64 x118004_3] 44 (0, 0))) ∧ Aside0 (Below w.heap.size w w'))
                case atStart => exact ⟨(0), (0), (0), (0), (0), (by first | rfl | (simp; done) | (simp [*]; done)), H', ⟨Nat.le_refl _⟩, ⟨by (with_reducible repeat (first | apply Kd.R_alloc | apply Kd.R_drewN | apply Kd.R_drew)); exact Kd.R_mono (Kd.R_far (p := ⟨gb117, 4, none⟩) (Kd.R_far (p := ⟨gb117, 3, none⟩) (Kd.R_far (p := ⟨gb117, 2, none⟩) (Kd.R_far (p := ⟨gb117, 1, none⟩) (Kd.R_far (p := ⟨gb117, 0, none⟩) (Kd.R_types HO_3.out BK117.out (by decide)) (fun _ hk => hk.2) (.string (rdOf ByteArray.empty t113 x7_2))) (fun _ hk => hk.2) (.int .i64 0)) (fun _ hk => hk.2) (.int .i64 0)) (fun _ hk => hk.2) (.int .i64 0)) (fun _ hk => hk.2) (.int .i64 0)) (fun _ hk => trivial)⟩, ⟨by (with_reducible repeat (first | apply Kd.R_alloc | apply Kd.R_drewN | apply Kd.R_drew)); exact Kd.R_mono (Kd.R_far (p := ⟨gb117, 4, none⟩) (Kd.R_far (p := ⟨gb117, 3, none⟩) (Kd.R_far (p := ⟨gb117, 2, none⟩) (Kd.R_far (p := ⟨gb117, 1, none⟩) (Kd.R_far (p := ⟨gb117, 0, none⟩) (Kd.R_mono HO_5.out (fun k_ hk => (⟨hk, hk.2⟩ : _ ∧ k_ ≠ gb117))) (fun _ hk => hk.2) (.string (rdOf ByteArray.empty t113 x7_2))) (fun _ hk => hk.2) (.int .i64 0)) (fun _ hk => hk.2) (.int .i64 0)) (fun _ hk => hk.2) (.int .i64 0)) (fun _ hk => hk.2) (.int .i64 0)) (fun _ hk => hk.1.2)⟩, ⟨by (with_reducible repeat (first | apply Kd.R_alloc | apply Kd.R_drewN | apply Kd.R_drew)); exact Kd.R_mono (Kd.R_far (p := ⟨gb117, 4, none⟩) (Kd.R_far (p := ⟨gb117, 3, none⟩) (Kd.R_far (p := ⟨gb117, 2, none⟩) (Kd.R_far (p := ⟨gb117, 1, none⟩) (Kd.R_far (p := ⟨gb117, 0, none⟩) (Kd.R_types HO_6.out BK117.out (by decide)) (fun _ hk => hk.2) (.string (rdOf ByteArray.empty t113 x7_2))) (fun _ hk => hk.2) (.int .i64 0)) (fun _ hk => hk.2) (.int .i64 0)) (fun _ hk => hk.2) (.int .i64 0)) (fun _ hk => hk.2) (.int .i64 0)) (fun _ hk => trivial)⟩, ⟨by (with_reducible repeat (first | refine blk_drewN ?_ _ | refine blk_drew ?_ | refine blk_alloc ?_ _)); refine blk_put (cs := #[.string (rdOf ByteArray.empty t113 x7_2), .int .i64 0, .int .i64 0, .int .i64 0, .int .i64 0]) ?_ 4 _ rfl; (with_reducible repeat (first | refine blk_drewN ?_ _ | refine blk_drew ?_ | refine blk_alloc ?_ _)); refine blk_put (cs := #[.string (rdOf ByteArray.empty t113 x7_2), .int .i64 0, .int .i64 0, .int .i64 0, .int .i64 0]) ?_ 3 _ rfl; (with_reducible repeat (first | refine blk_drewN ?_ _ | refine blk_drew ?_ | refine blk_alloc ?_ _)); refine blk_put (cs := #[.string (rdOf ByteArray.empty t113 x7_2), .int .i64 0, .int .i64 0, .int .i64 0, .int .i64 0]) ?_ 2 _ rfl; (with_reducible repeat (first | refine blk_drewN ?_ _ | refine blk_drew ?_ | refine blk_alloc ?_ _)); refine blk_put (cs := #[.string (rdOf ByteArray.empty t113 x7_2), .int .i64 0, .int .i64 0, .int .i64 0, .int .i64 0]) ?_ 1 _ rfl; (with_reducible repeat (first | refine blk_drewN ?_ _ | refine blk_drew ?_ | refine blk_alloc ?_ _)); refine blk_put (cs := #[.string (⟨#[]⟩ : ByteArray), .int .i64 0, .int .i64 0, .int .i64 0, .int .i64 0]) ?_ 0 _ rfl; (with_reducible repeat (first | refine blk_drewN ?_ _ | refine blk_drew ?_ | refine blk_alloc ?_ _)); exact BK117.out⟩, ⟨by repeat (first | (with_reducible first | exact HB.out | apply below_alloc | apply pw_below_drewN | apply below_drew1 | refine below_set ?_ GE117.out) | exact HB.out)⟩⟩
                case round =>
                  clear H'
                  (try clear c1); (try clear p1); (try clear q1); (try clear hx1); (try clear c2); (try clear p2); (try clear c4); (try clear c4b0); (try clear c5); (try clear c5b0); (try clear p6); (try clear c7); (try clear c8); (try clear p10); (try clear q10); (try clear hx10); (try clear p11); (try clear q11); (try clear hx11); (try clear c17); (try clear c17b0); (try clear c18); (try clear c18b0); (try clear hcz21_0); (try clear hcz21_1); (try clear hcz21_2); (try clear hcz21_3); (try clear hcz21_4); (try clear hfz21_0); (try clear hfz21_1); (try clear hfz21_2); (try clear hfz21_3); (try clear hfz21_4); (try clear hx104_0); (try clear hx104_1); (try clear hx104_2); (try clear hx104_3); (try clear hx104_4); (try clear hx104_5); (try clear hx104_6); (try clear hx104_7); (try clear hx106_0); (try clear hx106_1); (try clear hx106_2); (try clear hx106_3); (try clear hx106_4); (try clear hx106_5); (try clear hx106_6); (try clear hx106_7); (try clear hx116_0); (try clear p1); (try clear p10); (try clear p104); (try clear p106); (try clear p116); (try clear p2); (try clear p6); (try clear q1); (try clear q10); (try clear q104); (try clear q106); (try clear q116)
                  obtain ⟨x9_3, x118001_3, x118002_3, x118003_3, x118004_3, rfl, HA, HK3, HO_3, HO_5, HO_6, BK117, HB⟩ := hrel
                  cases gk with
                  | zero => exact absurd HA.out (by simp [merkhetref27_Of.l2])
                  | succ k3 =>
                    have H := HA.out
                    clear HA
                    simp only [merkhetref27_Of.l2] at H
                    by_cases c22 : x9_3 < (x3_1.length : Int)
                    · rw [if_pos c22] at H
                      have c22b0 : decide (x9_3 < (x3_1.length : Int)) = true := decide_eq_true c22
                      clear c22
                      by_cases c23 : 0 ≤ x9_3
                      · rw [if_pos c23] at H
                        have c23b0 : decide (0 ≤ x9_3) = true := decide_eq_true c23
                        clear c23
                        by_cases c24 : 0 ≤ x7_2
                        · rw [if_pos c24] at H
                          have c24b0 : decide (0 ≤ x7_2) = true := decide_eq_true c24
                          clear c24
                          by_cases c25 : x7_2 < (t113.length : Int)
                          · rw [if_pos c25] at H
                            have c25b0 : decide (x7_2 < (t113.length : Int)) = true := decide_eq_true c25
                            clear c25
                            by_cases c26 : ((rd_T37 x3_1 x9_3).f4).toList = (rdOf ByteArray.empty t113 x7_2).toList
                            · rw [if_pos c26] at H
                              have c26b0 : (((rd_T37 x3_1 x9_3).f4).toList == (rdOf ByteArray.empty t113 x7_2).toList) = true := beq_iff_eq.mpr c26
                              have c26b1 : (((rd_T37 x3_1 x9_3).f4).toList != (rdOf ByteArray.empty t113 x7_2).toList) = false := bne_eq_false_iff_eq.mpr c26
                              clear c26
                              have HC27 := Aside0.mk H
                              clear H
                              have p121 : 0 ≤ (x9_3 : Int) := of_decide_eq_true (by first | (with_reducible assumption) | assumption)
                              have q121 : x9_3 < (x3_1.length : Int) := of_decide_eq_true (by first | (with_reducible assumption) | assumption)
                              obtain ⟨ad121, e121, hx121_0, hx121_1, hx121_2, hx121_3, hx121_4, hx121_5, hx121_6, hx121_7⟩ := at_T37 (Kd.R_reads' HO_3.out).2.2 x9_3 p121 q121
                              cases e121
                              replace p121 := eq_true p121
                              replace q121 := eq_true q121
                              go_upto_if 70 with (first | ((with_reducible refine gate_dst (N := 10) rfl ?_); refine box_event ?hg (N := 10) ?hd (cs := #[.int .u64 0, .int .u64 0, .int .u64 0, .int .u8 0, .string (⟨#[]⟩ : ByteArray), .string (⟨#[]⟩ : ByteArray), .int .i64 0, .int .i64 0]) (t := 37) ?hr ?_; (case hd => rfl); (case hg => rfl); (case hr => first | (go_simp; done) | (go_simp; rfl)); intro gb122 hg w28 hbox hb; have n0_ := Aside0.mk (Kd.R_below (Kd.R_elderB (by (with_reducible repeat (first | apply Kd.R_alloc | apply Kd.R_drewN | apply Kd.R_drew)); exact HO_3.out) gb122 (Nat.le_of_eq hg.symm)) hb); have n1_ := Aside0.mk (Kd.R_below (by (with_reducible repeat (first | apply Kd.R_alloc | apply Kd.R_drewN | apply Kd.R_drew)); exact HO_5.out) hb); have n2_ := Aside0.mk (Kd.R_below (by (with_reducible repeat (first | apply Kd.R_alloc | apply Kd.R_drewN | apply Kd.R_drew)); exact HO_6.out) hb); have n3_ := Aside0.mk (blk_below (g := gb117) (o := .cells #[.string (rdOf ByteArray.empty t113 x7_2), .int .i64 x118001_3, .int .i64 x118002_3, .int .i64 x118003_3, .int .i64 x118004_3] 44 (0, 0)) (by (with_reducible repeat (first | refine blk_drewN ?_ _ | refine blk_drew ?_ | refine blk_alloc ?_ _)); exact BK117.out) hb); have n4_ := Aside0.mk (below_step (by repeat (first | (with_reducible first | exact HB.out | apply below_alloc | apply pw_below_drewN | apply below_drew1 | refine below_set ?_ GE117.out) | exact HB.out)) hb); have n5_ := Aside0.mk (hbox); have n6_ := Aside0.mk ((by rw [hg]; exact (below_size (by repeat (first | (with_reducible first | exact HB.out | apply below_alloc | apply pw_below_drewN | apply below_drew1 | refine below_set ?_ GE117.out) | exact HB.out))) : w.heap.size ≤ gb122)); have n7_ := Aside0.mk ((by rw [hg]; exact (below_size (by repeat (first | (with_reducible first | exact HB.out | apply below_alloc | apply pw_below_drewN | apply below_drew1 | refine below_set ?_ GE117.out) | exact HB.out))) : w.heap.size ≤ gb122)); have n8_ := Aside0.mk ((by rw [hg]; exact Nat.ne_of_lt (blk_lt (g := gb117) (o := .cells #[.string (rdOf ByteArray.empty t113 x7_2), .int .i64 x118001_3, .int .i64 x118002_3, .int .i64 x118003_3, .int .i64 x118004_3] 44 (0, 0)) (by (with_reducible repeat (first | refine blk_drewN ?_ _ | refine blk_drew ?_ | refine blk_alloc ?_ _)); exact BK117.out)) : gb117 ≠ gb122)); have n9_ := Aside0.mk ((by rw [hg]; exact Nat.ne_of_gt (blk_lt (g := gb117) (o := .cells #[.string (rdOf ByteArray.empty t113 x7_2), .int .i64 x118001_3, .int .i64 x118002_3, .int .i64 x118003_3, .int .i64 x118004_3] 44 (0, 0)) (by (with_reducible repeat (first | refine blk_drewN ?_ _ | refine blk_drew ?_ | refine blk_alloc ?_ _)); exact BK117.out)) : gb122 ≠ gb117)); clear HO_3; clear HO_5; clear HO_6; clear BK117; clear HB; have HO_3 := n0_; have HO_5 := n1_; have HO_6 := n2_; have BK117 := n3_; have HB := n4_; have BK122 := n5_; have GW122 := n6_; have GE122 := n7_; have NB117_122 := n8_; have NB122_117 := n9_; clear n0_ n1_ n2_ n3_ n4_ n5_ n6_ n7_ n8_ n9_; clear hb hbox hg; have hnb29 := NB122_117.out; have hnc29 := NB117_122.out; have hcz30_0 : w28.cell? ⟨gb122, 0, none⟩ = some (.int .u64 0) := (blk_cell BK122.out 0).trans rfl; have hcz30_1 : w28.cell? ⟨gb122, 1, none⟩ = some (.int .u64 0) := (blk_cell BK122.out 1).trans rfl; have hcz30_2 : w28.cell? ⟨gb122, 2, none⟩ = some (.int .u64 0) := (blk_cell BK122.out 2).trans rfl; have hcz30_3 : w28.cell? ⟨gb122, 3, none⟩ = some (.int .u8 0) := (blk_cell BK122.out 3).trans rfl; have hcz30_4 : w28.cell? ⟨gb122, 4, none⟩ = some (.string (⟨#[]⟩ : ByteArray)) := (blk_cell BK122.out 4).trans rfl; have hcz30_5 : w28.cell? ⟨gb122, 5, none⟩ = some (.string (⟨#[]⟩ : ByteArray)) := (blk_cell BK122.out 5).trans rfl; have hcz30_6 : w28.cell? ⟨gb122, 6, none⟩ = some (.int .i64 0) := (blk_cell BK122.out 6).trans rfl; have hcz30_7 : w28.cell? ⟨gb122, 7, none⟩ = some (.int .i64 0) := (blk_cell BK122.out 7).trans rfl; have hfz30_0 := blk_frozen BK122.out 0; have hfz30_1 := blk_frozen BK122.out 1; have hfz30_2 := blk_frozen BK122.out 2; have hfz30_3 := blk_frozen BK122.out 3; have hfz30_4 := blk_frozen BK122.out 4; have hfz30_5 := blk_frozen BK122.out 5; have hfz30_6 := blk_frozen BK122.out 6; have hfz30_7 := blk_frozen BK122.out 7; have p123 : 0 ≤ (x7_2 : Int) := of_decide_eq_true (by first | (with_reducible assumption) | assumption); have q123 : x7_2 < (t113.length : Int) := of_decide_eq_true (by first | (with_reducible assumption) | assumption); obtain ⟨ad123, e123, hx123_0⟩ := Kd.at_string (Kd.R_reads' HO_6.out).2.2 x7_2 p123 q123; obtain rfl : ad116 = ad123 := (by injection e123); have hn123_0 : ad116.block ≠ gb122 := Kd.own_blk (Kd.R_ne HO_6.out BK122.out (by decide)); have hn123_1 : ad116.block ≠ gb122 := Kd.own_blk (Kd.R_ne HO_6.out BK122.out (by decide)); have hn123_2 : ad116.block ≠ gb122 := Kd.own_blk (Kd.R_ne HO_6.out BK122.out (by decide)); have hn123_3 : ad116.block ≠ gb122 := Kd.own_blk (Kd.R_ne HO_6.out BK122.out (by decide)); have hn123_4 : ad116.block ≠ gb122 := Kd.own_blk (Kd.R_ne HO_6.out BK122.out (by decide)); have hn123_5 : ad116.block ≠ gb122 := Kd.own_blk (Kd.R_ne HO_6.out BK122.out (by decide)); have hn123_6 : ad116.block ≠ gb122 := Kd.own_blk (Kd.R_ne HO_6.out BK122.out (by decide)); have hn123_7 : ad116.block ≠ gb122 := Kd.own_blk (Kd.R_ne HO_6.out BK122.out (by decide)); replace hx123_0 := (cell_far (p := ⟨gb122, 0, none⟩) (by first | (rw [add_block]; exact hn123_0) | (show (Addr.add _ _).block ≠ _; rw [add_block]; exact hn123_0) | exact hn123_0) (.int .u64 ((rd_T37 x3_1 x9_3).f0))).trans hx123_0; replace hx123_0 := (cell_far (p := ⟨gb122, 1, none⟩) (by first | (rw [add_block]; exact hn123_1) | (show (Addr.add _ _).block ≠ _; rw [add_block]; exact hn123_1) | exact hn123_1) (.int .u64 ((rd_T37 x3_1 x9_3).f1))).trans hx123_0; replace hx123_0 := (cell_far (p := ⟨gb122, 2, none⟩) (by first | (rw [add_block]; exact hn123_2) | (show (Addr.add _ _).block ≠ _; rw [add_block]; exact hn123_2) | exact hn123_2) (.int .u64 ((rd_T37 x3_1 x9_3).f2))).trans hx123_0; replace hx123_0 := (cell_far (p := ⟨gb122, 3, none⟩) (by first | (rw [add_block]; exact hn123_3) | (show (Addr.add _ _).block ≠ _; rw [add_block]; exact hn123_3) | exact hn123_3) (.int .u8 ((rd_T37 x3_1 x9_3).f3))).trans hx123_0; replace hx123_0 := (cell_far (p := ⟨gb122, 4, none⟩) (by first | (rw [add_block]; exact hn123_4) | (show (Addr.add _ _).block ≠ _; rw [add_block]; exact hn123_4) | exact hn123_4) (.string ((rd_T37 x3_1 x9_3).f4))).trans hx123_0; replace hx123_0 := (cell_far (p := ⟨gb122, 5, none⟩) (by first | (rw [add_block]; exact hn123_5) | (show (Addr.add _ _).block ≠ _; rw [add_block]; exact hn123_5) | exact hn123_5) (.string ((rd_T37 x3_1 x9_3).f5))).trans hx123_0; replace hx123_0 := (cell_far (p := ⟨gb122, 6, none⟩) (by first | (rw [add_block]; exact hn123_6) | (show (Addr.add _ _).block ≠ _; rw [add_block]; exact hn123_6) | exact hn123_6) (.int .i64 ((rd_T37 x3_1 x9_3).f6))).trans hx123_0; replace hx123_0 := (cell_far (p := ⟨gb122, 7, none⟩) (by first | (rw [add_block]; exact hn123_7) | (show (Addr.add _ _).block ≠ _; rw [add_block]; exact hn123_7) | exact hn123_7) (.int .i64 ((rd_T37 x3_1 x9_3).f7))).trans hx123_0; clear hn123_0; clear hn123_1; clear hn123_2; clear hn123_3; clear hn123_4; clear hn123_5; clear hn123_6; clear hn123_7; replace p123 := eq_true p123; replace q123 := eq_true q123; have hcz31_0 : w28.cell? ⟨gb117, 0, none⟩ = some (.string (rdOf ByteArray.empty t113 x7_2)) := (blk_cell BK117.out 0).trans rfl; have hcz31_1 : w28.cell? ⟨gb117, 1, none⟩ = some (.int .i64 x118001_3) := (blk_cell BK117.out 1).trans rfl; have hcz31_2 : w28.cell? ⟨gb117, 2, none⟩ = some (.int .i64 x118002_3) := (blk_cell BK117.out 2).trans rfl; have hcz31_3 : w28.cell? ⟨gb117, 3, none⟩ = some (.int .i64 x118003_3) := (blk_cell BK117.out 3).trans rfl; have hcz31_4 : w28.cell? ⟨gb117, 4, none⟩ = some (.int .i64 x118004_3) := (blk_cell BK117.out 4).trans rfl; have hfz31_0 := blk_frozen BK117.out 0; have hfz31_1 := blk_frozen BK117.out 1; have hfz31_2 := blk_frozen BK117.out 2; have hfz31_3 := blk_frozen BK117.out 3; have hfz31_4 := blk_frozen BK117.out 4))
                              repeat (go_quiet (first | ((with_reducible refine gate_dst (N := 10) rfl ?_); refine box_event ?hg (N := 10) ?hd (cs := #[.int .u64 0, .int .u64 0, .int .u64 0, .int .u8 0, .string (⟨#[]⟩ : ByteArray), .string (⟨#[]⟩ : ByteArray), .int .i64 0, .int .i64 0]) (t := 37) ?hr ?_; (case hd => rfl); (case hg => rfl); (case hr => first | (go_simp; done) | (go_simp; rfl)); intro gb122 hg w28 hbox hb; have n0_ := Aside0.mk (Kd.R_below (Kd.R_elderB (by (with_reducible repeat (first | apply Kd.R_alloc | apply Kd.R_drewN | apply Kd.R_drew)); exact HO_3.out) gb122 (Nat.le_of_eq hg.symm)) hb); have n1_ := Aside0.mk (Kd.R_below (by (with_reducible repeat (first | apply Kd.R_alloc | apply Kd.R_drewN | apply Kd.R_drew)); exact HO_5.out) hb); have n2_ := Aside0.mk (Kd.R_below (by (with_reducible repeat (first | apply Kd.R_alloc | apply Kd.R_drewN | apply Kd.R_drew)); exact HO_6.out) hb); have n3_ := Aside0.mk (blk_below (g := gb117) (o := .cells #[.string (rdOf ByteArray.empty t113 x7_2), .int .i64 x118001_3, .int .i64 x118002_3, .int .i64 x118003_3, .int .i64 x118004_3] 44 (0, 0)) (by (with_reducible repeat (first | refine blk_drewN ?_ _ | refine blk_drew ?_ | refine blk_alloc ?_ _)); exact BK117.out) hb); have n4_ := Aside0.mk (below_step (by repeat (first | (with_reducible first | exact HB.out | apply below_alloc | apply pw_below_drewN | apply below_drew1 | refine below_set ?_ GE117.out) | exact HB.out)) hb); have n5_ := Aside0.mk (hbox); have n6_ := Aside0.mk ((by rw [hg]; exact (below_size (by repeat (first | (with_reducible first | exact HB.out | apply below_alloc | apply pw_below_drewN | apply below_drew1 | refine below_set ?_ GE117.out) | exact HB.out))) : w.heap.size ≤ gb122)); have n7_ := Aside0.mk ((by rw [hg]; exact (below_size (by repeat (first | (with_reducible first | exact HB.out | apply below_alloc | apply pw_below_drewN | apply below_drew1 | refine below_set ?_ GE117.out) | exact HB.out))) : w.heap.size ≤ gb122)); have n8_ := Aside0.mk ((by rw [hg]; exact Nat.ne_of_lt (blk_lt (g := gb117) (o := .cells #[.string (rdOf ByteArray.empty t113 x7_2), .int .i64 x118001_3, .int .i64 x118002_3, .int .i64 x118003_3, .int .i64 x118004_3] 44 (0, 0)) (by (with_reducible repeat (first | refine blk_drewN ?_ _ | refine blk_drew ?_ | refine blk_alloc ?_ _)); exact BK117.out)) : gb117 ≠ gb122)); have n9_ := Aside0.mk ((by rw [hg]; exact Nat.ne_of_gt (blk_lt (g := gb117) (o := .cells #[.string (rdOf ByteArray.empty t113 x7_2), .int .i64 x118001_3, .int .i64 x118002_3, .int .i64 x118003_3, .int .i64 x118004_3] 44 (0, 0)) (by (with_reducible repeat (first | refine blk_drewN ?_ _ | refine blk_drew ?_ | refine blk_alloc ?_ _)); exact BK117.out)) : gb122 ≠ gb117)); clear HO_3; clear HO_5; clear HO_6; clear BK117; clear HB; have HO_3 := n0_; have HO_5 := n1_; have HO_6 := n2_; have BK117 := n3_; have HB := n4_; have BK122 := n5_; have GW122 := n6_; have GE122 := n7_; have NB117_122 := n8_; have NB122_117 := n9_; clear n0_ n1_ n2_ n3_ n4_ n5_ n6_ n7_ n8_ n9_; clear hb hbox hg; have hnb29 := NB122_117.out; have hnc29 := NB117_122.out; have hcz30_0 : w28.cell? ⟨gb122, 0, none⟩ = some (.int .u64 0) := (blk_cell BK122.out 0).trans rfl; have hcz30_1 : w28.cell? ⟨gb122, 1, none⟩ = some (.int .u64 0) := (blk_cell BK122.out 1).trans rfl; have hcz30_2 : w28.cell? ⟨gb122, 2, none⟩ = some (.int .u64 0) := (blk_cell BK122.out 2).trans rfl; have hcz30_3 : w28.cell? ⟨gb122, 3, none⟩ = some (.int .u8 0) := (blk_cell BK122.out 3).trans rfl; have hcz30_4 : w28.cell? ⟨gb122, 4, none⟩ = some (.string (⟨#[]⟩ : ByteArray)) := (blk_cell BK122.out 4).trans rfl; have hcz30_5 : w28.cell? ⟨gb122, 5, none⟩ = some (.string (⟨#[]⟩ : ByteArray)) := (blk_cell BK122.out 5).trans rfl; have hcz30_6 : w28.cell? ⟨gb122, 6, none⟩ = some (.int .i64 0) := (blk_cell BK122.out 6).trans rfl; have hcz30_7 : w28.cell? ⟨gb122, 7, none⟩ = some (.int .i64 0) := (blk_cell BK122.out 7).trans rfl; have hfz30_0 := blk_frozen BK122.out 0; have hfz30_1 := blk_frozen BK122.out 1; have hfz30_2 := blk_frozen BK122.out 2; have hfz30_3 := blk_frozen BK122.out 3; have hfz30_4 := blk_frozen BK122.out 4; have hfz30_5 := blk_frozen BK122.out 5; have hfz30_6 := blk_frozen BK122.out 6; have hfz30_7 := blk_frozen BK122.out 7; have p123 : 0 ≤ (x7_2 : Int) := of_decide_eq_true (by first | (with_reducible assumption) | assumption); have q123 : x7_2 < (t113.length : Int) := of_decide_eq_true (by first | (with_reducible assumption) | assumption); obtain ⟨ad123, e123, hx123_0⟩ := Kd.at_string (Kd.R_reads' HO_6.out).2.2 x7_2 p123 q123; obtain rfl : ad116 = ad123 := (by injection e123); have hn123_0 : ad116.block ≠ gb122 := Kd.own_blk (Kd.R_ne HO_6.out BK122.out (by decide)); have hn123_1 : ad116.block ≠ gb122 := Kd.own_blk (Kd.R_ne HO_6.out BK122.out (by decide)); have hn123_2 : ad116.block ≠ gb122 := Kd.own_blk (Kd.R_ne HO_6.out BK122.out (by decide)); have hn123_3 : ad116.block ≠ gb122 := Kd.own_blk (Kd.R_ne HO_6.out BK122.out (by decide)); have hn123_4 : ad116.block ≠ gb122 := Kd.own_blk (Kd.R_ne HO_6.out BK122.out (by decide)); have hn123_5 : ad116.block ≠ gb122 := Kd.own_blk (Kd.R_ne HO_6.out BK122.out (by decide)); have hn123_6 : ad116.block ≠ gb122 := Kd.own_blk (Kd.R_ne HO_6.out BK122.out (by decide)); have hn123_7 : ad116.block ≠ gb122 := Kd.own_blk (Kd.R_ne HO_6.out BK122.out (by decide)); replace hx123_0 := (cell_far (p := ⟨gb122, 0, none⟩) (by first | (rw [add_block]; exact hn123_0) | (show (Addr.add _ _).block ≠ _; rw [add_block]; exact hn123_0) | exact hn123_0) (.int .u64 ((rd_T37 x3_1 x9_3).f0))).trans hx123_0; replace hx123_0 := (cell_far (p := ⟨gb122, 1, none⟩) (by first | (rw [add_block]; exact hn123_1) | (show (Addr.add _ _).block ≠ _; rw [add_block]; exact hn123_1) | exact hn123_1) (.int .u64 ((rd_T37 x3_1 x9_3).f1))).trans hx123_0; replace hx123_0 := (cell_far (p := ⟨gb122, 2, none⟩) (by first | (rw [add_block]; exact hn123_2) | (show (Addr.add _ _).block ≠ _; rw [add_block]; exact hn123_2) | exact hn123_2) (.int .u64 ((rd_T37 x3_1 x9_3).f2))).trans hx123_0; replace hx123_0 := (cell_far (p := ⟨gb122, 3, none⟩) (by first | (rw [add_block]; exact hn123_3) | (show (Addr.add _ _).block ≠ _; rw [add_block]; exact hn123_3) | exact hn123_3) (.int .u8 ((rd_T37 x3_1 x9_3).f3))).trans hx123_0; replace hx123_0 := (cell_far (p := ⟨gb122, 4, none⟩) (by first | (rw [add_block]; exact hn123_4) | (show (Addr.add _ _).block ≠ _; rw [add_block]; exact hn123_4) | exact hn123_4) (.string ((rd_T37 x3_1 x9_3).f4))).trans hx123_0; replace hx123_0 := (cell_far (p := ⟨gb122, 5, none⟩) (by first | (rw [add_block]; exact hn123_5) | (show (Addr.add _ _).block ≠ _; rw [add_block]; exact hn123_5) | exact hn123_5) (.string ((rd_T37 x3_1 x9_3).f5))).trans hx123_0; replace hx123_0 := (cell_far (p := ⟨gb122, 6, none⟩) (by first | (rw [add_block]; exact hn123_6) | (show (Addr.add _ _).block ≠ _; rw [add_block]; exact hn123_6) | exact hn123_6) (.int .i64 ((rd_T37 x3_1 x9_3).f6))).trans hx123_0; replace hx123_0 := (cell_far (p := ⟨gb122, 7, none⟩) (by first | (rw [add_block]; exact hn123_7) | (show (Addr.add _ _).block ≠ _; rw [add_block]; exact hn123_7) | exact hn123_7) (.int .i64 ((rd_T37 x3_1 x9_3).f7))).trans hx123_0; clear hn123_0; clear hn123_1; clear hn123_2; clear hn123_3; clear hn123_4; clear hn123_5; clear hn123_6; clear hn123_7; replace p123 := eq_true p123; replace q123 := eq_true q123; have hcz31_0 : w28.cell? ⟨gb117, 0, none⟩ = some (.string (rdOf ByteArray.empty t113 x7_2)) := (blk_cell BK117.out 0).trans rfl; have hcz31_1 : w28.cell? ⟨gb117, 1, none⟩ = some (.int .i64 x118001_3) := (blk_cell BK117.out 1).trans rfl; have hcz31_2 : w28.cell? ⟨gb117, 2, none⟩ = some (.int .i64 x118002_3) := (blk_cell BK117.out 2).trans rfl; have hcz31_3 : w28.cell? ⟨gb117, 3, none⟩ = some (.int .i64 x118003_3) := (blk_cell BK117.out 3).trans rfl; have hcz31_4 : w28.cell? ⟨gb117, 4, none⟩ = some (.int .i64 x118004_3) := (blk_cell BK117.out 4).trans rfl; have hfz31_0 := blk_frozen BK117.out 0; have hfz31_1 := blk_frozen BK117.out 1; have hfz31_2 := blk_frozen BK117.out 2; have hfz31_3 := blk_frozen BK117.out 3; have hfz31_4 := blk_frozen BK117.out 4)); go_upto_if 70 with (first | ((with_reducible refine gate_dst (N := 10) rfl ?_); refine box_event ?hg (N := 10) ?hd (cs := #[.int .u64 0, .int .u64 0, .int .u64 0, .int .u8 0, .string (⟨#[]⟩ : ByteArray), .string (⟨#[]⟩ : ByteArray), .int .i64 0, .int .i64 0]) (t := 37) ?hr ?_; (case hd => rfl); (case hg => rfl); (case hr => first | (go_simp; done) | (go_simp; rfl)); intro gb122 hg w28 hbox hb; have n0_ := Aside0.mk (Kd.R_below (Kd.R_elderB (by (with_reducible repeat (first | apply Kd.R_alloc | apply Kd.R_drewN | apply Kd.R_drew)); exact HO_3.out) gb122 (Nat.le_of_eq hg.symm)) hb); have n1_ := Aside0.mk (Kd.R_below (by (with_reducible repeat (first | apply Kd.R_alloc | apply Kd.R_drewN | apply Kd.R_drew)); exact HO_5.out) hb); have n2_ := Aside0.mk (Kd.R_below (by (with_reducible repeat (first | apply Kd.R_alloc | apply Kd.R_drewN | apply Kd.R_drew)); exact HO_6.out) hb); have n3_ := Aside0.mk (blk_below (g := gb117) (o := .cells #[.string (rdOf ByteArray.empty t113 x7_2), .int .i64 x118001_3, .int .i64 x118002_3, .int .i64 x118003_3, .int .i64 x118004_3] 44 (0, 0)) (by (with_reducible repeat (first | refine blk_drewN ?_ _ | refine blk_drew ?_ | refine blk_alloc ?_ _)); exact BK117.out) hb); have n4_ := Aside0.mk (below_step (by repeat (first | (with_reducible first | exact HB.out | apply below_alloc | apply pw_below_drewN | apply below_drew1 | refine below_set ?_ GE117.out) | exact HB.out)) hb); have n5_ := Aside0.mk (hbox); have n6_ := Aside0.mk ((by rw [hg]; exact (below_size (by repeat (first | (with_reducible first | exact HB.out | apply below_alloc | apply pw_below_drewN | apply below_drew1 | refine below_set ?_ GE117.out) | exact HB.out))) : w.heap.size ≤ gb122)); have n7_ := Aside0.mk ((by rw [hg]; exact (below_size (by repeat (first | (with_reducible first | exact HB.out | apply below_alloc | apply pw_below_drewN | apply below_drew1 | refine below_set ?_ GE117.out) | exact HB.out))) : w.heap.size ≤ gb122)); have n8_ := Aside0.mk ((by rw [hg]; exact Nat.ne_of_lt (blk_lt (g := gb117) (o := .cells #[.string (rdOf ByteArray.empty t113 x7_2), .int .i64 x118001_3, .int .i64 x118002_3, .int .i64 x118003_3, .int .i64 x118004_3] 44 (0, 0)) (by (with_reducible repeat (first | refine blk_drewN ?_ _ | refine blk_drew ?_ | refine blk_alloc ?_ _)); exact BK117.out)) : gb117 ≠ gb122)); have n9_ := Aside0.mk ((by rw [hg]; exact Nat.ne_of_gt (blk_lt (g := gb117) (o := .cells #[.string (rdOf ByteArray.empty t113 x7_2), .int .i64 x118001_3, .int .i64 x118002_3, .int .i64 x118003_3, .int .i64 x118004_3] 44 (0, 0)) (by (with_reducible repeat (first | refine blk_drewN ?_ _ | refine blk_drew ?_ | refine blk_alloc ?_ _)); exact BK117.out)) : gb122 ≠ gb117)); clear HO_3; clear HO_5; clear HO_6; clear BK117; clear HB; have HO_3 := n0_; have HO_5 := n1_; have HO_6 := n2_; have BK117 := n3_; have HB := n4_; have BK122 := n5_; have GW122 := n6_; have GE122 := n7_; have NB117_122 := n8_; have NB122_117 := n9_; clear n0_ n1_ n2_ n3_ n4_ n5_ n6_ n7_ n8_ n9_; clear hb hbox hg; have hnb29 := NB122_117.out; have hnc29 := NB117_122.out; have hcz30_0 : w28.cell? ⟨gb122, 0, none⟩ = some (.int .u64 0) := (blk_cell BK122.out 0).trans rfl; have hcz30_1 : w28.cell? ⟨gb122, 1, none⟩ = some (.int .u64 0) := (blk_cell BK122.out 1).trans rfl; have hcz30_2 : w28.cell? ⟨gb122, 2, none⟩ = some (.int .u64 0) := (blk_cell BK122.out 2).trans rfl; have hcz30_3 : w28.cell? ⟨gb122, 3, none⟩ = some (.int .u8 0) := (blk_cell BK122.out 3).trans rfl; have hcz30_4 : w28.cell? ⟨gb122, 4, none⟩ = some (.string (⟨#[]⟩ : ByteArray)) := (blk_cell BK122.out 4).trans rfl; have hcz30_5 : w28.cell? ⟨gb122, 5, none⟩ = some (.string (⟨#[]⟩ : ByteArray)) := (blk_cell BK122.out 5).trans rfl; have hcz30_6 : w28.cell? ⟨gb122, 6, none⟩ = some (.int .i64 0) := (blk_cell BK122.out 6).trans rfl; have hcz30_7 : w28.cell? ⟨gb122, 7, none⟩ = some (.int .i64 0) := (blk_cell BK122.out 7).trans rfl; have hfz30_0 := blk_frozen BK122.out 0; have hfz30_1 := blk_frozen BK122.out 1; have hfz30_2 := blk_frozen BK122.out 2; have hfz30_3 := blk_frozen BK122.out 3; have hfz30_4 := blk_frozen BK122.out 4; have hfz30_5 := blk_frozen BK122.out 5; have hfz30_6 := blk_frozen BK122.out 6; have hfz30_7 := blk_frozen BK122.out 7; have p123 : 0 ≤ (x7_2 : Int) := of_decide_eq_true (by first | (with_reducible assumption) | assumption); have q123 : x7_2 < (t113.length : Int) := of_decide_eq_true (by first | (with_reducible assumption) | assumption); obtain ⟨ad123, e123, hx123_0⟩ := Kd.at_string (Kd.R_reads' HO_6.out).2.2 x7_2 p123 q123; obtain rfl : ad116 = ad123 := (by injection e123); have hn123_0 : ad116.block ≠ gb122 := Kd.own_blk (Kd.R_ne HO_6.out BK122.out (by decide)); have hn123_1 : ad116.block ≠ gb122 := Kd.own_blk (Kd.R_ne HO_6.out BK122.out (by decide)); have hn123_2 : ad116.block ≠ gb122 := Kd.own_blk (Kd.R_ne HO_6.out BK122.out (by decide)); have hn123_3 : ad116.block ≠ gb122 := Kd.own_blk (Kd.R_ne HO_6.out BK122.out (by decide)); have hn123_4 : ad116.block ≠ gb122 := Kd.own_blk (Kd.R_ne HO_6.out BK122.out (by decide)); have hn123_5 : ad116.block ≠ gb122 := Kd.own_blk (Kd.R_ne HO_6.out BK122.out (by decide)); have hn123_6 : ad116.block ≠ gb122 := Kd.own_blk (Kd.R_ne HO_6.out BK122.out (by decide)); have hn123_7 : ad116.block ≠ gb122 := Kd.own_blk (Kd.R_ne HO_6.out BK122.out (by decide)); replace hx123_0 := (cell_far (p := ⟨gb122, 0, none⟩) (by first | (rw [add_block]; exact hn123_0) | (show (Addr.add _ _).block ≠ _; rw [add_block]; exact hn123_0) | exact hn123_0) (.int .u64 ((rd_T37 x3_1 x9_3).f0))).trans hx123_0; replace hx123_0 := (cell_far (p := ⟨gb122, 1, none⟩) (by first | (rw [add_block]; exact hn123_1) | (show (Addr.add _ _).block ≠ _; rw [add_block]; exact hn123_1) | exact hn123_1) (.int .u64 ((rd_T37 x3_1 x9_3).f1))).trans hx123_0; replace hx123_0 := (cell_far (p := ⟨gb122, 2, none⟩) (by first | (rw [add_block]; exact hn123_2) | (show (Addr.add _ _).block ≠ _; rw [add_block]; exact hn123_2) | exact hn123_2) (.int .u64 ((rd_T37 x3_1 x9_3).f2))).trans hx123_0; replace hx123_0 := (cell_far (p := ⟨gb122, 3, none⟩) (by first | (rw [add_block]; exact hn123_3) | (show (Addr.add _ _).block ≠ _; rw [add_block]; exact hn123_3) | exact hn123_3) (.int .u8 ((rd_T37 x3_1 x9_3).f3))).trans hx123_0; replace hx123_0 := (cell_far (p := ⟨gb122, 4, none⟩) (by first | (rw [add_block]; exact hn123_4) | (show (Addr.add _ _).block ≠ _; rw [add_block]; exact hn123_4) | exact hn123_4) (.string ((rd_T37 x3_1 x9_3).f4))).trans hx123_0; replace hx123_0 := (cell_far (p := ⟨gb122, 5, none⟩) (by first | (rw [add_block]; exact hn123_5) | (show (Addr.add _ _).block ≠ _; rw [add_block]; exact hn123_5) | exact hn123_5) (.string ((rd_T37 x3_1 x9_3).f5))).trans hx123_0; replace hx123_0 := (cell_far (p := ⟨gb122, 6, none⟩) (by first | (rw [add_block]; exact hn123_6) | (show (Addr.add _ _).block ≠ _; rw [add_block]; exact hn123_6) | exact hn123_6) (.int .i64 ((rd_T37 x3_1 x9_3).f6))).trans hx123_0; replace hx123_0 := (cell_far (p := ⟨gb122, 7, none⟩) (by first | (rw [add_block]; exact hn123_7) | (show (Addr.add _ _).block ≠ _; rw [add_block]; exact hn123_7) | exact hn123_7) (.int .i64 ((rd_T37 x3_1 x9_3).f7))).trans hx123_0; clear hn123_0; clear hn123_1; clear hn123_2; clear hn123_3; clear hn123_4; clear hn123_5; clear hn123_6; clear hn123_7; replace p123 := eq_true p123; replace q123 := eq_true q123; have hcz31_0 : w28.cell? ⟨gb117, 0, none⟩ = some (.string (rdOf ByteArray.empty t113 x7_2)) := (blk_cell BK117.out 0).trans rfl; have hcz31_1 : w28.cell? ⟨gb117, 1, none⟩ = some (.int .i64 x118001_3) := (blk_cell BK117.out 1).trans rfl; have hcz31_2 : w28.cell? ⟨gb117, 2, none⟩ = some (.int .i64 x118002_3) := (blk_cell BK117.out 2).trans rfl; have hcz31_3 : w28.cell? ⟨gb117, 3, none⟩ = some (.int .i64 x118003_3) := (blk_cell BK117.out 3).trans rfl; have hcz31_4 : w28.cell? ⟨gb117, 4, none⟩ = some (.int .i64 x118004_3) := (blk_cell BK117.out 4).trans rfl; have hfz31_0 := blk_frozen BK117.out 0; have hfz31_1 := blk_frozen BK117.out 1; have hfz31_2 := blk_frozen BK117.out 2; have hfz31_3 := blk_frozen BK117.out 3; have hfz31_4 := blk_frozen BK117.out 4)))
                              (try simp only [Act.put, List.setIfInBounds_toArray, List.set_cons_zero, List.set_cons_succ])
                              go_cut [] (fun wc => ∃ (kq : Nat) (x118002_26 : Int), Aside0 (merkhetref27_Of.j3 kq x3_1 x5_2 t113 x7_2 x9_3 (rdOf ByteArray.empty t113 x7_2) (wrap64 (x118001_3 + 1)) x118002_26 x118003_3 x118004_3 ((rd_T37 x3_1 x9_3).f0) ((rd_T37 x3_1 x9_3).f1) ((rd_T37 x3_1 x9_3).f2) ((rd_T37 x3_1 x9_3).f3) ((rd_T37 x3_1 x9_3).f4) ((rd_T37 x3_1 x9_3).f5) ((rd_T37 x3_1 x9_3).f6) ((rd_T37 x3_1 x9_3).f7) = some r) ∧ Aside0 (kq ≤ k3) ∧ Aside0 (Kd.R k37 37 wc w.heap.size (fun k_ => k_ ≠ gb122) (.slice (some ad121) x3_1.length co15) x3_1) ∧ Aside0 (Kd.R k44 44 wc w.heap.size (fun k_ => k_ ≠ gb117) u5 x5_2) ∧ Aside0 (Kd.R Kd.string 9 wc w.heap.size (fun _ => True) (.slice (some ad116) t113.length co19) t113) ∧ Aside0 (wc.heap[gb117]? = some (.cells #[.string (rdOf ByteArray.empty t113 x7_2), .int .i64 (wrap64 (x118001_3 + 1)), .int .i64 x118002_26, .int .i64 x118003_3, .int .i64 x118004_3] 44 (0, 0))) ∧ Aside0 (wc.heap[gb122]? = some (.cells #[.int .u64 ((rd_T37 x3_1 x9_3).f0), .int .u64 ((rd_T37 x3_1 x9_3).f1), .int .u64 ((rd_T37 x3_1 x9_3).f2), .int .u8 ((rd_T37 x3_1 x9_3).f3), .string ((rd_T37 x3_1 x9_3).f4), .string ((rd_T37 x3_1 x9_3).f5), .int .i64 ((rd_T37 x3_1 x9_3).f6), .int .i64 ((rd_T37 x3_1 x9_3).f7)] 37 (0, 0))) ∧ Aside0 (Below w.heap.size w wc))
                              case first =>
                                have H := HC27.out
                                clear HC27
                                by_cases c32 : x118002_3 > (wrap64 (9223372036854775807 - ((rd_T37 x3_1 x9_3).f7)))
                                · rw [if_pos c32] at H
                                  have c32b0 : decide ((wrap64 (9223372036854775807 - ((rd_T37 x3_1 x9_3).f7))) < x118002_3) = true := decide_eq_true c32
                                  clear c32
                                  (first | rw [c32b0] | (simp only [i64_w, i32_w]; rw [c32b0]) | skip)
                                  have H' := Aside0.mk H
                                  clear H
                                  have hnb33 := NB117_122.out
                                  have hnc33 := NB122_117.out
                                  have hcz34_0 : w28.cell? ⟨gb117, 0, none⟩ = some (.string (rdOf ByteArray.empty t113 x7_2)) := (blk_cell BK117.out 0).trans rfl
                                  have hcz34_1 : w28.cell? ⟨gb117, 1, none⟩ = some (.int .i64 x118001_3) := (blk_cell BK117.out 1).trans rfl
                                  have hcz34_2 : w28.cell? ⟨gb117, 2, none⟩ = some (.int .i64 x118002_3) := (blk_cell BK117.out 2).trans rfl
                                  have hcz34_3 : w28.cell? ⟨gb117, 3, none⟩ = some (.int .i64 x118003_3) := (blk_cell BK117.out 3).trans rfl
                                  have hcz34_4 : w28.cell? ⟨gb117, 4, none⟩ = some (.int .i64 x118004_3) := (blk_cell BK117.out 4).trans rfl
                                  have hfz34_0 := blk_frozen BK117.out 0
                                  have hfz34_1 := blk_frozen BK117.out 1
                                  have hfz34_2 := blk_frozen BK117.out 2
                                  have hfz34_3 := blk_frozen BK117.out 3
                                  have hfz34_4 := blk_frozen BK117.out 4
                                  go_wp2
                                  repeat (go_quiet (fail); try go_wp2)
                                  go_meet
                                  case rel => exact ⟨_, (9223372036854775807), H', ⟨by have := HK1.out; have := HK2.out; have := HK3.out; first | omega | exact Nat.le_refl _⟩, ⟨by (with_reducible repeat (first | apply Kd.R_alloc | apply Kd.R_drewN | apply Kd.R_drew)); exact Kd.R_mono (Kd.R_far (p := ⟨gb117, 2, none⟩) (Kd.R_far (p := ⟨gb117, 1, none⟩) (Kd.R_drewN (Kd.R_far (p := ⟨gb122, 7, none⟩) (Kd.R_far (p := ⟨gb122, 6, none⟩) (Kd.R_far (p := ⟨gb122, 5, none⟩) (Kd.R_far (p := ⟨gb122, 4, none⟩) (Kd.R_far (p := ⟨gb122, 3, none⟩) (Kd.R_far (p := ⟨gb122, 2, none⟩) (Kd.R_far (p := ⟨gb122, 1, none⟩) (Kd.R_far (p := ⟨gb122, 0, none⟩) (Kd.R_types (Kd.R_mono HO_3.out (fun k_ hk => (⟨hk, hk.2⟩ : _ ∧ k_ ≠ gb122))) BK117.out (by decide)) (fun _ hk => hk.1.2) (.int .u64 ((rd_T37 x3_1 x9_3).f0))) (fun _ hk => hk.1.2) (.int .u64 ((rd_T37 x3_1 x9_3).f1))) (fun _ hk => hk.1.2) (.int .u64 ((rd_T37 x3_1 x9_3).f2))) (fun _ hk => hk.1.2) (.int .u8 ((rd_T37 x3_1 x9_3).f3))) (fun _ hk => hk.1.2) (.string ((rd_T37 x3_1 x9_3).f4))) (fun _ hk => hk.1.2) (.string ((rd_T37 x3_1 x9_3).f5))) (fun _ hk => hk.1.2) (.int .i64 ((rd_T37 x3_1 x9_3).f6))) (fun _ hk => hk.1.2) (.int .i64 ((rd_T37 x3_1 x9_3).f7))) _) (fun _ hk => hk.2) (.int .i64 (wrap64 (x118001_3 + 1)))) (fun _ hk => hk.2) (.int .i64 9223372036854775807)) (fun _ hk => hk.1.1.2)⟩, ⟨by (with_reducible repeat (first | apply Kd.R_alloc | apply Kd.R_drewN | apply Kd.R_drew)); exact Kd.R_mono (Kd.R_far (p := ⟨gb117, 2, none⟩) (Kd.R_far (p := ⟨gb117, 1, none⟩) (Kd.R_drewN (Kd.R_far (p := ⟨gb122, 7, none⟩) (Kd.R_far (p := ⟨gb122, 6, none⟩) (Kd.R_far (p := ⟨gb122, 5, none⟩) (Kd.R_far (p := ⟨gb122, 4, none⟩) (Kd.R_far (p := ⟨gb122, 3, none⟩) (Kd.R_far (p := ⟨gb122, 2, none⟩) (Kd.R_far (p := ⟨gb122, 1, none⟩) (Kd.R_far (p := ⟨gb122, 0, none⟩) (Kd.R_mono (Kd.R_types HO_5.out BK122.out (by decide)) (fun k_ hk => (⟨hk, hk.1⟩ : _ ∧ k_ ≠ gb117))) (fun _ hk => hk.1.2) (.int .u64 ((rd_T37 x3_1 x9_3).f0))) (fun _ hk => hk.1.2) (.int .u64 ((rd_T37 x3_1 x9_3).f1))) (fun _ hk => hk.1.2) (.int .u64 ((rd_T37 x3_1 x9_3).f2))) (fun _ hk => hk.1.2) (.int .u8 ((rd_T37 x3_1 x9_3).f3))) (fun _ hk => hk.1.2) (.string ((rd_T37 x3_1 x9_3).f4))) (fun _ hk => hk.1.2) (.string ((rd_T37 x3_1 x9_3).f5))) (fun _ hk => hk.1.2) (.int .i64 ((rd_T37 x3_1 x9_3).f6))) (fun _ hk => hk.1.2) (.int .i64 ((rd_T37 x3_1 x9_3).f7))) _) (fun _ hk => hk.2) (.int .i64 (wrap64 (x118001_3 + 1)))) (fun _ hk => hk.2) (.int .i64 9223372036854775807)) (fun _ hk => hk.1.1)⟩, ⟨by (with_reducible repeat (first | apply Kd.R_alloc | apply Kd.R_drewN | apply Kd.R_drew)); exact Kd.R_mono (Kd.R_far (p := ⟨gb117, 2, none⟩) (Kd.R_far (p := ⟨gb117, 1, none⟩) (Kd.R_drewN (Kd.R_far (p := ⟨gb122, 7, none⟩) (Kd.R_far (p := ⟨gb122, 6, none⟩) (Kd.R_far (p := ⟨gb122, 5, none⟩) (Kd.R_far (p := ⟨gb122, 4, none⟩) (Kd.R_far (p := ⟨gb122, 3, none⟩) (Kd.R_far (p := ⟨gb122, 2, none⟩) (Kd.R_far (p := ⟨gb122, 1, none⟩) (Kd.R_far (p := ⟨gb122, 0, none⟩) (Kd.R_types (Kd.R_types HO_6.out BK122.out (by decide)) BK117.out (by decide)) (fun _ hk => hk.1.2) (.int .u64 ((rd_T37 x3_1 x9_3).f0))) (fun _ hk => hk.1.2) (.int .u64 ((rd_T37 x3_1 x9_3).f1))) (fun _ hk => hk.1.2) (.int .u64 ((rd_T37 x3_1 x9_3).f2))) (fun _ hk => hk.1.2) (.int .u8 ((rd_T37 x3_1 x9_3).f3))) (fun _ hk => hk.1.2) (.string ((rd_T37 x3_1 x9_3).f4))) (fun _ hk => hk.1.2) (.string ((rd_T37 x3_1 x9_3).f5))) (fun _ hk => hk.1.2) (.int .i64 ((rd_T37 x3_1 x9_3).f6))) (fun _ hk => hk.1.2) (.int .i64 ((rd_T37 x3_1 x9_3).f7))) _) (fun _ hk => hk.2) (.int .i64 (wrap64 (x118001_3 + 1)))) (fun _ hk => hk.2) (.int .i64 9223372036854775807)) (fun _ hk => trivial)⟩, ⟨by (with_reducible repeat (first | refine blk_drewN ?_ _ | refine blk_drew ?_ | refine blk_alloc ?_ _)); refine blk_put (cs := #[.string (rdOf ByteArray.empty t113 x7_2), .int .i64 (wrap64 (x118001_3 + 1)), .int .i64 x118002_3, .int .i64 x118003_3, .int .i64 x118004_3]) ?_ 2 _ rfl; (with_reducible repeat (first | refine blk_drewN ?_ _ | refine blk_drew ?_ | refine blk_alloc ?_ _)); refine blk_put (cs := #[.string (rdOf ByteArray.empty t113 x7_2), .int .i64 x118001_3, .int .i64 x118002_3, .int .i64 x118003_3, .int .i64 x118004_3]) ?_ 1 _ rfl; (with_reducible repeat (first | refine blk_drewN ?_ _ | refine blk_drew ?_ | refine blk_alloc ?_ _)); refine blk_far ?_ NB117_122.out _; (with_reducible repeat (first | refine blk_drewN ?_ _ | refine blk_drew ?_ | refine blk_alloc ?_ _)); refine blk_far ?_ NB117_122.out _; (with_reducible repeat (first | refine blk_drewN ?_ _ | refine blk_drew ?_ | refine blk_alloc ?_ _)); refine blk_far ?_ NB117_122.out _; (with_reducible repeat (first | refine blk_drewN ?_ _ | refine blk_drew ?_ | refine blk_alloc ?_ _)); refine blk_far ?_ NB117_122.out _; (with_reducible repeat (first | refine blk_drewN ?_ _ | refine blk_drew ?_ | refine blk_alloc ?_ _)); refine blk_far ?_ NB117_122.out _; (with_reducible repeat (first | refine blk_drewN ?_ _ | refine blk_drew ?_ | refine blk_alloc ?_ _)); refine blk_far ?_ NB117_122.out _; (with_reducible repeat (first | refine blk_drewN ?_ _ | refine blk_drew ?_ | refine blk_alloc ?_ _)); refine blk_far ?_ NB117_122.out _; (with_reducible repeat (first | refine blk_drewN ?_ _ | refine blk_drew ?_ | refine blk_alloc ?_ _)); refine blk_far ?_ NB117_122.out _; (with_reducible repeat (first | refine blk_drewN ?_ _ | refine blk_drew ?_ | refine blk_alloc ?_ _)); exact BK117.out⟩, ⟨by (with_reducible repeat (first | refine blk_drewN ?_ _ | refine blk_drew ?_ | refine blk_alloc ?_ _)); refine blk_far ?_ NB122_117.out _; (with_reducible repeat (first | refine blk_drewN ?_ _ | refine blk_drew ?_ | refine blk_alloc ?_ _)); refine blk_far ?_ NB122_117.out _; (with_reducible repeat (first | refine blk_drewN ?_ _ | refine blk_drew ?_ | refine blk_alloc ?_ _)); refine blk_put (cs := #[.int .u64 ((rd_T37 x3_1 x9_3).f0), .int .u64 ((rd_T37 x3_1 x9_3).f1), .int .u64 ((rd_T37 x3_1 x9_3).f2), .int .u8 ((rd_T37 x3_1 x9_3).f3), .string ((rd_T37 x3_1 x9_3).f4), .string ((rd_T37 x3_1 x9_3).f5), .int .i64 ((rd_T37 x3_1 x9_3).f6), .int .i64 0]) ?_ 7 _ rfl; (with_reducible repeat (first | refine blk_drewN ?_ _ | refine blk_drew ?_ | refine blk_alloc ?_ _)); refine blk_put (cs := #[.int .u64 ((rd_T37 x3_1 x9_3).f0), .int .u64 ((rd_T37 x3_1 x9_3).f1), .int .u64 ((rd_T37 x3_1 x9_3).f2), .int .u8 ((rd_T37 x3_1 x9_3).f3), .string ((rd_T37 x3_1 x9_3).f4), .string ((rd_T37 x3_1 x9_3).f5), .int .i64 0, .int .i64 0]) ?_ 6 _ rfl; (with_reducible repeat (first | refine blk_drewN ?_ _ | refine blk_drew ?_ | refine blk_alloc ?_ _)); refine blk_put (cs := #[.int .u64 ((rd_T37 x3_1 x9_3).f0), .int .u64 ((rd_T37 x3_1 x9_3).f1), .int .u64 ((rd_T37 x3_1 x9_3).f2), .int .u8 ((rd_T37 x3_1 x9_3).f3), .string ((rd_T37 x3_1 x9_3).f4), .string (⟨#[]⟩ : ByteArray), .int .i64 0, .int .i64 0]) ?_ 5 _ rfl; (with_reducible repeat (first | refine blk_drewN ?_ _ | refine blk_drew ?_ | refine blk_alloc ?_ _)); refine blk_put (cs := #[.int .u64 ((rd_T37 x3_1 x9_3).f0), .int .u64 ((rd_T37 x3_1 x9_3).f1), .int .u64 ((rd_T37 x3_1 x9_3).f2), .int .u8 ((rd_T37 x3_1 x9_3).f3), .string (⟨#[]⟩ : ByteArray), .string (⟨#[]⟩ : ByteArray), .int .i64 0, .int .i64 0]) ?_ 4 _ rfl; (with_reducible repeat (first | refine blk_drewN ?_ _ | refine blk_drew ?_ | refine blk_alloc ?_ _)); refine blk_put (cs := #[.int .u64 ((rd_T37 x3_1 x9_3).f0), .int .u64 ((rd_T37 x3_1 x9_3).f1), .int .u64 ((rd_T37 x3_1 x9_3).f2), .int .u8 0, .string (⟨#[]⟩ : ByteArray), .string (⟨#[]⟩ : ByteArray), .int .i64 0, .int .i64 0]) ?_ 3 _ rfl; (with_reducible repeat (first | refine blk_drewN ?_ _ | refine blk_drew ?_ | refine blk_alloc ?_ _)); refine blk_put (cs := #[.int .u64 ((rd_T37 x3_1 x9_3).f0), .int .u64 ((rd_T37 x3_1 x9_3).f1), .int .u64 0, .int .u8 0, .string (⟨#[]⟩ : ByteArray), .string (⟨#[]⟩ : ByteArray), .int .i64 0, .int .i64 0]) ?_ 2 _ rfl; (with_reducible repeat (first | refine blk_drewN ?_ _ | refine blk_drew ?_ | refine blk_alloc ?_ _)); refine blk_put (cs := #[.int .u64 ((rd_T37 x3_1 x9_3).f0), .int .u64 0, .int .u64 0, .int .u8 0, .string (⟨#[]⟩ : ByteArray), .string (⟨#[]⟩ : ByteArray), .int .i64 0, .int .i64 0]) ?_ 1 _ rfl; (with_reducible repeat (first | refine blk_drewN ?_ _ | refine blk_drew ?_ | refine blk_alloc ?_ _)); refine blk_put (cs := #[.int .u64 0, .int .u64 0, .int .u64 0, .int .u8 0, .string (⟨#[]⟩ : ByteArray), .string (⟨#[]⟩ : ByteArray), .int .i64 0, .int .i64 0]) ?_ 0 _ rfl; (with_reducible repeat (first | refine blk_drewN ?_ _ | refine blk_drew ?_ | refine blk_alloc ?_ _)); exact BK122.out⟩, ⟨by repeat (first | (with_reducible first | exact HB.out | apply below_alloc | apply pw_below_drewN | apply below_drew1 | refine below_set ?_ GE117.out | refine below_set ?_ GE122.out) | exact HB.out)⟩⟩
                                · rw [if_neg c32] at H
                                  have c32b0 : decide ((wrap64 (9223372036854775807 - ((rd_T37 x3_1 x9_3).f7))) < x118002_3) = false := decide_eq_false c32
                                  clear c32
                                  (first | rw [c32b0] | (simp only [i64_w, i32_w]; rw [c32b0]) | skip)
                                  have H' := Aside0.mk H
                                  clear H
                                  have hnb35 := NB117_122.out
                                  have hnc35 := NB122_117.out
                                  have hcz36_0 : w28.cell? ⟨gb117, 0, none⟩ = some (.string (rdOf ByteArray.empty t113 x7_2)) := (blk_cell BK117.out 0).trans rfl
                                  have hcz36_1 : w28.cell? ⟨gb117, 1, none⟩ = some (.int .i64 x118001_3) := (blk_cell BK117.out 1).trans rfl
                                  have hcz36_2 : w28.cell? ⟨gb117, 2, none⟩ = some (.int .i64 x118002_3) := (blk_cell BK117.out 2).trans rfl
                                  have hcz36_3 : w28.cell? ⟨gb117, 3, none⟩ = some (.int .i64 x118003_3) := (blk_cell BK117.out 3).trans rfl
                                  have hcz36_4 : w28.cell? ⟨gb117, 4, none⟩ = some (.int .i64 x118004_3) := (blk_cell BK117.out 4).trans rfl
                                  have hfz36_0 := blk_frozen BK117.out 0
                                  have hfz36_1 := blk_frozen BK117.out 1
                                  have hfz36_2 := blk_frozen BK117.out 2
                                  have hfz36_3 := blk_frozen BK117.out 3
                                  have hfz36_4 := blk_frozen BK117.out 4
                                  have hcz37_0 : w28.cell? ⟨gb122, 0, none⟩ = some (.int .u64 0) := (blk_cell BK122.out 0).trans rfl
                                  have hcz37_1 : w28.cell? ⟨gb122, 1, none⟩ = some (.int .u64 0) := (blk_cell BK122.out 1).trans rfl
                                  have hcz37_2 : w28.cell? ⟨gb122, 2, none⟩ = some (.int .u64 0) := (blk_cell BK122.out 2).trans rfl
                                  have hcz37_3 : w28.cell? ⟨gb122, 3, none⟩ = some (.int .u8 0) := (blk_cell BK122.out 3).trans rfl
                                  have hcz37_4 : w28.cell? ⟨gb122, 4, none⟩ = some (.string (⟨#[]⟩ : ByteArray)) := (blk_cell BK122.out 4).trans rfl
                                  have hcz37_5 : w28.cell? ⟨gb122, 5, none⟩ = some (.string (⟨#[]⟩ : ByteArray)) := (blk_cell BK122.out 5).trans rfl
                                  have hcz37_6 : w28.cell? ⟨gb122, 6, none⟩ = some (.int .i64 0) := (blk_cell BK122.out 6).trans rfl
                                  have hcz37_7 : w28.cell? ⟨gb122, 7, none⟩ = some (.int .i64 0) := (blk_cell BK122.out 7).trans rfl
                                  have hfz37_0 := blk_frozen BK122.out 0
                                  have hfz37_1 := blk_frozen BK122.out 1
                                  have hfz37_2 := blk_frozen BK122.out 2
                                  have hfz37_3 := blk_frozen BK122.out 3
                                  have hfz37_4 := blk_frozen BK122.out 4
                                  have hfz37_5 := blk_frozen BK122.out 5
                                  have hfz37_6 := blk_frozen BK122.out 6
                                  have hfz37_7 := blk_frozen BK122.out 7
                                  go_wp2
                                  repeat (go_quiet (fail); try go_wp2)
                                  go_meet
                                  case rel => exact ⟨_, (wrap64 (x118002_3 + ((rd_T37 x3_1 x9_3).f7))), H', ⟨by have := HK1.out; have := HK2.out; have := HK3.out; first | omega | exact Nat.le_refl _⟩, ⟨by (with_reducible repeat (first | apply Kd.R_alloc | apply Kd.R_drewN | apply Kd.R_drew)); exact Kd.R_mono (Kd.R_far (p := ⟨gb117, 2, none⟩) (Kd.R_far (p := ⟨gb117, 1, none⟩) (Kd.R_drewN (Kd.R_far (p := ⟨gb122, 7, none⟩) (Kd.R_far (p := ⟨gb122, 6, none⟩) (Kd.R_far (p := ⟨gb122, 5, none⟩) (Kd.R_far (p := ⟨gb122, 4, none⟩) (Kd.R_far (p := ⟨gb122, 3, none⟩) (Kd.R_far (p := ⟨gb122, 2, none⟩) (Kd.R_far (p := ⟨gb122, 1, none⟩) (Kd.R_far (p := ⟨gb122, 0, none⟩) (Kd.R_types (Kd.R_mono HO_3.out (fun k_ hk => (⟨hk, hk.2⟩ : _ ∧ k_ ≠ gb122))) BK117.out (by decide)) (fun _ hk => hk.1.2) (.int .u64 ((rd_T37 x3_1 x9_3).f0))) (fun _ hk => hk.1.2) (.int .u64 ((rd_T37 x3_1 x9_3).f1))) (fun _ hk => hk.1.2) (.int .u64 ((rd_T37 x3_1 x9_3).f2))) (fun _ hk => hk.1.2) (.int .u8 ((rd_T37 x3_1 x9_3).f3))) (fun _ hk => hk.1.2) (.string ((rd_T37 x3_1 x9_3).f4))) (fun _ hk => hk.1.2) (.string ((rd_T37 x3_1 x9_3).f5))) (fun _ hk => hk.1.2) (.int .i64 ((rd_T37 x3_1 x9_3).f6))) (fun _ hk => hk.1.2) (.int .i64 ((rd_T37 x3_1 x9_3).f7))) _) (fun _ hk => hk.2) (.int .i64 (wrap64 (x118001_3 + 1)))) (fun _ hk => hk.2) (.int .i64 (wrap64 (x118002_3 + ((rd_T37 x3_1 x9_3).f7))))) (fun _ hk => hk.1.1.2)⟩, ⟨by (with_reducible repeat (first | apply Kd.R_alloc | apply Kd.R_drewN | apply Kd.R_drew)); exact Kd.R_mono (Kd.R_far (p := ⟨gb117, 2, none⟩) (Kd.R_far (p := ⟨gb117, 1, none⟩) (Kd.R_drewN (Kd.R_far (p := ⟨gb122, 7, none⟩) (Kd.R_far (p := ⟨gb122, 6, none⟩) (Kd.R_far (p := ⟨gb122, 5, none⟩) (Kd.R_far (p := ⟨gb122, 4, none⟩) (Kd.R_far (p := ⟨gb122, 3, none⟩) (Kd.R_far (p := ⟨gb122, 2, none⟩) (Kd.R_far (p := ⟨gb122, 1, none⟩) (Kd.R_far (p := ⟨gb122, 0, none⟩) (Kd.R_mono (Kd.R_types HO_5.out BK122.out (by decide)) (fun k_ hk => (⟨hk, hk.1⟩ : _ ∧ k_ ≠ gb117))) (fun _ hk => hk.1.2) (.int .u64 ((rd_T37 x3_1 x9_3).f0))) (fun _ hk => hk.1.2) (.int .u64 ((rd_T37 x3_1 x9_3).f1))) (fun _ hk => hk.1.2) (.int .u64 ((rd_T37 x3_1 x9_3).f2))) (fun _ hk => hk.1.2) (.int .u8 ((rd_T37 x3_1 x9_3).f3))) (fun _ hk => hk.1.2) (.string ((rd_T37 x3_1 x9_3).f4))) (fun _ hk => hk.1.2) (.string ((rd_T37 x3_1 x9_3).f5))) (fun _ hk => hk.1.2) (.int .i64 ((rd_T37 x3_1 x9_3).f6))) (fun _ hk => hk.1.2) (.int .i64 ((rd_T37 x3_1 x9_3).f7))) _) (fun _ hk => hk.2) (.int .i64 (wrap64 (x118001_3 + 1)))) (fun _ hk => hk.2) (.int .i64 (wrap64 (x118002_3 + ((rd_T37 x3_1 x9_3).f7))))) (fun _ hk => hk.1.1)⟩, ⟨by (with_reducible repeat (first | apply Kd.R_alloc | apply Kd.R_drewN | apply Kd.R_drew)); exact Kd.R_mono (Kd.R_far (p := ⟨gb117, 2, none⟩) (Kd.R_far (p := ⟨gb117, 1, none⟩) (Kd.R_drewN (Kd.R_far (p := ⟨gb122, 7, none⟩) (Kd.R_far (p := ⟨gb122, 6, none⟩) (Kd.R_far (p := ⟨gb122, 5, none⟩) (Kd.R_far (p := ⟨gb122, 4, none⟩) (Kd.R_far (p := ⟨gb122, 3, none⟩) (Kd.R_far (p := ⟨gb122, 2, none⟩) (Kd.R_far (p := ⟨gb122, 1, none⟩) (Kd.R_far (p := ⟨gb122, 0, none⟩) (Kd.R_types (Kd.R_types HO_6.out BK122.out (by decide)) BK117.out (by decide)) (fun _ hk => hk.1.2) (.int .u64 ((rd_T37 x3_1 x9_3).f0))) (fun _ hk => hk.1.2) (.int .u64 ((rd_T37 x3_1 x9_3).f1))) (fun _ hk => hk.1.2) (.int .u64 ((rd_T37 x3_1 x9_3).f2))) (fun _ hk => hk.1.2) (.int .u8 ((rd_T37 x3_1 x9_3).f3))) (fun _ hk => hk.1.2) (.string ((rd_T37 x3_1 x9_3).f4))) (fun _ hk => hk.1.2) (.string ((rd_T37 x3_1 x9_3).f5))) (fun _ hk => hk.1.2) (.int .i64 ((rd_T37 x3_1 x9_3).f6))) (fun _ hk => hk.1.2) (.int .i64 ((rd_T37 x3_1 x9_3).f7))) _) (fun _ hk => hk.2) (.int .i64 (wrap64 (x118001_3 + 1)))) (fun _ hk => hk.2) (.int .i64 (wrap64 (x118002_3 + ((rd_T37 x3_1 x9_3).f7))))) (fun _ hk => trivial)⟩, ⟨by (with_reducible repeat (first | refine blk_drewN ?_ _ | refine blk_drew ?_ | refine blk_alloc ?_ _)); refine blk_put (cs := #[.string (rdOf ByteArray.empty t113 x7_2), .int .i64 (wrap64 (x118001_3 + 1)), .int .i64 x118002_3, .int .i64 x118003_3, .int .i64 x118004_3]) ?_ 2 _ rfl; (with_reducible repeat (first | refine blk_drewN ?_ _ | refine blk_drew ?_ | refine blk_alloc ?_ _)); refine blk_put (cs := #[.string (rdOf ByteArray.empty t113 x7_2), .int .i64 x118001_3, .int .i64 x118002_3, .int .i64 x118003_3, .int .i64 x118004_3]) ?_ 1 _ rfl; (with_reducible repeat (first | refine blk_drewN ?_ _ | refine blk_drew ?_ | refine blk_alloc ?_ _)); refine blk_far ?_ NB117_122.out _; (with_reducible repeat (first | refine blk_drewN ?_ _ | refine blk_drew ?_ | refine blk_alloc ?_ _)); refine blk_far ?_ NB117_122.out _; (with_reducible repeat (first | refine blk_drewN ?_ _ | refine blk_drew ?_ | refine blk_alloc ?_ _)); refine blk_far ?_ NB117_122.out _; (with_reducible repeat (first | refine blk_drewN ?_ _ | refine blk_drew ?_ | refine blk_alloc ?_ _)); refine blk_far ?_ NB117_122.out _; (with_reducible repeat (first | refine blk_drewN ?_ _ | refine blk_drew ?_ | refine blk_alloc ?_ _)); refine blk_far ?_ NB117_122.out _; (with_reducible repeat (first | refine blk_drewN ?_ _ | refine blk_drew ?_ | refine blk_alloc ?_ _)); refine blk_far ?_ NB117_122.out _; (with_reducible repeat (first | refine blk_drewN ?_ _ | refine blk_drew ?_ | refine blk_alloc ?_ _)); refine blk_far ?_ NB117_122.out _; (with_reducible repeat (first | refine blk_drewN ?_ _ | refine blk_drew ?_ | refine blk_alloc ?_ _)); refine blk_far ?_ NB117_122.out _; (with_reducible repeat (first | refine blk_drewN ?_ _ | refine blk_drew ?_ | refine blk_alloc ?_ _)); exact BK117.out⟩, ⟨by (with_reducible repeat (first | refine blk_drewN ?_ _ | refine blk_drew ?_ | refine blk_alloc ?_ _)); refine blk_far ?_ NB122_117.out _; (with_reducible repeat (first | refine blk_drewN ?_ _ | refine blk_drew ?_ | refine blk_alloc ?_ _)); refine blk_far ?_ NB122_117.out _; (with_reducible repeat (first | refine blk_drewN ?_ _ | refine blk_drew ?_ | refine blk_alloc ?_ _)); refine blk_put (cs := #[.int .u64 ((rd_T37 x3_1 x9_3).f0), .int .u64 ((rd_T37 x3_1 x9_3).f1), .int .u64 ((rd_T37 x3_1 x9_3).f2), .int .u8 ((rd_T37 x3_1 x9_3).f3), .string ((rd_T37 x3_1 x9_3).f4), .string ((rd_T37 x3_1 x9_3).f5), .int .i64 ((rd_T37 x3_1 x9_3).f6), .int .i64 0]) ?_ 7 _ rfl; (with_reducible repeat (first | refine blk_drewN ?_ _ | refine blk_drew ?_ | refine blk_alloc ?_ _)); refine blk_put (cs := #[.int .u64 ((rd_T37 x3_1 x9_3).f0), .int .u64 ((rd_T37 x3_1 x9_3).f1), .int .u64 ((rd_T37 x3_1 x9_3).f2), .int .u8 ((rd_T37 x3_1 x9_3).f3), .string ((rd_T37 x3_1 x9_3).f4), .string ((rd_T37 x3_1 x9_3).f5), .int .i64 0, .int .i64 0]) ?_ 6 _ rfl; (with_reducible repeat (first | refine blk_drewN ?_ _ | refine blk_drew ?_ | refine blk_alloc ?_ _)); refine blk_put (cs := #[.int .u64 ((rd_T37 x3_1 x9_3).f0), .int .u64 ((rd_T37 x3_1 x9_3).f1), .int .u64 ((rd_T37 x3_1 x9_3).f2), .int .u8 ((rd_T37 x3_1 x9_3).f3), .string ((rd_T37 x3_1 x9_3).f4), .string (⟨#[]⟩ : ByteArray), .int .i64 0, .int .i64 0]) ?_ 5 _ rfl; (with_reducible repeat (first | refine blk_drewN ?_ _ | refine blk_drew ?_ | refine blk_alloc ?_ _)); refine blk_put (cs := #[.int .u64 ((rd_T37 x3_1 x9_3).f0), .int .u64 ((rd_T37 x3_1 x9_3).f1), .int .u64 ((rd_T37 x3_1 x9_3).f2), .int .u8 ((rd_T37 x3_1 x9_3).f3), .string (⟨#[]⟩ : ByteArray), .string (⟨#[]⟩ : ByteArray), .int .i64 0, .int .i64 0]) ?_ 4 _ rfl; (with_reducible repeat (first | refine blk_drewN ?_ _ | refine blk_drew ?_ | refine blk_alloc ?_ _)); refine blk_put (cs := #[.int .u64 ((rd_T37 x3_1 x9_3).f0), .int .u64 ((rd_T37 x3_1 x9_3).f1), .int .u64 ((rd_T37 x3_1 x9_3).f2), .int .u8 0, .string (⟨#[]⟩ : ByteArray), .string (⟨#[]⟩ : ByteArray), .int .i64 0, .int .i64 0]) ?_ 3 _ rfl; (with_reducible repeat (first | refine blk_drewN ?_ _ | refine blk_drew ?_ | refine blk_alloc ?_ _)); refine blk_put (cs := #[.int .u64 ((rd_T37 x3_1 x9_3).f0), .int .u64 ((rd_T37 x3_1 x9_3).f1), .int .u64 0, .int .u8 0, .string (⟨#[]⟩ : ByteArray), .string (⟨#[]⟩ : ByteArray), .int .i64 0, .int .i64 0]) ?_ 2 _ rfl; (with_reducible repeat (first | refine blk_drewN ?_ _ | refine blk_drew ?_ | refine blk_alloc ?_ _)); refine blk_put (cs := #[.int .u64 ((rd_T37 x3_1 x9_3).f0), .int .u64 0, .int .u64 0, .int .u8 0, .string (⟨#[]⟩ : ByteArray), .string (⟨#[]⟩ : ByteArray), .int .i64 0, .int .i64 0]) ?_ 1 _ rfl; (with_reducible repeat (first | refine blk_drewN ?_ _ | refine blk_drew ?_ | refine blk_alloc ?_ _)); refine blk_put (cs := #[.int .u64 0, .int .u64 0, .int .u64 0, .int .u8 0, .string (⟨#[]⟩ : ByteArray), .string (⟨#[]⟩ : ByteArray), .int .i64 0, .int .i64 0]) ?_ 0 _ rfl; (with_reducible repeat (first | refine blk_drewN ?_ _ | refine blk_drew ?_ | refine blk_alloc ?_ _)); exact BK122.out⟩, ⟨by repeat (first | (with_reducible first | exact HB.out | apply below_alloc | apply pw_below_drewN | apply below_drew1 | refine below_set ?_ GE117.out | refine below_set ?_ GE122.out) | exact HB.out)⟩⟩
                              case rest =>
                                clear HC27
                                (try clear c1); (try clear p1); (try clear q1); (try clear hx1); (try clear c2); (try clear p2); (try clear c3); (try clear c4); (try clear c4b0); (try clear c5); (try clear c5b0); (try clear p6); (try clear c7); (try clear c8); (try clear p10); (try clear q10); (try clear hx10); (try clear p11); (try clear q11); (try clear hx11); (try clear p12); (try clear q12); (try clear hx12); (try clear c17); (try clear c17b0); (try clear c18); (try clear c18b0); (try clear c22); (try clear c22b0); (try clear c23); (try clear c23b0); (try clear c24); (try clear c24b0); (try clear c25); (try clear c25b0); (try clear c26); (try clear c26b0); (try clear c26b1); (try clear c29); (try clear c32); (try clear c32b0); (try clear c33); (try clear c35); (try clear hcz21_0); (try clear hcz21_1); (try clear hcz21_2); (try clear hcz21_3); (try clear hcz21_4); (try clear hcz30_0); (try clear hcz30_1); (try clear hcz30_2); (try clear hcz30_3); (try clear hcz30_4); (try clear hcz30_5); (try clear hcz30_6); (try clear hcz30_7); (try clear hcz31_0); (try clear hcz31_1); (try clear hcz31_2); (try clear hcz31_3); (try clear hcz31_4); (try clear hcz34_0); (try clear hcz34_1); (try clear hcz34_2); (try clear hcz34_3); (try clear hcz34_4); (try clear hcz36_0); (try clear hcz36_1); (try clear hcz36_2); (try clear hcz36_3); (try clear hcz36_4); (try clear hcz37_0); (try clear hcz37_1); (try clear hcz37_2); (try clear hcz37_3); (try clear hcz37_4); (try clear hcz37_5); (try clear hcz37_6); (try clear hcz37_7); (try clear hfz21_0); (try clear hfz21_1); (try clear hfz21_2); (try clear hfz21_3); (try clear hfz21_4); (try clear hfz30_0); (try clear hfz30_1); (try clear hfz30_2); (try clear hfz30_3); (try clear hfz30_4); (try clear hfz30_5); (try clear hfz30_6); (try clear hfz30_7); (try clear hfz31_0); (try clear hfz31_1); (try clear hfz31_2); (try clear hfz31_3); (try clear hfz31_4); (try clear hfz34_0); (try clear hfz34_1); (try clear hfz34_2); (try clear hfz34_3); (try clear hfz34_4); (try clear hfz36_0); (try clear hfz36_1); (try clear hfz36_2); (try clear hfz36_3); (try clear hfz36_4); (try clear hfz37_0); (try clear hfz37_1); (try clear hfz37_2); (try clear hfz37_3); (try clear hfz37_4); (try clear hfz37_5); (try clear hfz37_6); (try clear hfz37_7); (try clear hx104_0); (try clear hx104_1); (try clear hx104_2); (try clear hx104_3); (try clear hx104_4); (try clear hx104_5); (try clear hx104_6); (try clear hx104_7); (try clear hx106_0); (try clear hx106_1); (try clear hx106_2); (try clear hx106_3); (try clear hx106_4); (try clear hx106_5); (try clear hx106_6); (try clear hx106_7); (try clear hx116_0); (try clear hx121_0); (try clear hx121_1); (try clear hx121_2); (try clear hx121_3); (try clear hx121_4); (try clear hx121_5); (try clear hx121_6); (try clear hx121_7); (try clear hx123_0); (try clear p1); (try clear p10); (try clear p104); (try clear p106); (try clear p11); (try clear p116); (try clear p121); (try clear p123); (try clear p2); (try clear p6); (try clear q1); (try clear q10); (try clear q104); (try clear q106); (try clear q11); (try clear q116); (try clear q121); (try clear q123)
                                obtain ⟨kq, x118002_26, HA, HJ26, HO_3, HO_5, HO_6, BK117, BK122, HB⟩ := hcut
                                cases kq with
                                | zero => exact absurd HA.out (by simp [merkhetref27_Of.j3])
                                | succ kj26 =>
                                  have H := HA.out
                                  clear HA
                                  simp only [merkhetref27_Of.j3] at H
                                  by_cases c38 : ((rd_T37 x3_1 x9_3).f3) = 1
                                  · rw [if_pos c38] at H
                                    have c38b0 : (((rd_T37 x3_1 x9_3).f3) == 1) = true := beq_iff_eq.mpr c38
                                    have c38b1 : (((rd_T37 x3_1 x9_3).f3) != 1) = false := bne_eq_false_iff_eq.mpr c38
                                    clear c38
                                    by_cases c39 : ((rd_T37 x3_1 x9_3).f3) = 2
                                    · rw [if_pos c39] at H
                                      have c39b0 : (((rd_T37 x3_1 x9_3).f3) == 2) = true := beq_iff_eq.mpr c39
                                      have c39b1 : (((rd_T37 x3_1 x9_3).f3) != 2) = false := bne_eq_false_iff_eq.mpr c39
                                      clear c39
                                      have H' := Aside0.mk H
                                      clear H
                                      have hnb40 := NB122_117.out
                                      have hnc40 := NB117_122.out
                                      have hcz41_0 : wc.cell? ⟨gb122, 0, none⟩ = some (.int .u64 ((rd_T37 x3_1 x9_3).f0)) := (blk_cell BK122.out 0).trans rfl
                                      have hcz41_1 : wc.cell? ⟨gb122, 1, none⟩ = some (.int .u64 ((rd_T37 x3_1 x9_3).f1)) := (blk_cell BK122.out 1).trans rfl
                                      have hcz41_2 : wc.cell? ⟨gb122, 2, none⟩ = some (.int .u64 ((rd_T37 x3_1 x9_3).f2)) := (blk_cell BK122.out 2).trans rfl
                                      have hcz41_3 : wc.cell? ⟨gb122, 3, none⟩ = some (.int .u8 ((rd_T37 x3_1 x9_3).f3)) := (blk_cell BK122.out 3).trans rfl
                                      have hcz41_4 : wc.cell? ⟨gb122, 4, none⟩ = some (.string ((rd_T37 x3_1 x9_3).f4)) := (blk_cell BK122.out 4).trans rfl
                                      have hcz41_5 : wc.cell? ⟨gb122, 5, none⟩ = some (.string ((rd_T37 x3_1 x9_3).f5)) := (blk_cell BK122.out 5).trans rfl
                                      have hcz41_6 : wc.cell? ⟨gb122, 6, none⟩ = some (.int .i64 ((rd_T37 x3_1 x9_3).f6)) := (blk_cell BK122.out 6).trans rfl
                                      have hcz41_7 : wc.cell? ⟨gb122, 7, none⟩ = some (.int .i64 ((rd_T37 x3_1 x9_3).f7)) := (blk_cell BK122.out 7).trans rfl
                                      have hfz41_0 := blk_frozen BK122.out 0
                                      have hfz41_1 := blk_frozen BK122.out 1
                                      have hfz41_2 := blk_frozen BK122.out 2
                                      have hfz41_3 := blk_frozen BK122.out 3
                                      have hfz41_4 := blk_frozen BK122.out 4
                                      have hfz41_5 := blk_frozen BK122.out 5
                                      have hfz41_6 := blk_frozen BK122.out 6
                                      have hfz41_7 := blk_frozen BK122.out 7
                                      have hcz42_0 : wc.cell? ⟨gb117, 0, none⟩ = some (.string (rdOf ByteArray.empty t113 x7_2)) := (blk_cell BK117.out 0).trans rfl
                                      have hcz42_1 : wc.cell? ⟨gb117, 1, none⟩ = some (.int .i64 (wrap64 (x118001_3 + 1))) := (blk_cell BK117.out 1).trans rfl
                                      have hcz42_2 : wc.cell? ⟨gb117, 2, none⟩ = some (.int .i64 x118002_26) := (blk_cell BK117.out 2).trans rfl
                                      have hcz42_3 : wc.cell? ⟨gb117, 3, none⟩ = some (.int .i64 x118003_3) := (blk_cell BK117.out 3).trans rfl
                                      have hcz42_4 : wc.cell? ⟨gb117, 4, none⟩ = some (.int .i64 x118004_3) := (blk_cell BK117.out 4).trans rfl
                                      have hfz42_0 := blk_frozen BK117.out 0
                                      have hfz42_1 := blk_frozen BK117.out 1
                                      have hfz42_2 := blk_frozen BK117.out 2
                                      have hfz42_3 := blk_frozen BK117.out 3
                                      have hfz42_4 := blk_frozen BK117.out 4
                                      go_wp2
                                      repeat (go_quiet (fail); try go_wp2)
                                      go_roundg kj26
                                      case measure => have := HK1.out; have := HK2.out; have := HK3.out; have := HJ26.out; omega
                                      case rel => exact ⟨(wrap64 (x9_3 + 1)), ((wrap64 (x118001_3 + 1))), (x118002_26), (wrap64 (x118003_3 + 1)), (wrap64 (x118004_3 + 1)), (by first | rfl | (simp; done) | (simp [*]; done)), H', ⟨by have := HK1.out; have := HK2.out; have := HK3.out; have := HJ26.out; omega⟩, ⟨by (with_reducible repeat (first | apply Kd.R_alloc | apply Kd.R_drewN | apply Kd.R_drew)); exact Kd.R_mono (Kd.R_far (p := ⟨gb117, 4, none⟩) (Kd.R_far (p := ⟨gb117, 3, none⟩) (Kd.R_types HO_3.out BK117.out (by decide)) (fun _ hk => hk.2) (.int .i64 (wrap64 (x118003_3 + 1)))) (fun _ hk => hk.2) (.int .i64 (wrap64 (x118004_3 + 1)))) (fun _ hk => trivial)⟩, ⟨by (with_reducible repeat (first | apply Kd.R_alloc | apply Kd.R_drewN | apply Kd.R_drew)); exact Kd.R_mono (Kd.R_far (p := ⟨gb117, 4, none⟩) (Kd.R_far (p := ⟨gb117, 3, none⟩) (Kd.R_mono HO_5.out (fun k_ hk => (⟨hk, hk⟩ : _ ∧ k_ ≠ gb117))) (fun _ hk => hk.2) (.int .i64 (wrap64 (x118003_3 + 1)))) (fun _ hk => hk.2) (.int .i64 (wrap64 (x118004_3 + 1)))) (fun _ hk => hk.1)⟩, ⟨by (with_reducible repeat (first | apply Kd.R_alloc | apply Kd.R_drewN | apply Kd.R_drew)); exact Kd.R_mono (Kd.R_far (p := ⟨gb117, 4, none⟩) (Kd.R_far (p := ⟨gb117, 3, none⟩) (Kd.R_types HO_6.out BK117.out (by decide)) (fun _ hk => hk.2) (.int .i64 (wrap64 (x118003_3 + 1)))) (fun _ hk => hk.2) (.int .i64 (wrap64 (x118004_3 + 1)))) (fun _ hk => trivial)⟩, ⟨by (with_reducible repeat (first | refine blk_drewN ?_ _ | refine blk_drew ?_ | refine blk_alloc ?_ _)); refine blk_put (cs := #[.string (rdOf ByteArray.empty t113 x7_2), .int .i64 (wrap64 (x118001_3 + 1)), .int .i64 x118002_26, .int .i64 (wrap64 (x118003_3 + 1)), .int .i64 x118004_3]) ?_ 4 _ rfl; (with_reducible repeat (first | refine blk_drewN ?_ _ | refine blk_drew ?_ | refine blk_alloc ?_ _)); refine blk_put (cs := #[.string (rdOf ByteArray.empty t113 x7_2), .int .i64 (wrap64 (x118001_3 + 1)), .int .i64 x118002_26, .int .i64 x118003_3, .int .i64 x118004_3]) ?_ 3 _ rfl; (with_reducible repeat (first | refine blk_drewN ?_ _ | refine blk_drew ?_ | refine blk_alloc ?_ _)); exact BK117.out⟩, ⟨by repeat (first | (with_reducible first | exact HB.out | apply below_alloc | apply pw_below_drewN | apply below_drew1 | refine below_set ?_ GE117.out | refine below_set ?_ GE122.out) | exact HB.out)⟩⟩
                                    · rw [if_neg c39] at H
                                      have c39b0 : (((rd_T37 x3_1 x9_3).f3) == 2) = false := beq_eq_false_iff_ne.mpr c39
                                      have c39b1 : (((rd_T37 x3_1 x9_3).f3) != 2) = true := bne_iff_ne.mpr c39
                                      have H' := Aside0.mk H
                                      clear H
                                      have hnb43 := NB122_117.out
                                      have hnc43 := NB117_122.out
                                      have hcz44_0 : wc.cell? ⟨gb122, 0, none⟩ = some (.int .u64 ((rd_T37 x3_1 x9_3).f0)) := (blk_cell BK122.out 0).trans rfl
                                      have hcz44_1 : wc.cell? ⟨gb122, 1, none⟩ = some (.int .u64 ((rd_T37 x3_1 x9_3).f1)) := (blk_cell BK122.out 1).trans rfl
                                      have hcz44_2 : wc.cell? ⟨gb122, 2, none⟩ = some (.int .u64 ((rd_T37 x3_1 x9_3).f2)) := (blk_cell BK122.out 2).trans rfl
                                      have hcz44_3 : wc.cell? ⟨gb122, 3, none⟩ = some (.int .u8 ((rd_T37 x3_1 x9_3).f3)) := (blk_cell BK122.out 3).trans rfl
                                      have hcz44_4 : wc.cell? ⟨gb122, 4, none⟩ = some (.string ((rd_T37 x3_1 x9_3).f4)) := (blk_cell BK122.out 4).trans rfl
                                      have hcz44_5 : wc.cell? ⟨gb122, 5, none⟩ = some (.string ((rd_T37 x3_1 x9_3).f5)) := (blk_cell BK122.out 5).trans rfl
                                      have hcz44_6 : wc.cell? ⟨gb122, 6, none⟩ = some (.int .i64 ((rd_T37 x3_1 x9_3).f6)) := (blk_cell BK122.out 6).trans rfl
                                      have hcz44_7 : wc.cell? ⟨gb122, 7, none⟩ = some (.int .i64 ((rd_T37 x3_1 x9_3).f7)) := (blk_cell BK122.out 7).trans rfl
                                      have hfz44_0 := blk_frozen BK122.out 0
                                      have hfz44_1 := blk_frozen BK122.out 1
                                      have hfz44_2 := blk_frozen BK122.out 2
                                      have hfz44_3 := blk_frozen BK122.out 3
                                      have hfz44_4 := blk_frozen BK122.out 4
                                      have hfz44_5 := blk_frozen BK122.out 5
                                      have hfz44_6 := blk_frozen BK122.out 6
                                      have hfz44_7 := blk_frozen BK122.out 7
                                      have hcz45_0 : wc.cell? ⟨gb117, 0, none⟩ = some (.string (rdOf ByteArray.empty t113 x7_2)) := (blk_cell BK117.out 0).trans rfl
                                      have hcz45_1 : wc.cell? ⟨gb117, 1, none⟩ = some (.int .i64 (wrap64 (x118001_3 + 1))) := (blk_cell BK117.out 1).trans rfl
                                      have hcz45_2 : wc.cell? ⟨gb117, 2, none⟩ = some (.int .i64 x118002_26) := (blk_cell BK117.out 2).trans rfl
                                      have hcz45_3 : wc.cell? ⟨gb117, 3, none⟩ = some (.int .i64 x118003_3) := (blk_cell BK117.out 3).trans rfl
                                      have hcz45_4 : wc.cell? ⟨gb117, 4, none⟩ = some (.int .i64 x118004_3) := (blk_cell BK117.out 4).trans rfl
                                      have hfz45_0 := blk_frozen BK117.out 0
                                      have hfz45_1 := blk_frozen BK117.out 1
                                      have hfz45_2 := blk_frozen BK117.out 2
                                      have hfz45_3 := blk_frozen BK117.out 3
                                      have hfz45_4 := blk_frozen BK117.out 4
                                      go_wp2
                                      repeat (go_quiet (fail); try go_wp2)
                                      go_roundg kj26
                                      case measure => have := HK1.out; have := HK2.out; have := HK3.out; have := HJ26.out; omega
                                      case rel => exact ⟨(wrap64 (x9_3 + 1)), ((wrap64 (x118001_3 + 1))), (x118002_26), (wrap64 (x118003_3 + 1)), (x118004_3), (by first | rfl | (simp; done) | (simp [*]; done)), H', ⟨by have := HK1.out; have := HK2.out; have := HK3.out; have := HJ26.out; omega⟩, ⟨by (with_reducible repeat (first | apply Kd.R_alloc | apply Kd.R_drewN | apply Kd.R_drew)); exact Kd.R_mono (Kd.R_far (p := ⟨gb117, 3, none⟩) (Kd.R_types HO_3.out BK117.out (by decide)) (fun _ hk => hk.2) (.int .i64 (wrap64 (x118003_3 + 1)))) (fun _ hk => trivial)⟩, ⟨by (with_reducible repeat (first | apply Kd.R_alloc | apply Kd.R_drewN | apply Kd.R_drew)); exact Kd.R_mono (Kd.R_far (p := ⟨gb117, 3, none⟩) (Kd.R_mono HO_5.out (fun k_ hk => (⟨hk, hk⟩ : _ ∧ k_ ≠ gb117))) (fun _ hk => hk.2) (.int .i64 (wrap64 (x118003_3 + 1)))) (fun _ hk => hk.1)⟩, ⟨by (with_reducible repeat (first | apply Kd.R_alloc | apply Kd.R_drewN | apply Kd.R_drew)); exact Kd.R_mono (Kd.R_far (p := ⟨gb117, 3, none⟩) (Kd.R_types HO_6.out BK117.out (by decide)) (fun _ hk => hk.2) (.int .i64 (wrap64 (x118003_3 + 1)))) (fun _ hk => trivial)⟩, ⟨by (with_reducible repeat (first | refine blk_drewN ?_ _ | refine blk_drew ?_ | refine blk_alloc ?_ _)); refine blk_put (cs := #[.string (rdOf ByteArray.empty t113 x7_2), .int .i64 (wrap64 (x118001_3 + 1)), .int .i64 x118002_26, .int .i64 x118003_3, .int .i64 x118004_3]) ?_ 3 _ rfl; (with_reducible repeat (first | refine blk_drewN ?_ _ | refine blk_drew ?_ | refine blk_alloc ?_ _)); exact BK117.out⟩, ⟨by repeat (first | (with_reducible first | exact HB.out | apply below_alloc | apply pw_below_drewN | apply below_drew1 | refine below_set ?_ GE117.out | refine below_set ?_ GE122.out) | exact HB.out)⟩⟩
                                  · rw [if_neg c38] at H
                                    have c38b0 : (((rd_T37 x3_1 x9_3).f3) == 1) = false := beq_eq_false_iff_ne.mpr c38
                                    have c38b1 : (((rd_T37 x3_1 x9_3).f3) != 1) = true := bne_iff_ne.mpr c38
                                    by_cases c46 : ((rd_T37 x3_1 x9_3).f3) = 2
                                    · rw [if_pos c46] at H
                                      have c46b0 : (((rd_T37 x3_1 x9_3).f3) == 2) = true := beq_iff_eq.mpr c46
                                      have c46b1 : (((rd_T37 x3_1 x9_3).f3) != 2) = false := bne_eq_false_iff_eq.mpr c46
                                      clear c46
                                      have H' := Aside0.mk H
                                      clear H
                                      have hnb47 := NB122_117.out
                                      have hnc47 := NB117_122.out
                                      have hcz48_0 : wc.cell? ⟨gb122, 0, none⟩ = some (.int .u64 ((rd_T37 x3_1 x9_3).f0)) := (blk_cell BK122.out 0).trans rfl
                                      have hcz48_1 : wc.cell? ⟨gb122, 1, none⟩ = some (.int .u64 ((rd_T37 x3_1 x9_3).f1)) := (blk_cell BK122.out 1).trans rfl
                                      have hcz48_2 : wc.cell? ⟨gb122, 2, none⟩ = some (.int .u64 ((rd_T37 x3_1 x9_3).f2)) := (blk_cell BK122.out 2).trans rfl
                                      have hcz48_3 : wc.cell? ⟨gb122, 3, none⟩ = some (.int .u8 ((rd_T37 x3_1 x9_3).f3)) := (blk_cell BK122.out 3).trans rfl
                                      have hcz48_4 : wc.cell? ⟨gb122, 4, none⟩ = some (.string ((rd_T37 x3_1 x9_3).f4)) := (blk_cell BK122.out 4).trans rfl
                                      have hcz48_5 : wc.cell? ⟨gb122, 5, none⟩ = some (.string ((rd_T37 x3_1 x9_3).f5)) := (blk_cell BK122.out 5).trans rfl
                                      have hcz48_6 : wc.cell? ⟨gb122, 6, none⟩ = some (.int .i64 ((rd_T37 x3_1 x9_3).f6)) := (blk_cell BK122.out 6).trans rfl
                                      have hcz48_7 : wc.cell? ⟨gb122, 7, none⟩ = some (.int .i64 ((rd_T37 x3_1 x9_3).f7)) := (blk_cell BK122.out 7).trans rfl
                                      have hfz48_0 := blk_frozen BK122.out 0
                                      have hfz48_1 := blk_frozen BK122.out 1
                                      have hfz48_2 := blk_frozen BK122.out 2
                                      have hfz48_3 := blk_frozen BK122.out 3
                                      have hfz48_4 := blk_frozen BK122.out 4
                                      have hfz48_5 := blk_frozen BK122.out 5
                                      have hfz48_6 := blk_frozen BK122.out 6
                                      have hfz48_7 := blk_frozen BK122.out 7
                                      have hcz49_0 : wc.cell? ⟨gb117, 0, none⟩ = some (.string (rdOf ByteArray.empty t113 x7_2)) := (blk_cell BK117.out 0).trans rfl
                                      have hcz49_1 : wc.cell? ⟨gb117, 1, none⟩ = some (.int .i64 (wrap64 (x118001_3 + 1))) := (blk_cell BK117.out 1).trans rfl
                                      have hcz49_2 : wc.cell? ⟨gb117, 2, none⟩ = some (.int .i64 x118002_26) := (blk_cell BK117.out 2).trans rfl
                                      have hcz49_3 : wc.cell? ⟨gb117, 3, none⟩ = some (.int .i64 x118003_3) := (blk_cell BK117.out 3).trans rfl
                                      have hcz49_4 : wc.cell? ⟨gb117, 4, none⟩ = some (.int .i64 x118004_3) := (blk_cell BK117.out 4).trans rfl
                                      have hfz49_0 := blk_frozen BK117.out 0
                                      have hfz49_1 := blk_frozen BK117.out 1
                                      have hfz49_2 := blk_frozen BK117.out 2
                                      have hfz49_3 := blk_frozen BK117.out 3
                                      have hfz49_4 := blk_frozen BK117.out 4
                                      go_wp2
                                      repeat (go_quiet (fail); try go_wp2)
                                      go_roundg kj26
                                      case measure => have := HK1.out; have := HK2.out; have := HK3.out; have := HJ26.out; omega
                                      case rel => exact ⟨(wrap64 (x9_3 + 1)), ((wrap64 (x118001_3 + 1))), (x118002_26), (x118003_3), (wrap64 (x118004_3 + 1)), (by first | rfl | (simp; done) | (simp [*]; done)), H', ⟨by have := HK1.out; have := HK2.out; have := HK3.out; have := HJ26.out; omega⟩, ⟨by (with_reducible repeat (first | apply Kd.R_alloc | apply Kd.R_drewN | apply Kd.R_drew)); exact Kd.R_mono (Kd.R_far (p := ⟨gb117, 4, none⟩) (Kd.R_types HO_3.out BK117.out (by decide)) (fun _ hk => hk.2) (.int .i64 (wrap64 (x118004_3 + 1)))) (fun _ hk => trivial)⟩, ⟨by (with_reducible repeat (first | apply Kd.R_alloc | apply Kd.R_drewN | apply Kd.R_drew)); exact Kd.R_mono (Kd.R_far (p := ⟨gb117, 4, none⟩) (Kd.R_mono HO_5.out (fun k_ hk => (⟨hk, hk⟩ : _ ∧ k_ ≠ gb117))) (fun _ hk => hk.2) (.int .i64 (wrap64 (x118004_3 + 1)))) (fun _ hk => hk.1)⟩, ⟨by (with_reducible repeat (first | apply Kd.R_alloc | apply Kd.R_drewN | apply Kd.R_drew)); exact Kd.R_mono (Kd.R_far (p := ⟨gb117, 4, none⟩) (Kd.R_types HO_6.out BK117.out (by decide)) (fun _ hk => hk.2) (.int .i64 (wrap64 (x118004_3 + 1)))) (fun _ hk => trivial)⟩, ⟨by (with_reducible repeat (first | refine blk_drewN ?_ _ | refine blk_drew ?_ | refine blk_alloc ?_ _)); refine blk_put (cs := #[.string (rdOf ByteArray.empty t113 x7_2), .int .i64 (wrap64 (x118001_3 + 1)), .int .i64 x118002_26, .int .i64 x118003_3, .int .i64 x118004_3]) ?_ 4 _ rfl; (with_reducible repeat (first | refine blk_drewN ?_ _ | refine blk_drew ?_ | refine blk_alloc ?_ _)); exact BK117.out⟩, ⟨by repeat (first | (with_reducible first | exact HB.out | apply below_alloc | apply pw_below_drewN | apply below_drew1 | refine below_set ?_ GE117.out | refine below_set ?_ GE122.out) | exact HB.out)⟩⟩
                                    · rw [if_neg c46] at H
                                      have c46b0 : (((rd_T37 x3_1 x9_3).f3) == 2) = false := beq_eq_false_iff_ne.mpr c46
                                      have c46b1 : (((rd_T37 x3_1 x9_3).f3) != 2) = true := bne_iff_ne.mpr c46
                                      have H' := Aside0.mk H
                                      clear H
                                      have hnb50 := NB122_117.out
                                      have hnc50 := NB117_122.out
                                      have hcz51_0 : wc.cell? ⟨gb122, 0, none⟩ = some (.int .u64 ((rd_T37 x3_1 x9_3).f0)) := (blk_cell BK122.out 0).trans rfl
                                      have hcz51_1 : wc.cell? ⟨gb122, 1, none⟩ = some (.int .u64 ((rd_T37 x3_1 x9_3).f1)) := (blk_cell BK122.out 1).trans rfl
                                      have hcz51_2 : wc.cell? ⟨gb122, 2, none⟩ = some (.int .u64 ((rd_T37 x3_1 x9_3).f2)) := (blk_cell BK122.out 2).trans rfl
                                      have hcz51_3 : wc.cell? ⟨gb122, 3, none⟩ = some (.int .u8 ((rd_T37 x3_1 x9_3).f3)) := (blk_cell BK122.out 3).trans rfl
                                      have hcz51_4 : wc.cell? ⟨gb122, 4, none⟩ = some (.string ((rd_T37 x3_1 x9_3).f4)) := (blk_cell BK122.out 4).trans rfl
                                      have hcz51_5 : wc.cell? ⟨gb122, 5, none⟩ = some (.string ((rd_T37 x3_1 x9_3).f5)) := (blk_cell BK122.out 5).trans rfl
                                      have hcz51_6 : wc.cell? ⟨gb122, 6, none⟩ = some (.int .i64 ((rd_T37 x3_1 x9_3).f6)) := (blk_cell BK122.out 6).trans rfl
                                      have hcz51_7 : wc.cell? ⟨gb122, 7, none⟩ = some (.int .i64 ((rd_T37 x3_1 x9_3).f7)) := (blk_cell BK122.out 7).trans rfl
                                      have hfz51_0 := blk_frozen BK122.out 0
                                      have hfz51_1 := blk_frozen BK122.out 1
                                      have hfz51_2 := blk_frozen BK122.out 2
                                      have hfz51_3 := blk_frozen BK122.out 3
                                      have hfz51_4 := blk_frozen BK122.out 4
                                      have hfz51_5 := blk_frozen BK122.out 5
                                      have hfz51_6 := blk_frozen BK122.out 6
                                      have hfz51_7 := blk_frozen BK122.out 7
                                      go_wp2
                                      repeat (go_quiet (fail); try go_wp2)
                                      go_roundg kj26
                                      case measure => have := HK1.out; have := HK2.out; have := HK3.out; have := HJ26.out; omega
                                      case rel => exact ⟨(wrap64 (x9_3 + 1)), ((wrap64 (x118001_3 + 1))), (x118002_26), (x118003_3), (x118004_3), (by first | rfl | (simp; done) | (simp [*]; done)), H', ⟨by have := HK1.out; have := HK2.out; have := HK3.out; have := HJ26.out; omega⟩, ⟨by (with_reducible repeat (first | apply Kd.R_alloc | apply Kd.R_drewN | apply Kd.R_drew)); exact Kd.R_mono HO_3.out (fun _ hk => trivial)⟩, ⟨by (with_reducible repeat (first | apply Kd.R_alloc | apply Kd.R_drewN | apply Kd.R_drew)); exact HO_5.out⟩, ⟨by (with_reducible repeat (first | apply Kd.R_alloc | apply Kd.R_drewN | apply Kd.R_drew)); exact HO_6.out⟩, ⟨by (with_reducible repeat (first | refine blk_drewN ?_ _ | refine blk_drew ?_ | refine blk_alloc ?_ _)); exact BK117.out⟩, ⟨by repeat (first | (with_reducible first | exact HB.out | apply below_alloc | apply pw_below_drewN | apply below_drew1 | refine below_set ?_ GE117.out | refine below_set ?_ GE122.out) | exact HB.out)⟩⟩
                            · rw [if_neg c26] at H
                              have c26b0 : (((rd_T37 x3_1 x9_3).f4).toList == (rdOf ByteArray.empty t113 x7_2).toList) = false := beq_eq_false_iff_ne.mpr c26
                              have c26b1 : (((rd_T37 x3_1 x9_3).f4).toList != (rdOf ByteArray.empty t113 x7_2).toList) = true := bne_iff_ne.mpr c26
                              have H' := Aside0.mk H
                              clear H
                              have p121 : 0 ≤ (x9_3 : Int) := of_decide_eq_true (by first | (with_reducible assumption) | assumption)
                              have q121 : x9_3 < (x3_1.length : Int) := of_decide_eq_true (by first | (with_reducible assumption) | assumption)
                              obtain ⟨ad121, e121, hx121_0, hx121_1, hx121_2, hx121_3, hx121_4, hx121_5, hx121_6, hx121_7⟩ := at_T37 (Kd.R_reads' HO_3.out).2.2 x9_3 p121 q121
                              cases e121
                              replace p121 := eq_true p121
                              replace q121 := eq_true q121
                              go_wp2_with (first | ((with_reducible refine gate_dst (N := 10) rfl ?_); refine box_event ?hg (N := 10) ?hd (cs := #[.int .u64 0, .int .u64 0, .int .u64 0, .int .u8 0, .string (⟨#[]⟩ : ByteArray), .string (⟨#[]⟩ : ByteArray), .int .i64 0, .int .i64 0]) (t := 37) ?hr ?_; (case hd => rfl); (case hg => rfl); (case hr => first | (go_simp; done) | (go_simp; rfl)); intro gb122 hg w52 hbox hb; have n0_ := Aside0.mk (Kd.R_below (Kd.R_elderB (by (with_reducible repeat (first | apply Kd.R_alloc | apply Kd.R_drewN | apply Kd.R_drew)); exact HO_3.out) gb122 (Nat.le_of_eq hg.symm)) hb); have n1_ := Aside0.mk (Kd.R_below (by (with_reducible repeat (first | apply Kd.R_alloc | apply Kd.R_drewN | apply Kd.R_drew)); exact HO_5.out) hb); have n2_ := Aside0.mk (Kd.R_below (by (with_reducible repeat (first | apply Kd.R_alloc | apply Kd.R_drewN | apply Kd.R_drew)); exact HO_6.out) hb); have n3_ := Aside0.mk (blk_below (g := gb117) (o := .cells #[.string (rdOf ByteArray.empty t113 x7_2), .int .i64 x118001_3, .int .i64 x118002_3, .int .i64 x118003_3, .int .i64 x118004_3] 44 (0, 0)) (by (with_reducible repeat (first | refine blk_drewN ?_ _ | refine blk_drew ?_ | refine blk_alloc ?_ _)); exact BK117.out) hb); have n4_ := Aside0.mk (below_step (by repeat (first | (with_reducible first | exact HB.out | apply below_alloc | apply pw_below_drewN | apply below_drew1 | refine below_set ?_ GE117.out) | exact HB.out)) hb); have n5_ := Aside0.mk (hbox); have n6_ := Aside0.mk ((by rw [hg]; exact (below_size (by repeat (first | (with_reducible first | exact HB.out | apply below_alloc | apply pw_below_drewN | apply below_drew1 | refine below_set ?_ GE117.out) | exact HB.out))) : w.heap.size ≤ gb122)); have n7_ := Aside0.mk ((by rw [hg]; exact (below_size (by repeat (first | (with_reducible first | exact HB.out | apply below_alloc | apply pw_below_drewN | apply below_drew1 | refine below_set ?_ GE117.out) | exact HB.out))) : w.heap.size ≤ gb122)); have n8_ := Aside0.mk ((by rw [hg]; exact Nat.ne_of_lt (blk_lt (g := gb117) (o := .cells #[.string (rdOf ByteArray.empty t113 x7_2), .int .i64 x118001_3, .int .i64 x118002_3, .int .i64 x118003_3, .int .i64 x118004_3] 44 (0, 0)) (by (with_reducible repeat (first | refine blk_drewN ?_ _ | refine blk_drew ?_ | refine blk_alloc ?_ _)); exact BK117.out)) : gb117 ≠ gb122)); have n9_ := Aside0.mk ((by rw [hg]; exact Nat.ne_of_gt (blk_lt (g := gb117) (o := .cells #[.string (rdOf ByteArray.empty t113 x7_2), .int .i64 x118001_3, .int .i64 x118002_3, .int .i64 x118003_3, .int .i64 x118004_3] 44 (0, 0)) (by (with_reducible repeat (first | refine blk_drewN ?_ _ | refine blk_drew ?_ | refine blk_alloc ?_ _)); exact BK117.out)) : gb122 ≠ gb117)); clear HO_3; clear HO_5; clear HO_6; clear BK117; clear HB; have HO_3 := n0_; have HO_5 := n1_; have HO_6 := n2_; have BK117 := n3_; have HB := n4_; have BK122 := n5_; have GW122 := n6_; have GE122 := n7_; have NB117_122 := n8_; have NB122_117 := n9_; clear n0_ n1_ n2_ n3_ n4_ n5_ n6_ n7_ n8_ n9_; clear hb hbox hg; have hnb53 := NB122_117.out; have hnc53 := NB117_122.out; have hcz54_0 : w52.cell? ⟨gb122, 0, none⟩ = some (.int .u64 0) := (blk_cell BK122.out 0).trans rfl; have hcz54_1 : w52.cell? ⟨gb122, 1, none⟩ = some (.int .u64 0) := (blk_cell BK122.out 1).trans rfl; have hcz54_2 : w52.cell? ⟨gb122, 2, none⟩ = some (.int .u64 0) := (blk_cell BK122.out 2).trans rfl; have hcz54_3 : w52.cell? ⟨gb122, 3, none⟩ = some (.int .u8 0) := (blk_cell BK122.out 3).trans rfl; have hcz54_4 : w52.cell? ⟨gb122, 4, none⟩ = some (.string (⟨#[]⟩ : ByteArray)) := (blk_cell BK122.out 4).trans rfl; have hcz54_5 : w52.cell? ⟨gb122, 5, none⟩ = some (.string (⟨#[]⟩ : ByteArray)) := (blk_cell BK122.out 5).trans rfl; have hcz54_6 : w52.cell? ⟨gb122, 6, none⟩ = some (.int .i64 0) := (blk_cell BK122.out 6).trans rfl; have hcz54_7 : w52.cell? ⟨gb122, 7, none⟩ = some (.int .i64 0) := (blk_cell BK122.out 7).trans rfl; have hfz54_0 := blk_frozen BK122.out 0; have hfz54_1 := blk_frozen BK122.out 1; have hfz54_2 := blk_frozen BK122.out 2; have hfz54_3 := blk_frozen BK122.out 3; have hfz54_4 := blk_frozen BK122.out 4; have hfz54_5 := blk_frozen BK122.out 5; have hfz54_6 := blk_frozen BK122.out 6; have hfz54_7 := blk_frozen BK122.out 7; have p123 : 0 ≤ (x7_2 : Int) := of_decide_eq_true (by first | (with_reducible assumption) | assumption); have q123 : x7_2 < (t113.length : Int) := of_decide_eq_true (by first | (with_reducible assumption) | assumption); obtain ⟨ad123, e123, hx123_0⟩ := Kd.at_string (Kd.R_reads' HO_6.out).2.2 x7_2 p123 q123; obtain rfl : ad116 = ad123 := (by injection e123); have hn123_0 : ad116.block ≠ gb122 := Kd.own_blk (Kd.R_ne HO_6.out BK122.out (by decide)); have hn123_1 : ad116.block ≠ gb122 := Kd.own_blk (Kd.R_ne HO_6.out BK122.out (by decide)); have hn123_2 : ad116.block ≠ gb122 := Kd.own_blk (Kd.R_ne HO_6.out BK122.out (by decide)); have hn123_3 : ad116.block ≠ gb122 := Kd.own_blk (Kd.R_ne HO_6.out BK122.out (by decide)); have hn123_4 : ad116.block ≠ gb122 := Kd.own_blk (Kd.R_ne HO_6.out BK122.out (by decide)); have hn123_5 : ad116.block ≠ gb122 := Kd.own_blk (Kd.R_ne HO_6.out BK122.out (by decide)); have hn123_6 : ad116.block ≠ gb122 := Kd.own_blk (Kd.R_ne HO_6.out BK122.out (by decide)); have hn123_7 : ad116.block ≠ gb122 := Kd.own_blk (Kd.R_ne HO_6.out BK122.out (by decide)); replace hx123_0 := (cell_far (p := ⟨gb122, 0, none⟩) (by first | (rw [add_block]; exact hn123_0) | (show (Addr.add _ _).block ≠ _; rw [add_block]; exact hn123_0) | exact hn123_0) (.int .u64 ((rd_T37 x3_1 x9_3).f0))).trans hx123_0; replace hx123_0 := (cell_far (p := ⟨gb122, 1, none⟩) (by first | (rw [add_block]; exact hn123_1) | (show (Addr.add _ _).block ≠ _; rw [add_block]; exact hn123_1) | exact hn123_1) (.int .u64 ((rd_T37 x3_1 x9_3).f1))).trans hx123_0; replace hx123_0 := (cell_far (p := ⟨gb122, 2, none⟩) (by first | (rw [add_block]; exact hn123_2) | (show (Addr.add _ _).block ≠ _; rw [add_block]; exact hn123_2) | exact hn123_2) (.int .u64 ((rd_T37 x3_1 x9_3).f2))).trans hx123_0; replace hx123_0 := (cell_far (p := ⟨gb122, 3, none⟩) (by first | (rw [add_block]; exact hn123_3) | (show (Addr.add _ _).block ≠ _; rw [add_block]; exact hn123_3) | exact hn123_3) (.int .u8 ((rd_T37 x3_1 x9_3).f3))).trans hx123_0; replace hx123_0 := (cell_far (p := ⟨gb122, 4, none⟩) (by first | (rw [add_block]; exact hn123_4) | (show (Addr.add _ _).block ≠ _; rw [add_block]; exact hn123_4) | exact hn123_4) (.string ((rd_T37 x3_1 x9_3).f4))).trans hx123_0; replace hx123_0 := (cell_far (p := ⟨gb122, 5, none⟩) (by first | (rw [add_block]; exact hn123_5) | (show (Addr.add _ _).block ≠ _; rw [add_block]; exact hn123_5) | exact hn123_5) (.string ((rd_T37 x3_1 x9_3).f5))).trans hx123_0; replace hx123_0 := (cell_far (p := ⟨gb122, 6, none⟩) (by first | (rw [add_block]; exact hn123_6) | (show (Addr.add _ _).block ≠ _; rw [add_block]; exact hn123_6) | exact hn123_6) (.int .i64 ((rd_T37 x3_1 x9_3).f6))).trans hx123_0; replace hx123_0 := (cell_far (p := ⟨gb122, 7, none⟩) (by first | (rw [add_block]; exact hn123_7) | (show (Addr.add _ _).block ≠ _; rw [add_block]; exact hn123_7) | exact hn123_7) (.int .i64 ((rd_T37 x3_1 x9_3).f7))).trans hx123_0; clear hn123_0; clear hn123_1; clear hn123_2; clear hn123_3; clear hn123_4; clear hn123_5; clear hn123_6; clear hn123_7; replace p123 := eq_true p123; replace q123 := eq_true q123))
                              repeat (go_quiet (first | ((with_reducible refine gate_dst (N := 10) rfl ?_); refine box_event ?hg (N := 10) ?hd (cs := #[.int .u64 0, .int .u64 0, .int .u64 0, .int .u8 0, .string (⟨#[]⟩ : ByteArray), .string (⟨#[]⟩ : ByteArray), .int .i64 0, .int .i64 0]) (t := 37) ?hr ?_; (case hd => rfl); (case hg => rfl); (case hr => first | (go_simp; done) | (go_simp; rfl)); intro gb122 hg w52 hbox hb; have n0_ := Aside0.mk (Kd.R_below (Kd.R_elderB (by (with_reducible repeat (first | apply Kd.R_alloc | apply Kd.R_drewN | apply Kd.R_drew)); exact HO_3.out) gb122 (Nat.le_of_eq hg.symm)) hb); have n1_ := Aside0.mk (Kd.R_below (by (with_reducible repeat (first | apply Kd.R_alloc | apply Kd.R_drewN | apply Kd.R_drew)); exact HO_5.out) hb); have n2_ := Aside0.mk (Kd.R_below (by (with_reducible repeat (first | apply Kd.R_alloc | apply Kd.R_drewN | apply Kd.R_drew)); exact HO_6.out) hb); have n3_ := Aside0.mk (blk_below (g := gb117) (o := .cells #[.string (rdOf ByteArray.empty t113 x7_2), .int .i64 x118001_3, .int .i64 x118002_3, .int .i64 x118003_3, .int .i64 x118004_3] 44 (0, 0)) (by (with_reducible repeat (first | refine blk_drewN ?_ _ | refine blk_drew ?_ | refine blk_alloc ?_ _)); exact BK117.out) hb); have n4_ := Aside0.mk (below_step (by repeat (first | (with_reducible first | exact HB.out | apply below_alloc | apply pw_below_drewN | apply below_drew1 | refine below_set ?_ GE117.out) | exact HB.out)) hb); have n5_ := Aside0.mk (hbox); have n6_ := Aside0.mk ((by rw [hg]; exact (below_size (by repeat (first | (with_reducible first | exact HB.out | apply below_alloc | apply pw_below_drewN | apply below_drew1 | refine below_set ?_ GE117.out) | exact HB.out))) : w.heap.size ≤ gb122)); have n7_ := Aside0.mk ((by rw [hg]; exact (below_size (by repeat (first | (with_reducible first | exact HB.out | apply below_alloc | apply pw_below_drewN | apply below_drew1 | refine below_set ?_ GE117.out) | exact HB.out))) : w.heap.size ≤ gb122)); have n8_ := Aside0.mk ((by rw [hg]; exact Nat.ne_of_lt (blk_lt (g := gb117) (o := .cells #[.string (rdOf ByteArray.empty t113 x7_2), .int .i64 x118001_3, .int .i64 x118002_3, .int .i64 x118003_3, .int .i64 x118004_3] 44 (0, 0)) (by (with_reducible repeat (first | refine blk_drewN ?_ _ | refine blk_drew ?_ | refine blk_alloc ?_ _)); exact BK117.out)) : gb117 ≠ gb122)); have n9_ := Aside0.mk ((by rw [hg]; exact Nat.ne_of_gt (blk_lt (g := gb117) (o := .cells #[.string (rdOf ByteArray.empty t113 x7_2), .int .i64 x118001_3, .int .i64 x118002_3, .int .i64 x118003_3, .int .i64 x118004_3] 44 (0, 0)) (by (with_reducible repeat (first | refine blk_drewN ?_ _ | refine blk_drew ?_ | refine blk_alloc ?_ _)); exact BK117.out)) : gb122 ≠ gb117)); clear HO_3; clear HO_5; clear HO_6; clear BK117; clear HB; have HO_3 := n0_; have HO_5 := n1_; have HO_6 := n2_; have BK117 := n3_; have HB := n4_; have BK122 := n5_; have GW122 := n6_; have GE122 := n7_; have NB117_122 := n8_; have NB122_117 := n9_; clear n0_ n1_ n2_ n3_ n4_ n5_ n6_ n7_ n8_ n9_; clear hb hbox hg; have hnb53 := NB122_117.out; have hnc53 := NB117_122.out; have hcz54_0 : w52.cell? ⟨gb122, 0, none⟩ = some (.int .u64 0) := (blk_cell BK122.out 0).trans rfl; have hcz54_1 : w52.cell? ⟨gb122, 1, none⟩ = some (.int .u64 0) := (blk_cell BK122.out 1).trans rfl; have hcz54_2 : w52.cell? ⟨gb122, 2, none⟩ = some (.int .u64 0) := (blk_cell BK122.out 2).trans rfl; have hcz54_3 : w52.cell? ⟨gb122, 3, none⟩ = some (.int .u8 0) := (blk_cell BK122.out 3).trans rfl; have hcz54_4 : w52.cell? ⟨gb122, 4, none⟩ = some (.string (⟨#[]⟩ : ByteArray)) := (blk_cell BK122.out 4).trans rfl; have hcz54_5 : w52.cell? ⟨gb122, 5, none⟩ = some (.string (⟨#[]⟩ : ByteArray)) := (blk_cell BK122.out 5).trans rfl; have hcz54_6 : w52.cell? ⟨gb122, 6, none⟩ = some (.int .i64 0) := (blk_cell BK122.out 6).trans rfl; have hcz54_7 : w52.cell? ⟨gb122, 7, none⟩ = some (.int .i64 0) := (blk_cell BK122.out 7).trans rfl; have hfz54_0 := blk_frozen BK122.out 0; have hfz54_1 := blk_frozen BK122.out 1; have hfz54_2 := blk_frozen BK122.out 2; have hfz54_3 := blk_frozen BK122.out 3; have hfz54_4 := blk_frozen BK122.out 4; have hfz54_5 := blk_frozen BK122.out 5; have hfz54_6 := blk_frozen BK122.out 6; have hfz54_7 := blk_frozen BK122.out 7; have p123 : 0 ≤ (x7_2 : Int) := of_decide_eq_true (by first | (with_reducible assumption) | assumption); have q123 : x7_2 < (t113.length : Int) := of_decide_eq_true (by first | (with_reducible assumption) | assumption); obtain ⟨ad123, e123, hx123_0⟩ := Kd.at_string (Kd.R_reads' HO_6.out).2.2 x7_2 p123 q123; obtain rfl : ad116 = ad123 := (by injection e123); have hn123_0 : ad116.block ≠ gb122 := Kd.own_blk (Kd.R_ne HO_6.out BK122.out (by decide)); have hn123_1 : ad116.block ≠ gb122 := Kd.own_blk (Kd.R_ne HO_6.out BK122.out (by decide)); have hn123_2 : ad116.block ≠ gb122 := Kd.own_blk (Kd.R_ne HO_6.out BK122.out (by decide)); have hn123_3 : ad116.block ≠ gb122 := Kd.own_blk (Kd.R_ne HO_6.out BK122.out (by decide)); have hn123_4 : ad116.block ≠ gb122 := Kd.own_blk (Kd.R_ne HO_6.out BK122.out (by decide)); have hn123_5 : ad116.block ≠ gb122 := Kd.own_blk (Kd.R_ne HO_6.out BK122.out (by decide)); have hn123_6 : ad116.block ≠ gb122 := Kd.own_blk (Kd.R_ne HO_6.out BK122.out (by decide)); have hn123_7 : ad116.block ≠ gb122 := Kd.own_blk (Kd.R_ne HO_6.out BK122.out (by decide)); replace hx123_0 := (cell_far (p := ⟨gb122, 0, none⟩) (by first | (rw [add_block]; exact hn123_0) | (show (Addr.add _ _).block ≠ _; rw [add_block]; exact hn123_0) | exact hn123_0) (.int .u64 ((rd_T37 x3_1 x9_3).f0))).trans hx123_0; replace hx123_0 := (cell_far (p := ⟨gb122, 1, none⟩) (by first | (rw [add_block]; exact hn123_1) | (show (Addr.add _ _).block ≠ _; rw [add_block]; exact hn123_1) | exact hn123_1) (.int .u64 ((rd_T37 x3_1 x9_3).f1))).trans hx123_0; replace hx123_0 := (cell_far (p := ⟨gb122, 2, none⟩) (by first | (rw [add_block]; exact hn123_2) | (show (Addr.add _ _).block ≠ _; rw [add_block]; exact hn123_2) | exact hn123_2) (.int .u64 ((rd_T37 x3_1 x9_3).f2))).trans hx123_0; replace hx123_0 := (cell_far (p := ⟨gb122, 3, none⟩) (by first | (rw [add_block]; exact hn123_3) | (show (Addr.add _ _).block ≠ _; rw [add_block]; exact hn123_3) | exact hn123_3) (.int .u8 ((rd_T37 x3_1 x9_3).f3))).trans hx123_0; replace hx123_0 := (cell_far (p := ⟨gb122, 4, none⟩) (by first | (rw [add_block]; exact hn123_4) | (show (Addr.add _ _).block ≠ _; rw [add_block]; exact hn123_4) | exact hn123_4) (.string ((rd_T37 x3_1 x9_3).f4))).trans hx123_0; replace hx123_0 := (cell_far (p := ⟨gb122, 5, none⟩) (by first | (rw [add_block]; exact hn123_5) | (show (Addr.add _ _).block ≠ _; rw [add_block]; exact hn123_5) | exact hn123_5) (.string ((rd_T37 x3_1 x9_3).f5))).trans hx123_0; replace hx123_0 := (cell_far (p := ⟨gb122, 6, none⟩) (by first | (rw [add_block]; exact hn123_6) | (show (Addr.add _ _).block ≠ _; rw [add_block]; exact hn123_6) | exact hn123_6) (.int .i64 ((rd_T37 x3_1 x9_3).f6))).trans hx123_0; replace hx123_0 := (cell_far (p := ⟨gb122, 7, none⟩) (by first | (rw [add_block]; exact hn123_7) | (show (Addr.add _ _).block ≠ _; rw [add_block]; exact hn123_7) | exact hn123_7) (.int .i64 ((rd_T37 x3_1 x9_3).f7))).trans hx123_0; clear hn123_0; clear hn123_1; clear hn123_2; clear hn123_3; clear hn123_4; clear hn123_5; clear hn123_6; clear hn123_7; replace p123 := eq_true p123; replace q123 := eq_true q123)); try go_wp2_with (first | ((with_reducible refine gate_dst (N := 10) rfl ?_); refine box_event ?hg (N := 10) ?hd (cs := #[.int .u64 0, .int .u64 0, .int .u64 0, .int .u8 0, .string (⟨#[]⟩ : ByteArray), .string (⟨#[]⟩ : ByteArray), .int .i64 0, .int .i64 0]) (t := 37) ?hr ?_; (case hd => rfl); (case hg => rfl); (case hr => first | (go_simp; done) | (go_simp; rfl)); intro gb122 hg w52 hbox hb; have n0_ := Aside0.mk (Kd.R_below (Kd.R_elderB (by (with_reducible repeat (first | apply Kd.R_alloc | apply Kd.R_drewN | apply Kd.R_drew)); exact HO_3.out) gb122 (Nat.le_of_eq hg.symm)) hb); have n1_ := Aside0.mk (Kd.R_below (by (with_reducible repeat (first | apply Kd.R_alloc | apply Kd.R_drewN | apply Kd.R_drew)); exact HO_5.out) hb); have n2_ := Aside0.mk (Kd.R_below (by (with_reducible repeat (first | apply Kd.R_alloc | apply Kd.R_drewN | apply Kd.R_drew)); exact HO_6.out) hb); have n3_ := Aside0.mk (blk_below (g := gb117) (o := .cells #[.string (rdOf ByteArray.empty t113 x7_2), .int .i64 x118001_3, .int .i64 x118002_3, .int .i64 x118003_3, .int .i64 x118004_3] 44 (0, 0)) (by (with_reducible repeat (first | refine blk_drewN ?_ _ | refine blk_drew ?_ | refine blk_alloc ?_ _)); exact BK117.out) hb); have n4_ := Aside0.mk (below_step (by repeat (first | (with_reducible first | exact HB.out | apply below_alloc | apply pw_below_drewN | apply below_drew1 | refine below_set ?_ GE117.out) | exact HB.out)) hb); have n5_ := Aside0.mk (hbox); have n6_ := Aside0.mk ((by rw [hg]; exact (below_size (by repeat (first | (with_reducible first | exact HB.out | apply below_alloc | apply pw_below_drewN | apply below_drew1 | refine below_set ?_ GE117.out) | exact HB.out))) : w.heap.size ≤ gb122)); have n7_ := Aside0.mk ((by rw [hg]; exact (below_size (by repeat (first | (with_reducible first | exact HB.out | apply below_alloc | apply pw_below_drewN | apply below_drew1 | refine below_set ?_ GE117.out) | exact HB.out))) : w.heap.size ≤ gb122)); have n8_ := Aside0.mk ((by rw [hg]; exact Nat.ne_of_lt (blk_lt (g := gb117) (o := .cells #[.string (rdOf ByteArray.empty t113 x7_2), .int .i64 x118001_3, .int .i64 x118002_3, .int .i64 x118003_3, .int .i64 x118004_3] 44 (0, 0)) (by (with_reducible repeat (first | refine blk_drewN ?_ _ | refine blk_drew ?_ | refine blk_alloc ?_ _)); exact BK117.out)) : gb117 ≠ gb122)); have n9_ := Aside0.mk ((by rw [hg]; exact Nat.ne_of_gt (blk_lt (g := gb117) (o := .cells #[.string (rdOf ByteArray.empty t113 x7_2), .int .i64 x118001_3, .int .i64 x118002_3, .int .i64 x118003_3, .int .i64 x118004_3] 44 (0, 0)) (by (with_reducible repeat (first | refine blk_drewN ?_ _ | refine blk_drew ?_ | refine blk_alloc ?_ _)); exact BK117.out)) : gb122 ≠ gb117)); clear HO_3; clear HO_5; clear HO_6; clear BK117; clear HB; have HO_3 := n0_; have HO_5 := n1_; have HO_6 := n2_; have BK117 := n3_; have HB := n4_; have BK122 := n5_; have GW122 := n6_; have GE122 := n7_; have NB117_122 := n8_; have NB122_117 := n9_; clear n0_ n1_ n2_ n3_ n4_ n5_ n6_ n7_ n8_ n9_; clear hb hbox hg; have hnb53 := NB122_117.out; have hnc53 := NB117_122.out; have hcz54_0 : w52.cell? ⟨gb122, 0, none⟩ = some (.int .u64 0) := (blk_cell BK122.out 0).trans rfl; have hcz54_1 : w52.cell? ⟨gb122, 1, none⟩ = some (.int .u64 0) := (blk_cell BK122.out 1).trans rfl; have hcz54_2 : w52.cell? ⟨gb122, 2, none⟩ = some (.int .u64 0) := (blk_cell BK122.out 2).trans rfl; have hcz54_3 : w52.cell? ⟨gb122, 3, none⟩ = some (.int .u8 0) := (blk_cell BK122.out 3).trans rfl; have hcz54_4 : w52.cell? ⟨gb122, 4, none⟩ = some (.string (⟨#[]⟩ : ByteArray)) := (blk_cell BK122.out 4).trans rfl; have hcz54_5 : w52.cell? ⟨gb122, 5, none⟩ = some (.string (⟨#[]⟩ : ByteArray)) := (blk_cell BK122.out 5).trans rfl; have hcz54_6 : w52.cell? ⟨gb122, 6, none⟩ = some (.int .i64 0) := (blk_cell BK122.out 6).trans rfl; have hcz54_7 : w52.cell? ⟨gb122, 7, none⟩ = some (.int .i64 0) := (blk_cell BK122.out 7).trans rfl; have hfz54_0 := blk_frozen BK122.out 0; have hfz54_1 := blk_frozen BK122.out 1; have hfz54_2 := blk_frozen BK122.out 2; have hfz54_3 := blk_frozen BK122.out 3; have hfz54_4 := blk_frozen BK122.out 4; have hfz54_5 := blk_frozen BK122.out 5; have hfz54_6 := blk_frozen BK122.out 6; have hfz54_7 := blk_frozen BK122.out 7; have p123 : 0 ≤ (x7_2 : Int) := of_decide_eq_true (by first | (with_reducible assumption) | assumption); have q123 : x7_2 < (t113.length : Int) := of_decide_eq_true (by first | (with_reducible assumption) | assumption); obtain ⟨ad123, e123, hx123_0⟩ := Kd.at_string (Kd.R_reads' HO_6.out).2.2 x7_2 p123 q123; obtain rfl : ad116 = ad123 := (by injection e123); have hn123_0 : ad116.block ≠ gb122 := Kd.own_blk (Kd.R_ne HO_6.out BK122.out (by decide)); have hn123_1 : ad116.block ≠ gb122 := Kd.own_blk (Kd.R_ne HO_6.out BK122.out (by decide)); have hn123_2 : ad116.block ≠ gb122 := Kd.own_blk (Kd.R_ne HO_6.out BK122.out (by decide)); have hn123_3 : ad116.block ≠ gb122 := Kd.own_blk (Kd.R_ne HO_6.out BK122.out (by decide)); have hn123_4 : ad116.block ≠ gb122 := Kd.own_blk (Kd.R_ne HO_6.out BK122.out (by decide)); have hn123_5 : ad116.block ≠ gb122 := Kd.own_blk (Kd.R_ne HO_6.out BK122.out (by decide)); have hn123_6 : ad116.block ≠ gb122 := Kd.own_blk (Kd.R_ne HO_6.out BK122.out (by decide)); have hn123_7 : ad116.block ≠ gb122 := Kd.own_blk (Kd.R_ne HO_6.out BK122.out (by decide)); replace hx123_0 := (cell_far (p := ⟨gb122, 0, none⟩) (by first | (rw [add_block]; exact hn123_0) | (show (Addr.add _ _).block ≠ _; rw [add_block]; exact hn123_0) | exact hn123_0) (.int .u64 ((rd_T37 x3_1 x9_3).f0))).trans hx123_0; replace hx123_0 := (cell_far (p := ⟨gb122, 1, none⟩) (by first | (rw [add_block]; exact hn123_1) | (show (Addr.add _ _).block ≠ _; rw [add_block]; exact hn123_1) | exact hn123_1) (.int .u64 ((rd_T37 x3_1 x9_3).f1))).trans hx123_0; replace hx123_0 := (cell_far (p := ⟨gb122, 2, none⟩) (by first | (rw [add_block]; exact hn123_2) | (show (Addr.add _ _).block ≠ _; rw [add_block]; exact hn123_2) | exact hn123_2) (.int .u64 ((rd_T37 x3_1 x9_3).f2))).trans hx123_0; replace hx123_0 := (cell_far (p := ⟨gb122, 3, none⟩) (by first | (rw [add_block]; exact hn123_3) | (show (Addr.add _ _).block ≠ _; rw [add_block]; exact hn123_3) | exact hn123_3) (.int .u8 ((rd_T37 x3_1 x9_3).f3))).trans hx123_0; replace hx123_0 := (cell_far (p := ⟨gb122, 4, none⟩) (by first | (rw [add_block]; exact hn123_4) | (show (Addr.add _ _).block ≠ _; rw [add_block]; exact hn123_4) | exact hn123_4) (.string ((rd_T37 x3_1 x9_3).f4))).trans hx123_0; replace hx123_0 := (cell_far (p := ⟨gb122, 5, none⟩) (by first | (rw [add_block]; exact hn123_5) | (show (Addr.add _ _).block ≠ _; rw [add_block]; exact hn123_5) | exact hn123_5) (.string ((rd_T37 x3_1 x9_3).f5))).trans hx123_0; replace hx123_0 := (cell_far (p := ⟨gb122, 6, none⟩) (by first | (rw [add_block]; exact hn123_6) | (show (Addr.add _ _).block ≠ _; rw [add_block]; exact hn123_6) | exact hn123_6) (.int .i64 ((rd_T37 x3_1 x9_3).f6))).trans hx123_0; replace hx123_0 := (cell_far (p := ⟨gb122, 7, none⟩) (by first | (rw [add_block]; exact hn123_7) | (show (Addr.add _ _).block ≠ _; rw [add_block]; exact hn123_7) | exact hn123_7) (.int .i64 ((rd_T37 x3_1 x9_3).f7))).trans hx123_0; clear hn123_0; clear hn123_1; clear hn123_2; clear hn123_3; clear hn123_4; clear hn123_5; clear hn123_6; clear hn123_7; replace p123 := eq_true p123; replace q123 := eq_true q123)))
                              go_roundg k3
                              case measure => have := HK1.out; have := HK2.out; have := HK3.out; omega
                              case rel => exact ⟨(wrap64 (x9_3 + 1)), (x118001_3), (x118002_3), (x118003_3), (x118004_3), (by first | rfl | (simp; done) | (simp [*]; done)), H', ⟨by have := HK1.out; have := HK2.out; have := HK3.out; omega⟩, ⟨by (with_reducible repeat (first | apply Kd.R_alloc | apply Kd.R_drewN | apply Kd.R_drew)); exact Kd.R_mono (Kd.R_far (p := ⟨gb122, 7, none⟩) (Kd.R_far (p := ⟨gb122, 6, none⟩) (Kd.R_far (p := ⟨gb122, 5, none⟩) (Kd.R_far (p := ⟨gb122, 4, none⟩) (Kd.R_far (p := ⟨gb122, 3, none⟩) (Kd.R_far (p := ⟨gb122, 2, none⟩) (Kd.R_far (p := ⟨gb122, 1, none⟩) (Kd.R_far (p := ⟨gb122, 0, none⟩) (Kd.R_mono HO_3.out (fun k_ hk => (⟨hk, hk.2⟩ : _ ∧ k_ ≠ gb122))) (fun _ hk => hk.2) (.int .u64 ((rd_T37 x3_1 x9_3).f0))) (fun _ hk => hk.2) (.int .u64 ((rd_T37 x3_1 x9_3).f1))) (fun _ hk => hk.2) (.int .u64 ((rd_T37 x3_1 x9_3).f2))) (fun _ hk => hk.2) (.int .u8 ((rd_T37 x3_1 x9_3).f3))) (fun _ hk => hk.2) (.string ((rd_T37 x3_1 x9_3).f4))) (fun _ hk => hk.2) (.string ((rd_T37 x3_1 x9_3).f5))) (fun _ hk => hk.2) (.int .i64 ((rd_T37 x3_1 x9_3).f6))) (fun _ hk => hk.2) (.int .i64 ((rd_T37 x3_1 x9_3).f7))) (fun _ hk => trivial)⟩, ⟨by (with_reducible repeat (first | apply Kd.R_alloc | apply Kd.R_drewN | apply Kd.R_drew)); exact Kd.R_mono (Kd.R_far (p := ⟨gb122, 7, none⟩) (Kd.R_far (p := ⟨gb122, 6, none⟩) (Kd.R_far (p := ⟨gb122, 5, none⟩) (Kd.R_far (p := ⟨gb122, 4, none⟩) (Kd.R_far (p := ⟨gb122, 3, none⟩) (Kd.R_far (p := ⟨gb122, 2, none⟩) (Kd.R_far (p := ⟨gb122, 1, none⟩) (Kd.R_far (p := ⟨gb122, 0, none⟩) (Kd.R_types HO_5.out BK122.out (by decide)) (fun _ hk => hk.2) (.int .u64 ((rd_T37 x3_1 x9_3).f0))) (fun _ hk => hk.2) (.int .u64 ((rd_T37 x3_1 x9_3).f1))) (fun _ hk => hk.2) (.int .u64 ((rd_T37 x3_1 x9_3).f2))) (fun _ hk => hk.2) (.int .u8 ((rd_T37 x3_1 x9_3).f3))) (fun _ hk => hk.2) (.string ((rd_T37 x3_1 x9_3).f4))) (fun _ hk => hk.2) (.string ((rd_T37 x3_1 x9_3).f5))) (fun _ hk => hk.2) (.int .i64 ((rd_T37 x3_1 x9_3).f6))) (fun _ hk => hk.2) (.int .i64 ((rd_T37 x3_1 x9_3).f7))) (fun _ hk => hk.1)⟩, ⟨by (with_reducible repeat (first | apply Kd.R_alloc | apply Kd.R_drewN | apply Kd.R_drew)); exact Kd.R_mono (Kd.R_far (p := ⟨gb122, 7, none⟩) (Kd.R_far (p := ⟨gb122, 6, none⟩) (Kd.R_far (p := ⟨gb122, 5, none⟩) (Kd.R_far (p := ⟨gb122, 4, none⟩) (Kd.R_far (p := ⟨gb122, 3, none⟩) (Kd.R_far (p := ⟨gb122, 2, none⟩) (Kd.R_far (p := ⟨gb122, 1, none⟩) (Kd.R_far (p := ⟨gb122, 0, none⟩) (Kd.R_types HO_6.out BK122.out (by decide)) (fun _ hk => hk.2) (.int .u64 ((rd_T37 x3_1 x9_3).f0))) (fun _ hk => hk.2) (.int .u64 ((rd_T37 x3_1 x9_3).f1))) (fun _ hk => hk.2) (.int .u64 ((rd_T37 x3_1 x9_3).f2))) (fun _ hk => hk.2) (.int .u8 ((rd_T37 x3_1 x9_3).f3))) (fun _ hk => hk.2) (.string ((rd_T37 x3_1 x9_3).f4))) (fun _ hk => hk.2) (.string ((rd_T37 x3_1 x9_3).f5))) (fun _ hk => hk.2) (.int .i64 ((rd_T37 x3_1 x9_3).f6))) (fun _ hk => hk.2) (.int .i64 ((rd_T37 x3_1 x9_3).f7))) (fun _ hk => trivial)⟩, ⟨by (with_reducible repeat (first | refine blk_drewN ?_ _ | refine blk_drew ?_ | refine blk_alloc ?_ _)); refine blk_far ?_ NB117_122.out _; (with_reducible repeat (first | refine blk_drewN ?_ _ | refine blk_drew ?_ | refine blk_alloc ?_ _)); refine blk_far ?_ NB117_122.out _; (with_reducible repeat (first | refine blk_drewN ?_ _ | refine blk_drew ?_ | refine blk_alloc ?_ _)); refine blk_far ?_ NB117_122.out _; (with_reducible repeat (first | refine blk_drewN ?_ _ | refine blk_drew ?_ | refine blk_alloc ?_ _)); refine blk_far ?_ NB117_122.out _; (with_reducible repeat (first | refine blk_drewN ?_ _ | refine blk_drew ?_ | refine blk_alloc ?_ _)); refine blk_far ?_ NB117_122.out _; (with_reducible repeat (first | refine blk_drewN ?_ _ | refine blk_drew ?_ | refine blk_alloc ?_ _)); refine blk_far ?_ NB117_122.out _; (with_reducible repeat (first | refine blk_drewN ?_ _ | refine blk_drew ?_ | refine blk_alloc ?_ _)); refine blk_far ?_ NB117_122.out _; (with_reducible repeat (first | refine blk_drewN ?_ _ | refine blk_drew ?_ | refine blk_alloc ?_ _)); refine blk_far ?_ NB117_122.out _; (with_reducible repeat (first | refine blk_drewN ?_ _ | refine blk_drew ?_ | refine blk_alloc ?_ _)); exact BK117.out⟩, ⟨by repeat (first | (with_reducible first | exact HB.out | apply below_alloc | apply pw_below_drewN | apply below_drew1 | refine below_set ?_ GE117.out | refine below_set ?_ GE122.out) | exact HB.out)⟩⟩
                          · rw [if_neg c25] at H
                            exact absurd H (by simp)
                        · rw [if_neg c24] at H
                          exact absurd H (by simp)
                      · rw [if_neg c23] at H
                        exact absurd H (by simp)
                    · rw [if_neg c22] at H
                      have c22b0 : decide (x9_3 < (x3_1.length : Int)) = false := decide_eq_false c22
                      clear c22
                      by_cases c55 : x5_2.length < 2932031007402
                      · rw [if_pos c55] at H
                        have LMc55 := Aside0.mk c55
                        clear c55
                        obtain ⟨y118, hy118⟩ : ∃ y_ : List (S44), y_ = (x5_2 ++ [(⟨(rdOf ByteArray.empty t113 x7_2), x118001_3, x118002_3, x118003_3, x118004_3⟩ : S44)]) := ⟨_, rfl⟩
                        replace H : (merkhetref27_Of.l1 k3 x3_1 y118 t113 (wrap64 (x7_2 + 1))) = some r := by first | (rw [hy118]; with_reducible exact H) | (have H2_ := (Option.bind_some _ _).symm.trans H; rw [hy118]; with_reducible exact H2_) | (have H2_ := (Option.bind_some _ _).symm.trans H; with_reducible exact H2_) | with_reducible exact H | (rw [hy118]; exact H) | exact H
                        have Ny118 := Aside0.mk hy118
                        clear hy118
                        have H' := Aside0.mk H
                        clear H
                        have hcz56_0 : wr.cell? ⟨gb117, 0, none⟩ = some (.string (rdOf ByteArray.empty t113 x7_2)) := (blk_cell BK117.out 0).trans rfl
                        have hcz56_1 : wr.cell? ⟨gb117, 1, none⟩ = some (.int .i64 x118001_3) := (blk_cell BK117.out 1).trans rfl
                        have hcz56_2 : wr.cell? ⟨gb117, 2, none⟩ = some (.int .i64 x118002_3) := (blk_cell BK117.out 2).trans rfl
                        have hcz56_3 : wr.cell? ⟨gb117, 3, none⟩ = some (.int .i64 x118003_3) := (blk_cell BK117.out 3).trans rfl
                        have hcz56_4 : wr.cell? ⟨gb117, 4, none⟩ = some (.int .i64 x118004_3) := (blk_cell BK117.out 4).trans rfl
                        have hfz56_0 := blk_frozen BK117.out 0
                        have hfz56_1 := blk_frozen BK117.out 1
                        have hfz56_2 := blk_frozen BK117.out 2
                        have hfz56_3 := blk_frozen BK117.out 3
                        have hfz56_4 := blk_frozen BK117.out 4
                        go_wp2_with (first | ((with_reducible refine gate_builtin (b := .append) (xs := #[.tmp 92, .tmp 94]) rfl ?_); at_builtin; refine Kd.R_append k44 (w0 := w) w.heap.size rfl (.tmp 92) (.tmp 94) 41 44 (.agg #[(.string ⟨#[]⟩), (.int .i64 0), (.int .i64 0), (.int .i64 0), (.int .i64 0)]) 48 rfl Try.underlying41 info44 rfl (by decide) (by omega) u5 x5_2 (⟨(rdOf ByteArray.empty t113 x7_2), x118001_3, x118002_3, x118003_3, x118004_3⟩ : S44) [.string (rdOf ByteArray.empty t113 x7_2), .int .i64 x118001_3, .int .i64 x118002_3, .int .i64 x118003_3, .int .i64 x118004_3] (fun k_ => k_ ≠ gb117) (fun _ => False) rfl rfl ?aP (fun _ hk => hk.elim) ?aF ?aO ?aB ?aS ?aL ?_; (case aP => exact k44_mkM _ _ _ (⟨(rdOf ByteArray.empty t113 x7_2), x118001_3, x118002_3, x118003_3, x118004_3⟩ : S44)); (case aB => exact (by repeat (first | (with_reducible first | exact HB.out | apply below_alloc | apply pw_below_drewN | apply below_drew1 | refine below_set ?_ GE117.out) | exact HB.out))); (case aF => exact (fun k_ hk => Kd.freshB (g := gb117) (o := .cells #[.string (rdOf ByteArray.empty t113 x7_2), .int .i64 x118001_3, .int .i64 x118002_3, .int .i64 x118003_3, .int .i64 x118004_3] 44 (0, 0)) (by (with_reducible repeat (first | refine blk_drewN ?_ _ | refine blk_drew ?_ | refine blk_alloc ?_ _)); exact BK117.out) k_ hk)); (case aO => exact (by (with_reducible repeat (first | apply Kd.R_alloc | apply Kd.R_drewN | apply Kd.R_drew)); exact HO_5.out)); (case aS => exact (below_size (by repeat (first | (with_reducible first | exact HB.out | apply below_alloc | apply pw_below_drewN | apply below_drew1 | refine below_set ?_ GE117.out) | exact HB.out)))); (case aL => have := LMc55.out; omega); intro v119 w57 ho hb hg hat; rw [← Ny118.out] at ho; have n0_ := Aside0.mk (Kd.R_over' (by (with_reducible repeat (first | apply Kd.R_alloc | apply Kd.R_drewN | apply Kd.R_drew)); exact HO_3.out) (Kd.R_typed (by (with_reducible repeat (first | apply Kd.R_alloc | apply Kd.R_drewN | apply Kd.R_drew)); exact HO_5.out)) (by decide) hg); have n1_ := Aside0.mk (Kd.R_over' (by (with_reducible repeat (first | apply Kd.R_alloc | apply Kd.R_drewN | apply Kd.R_drew)); exact HO_6.out) (Kd.R_typed (by (with_reducible repeat (first | apply Kd.R_alloc | apply Kd.R_drewN | apply Kd.R_drew)); exact HO_5.out)) (by decide) hg); have n2_ := Aside0.mk (blk_grown (g := gb117) (o := .cells #[.string (rdOf ByteArray.empty t113 x7_2), .int .i64 x118001_3, .int .i64 x118002_3, .int .i64 x118003_3, .int .i64 x118004_3] 44 (0, 0)) (by (with_reducible repeat (first | refine blk_drewN ?_ _ | refine blk_drew ?_ | refine blk_alloc ?_ _)); exact BK117.out) hg (Kd.R_away HO_5.out (fun _ hk => hk))); have n3_ := Aside0.mk (hb); have n4_ := Aside0.mk (ho); clear HO_3; clear HO_6; clear BK117; clear HB; clear HO_5; have HO_3 := n0_; have HO_6 := n1_; have BK117 := n2_; have HB := n3_; have HO120 := n4_; clear n0_ n1_ n2_ n3_ n4_; clear ho hb hg hat))
                        repeat (go_quiet (first | ((with_reducible refine gate_builtin (b := .append) (xs := #[.tmp 92, .tmp 94]) rfl ?_); at_builtin; refine Kd.R_append k44 (w0 := w) w.heap.size rfl (.tmp 92) (.tmp 94) 41 44 (.agg #[(.string ⟨#[]⟩), (.int .i64 0), (.int .i64 0), (.int .i64 0), (.int .i64 0)]) 48 rfl Try.underlying41 info44 rfl (by decide) (by omega) u5 x5_2 (⟨(rdOf ByteArray.empty t113 x7_2), x118001_3, x118002_3, x118003_3, x118004_3⟩ : S44) [.string (rdOf ByteArray.empty t113 x7_2), .int .i64 x118001_3, .int .i64 x118002_3, .int .i64 x118003_3, .int .i64 x118004_3] (fun k_ => k_ ≠ gb117) (fun _ => False) rfl rfl ?aP (fun _ hk => hk.elim) ?aF ?aO ?aB ?aS ?aL ?_; (case aP => exact k44_mkM _ _ _ (⟨(rdOf ByteArray.empty t113 x7_2), x118001_3, x118002_3, x118003_3, x118004_3⟩ : S44)); (case aB => exact (by repeat (first | (with_reducible first | exact HB.out | apply below_alloc | apply pw_below_drewN | apply below_drew1 | refine below_set ?_ GE117.out) | exact HB.out))); (case aF => exact (fun k_ hk => Kd.freshB (g := gb117) (o := .cells #[.string (rdOf ByteArray.empty t113 x7_2), .int .i64 x118001_3, .int .i64 x118002_3, .int .i64 x118003_3, .int .i64 x118004_3] 44 (0, 0)) (by (with_reducible repeat (first | refine blk_drewN ?_ _ | refine blk_drew ?_ | refine blk_alloc ?_ _)); exact BK117.out) k_ hk)); (case aO => exact (by (with_reducible repeat (first | apply Kd.R_alloc | apply Kd.R_drewN | apply Kd.R_drew)); exact HO_5.out)); (case aS => exact (below_size (by repeat (first | (with_reducible first | exact HB.out | apply below_alloc | apply pw_below_drewN | apply below_drew1 | refine below_set ?_ GE117.out) | exact HB.out)))); (case aL => have := LMc55.out; omega); intro v119 w57 ho hb hg hat; rw [← Ny118.out] at ho; have n0_ := Aside0.mk (Kd.R_over' (by (with_reducible repeat (first | apply Kd.R_alloc | apply Kd.R_drewN | apply Kd.R_drew)); exact HO_3.out) (Kd.R_typed (by (with_reducible repeat (first | apply Kd.R_alloc | apply Kd.R_drewN | apply Kd.R_drew)); exact HO_5.out)) (by decide) hg); have n1_ := Aside0.mk (Kd.R_over' (by (with_reducible repeat (first | apply Kd.R_alloc | apply Kd.R_drewN | apply Kd.R_drew)); exact HO_6.out) (Kd.R_typed (by (with_reducible repeat (first | apply Kd.R_alloc | apply Kd.R_drewN | apply Kd.R_drew)); exact HO_5.out)) (by decide) hg); have n2_ := Aside0.mk (blk_grown (g := gb117) (o := .cells #[.string (rdOf ByteArray.empty t113 x7_2), .int .i64 x118001_3, .int .i64 x118002_3, .int .i64 x118003_3, .int .i64 x118004_3] 44 (0, 0)) (by (with_reducible repeat (first | refine blk_drewN ?_ _ | refine blk_drew ?_ | refine blk_alloc ?_ _)); exact BK117.out) hg (Kd.R_away HO_5.out (fun _ hk => hk))); have n3_ := Aside0.mk (hb); have n4_ := Aside0.mk (ho); clear HO_3; clear HO_6; clear BK117; clear HB; clear HO_5; have HO_3 := n0_; have HO_6 := n1_; have BK117 := n2_; have HB := n3_; have HO120 := n4_; clear n0_ n1_ n2_ n3_ n4_; clear ho hb hg hat)); try go_wp2_with (first | ((with_reducible refine gate_builtin (b := .append) (xs := #[.tmp 92, .tmp 94]) rfl ?_); at_builtin; refine Kd.R_append k44 (w0 := w) w.heap.size rfl (.tmp 92) (.tmp 94) 41 44 (.agg #[(.string ⟨#[]⟩), (.int .i64 0), (.int .i64 0), (.int .i64 0), (.int .i64 0)]) 48 rfl Try.underlying41 info44 rfl (by decide) (by omega) u5 x5_2 (⟨(rdOf ByteArray.empty t113 x7_2), x118001_3, x118002_3, x118003_3, x118004_3⟩ : S44) [.string (rdOf ByteArray.empty t113 x7_2), .int .i64 x118001_3, .int .i64 x118002_3, .int .i64 x118003_3, .int .i64 x118004_3] (fun k_ => k_ ≠ gb117) (fun _ => False) rfl rfl ?aP (fun _ hk => hk.elim) ?aF ?aO ?aB ?aS ?aL ?_; (case aP => exact k44_mkM _ _ _ (⟨(rdOf ByteArray.empty t113 x7_2), x118001_3, x118002_3, x118003_3, x118004_3⟩ : S44)); (case aB => exact (by repeat (first | (with_reducible first | exact HB.out | apply below_alloc | apply pw_below_drewN | apply below_drew1 | refine below_set ?_ GE117.out) | exact HB.out))); (case aF => exact (fun k_ hk => Kd.freshB (g := gb117) (o := .cells #[.string (rdOf ByteArray.empty t113 x7_2), .int .i64 x118001_3, .int .i64 x118002_3, .int .i64 x118003_3, .int .i64 x118004_3] 44 (0, 0)) (by (with_reducible repeat (first | refine blk_drewN ?_ _ | refine blk_drew ?_ | refine blk_alloc ?_ _)); exact BK117.out) k_ hk)); (case aO => exact (by (with_reducible repeat (first | apply Kd.R_alloc | apply Kd.R_drewN | apply Kd.R_drew)); exact HO_5.out)); (case aS => exact (below_size (by repeat (first | (with_reducible first | exact HB.out | apply below_alloc | apply pw_below_drewN | apply below_drew1 | refine below_set ?_ GE117.out) | exact HB.out)))); (case aL => have := LMc55.out; omega); intro v119 w57 ho hb hg hat; rw [← Ny118.out] at ho; have n0_ := Aside0.mk (Kd.R_over' (by (with_reducible repeat (first | apply Kd.R_alloc | apply Kd.R_drewN | apply Kd.R_drew)); exact HO_3.out) (Kd.R_typed (by (with_reducible repeat (first | apply Kd.R_alloc | apply Kd.R_drewN | apply Kd.R_drew)); exact HO_5.out)) (by decide) hg); have n1_ := Aside0.mk (Kd.R_over' (by (with_reducible repeat (first | apply Kd.R_alloc | apply Kd.R_drewN | apply Kd.R_drew)); exact HO_6.out) (Kd.R_typed (by (with_reducible repeat (first | apply Kd.R_alloc | apply Kd.R_drewN | apply Kd.R_drew)); exact HO_5.out)) (by decide) hg); have n2_ := Aside0.mk (blk_grown (g := gb117) (o := .cells #[.string (rdOf ByteArray.empty t113 x7_2), .int .i64 x118001_3, .int .i64 x118002_3, .int .i64 x118003_3, .int .i64 x118004_3] 44 (0, 0)) (by (with_reducible repeat (first | refine blk_drewN ?_ _ | refine blk_drew ?_ | refine blk_alloc ?_ _)); exact BK117.out) hg (Kd.R_away HO_5.out (fun _ hk => hk))); have n3_ := Aside0.mk (hb); have n4_ := Aside0.mk (ho); clear HO_3; clear HO_6; clear BK117; clear HB; clear HO_5; have HO_3 := n0_; have HO_6 := n1_; have BK117 := n2_; have HB := n3_; have HO120 := n4_; clear n0_ n1_ n2_ n3_ n4_; clear ho hb hg hat)))
                        go_roundg k3
                        case measure => have := HK1.out; have := HK2.out; have := HK3.out; omega
                        case rel => exact ⟨(y118), (wrap64 (x7_2 + 1)), (by first | rfl | (simp; done) | (simp [*]; done)), H', ⟨by have := HK1.out; have := HK2.out; have := HK3.out; omega⟩, ⟨by (with_reducible repeat (first | apply Kd.R_alloc | apply Kd.R_drewN | apply Kd.R_drew)); exact HO_3.out⟩, ⟨by (with_reducible repeat (first | apply Kd.R_alloc | apply Kd.R_drewN | apply Kd.R_drew)); exact Kd.R_mono HO120.out (fun _ hk => trivial)⟩, ⟨by (with_reducible repeat (first | apply Kd.R_alloc | apply Kd.R_drewN | apply Kd.R_drew)); exact HO_6.out⟩, ⟨by repeat (first | (with_reducible first | exact HB.out | apply below_alloc | apply pw_below_drewN | apply below_drew1 | refine below_set ?_ GE117.out) | exact HB.out)⟩⟩
                      · rw [if_neg c55] at H
                        exact absurd H (by simp)
              · rw [if_neg c18] at H
                exact absurd H (by simp)
            · rw [if_neg c17] at H
              have c17b0 : decide (x7_2 < (t113.length : Int)) = false := decide_eq_false c17
              clear c17
              obtain rfl := Option.some.inj H
              obtain ⟨Ao58, co58, eo58⟩ := Kd.R_slice HO_6.out
              subst eo58
              go_wp2
              repeat (go_quiet (fail); try go_wp2)
              go_ret
              exact ⟨_, by first | rfl | (simp [errW_none, errW_some] <;> rfl) | (simp [*, errW_none, errW_some] <;> rfl), by (with_reducible repeat (first | apply Kd.R_alloc | apply Kd.R_drewN | apply Kd.R_drew)); exact HO_5.out, by repeat (first | (with_reducible first | exact HB.out | apply below_alloc | apply pw_below_drewN | apply below_drew1) | exact HB.out)⟩

end Go.Proofs.Ytmfdhcgdibefiaa.T

-- Written by wip/tools/gp.py, a program of this session round the kit's printer. Lean checks it.
namespace Go.Proofs.Ytmfdhcgdibefiaa.U
open Go.RowKit Go.Proofs.Ytmfdhcgdibefiaa.Q Go.Proofs.Ytmfdhcgdibefiaa.R Go.Proofs.Ytmfdhcgdibefiaa.T Go.Proofs.YtmfdhcgdibefiaaW.PrintWords Go.Proofs.YtmfdhcgdibefiaaW.PrintLast Go.Proofs.YtmfdhcgdibefiaaW.PrintMore
attribute [local go_sem] max2_int min2_int max_two min_two max_three min_three max_four min_four   -- for this text's walks alone
set_option linter.unusedVariables false
set_option linter.unusedSimpArgs false

/-! ### stats_Of: function 21 (given) -/
def stats_Of.f (l0 : List S37) : Option (List S44) := if l0.length ≤ 1759218604441 ∧ (∀ x ∈ l0, L.fitS x) then some (L.talsL l0) else none
theorem stats_Of.calls (A0 : Option Addr) (c0 : Nat) (l0 : List (S37)) (r : List (S44)) (w : World) (hr0 : Kd.C k37 w A0 l0.length l0) (hc0 : l0.length ≤ c0) (h : stats_Of.f l0 = some r) :
    Calls Try.prog 21 #[.slice A0 l0.length c0] w fun e w' => ∃ v0_ : Value, e = .returned (v0_) ∧ Kd.R k44 44 w' w.heap.size (fun _ => True) v0_ r ∧ Below w.heap.size w w' := by
  unfold stats_Of.f at h
  split at h
  · rename_i hl
    obtain rfl := Option.some.inj h
    exact L.tals_calls l0 hl.1 hl.2 A0 c0 w hr0 hc0
  · exact absurd h (by simp)

/-! ### merkhetlaw27_StatsTallies: function 6 -/
def merkhetlaw27_StatsTallies.f (k : Nat) (l0 : List (S37)) : Option (Bool) := (merkhetlaw04_Great.f k l0).bind fun t101 => (if t101 = true then ((merkhetlaw27_fixed.f k).bind fun t102 => (some t102)) else ((merkhetlaw27_fixed.f k).bind fun t103 => (if t103 = true then ((stats_Of.f l0).bind fun t104 => ((merkhetref27_Of.f k l0).bind fun t107 => ((merkhetref27_Same.f k t104 t107).bind fun t110 => (some t110)))) else (some false))))
theorem merkhetlaw27_StatsTallies.mono : ∀ a0 k, LeO (merkhetlaw27_StatsTallies.f k a0) (merkhetlaw27_StatsTallies.f (k + 1) a0) := by
  intro a0 k
  unfold merkhetlaw27_StatsTallies.f
  repeat' first
      | (with_reducible exact merkhetlaw04_Great.mono _ _)
      | (with_reducible exact merkhetlaw27_fixed.mono _)
      | (with_reducible exact merkhetref27_Of.mono _ _)
      | (with_reducible exact merkhetref27_Same.mono _ _ _)
      | (with_reducible exact LeO.refl _)
      | (with_reducible exact LeO.none _)
      | (with_reducible refine LeO.ite ?_ ?_)
      | (with_reducible refine LeO.bind ?_ (fun _ => ?_))
      | exact merkhetlaw04_Great.mono _ _
      | exact merkhetlaw27_fixed.mono _
      | exact merkhetref27_Of.mono _ _
      | exact merkhetref27_Same.mono _ _ _
      | exact LeO.none _
      | refine LeO.ite ?_ ?_
      | refine LeO.bind ?_ (fun _ => ?_)
set_option maxHeartbeats 8000000 in
set_option maxRecDepth 100000 in
theorem merkhetlaw27_StatsTallies.calls (k : Nat) (A0 : Option Addr) (c0 : Nat) (l0 : List (S37)) (r : Bool) (w : World) (hr0 : Kd.C k37 w A0 l0.length l0) (hc0 : l0.length ≤ c0) (h : merkhetlaw27_StatsTallies.f k l0 = some r) :
    Calls Try.prog 6 #[.slice A0 l0.length c0] w fun e w' => e = .returned (.bool r) ∧ Below w.heap.size w w' := by
  have HR0 := Aside0.mk hr0
  have HC0 := Aside0.mk hc0
  clear hr0 hc0
  have HB := Aside0.mk (Below.refl w.heap.size w)
  have H : ((merkhetlaw04_Great.f k l0).bind fun t101 => (if t101 = true then ((merkhetlaw27_fixed.f k).bind fun t102 => (some t102)) else ((merkhetlaw27_fixed.f k).bind fun t103 => (if t103 = true then ((stats_Of.f l0).bind fun t104 => ((merkhetref27_Of.f k l0).bind fun t107 => ((merkhetref27_Same.f k t104 t107).bind fun t110 => (some t110)))) else (some false))))) = some r := h
  clear h
  replace H := Option.bind_eq_some_iff.mp H
  obtain ⟨t101, A20, H⟩ := H
  replace H : (if t101 = true then ((merkhetlaw27_fixed.f k).bind fun t102 => (some t102)) else ((merkhetlaw27_fixed.f k).bind fun t103 => (if t103 = true then ((stats_Of.f l0).bind fun t104 => ((merkhetref27_Of.f k l0).bind fun t107 => ((merkhetref27_Same.f k t104 t107).bind fun t110 => (some t110)))) else (some false)))) = some r := H
  have A2 := Aside0.mk A20
  clear A20
  by_cases c3 : t101 = true
  · subst c3
    have H1 : ((merkhetlaw27_fixed.f k).bind fun t102 => (some t102)) = some r := by rw [if_pos rfl] at H; exact H
    clear H
    have H := H1
    clear H1
    replace H := Option.bind_eq_some_iff.mp H
    obtain ⟨t102, A40, H⟩ := H
    replace H : (some t102) = some r := H
    have A4 := Aside0.mk A40
    clear A40
    obtain rfl := Option.some.inj H
    go_enter Try.func6, Try.ntmps6
    go_wp2_with (first | ((with_reducible refine gate_callee (f := 15) rfl ?_); refine goesL_ (some 4) rfl rfl Try.func15 (by kernel_rfl) rfl #[.slice A0 l0.length c0] rfl (by (try simp only [List.map_toArray, List.map_cons, List.map_nil]); first | done | rfl | (simp only [List.length_drop, List.length_take]; rfl)) ?_; (with_reducible refine (merkhetlaw04_Great.calls k _ _ l0 true _ ?side1 ?side2 A2.out).mono ?_); (case side1 => repeat (first | exact HR0.out | (with_reducible refine Kd.C_alloc ?_ _) | (with_reducible refine Kd.C_drewN ?_ _) | (with_reducible refine Kd.C_drew ?_))); (case side2 => exact HC0.out); rintro e w5 ⟨rfl, hb⟩; refine ⟨_, rfl, ?_⟩; have n0_ := Aside0.mk (below_step (by repeat (first | (with_reducible first | exact HB.out | apply below_alloc | apply pw_below_drewN | apply below_drew1) | exact HB.out)) hb); clear HB; have HB := n0_; clear n0_; (try clear hb); (try clear hb2); (try clear hk); (try clear hi)) | ((with_reducible refine gate_callee (f := 12) rfl ?_); refine goesL_ (some 5) rfl rfl Try.func12 (by kernel_rfl) rfl #[] rfl (by (try simp only [List.map_toArray, List.map_cons, List.map_nil]); first | done | rfl | (simp only [List.length_drop, List.length_take]; rfl)) ?_; (with_reducible refine (merkhetlaw27_fixed.calls k  t102 _ A4.out).mono ?_); rintro e w6 ⟨rfl, hb⟩; refine ⟨_, rfl, ?_⟩; have n0_ := Aside0.mk (below_step (by repeat (first | (with_reducible first | exact HB.out | apply below_alloc | apply pw_below_drewN | apply below_drew1) | exact HB.out)) hb); clear HB; have HB := n0_; clear n0_; (try clear hb); (try clear hb2); (try clear hk); (try clear hi)))
    go_ret
    exact ⟨by first | rfl | (simp [errW_none, errW_some] <;> rfl) | (simp [*, errW_none, errW_some] <;> rfl), by repeat (first | (with_reducible first | exact HB.out | apply below_alloc | apply pw_below_drewN | apply below_drew1) | exact HB.out)⟩
  · replace c3 := Bool.eq_false_iff.mpr c3
    subst c3
    have H1 : ((merkhetlaw27_fixed.f k).bind fun t103 => (if t103 = true then ((stats_Of.f l0).bind fun t104 => ((merkhetref27_Of.f k l0).bind fun t107 => ((merkhetref27_Same.f k t104 t107).bind fun t110 => (some t110)))) else (some false))) = some r := by rw [if_neg (show ¬ (false = true) by decide)] at H; exact H
    clear H
    have H := H1
    clear H1
    replace H := Option.bind_eq_some_iff.mp H
    obtain ⟨t103, A70, H⟩ := H
    replace H : (if t103 = true then ((stats_Of.f l0).bind fun t104 => ((merkhetref27_Of.f k l0).bind fun t107 => ((merkhetref27_Same.f k t104 t107).bind fun t110 => (some t110)))) else (some false)) = some r := H
    have A7 := Aside0.mk A70
    clear A70
    by_cases c8 : t103 = true
    · subst c8
      have H1 : ((stats_Of.f l0).bind fun t104 => ((merkhetref27_Of.f k l0).bind fun t107 => ((merkhetref27_Same.f k t104 t107).bind fun t110 => (some t110)))) = some r := by rw [if_pos rfl] at H; exact H
      clear H
      have H := H1
      clear H1
      replace H := Option.bind_eq_some_iff.mp H
      obtain ⟨t104, A90, H⟩ := H
      replace H : ((merkhetref27_Of.f k l0).bind fun t107 => ((merkhetref27_Same.f k t104 t107).bind fun t110 => (some t110))) = some r := H
      have A9 := Aside0.mk A90
      clear A90
      replace H := Option.bind_eq_some_iff.mp H
      obtain ⟨t107, A100, H⟩ := H
      replace H : ((merkhetref27_Same.f k t104 t107).bind fun t110 => (some t110)) = some r := H
      have A10 := Aside0.mk A100
      clear A100
      replace H := Option.bind_eq_some_iff.mp H
      obtain ⟨t110, A110, H⟩ := H
      replace H : (some t110) = some r := H
      have A11 := Aside0.mk A110
      clear A110
      obtain rfl := Option.some.inj H
      go_enter Try.func6, Try.ntmps6
      go_wp2_with (first | ((with_reducible refine gate_callee (f := 15) rfl ?_); refine goesL_ (some 4) rfl rfl Try.func15 (by kernel_rfl) rfl #[.slice A0 l0.length c0] rfl (by (try simp only [List.map_toArray, List.map_cons, List.map_nil]); first | done | rfl | (simp only [List.length_drop, List.length_take]; rfl)) ?_; (with_reducible refine (merkhetlaw04_Great.calls k _ _ l0 false _ ?side1 ?side2 A2.out).mono ?_); (case side1 => repeat (first | exact HR0.out | (with_reducible refine Kd.C_alloc ?_ _) | (with_reducible refine Kd.C_drewN ?_ _) | (with_reducible refine Kd.C_drew ?_))); (case side2 => exact HC0.out); rintro e w12 ⟨rfl, hb⟩; refine ⟨_, rfl, ?_⟩; have n0_ := Aside0.mk (below_step (by repeat (first | (with_reducible first | exact HB.out | apply below_alloc | apply pw_below_drewN | apply below_drew1) | exact HB.out)) hb); clear HB; have HB := n0_; clear n0_; (try clear hb); (try clear hb2); (try clear hk); (try clear hi)) | ((with_reducible refine gate_callee (f := 12) rfl ?_); refine goesL_ (some 6) rfl rfl Try.func12 (by kernel_rfl) rfl #[] rfl (by (try simp only [List.map_toArray, List.map_cons, List.map_nil]); first | done | rfl | (simp only [List.length_drop, List.length_take]; rfl)) ?_; (with_reducible refine (merkhetlaw27_fixed.calls k  true _ A7.out).mono ?_); rintro e w13 ⟨rfl, hb⟩; refine ⟨_, rfl, ?_⟩; have n0_ := Aside0.mk (below_step (by repeat (first | (with_reducible first | exact HB.out | apply below_alloc | apply pw_below_drewN | apply below_drew1) | exact HB.out)) hb); clear HB; have HB := n0_; clear n0_; (try clear hb); (try clear hb2); (try clear hk); (try clear hi)) | (go_at_call 21; (with_reducible refine (stats_Of.calls _ _ l0 t104 _ ?side1 ?side2 A9.out).mono ?_); (case side1 => repeat (first | exact (Kd.C_below HR0.out HB.out) | (with_reducible refine Kd.C_alloc ?_ _) | (with_reducible refine Kd.C_drewN ?_ _) | (with_reducible refine Kd.C_drew ?_))); (case side2 => exact HC0.out); rintro e w14 ⟨v105, rfl, ho0, hb⟩; have n0_ := Aside0.mk (Kd.R_lower ho0 (below_size (by repeat (first | (with_reducible first | exact HB.out | apply below_alloc | apply pw_below_drewN | apply below_drew1) | exact HB.out)))); have n1_ := Aside0.mk (below_step (by repeat (first | (with_reducible first | exact HB.out | apply below_alloc | apply pw_below_drewN | apply below_drew1) | exact HB.out)) hb); clear HB; have HO106 := n0_; have HB := n1_; clear n0_ n1_; (try clear hb); (try clear hb2); (try clear hk); (try clear hi); (try clear ho0)) | (go_at_call 22; (with_reducible refine (merkhetref27_Of.calls k _ _ l0 t107 _ ?side1 ?side2 A10.out).mono ?_); (case side1 => repeat (first | exact (Kd.C_below HR0.out HB.out) | (with_reducible refine Kd.C_alloc ?_ _) | (with_reducible refine Kd.C_drewN ?_ _) | (with_reducible refine Kd.C_drew ?_))); (case side2 => exact HC0.out); rintro e w15 ⟨v108, rfl, ho0, hb⟩; have n0_ := Aside0.mk (Kd.R_elder' (by (with_reducible repeat (first | apply Kd.R_alloc | apply Kd.R_drewN | apply Kd.R_drew)); exact HO106.out) (Kd.R_base ho0) hb); have n1_ := Aside0.mk (Kd.R_lower (Kd.R_new' ho0 (Kd.R_lt (by (with_reducible repeat (first | apply Kd.R_alloc | apply Kd.R_drewN | apply Kd.R_drew)); exact HO106.out))) (below_size (by repeat (first | (with_reducible first | exact HB.out | apply below_alloc | apply pw_below_drewN | apply below_drew1) | exact HB.out)))); have n2_ := Aside0.mk (below_step (by repeat (first | (with_reducible first | exact HB.out | apply below_alloc | apply pw_below_drewN | apply below_drew1) | exact HB.out)) hb); clear HO106; clear HB; have HO106 := n0_; have HO109 := n1_; have HB := n2_; clear n0_ n1_ n2_; (try clear hb); (try clear hb2); (try clear hk); (try clear hi); (try clear ho0); obtain ⟨Ao16, co16, eo16⟩ := Kd.R_slice HO106.out; subst eo16; obtain ⟨Ao17, co17, eo17⟩ := Kd.R_slice HO109.out; subst eo17) | (go_at_call 20; (with_reducible refine (merkhetref27_Same.calls k _ _ t104 _ _ t107 t110 _ ?side1 ?side2 ?side3 ?side4 A11.out).mono ?_); (case side1 => repeat (first | exact (Kd.R_reads' HO106.out).2.2 | (with_reducible refine Kd.C_alloc ?_ _) | (with_reducible refine Kd.C_drewN ?_ _) | (with_reducible refine Kd.C_drew ?_))); (case side2 => exact (Kd.R_reads' HO106.out).2.1); (case side3 => repeat (first | exact (Kd.R_reads' HO109.out).2.2 | (with_reducible refine Kd.C_alloc ?_ _) | (with_reducible refine Kd.C_drewN ?_ _) | (with_reducible refine Kd.C_drew ?_))); (case side4 => exact (Kd.R_reads' HO109.out).2.1); rintro e w' ⟨rfl, ⟨nd, rfl⟩⟩))
      go_ret
      exact ⟨by first | rfl | (simp [errW_none, errW_some] <;> rfl) | (simp [*, errW_none, errW_some] <;> rfl), by repeat (first | (with_reducible first | exact HB.out | apply below_alloc | apply pw_below_drewN | apply below_drew1) | exact HB.out)⟩
    · replace c8 := Bool.eq_false_iff.mpr c8
      subst c8
      have H1 : (some false) = some r := by rw [if_neg (show ¬ (false = true) by decide)] at H; exact H
      clear H
      have H := H1
      clear H1
      obtain rfl := Option.some.inj H
      go_enter Try.func6, Try.ntmps6
      go_wp2_with (first | ((with_reducible refine gate_callee (f := 15) rfl ?_); refine goesL_ (some 4) rfl rfl Try.func15 (by kernel_rfl) rfl #[.slice A0 l0.length c0] rfl (by (try simp only [List.map_toArray, List.map_cons, List.map_nil]); first | done | rfl | (simp only [List.length_drop, List.length_take]; rfl)) ?_; (with_reducible refine (merkhetlaw04_Great.calls k _ _ l0 false _ ?side1 ?side2 A2.out).mono ?_); (case side1 => repeat (first | exact HR0.out | (with_reducible refine Kd.C_alloc ?_ _) | (with_reducible refine Kd.C_drewN ?_ _) | (with_reducible refine Kd.C_drew ?_))); (case side2 => exact HC0.out); rintro e w18 ⟨rfl, hb⟩; refine ⟨_, rfl, ?_⟩; have n0_ := Aside0.mk (below_step (by repeat (first | (with_reducible first | exact HB.out | apply below_alloc | apply pw_below_drewN | apply below_drew1) | exact HB.out)) hb); clear HB; have HB := n0_; clear n0_; (try clear hb); (try clear hb2); (try clear hk); (try clear hi)) | ((with_reducible refine gate_callee (f := 12) rfl ?_); refine goesL_ (some 6) rfl rfl Try.func12 (by kernel_rfl) rfl #[] rfl (by (try simp only [List.map_toArray, List.map_cons, List.map_nil]); first | done | rfl | (simp only [List.length_drop, List.length_take]; rfl)) ?_; (with_reducible refine (merkhetlaw27_fixed.calls k  false _ A7.out).mono ?_); rintro e w19 ⟨rfl, hb⟩; refine ⟨_, rfl, ?_⟩; have n0_ := Aside0.mk (below_step (by repeat (first | (with_reducible first | exact HB.out | apply below_alloc | apply pw_below_drewN | apply below_drew1) | exact HB.out)) hb); clear HB; have HB := n0_; clear n0_; (try clear hb); (try clear hb2); (try clear hk); (try clear hi)))
      go_ret
      exact ⟨by first | rfl | (simp [errW_none, errW_some] <;> rfl) | (simp [*, errW_none, errW_some] <;> rfl), by repeat (first | (with_reducible first | exact HB.out | apply below_alloc | apply pw_below_drewN | apply below_drew1) | exact HB.out)⟩

end Go.Proofs.Ytmfdhcgdibefiaa.U

/- How an array of two is read. -/
namespace Go.Proofs.YtmfdhcgdibefiaaW.Open
open Go.RowKit Go.Proofs.YtmfdhcgdibefiaaW.PrintWords Go.ChangeShapes Go.WideShapes
set_option linter.unusedVariables false
end Go.Proofs.YtmfdhcgdibefiaaW.Open

-- Written by wip/tools/row.py, a program of this session. Lean checks it.
namespace Go.Proofs.Ytmfdhcgdibefiaa.R
open Go.RowKit Go.Proofs.YtmfdhcgdibefiaaW.PrintWords Go.Proofs.YtmfdhcgdibefiaaW.Open Go.Proofs.Ytmfdhcgdibefiaa.Q
set_option linter.unusedVariables false
end Go.Proofs.Ytmfdhcgdibefiaa.R

-- Written by wip/tools/row.py, a program of this session. Lean checks it.
namespace Go.Proofs.Ytmfdhcgdibefiaa.T
open Go.RowKit Go.Proofs.YtmfdhcgdibefiaaW.PrintWords Go.Proofs.YtmfdhcgdibefiaaW.Open Go.Proofs.Ytmfdhcgdibefiaa.Q
set_option linter.unusedVariables false

end Go.Proofs.Ytmfdhcgdibefiaa.T

-- Written by wip/tools/row.py, a program of this session. Lean checks it.
namespace Go.Proofs.Ytmfdhcgdibefiaa.U
open Go.RowKit Go.Proofs.YtmfdhcgdibefiaaW.PrintWords Go.Proofs.YtmfdhcgdibefiaaW.Open Go.Proofs.Ytmfdhcgdibefiaa.Q Go.Proofs.Ytmfdhcgdibefiaa.R Go.Proofs.Ytmfdhcgdibefiaa.T
set_option linter.unusedVariables false

end Go.Proofs.Ytmfdhcgdibefiaa.U

/- What all tallies come to together: plain. -/
namespace Go.Proofs.Ytmfdhcgdibefiaa.L
open Go.RowKit Go.Proofs.Ytmfdhcgdibefiaa.Q Go.Proofs.YtmfdhcgdibefiaaW.PrintWords
set_option linter.unusedVariables false
theorem tals_length (l : List S37) : (talsL l).length ≤ l.length := by
  unfold talsL
  rw [List.length_map]
  exact Nat.le_trans (hostsB_length _) (goodL_length l)
end Go.Proofs.Ytmfdhcgdibefiaa.L

/- The places whose parent a place is: plain. -/
namespace Go.Proofs.Ytmfdhcgdibefiaa.L
open Go.RowKit Go.Proofs.YtmfdhcgdibefiaaW.PrintWords Go.Proofs.YtmfdhcgdibefiaaW.Lib
set_option linter.unusedVariables false

/-- Those of the first k places whose parent a place is. -/
def kidsL (ps : List Int) (x : Int) : Nat → List Int
  | 0 => []
  | k + 1 => if rd ps (k : Int) = x then kidsL ps x k ++ [(k : Int)] else kidsL ps x k
theorem kidsL_len (ps : List Int) (x : Int) : ∀ k, (kidsL ps x k).length ≤ k
  | 0 => Nat.le_refl _
  | k + 1 => by
    have := kidsL_len ps x k
    unfold kidsL
    split
    · rw [List.length_append, List.length_singleton]; omega
    · omega
theorem kidsL_mem (ps : List Int) (x y : Int) : ∀ k, y ∈ kidsL ps x k ↔ 0 ≤ y ∧ y < k ∧ rd ps y = x
  | 0 => by simp only [kidsL, List.not_mem_nil, false_iff]; omega
  | k + 1 => by
    have ih := kidsL_mem ps x y k
    unfold kidsL
    split
    · rename_i c
      rw [List.mem_append, List.mem_singleton, ih]
      constructor
      · rintro (h | h)
        · exact ⟨h.1, by omega, h.2.2⟩
        · rw [h]; exact ⟨by omega, by omega, c⟩
      · rintro ⟨h0, h1, h2⟩
        by_cases e : y = (k : Int)
        · exact .inr e
        · exact .inl ⟨h0, by omega, h2⟩
    · rename_i c
      rw [ih]
      constructor
      · rintro h
        exact ⟨h.1, by omega, h.2.2⟩
      · rintro ⟨h0, h1, h2⟩
        refine ⟨h0, ?_, h2⟩
        by_cases e : y = (k : Int)
        · rw [e] at h2; exact absurd h2 c
        · omega
end Go.Proofs.Ytmfdhcgdibefiaa.L

/- forest.Kids: plain. -/
namespace Go.Proofs.Ytmfdhcgdibefiaa.L
open Go.RowKit Go.Proofs.Ytmfdhcgdibefiaa.Q Go.Proofs.YtmfdhcgdibefiaaW.PrintWords Go.Proofs.YtmfdhcgdibefiaaW.Lib
set_option linter.unusedVariables false

theorem kids_ev (ps : List Int) (x : Int) (hl : ps.length ≤ 1000000) : Ev (fun k => forest_Kids.f k ps x) (kidsL ps x ps.length) := by
  unfold forest_Kids.f
  have key : ∀ (d i : Nat), ps.length - i = d → i ≤ ps.length → Ev (fun k => forest_Kids.l0 k x (kidsL ps x i) ps (ps.length : Int) (i : Int)) (kidsL ps x ps.length) := by
    intro d
    induction d with
    | zero =>
      intro i hd hi
      obtain rfl : i = ps.length := by omega
      refine Ev.succ ?_
      simp only [forest_Kids.l0]
      exact Ev.neg (by omega) (Ev.now _)
    | succ d ih =>
      intro i hd hi
      have hn := ih (i + 1) (by omega) (by omega)
      have hk := kidsL_len ps x i
      rw [show kidsL ps x (i + 1) = if rd ps (i : Int) = x then kidsL ps x i ++ [(i : Int)] else kidsL ps x i from rfl] at hn
      refine Ev.succ ?_
      simp only [forest_Kids.l0]
      rw [wrap_id (by omega) (by omega)]
      refine Ev.pos (by omega) (Ev.pos (by omega) (Ev.pos (by omega) (Ev.ite (fun c => Ev.pos (by omega) ?_) (fun c => ?_))))
      · rw [if_pos c] at hn
        exact hn
      · rw [if_neg c] at hn
        exact hn
  exact key ps.length 0 (by omega) (by omega)
end Go.Proofs.Ytmfdhcgdibefiaa.L

/- The document's May of many spans, plain. -/
namespace Go.Proofs.Ytmfdhcgdibefiaa.L
open Go.RowKit Go.Proofs.Ytmfdhcgdibefiaa.Q Go.Proofs.YtmfdhcgdibefiaaW.PrintWords Go.Proofs.YtmfdhcgdibefiaaW.PrintLast Go.Proofs.YtmfdhcgdibefiaaW.PrintMore Go.Proofs.YtmfdhcgdibefiaaW.Lib
set_option linter.unusedVariables false
end Go.Proofs.Ytmfdhcgdibefiaa.L

/- The document's Same of whole numbers, plain. -/
namespace Go.Proofs.Ytmfdhcgdibefiaa.L
open Go.RowKit Go.Proofs.Ytmfdhcgdibefiaa.Q Go.Proofs.YtmfdhcgdibefiaaW.PrintWords Go.Proofs.YtmfdhcgdibefiaaW.PrintLast Go.Proofs.YtmfdhcgdibefiaaW.PrintMore Go.Proofs.YtmfdhcgdibefiaaW.Lib
set_option linter.unusedVariables false

theorem same15_ev (a b : List Int) (ha : a.length ≤ 1000000000) : ∃ r, Ev (fun k => merkhetref15_Same.f k a b) r ∧ (r = true ↔ a = b) := by
  unfold merkhetref15_Same.f
  by_cases h : (a.length : Int) = (b.length : Int)
  · have key : ∀ (d i : Nat), a.length - i = d → i ≤ a.length → ∃ r, Ev (fun k => merkhetref15_Same.l0 k a b (i : Int)) r ∧ (r = true ↔ a.drop i = b.drop i) := by
      intro d
      induction d with
      | zero =>
        intro i hd hi
        refine ⟨true, Ev.succ ?_, ?_⟩
        · simp only [merkhetref15_Same.l0]
          exact Ev.neg (by omega) (Ev.now _)
        · rw [List.drop_of_length_le (by omega), List.drop_of_length_le (by omega)]
          simp
      | succ d ih =>
        intro i hd hi
        have hil : i < a.length := by omega
        have hib : i < b.length := by omega
        have hr : rd a (i : Int) = a[i] := by simp [rd, List.getD, hil]
        have hr2 : rd b (i : Int) = b[i] := by simp [rd, List.getD, hib]
        obtain ⟨r, h1, h2⟩ := ih (i + 1) (by omega) (by omega)
        have ea := List.drop_eq_getElem_cons hil
        have eb := List.drop_eq_getElem_cons hib
        by_cases e : a[i] = b[i]
        · refine ⟨r, Ev.succ ?_, ?_⟩
          · simp only [merkhetref15_Same.l0, hr, hr2]
            refine Ev.pos (by omega) (Ev.pos (by omega) (Ev.pos (by omega) (Ev.pos e ?_)))
            rw [wrap_id (by omega) (by omega)]
            exact h1
          · rw [h2, ea, eb, List.cons.injEq]
            exact ⟨fun h => ⟨e, h⟩, fun h => h.2⟩
        · refine ⟨false, Ev.succ ?_, ?_⟩
          · simp only [merkhetref15_Same.l0, hr, hr2]
            exact Ev.pos (by omega) (Ev.pos (by omega) (Ev.pos (by omega) (Ev.neg e (Ev.now _))))
          · rw [ea, eb, List.cons.injEq]
            exact ⟨fun h => absurd h (by simp), fun h => absurd h.1 e⟩
    obtain ⟨r, h1, h2⟩ := key a.length 0 (by omega) (by omega)
    exact ⟨r, Ev.pos h h1, by simpa using h2⟩
  · refine ⟨false, Ev.neg h (Ev.now _), ⟨by simp, ?_⟩⟩
    rintro rfl
    exact absurd rfl h
theorem same15_self (a : List Int) (ha : a.length ≤ 1000000000) : Ev (fun k => merkhetref15_Same.f k a a) true := by
  obtain ⟨r, h1, h2⟩ := same15_ev a a ha
  exact Ev.cast h1 (h2.2 rfl)
end Go.Proofs.Ytmfdhcgdibefiaa.L

-- Written by wip/tools/gp.py, a program of this session round the kit's printer. Lean checks it.
namespace Go.Proofs.Ytmfdhcgdibefiaa.R
open Go.RowKit Go.Proofs.Ytmfdhcgdibefiaa.Q Go.Proofs.YtmfdhcgdibefiaaW.PrintWords Go.Proofs.YtmfdhcgdibefiaaW.PrintLast Go.Proofs.YtmfdhcgdibefiaaW.PrintMore
attribute [local go_sem] max2_int min2_int max_two min_two max_three min_three max_four min_four   -- for this text's walks alone
set_option linter.unusedVariables false
set_option linter.unusedSimpArgs false
end Go.Proofs.Ytmfdhcgdibefiaa.R

-- Written by wip/tools/gp.py, a program of this session round the kit's printer. Lean checks it.
namespace Go.Proofs.Ytmfdhcgdibefiaa.R
open Go.RowKit Go.Proofs.Ytmfdhcgdibefiaa.Q Go.Proofs.YtmfdhcgdibefiaaW.PrintWords Go.Proofs.YtmfdhcgdibefiaaW.PrintLast Go.Proofs.YtmfdhcgdibefiaaW.PrintMore
attribute [local go_sem] max2_int min2_int max_two min_two max_three min_three max_four min_four   -- for this text's walks alone
set_option linter.unusedVariables false
set_option linter.unusedSimpArgs false
end Go.Proofs.Ytmfdhcgdibefiaa.R

/- Spans' own times, plain: the code's, and the document's. -/
namespace Go.Proofs.Ytmfdhcgdibefiaa.L
open Go.RowKit Go.Proofs.Ytmfdhcgdibefiaa.Q Go.Proofs.Ytmfdhcgdibefiaa.R Go.Proofs.YtmfdhcgdibefiaaW.PrintWords Go.Proofs.YtmfdhcgdibefiaaW.PrintLast Go.Proofs.YtmfdhcgdibefiaaW.PrintMore Go.Proofs.YtmfdhcgdibefiaaW.Lib
set_option linter.unusedVariables false

abbrev SpD := S37
abbrev StD := S26
def prS (s : StD) : Int × Int := (s.f0, s.f1)
/-- A kid's stretch within its parent's. -/
def kidS (l : List SpD) (i k : Int) : StD := ⟨mx (rd_T37 l k).f6 (rd_T37 l i).f6, mn (wrap64 ((rd_T37 l k).f6 + (rd_T37 l k).f7)) (wrap64 ((rd_T37 l i).f6 + (rd_T37 l i).f7))⟩
def kidsP (l : List SpD) (ps : List Int) (i : Int) : List StD := (kidsL ps i ps.length).map (kidS l i)
def ownAt (l : List SpD) (ps : List Int) (i : Int) : Int := wrap64 ((rd_T37 l i).f7 - wrap64 (coverN ((kidsP l ps i).map prS) : Int))
def ownR (l : List SpD) (ps : List Int) : List Int := (List.range l.length).map (fun i : Nat => ownAt l ps i)
def ownL (l : List SpD) (ps : List Int) : List Int × Bool := if l.length = ps.length ∧ rightB ps = true ∧ mayA l = true then (ownR l ps, true) else ([], false)
theorem ownR_len (l : List SpD) (ps : List Int) : (ownR l ps).length = l.length := by simp [ownR]
theorem ownR_next (l : List SpD) (ps : List Int) (i : Nat) (hi : i < l.length) : (ownR l ps).take (i + 1) = (ownR l ps).take i ++ [ownAt l ps i] := by
  rw [List.take_succ_eq_append_getElem (by rw [ownR_len]; exact hi)]
  simp [ownR]
theorem ownL_no {l : List SpD} {ps : List Int} (h : ¬ (l.length = ps.length ∧ rightB ps = true ∧ mayA l = true)) : ownL l ps = ([], false) := by unfold ownL; rw [if_neg h]
theorem not_anyM (l : List SpD) : l.any (fun s => !mayS s) = !mayA l := by
  unfold mayA
  induction l with
  | nil => rfl
  | cons x l ih => rw [List.any_cons, List.all_cons, ih, Bool.not_and]
theorem mayA_at {l : List SpD} (h : mayA l = true) {i : Int} (h0 : 0 ≤ i) (h1 : i < l.length) : 0 ≤ (rd_T37 l i).f6 ∧ (rd_T37 l i).f6 < 1125899906842624 ∧ 0 ≤ (rd_T37 l i).f7 ∧ (rd_T37 l i).f7 ≤ 1125899906842624 := by
  have hx : i.toNat < l.length := by omega
  have e : rd_T37 l i = l[i.toNat] := by simp [rd_T37, List.getD, hx]
  rw [e]
  exact mayB_le (List.all_eq_true.1 h _ (List.getElem_mem hx))
theorem kidS_in {l : List SpD} (h : mayA l = true) {i k : Int} (h0 : 0 ≤ i) (h1 : i < l.length) (h2 : 0 ≤ k) (h3 : k < l.length) : inI ((kidS l i k).f0, (kidS l i k).f1) ∧ (rd_T37 l i).f6 ≤ (kidS l i k).f0 ∧ (kidS l i k).f1 ≤ (rd_T37 l i).f6 + (rd_T37 l i).f7 := by
  have a := mayA_at h h0 h1
  have b := mayA_at h h2 h3
  unfold kidS inI loI hiI mx mn
  dsimp only
  rw [wrap_id (by omega) (by omega), wrap_id (by omega) (by omega)]
  split <;> split <;> omega
theorem kidsP_mem {l : List SpD} (h : mayA l = true) {ps : List Int} (hl : l.length = ps.length) {i : Int} (h0 : 0 ≤ i) (h1 : i < l.length) : ∀ s ∈ kidsP l ps i, inI (s.f0, s.f1) ∧ (rd_T37 l i).f6 ≤ s.f0 ∧ s.f1 ≤ (rd_T37 l i).f6 + (rd_T37 l i).f7 := by
  intro s hs
  obtain ⟨k, hk, rfl⟩ := List.mem_map.1 hs
  obtain ⟨k0, k1, _⟩ := (kidsL_mem ps i k ps.length).1 hk
  exact kidS_in h h0 h1 k0 (by omega)
set_option maxHeartbeats 1000000 in
theorem own_ev (l : List SpD) (ps : List Int) (hl : l.length ≤ 1000000) (hps : ps.length ≤ 1000000) (hf : ∀ s ∈ l, fitS s) : Ev (fun k => stats_Own.f k l ps) (ownL l ps) := by
  unfold stats_Own.f
  have skip : ownL l ps = ([], false) → Ev (fun k => stats_Own.j0 k l ps true) (ownL l ps) := by
    intro h
    rw [h]
    refine Ev.succ ?_
    simp only [stats_Own.j0]
    exact Ev.pos trivial (Ev.now _)
  refine Ev.ite (fun he => ?_) (fun he => skip (ownL_no (fun h => he (by omega))))
  refine Ev.bind (a := rightB ps) (Ev.const (by unfold parent_Right.f; rw [if_pos hps])) (Ev.ite (fun hr => ?_) (fun hr => skip (ownL_no (fun h => hr h.2.1))))
  refine Ev.bind (a := !mayA l) (Ev.const (by unfold stats_Own_1.f; rw [if_pos ⟨by omega, hf⟩, not_anyM])) ?_
  cases hm : mayA l with
  | false => exact skip (ownL_no (fun h => by rw [hm] at h; exact absurd h.2.2 (by simp)))
  | true =>
    have hlen : l.length = ps.length := by omega
    have hres : ownL l ps = (ownR l ps, true) := by unfold ownL; rw [if_pos ⟨hlen, hr, hm⟩]
    rw [hres]
    refine Ev.succ ?_
    simp only [stats_Own.j0, Bool.not_true]
    refine Ev.neg (by simp) ?_
    have outer : ∀ (d i : Nat), l.length - i = d → i ≤ l.length → Ev (fun k => stats_Own.l0 k l ps ((ownR l ps).take i) l (l.length : Int) (i : Int)) (ownR l ps, true) := by
      intro d
      induction d with
      | zero =>
        intro i hd hi
        refine Ev.succ ?_
        simp only [stats_Own.l0]
        refine Ev.neg (by omega) (Ev.cast (Ev.now _) ?_)
        rw [List.take_of_length_le (by rw [ownR_len]; omega)]
      | succ d ih =>
        intro i hd hi
        have hlt : i < l.length := by omega
        have hn := ih (i + 1) (by omega) (by omega)
        rw [ownR_next l ps i hlt] at hn
        have htl : ((ownR l ps).take i).length ≤ l.length := by rw [List.length_take, ownR_len]; omega
        have hkl := kidsL_len ps (i : Int) ps.length
        have hpl : (kidsP l ps (i : Int)).length = (kidsL ps (i : Int) ps.length).length := by simp [kidsP]
        have hkm := kidsP_mem hm hlen (i := (i : Int)) (by omega) (by omega)
        generalize hsp : rd_T37 l (i : Int) = s at *
        have inner : ∀ (e j : Nat), (kidsL ps (i : Int) ps.length).length - j = e → j ≤ (kidsL ps (i : Int) ps.length).length → Ev (fun k => stats_Own.l1 k l ps ((ownR l ps).take i) ((kidsP l ps (i : Int)).take j) l (l.length : Int) (i : Int) (kidsL ps (i : Int) ps.length) ((kidsL ps (i : Int) ps.length).length : Int) (j : Int) s.f0 s.f1 s.f2 s.f3 s.f4 s.f5 s.f6 s.f7) (ownR l ps, true) := by
          intro e
          induction e with
          | zero =>
            intro j hj1 hj2
            refine Ev.succ ?_
            simp only [stats_Own.l1]
            refine Ev.neg (by omega) ?_
            rw [List.take_of_length_le (show (kidsP l ps (i : Int)).length ≤ j by omega)]
            refine Ev.bind (a := (coverN ((kidsP l ps (i : Int)).map prS) : Int)) (Ev.const (by unfold stats_Cover.f; rw [if_pos ⟨by omega, fun t ht => (hkm t ht).1⟩]; rfl)) (Ev.pos (by omega) ?_)
            rw [wrap_id (i := (i : Int) + 1) (by omega) (by omega)]
            have hoa : ownAt l ps (i : Int) = wrap64 (s.f7 - wrap64 (coverN ((kidsP l ps (i : Int)).map prS) : Int)) := by unfold ownAt; rw [hsp]
            rw [← hoa]
            exact hn
          | succ e ihe =>
            intro j hj1 hj2
            have hjl : j < (kidsL ps (i : Int) ps.length).length := by omega
            have hn2 := ihe (j + 1) (by omega) (by omega)
            have hr2 : rd (kidsL ps (i : Int) ps.length) (j : Int) = (kidsL ps (i : Int) ps.length)[j] := by simp [rd, List.getD, hjl]
            obtain ⟨k0, k1, _⟩ := (kidsL_mem ps (i : Int) _ ps.length).1 (List.getElem_mem hjl)
            have htk : (kidsP l ps (i : Int)).take (j + 1) = (kidsP l ps (i : Int)).take j ++ [kidS l (i : Int) (kidsL ps (i : Int) ps.length)[j]] := by
              rw [List.take_succ_eq_append_getElem (by omega)]
              simp [kidsP]
            have hks : kidS l (i : Int) (kidsL ps (i : Int) ps.length)[j] = ⟨mx (rd_T37 l (kidsL ps (i : Int) ps.length)[j]).f6 s.f6, mn (wrap64 ((rd_T37 l (kidsL ps (i : Int) ps.length)[j]).f6 + (rd_T37 l (kidsL ps (i : Int) ps.length)[j]).f7)) (wrap64 (s.f6 + s.f7))⟩ := by unfold kidS; rw [hsp]
            rw [htk, hks] at hn2
            have hl9 : ((kidsP l ps (i : Int)).take j).length ≤ ps.length := by rw [List.length_take]; omega
            refine Ev.succ ?_
            simp only [stats_Own.l1, hr2]
            refine Ev.pos (by omega) (Ev.pos (by omega) (Ev.pos (by omega) (Ev.pos k0 (Ev.pos (by omega) (Ev.pos (by omega) ?_)))))
            rw [wrap_id (i := (j : Int) + 1) (by omega) (by omega)]
            exact hn2
        refine Ev.succ ?_
        simp only [stats_Own.l0, hsp]
        exact Ev.pos (by omega) (Ev.pos (by omega) (Ev.pos (by omega) (Ev.bind (kids_ev ps (i : Int) hps) (inner _ 0 rfl (by omega)))))
    exact outer l.length 0 (by omega) (by omega)
end Go.Proofs.Ytmfdhcgdibefiaa.L

/- Spans' rows, read at a place. -/
namespace Go.Proofs.Ytmfdhcgdibefiaa.L
open Go.RowKit Go.Proofs.Ytmfdhcgdibefiaa.Q Go.Proofs.YtmfdhcgdibefiaaW.PrintWords
set_option linter.unusedVariables false

abbrev Span := S37
theorem rdS_nat (l : List Span) (i : Nat) (h : i < l.length) : rd_T37 l (i : Int) = l[i] := by simp [rd_T37, List.getD, h]
end Go.Proofs.Ytmfdhcgdibefiaa.L

/- The guard of layer 4, as plain lists. -/
namespace Go.Proofs.Ytmfdhcgdibefiaa.L
open Go.RowKit Go.Proofs.Ytmfdhcgdibefiaa.Q Go.Proofs.YtmfdhcgdibefiaaW.PrintWords Go.Proofs.YtmfdhcgdibefiaaW.PrintLast Go.Proofs.YtmfdhcgdibefiaaW.PrintMore Go.Proofs.YtmfdhcgdibefiaaW.Lib
set_option linter.unusedVariables false

theorem great_ev (l : List Span) : ∃ b, Ev (fun k => merkhetlaw04_Great.f k l) b ∧ (b = false → l.length ≤ 60 ∧ ∀ x ∈ l, x.f4.size ≤ 100 ∧ x.f5.size ≤ 100) := by
  unfold merkhetlaw04_Great.f
  by_cases h : (l.length : Int) > 60
  · exact ⟨true, Ev.pos h (Ev.now _), by simp⟩
  · have key : ∀ (d i : Nat), l.length - i = d → i ≤ l.length → ∃ b, Ev (fun k => merkhetlaw04_Great.l0 k l (l.length : Int) (i : Int)) b ∧ (b = false → ∀ x ∈ l.drop i, x.f4.size ≤ 100 ∧ x.f5.size ≤ 100) := by
      intro d
      induction d with
      | zero =>
        intro i hd hi
        refine ⟨false, Ev.succ ?_, fun _ x hx => ?_⟩
        · simp only [merkhetlaw04_Great.l0]
          exact Ev.neg (by omega) (Ev.now _)
        · rw [List.drop_of_length_le (by omega)] at hx; cases hx
      | succ d ih =>
        intro i hd hi
        have hil : i < l.length := by omega
        obtain ⟨b, hb, hb2⟩ := ih (i + 1) (by omega) (by omega)
        by_cases h4 : ((l[i].f4.size : Nat) : Int) > 100
        · refine ⟨true, Ev.succ ?_, by simp⟩
          simp only [merkhetlaw04_Great.l0, rdS_nat l i hil]
          exact Ev.pos (by omega) (Ev.pos (by omega) (Ev.pos (by omega) (Ev.pos h4 (Ev.now _))))
        · by_cases h5 : ((l[i].f5.size : Nat) : Int) > 100
          · refine ⟨true, Ev.succ ?_, by simp⟩
            simp only [merkhetlaw04_Great.l0, rdS_nat l i hil]
            exact Ev.pos (by omega) (Ev.pos (by omega) (Ev.pos (by omega) (Ev.neg h4 (Ev.pos h5 (Ev.now _)))))
          · refine ⟨b, Ev.succ ?_, fun e x hx => ?_⟩
            · simp only [merkhetlaw04_Great.l0, rdS_nat l i hil]
              refine Ev.pos (by omega) (Ev.pos (by omega) (Ev.pos (by omega) (Ev.neg h4 (Ev.neg h5 ?_))))
              rw [wrap_id (by omega) (by omega)]
              exact hb
            · rw [List.drop_eq_getElem_cons hil] at hx
              rcases List.mem_cons.1 hx with rfl | hx
              · omega
              · exact hb2 e x hx
    obtain ⟨b, hb, hb2⟩ := key l.length 0 (by omega) (by omega)
    refine ⟨b, Ev.neg h hb, fun e => ⟨by omega, fun x hx => hb2 e x (by simpa using hx)⟩⟩

end Go.Proofs.Ytmfdhcgdibefiaa.L

/- The document's own times, plain; the chapter's example. -/
namespace Go.Proofs.Ytmfdhcgdibefiaa.L
open Go.RowKit Go.Proofs.Ytmfdhcgdibefiaa.Q Go.Proofs.Ytmfdhcgdibefiaa.R Go.Proofs.YtmfdhcgdibefiaaW.PrintWords Go.Proofs.YtmfdhcgdibefiaaW.PrintLast Go.Proofs.YtmfdhcgdibefiaaW.PrintMore Go.Proofs.YtmfdhcgdibefiaaW.Lib
set_option linter.unusedVariables false
def exO : List SpD := [⟨1, 1, 0, 0, ⟨#[97]⟩, ⟨#[98]⟩, 0, 10⟩, ⟨1, 2, 0, 0, ⟨#[97]⟩, ⟨#[98]⟩, 2, 2⟩, ⟨1, 3, 0, 0, ⟨#[97]⟩, ⟨#[98]⟩, 3, 9⟩]
theorem cover_ex {l : List (Int × Int)} (hi : ∀ s ∈ l, inI s) (hp : l.Pairwise (fun a b => a.1 ≤ b.1)) {n : Int} (h : (l.foldl covStep (0, loI)).1 = n) : (coverN l : Int) = n := (fold_cover hi hp).symm.trans h
theorem exO_own : ownL exO [-1, 0, 0] = ([2, 2, 9], true) := by
  unfold ownL
  rw [if_pos ⟨rfl, by decide, by decide⟩]
  have k0 : (kidsP exO [-1, 0, 0] 0).map prS = [(2, 4), (3, 10)] := by kernel_rfl
  have k1 : (kidsP exO [-1, 0, 0] 1).map prS = [] := by kernel_rfl
  have k2 : (kidsP exO [-1, 0, 0] 2).map prS = [] := by kernel_rfl
  have c0 : (coverN [(2, 4), (3, 10)] : Int) = 8 := cover_ex (by decide) (by decide) (by decide)
  have c1 : (coverN [] : Int) = 0 := cover_ex (by decide) (by decide) (by decide)
  have e : ownR exO [-1, 0, 0] = [ownAt exO [-1, 0, 0] 0, ownAt exO [-1, 0, 0] 1, ownAt exO [-1, 0, 0] 2] := rfl
  rw [e]
  unfold ownAt
  rw [k0, k1, k2, c0, c1, show (rd_T37 exO 0).f7 = 10 from rfl, show (rd_T37 exO 1).f7 = 2 from rfl, show (rd_T37 exO 2).f7 = 9 from rfl]
  rw [show wrap64 (10 - wrap64 8) = 2 by unfold wrap64; omega, show wrap64 (2 - wrap64 0) = 2 by unfold wrap64; omega, show wrap64 (9 - wrap64 0) = 9 by unfold wrap64; omega]
theorem fixed27 : Ev (fun k => merkhetlaw27_fixed.f k) true := by
  unfold merkhetlaw27_fixed.f merkhetlaw27_fixed_1.f
  refine Ev.bind (Ev.now _) (Ev.bind (Ev.now _) (Ev.bind (Ev.now _) ?_))
  refine Ev.bind (a := ownL exO [-1, 0, 0]) (own_ev exO [-1, 0, 0] (by decide) (by decide) (by decide)) ?_
  rw [exO_own]
  have c : (coverN [(1, 5), (3, 8)] : Int) = 7 := cover_ex (by decide) (by decide) (by decide)
  refine Ev.bind (a := 7) (Ev.const (by unfold stats_Cover.f; rw [if_pos ⟨by decide, by decide⟩]; exact congrArg some c)) (Ev.pos rfl (Ev.pos rfl (Ev.bind (same15_self _ (by decide)) (Ev.now _))))
end Go.Proofs.Ytmfdhcgdibefiaa.L

/- What the document's order of texts comes to, as plain Lean. -/
namespace Go.Proofs.Ytmfdhcgdibefiaa.L
open Go.RowKit Go.Proofs.Ytmfdhcgdibefiaa.Q Go.Proofs.YtmfdhcgdibefiaaW.PrintWords Go.Proofs.YtmfdhcgdibefiaaW.PrintLast Go.Proofs.YtmfdhcgdibefiaaW.PrintMore Go.Proofs.YtmfdhcgdibefiaaW.Lib
set_option linter.unusedVariables false

theorem data_drop (s : ByteArray) (i : Nat) (h : i < s.size) : ∃ x : UInt8, s.data.toList.drop i = x :: s.data.toList.drop (i + 1) ∧ (x.toNat : Int) = bt s (i : Int) := by
  have h' : i < s.data.toList.length := by simpa using h
  refine ⟨s.data.toList[i], List.drop_eq_getElem_cons h', ?_⟩
  rw [← bt_at s (i : Int) (by simpa using h)]
  simp [ByteArray.getElem_eq_getElem_data]
theorem text_l0 (a b : ByteArray) (ha : a.size ≤ 140737488351232) (hb : b.size ≤ 140737488351232) : ∀ (d i : Nat), a.size - i = d → i ≤ a.size → i ≤ b.size →
    Ev (fun k => merkhetref01_Text.l0 k a b (i : Int)) (Go.Lib.compareBytes (a.data.toList.drop i) (b.data.toList.drop i)) := by
  have stop : ∀ i : Nat, i ≤ a.size → i ≤ b.size → ¬ (i < a.size ∧ i < b.size) → (if (a.size : Int) < (b.size : Int) then (-1 : Int) else if (a.size : Int) > (b.size : Int) then 1 else 0) = Go.Lib.compareBytes (a.data.toList.drop i) (b.data.toList.drop i) := by
    intro i h1 h2 h3
    by_cases e1 : i < a.size
    · obtain ⟨x, hx, _⟩ := data_drop a i e1
      rw [hx, List.drop_of_length_le (l := b.data.toList) (by simp; omega), if_neg (by omega), if_pos (by omega)]; rfl
    · by_cases e2 : i < b.size
      · obtain ⟨x, hx, _⟩ := data_drop b i e2
        rw [hx, List.drop_of_length_le (l := a.data.toList) (by simp; omega), if_pos (by omega)]; rfl
      · rw [List.drop_of_length_le (l := a.data.toList) (by simp; omega), List.drop_of_length_le (l := b.data.toList) (by simp; omega), if_neg (by omega), if_neg (by omega)]; rfl
  have fin : ∀ i : Nat, i ≤ a.size → i ≤ b.size → ¬ (i < a.size ∧ i < b.size) → Ev (fun k => merkhetref01_Text.j1 k a b (i : Int) false) (Go.Lib.compareBytes (a.data.toList.drop i) (b.data.toList.drop i)) := by
    intro i h1 h2 h3
    refine Ev.step (f := fun _ => if (a.size : Int) < (b.size : Int) then some (-1) else if (a.size : Int) > (b.size : Int) then some 1 else some 0) (fun k => by simp [merkhetref01_Text.j1]) ?_
    rw [← stop i h1 h2 h3]
    refine Ev.ite (fun e => ?_) (fun e => ?_)
    · rw [if_pos e]; exact Ev.now _
    · rw [if_neg e]
      refine Ev.ite (fun e => ?_) (fun e => ?_)
      · rw [if_pos e]; exact Ev.now _
      · rw [if_neg e]; exact Ev.now _
  intro d
  induction d with
  | zero =>
    intro i hd h1 h2
    refine Ev.step (f := fun k => merkhetref01_Text.j1 k a b (i : Int) false) (fun k => by simp only [merkhetref01_Text.l0]; rw [if_neg (by omega)]) (fin i h1 h2 (by omega))
  | succ d ih =>
    intro i hd h1 h2
    refine Ev.step (f := fun k => merkhetref01_Text.j1 k a b (i : Int) (decide ((i : Int) < (b.size : Int)))) (fun k => by simp only [merkhetref01_Text.l0]; rw [if_pos (by omega)]) ?_
    by_cases e : i < b.size
    · rw [decide_eq_true (by omega : (i : Int) < (b.size : Int))]
      obtain ⟨x, hx, ex⟩ := data_drop a i (by omega)
      obtain ⟨y, hy, ey⟩ := data_drop b i e
      refine Ev.step (f := fun k => if bt a (i : Int) < bt b (i : Int) then some (-1) else if bt a (i : Int) > bt b (i : Int) then some 1 else merkhetref01_Text.l0 k a b ((i + 1 : Nat) : Int)) (fun k => ?_) ?_
      · simp only [merkhetref01_Text.j1]
        rw [if_pos trivial, if_pos (by omega), if_pos (by omega), if_pos (by omega), wrap_id (by omega) (by omega)]; rfl
      · rw [hx, hy]
        simp only [Go.Lib.compareBytes, UInt8.lt_iff_toNat_lt]
        refine Ev.ite (fun e1 => ?_) (fun e1 => ?_)
        · rw [if_pos (by omega)]; exact Ev.now _
        · rw [if_neg (by omega)]
          refine Ev.ite (fun e2 => ?_) (fun e2 => ?_)
          · rw [if_pos (by omega)]; exact Ev.now _
          · rw [if_neg (by omega)]; exact ih (i + 1) (by omega) (by omega) (by omega)
    · rw [decide_eq_false (by omega : ¬ (i : Int) < (b.size : Int))]
      exact fin i h1 h2 (by omega)
theorem text_ev (a b : ByteArray) (ha : a.size ≤ 140737488351232) (hb : b.size ≤ 140737488351232) : Ev (fun k => merkhetref01_Text.f k a b) (cmpB a b) := by
  have := text_l0 a b ha hb a.size 0 (by omega) (by omega) (by omega)
  simpa [merkhetref01_Text.f, cmpB] using this
end Go.Proofs.Ytmfdhcgdibefiaa.L

/- The document's hosts, as plain lists. -/
namespace Go.Proofs.Ytmfdhcgdibefiaa.L
open Go.RowKit Go.Proofs.Ytmfdhcgdibefiaa.Q Go.Proofs.YtmfdhcgdibefiaaW.PrintWords Go.Proofs.YtmfdhcgdibefiaaW.PrintLast Go.Proofs.YtmfdhcgdibefiaaW.PrintMore Go.Proofs.YtmfdhcgdibefiaaW.Lib
set_option linter.unusedVariables false

/-- The place of a text; -1. -/
def placeZ (l : List ByteArray) (s : ByteArray) : Int := if numB l s < l.length then (numB l s : Int) else -1
theorem numB_cons (x : ByteArray) (l : List ByteArray) (s : ByteArray) : numB (x :: l) s = if x = s then 0 else numB l s + 1 := by
  unfold numB
  rw [List.findIdx_cons]
  by_cases h : x = s
  · simp [h]
  · simp [h]
theorem text_eq {s t : ByteArray} : s.toList = t.toList ↔ s = t := by
  rw [toList_data, toList_data]
  constructor
  · intro h
    cases s; cases t
    simp_all
  · rintro rfl; rfl
theorem place_ev (l : List ByteArray) (s : ByteArray) (hl : l.length ≤ 1000000000) : Ev (fun k => merkhetref09_Place.f k l s) (placeZ l s) := by
  have key : ∀ (d i : Nat), l.length - i = d → i ≤ l.length → Ev (fun k => merkhetref09_Place.l0 k l s (i : Int)) (if numB (l.drop i) s < (l.drop i).length then ((i + numB (l.drop i) s : Nat) : Int) else -1) := by
    intro d
    induction d with
    | zero =>
      intro i hd hi
      rw [List.drop_of_length_le (by omega), if_neg (by simp)]
      refine Ev.succ ?_
      simp only [merkhetref09_Place.l0]
      exact Ev.neg (by omega) (Ev.now _)
    | succ d ih =>
      intro i hd hi
      have hil : i < l.length := by omega
      have hr : rdOf ByteArray.empty l (i : Int) = l[i] := by simp [rdOf, List.getD, hil]
      refine Ev.succ ?_
      simp only [merkhetref09_Place.l0, hr]
      refine Ev.pos (by omega) (Ev.pos (by omega) ?_)
      rw [List.drop_eq_getElem_cons hil, numB_cons, List.length_cons]
      refine Ev.ite (fun h => ?_) (fun h => ?_)
      · rw [if_pos (text_eq.1 h), if_pos (by omega)]
        exact Ev.cast (Ev.now _) (by simp)
      · rw [if_neg (fun h2 => h (text_eq.2 h2)), wrap_id (by omega) (by omega)]
        have h1 := ih (i + 1) (by omega) (by omega)
        refine Ev.cast h1 ?_
        by_cases h3 : numB (l.drop (i + 1)) s < (l.drop (i + 1)).length
        · rw [if_pos h3, if_pos (by omega)]; congr 1; omega
        · rw [if_neg h3, if_neg (by omega)]
  have := key l.length 0 (by omega) (by omega)
  unfold merkhetref09_Place.f placeZ
  simpa using this

theorem placeZ_mem (l : List ByteArray) (s : ByteArray) : 0 ≤ placeZ l s ↔ s ∈ l := by
  unfold placeZ
  constructor
  · intro h
    by_cases h2 : numB l s < l.length
    · have := List.findIdx_getElem (p := fun h => decide (h = s)) (w := h2)
      have h3 : l[numB l s] = s := of_decide_eq_true this
      rw [← h3]; exact List.getElem_mem _
    · rw [if_neg h2] at h; omega
  · intro h
    rw [if_pos (numB_lt h)]; omega
theorem hostsB_fold (l : List Span) : (l.map (·.f4)).foldl (insH cmpB) [] = hostsB l := by
  obtain ⟨h1, h2, _⟩ := foldH cmpB_is (l.map (·.f4)) [] List.Pairwise.nil
  refine h1.one cmpB_is (hostsB_rise l) fun x => ?_
  rw [h2, hostsB_mem, List.mem_map]
  simp
theorem rhosts_ev (x : List Span) (hx : x.length ≤ 1000000) (hw : ∀ s ∈ x, s.f4.size ≤ 140737488351232) : Ev (fun k => merkhetref09_Hosts.f k x) (hostsB x) := by
  have key : ∀ (d i : Nat), x.length - i = d → i ≤ x.length → ∀ a : List ByteArray, a.length ≤ i → (∀ s ∈ a, s.size ≤ 140737488351232) → Ev (fun k => merkhetref09_Hosts.l0 k x a (i : Int)) (((x.drop i).map (·.f4)).foldl (insH cmpB) a) := by
    intro d
    induction d with
    | zero =>
      intro i hd hi a ha _
      refine Ev.succ ?_
      simp only [merkhetref09_Hosts.l0]
      rw [List.drop_of_length_le (by omega)]
      exact Ev.neg (by omega) (Ev.now _)
    | succ d ih =>
      intro i hd hi a ha haw
      have hix : i < x.length := by omega
      have ws := hw x[i] (List.getElem_mem hix)
      rw [List.drop_eq_getElem_cons hix, List.map_cons, List.foldl_cons]
      have hins : (insH cmpB a x[i].f4).length ≤ i + 1 := by have := insH_length (c := cmpB) a x[i].f4; omega
      have hinw : ∀ s ∈ insH cmpB a x[i].f4, s.size ≤ 140737488351232 := by
        intro s hs
        rcases (insH_mem a x[i].f4 s).1 hs with hs | rfl
        · exact haw s hs
        · exact ws
      have next := ih (i + 1) (by omega) (by omega) _ hins hinw
      generalize hres : ((x.drop (i + 1)).map (·.f4)).foldl (insH cmpB) (insH cmpB a x[i].f4) = res at next
      refine Ev.succ ?_
      simp only [merkhetref09_Hosts.l0, rdS_nat x i hix]
      refine Ev.pos (by omega) (Ev.pos (by omega) (Ev.bind (place_ev a x[i].f4 (by omega)) (Ev.ite (fun h => ?_) (fun h => ?_))))
      · have hm := (placeZ_mem a x[i].f4).1 h
        have hst : insH cmpB a x[i].f4 = a := by unfold insH; rw [if_pos hm]
        rw [hst] at next
        rw [wrap_id (by omega) (by omega)]
        exact next
      · have hm : x[i].f4 ∉ a := fun h2 => h ((placeZ_mem a x[i].f4).2 h2)
        have hst : insH cmpB a x[i].f4 = a.take (posG cmpB a x[i].f4 a.length) ++ x[i].f4 :: a.drop (posG cmpB a x[i].f4 a.length) := by unfold insH; rw [if_neg hm]
        rw [hst] at next
        have fin : ∀ j : Nat, j ≤ a.length → posG cmpB a x[i].f4 a.length = j → Ev (fun k => if 0 ≤ (j : Int) then (if (j : Int) ≤ (a.length : Int) then ((some (a.drop (j : Int).toNat : List ByteArray)).bind fun y227 => (if ([] : List ByteArray).length + y227.length < 8796093022208 then ((some (([] : List ByteArray) ++ y227 : List ByteArray)).bind fun y231 => ((some (a.take (j : Int).toNat : List ByteArray)).bind fun y234 => (if y234.length < 8796093022208 then ((some (y234 ++ [x[i].f4] : List ByteArray)).bind fun y238 => (if y238.length + y231.length < 8796093022208 then (merkhetref09_Hosts.l0 k x (y238 ++ y231) (wrap64 ((i : Int) + 1))) else (none))) else (none)))) else (none))) else (none)) else (none)) res := by
          intro j hj hp
          rw [hp] at next
          refine Ev.pos (by omega) (Ev.pos (by omega) ?_)
          simp only [Option.bind_some, Int.toNat_natCast]
          refine Ev.pos (by simp; omega) (Ev.pos (by simp; omega) (Ev.pos (by simp; omega) ?_))
          rw [wrap_id (by omega) (by omega)]
          refine Ev.congr (fun k => ?_) next
          simp
        have inner : ∀ j : Nat, j ≤ a.length → posG cmpB a x[i].f4 a.length = posG cmpB a x[i].f4 j → Ev (fun k => merkhetref09_Hosts.l1 k x a (i : Int) (j : Int)) res := by
          intro j
          induction j with
          | zero =>
            intro hj hp
            refine Ev.succ ?_
            simp only [merkhetref09_Hosts.l1, rdS_nat x i hix]
            refine Ev.neg (by omega) ?_
            simp only [Option.bind_some]
            have := fin 0 (by omega) (by rw [hp]; rfl)
            simp only [Option.bind_some] at this
            refine Ev.congr (fun k => ?_) this
            simp only [show (0 : Int) ≤ (i : Int) by omega, show (i : Int) < (x.length : Int) by omega, if_true]
          | succ j ihj =>
            intro hj hp
            have hja : j < a.length := by omega
            have hr : rdOf ByteArray.empty a (j : Int) = a[j] := by simp [rdOf, List.getD, hja]
            have hg : a.getD j x[i].f4 = a[j] := by simp [List.getD, hja]
            refine Ev.succ ?_
            simp only [merkhetref09_Hosts.l1]
            refine Ev.pos (by omega) ?_
            rw [wrap_id (by omega) (by omega), show ((j + 1 : Nat) : Int) - 1 = (j : Int) by omega]
            refine Ev.pos (by omega) (Ev.pos (by omega) (Ev.pos (by omega) (Ev.pos (by omega) ?_)))
            simp only [rdS_nat x i hix, hr]
            refine Ev.bind (text_ev a[j] x[i].f4 (haw _ (List.getElem_mem _)) ws) (Ev.ite (fun e => ?_) (fun e => ?_))
            · exact ihj (by omega) (by rw [hp, posG_succ, hg, if_pos e])
            · simp only [Option.bind_some]
              have := fin (j + 1) (by omega) (by rw [hp, posG_succ, hg, if_neg e])
              simp only [Option.bind_some] at this
              exact this
        exact inner a.length (Nat.le_refl _) rfl
  have := key x.length 0 (by omega) (by omega) [] (by simp) (by simp)
  rw [List.drop_zero, hostsB_fold] at this
  exact this
end Go.Proofs.Ytmfdhcgdibefiaa.L

