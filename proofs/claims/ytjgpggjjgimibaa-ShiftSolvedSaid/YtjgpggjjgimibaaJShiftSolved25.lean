/- Texts joined by wip/tools/merge.py: Qx5 ParR PairR RpcG ShfA ShfB ShfC BndB RlxA Bx0 Bx1 RlxB RlxC Xx0 Vx0. -/
import Derived.Test.YtjgpggjjgimibaaJShiftSolved22
import Derived.Test.YtjgpggjjgimibaaJShiftSolved24
import Derived.Test.YtjgpggjjgimibaaJShiftSolved12
import Derived.Test.YtjgpggjjgimibaaProg
import Derived.Below
import Derived.Deep.Draws
import Derived.Deep.AppendLies
import Derived.Maps.AppendAt
import Derived.OwnWalk
import Derived.Laws.BytesArg
import Derived.Laws.MakeOwn
import Derived.Laws.OwnMore
import Derived.Deep.OwnRows
import Derived.Tactics
import Derived.Lib.ConvBytes
import Derived.Laws.Slices
import Derived.WalkKit
import Derived.KernelRfl
import Derived.RowKit3
import Derived.Deep.LoopGhost
import Derived.Deep.QuietTactic
import Derived.BigQuiet
import Derived.WideLaws
import Derived.Deep.DeepCutAuto
import Derived.Deep.CutBlock
import Derived.Deep.RegionHeld3
import Derived.Laws.Rows
import Derived.Lib.AppendStr
import Derived.ArgAppend
import Derived.Laws.IdiomCopy
import Derived.OrdersHeld
import Derived.Laws.BitsLemmas
import Derived.RowKit
import Derived.Test.YtjgpggjjgimibaaJShiftSolved0
import Derived.Test.YtjgpggjjgimibaaJShiftSolved1
import Derived.Test.YtjgpggjjgimibaaJShiftSolved13
import Derived.Test.YtjgpggjjgimibaaJShiftSolved14
import Derived.Test.YtjgpggjjgimibaaJShiftSolved2
import Derived.Test.YtjgpggjjgimibaaJShiftSolved3
import Derived.Test.YtjgpggjjgimibaaJShiftSolved4
import Derived.Test.YtjgpggjjgimibaaJShiftSolved5
import Derived.Test.YtjgpggjjgimibaaJShiftSolved6
import Derived.Test.YtjgpggjjgimibaaJShiftSolved7
import Derived.Test.YtjgpggjjgimibaaJShiftSolved8
import Derived.Test.YtjgpggjjgimibaaJShiftSolved9
import Derived.Test.YtjgpggjjgimibaaJShiftSolved15
import Derived.Test.YtjgpggjjgimibaaJShiftSolved16
import Derived.Test.YtjgpggjjgimibaaJShiftSolved17
import Derived.Test.YtjgpggjjgimibaaJShiftSolved18
import Derived.Test.YtjgpggjjgimibaaJShiftSolved19
import Derived.Test.YtjgpggjjgimibaaJShiftSolved20
import Derived.Test.YtjgpggjjgimibaaJShiftSolved21
import Derived.Test.YtjgpggjjgimibaaJShiftSolved10
import Derived.Test.YtjgpggjjgimibaaJShiftSolved11
import Derived.WalkSpells
import Derived.Laws.CopyOwn
import Derived.Laws.Bits64b
import Derived.RegionTactic
import Derived.BigRegion
import Derived.Deep.RegionLaw
-- Written by wip/tools/gp.py, a program of this session round the kit's printer. Lean checks it.
namespace Go.Proofs.Ytjgpggjjgimibaa.Q
open Go.RowKit Go.Proofs.YtjgpggjjgimibaaW.PrintWords Go.Proofs.YtjgpggjjgimibaaW.PrintLast Go.Proofs.YtjgpggjjgimibaaW.PrintMore
attribute [local go_sem] max2_int min2_int max_two min_two max_three min_three max_four min_four   -- for this text's walks alone
set_option linter.unusedVariables false
set_option linter.unusedSimpArgs false

/-! ### merkhetref10_Of: function 14 -/
mutual
def merkhetref10_Of.l0 : Nat → List (S42) → List Int → Int → Option (List Int)
  | 0, _, _, _ => none
  | k + 1, x0, x3, x4 => if x4 < (x0.length : Int) then (merkhetref10_Of.l1 k x0 x3 x4 (-1) (wrap64 ((x0.length : Int) - 1))) else (merkhetref10_Of.l2 k x0 x3 (([] : List Int)) 0)
def merkhetref10_Of.l1 : Nat → List (S42) → List Int → Int → Int → Int → Option (List Int)
  | 0, _, _, _, _, _ => none
  | k + 1, x0, x3, x4, x5, x6 => if x6 ≥ 0 then (if 0 ≤ x4 then (if x4 < (x0.length : Int) then (if ((rd_T42 x0 x4).f2) = 0 then (merkhetref10_Of.l1 k x0 x3 x4 x5 (wrap64 (x6 - 1))) else (if 0 ≤ x6 then (if x6 < (x0.length : Int) then (if ((rd_T42 x0 x6).f1) = ((rd_T42 x0 x4).f2) then (merkhetref10_Of.l1 k x0 x3 x4 x6 (wrap64 (x6 - 1))) else (merkhetref10_Of.l1 k x0 x3 x4 x5 (wrap64 (x6 - 1)))) else (none)) else (none))) else (none)) else (none)) else (if x3.length < 17592186044416 then (merkhetref10_Of.l0 k x0 (x3 ++ [x5]) (wrap64 (x4 + 1))) else (none))
def merkhetref10_Of.l2 : Nat → List (S42) → List Int → List Int → Int → Option (List Int)
  | 0, _, _, _, _ => none
  | k + 1, x0, x3, x7, x8 => if x8 < (x0.length : Int) then ((merkhetref10_on.f k x3 x8).bind fun t132 => (merkhetref10_Of.l3 k x0 x3 x7 x8 t132 x8)) else (some x7)
def merkhetref10_Of.l3 : Nat → List (S42) → List Int → List Int → Int → Bool → Int → Option (List Int)
  | 0, _, _, _, _, _, _ => none
  | k + 1, x0, x3, x7, x8, x9, x10 => if x9 = true then (if 0 ≤ x10 then (if x10 < (x3.length : Int) then (merkhetref10_Of.j4 k x0 x3 x7 x8 x9 x10 ((rd x3 x10) != x8)) else (none)) else (none)) else (merkhetref10_Of.j4 k x0 x3 x7 x8 x9 x10 false)
def merkhetref10_Of.j4 : Nat → List (S42) → List Int → List Int → Int → Bool → Int → Bool → Option (List Int)
  | 0, _, _, _, _, _, _, _ => none
  | k + 1, x0, x3, x7, x8, x9, x10, x68 => if x68 = true then (if 0 ≤ x10 then (if x10 < (x3.length : Int) then (if (rd x3 x10) < x8 then (merkhetref10_Of.l3 k x0 x3 x7 x8 false (rd x3 x10)) else (merkhetref10_Of.l3 k x0 x3 x7 x8 x9 (rd x3 x10))) else (none)) else (none)) else (if x9 = true then (if x7.length < 17592186044416 then (merkhetref10_Of.l2 k x0 x3 (x7 ++ [(-1)]) (wrap64 (x8 + 1))) else (none)) else (if 0 ≤ x8 then (if x8 < (x3.length : Int) then (if x7.length < 17592186044416 then (merkhetref10_Of.l2 k x0 x3 (x7 ++ [rd x3 x8]) (wrap64 (x8 + 1))) else (none)) else (none)) else (none)))
end
def merkhetref10_Of.f (k : Nat) (l0 : List (S42)) : Option (List Int) := merkhetref10_Of.l0 k l0 (([] : List Int)) 0
theorem merkhetref10_Of.mono_l : ∀ k, (∀ y0 y1 y2, LeO (merkhetref10_Of.l0 k y0 y1 y2) (merkhetref10_Of.l0 (k + 1) y0 y1 y2)) ∧ (∀ y0 y1 y2 y3 y4, LeO (merkhetref10_Of.l1 k y0 y1 y2 y3 y4) (merkhetref10_Of.l1 (k + 1) y0 y1 y2 y3 y4)) ∧ (∀ y0 y1 y2 y3, LeO (merkhetref10_Of.l2 k y0 y1 y2 y3) (merkhetref10_Of.l2 (k + 1) y0 y1 y2 y3)) ∧ (∀ y0 y1 y2 y3 y4 y5, LeO (merkhetref10_Of.l3 k y0 y1 y2 y3 y4 y5) (merkhetref10_Of.l3 (k + 1) y0 y1 y2 y3 y4 y5)) ∧ (∀ y0 y1 y2 y3 y4 y5 y6, LeO (merkhetref10_Of.j4 k y0 y1 y2 y3 y4 y5 y6) (merkhetref10_Of.j4 (k + 1) y0 y1 y2 y3 y4 y5 y6))
  | 0 => ⟨fun _ _ _ r h => by simp [merkhetref10_Of.l0] at h, fun _ _ _ _ _ r h => by simp [merkhetref10_Of.l1] at h, fun _ _ _ _ r h => by simp [merkhetref10_Of.l2] at h, fun _ _ _ _ _ _ r h => by simp [merkhetref10_Of.l3] at h, fun _ _ _ _ _ _ _ r h => by simp [merkhetref10_Of.j4] at h⟩
  | k + 1 => by
    obtain ⟨ih0, ih1, ih2, ih3, ih4⟩ := merkhetref10_Of.mono_l k
    refine ⟨?_, ?_, ?_, ?_, ?_⟩
    · intro y0 y1 y2
      unfold merkhetref10_Of.l0
      repeat' first
      | (with_reducible exact ih0 _ _ _)
      | (with_reducible exact ih1 _ _ _ _ _)
      | (with_reducible exact ih2 _ _ _ _)
      | (with_reducible exact ih3 _ _ _ _ _ _)
      | (with_reducible exact ih4 _ _ _ _ _ _ _)
      | (with_reducible exact merkhetref10_on.mono _ _ _)
      | (with_reducible exact LeO.refl _)
      | (with_reducible exact LeO.none _)
      | (with_reducible refine LeO.ite ?_ ?_)
      | (with_reducible refine LeO.bind ?_ (fun _ => ?_))
      | exact ih0 _ _ _
      | exact ih1 _ _ _ _ _
      | exact ih2 _ _ _ _
      | exact ih3 _ _ _ _ _ _
      | exact ih4 _ _ _ _ _ _ _
      | exact merkhetref10_on.mono _ _ _
      | exact LeO.none _
      | refine LeO.ite ?_ ?_
      | refine LeO.bind ?_ (fun _ => ?_)
    · intro y0 y1 y2 y3 y4
      unfold merkhetref10_Of.l1
      repeat' first
      | (with_reducible exact ih0 _ _ _)
      | (with_reducible exact ih1 _ _ _ _ _)
      | (with_reducible exact ih2 _ _ _ _)
      | (with_reducible exact ih3 _ _ _ _ _ _)
      | (with_reducible exact ih4 _ _ _ _ _ _ _)
      | (with_reducible exact merkhetref10_on.mono _ _ _)
      | (with_reducible exact LeO.refl _)
      | (with_reducible exact LeO.none _)
      | (with_reducible refine LeO.ite ?_ ?_)
      | (with_reducible refine LeO.bind ?_ (fun _ => ?_))
      | exact ih0 _ _ _
      | exact ih1 _ _ _ _ _
      | exact ih2 _ _ _ _
      | exact ih3 _ _ _ _ _ _
      | exact ih4 _ _ _ _ _ _ _
      | exact merkhetref10_on.mono _ _ _
      | exact LeO.none _
      | refine LeO.ite ?_ ?_
      | refine LeO.bind ?_ (fun _ => ?_)
    · intro y0 y1 y2 y3
      unfold merkhetref10_Of.l2
      repeat' first
      | (with_reducible exact ih0 _ _ _)
      | (with_reducible exact ih1 _ _ _ _ _)
      | (with_reducible exact ih2 _ _ _ _)
      | (with_reducible exact ih3 _ _ _ _ _ _)
      | (with_reducible exact ih4 _ _ _ _ _ _ _)
      | (with_reducible exact merkhetref10_on.mono _ _ _)
      | (with_reducible exact LeO.refl _)
      | (with_reducible exact LeO.none _)
      | (with_reducible refine LeO.ite ?_ ?_)
      | (with_reducible refine LeO.bind ?_ (fun _ => ?_))
      | exact ih0 _ _ _
      | exact ih1 _ _ _ _ _
      | exact ih2 _ _ _ _
      | exact ih3 _ _ _ _ _ _
      | exact ih4 _ _ _ _ _ _ _
      | exact merkhetref10_on.mono _ _ _
      | exact LeO.none _
      | refine LeO.ite ?_ ?_
      | refine LeO.bind ?_ (fun _ => ?_)
    · intro y0 y1 y2 y3 y4 y5
      unfold merkhetref10_Of.l3
      repeat' first
      | (with_reducible exact ih0 _ _ _)
      | (with_reducible exact ih1 _ _ _ _ _)
      | (with_reducible exact ih2 _ _ _ _)
      | (with_reducible exact ih3 _ _ _ _ _ _)
      | (with_reducible exact ih4 _ _ _ _ _ _ _)
      | (with_reducible exact merkhetref10_on.mono _ _ _)
      | (with_reducible exact LeO.refl _)
      | (with_reducible exact LeO.none _)
      | (with_reducible refine LeO.ite ?_ ?_)
      | (with_reducible refine LeO.bind ?_ (fun _ => ?_))
      | exact ih0 _ _ _
      | exact ih1 _ _ _ _ _
      | exact ih2 _ _ _ _
      | exact ih3 _ _ _ _ _ _
      | exact ih4 _ _ _ _ _ _ _
      | exact merkhetref10_on.mono _ _ _
      | exact LeO.none _
      | refine LeO.ite ?_ ?_
      | refine LeO.bind ?_ (fun _ => ?_)
    · intro y0 y1 y2 y3 y4 y5 y6
      unfold merkhetref10_Of.j4
      repeat' first
      | (with_reducible exact ih0 _ _ _)
      | (with_reducible exact ih1 _ _ _ _ _)
      | (with_reducible exact ih2 _ _ _ _)
      | (with_reducible exact ih3 _ _ _ _ _ _)
      | (with_reducible exact ih4 _ _ _ _ _ _ _)
      | (with_reducible exact merkhetref10_on.mono _ _ _)
      | (with_reducible exact LeO.refl _)
      | (with_reducible exact LeO.none _)
      | (with_reducible refine LeO.ite ?_ ?_)
      | (with_reducible refine LeO.bind ?_ (fun _ => ?_))
      | exact ih0 _ _ _
      | exact ih1 _ _ _ _ _
      | exact ih2 _ _ _ _
      | exact ih3 _ _ _ _ _ _
      | exact ih4 _ _ _ _ _ _ _
      | exact merkhetref10_on.mono _ _ _
      | exact LeO.none _
      | refine LeO.ite ?_ ?_
      | refine LeO.bind ?_ (fun _ => ?_)
theorem merkhetref10_Of.mono : ∀ a0 k, LeO (merkhetref10_Of.f k a0) (merkhetref10_Of.f (k + 1) a0) := by
  intro a0 k
  obtain ⟨ih0, ih1, ih2, ih3, ih4⟩ := merkhetref10_Of.mono_l k
  unfold merkhetref10_Of.f
  repeat' first
      | (with_reducible exact ih0 _ _ _)
      | (with_reducible exact ih1 _ _ _ _ _)
      | (with_reducible exact ih2 _ _ _ _)
      | (with_reducible exact ih3 _ _ _ _ _ _)
      | (with_reducible exact ih4 _ _ _ _ _ _ _)
      | (with_reducible exact merkhetref10_on.mono _ _ _)
      | (with_reducible exact LeO.refl _)
      | (with_reducible exact LeO.none _)
      | (with_reducible refine LeO.ite ?_ ?_)
      | (with_reducible refine LeO.bind ?_ (fun _ => ?_))
      | exact ih0 _ _ _
      | exact ih1 _ _ _ _ _
      | exact ih2 _ _ _ _
      | exact ih3 _ _ _ _ _ _
      | exact ih4 _ _ _ _ _ _ _
      | exact merkhetref10_on.mono _ _ _
      | exact LeO.none _
      | refine LeO.ite ?_ ?_
      | refine LeO.bind ?_ (fun _ => ?_)
set_option maxHeartbeats 8000000 in
set_option maxRecDepth 100000 in
theorem merkhetref10_Of.calls (k : Nat) (A0 : Option Addr) (c0 : Nat) (l0 : List (S42)) (r : List Int) (w : World) (hr0 : Kd.C k42 w A0 l0.length l0) (hc0 : l0.length ≤ c0) (h : merkhetref10_Of.f k l0 = some r) :
    Calls Try.prog 14 #[.slice A0 l0.length c0] w fun e w' => ∃ v0_ : Value, e = .returned (v0_) ∧ Kd.R (Kd.int .i64) 3 w' w.heap.size (fun _ => True) v0_ r ∧ Below w.heap.size w w' := by
  have HR0 := Aside0.mk hr0
  have HC0 := Aside0.mk hc0
  clear hr0 hc0
  have HB := Aside0.mk (Below.refl w.heap.size w)
  have H : (merkhetref10_Of.l0 k l0 (([] : List Int)) 0) = some r := h
  clear h
  obtain ⟨y120, hy120⟩ : ∃ y_ : List Int, y_ = (([] : List Int)) := ⟨_, rfl⟩
  replace H : (merkhetref10_Of.l0 k l0 y120 0) = some r := by first | (rw [hy120]; with_reducible exact H) | (have H2_ := (Option.bind_some _ _).symm.trans H; rw [hy120]; with_reducible exact H2_) | (have H2_ := (Option.bind_some _ _).symm.trans H; with_reducible exact H2_) | with_reducible exact H | (rw [hy120]; exact H) | exact H
  have Ny120 := Aside0.mk hy120
  clear hy120
  have H' := Aside0.mk H
  clear H
  go_enter Try.func14, Try.ntmps14
  go_wp2_with (first | ((with_reducible refine gate_dst (N := 11) rfl ?_); refine Kd.R_lit (Kd.int .i64) _ 3 ?hg (N := 11) ?hd (xs := ([] : List Int)) (inner := []) (ok := fun _ => True) (okp := fun _ => True) ?hr ?hp (fun _ hk => hk) trivial (Below.refl _ _) (Nat.le_refl _) (by simp) ?_; (case hd => rfl); (case hg => rfl); (case hr => first | (go_simp; done) | (go_simp; rfl)); (case hp => exact (Reps.none _ _)); intro v121 w2 ho3 hb hg_ hnew_; clear hg_ hnew_; (first | rw [← Ny120.out] at ho3 | (simp only [Int.reduceToNat] at ho3; rw [← Ny120.out] at ho3)); have n0_ := Aside0.mk (Kd.R_lower ho3 (below_size (by repeat (first | (with_reducible first | exact HB.out | apply below_alloc | apply pw_below_drewN | apply below_drew1) | exact HB.out)))); have n1_ := Aside0.mk (below_step (by repeat (first | (with_reducible first | exact HB.out | apply below_alloc | apply pw_below_drewN | apply below_drew1) | exact HB.out)) hb); clear HB; have HO122 := n0_; have HB := n1_; clear n0_ n1_; clear hb ho3))
  repeat (go_quiet (first | ((with_reducible refine gate_dst (N := 11) rfl ?_); refine Kd.R_lit (Kd.int .i64) _ 3 ?hg (N := 11) ?hd (xs := ([] : List Int)) (inner := []) (ok := fun _ => True) (okp := fun _ => True) ?hr ?hp (fun _ hk => hk) trivial (Below.refl _ _) (Nat.le_refl _) (by simp) ?_; (case hd => rfl); (case hg => rfl); (case hr => first | (go_simp; done) | (go_simp; rfl)); (case hp => exact (Reps.none _ _)); intro v121 w2 ho3 hb hg_ hnew_; clear hg_ hnew_; (first | rw [← Ny120.out] at ho3 | (simp only [Int.reduceToNat] at ho3; rw [← Ny120.out] at ho3)); have n0_ := Aside0.mk (Kd.R_lower ho3 (below_size (by repeat (first | (with_reducible first | exact HB.out | apply below_alloc | apply pw_below_drewN | apply below_drew1) | exact HB.out)))); have n1_ := Aside0.mk (below_step (by repeat (first | (with_reducible first | exact HB.out | apply below_alloc | apply pw_below_drewN | apply below_drew1) | exact HB.out)) hb); clear HB; have HO122 := n0_; have HB := n1_; clear n0_ n1_; clear hb ho3)); try go_wp2_with (first | ((with_reducible refine gate_dst (N := 11) rfl ?_); refine Kd.R_lit (Kd.int .i64) _ 3 ?hg (N := 11) ?hd (xs := ([] : List Int)) (inner := []) (ok := fun _ => True) (okp := fun _ => True) ?hr ?hp (fun _ hk => hk) trivial (Below.refl _ _) (Nat.le_refl _) (by simp) ?_; (case hd => rfl); (case hg => rfl); (case hr => first | (go_simp; done) | (go_simp; rfl)); (case hp => exact (Reps.none _ _)); intro v121 w2 ho3 hb hg_ hnew_; clear hg_ hnew_; (first | rw [← Ny120.out] at ho3 | (simp only [Int.reduceToNat] at ho3; rw [← Ny120.out] at ho3)); have n0_ := Aside0.mk (Kd.R_lower ho3 (below_size (by repeat (first | (with_reducible first | exact HB.out | apply below_alloc | apply pw_below_drewN | apply below_drew1) | exact HB.out)))); have n1_ := Aside0.mk (below_step (by repeat (first | (with_reducible first | exact HB.out | apply below_alloc | apply pw_below_drewN | apply below_drew1) | exact HB.out)) hb); clear HB; have HO122 := n0_; have HB := n1_; clear n0_ n1_; clear hb ho3)))
  go_loopg [3, 4] k (fun kq v3 v4 w' => ∃ (x3_1 : List Int) (x4_1 : Int), v4 = .int .i64 x4_1 ∧ Aside0 (merkhetref10_Of.l0 kq l0 x3_1 x4_1 = some r) ∧ Aside0 (kq ≤ k) ∧ Aside0 (Kd.R (Kd.int .i64) 3 w' w.heap.size (fun _ => True) v3 x3_1) ∧ Aside0 (Below w.heap.size w w'))
  case atStart => exact ⟨(y120), (0), (by first | rfl | (simp; done) | (simp [*]; done)), H', ⟨Nat.le_refl _⟩, ⟨by (with_reducible repeat (first | apply Kd.R_alloc | apply Kd.R_drewN | apply Kd.R_drew)); exact HO122.out⟩, ⟨by repeat (first | (with_reducible first | exact HB.out | apply below_alloc | apply pw_below_drewN | apply below_drew1) | exact HB.out)⟩⟩
  case round =>
    clear H'
    (try clear c1); (try clear p2)
    obtain ⟨x3_1, x4_1, rfl, HA, HK1, HO_3, HB⟩ := hrel
    cases gk with
    | zero => exact absurd HA.out (by simp [merkhetref10_Of.l0])
    | succ k1 =>
      have H := HA.out
      clear HA
      simp only [merkhetref10_Of.l0] at H
      by_cases c4 : x4_1 < (l0.length : Int)
      · rw [if_pos c4] at H
        have c4b0 : decide (x4_1 < (l0.length : Int)) = true := decide_eq_true c4
        clear c4
        have H' := Aside0.mk H
        clear H
        go_wp2
        repeat (go_quiet (fail); try go_wp2)
        go_loopg [5, 6] k1 (fun kq v5 v6 w' => ∃ (x5_2 : Int) (x6_2 : Int), v5 = .int .i64 x5_2 ∧ v6 = .int .i64 x6_2 ∧ Aside0 (merkhetref10_Of.l1 kq l0 x3_1 x4_1 x5_2 x6_2 = some r) ∧ Aside0 (kq ≤ k1) ∧ Aside0 (Kd.R (Kd.int .i64) 3 w' w.heap.size (fun _ => True) u3 x3_1) ∧ Aside0 (Below w.heap.size w w'))
        case atStart => exact ⟨((-1)), (wrap64 ((l0.length : Int) - 1)), (by first | rfl | (simp; done) | (simp [*]; done)), (by first | rfl | (simp; done) | (simp [*]; done)), H', ⟨Nat.le_refl _⟩, ⟨by (with_reducible repeat (first | apply Kd.R_alloc | apply Kd.R_drewN | apply Kd.R_drew)); exact HO_3.out⟩, ⟨by repeat (first | (with_reducible first | exact HB.out | apply below_alloc | apply pw_below_drewN | apply below_drew1) | exact HB.out)⟩⟩
        case round =>
          clear H'
          (try clear c1); (try clear p2); (try clear c4); (try clear c4b0); (try clear p2)
          obtain ⟨x5_2, x6_2, rfl, rfl, HA, HK2, HO_3, HB⟩ := hrel
          cases gk with
          | zero => exact absurd HA.out (by simp [merkhetref10_Of.l1])
          | succ k2 =>
            have H := HA.out
            clear HA
            simp only [merkhetref10_Of.l1] at H
            by_cases c5 : x6_2 ≥ 0
            · rw [if_pos c5] at H
              have c5b0 : decide (0 ≤ x6_2) = true := decide_eq_true c5
              clear c5
              by_cases c6 : 0 ≤ x4_1
              · rw [if_pos c6] at H
                have c6b0 : decide (0 ≤ x4_1) = true := decide_eq_true c6
                clear c6
                by_cases c7 : x4_1 < (l0.length : Int)
                · rw [if_pos c7] at H
                  have c7b0 : decide (x4_1 < (l0.length : Int)) = true := decide_eq_true c7
                  clear c7
                  by_cases c8 : ((rd_T42 l0 x4_1).f2) = 0
                  · rw [if_pos c8] at H
                    have c8b0 : (((rd_T42 l0 x4_1).f2) == 0) = true := beq_iff_eq.mpr c8
                    have c8b1 : (((rd_T42 l0 x4_1).f2) != 0) = false := bne_eq_false_iff_eq.mpr c8
                    clear c8
                    have H' := Aside0.mk H
                    clear H
                    have p126 : 0 ≤ (x4_1 : Int) := of_decide_eq_true (by first | (with_reducible assumption) | assumption)
                    have q126 : x4_1 < (l0.length : Int) := of_decide_eq_true (by first | (with_reducible assumption) | assumption)
                    obtain ⟨ad126, e126, hx126_0, hx126_1, hx126_2, hx126_3, hx126_4, hx126_5, hx126_6, hx126_7⟩ := at_T42 HR0.out x4_1 p126 q126
                    cases e126
                    replace hx126_0 := (HB.out.cell (World.block_lt_of_cell? w _ hx126_0)).trans hx126_0
                    replace hx126_1 := (HB.out.cell (World.block_lt_of_cell? w _ hx126_1)).trans hx126_1
                    replace hx126_2 := (HB.out.cell (World.block_lt_of_cell? w _ hx126_2)).trans hx126_2
                    replace hx126_3 := (HB.out.cell (World.block_lt_of_cell? w _ hx126_3)).trans hx126_3
                    replace hx126_4 := (HB.out.cell (World.block_lt_of_cell? w _ hx126_4)).trans hx126_4
                    replace hx126_5 := (HB.out.cell (World.block_lt_of_cell? w _ hx126_5)).trans hx126_5
                    replace hx126_6 := (HB.out.cell (World.block_lt_of_cell? w _ hx126_6)).trans hx126_6
                    replace hx126_7 := (HB.out.cell (World.block_lt_of_cell? w _ hx126_7)).trans hx126_7
                    replace p126 := eq_true p126
                    replace q126 := eq_true q126
                    go_wp2
                    repeat (go_quiet (fail); try go_wp2)
                    go_roundg k2
                    case measure => have := HK1.out; have := HK2.out; omega
                    case rel => exact ⟨(x5_2), (wrap64 (x6_2 - 1)), (by first | rfl | (simp; done) | (simp [*]; done)), (by first | rfl | (simp; done) | (simp [*]; done)), H', ⟨by have := HK1.out; have := HK2.out; omega⟩, ⟨by (with_reducible repeat (first | apply Kd.R_alloc | apply Kd.R_drewN | apply Kd.R_drew)); exact HO_3.out⟩, ⟨by repeat (first | (with_reducible first | exact HB.out | apply below_alloc | apply pw_below_drewN | apply below_drew1) | exact HB.out)⟩⟩
                  · rw [if_neg c8] at H
                    have c8b0 : (((rd_T42 l0 x4_1).f2) == 0) = false := beq_eq_false_iff_ne.mpr c8
                    have c8b1 : (((rd_T42 l0 x4_1).f2) != 0) = true := bne_iff_ne.mpr c8
                    by_cases c9 : 0 ≤ x6_2
                    · rw [if_pos c9] at H
                      have c9b0 : decide (0 ≤ x6_2) = true := decide_eq_true c9
                      clear c9
                      by_cases c10 : x6_2 < (l0.length : Int)
                      · rw [if_pos c10] at H
                        have c10b0 : decide (x6_2 < (l0.length : Int)) = true := decide_eq_true c10
                        clear c10
                        by_cases c11 : ((rd_T42 l0 x6_2).f1) = ((rd_T42 l0 x4_1).f2)
                        · rw [if_pos c11] at H
                          have c11b0 : (((rd_T42 l0 x6_2).f1) == ((rd_T42 l0 x4_1).f2)) = true := beq_iff_eq.mpr c11
                          have c11b1 : (((rd_T42 l0 x6_2).f1) != ((rd_T42 l0 x4_1).f2)) = false := bne_eq_false_iff_eq.mpr c11
                          clear c11
                          have H' := Aside0.mk H
                          clear H
                          have p126 : 0 ≤ (x4_1 : Int) := of_decide_eq_true (by first | (with_reducible assumption) | assumption)
                          have q126 : x4_1 < (l0.length : Int) := of_decide_eq_true (by first | (with_reducible assumption) | assumption)
                          obtain ⟨ad126, e126, hx126_0, hx126_1, hx126_2, hx126_3, hx126_4, hx126_5, hx126_6, hx126_7⟩ := at_T42 HR0.out x4_1 p126 q126
                          cases e126
                          replace hx126_0 := (HB.out.cell (World.block_lt_of_cell? w _ hx126_0)).trans hx126_0
                          replace hx126_1 := (HB.out.cell (World.block_lt_of_cell? w _ hx126_1)).trans hx126_1
                          replace hx126_2 := (HB.out.cell (World.block_lt_of_cell? w _ hx126_2)).trans hx126_2
                          replace hx126_3 := (HB.out.cell (World.block_lt_of_cell? w _ hx126_3)).trans hx126_3
                          replace hx126_4 := (HB.out.cell (World.block_lt_of_cell? w _ hx126_4)).trans hx126_4
                          replace hx126_5 := (HB.out.cell (World.block_lt_of_cell? w _ hx126_5)).trans hx126_5
                          replace hx126_6 := (HB.out.cell (World.block_lt_of_cell? w _ hx126_6)).trans hx126_6
                          replace hx126_7 := (HB.out.cell (World.block_lt_of_cell? w _ hx126_7)).trans hx126_7
                          replace p126 := eq_true p126
                          replace q126 := eq_true q126
                          have p127 : 0 ≤ (x6_2 : Int) := of_decide_eq_true (by first | (with_reducible assumption) | assumption)
                          have q127 : x6_2 < (l0.length : Int) := of_decide_eq_true (by first | (with_reducible assumption) | assumption)
                          obtain ⟨ad127, e127, hx127_0, hx127_1, hx127_2, hx127_3, hx127_4, hx127_5, hx127_6, hx127_7⟩ := at_T42 HR0.out x6_2 p127 q127
                          obtain rfl : ad126 = ad127 := (by injection e127)
                          replace hx127_0 := (HB.out.cell (World.block_lt_of_cell? w _ hx127_0)).trans hx127_0
                          replace hx127_1 := (HB.out.cell (World.block_lt_of_cell? w _ hx127_1)).trans hx127_1
                          replace hx127_2 := (HB.out.cell (World.block_lt_of_cell? w _ hx127_2)).trans hx127_2
                          replace hx127_3 := (HB.out.cell (World.block_lt_of_cell? w _ hx127_3)).trans hx127_3
                          replace hx127_4 := (HB.out.cell (World.block_lt_of_cell? w _ hx127_4)).trans hx127_4
                          replace hx127_5 := (HB.out.cell (World.block_lt_of_cell? w _ hx127_5)).trans hx127_5
                          replace hx127_6 := (HB.out.cell (World.block_lt_of_cell? w _ hx127_6)).trans hx127_6
                          replace hx127_7 := (HB.out.cell (World.block_lt_of_cell? w _ hx127_7)).trans hx127_7
                          replace p127 := eq_true p127
                          replace q127 := eq_true q127
                          have p128 : 0 ≤ (x4_1 : Int) := of_decide_eq_true (by first | (with_reducible assumption) | assumption)
                          have q128 : x4_1 < (l0.length : Int) := of_decide_eq_true (by first | (with_reducible assumption) | assumption)
                          obtain ⟨ad128, e128, hx128_0, hx128_1, hx128_2, hx128_3, hx128_4, hx128_5, hx128_6, hx128_7⟩ := at_T42 HR0.out x4_1 p128 q128
                          obtain rfl : ad126 = ad128 := (by injection e128)
                          replace hx128_0 := (HB.out.cell (World.block_lt_of_cell? w _ hx128_0)).trans hx128_0
                          replace hx128_1 := (HB.out.cell (World.block_lt_of_cell? w _ hx128_1)).trans hx128_1
                          replace hx128_2 := (HB.out.cell (World.block_lt_of_cell? w _ hx128_2)).trans hx128_2
                          replace hx128_3 := (HB.out.cell (World.block_lt_of_cell? w _ hx128_3)).trans hx128_3
                          replace hx128_4 := (HB.out.cell (World.block_lt_of_cell? w _ hx128_4)).trans hx128_4
                          replace hx128_5 := (HB.out.cell (World.block_lt_of_cell? w _ hx128_5)).trans hx128_5
                          replace hx128_6 := (HB.out.cell (World.block_lt_of_cell? w _ hx128_6)).trans hx128_6
                          replace hx128_7 := (HB.out.cell (World.block_lt_of_cell? w _ hx128_7)).trans hx128_7
                          replace p128 := eq_true p128
                          replace q128 := eq_true q128
                          go_wp2
                          repeat (go_quiet (fail); try go_wp2)
                          go_roundg k2
                          case measure => have := HK1.out; have := HK2.out; omega
                          case rel => exact ⟨(x6_2), (wrap64 (x6_2 - 1)), (by first | rfl | (simp; done) | (simp [*]; done)), (by first | rfl | (simp; done) | (simp [*]; done)), H', ⟨by have := HK1.out; have := HK2.out; omega⟩, ⟨by (with_reducible repeat (first | apply Kd.R_alloc | apply Kd.R_drewN | apply Kd.R_drew)); exact HO_3.out⟩, ⟨by repeat (first | (with_reducible first | exact HB.out | apply below_alloc | apply pw_below_drewN | apply below_drew1) | exact HB.out)⟩⟩
                        · rw [if_neg c11] at H
                          have c11b0 : (((rd_T42 l0 x6_2).f1) == ((rd_T42 l0 x4_1).f2)) = false := beq_eq_false_iff_ne.mpr c11
                          have c11b1 : (((rd_T42 l0 x6_2).f1) != ((rd_T42 l0 x4_1).f2)) = true := bne_iff_ne.mpr c11
                          have H' := Aside0.mk H
                          clear H
                          have p126 : 0 ≤ (x4_1 : Int) := of_decide_eq_true (by first | (with_reducible assumption) | assumption)
                          have q126 : x4_1 < (l0.length : Int) := of_decide_eq_true (by first | (with_reducible assumption) | assumption)
                          obtain ⟨ad126, e126, hx126_0, hx126_1, hx126_2, hx126_3, hx126_4, hx126_5, hx126_6, hx126_7⟩ := at_T42 HR0.out x4_1 p126 q126
                          cases e126
                          replace hx126_0 := (HB.out.cell (World.block_lt_of_cell? w _ hx126_0)).trans hx126_0
                          replace hx126_1 := (HB.out.cell (World.block_lt_of_cell? w _ hx126_1)).trans hx126_1
                          replace hx126_2 := (HB.out.cell (World.block_lt_of_cell? w _ hx126_2)).trans hx126_2
                          replace hx126_3 := (HB.out.cell (World.block_lt_of_cell? w _ hx126_3)).trans hx126_3
                          replace hx126_4 := (HB.out.cell (World.block_lt_of_cell? w _ hx126_4)).trans hx126_4
                          replace hx126_5 := (HB.out.cell (World.block_lt_of_cell? w _ hx126_5)).trans hx126_5
                          replace hx126_6 := (HB.out.cell (World.block_lt_of_cell? w _ hx126_6)).trans hx126_6
                          replace hx126_7 := (HB.out.cell (World.block_lt_of_cell? w _ hx126_7)).trans hx126_7
                          replace p126 := eq_true p126
                          replace q126 := eq_true q126
                          have p127 : 0 ≤ (x6_2 : Int) := of_decide_eq_true (by first | (with_reducible assumption) | assumption)
                          have q127 : x6_2 < (l0.length : Int) := of_decide_eq_true (by first | (with_reducible assumption) | assumption)
                          obtain ⟨ad127, e127, hx127_0, hx127_1, hx127_2, hx127_3, hx127_4, hx127_5, hx127_6, hx127_7⟩ := at_T42 HR0.out x6_2 p127 q127
                          obtain rfl : ad126 = ad127 := (by injection e127)
                          replace hx127_0 := (HB.out.cell (World.block_lt_of_cell? w _ hx127_0)).trans hx127_0
                          replace hx127_1 := (HB.out.cell (World.block_lt_of_cell? w _ hx127_1)).trans hx127_1
                          replace hx127_2 := (HB.out.cell (World.block_lt_of_cell? w _ hx127_2)).trans hx127_2
                          replace hx127_3 := (HB.out.cell (World.block_lt_of_cell? w _ hx127_3)).trans hx127_3
                          replace hx127_4 := (HB.out.cell (World.block_lt_of_cell? w _ hx127_4)).trans hx127_4
                          replace hx127_5 := (HB.out.cell (World.block_lt_of_cell? w _ hx127_5)).trans hx127_5
                          replace hx127_6 := (HB.out.cell (World.block_lt_of_cell? w _ hx127_6)).trans hx127_6
                          replace hx127_7 := (HB.out.cell (World.block_lt_of_cell? w _ hx127_7)).trans hx127_7
                          replace p127 := eq_true p127
                          replace q127 := eq_true q127
                          have p128 : 0 ≤ (x4_1 : Int) := of_decide_eq_true (by first | (with_reducible assumption) | assumption)
                          have q128 : x4_1 < (l0.length : Int) := of_decide_eq_true (by first | (with_reducible assumption) | assumption)
                          obtain ⟨ad128, e128, hx128_0, hx128_1, hx128_2, hx128_3, hx128_4, hx128_5, hx128_6, hx128_7⟩ := at_T42 HR0.out x4_1 p128 q128
                          obtain rfl : ad126 = ad128 := (by injection e128)
                          replace hx128_0 := (HB.out.cell (World.block_lt_of_cell? w _ hx128_0)).trans hx128_0
                          replace hx128_1 := (HB.out.cell (World.block_lt_of_cell? w _ hx128_1)).trans hx128_1
                          replace hx128_2 := (HB.out.cell (World.block_lt_of_cell? w _ hx128_2)).trans hx128_2
                          replace hx128_3 := (HB.out.cell (World.block_lt_of_cell? w _ hx128_3)).trans hx128_3
                          replace hx128_4 := (HB.out.cell (World.block_lt_of_cell? w _ hx128_4)).trans hx128_4
                          replace hx128_5 := (HB.out.cell (World.block_lt_of_cell? w _ hx128_5)).trans hx128_5
                          replace hx128_6 := (HB.out.cell (World.block_lt_of_cell? w _ hx128_6)).trans hx128_6
                          replace hx128_7 := (HB.out.cell (World.block_lt_of_cell? w _ hx128_7)).trans hx128_7
                          replace p128 := eq_true p128
                          replace q128 := eq_true q128
                          go_wp2
                          repeat (go_quiet (fail); try go_wp2)
                          go_roundg k2
                          case measure => have := HK1.out; have := HK2.out; omega
                          case rel => exact ⟨(x5_2), (wrap64 (x6_2 - 1)), (by first | rfl | (simp; done) | (simp [*]; done)), (by first | rfl | (simp; done) | (simp [*]; done)), H', ⟨by have := HK1.out; have := HK2.out; omega⟩, ⟨by (with_reducible repeat (first | apply Kd.R_alloc | apply Kd.R_drewN | apply Kd.R_drew)); exact HO_3.out⟩, ⟨by repeat (first | (with_reducible first | exact HB.out | apply below_alloc | apply pw_below_drewN | apply below_drew1) | exact HB.out)⟩⟩
                      · rw [if_neg c10] at H
                        exact absurd H (by simp)
                    · rw [if_neg c9] at H
                      exact absurd H (by simp)
                · rw [if_neg c7] at H
                  exact absurd H (by simp)
              · rw [if_neg c6] at H
                exact absurd H (by simp)
            · rw [if_neg c5] at H
              have c5b0 : decide (0 ≤ x6_2) = false := decide_eq_false c5
              clear c5
              by_cases c12 : x3_1.length < 17592186044416
              · rw [if_pos c12] at H
                have LMc12 := Aside0.mk c12
                clear c12
                obtain ⟨y123, hy123⟩ : ∃ y_ : List Int, y_ = (x3_1 ++ [x5_2]) := ⟨_, rfl⟩
                replace H : (merkhetref10_Of.l0 k2 l0 y123 (wrap64 (x4_1 + 1))) = some r := by first | (rw [hy123]; with_reducible exact H) | (have H2_ := (Option.bind_some _ _).symm.trans H; rw [hy123]; with_reducible exact H2_) | (have H2_ := (Option.bind_some _ _).symm.trans H; with_reducible exact H2_) | with_reducible exact H | (rw [hy123]; exact H) | exact H
                have Ny123 := Aside0.mk hy123
                clear hy123
                have H' := Aside0.mk H
                clear H
                go_wp2_with (first | ((with_reducible refine gate_builtin (b := .append) (xs := #[.tmp 45, .tmp 47]) rfl ?_); at_builtin; refine Kd.R_append (Kd.int .i64) (w0 := w) w.heap.size rfl (.tmp 45) (.tmp 47) 27 3 (.int .i64 0) 8 rfl Try.underlying27 info3 rfl (by decide) (by omega) u3 x3_1 x5_2 [.int .i64 x5_2] (fun _ => True) (fun _ => False) rfl rfl ?aP (fun _ hk => hk.elim) ?aF ?aO ?aB ?aS ?aL ?_; (case aP => exact rfl); (case aB => exact (by repeat (first | (with_reducible first | exact HB.out | apply below_alloc | apply pw_below_drewN | apply below_drew1) | exact HB.out))); (case aF => exact (fun _ _ => trivial)); (case aO => exact (by (with_reducible repeat (first | apply Kd.R_alloc | apply Kd.R_drewN | apply Kd.R_drew)); exact HO_3.out)); (case aS => exact (below_size (by repeat (first | (with_reducible first | exact HB.out | apply below_alloc | apply pw_below_drewN | apply below_drew1) | exact HB.out)))); (case aL => have := LMc12.out; omega); intro v124 w13 ho hb hg hat; rw [← Ny123.out] at ho; have n0_ := Aside0.mk (hb); have n1_ := Aside0.mk (ho); clear HB; clear HO_3; have HB := n0_; have HO125 := n1_; clear n0_ n1_; clear ho hb hg hat))
                repeat (go_quiet (first | ((with_reducible refine gate_builtin (b := .append) (xs := #[.tmp 45, .tmp 47]) rfl ?_); at_builtin; refine Kd.R_append (Kd.int .i64) (w0 := w) w.heap.size rfl (.tmp 45) (.tmp 47) 27 3 (.int .i64 0) 8 rfl Try.underlying27 info3 rfl (by decide) (by omega) u3 x3_1 x5_2 [.int .i64 x5_2] (fun _ => True) (fun _ => False) rfl rfl ?aP (fun _ hk => hk.elim) ?aF ?aO ?aB ?aS ?aL ?_; (case aP => exact rfl); (case aB => exact (by repeat (first | (with_reducible first | exact HB.out | apply below_alloc | apply pw_below_drewN | apply below_drew1) | exact HB.out))); (case aF => exact (fun _ _ => trivial)); (case aO => exact (by (with_reducible repeat (first | apply Kd.R_alloc | apply Kd.R_drewN | apply Kd.R_drew)); exact HO_3.out)); (case aS => exact (below_size (by repeat (first | (with_reducible first | exact HB.out | apply below_alloc | apply pw_below_drewN | apply below_drew1) | exact HB.out)))); (case aL => have := LMc12.out; omega); intro v124 w13 ho hb hg hat; rw [← Ny123.out] at ho; have n0_ := Aside0.mk (hb); have n1_ := Aside0.mk (ho); clear HB; clear HO_3; have HB := n0_; have HO125 := n1_; clear n0_ n1_; clear ho hb hg hat)); try go_wp2_with (first | ((with_reducible refine gate_builtin (b := .append) (xs := #[.tmp 45, .tmp 47]) rfl ?_); at_builtin; refine Kd.R_append (Kd.int .i64) (w0 := w) w.heap.size rfl (.tmp 45) (.tmp 47) 27 3 (.int .i64 0) 8 rfl Try.underlying27 info3 rfl (by decide) (by omega) u3 x3_1 x5_2 [.int .i64 x5_2] (fun _ => True) (fun _ => False) rfl rfl ?aP (fun _ hk => hk.elim) ?aF ?aO ?aB ?aS ?aL ?_; (case aP => exact rfl); (case aB => exact (by repeat (first | (with_reducible first | exact HB.out | apply below_alloc | apply pw_below_drewN | apply below_drew1) | exact HB.out))); (case aF => exact (fun _ _ => trivial)); (case aO => exact (by (with_reducible repeat (first | apply Kd.R_alloc | apply Kd.R_drewN | apply Kd.R_drew)); exact HO_3.out)); (case aS => exact (below_size (by repeat (first | (with_reducible first | exact HB.out | apply below_alloc | apply pw_below_drewN | apply below_drew1) | exact HB.out)))); (case aL => have := LMc12.out; omega); intro v124 w13 ho hb hg hat; rw [← Ny123.out] at ho; have n0_ := Aside0.mk (hb); have n1_ := Aside0.mk (ho); clear HB; clear HO_3; have HB := n0_; have HO125 := n1_; clear n0_ n1_; clear ho hb hg hat)))
                go_roundg k2
                case measure => have := HK1.out; have := HK2.out; omega
                case rel => exact ⟨(y123), (wrap64 (x4_1 + 1)), (by first | rfl | (simp; done) | (simp [*]; done)), H', ⟨by have := HK1.out; have := HK2.out; omega⟩, ⟨by (with_reducible repeat (first | apply Kd.R_alloc | apply Kd.R_drewN | apply Kd.R_drew)); exact HO125.out⟩, ⟨by repeat (first | (with_reducible first | exact HB.out | apply below_alloc | apply pw_below_drewN | apply below_drew1) | exact HB.out)⟩⟩
              · rw [if_neg c12] at H
                exact absurd H (by simp)
      · rw [if_neg c4] at H
        have c4b0 : decide (x4_1 < (l0.length : Int)) = false := decide_eq_false c4
        clear c4
        obtain ⟨y129, hy129⟩ : ∃ y_ : List Int, y_ = (([] : List Int)) := ⟨_, rfl⟩
        replace H : (merkhetref10_Of.l2 k1 l0 x3_1 y129 0) = some r := by first | (rw [hy129]; with_reducible exact H) | (have H2_ := (Option.bind_some _ _).symm.trans H; rw [hy129]; with_reducible exact H2_) | (have H2_ := (Option.bind_some _ _).symm.trans H; with_reducible exact H2_) | with_reducible exact H | (rw [hy129]; exact H) | exact H
        have Ny129 := Aside0.mk hy129
        clear hy129
        have H' := Aside0.mk H
        clear H
        go_wp2_with (first | ((with_reducible refine gate_dst (N := 49) rfl ?_); refine Kd.R_lit (Kd.int .i64) _ 3 ?hg (N := 49) ?hd (xs := ([] : List Int)) (inner := []) (ok := fun _ => True) (okp := fun _ => True) ?hr ?hp (fun _ hk => hk) trivial (Below.refl _ _) (Nat.le_refl _) (by simp) ?_; (case hd => rfl); (case hg => rfl); (case hr => first | (go_simp; done) | (go_simp; rfl)); (case hp => exact (Reps.none _ _)); intro v130 w14 ho15 hb hg_ hnew_; clear hg_ hnew_; (first | rw [← Ny129.out] at ho15 | (simp only [Int.reduceToNat] at ho15; rw [← Ny129.out] at ho15)); have n0_ := Aside0.mk (Kd.R_elder' (by (with_reducible repeat (first | apply Kd.R_alloc | apply Kd.R_drewN | apply Kd.R_drew)); exact HO_3.out) (Kd.R_base ho15) hb); have n1_ := Aside0.mk (Kd.R_lower (Kd.R_new' ho15 (Kd.R_lt (by (with_reducible repeat (first | apply Kd.R_alloc | apply Kd.R_drewN | apply Kd.R_drew)); exact HO_3.out))) (below_size (by repeat (first | (with_reducible first | exact HB.out | apply below_alloc | apply pw_below_drewN | apply below_drew1) | exact HB.out)))); have n2_ := Aside0.mk (below_step (by repeat (first | (with_reducible first | exact HB.out | apply below_alloc | apply pw_below_drewN | apply below_drew1) | exact HB.out)) hb); clear HO_3; clear HB; have HO_3 := n0_; have HO131 := n1_; have HB := n2_; clear n0_ n1_ n2_; clear hb ho15))
        repeat (go_quiet (first | ((with_reducible refine gate_dst (N := 49) rfl ?_); refine Kd.R_lit (Kd.int .i64) _ 3 ?hg (N := 49) ?hd (xs := ([] : List Int)) (inner := []) (ok := fun _ => True) (okp := fun _ => True) ?hr ?hp (fun _ hk => hk) trivial (Below.refl _ _) (Nat.le_refl _) (by simp) ?_; (case hd => rfl); (case hg => rfl); (case hr => first | (go_simp; done) | (go_simp; rfl)); (case hp => exact (Reps.none _ _)); intro v130 w14 ho15 hb hg_ hnew_; clear hg_ hnew_; (first | rw [← Ny129.out] at ho15 | (simp only [Int.reduceToNat] at ho15; rw [← Ny129.out] at ho15)); have n0_ := Aside0.mk (Kd.R_elder' (by (with_reducible repeat (first | apply Kd.R_alloc | apply Kd.R_drewN | apply Kd.R_drew)); exact HO_3.out) (Kd.R_base ho15) hb); have n1_ := Aside0.mk (Kd.R_lower (Kd.R_new' ho15 (Kd.R_lt (by (with_reducible repeat (first | apply Kd.R_alloc | apply Kd.R_drewN | apply Kd.R_drew)); exact HO_3.out))) (below_size (by repeat (first | (with_reducible first | exact HB.out | apply below_alloc | apply pw_below_drewN | apply below_drew1) | exact HB.out)))); have n2_ := Aside0.mk (below_step (by repeat (first | (with_reducible first | exact HB.out | apply below_alloc | apply pw_below_drewN | apply below_drew1) | exact HB.out)) hb); clear HO_3; clear HB; have HO_3 := n0_; have HO131 := n1_; have HB := n2_; clear n0_ n1_ n2_; clear hb ho15)); try go_wp2_with (first | ((with_reducible refine gate_dst (N := 49) rfl ?_); refine Kd.R_lit (Kd.int .i64) _ 3 ?hg (N := 49) ?hd (xs := ([] : List Int)) (inner := []) (ok := fun _ => True) (okp := fun _ => True) ?hr ?hp (fun _ hk => hk) trivial (Below.refl _ _) (Nat.le_refl _) (by simp) ?_; (case hd => rfl); (case hg => rfl); (case hr => first | (go_simp; done) | (go_simp; rfl)); (case hp => exact (Reps.none _ _)); intro v130 w14 ho15 hb hg_ hnew_; clear hg_ hnew_; (first | rw [← Ny129.out] at ho15 | (simp only [Int.reduceToNat] at ho15; rw [← Ny129.out] at ho15)); have n0_ := Aside0.mk (Kd.R_elder' (by (with_reducible repeat (first | apply Kd.R_alloc | apply Kd.R_drewN | apply Kd.R_drew)); exact HO_3.out) (Kd.R_base ho15) hb); have n1_ := Aside0.mk (Kd.R_lower (Kd.R_new' ho15 (Kd.R_lt (by (with_reducible repeat (first | apply Kd.R_alloc | apply Kd.R_drewN | apply Kd.R_drew)); exact HO_3.out))) (below_size (by repeat (first | (with_reducible first | exact HB.out | apply below_alloc | apply pw_below_drewN | apply below_drew1) | exact HB.out)))); have n2_ := Aside0.mk (below_step (by repeat (first | (with_reducible first | exact HB.out | apply below_alloc | apply pw_below_drewN | apply below_drew1) | exact HB.out)) hb); clear HO_3; clear HB; have HO_3 := n0_; have HO131 := n1_; have HB := n2_; clear n0_ n1_ n2_; clear hb ho15)))
        go_loopg [7, 8] k1 (fun kq v7 v8 w' => ∃ (x7_2 : List Int) (x8_2 : Int), v8 = .int .i64 x8_2 ∧ Aside0 (merkhetref10_Of.l2 kq l0 x3_1 x7_2 x8_2 = some r) ∧ Aside0 (kq ≤ k1) ∧ Aside0 (Kd.R (Kd.int .i64) 3 w' w.heap.size (fun k_ => some k_ ≠ (v7 : Value).ownBlock) u3 x3_1) ∧ Aside0 (Kd.R (Kd.int .i64) 3 w' w.heap.size (fun k_ => some k_ ≠ (u3 : Value).ownBlock) v7 x7_2) ∧ Aside0 (Below w.heap.size w w'))
        case atStart => exact ⟨(y129), (0), (by first | rfl | (simp; done) | (simp [*]; done)), H', ⟨Nat.le_refl _⟩, ⟨by (with_reducible repeat (first | apply Kd.R_alloc | apply Kd.R_drewN | apply Kd.R_drew)); exact Kd.R_mono HO_3.out (fun _ hk => hk.2)⟩, ⟨by (with_reducible repeat (first | apply Kd.R_alloc | apply Kd.R_drewN | apply Kd.R_drew)); exact Kd.R_mono HO131.out (fun _ hk => hk.2)⟩, ⟨by repeat (first | (with_reducible first | exact HB.out | apply below_alloc | apply pw_below_drewN | apply below_drew1) | exact HB.out)⟩⟩
        case round =>
          clear H'
          (try clear c1); (try clear p1); (try clear q1); (try clear hx1); (try clear p2); (try clear c4); (try clear c4b0); (try clear c5); (try clear c5b0); (try clear c6); (try clear c6b0); (try clear p6); (try clear c7); (try clear c7b0); (try clear c8); (try clear c8b0); (try clear c8b1); (try clear c9); (try clear c9b0); (try clear c10); (try clear c10b0); (try clear c11); (try clear c11b0); (try clear c11b1); (try clear c12); (try clear p12); (try clear q12); (try clear hx12); (try clear c14); (try clear hx126_0); (try clear hx126_1); (try clear hx126_2); (try clear hx126_3); (try clear hx126_4); (try clear hx126_5); (try clear hx126_6); (try clear hx126_7); (try clear hx127_0); (try clear hx127_1); (try clear hx127_2); (try clear hx127_3); (try clear hx127_4); (try clear hx127_5); (try clear hx127_6); (try clear hx127_7); (try clear hx128_0); (try clear hx128_1); (try clear hx128_2); (try clear hx128_3); (try clear hx128_4); (try clear hx128_5); (try clear hx128_6); (try clear hx128_7); (try clear p126); (try clear p127); (try clear p128); (try clear p2); (try clear q126); (try clear q127); (try clear q128)
          obtain ⟨x7_2, x8_2, rfl, HA, HK2, HO_3, HO_7, HB⟩ := hrel
          cases gk with
          | zero => exact absurd HA.out (by simp [merkhetref10_Of.l2])
          | succ k2 =>
            have H := HA.out
            clear HA
            simp only [merkhetref10_Of.l2] at H
            by_cases c16 : x8_2 < (l0.length : Int)
            · rw [if_pos c16] at H
              have c16b0 : decide (x8_2 < (l0.length : Int)) = true := decide_eq_true c16
              clear c16
              replace H := Option.bind_eq_some_iff.mp H
              obtain ⟨t132, A170, H⟩ := H
              replace H : (merkhetref10_Of.l3 k2 l0 x3_1 x7_2 x8_2 t132 x8_2) = some r := H
              have A17 := Aside0.mk A170
              clear A170
              have H' := Aside0.mk H
              clear H
              obtain ⟨Ao18, co18, eo18⟩ := Kd.R_slice HO_3.out
              subst eo18
              go_wp2_with (first | (go_at_call 33; (with_reducible refine (merkhetref10_on.calls k2 _ _ x3_1 x8_2 t132 _ ?side1 ?side2 A17.out).mono ?_); (case side1 => repeat (first | exact (Kd.R_reads' HO_3.out).2.2 | (with_reducible refine Kd.C_alloc ?_ _) | (with_reducible refine Kd.C_drewN ?_ _) | (with_reducible refine Kd.C_drew ?_))); (case side2 => exact (Kd.R_reads' HO_3.out).2.1); rintro e w' ⟨rfl, ⟨nd, rfl⟩⟩; (try first | exact ⟨rfl, _, World.drewN_drewN _ _ _⟩ | exact ⟨rfl, _, Eq.trans (World.drewN_drewN _ _ _) (congrArg (World.drewN _) (Nat.add_assoc _ _ _))⟩)))
              repeat (go_quiet (first | (go_at_call 33; (with_reducible refine (merkhetref10_on.calls k2 _ _ x3_1 x8_2 t132 _ ?side1 ?side2 A17.out).mono ?_); (case side1 => repeat (first | exact (Kd.R_reads' HO_3.out).2.2 | (with_reducible refine Kd.C_alloc ?_ _) | (with_reducible refine Kd.C_drewN ?_ _) | (with_reducible refine Kd.C_drew ?_))); (case side2 => exact (Kd.R_reads' HO_3.out).2.1); rintro e w' ⟨rfl, ⟨nd, rfl⟩⟩; (try first | exact ⟨rfl, _, World.drewN_drewN _ _ _⟩ | exact ⟨rfl, _, Eq.trans (World.drewN_drewN _ _ _) (congrArg (World.drewN _) (Nat.add_assoc _ _ _))⟩))); try go_wp2_with (first | (go_at_call 33; (with_reducible refine (merkhetref10_on.calls k2 _ _ x3_1 x8_2 t132 _ ?side1 ?side2 A17.out).mono ?_); (case side1 => repeat (first | exact (Kd.R_reads' HO_3.out).2.2 | (with_reducible refine Kd.C_alloc ?_ _) | (with_reducible refine Kd.C_drewN ?_ _) | (with_reducible refine Kd.C_drew ?_))); (case side2 => exact (Kd.R_reads' HO_3.out).2.1); rintro e w' ⟨rfl, ⟨nd, rfl⟩⟩; (try first | exact ⟨rfl, _, World.drewN_drewN _ _ _⟩ | exact ⟨rfl, _, Eq.trans (World.drewN_drewN _ _ _) (congrArg (World.drewN _) (Nat.add_assoc _ _ _))⟩))))
              go_loopg [9, 10] k2 (fun kq v9 v10 w' => ∃ (x9_3 : Bool) (x10_3 : Int), v9 = .bool x9_3 ∧ v10 = .int .i64 x10_3 ∧ Aside0 (merkhetref10_Of.l3 kq l0 x3_1 x7_2 x8_2 x9_3 x10_3 = some r) ∧ Aside0 (kq ≤ k2) ∧ Aside0 (Kd.R (Kd.int .i64) 3 w' w.heap.size (fun k_ => some k_ ≠ (u7 : Value).ownBlock) (.slice Ao18 x3_1.length co18) x3_1) ∧ Aside0 (Kd.R (Kd.int .i64) 3 w' w.heap.size (fun k_ => some k_ ≠ ((.slice Ao18 x3_1.length co18) : Value).ownBlock) u7 x7_2) ∧ Aside0 (Below w.heap.size w w'))
              case atStart => exact ⟨(t132), (x8_2), (by first | rfl | (simp; done) | (simp [*]; done)), (by first | rfl | (simp; done) | (simp [*]; done)), H', ⟨Nat.le_refl _⟩, ⟨by (with_reducible repeat (first | apply Kd.R_alloc | apply Kd.R_drewN | apply Kd.R_drew)); exact HO_3.out⟩, ⟨by (with_reducible repeat (first | apply Kd.R_alloc | apply Kd.R_drewN | apply Kd.R_drew)); exact HO_7.out⟩, ⟨by repeat (first | (with_reducible first | exact HB.out | apply below_alloc | apply pw_below_drewN | apply below_drew1) | exact HB.out)⟩⟩
              case round =>
                clear H'
                (try clear c1); (try clear p1); (try clear q1); (try clear hx1); (try clear p2); (try clear c4); (try clear c4b0); (try clear c5); (try clear c5b0); (try clear c6); (try clear c6b0); (try clear p6); (try clear c7); (try clear c7b0); (try clear c8); (try clear c8b0); (try clear c8b1); (try clear c9); (try clear c9b0); (try clear c10); (try clear c10b0); (try clear c11); (try clear c11b0); (try clear c11b1); (try clear c12); (try clear p12); (try clear q12); (try clear hx12); (try clear c14); (try clear c16); (try clear c16b0); (try clear hx126_0); (try clear hx126_1); (try clear hx126_2); (try clear hx126_3); (try clear hx126_4); (try clear hx126_5); (try clear hx126_6); (try clear hx126_7); (try clear hx127_0); (try clear hx127_1); (try clear hx127_2); (try clear hx127_3); (try clear hx127_4); (try clear hx127_5); (try clear hx127_6); (try clear hx127_7); (try clear hx128_0); (try clear hx128_1); (try clear hx128_2); (try clear hx128_3); (try clear hx128_4); (try clear hx128_5); (try clear hx128_6); (try clear hx128_7); (try clear p1); (try clear p12); (try clear p126); (try clear p127); (try clear p128); (try clear p2); (try clear p6); (try clear q1); (try clear q12); (try clear q126); (try clear q127); (try clear q128)
                obtain ⟨x9_3, x10_3, rfl, rfl, HA, HK3, HO_3, HO_7, HB⟩ := hrel
                cases gk with
                | zero => exact absurd HA.out (by simp [merkhetref10_Of.l3])
                | succ k3 =>
                  have H := HA.out
                  clear HA
                  simp only [merkhetref10_Of.l3] at H
                  have HC19 := Aside0.mk H
                  clear H
                  go_upto_region 18 with (fail)
                  repeat (go_quiet (fail); go_upto_region 18 with (fail))
                  go_cut [68] (fun v68 wc => ∃ (kq : Nat) (x68_18 : Bool), v68 = .bool x68_18 ∧ Aside0 (merkhetref10_Of.j4 kq l0 x3_1 x7_2 x8_2 x9_3 x10_3 x68_18 = some r) ∧ Aside0 (kq ≤ k3) ∧ Aside0 (Kd.R (Kd.int .i64) 3 wc w.heap.size (fun k_ => some k_ ≠ (u7 : Value).ownBlock) (.slice Ao18 x3_1.length co18) x3_1) ∧ Aside0 (Kd.R (Kd.int .i64) 3 wc w.heap.size (fun k_ => some k_ ≠ ((.slice Ao18 x3_1.length co18) : Value).ownBlock) u7 x7_2) ∧ Aside0 (Below w.heap.size w wc))
                  case first =>
                    have H := HC19.out
                    clear HC19
                    by_cases c20 : x9_3 = true
                    · subst c20
                      have H1 : (if 0 ≤ x10_3 then (if x10_3 < (x3_1.length : Int) then (merkhetref10_Of.j4 k3 l0 x3_1 x7_2 x8_2 true x10_3 ((rd x3_1 x10_3) != x8_2)) else (none)) else (none)) = some r := by rw [if_pos rfl] at H; exact H
                      clear H
                      have H := H1
                      clear H1
                      by_cases c21 : 0 ≤ x10_3
                      · rw [if_pos c21] at H
                        have c21b0 : decide (0 ≤ x10_3) = true := decide_eq_true c21
                        clear c21
                        (first | rw [c21b0] | (simp only [i64_w, i32_w]; rw [c21b0]) | skip)
                        by_cases c22 : x10_3 < (x3_1.length : Int)
                        · rw [if_pos c22] at H
                          have c22b0 : decide (x10_3 < (x3_1.length : Int)) = true := decide_eq_true c22
                          clear c22
                          have H' := Aside0.mk H
                          clear H
                          have p133 : 0 ≤ (x10_3 : Int) := of_decide_eq_true (by first | (with_reducible assumption) | assumption)
                          have q133 : x10_3 < (x3_1.length : Int) := of_decide_eq_true (by first | (with_reducible assumption) | assumption)
                          obtain ⟨ad133, e133, hx133_0⟩ := Kd.at_int (Kd.R_reads' HO_3.out).2.2 x10_3 p133 q133
                          cases e133
                          replace p133 := eq_true p133
                          replace q133 := eq_true q133
                          go_wp2
                          repeat (go_quiet (fail); try go_wp2)
                          go_meet
                          case rel => exact ⟨_, (((rd x3_1 x10_3) != x8_2)), (by first | rfl | (simp; done) | (simp [*]; done)), H', ⟨by have := HK1.out; have := HK2.out; have := HK3.out; first | omega | exact Nat.le_refl _⟩, ⟨by (with_reducible repeat (first | apply Kd.R_alloc | apply Kd.R_drewN | apply Kd.R_drew)); exact HO_3.out⟩, ⟨by (with_reducible repeat (first | apply Kd.R_alloc | apply Kd.R_drewN | apply Kd.R_drew)); exact HO_7.out⟩, ⟨by repeat (first | (with_reducible first | exact HB.out | apply below_alloc | apply pw_below_drewN | apply below_drew1) | exact HB.out)⟩⟩
                        · rw [if_neg c22] at H
                          exact absurd H (by simp)
                      · rw [if_neg c21] at H
                        exact absurd H (by simp)
                    · replace c20 := Bool.eq_false_iff.mpr c20
                      subst c20
                      have H1 : (merkhetref10_Of.j4 k3 l0 x3_1 x7_2 x8_2 false x10_3 false) = some r := by rw [if_neg (show ¬ (false = true) by decide)] at H; exact H
                      clear H
                      have H := H1
                      clear H1
                      have H' := Aside0.mk H
                      clear H
                      go_wp2
                      repeat (go_quiet (fail); try go_wp2)
                      go_meet
                      case rel => exact ⟨_, (false), (by first | rfl | (simp; done) | (simp [*]; done)), H', ⟨by have := HK1.out; have := HK2.out; have := HK3.out; first | omega | exact Nat.le_refl _⟩, ⟨by (with_reducible repeat (first | apply Kd.R_alloc | apply Kd.R_drewN | apply Kd.R_drew)); exact HO_3.out⟩, ⟨by (with_reducible repeat (first | apply Kd.R_alloc | apply Kd.R_drewN | apply Kd.R_drew)); exact HO_7.out⟩, ⟨by repeat (first | (with_reducible first | exact HB.out | apply below_alloc | apply pw_below_drewN | apply below_drew1) | exact HB.out)⟩⟩
                  case rest =>
                    clear HC19
                    (try clear c1); (try clear p1); (try clear q1); (try clear hx1); (try clear c2); (try clear p2); (try clear c4); (try clear c4b0); (try clear c5); (try clear c5b0); (try clear c6); (try clear c6b0); (try clear p6); (try clear c7); (try clear c7b0); (try clear c8); (try clear c8b0); (try clear c8b1); (try clear c9); (try clear c9b0); (try clear c10); (try clear c10b0); (try clear c11); (try clear c11b0); (try clear c11b1); (try clear c12); (try clear p12); (try clear q12); (try clear hx12); (try clear p13); (try clear q13); (try clear hx13); (try clear c14); (try clear c16); (try clear c16b0); (try clear c20); (try clear c21); (try clear c21b0); (try clear c22); (try clear c22b0); (try clear hx126_0); (try clear hx126_1); (try clear hx126_2); (try clear hx126_3); (try clear hx126_4); (try clear hx126_5); (try clear hx126_6); (try clear hx126_7); (try clear hx127_0); (try clear hx127_1); (try clear hx127_2); (try clear hx127_3); (try clear hx127_4); (try clear hx127_5); (try clear hx127_6); (try clear hx127_7); (try clear hx128_0); (try clear hx128_1); (try clear hx128_2); (try clear hx128_3); (try clear hx128_4); (try clear hx128_5); (try clear hx128_6); (try clear hx128_7); (try clear hx133_0); (try clear p1); (try clear p12); (try clear p126); (try clear p127); (try clear p128); (try clear p133); (try clear p2); (try clear p6); (try clear q1); (try clear q12); (try clear q126); (try clear q127); (try clear q128); (try clear q133)
                    obtain ⟨kq, x68_18, rfl, HA, HJ18, HO_3, HO_7, HB⟩ := hcut
                    cases kq with
                    | zero => exact absurd HA.out (by simp [merkhetref10_Of.j4])
                    | succ kj18 =>
                      have H := HA.out
                      clear HA
                      simp only [merkhetref10_Of.j4] at H
                      by_cases c23 : x68_18 = true
                      · subst c23
                        have H1 : (if 0 ≤ x10_3 then (if x10_3 < (x3_1.length : Int) then (if (rd x3_1 x10_3) < x8_2 then (merkhetref10_Of.l3 kj18 l0 x3_1 x7_2 x8_2 false (rd x3_1 x10_3)) else (merkhetref10_Of.l3 kj18 l0 x3_1 x7_2 x8_2 x9_3 (rd x3_1 x10_3))) else (none)) else (none)) = some r := by rw [if_pos rfl] at H; exact H
                        clear H
                        have H := H1
                        clear H1
                        by_cases c24 : 0 ≤ x10_3
                        · rw [if_pos c24] at H
                          have c24b0 : decide (0 ≤ x10_3) = true := decide_eq_true c24
                          clear c24
                          by_cases c25 : x10_3 < (x3_1.length : Int)
                          · rw [if_pos c25] at H
                            have c25b0 : decide (x10_3 < (x3_1.length : Int)) = true := decide_eq_true c25
                            clear c25
                            by_cases c26 : (rd x3_1 x10_3) < x8_2
                            · rw [if_pos c26] at H
                              have c26b0 : decide ((rd x3_1 x10_3) < x8_2) = true := decide_eq_true c26
                              clear c26
                              have H' := Aside0.mk H
                              clear H
                              have p134 : 0 ≤ (x10_3 : Int) := of_decide_eq_true (by first | (with_reducible assumption) | assumption)
                              have q134 : x10_3 < (x3_1.length : Int) := of_decide_eq_true (by first | (with_reducible assumption) | assumption)
                              obtain ⟨ad134, e134, hx134_0⟩ := Kd.at_int (Kd.R_reads' HO_3.out).2.2 x10_3 p134 q134
                              cases e134
                              replace p134 := eq_true p134
                              replace q134 := eq_true q134
                              go_wp2
                              repeat (go_quiet (fail); try go_wp2)
                              go_roundg kj18
                              case measure => have := HK1.out; have := HK2.out; have := HK3.out; have := HJ18.out; omega
                              case rel => exact ⟨(false), (rd x3_1 x10_3), (by first | rfl | (simp; done) | (simp [*]; done)), (by first | rfl | (simp; done) | (simp [*]; done)), H', ⟨by have := HK1.out; have := HK2.out; have := HK3.out; have := HJ18.out; omega⟩, ⟨by (with_reducible repeat (first | apply Kd.R_alloc | apply Kd.R_drewN | apply Kd.R_drew)); exact HO_3.out⟩, ⟨by (with_reducible repeat (first | apply Kd.R_alloc | apply Kd.R_drewN | apply Kd.R_drew)); exact HO_7.out⟩, ⟨by repeat (first | (with_reducible first | exact HB.out | apply below_alloc | apply pw_below_drewN | apply below_drew1) | exact HB.out)⟩⟩
                            · rw [if_neg c26] at H
                              have c26b0 : decide ((rd x3_1 x10_3) < x8_2) = false := decide_eq_false c26
                              clear c26
                              have H' := Aside0.mk H
                              clear H
                              have p134 : 0 ≤ (x10_3 : Int) := of_decide_eq_true (by first | (with_reducible assumption) | assumption)
                              have q134 : x10_3 < (x3_1.length : Int) := of_decide_eq_true (by first | (with_reducible assumption) | assumption)
                              obtain ⟨ad134, e134, hx134_0⟩ := Kd.at_int (Kd.R_reads' HO_3.out).2.2 x10_3 p134 q134
                              cases e134
                              replace p134 := eq_true p134
                              replace q134 := eq_true q134
                              go_wp2
                              repeat (go_quiet (fail); try go_wp2)
                              go_roundg kj18
                              case measure => have := HK1.out; have := HK2.out; have := HK3.out; have := HJ18.out; omega
                              case rel => exact ⟨(x9_3), (rd x3_1 x10_3), (by first | rfl | (simp; done) | (simp [*]; done)), (by first | rfl | (simp; done) | (simp [*]; done)), H', ⟨by have := HK1.out; have := HK2.out; have := HK3.out; have := HJ18.out; omega⟩, ⟨by (with_reducible repeat (first | apply Kd.R_alloc | apply Kd.R_drewN | apply Kd.R_drew)); exact HO_3.out⟩, ⟨by (with_reducible repeat (first | apply Kd.R_alloc | apply Kd.R_drewN | apply Kd.R_drew)); exact HO_7.out⟩, ⟨by repeat (first | (with_reducible first | exact HB.out | apply below_alloc | apply pw_below_drewN | apply below_drew1) | exact HB.out)⟩⟩
                          · rw [if_neg c25] at H
                            exact absurd H (by simp)
                        · rw [if_neg c24] at H
                          exact absurd H (by simp)
                      · replace c23 := Bool.eq_false_iff.mpr c23
                        subst c23
                        have H1 : (if x9_3 = true then (if x7_2.length < 17592186044416 then (merkhetref10_Of.l2 kj18 l0 x3_1 (x7_2 ++ [(-1)]) (wrap64 (x8_2 + 1))) else (none)) else (if 0 ≤ x8_2 then (if x8_2 < (x3_1.length : Int) then (if x7_2.length < 17592186044416 then (merkhetref10_Of.l2 kj18 l0 x3_1 (x7_2 ++ [rd x3_1 x8_2]) (wrap64 (x8_2 + 1))) else (none)) else (none)) else (none))) = some r := by rw [if_neg (show ¬ (false = true) by decide)] at H; exact H
                        clear H
                        have H := H1
                        clear H1
                        by_cases c27 : x9_3 = true
                        · subst c27
                          have H1 : (if x7_2.length < 17592186044416 then (merkhetref10_Of.l2 kj18 l0 x3_1 (x7_2 ++ [(-1)]) (wrap64 (x8_2 + 1))) else (none)) = some r := by rw [if_pos rfl] at H; exact H
                          clear H
                          have H := H1
                          clear H1
                          by_cases c28 : x7_2.length < 17592186044416
                          · rw [if_pos c28] at H
                            have LMc28 := Aside0.mk c28
                            clear c28
                            obtain ⟨y135, hy135⟩ : ∃ y_ : List Int, y_ = (x7_2 ++ [(-1)]) := ⟨_, rfl⟩
                            replace H : (merkhetref10_Of.l2 kj18 l0 x3_1 y135 (wrap64 (x8_2 + 1))) = some r := by first | (rw [hy135]; with_reducible exact H) | (have H2_ := (Option.bind_some _ _).symm.trans H; rw [hy135]; with_reducible exact H2_) | (have H2_ := (Option.bind_some _ _).symm.trans H; with_reducible exact H2_) | with_reducible exact H | (rw [hy135]; exact H) | exact H
                            have Ny135 := Aside0.mk hy135
                            clear hy135
                            have H' := Aside0.mk H
                            clear H
                            go_wp2_with (first | ((with_reducible refine gate_builtin (b := .append) (xs := #[.tmp 77, .tmp 78]) rfl ?_); at_builtin; refine Kd.R_append (Kd.int .i64) (w0 := w) w.heap.size rfl (.tmp 77) (.tmp 78) 27 3 (.int .i64 0) 8 rfl Try.underlying27 info3 rfl (by decide) (by omega) u7 x7_2 (-1) [.int .i64 (-1)] (fun k_ => some k_ ≠ (.slice Ao18 x3_1.length co18 : Value).ownBlock) (fun _ => False) rfl rfl ?aP (fun _ hk => hk.elim) ?aF ?aO ?aB ?aS ?aL ?_; (case aP => exact rfl); (case aB => exact (by repeat (first | (with_reducible first | exact HB.out | apply below_alloc | apply pw_below_drewN | apply below_drew1) | exact HB.out))); (case aF => exact (fun k_ hk => Kd.fresh' (Kd.R_lt (by (with_reducible repeat (first | apply Kd.R_alloc | apply Kd.R_drewN | apply Kd.R_drew)); exact HO_3.out)) k_ hk)); (case aO => exact (by (with_reducible repeat (first | apply Kd.R_alloc | apply Kd.R_drewN | apply Kd.R_drew)); exact HO_7.out)); (case aS => exact (below_size (by repeat (first | (with_reducible first | exact HB.out | apply below_alloc | apply pw_below_drewN | apply below_drew1) | exact HB.out)))); (case aL => have := LMc28.out; omega); intro v136 w29 ho hb hg hat; rw [← Ny135.out] at ho; have n0_ := Aside0.mk (Kd.R_after (ok := (fun _ => True)) (by (with_reducible repeat (first | apply Kd.R_alloc | apply Kd.R_drewN | apply Kd.R_drew)); exact Kd.R_mono HO_3.out (fun _ hk => ⟨trivial, by first | exact hk | exact fun h_ => hk (h_.trans (own_len _ _ _ _ _))⟩)) hg hat); have n1_ := Aside0.mk (hb); have n2_ := Aside0.mk (ho); clear HO_3; clear HB; clear HO_7; have HO_3 := n0_; have HB := n1_; have HO137 := n2_; clear n0_ n1_ n2_; clear ho hb hg hat))
                            repeat (go_quiet (first | ((with_reducible refine gate_builtin (b := .append) (xs := #[.tmp 77, .tmp 78]) rfl ?_); at_builtin; refine Kd.R_append (Kd.int .i64) (w0 := w) w.heap.size rfl (.tmp 77) (.tmp 78) 27 3 (.int .i64 0) 8 rfl Try.underlying27 info3 rfl (by decide) (by omega) u7 x7_2 (-1) [.int .i64 (-1)] (fun k_ => some k_ ≠ (.slice Ao18 x3_1.length co18 : Value).ownBlock) (fun _ => False) rfl rfl ?aP (fun _ hk => hk.elim) ?aF ?aO ?aB ?aS ?aL ?_; (case aP => exact rfl); (case aB => exact (by repeat (first | (with_reducible first | exact HB.out | apply below_alloc | apply pw_below_drewN | apply below_drew1) | exact HB.out))); (case aF => exact (fun k_ hk => Kd.fresh' (Kd.R_lt (by (with_reducible repeat (first | apply Kd.R_alloc | apply Kd.R_drewN | apply Kd.R_drew)); exact HO_3.out)) k_ hk)); (case aO => exact (by (with_reducible repeat (first | apply Kd.R_alloc | apply Kd.R_drewN | apply Kd.R_drew)); exact HO_7.out)); (case aS => exact (below_size (by repeat (first | (with_reducible first | exact HB.out | apply below_alloc | apply pw_below_drewN | apply below_drew1) | exact HB.out)))); (case aL => have := LMc28.out; omega); intro v136 w29 ho hb hg hat; rw [← Ny135.out] at ho; have n0_ := Aside0.mk (Kd.R_after (ok := (fun _ => True)) (by (with_reducible repeat (first | apply Kd.R_alloc | apply Kd.R_drewN | apply Kd.R_drew)); exact Kd.R_mono HO_3.out (fun _ hk => ⟨trivial, by first | exact hk | exact fun h_ => hk (h_.trans (own_len _ _ _ _ _))⟩)) hg hat); have n1_ := Aside0.mk (hb); have n2_ := Aside0.mk (ho); clear HO_3; clear HB; clear HO_7; have HO_3 := n0_; have HB := n1_; have HO137 := n2_; clear n0_ n1_ n2_; clear ho hb hg hat)); try go_wp2_with (first | ((with_reducible refine gate_builtin (b := .append) (xs := #[.tmp 77, .tmp 78]) rfl ?_); at_builtin; refine Kd.R_append (Kd.int .i64) (w0 := w) w.heap.size rfl (.tmp 77) (.tmp 78) 27 3 (.int .i64 0) 8 rfl Try.underlying27 info3 rfl (by decide) (by omega) u7 x7_2 (-1) [.int .i64 (-1)] (fun k_ => some k_ ≠ (.slice Ao18 x3_1.length co18 : Value).ownBlock) (fun _ => False) rfl rfl ?aP (fun _ hk => hk.elim) ?aF ?aO ?aB ?aS ?aL ?_; (case aP => exact rfl); (case aB => exact (by repeat (first | (with_reducible first | exact HB.out | apply below_alloc | apply pw_below_drewN | apply below_drew1) | exact HB.out))); (case aF => exact (fun k_ hk => Kd.fresh' (Kd.R_lt (by (with_reducible repeat (first | apply Kd.R_alloc | apply Kd.R_drewN | apply Kd.R_drew)); exact HO_3.out)) k_ hk)); (case aO => exact (by (with_reducible repeat (first | apply Kd.R_alloc | apply Kd.R_drewN | apply Kd.R_drew)); exact HO_7.out)); (case aS => exact (below_size (by repeat (first | (with_reducible first | exact HB.out | apply below_alloc | apply pw_below_drewN | apply below_drew1) | exact HB.out)))); (case aL => have := LMc28.out; omega); intro v136 w29 ho hb hg hat; rw [← Ny135.out] at ho; have n0_ := Aside0.mk (Kd.R_after (ok := (fun _ => True)) (by (with_reducible repeat (first | apply Kd.R_alloc | apply Kd.R_drewN | apply Kd.R_drew)); exact Kd.R_mono HO_3.out (fun _ hk => ⟨trivial, by first | exact hk | exact fun h_ => hk (h_.trans (own_len _ _ _ _ _))⟩)) hg hat); have n1_ := Aside0.mk (hb); have n2_ := Aside0.mk (ho); clear HO_3; clear HB; clear HO_7; have HO_3 := n0_; have HB := n1_; have HO137 := n2_; clear n0_ n1_ n2_; clear ho hb hg hat)))
                            go_roundg kj18
                            case measure => have := HK1.out; have := HK2.out; have := HK3.out; have := HJ18.out; omega
                            case rel => exact ⟨(y135), (wrap64 (x8_2 + 1)), (by first | rfl | (simp; done) | (simp [*]; done)), H', ⟨by have := HK1.out; have := HK2.out; have := HK3.out; have := HJ18.out; omega⟩, ⟨by (with_reducible repeat (first | apply Kd.R_alloc | apply Kd.R_drewN | apply Kd.R_drew)); exact Kd.R_mono HO_3.out (fun _ hk => hk.2)⟩, ⟨by (with_reducible repeat (first | apply Kd.R_alloc | apply Kd.R_drewN | apply Kd.R_drew)); exact HO137.out⟩, ⟨by repeat (first | (with_reducible first | exact HB.out | apply below_alloc | apply pw_below_drewN | apply below_drew1) | exact HB.out)⟩⟩
                          · rw [if_neg c28] at H
                            exact absurd H (by simp)
                        · replace c27 := Bool.eq_false_iff.mpr c27
                          subst c27
                          have H1 : (if 0 ≤ x8_2 then (if x8_2 < (x3_1.length : Int) then (if x7_2.length < 17592186044416 then (merkhetref10_Of.l2 kj18 l0 x3_1 (x7_2 ++ [rd x3_1 x8_2]) (wrap64 (x8_2 + 1))) else (none)) else (none)) else (none)) = some r := by rw [if_neg (show ¬ (false = true) by decide)] at H; exact H
                          clear H
                          have H := H1
                          clear H1
                          by_cases c30 : 0 ≤ x8_2
                          · rw [if_pos c30] at H
                            have c30b0 : decide (0 ≤ x8_2) = true := decide_eq_true c30
                            clear c30
                            by_cases c31 : x8_2 < (x3_1.length : Int)
                            · rw [if_pos c31] at H
                              have c31b0 : decide (x8_2 < (x3_1.length : Int)) = true := decide_eq_true c31
                              clear c31
                              by_cases c32 : x7_2.length < 17592186044416
                              · rw [if_pos c32] at H
                                have LMc32 := Aside0.mk c32
                                clear c32
                                obtain ⟨y139, hy139⟩ : ∃ y_ : List Int, y_ = (x7_2 ++ [rd x3_1 x8_2]) := ⟨_, rfl⟩
                                replace H : (merkhetref10_Of.l2 kj18 l0 x3_1 y139 (wrap64 (x8_2 + 1))) = some r := by first | (rw [hy139]; with_reducible exact H) | (have H2_ := (Option.bind_some _ _).symm.trans H; rw [hy139]; with_reducible exact H2_) | (have H2_ := (Option.bind_some _ _).symm.trans H; with_reducible exact H2_) | with_reducible exact H | (rw [hy139]; exact H) | exact H
                                have Ny139 := Aside0.mk hy139
                                clear hy139
                                have H' := Aside0.mk H
                                clear H
                                have p138 : 0 ≤ (x8_2 : Int) := of_decide_eq_true (by first | (with_reducible assumption) | assumption)
                                have q138 : x8_2 < (x3_1.length : Int) := of_decide_eq_true (by first | (with_reducible assumption) | assumption)
                                obtain ⟨ad138, e138, hx138_0⟩ := Kd.at_int (Kd.R_reads' HO_3.out).2.2 x8_2 p138 q138
                                cases e138
                                replace p138 := eq_true p138
                                replace q138 := eq_true q138
                                go_wp2_with (first | ((with_reducible refine gate_builtin (b := .append) (xs := #[.tmp 80, .tmp 85]) rfl ?_); at_builtin; refine Kd.R_append (Kd.int .i64) (w0 := w) w.heap.size rfl (.tmp 80) (.tmp 85) 27 3 (.int .i64 0) 8 rfl Try.underlying27 info3 rfl (by decide) (by omega) u7 x7_2 (rd x3_1 x8_2) [.int .i64 (rd x3_1 x8_2)] (fun k_ => some k_ ≠ (.slice (some ad138) x3_1.length co18 : Value).ownBlock) (fun _ => False) rfl rfl ?aP (fun _ hk => hk.elim) ?aF ?aO ?aB ?aS ?aL ?_; (case aP => exact rfl); (case aB => exact (by repeat (first | (with_reducible first | exact HB.out | apply below_alloc | apply pw_below_drewN | apply below_drew1) | exact HB.out))); (case aF => exact (fun k_ hk => Kd.fresh' (Kd.R_lt (by (with_reducible repeat (first | apply Kd.R_alloc | apply Kd.R_drewN | apply Kd.R_drew)); exact HO_3.out)) k_ hk)); (case aO => exact (by (with_reducible repeat (first | apply Kd.R_alloc | apply Kd.R_drewN | apply Kd.R_drew)); exact HO_7.out)); (case aS => exact (below_size (by repeat (first | (with_reducible first | exact HB.out | apply below_alloc | apply pw_below_drewN | apply below_drew1) | exact HB.out)))); (case aL => have := LMc32.out; omega); intro v140 w33 ho hb hg hat; rw [← Ny139.out] at ho; have n0_ := Aside0.mk (Kd.R_after (ok := (fun _ => True)) (by (with_reducible repeat (first | apply Kd.R_alloc | apply Kd.R_drewN | apply Kd.R_drew)); exact Kd.R_mono HO_3.out (fun _ hk => ⟨trivial, by first | exact hk | exact fun h_ => hk (h_.trans (own_len _ _ _ _ _))⟩)) hg hat); have n1_ := Aside0.mk (hb); have n2_ := Aside0.mk (ho); clear HO_3; clear HB; clear HO_7; have HO_3 := n0_; have HB := n1_; have HO141 := n2_; clear n0_ n1_ n2_; clear ho hb hg hat))
                                repeat (go_quiet (first | ((with_reducible refine gate_builtin (b := .append) (xs := #[.tmp 80, .tmp 85]) rfl ?_); at_builtin; refine Kd.R_append (Kd.int .i64) (w0 := w) w.heap.size rfl (.tmp 80) (.tmp 85) 27 3 (.int .i64 0) 8 rfl Try.underlying27 info3 rfl (by decide) (by omega) u7 x7_2 (rd x3_1 x8_2) [.int .i64 (rd x3_1 x8_2)] (fun k_ => some k_ ≠ (.slice (some ad138) x3_1.length co18 : Value).ownBlock) (fun _ => False) rfl rfl ?aP (fun _ hk => hk.elim) ?aF ?aO ?aB ?aS ?aL ?_; (case aP => exact rfl); (case aB => exact (by repeat (first | (with_reducible first | exact HB.out | apply below_alloc | apply pw_below_drewN | apply below_drew1) | exact HB.out))); (case aF => exact (fun k_ hk => Kd.fresh' (Kd.R_lt (by (with_reducible repeat (first | apply Kd.R_alloc | apply Kd.R_drewN | apply Kd.R_drew)); exact HO_3.out)) k_ hk)); (case aO => exact (by (with_reducible repeat (first | apply Kd.R_alloc | apply Kd.R_drewN | apply Kd.R_drew)); exact HO_7.out)); (case aS => exact (below_size (by repeat (first | (with_reducible first | exact HB.out | apply below_alloc | apply pw_below_drewN | apply below_drew1) | exact HB.out)))); (case aL => have := LMc32.out; omega); intro v140 w33 ho hb hg hat; rw [← Ny139.out] at ho; have n0_ := Aside0.mk (Kd.R_after (ok := (fun _ => True)) (by (with_reducible repeat (first | apply Kd.R_alloc | apply Kd.R_drewN | apply Kd.R_drew)); exact Kd.R_mono HO_3.out (fun _ hk => ⟨trivial, by first | exact hk | exact fun h_ => hk (h_.trans (own_len _ _ _ _ _))⟩)) hg hat); have n1_ := Aside0.mk (hb); have n2_ := Aside0.mk (ho); clear HO_3; clear HB; clear HO_7; have HO_3 := n0_; have HB := n1_; have HO141 := n2_; clear n0_ n1_ n2_; clear ho hb hg hat)); try go_wp2_with (first | ((with_reducible refine gate_builtin (b := .append) (xs := #[.tmp 80, .tmp 85]) rfl ?_); at_builtin; refine Kd.R_append (Kd.int .i64) (w0 := w) w.heap.size rfl (.tmp 80) (.tmp 85) 27 3 (.int .i64 0) 8 rfl Try.underlying27 info3 rfl (by decide) (by omega) u7 x7_2 (rd x3_1 x8_2) [.int .i64 (rd x3_1 x8_2)] (fun k_ => some k_ ≠ (.slice (some ad138) x3_1.length co18 : Value).ownBlock) (fun _ => False) rfl rfl ?aP (fun _ hk => hk.elim) ?aF ?aO ?aB ?aS ?aL ?_; (case aP => exact rfl); (case aB => exact (by repeat (first | (with_reducible first | exact HB.out | apply below_alloc | apply pw_below_drewN | apply below_drew1) | exact HB.out))); (case aF => exact (fun k_ hk => Kd.fresh' (Kd.R_lt (by (with_reducible repeat (first | apply Kd.R_alloc | apply Kd.R_drewN | apply Kd.R_drew)); exact HO_3.out)) k_ hk)); (case aO => exact (by (with_reducible repeat (first | apply Kd.R_alloc | apply Kd.R_drewN | apply Kd.R_drew)); exact HO_7.out)); (case aS => exact (below_size (by repeat (first | (with_reducible first | exact HB.out | apply below_alloc | apply pw_below_drewN | apply below_drew1) | exact HB.out)))); (case aL => have := LMc32.out; omega); intro v140 w33 ho hb hg hat; rw [← Ny139.out] at ho; have n0_ := Aside0.mk (Kd.R_after (ok := (fun _ => True)) (by (with_reducible repeat (first | apply Kd.R_alloc | apply Kd.R_drewN | apply Kd.R_drew)); exact Kd.R_mono HO_3.out (fun _ hk => ⟨trivial, by first | exact hk | exact fun h_ => hk (h_.trans (own_len _ _ _ _ _))⟩)) hg hat); have n1_ := Aside0.mk (hb); have n2_ := Aside0.mk (ho); clear HO_3; clear HB; clear HO_7; have HO_3 := n0_; have HB := n1_; have HO141 := n2_; clear n0_ n1_ n2_; clear ho hb hg hat)))
                                go_roundg kj18
                                case measure => have := HK1.out; have := HK2.out; have := HK3.out; have := HJ18.out; omega
                                case rel => exact ⟨(y139), (wrap64 (x8_2 + 1)), (by first | rfl | (simp; done) | (simp [*]; done)), H', ⟨by have := HK1.out; have := HK2.out; have := HK3.out; have := HJ18.out; omega⟩, ⟨by (with_reducible repeat (first | apply Kd.R_alloc | apply Kd.R_drewN | apply Kd.R_drew)); exact Kd.R_mono HO_3.out (fun _ hk => hk.2)⟩, ⟨by (with_reducible repeat (first | apply Kd.R_alloc | apply Kd.R_drewN | apply Kd.R_drew)); exact HO141.out⟩, ⟨by repeat (first | (with_reducible first | exact HB.out | apply below_alloc | apply pw_below_drewN | apply below_drew1) | exact HB.out)⟩⟩
                              · rw [if_neg c32] at H
                                exact absurd H (by simp)
                            · rw [if_neg c31] at H
                              exact absurd H (by simp)
                          · rw [if_neg c30] at H
                            exact absurd H (by simp)
            · rw [if_neg c16] at H
              have c16b0 : decide (x8_2 < (l0.length : Int)) = false := decide_eq_false c16
              clear c16
              obtain rfl := Option.some.inj H
              go_wp2
              repeat (go_quiet (fail); try go_wp2)
              go_ret
              exact ⟨_, by first | rfl | (simp [errW_none, errW_some] <;> rfl) | (simp [*, errW_none, errW_some] <;> rfl), by (with_reducible repeat (first | apply Kd.R_alloc | apply Kd.R_drewN | apply Kd.R_drew)); exact Kd.R_mono HO_7.out (fun _ hk => trivial), by repeat (first | (with_reducible first | exact HB.out | apply below_alloc | apply pw_below_drewN | apply below_drew1) | exact HB.out)⟩

end Go.Proofs.Ytjgpggjjgimibaa.Q

/- The document's parents, as a plain list. -/
namespace Go.Proofs.Ytjgpggjjgimibaa.L
open Go.RowKit Go.Proofs.Ytjgpggjjgimibaa.Q Go.Proofs.YtjgpggjjgimibaaW.PrintWords Go.Proofs.YtjgpggjjgimibaaW.PrintLast Go.Proofs.YtjgpggjjgimibaaW.PrintMore Go.Proofs.YtjgpggjjgimibaaW.Lib
set_option linter.unusedVariables false

/-- So many parents up. -/
def upP (ps : List Int) (at_ : Int) : Nat → Int
  | 0 => at_
  | n + 1 => if at_ ≥ 0 then upP ps (rd ps at_) n else at_
def inP (n : Nat) (ps : List Int) : Prop := ∀ x ∈ ps, -1 ≤ x ∧ x < n
theorem inP_rd {ps : List Int} (h : inP ps.length ps) (x : Int) (h0 : 0 ≤ x) (h1 : x < ps.length) : -1 ≤ rd ps x ∧ rd ps x < ps.length := by
  have hx : x.toNat < ps.length := by omega
  have e : rd ps x = ps[x.toNat] := by simp [rd, List.getD, hx]
  rw [e]
  exact h _ (List.getElem_mem hx)
theorem up_ev (ps : List Int) (hp : inP ps.length ps) (n : Nat) (hn : n ≤ 1000000000) : ∀ (d i : Nat) (a : Int), n - i = d → i ≤ n → -1 ≤ a → a < ps.length → Ev (fun k => merkhetref10_up.l0 k ps a (n : Int) (i : Int)) (upP ps a d) := by
  intro d
  induction d with
  | zero =>
    intro i a hd hi h0 h1
    refine Ev.succ ?_
    simp only [merkhetref10_up.l0]
    exact Ev.neg (by omega) (Ev.now _)
  | succ d ih =>
    intro i a hd hi h0 h1
    refine Ev.succ ?_
    simp only [merkhetref10_up.l0]
    refine Ev.pos (by omega) ?_
    by_cases h : a ≥ 0
    · have hr := inP_rd hp a h h1
      have h2 := ih (i + 1) (rd ps a) (by omega) (by omega) hr.1 hr.2
      refine Ev.pos h (Ev.pos h (Ev.pos h1 ?_))
      rw [wrap_id (by omega) (by omega)]
      exact Ev.cast h2 (by simp only [upP]; rw [if_pos h])
    · exact Ev.neg h (Ev.cast (Ev.now _) (by simp only [upP]; rw [if_neg h]))
theorem upf_ev (ps : List Int) (hp : inP ps.length ps) (n : Nat) (hn : n ≤ 1000000000) (a : Int) (h0 : -1 ≤ a) (h1 : a < ps.length) : Ev (fun k => merkhetref10_up.f k ps a (n : Int)) (upP ps a n) := up_ev ps hp n hn n 0 a (by omega) (by omega) h0 h1
/-- Is a place on a cycle? -/
def onP (ps : List Int) (a : Int) : Bool := (List.range ps.length).any (fun n => decide (upP ps a (n + 1) = a))
theorem on_ev (ps : List Int) (hl : ps.length ≤ 1000000) (hp : inP ps.length ps) (a : Int) (h0 : -1 ≤ a) (h1 : a < ps.length) : Ev (fun k => merkhetref10_on.f k ps a) (onP ps a) := by
  unfold merkhetref10_on.f
  have key : ∀ (d i : Nat), ps.length - i = d → i ≤ ps.length → Ev (fun k => merkhetref10_on.l0 k ps a ((i : Int) + 1)) ((List.range' i d).any (fun n => decide (upP ps a (n + 1) = a))) := by
    intro d
    induction d with
    | zero =>
      intro i hd hi
      refine Ev.succ ?_
      simp only [merkhetref10_on.l0]
      exact Ev.neg (by omega) (Ev.now _)
    | succ d ih =>
      intro i hd hi
      have h2 := ih (i + 1) (by omega) (by omega)
      have h3 := upf_ev ps hp (i + 1) (by omega) a h0 h1
      refine Ev.succ ?_
      simp only [merkhetref10_on.l0]
      refine Ev.pos (by omega) (Ev.bind h3 (Ev.ite (fun h => ?_) (fun h => ?_)))
      · refine Ev.cast (Ev.now _) ?_
        rw [List.range'_succ, List.any_cons, decide_eq_true h]; rfl
      · rw [wrap_id (by omega) (by omega)]
        refine Ev.cast h2 ?_
        rw [List.range'_succ, List.any_cons, decide_eq_false h]; rfl
  have := key ps.length 0 (by omega) (by omega)
  refine Ev.cast this ?_
  unfold onP
  rw [List.range_eq_range']
/-- The least place, from so many down, whose ID it is. -/
def scanD (l : List S42) (id : Int) : Nat → Int → Int
  | 0, p => p
  | j + 1, p => scanD l id j (if id ≠ 0 ∧ (rd_T42 l j).f1 = id then (j : Int) else p)
theorem scanD_in (l : List S42) (id : Int) : ∀ (j : Nat) (p : Int), j ≤ l.length → -1 ≤ p → p < l.length → -1 ≤ scanD l id j p ∧ scanD l id j p < l.length
  | 0, p, _, h0, h1 => ⟨h0, h1⟩
  | j + 1, p, hj, h0, h1 => by
    simp only [scanD]
    split
    · exact scanD_in l id j _ (by omega) (by omega) (by omega)
    · exact scanD_in l id j _ (by omega) h0 h1
def rawL (l : List S42) : List Int := l.map (fun s => scanD l s.f2 l.length (-1))
theorem rawL_length (l : List S42) : (rawL l).length = l.length := by simp [rawL]
theorem rawL_in (l : List S42) (h : 0 < l.length ∨ l.length = 0) : inP l.length (rawL l) := by
  intro x hx
  obtain ⟨s, hs, rfl⟩ := List.mem_map.1 hx
  exact scanD_in l s.f2 l.length (-1) (by omega) (by omega) (by omega)
/-- Is a place the least of its cycle? From a place on, so many steps. -/
def loL (ps : List Int) (i : Int) : Nat → Int → Bool
  | 0, _ => true
  | f + 1, a => if rd ps a = i then true else if rd ps a < i then false else loL ps i f (rd ps a)
def parAt (ps : List Int) (i : Int) : Int := if (onP ps i && loL ps i ps.length i) = true then -1 else rd ps i
def parL (l : List S42) : List Int := (List.range l.length).map (fun i : Nat => parAt (rawL l) i)
theorem parL_length (l : List S42) : (parL l).length = l.length := by simp [parL]
theorem par_ev (l : List S42) (hl : l.length ≤ 1000000) : Ev (fun k => merkhetref10_Of.f k l) (parL l) := by
  have hpl := rawL_length l
  have hpi : inP (rawL l).length (rawL l) := by rw [hpl]; exact rawL_in l (by omega)
  unfold merkhetref10_Of.f
  have two : ∀ (d i : Nat), l.length - i = d → i ≤ l.length → Ev (fun k => merkhetref10_Of.l2 k l (rawL l) ((parL l).take i) (i : Int)) (parL l) := by
    intro d
    induction d with
    | zero =>
      intro i hd hi
      refine Ev.succ ?_
      simp only [merkhetref10_Of.l2]
      refine Ev.neg (by omega) (Ev.cast (Ev.now _) ?_)
      rw [List.take_of_length_le (by rw [parL_length]; omega)]
    | succ d ih =>
      intro i hd hi
      have hlt : i < l.length := by omega
      have h2 := ih (i + 1) (by omega) (by omega)
      have hnext : (parL l).take (i + 1) = (parL l).take i ++ [parAt (rawL l) i] := by
        rw [List.take_succ_eq_append_getElem (by rw [parL_length]; omega)]
        simp [parL]
      have ho := on_ev (rawL l) (by omega) hpi i (by omega) (by omega)
      have htl : ((parL l).take i).length ≤ l.length := by rw [List.length_take, parL_length]; omega
      have done0 : ∀ (b : Bool) (a : Int), (if b = true then (-1 : Int) else rd (rawL l) i) = parAt (rawL l) i → Ev (fun k => merkhetref10_Of.j4 k l (rawL l) ((parL l).take i) (i : Int) b a false) (parL l) := by
        intro b a hb
        refine Ev.succ ?_
        simp only [merkhetref10_Of.j4]
        refine Ev.neg (by simp) ?_
        rw [wrap_id (by omega) (by omega)]
        cases b with
        | true =>
          refine Ev.pos rfl (Ev.pos (by omega) ?_)
          rw [if_pos rfl] at hb
          rw [hb, ← hnext]; exact h2
        | false =>
          refine Ev.neg (by simp) (Ev.pos (by omega) (Ev.pos (by omega) (Ev.pos (by omega) ?_)))
          rw [if_neg (by simp)] at hb
          rw [hb, ← hnext]; exact h2
      have off : parAt (rawL l) i = rd (rawL l) i → ∀ a, Ev (fun k => merkhetref10_Of.l3 k l (rawL l) ((parL l).take i) (i : Int) false a) (parL l) := by
        intro hb a
        refine Ev.succ ?_
        simp only [merkhetref10_Of.l3]
        exact Ev.neg (by simp) (done0 false a (by rw [if_neg (by simp), hb]))
      refine Ev.succ ?_
      simp only [merkhetref10_Of.l2]
      refine Ev.pos (by omega) (Ev.bind ho ?_)
      cases hon : onP (rawL l) i with
      | false =>
        refine off ?_ _
        unfold parAt; rw [hon]; simp
      | true =>
        -- the walk round the cycle
        have round : ∀ (n : Nat) (f : Nat) (a : Int), n < f → 0 ≤ a → a < (rawL l).length → upP (rawL l) a (n + 1) = i → (onP (rawL l) i && loL (rawL l) i (rawL l).length i) = loL (rawL l) i f a → Ev (fun k => merkhetref10_Of.l3 k l (rawL l) ((parL l).take i) (i : Int) true a) (parL l) := by
          intro n
          induction n with
          | zero =>
            intro f a hf h0 h1 hu he
            obtain ⟨f, rfl⟩ : ∃ g, f = g + 1 := ⟨f - 1, by omega⟩
            have hu2 : rd (rawL l) a = i := by simp only [upP] at hu; rw [if_pos h0] at hu; exact hu
            have hv : parAt (rawL l) i = -1 := by
              have hL : loL (rawL l) (i : Int) (f + 1) a = true := by simp only [loL]; rw [if_pos hu2]
              unfold parAt; rw [he, hL]; rfl
            refine Ev.succ ?_
            simp only [merkhetref10_Of.l3]
            refine Ev.pos trivial (Ev.pos h0 (Ev.pos h1 ?_))
            rw [hu2, bne_self_eq_false]
            exact done0 true a (by rw [if_pos rfl, hv])
          | succ n ihn =>
            intro f a hf h0 h1 hu he
            obtain ⟨f, rfl⟩ : ∃ g, f = g + 1 := ⟨f - 1, by omega⟩
            by_cases hu2 : rd (rawL l) a = i
            · have hv : parAt (rawL l) i = -1 := by
                have hL : loL (rawL l) (i : Int) (f + 1) a = true := by simp only [loL]; rw [if_pos hu2]
                unfold parAt; rw [he, hL]; rfl
              refine Ev.succ ?_
              simp only [merkhetref10_Of.l3]
              refine Ev.pos trivial (Ev.pos h0 (Ev.pos h1 ?_))
              rw [hu2, bne_self_eq_false]
              exact done0 true a (by rw [if_pos rfl, hv])
            · refine Ev.succ ?_
              simp only [merkhetref10_Of.l3]
              refine Ev.pos trivial (Ev.pos h0 (Ev.pos h1 ?_))
              rw [show (rd (rawL l) a != (i : Int)) = true from by simp [hu2]]
              refine Ev.succ ?_
              simp only [merkhetref10_Of.j4]
              refine Ev.pos trivial (Ev.pos h0 (Ev.pos h1 (Ev.ite (fun h => ?_) (fun h => ?_))))
              · refine off ?_ _
                have hL : loL (rawL l) (i : Int) (f + 1) a = false := by simp only [loL]; rw [if_neg hu2, if_pos h]
                unfold parAt; rw [he, hL]; rfl
              · have hb := inP_rd hpi a h0 h1
                refine ihn f (rd (rawL l) a) (by omega) (by omega) hb.2 ?_ ?_
                · rw [← hu]; rw [show upP (rawL l) a (n + 1 + 1) = if a ≥ 0 then upP (rawL l) (rd (rawL l) a) (n + 1) else a from rfl, if_pos h0]
                · rw [he]; simp only [loL]; rw [if_neg hu2, if_neg h]
        have hon2 := hon
        unfold onP at hon2
        obtain ⟨n, hn, hn2⟩ := List.any_eq_true.1 hon2
        exact round n (rawL l).length i (List.mem_range.1 hn) (by omega) (by omega) (of_decide_eq_true hn2) (by rw [hon]; rfl)
  have one : ∀ (d i : Nat), l.length - i = d → i ≤ l.length → Ev (fun k => merkhetref10_Of.l0 k l ((rawL l).take i) (i : Int)) (parL l) := by
    intro d
    induction d with
    | zero =>
      intro i hd hi
      refine Ev.succ ?_
      simp only [merkhetref10_Of.l0]
      rw [List.take_of_length_le (by omega)]
      exact Ev.neg (by omega) (two l.length 0 (by omega) (by omega))
    | succ d ih =>
      intro i hd hi
      have hlt : i < l.length := by omega
      have h2 := ih (i + 1) (by omega) (by omega)
      have hr : rd_T42 l (i : Int) = l[i] := by simp [rd_T42, List.getD, hlt]
      have hnext : (rawL l).take (i + 1) = (rawL l).take i ++ [scanD l (rd_T42 l (i : Int)).f2 l.length (-1)] := by
        rw [List.take_succ_eq_append_getElem (by omega), hr]
        simp [rawL]
      have scan : ∀ (j : Nat) (p : Int), j ≤ l.length → scanD l (rd_T42 l (i : Int)).f2 j p = scanD l (rd_T42 l (i : Int)).f2 l.length (-1) → Ev (fun k => merkhetref10_Of.l1 k l ((rawL l).take i) (i : Int) p ((j : Int) - 1)) (parL l) := by
        intro j
        induction j with
        | zero =>
          intro p hj he
          simp only [scanD] at he
          refine Ev.succ ?_
          simp only [merkhetref10_Of.l1]
          refine Ev.neg (by omega) (Ev.pos ?_ ?_)
          · rw [List.length_take]; omega
          · rw [he, wrap_id (by omega) (by omega), ← hnext]; exact h2
        | succ j ihj =>
          intro p hj he
          have e1 : ((j + 1 : Nat) : Int) - 1 = (j : Int) := by omega
          rw [e1]
          refine Ev.succ ?_
          simp only [merkhetref10_Of.l1]
          refine Ev.pos (by omega) (Ev.pos (by omega) (Ev.pos (by omega) ?_))
          rw [wrap_id (i := (j : Int) - 1) (by omega) (by omega)]
          simp only [scanD] at he
          by_cases hz : (rd_T42 l (i : Int)).f2 = 0
          · rw [if_neg (fun h => h.1 hz)] at he
            exact Ev.pos hz (ihj p (by omega) he)
          · refine Ev.neg hz (Ev.pos (by omega) (Ev.pos (by omega) (Ev.ite (fun h => ?_) (fun h => ?_))))
            · rw [if_pos ⟨hz, h⟩] at he
              exact ihj _ (by omega) he
            · rw [if_neg (fun h' => h h'.2)] at he
              exact ihj _ (by omega) he
      refine Ev.succ ?_
      simp only [merkhetref10_Of.l0]
      refine Ev.pos (by omega) ?_
      rw [wrap_id (by omega) (by omega)]
      exact scan l.length (-1) (by omega) rfl
  exact one l.length 0 (by omega) (by omega)
end Go.Proofs.Ytjgpggjjgimibaa.L

/- The document's pairs and edges, as plain lists. -/
namespace Go.Proofs.Ytjgpggjjgimibaa.L
open Go.RowKit Go.Proofs.Ytjgpggjjgimibaa.Q Go.Proofs.YtjgpggjjgimibaaW.PrintWords Go.Proofs.YtjgpggjjgimibaaW.PrintLast Go.Proofs.YtjgpggjjgimibaaW.PrintMore Go.Proofs.YtjgpggjjgimibaaW.Lib
set_option linter.unusedVariables false

instance (n : Nat) : DecidablePred (inP n) := fun ps => by unfold inP; infer_instance
/-- The pair of a place, if there is one. -/
def pairAt (l : List S42) (ps : List Int) (i : Int) : List S35 :=
  if 0 ≤ rd ps i ∧ (rd_T42 l i).f3 = 2 ∧ (rd_T42 l (rd ps i)).f3 = 1 ∧ mayS (rd_T42 l i) = true ∧ mayS (rd_T42 l (rd ps i)) = true then [⟨rd ps i, i⟩] else []
def pairsB (l : List S42) (ps : List Int) : List S35 :=
  if l.length = ps.length ∧ inP l.length ps then (List.range l.length).flatMap (fun i : Nat => pairAt l ps i) else []
theorem flat_le {α β : Type} (f : α → List β) (h : ∀ x, (f x).length ≤ 1) : ∀ l : List α, (l.flatMap f).length ≤ l.length
  | [] => by simp
  | x :: l => by
    have h1 := flat_le f h l
    have h2 := h x
    rw [List.flatMap_cons, List.length_append, List.length_cons]
    omega
theorem pairAt_le (l : List S42) (ps : List Int) (i : Int) : (pairAt l ps i).length ≤ 1 := by unfold pairAt; split <;> simp
theorem pairsB_length (l : List S42) (ps : List Int) : (pairsB l ps).length ≤ l.length := by
  unfold pairsB
  split
  · have := flat_le (fun i : Nat => pairAt l ps i) (fun i => pairAt_le l ps i) (List.range l.length)
    rwa [List.length_range] at this
  · simp
theorem rpairs_ev (l : List S42) (hl : l.length ≤ 1000000) (hf : ∀ s ∈ l, fitR s) (ps : List Int) (hps : ps.length ≤ 1000000) : Ev (fun k => merkhetref12_Of.f k l ps) (pairsB l ps) := by
  unfold merkhetref12_Of.f
  refine Ev.bind (a := []) (Ev.now _) ?_
  by_cases he : ¬ (l.length : Int) = (ps.length : Int)
  · refine Ev.neg he (Ev.cast (Ev.now _) ?_)
    unfold pairsB; rw [if_neg (fun h => he (by omega))]
  replace he := Decidable.not_not.1 he
  refine Ev.pos he ?_
  have hen : l.length = ps.length := by omega
  have two : inP l.length ps → ∀ (d i : Nat), l.length - i = d → i ≤ l.length → Ev (fun k => merkhetref12_Of.l1 k l ps ((List.range i).flatMap (fun i : Nat => pairAt l ps i)) (i : Int)) (pairsB l ps) := by
    intro hin d
    induction d with
    | zero =>
      intro i hd hi
      refine Ev.succ ?_
      simp only [merkhetref12_Of.l1]
      refine Ev.neg (by omega) (Ev.cast (Ev.now _) ?_)
      unfold pairsB; rw [if_pos ⟨hen, hin⟩, show i = l.length by omega]
    | succ d ih =>
      intro i hd hi
      have hlt : i < l.length := by omega
      have h2 := ih (i + 1) (by omega) (by omega)
      rw [List.range_succ, List.flatMap_append] at h2
      have hnl : ((List.range i).flatMap (fun i : Nat => pairAt l ps i)).length ≤ i := by
        have := flat_le (fun i : Nat => pairAt l ps i) (fun i => pairAt_le l ps i) (List.range i)
        rwa [List.length_range] at this
      have hri := inP_rd (ps := ps) (by rw [← hen]; exact hin) i (by omega) (by omega)
      have fin : ∀ (b : Bool), pairAt l ps i = (if b = true then [⟨rd ps i, i⟩] else []) → Ev (fun k => merkhetref12_Of.j2 k l ps ((List.range i).flatMap (fun i : Nat => pairAt l ps i)) (i : Int) (rd ps i) b) (pairsB l ps) := by
        intro b hb
        simp only [List.flatMap_cons, List.flatMap_nil, List.append_nil, hb] at h2
        refine Ev.succ ?_
        simp only [merkhetref12_Of.j2]
        rw [wrap_id (by omega) (by omega)]
        cases b with
        | true => exact Ev.pos rfl (Ev.pos (by omega) h2)
        | false =>
          refine Ev.neg (by simp) ?_
          simp only [Bool.false_eq_true, if_false, List.append_nil] at h2
          exact h2
      have no : pairAt l ps i = [] → Ev (fun k => merkhetref12_Of.j2 k l ps ((List.range i).flatMap (fun i : Nat => pairAt l ps i)) (i : Int) (rd ps i) false) (pairsB l ps) := fun h => fin false (by rw [h]; rfl)
      have hmi : rd_T42 l (i : Int) ∈ l := by
        rw [show rd_T42 l (i : Int) = l[i] by simp [rd_T42, List.getD, hlt]]
        exact List.getElem_mem _
      refine Ev.succ ?_
      simp only [merkhetref12_Of.l1]
      refine Ev.pos (by omega) (Ev.pos (by omega) (Ev.pos (by omega) (Ev.ite (fun c1 => Ev.ite (fun c2 => Ev.pos c1 (Ev.pos (by omega) (Ev.ite (fun c3 => ?_) (fun c3 => no ?_)))) (fun c2 => no ?_)) (fun c1 => no ?_))))
      · have hmp : rd_T42 l (rd ps i) ∈ l := by
          have hx : (rd ps i).toNat < l.length := by omega
          rw [show rd_T42 l (rd ps i) = l[(rd ps i).toNat] by simp [rd_T42, List.getD, hx]]
          exact List.getElem_mem _
        refine Ev.bind (rmayS_ev _ (hf _ hmi)) (Ev.ite (fun c4 => Ev.bind (rmayS_ev _ (hf _ hmp)) (fin _ ?_)) (fun c4 => no ?_))
        · unfold pairAt
          by_cases c5 : mayS (rd_T42 l (rd ps i)) = true
          · rw [if_pos ⟨c1, c2, c3, c4, c5⟩, if_pos c5]
          · rw [if_neg (fun h => c5 h.2.2.2.2), if_neg c5]
        · unfold pairAt; rw [if_neg (fun h => c4 h.2.2.2.1)]
      · unfold pairAt; rw [if_neg (fun h => c3 h.2.2.1)]
      · unfold pairAt; rw [if_neg (fun h => c2 h.2.1)]
      · unfold pairAt; rw [if_neg (fun h => c1 h.1)]
  have one : ∀ (d i : Nat), l.length - i = d → i ≤ l.length → (∀ x ∈ ps.take i, -1 ≤ x ∧ x < (l.length : Int)) → Ev (fun k => merkhetref12_Of.l0 k l ps [] (i : Int)) (pairsB l ps) := by
    intro d
    induction d with
    | zero =>
      intro i hd hi hin
      rw [List.take_of_length_le (by omega)] at hin
      refine Ev.succ ?_
      simp only [merkhetref12_Of.l0]
      exact Ev.neg (by omega) (two hin l.length 0 (by omega) (by omega))
    | succ d ih =>
      intro i hd hi hin
      have hlt : i < ps.length := by omega
      have hr : rd ps (i : Int) = ps[i] := by simp [rd, List.getD, hlt]
      have bad : ¬ (-1 ≤ ps[i] ∧ ps[i] < (l.length : Int)) → pairsB l ps = [] := by
        intro h
        unfold pairsB
        rw [if_neg (fun h2 => h (h2.2 _ (List.getElem_mem hlt)))]
      refine Ev.succ ?_
      simp only [merkhetref12_Of.l0, hr]
      refine Ev.pos (by omega) (Ev.pos (by omega) (Ev.pos (by omega) (Ev.ite (fun c1 => ?_) (fun c1 => Ev.ite (fun c2 => ?_) (fun c2 => ?_)))))
      · rw [bad (by omega)]; exact Ev.now _
      · rw [bad (by omega)]; exact Ev.now _
      · rw [wrap_id (by omega) (by omega)]
        refine ih (i + 1) (by omega) (by omega) ?_
        intro x hx
        rw [List.take_succ_eq_append_getElem hlt] at hx
        rcases List.mem_append.1 hx with h | h
        · exact hin x h
        · rw [List.mem_singleton.1 h]; omega
  exact one l.length 0 (by omega) (by omega) (by simp)
end Go.Proofs.Ytjgpggjjgimibaa.L

/- rpc.Of: the pairs. -/
namespace Go.Proofs.Ytjgpggjjgimibaa.L
open Go.RowKit Go.Proofs.Ytjgpggjjgimibaa.Q Go.Proofs.YtjgpggjjgimibaaW.PrintWords Go.Proofs.YtjgpggjjgimibaaW.PrintLast Go.Proofs.YtjgpggjjgimibaaW.PrintMore Go.Proofs.YtjgpggjjgimibaaW.MapB Go.Proofs.YtjgpggjjgimibaaW.Lib
set_option linter.unusedVariables false
set_option linter.unusedSimpArgs false
theorem pairs_next (l : List S42) (ps : List Int) (x : Int) (h0 : 0 ≤ x) : (List.range (x + 1).toNat).flatMap (fun i : Nat => pairAt l ps i) = (List.range x.toNat).flatMap (fun i : Nat => pairAt l ps i) ++ pairAt l ps x := by
  rw [show (x + 1).toNat = x.toNat + 1 by omega, List.range_succ, List.flatMap_append]
  simp [show max x 0 = x by omega]
theorem pairs_le (l : List S42) (ps : List Int) (n : Nat) : ((List.range n).flatMap (fun i : Nat => pairAt l ps i)).length ≤ n := by
  have := flat_le (fun i : Nat => pairAt l ps i) (fun i => pairAt_le l ps i) (List.range n)
  rwa [List.length_range] at this
set_option maxHeartbeats 8000000 in
set_option maxRecDepth 100000 in
theorem rpc_calls (l : List S42) (hl : l.length ≤ 1000000) (hf : ∀ s ∈ l, fitS s) (ps : List Int) (hps : ps.length ≤ 1000000) (A0 A1 : Option Addr) (c0 c1_ : Nat) (w : World) (hr0 : Kd.C k42 w A0 l.length l) (hr1 : Kd.C (Kd.int .i64) w A1 ps.length ps) :
    Calls Try.prog 50 #[.slice A0 l.length c0, .slice A1 ps.length c1_] w fun e w' => ∃ v : Value, e = .returned v ∧ Kd.R k35 35 w' w.heap.size (fun _ => True) v (pairsB l ps) ∧ Below w.heap.size w w' := by
  have HB0 := Aside0.mk (Below.refl w.heap.size w)
  by_cases he : ¬ (ps.length = l.length)
  · have hv : pairsB l ps = [] := by unfold pairsB; rw [if_neg (fun h => he h.1.symm)]
    rw [hv]
    have b1 : (((ps.length : Nat) : Int) != ((l.length : Nat) : Int)) = true := by rw [bne_iff_ne]; omega
    clear hr0 hr1 hf hv he
    go_enter Try.func50, Try.ntmps50
    go_wp2_with fail
    go_ret
    exact ⟨_, rfl, Kd.R_nil _ _ _ _ _, HB0.out⟩
  replace he := Decidable.not_not.1 he
  have b1 : (((ps.length : Nat) : Int) != ((l.length : Nat) : Int)) = false := by rw [he]; simp
  have HEq := Aside0.mk he
  have HR0 := Aside0.mk hr0
  have HR1 := Aside0.mk hr1
  have HL := Aside0.mk hl
  have QF := Aside0.mk (fun (i : Int) (B : Nat) (W : World) (hb : Below w.heap.size w W) hc => found_calls mayS l (mayS_ev l hf) i A0 c0 B W (Kd.C_below hr0 hb) hc)
  clear hr0 hr1 hf he hl
  go_enter Try.func50, Try.ntmps50
  go_wp2_with fail
  go_loopg [22] ps.length (fun kq v22 w' => ∃ x22 : Int, v22 = .int .i64 x22 ∧ Aside0 (0 ≤ x22 ∧ x22 + kq = ps.length) ∧ Aside0 (∀ o ∈ ps.take x22.toNat, -1 ≤ o ∧ o < (l.length : Int)) ∧ Aside0 (Below w.heap.size w w'))
  case atStart => exact ⟨0, rfl, ⟨by omega, by omega⟩, ⟨by simp⟩, HB0⟩
  case round =>
    obtain ⟨x22, rfl, HK, HO, HB⟩ := hrel
    by_cases c1 : x22 < (ps.length : Int)
    · have c1b := decide_eq_true c1
      have p1 : 0 ≤ x22 := HK.out.1
      obtain ⟨ad, e1, hx⟩ := Kd.at_int HR1.out x22 p1 c1
      cases e1
      replace hx := (HB.out.cell (World.block_lt_of_cell? w _ hx)).trans hx
      have hit : x22.toNat < ps.length := by omega
      have hev : rd ps x22 = ps[x22.toNat] := by simp [rd, List.getD, hit]
      have HM := Aside0.mk (show rd ps x22 ∈ ps by rw [hev]; exact List.getElem_mem _)
      have HNx := Aside0.mk (show ps.take (x22 + 1).toNat = ps.take x22.toNat ++ [rd ps x22] from by
        rw [show (x22 + 1).toNat = x22.toNat + 1 by omega, List.take_succ_eq_append_getElem hit, hev])
      have P1 := Aside0.mk p1
      have Q1 := Aside0.mk c1
      have W1 := Aside0.mk (show wrap64 (x22 + 1) = x22 + 1 from by unfold wrap64; have := HL.out; have := HEq.out; have := P1.out; have := Q1.out; omega)
      clear hit hev
      generalize rd ps x22 = o at *
      replace p1 := eq_true p1
      replace c1 := eq_true c1
      obtain ⟨k1, rfl⟩ : ∃ k1, gk = k1 + 1 := ⟨gk - 1, by have := HK.out; have := Q1.out; omega⟩
      have bad : ¬ (-1 ≤ o ∧ o < (l.length : Int)) → pairsB l ps = [] := by
        intro h
        unfold pairsB
        rw [if_neg (fun h2 => h (h2.2 _ HM.out))]
      by_cases d1 : o < -1
      · have d1b := decide_eq_true d1
        have HBd := Aside0.mk (bad (by omega))
        clear d1 bad
        go_wp2_with fail
        go_ret
        exact ⟨_, rfl, by rw [HBd.out]; exact Kd.R_nil _ _ _ _ _, HB.out⟩
      by_cases d2 : (l.length : Int) ≤ o
      · have d1b := decide_eq_false d1
        have d2b := decide_eq_true d2
        have HBd := Aside0.mk (bad (by omega))
        clear d1 d2 bad
        go_wp2_with fail
        go_ret
        exact ⟨_, rfl, by rw [HBd.out]; exact Kd.R_nil _ _ _ _ _, HB.out⟩
      have d1b := decide_eq_false d1
      have d2b := decide_eq_false d2
      have HOo := Aside0.mk (show -1 ≤ o ∧ o < (l.length : Int) from ⟨by omega, by omega⟩)
      clear d1 d2 bad
      go_wp2_with fail
      go_roundg k1
      case measure => omega
      case rel => exact ⟨x22 + 1, by rw [W1.out], ⟨by have := P1.out; omega, by have := HK.out; omega⟩, ⟨by
        rw [HNx.out]
        intro y hy
        rcases List.mem_append.1 hy with h | h
        · exact HO.out y h
        · rw [List.mem_singleton.1 h]; exact HOo.out⟩, HB⟩
    · have c1b := decide_eq_false c1
      have hx : x22.toNat = ps.length := by have := HK.out; omega
      have ha := HO.out
      rw [hx, List.take_length] at ha
      have HV := Aside0.mk (show pairsB l ps = (List.range l.length).flatMap (fun i : Nat => pairAt l ps i) from by unfold pairsB; rw [if_pos ⟨HEq.out.symm, ha⟩])
      have HIn := Aside0.mk ha
      clear c1 hx ha HO HK
      go_wp2_with (go_at_call 56; refine (finder_calls A0 _ c0 _).mono ?_; rintro e w1 ⟨B, rfl, hcl, hb⟩; have HB1 := Aside0.mk (below_step HB.out hb); have HC1 := Aside0.mk hcl; clear hb hcl)
      go_loopg [8, 39] ps.length (fun kq v8 v39 w' => ∃ x39 : Int, v39 = .int .i64 x39 ∧ Aside0 (0 ≤ x39 ∧ x39 + kq = ps.length) ∧ Aside0 (Kd.R k35 35 w' w.heap.size (fun k => k ≠ B) v8 ((List.range x39.toNat).flatMap (fun i : Nat => pairAt l ps i))) ∧ Aside0 (w'.cell? ⟨B, 0, none⟩ = some (.slice A0 l.length c0)) ∧ Aside0 (Below w.heap.size w w'))
      case atStart => exact ⟨0, rfl, ⟨by omega, by omega⟩, ⟨Kd.R_nil _ _ _ _ _⟩, HC1, HB1⟩
      case round =>
        clear HC1 HB1 HB
        obtain ⟨x39, rfl, HK, HO, HC, HB⟩ := hrel
        by_cases c1 : x39 < (ps.length : Int)
        · have c2b := decide_eq_true c1
          have p1 : 0 ≤ x39 := HK.out.1
          obtain ⟨ad, e1, hx⟩ := Kd.at_int HR1.out x39 p1 c1
          cases e1
          replace hx := (HB.out.cell (World.block_lt_of_cell? w _ hx)).trans hx
          have hri := inP_rd (ps := ps) (by rw [HEq.out]; exact HIn.out) x39 p1 c1
          have HNx := Aside0.mk (pairs_next l ps x39 p1)
          have HLe := Aside0.mk (pairs_le l ps x39.toNat)
          have hX : findS mayS l x39 = if mayS (rd_T42 l x39) = true then (rd_T42 l x39, true) else (z42, false) := by
            unfold findS
            by_cases hm : mayS (rd_T42 l x39) = true
            · rw [if_pos ⟨p1, by rw [HEq.out] at c1; exact c1, hm⟩, if_pos hm]
            · rw [if_neg (fun h => hm h.2.2), if_neg hm]
          have hY : findS mayS l (rd ps x39) = if 0 ≤ rd ps x39 ∧ mayS (rd_T42 l (rd ps x39)) = true then (rd_T42 l (rd ps x39), true) else (z42, false) := by
            unfold findS
            rw [HEq.out] at hri
            by_cases hm : 0 ≤ rd ps x39 ∧ mayS (rd_T42 l (rd ps x39)) = true
            · rw [if_pos ⟨hm.1, hri.2, hm.2⟩, if_pos hm]
            · rw [if_neg (fun h => hm ⟨h.1, h.2.2⟩), if_neg hm]
          have HPA := Aside0.mk (show pairAt l ps x39 = if (findS mayS l x39).2 = true ∧ (findS mayS l (rd ps x39)).2 = true ∧ (findS mayS l x39).1.f3 = 2 ∧ (findS mayS l (rd ps x39)).1.f3 = 1 then [⟨rd ps x39, x39⟩] else [] from by
            unfold pairAt
            rw [hX, hY]
            by_cases h1 : mayS (rd_T42 l x39) = true
            · rw [if_pos h1]
              by_cases h2 : 0 ≤ rd ps x39 ∧ mayS (rd_T42 l (rd ps x39)) = true
              · rw [if_pos h2]
                simp only [h1, h2, true_and, and_true]
              · rw [if_neg h2, if_neg (fun h => h2 ⟨h.1, h.2.2.2.2⟩), if_neg (fun h => by cases h.2.1)]
            · rw [if_neg h1, if_neg (fun h => h1 h.2.2.2.1), if_neg (fun h => by cases h.1)])
          have QX := Aside0.mk (QF.out x39)
          have QY := Aside0.mk (QF.out (rd ps x39))
          have P1 := Aside0.mk p1
          have Q1 := Aside0.mk c1
          have W1 := Aside0.mk (show wrap64 (x39 + 1) = x39 + 1 from by unfold wrap64; have := HL.out; have := HEq.out; have := P1.out; have := Q1.out; omega)
          clear hX hY hri
          generalize findS mayS l x39 = X at *
          generalize findS mayS l (rd ps x39) = Y at *
          generalize rd ps x39 = p at *
          obtain ⟨x, bx⟩ := X
          obtain ⟨y, bY⟩ := Y
          dsimp only at *
          generalize hac : (List.range x39.toNat).flatMap (fun i : Nat => pairAt l ps i) = acc at *
          clear hac
          replace p1 := eq_true p1
          replace c1 := eq_true c1
          obtain ⟨k1, rfl⟩ : ∃ k1, gk = k1 + 1 := ⟨gk - 1, by have := HK.out; have := Q1.out; omega⟩
          have fin : ∀ (b1 b2 b3 b4 : Bool), bx = b1 → bY = b2 → ((x.f3 : Int) == 2) = b3 → ((y.f3 : Int) == 1) = b4 → (b1 && (b2 && (b3 && b4))) = decide (bx = true ∧ bY = true ∧ x.f3 = 2 ∧ y.f3 = 1) := by
            intro b1 b2 b3 b4 e1 e2 e3 e4
            subst e1 e2 e3 e4
            rw [Bool.eq_iff_iff]
            simp
          obtain ⟨b3, h3⟩ : ∃ b3, ((x.f3 : Int) == 2) = b3 := ⟨_, rfl⟩
          obtain ⟨b4, h4⟩ : ∃ b4, ((y.f3 : Int) == 1) = b4 := ⟨_, rfl⟩
          have hfin := fin bx bY b3 b4 rfl rfl h3 h4
          have HPB := Aside0.mk (show pairAt l ps x39 = if (bx && (bY && (b3 && b4))) = true then [⟨p, x39⟩] else [] from by
            rw [HPA.out, hfin]
            by_cases h : bx = true ∧ bY = true ∧ x.f3 = 2 ∧ y.f3 = 1
            · rw [if_pos h, decide_eq_true h]; rfl
            · rw [if_neg h, decide_eq_false h]; rfl)
          clear HPA fin hfin
          cases bx <;> cases bY <;> cases b3 <;> cases b4
          all_goals
            go_wp2_with (first
              | (go_at_call 70; (with_reducible refine (QX.out B wr HB.out HC.out).mono ?_); rintro e w2 ⟨rfl, hb⟩; have HB2 := Aside0.mk (below_step HB.out hb); have HC2 := Aside0.mk ((hb.cell (World.block_lt_of_cell? _ _ HC.out)).trans HC.out); have HO2 := Aside0.mk (Kd.R_below HO.out hb); clear hb QX)
              | (go_at_call 70; (with_reducible refine (QY.out B _ (below_alloc HB2.out _) (((below_alloc (Below.refl w2.heap.size w2) _).cell (World.block_lt_of_cell? w2 _ HC2.out)).trans HC2.out)).mono ?_); rintro e w3 ⟨rfl, hb⟩; have HB3 := Aside0.mk (below_step (below_alloc HB2.out _) hb); have HC3 := Aside0.mk ((hb.cell (World.block_lt_of_cell? _ _ (((below_alloc (Below.refl w2.heap.size w2) (.cells #[.int .u64 x.f0, .int .u64 x.f1, .int .u64 x.f2, .int .u8 x.f3, .string x.f4, .string x.f5, .int .i64 x.f6, .int .i64 x.f7] 42)).cell (World.block_lt_of_cell? w2 _ HC2.out)).trans HC2.out))).trans (((below_alloc (Below.refl w2.heap.size w2) (.cells #[.int .u64 x.f0, .int .u64 x.f1, .int .u64 x.f2, .int .u8 x.f3, .string x.f4, .string x.f5, .int .i64 x.f6, .int .i64 x.f7] 42)).cell (World.block_lt_of_cell? w2 _ HC2.out)).trans HC2.out)); have HO3 := Aside0.mk (Kd.R_below (Kd.R_alloc HO2.out _) hb); have bx3 := (hb.block w2.heap.size (by simp)).trans (MapKept.heap_alloc w2 _).1; have j3 : w3.cell? ⟨w2.heap.size, 3, none⟩ = some (.int .u8 x.f3) := (blk_cell bx3 3).trans rfl; have i3 := fun o => ((below_alloc (Below.refl w3.heap.size w3) o).cell (World.block_lt_of_cell? w3 _ j3)).trans j3; clear hb bx3 QY)
              | ((with_reducible refine gate_builtin (b := .append) (xs := #[.tmp 70, .tmp 74]) rfl ?_); at_builtin; refine Kd.R_append k35 (w0 := w) w.heap.size rfl (.tmp 70) (.tmp 74) 23 35 (.agg #[.int .i64 0, .int .i64 0]) 16 rfl Try.underlying23 (by kernel_rfl) rfl (by decide) (by omega) u8 acc ⟨p, x39⟩ [.int .i64 p, .int .i64 x39] (fun k => k ≠ B) (fun _ => False) rfl ?aX ?aP (fun _ hk => hk.elim) ?aF ?aO ?aB ?aS ?aL ?_; (case aX => first | rfl | (go_simp; done) | (simp; done)); (case aP => exact k35_mkM _ _ _ ⟨p, x39⟩); (case aB => exact below_alloc HB3.out _); (case aF => exact (fun k hk h => by have h1 : B < w3.heap.size := World.block_lt_of_cell? w3 _ HC3.out; have h2 : w3.heap.size ≤ k := Nat.le_trans (by simp) hk; omega)); (case aO => exact Kd.R_alloc HO3.out _); (case aS => exact (below_alloc HB3.out _).size); (case aL => have := HLe.out; have := HL.out; have := HEq.out; have := Q1.out; omega); intro v4 w4 ho hb hg hat; have HO4 := Aside0.mk ho; have HB4 := Aside0.mk hb; have HC4 := Aside0.mk (show w4.cell? ⟨B, 0, none⟩ = some (.slice A0 l.length c0) from hg.cell (((below_alloc (Below.refl w3.heap.size w3) _).cell (World.block_lt_of_cell? w3 _ HC3.out)).trans HC3.out) (fun h => HO3.out.1 B h.symm rfl)); clear ho hb hg hat))
            go_roundg k1
            case measure => omega
            case rel => exact ⟨x39 + 1, by rw [W1.out], ⟨by have := P1.out; omega, by have := HK.out; omega⟩, ⟨by rw [HNx.out, HPB.out]; first | exact HO4.out | exact (List.append_nil acc).symm ▸ Kd.R_alloc HO3.out _⟩, by first | exact HC4 | exact ⟨((below_alloc (Below.refl w3.heap.size w3) _).cell (World.block_lt_of_cell? w3 _ HC3.out)).trans HC3.out⟩, by first | exact HB4 | exact ⟨below_alloc HB3.out _⟩⟩
        · have c2b := decide_eq_false c1
          have hx : x39.toNat = l.length := by have := HK.out; have := HEq.out; omega
          have ho := HO.out
          rw [hx] at ho
          have HO2 := Aside0.mk ho
          clear ho hx c1
          go_wp2_with fail
          go_ret
          exact ⟨_, rfl, by rw [HV.out]; exact Kd.R_mono HO2.out (fun _ _ => trivial), HB.out⟩
end Go.Proofs.Ytjgpggjjgimibaa.L

/- shift.may: whether all spans may be. -/
namespace Go.Proofs.Ytjgpggjjgimibaa.L
open Go.RowKit Go.Proofs.Ytjgpggjjgimibaa.Q Go.Proofs.YtjgpggjjgimibaaW.PrintWords Go.Proofs.YtjgpggjjgimibaaW.PrintLast Go.Proofs.YtjgpggjjgimibaaW.PrintMore Go.Proofs.YtjgpggjjgimibaaW.MapB Go.Proofs.YtjgpggjjgimibaaW.Lib
set_option linter.unusedVariables false
set_option linter.unusedSimpArgs false
theorem mayS_calls (s : S42) (h : fitS s) (w : World) : Calls Try.prog 63 #[.agg #[.int .u64 s.f0, .int .u64 s.f1, .int .u64 s.f2, .int .u8 s.f3, .string s.f4, .string s.f5, .int .i64 s.f6, .int .i64 s.f7]] w fun e w' => e = .returned (.bool (mayS s)) ∧ Below w.heap.size w w' := by
  obtain ⟨k, hk⟩ := Ev.rounds (may_ev s.f0 s.f1 s.f2 s.f3 s.f4 s.f5 s.f6 s.f7 h.2.1 h.2.2)
  exact span_May.calls k _ _ _ _ _ _ _ _ _ w hk
set_option maxRecDepth 100000 in
theorem notmay_calls (s : S42) (h : fitS s) (w : World) : Calls Try.prog 62 #[.agg #[.int .u64 s.f0, .int .u64 s.f1, .int .u64 s.f2, .int .u8 s.f3, .string s.f4, .string s.f5, .int .i64 s.f6, .int .i64 s.f7]] w fun e w' => e = .returned (.bool (!mayS s)) ∧ Below w.heap.size w w' := by
  have HB := Aside0.mk (Below.refl w.heap.size w)
  have QM := Aside0.mk (mayS_calls s h)
  clear h
  go_enter Try.func62, Try.ntmps62
  go_wp2_with (go_at_call 63; refine (QM.out _).mono ?_; rintro e w1 ⟨rfl, hb⟩; have HB1 := Aside0.mk (below_step (below_alloc HB.out _) hb); clear hb)
  go_ret
  exact ⟨rfl, HB1.out⟩
set_option maxHeartbeats 4000000 in
set_option maxRecDepth 100000 in
theorem may_index  (es : List S42) (hn : es.length ≤ 1000000000) (A0 : Option Addr) (c0 : Nat) (w : World) (hr0 : Kd.C k42 w A0 es.length es)
    (QL0 : ∀ e ∈ es, ∀ W, Below w.heap.size w W → Calls Try.prog 62 #[.agg #[.int .u64 e.f0, .int .u64 e.f1, .int .u64 e.f2, .int .u8 e.f3, .string e.f4, .string e.f5, .int .i64 e.f6, .int .i64 e.f7]] W fun r w' => r = .returned (.bool ((fun s => !mayS s) e)) ∧ Below W.heap.size W w') :
    Calls Try.prog 71 #[.slice A0 es.length c0, .func (.func 62) #[] #[]] w fun r w' => ∃ i : Int, r = .returned (.int .i64 i) ∧ decide (0 ≤ i) = es.any (fun s => !mayS s) ∧ Below w.heap.size w w' := by
  have HB0 := Aside0.mk (Below.refl w.heap.size w)
  have HR0 := Aside0.mk hr0
  have HN := Aside0.mk hn
  have QL := Aside0.mk QL0
  clear hr0 hn QL0
  generalize hpp : (fun s => !mayS s) = pp at *
  clear hpp
  go_enter Try.func71, Try.ntmps71
  go_wp2_with fail
  go_loopg [8] es.length (fun kq v8 w' => ∃ x8 : Int, v8 = .int .i64 x8 ∧ Aside0 (0 ≤ x8 ∧ x8 + kq = es.length) ∧ Aside0 (∀ e ∈ es.take x8.toNat, pp e = false) ∧ Aside0 (Below w.heap.size w w'))
  case atStart => exact ⟨0, rfl, ⟨by omega, by omega⟩, ⟨by simp⟩, HB0⟩
  case round =>
    obtain ⟨x8, rfl, HK, HA, HB⟩ := hrel
    by_cases c1 : x8 < (es.length : Int)
    · have c1b := decide_eq_true c1
      have p1 : 0 ≤ x8 := HK.out.1
      obtain ⟨ad, e1, hx0, hx1, hx2, hx3, hx4, hx5, hx6, hx7⟩ := at_T42 HR0.out x8 p1 c1
      cases e1
      replace hx0 := (HB.out.cell (World.block_lt_of_cell? w _ hx0)).trans hx0
      replace hx1 := (HB.out.cell (World.block_lt_of_cell? w _ hx1)).trans hx1
      replace hx2 := (HB.out.cell (World.block_lt_of_cell? w _ hx2)).trans hx2
      replace hx3 := (HB.out.cell (World.block_lt_of_cell? w _ hx3)).trans hx3
      replace hx4 := (HB.out.cell (World.block_lt_of_cell? w _ hx4)).trans hx4
      replace hx5 := (HB.out.cell (World.block_lt_of_cell? w _ hx5)).trans hx5
      replace hx6 := (HB.out.cell (World.block_lt_of_cell? w _ hx6)).trans hx6
      replace hx7 := (HB.out.cell (World.block_lt_of_cell? w _ hx7)).trans hx7
      have hit : x8.toNat < es.length := by omega
      have hev : rd_T42 es x8 = es[x8.toNat] := by simp [rd_T42, List.getD, hit]
      have hem : rd_T42 es x8 ∈ es := by rw [hev]; exact List.getElem_mem _
      have HE := Aside0.mk (show es.take (x8 + 1).toNat = es.take x8.toNat ++ [rd_T42 es x8] from by
        rw [show (x8 + 1).toNat = x8.toNat + 1 by omega, List.take_succ_eq_append_getElem hit, hev])
      have QE := Aside0.mk (QL.out _ hem wr HB.out)
      have HM := Aside0.mk hem
      have P1 := Aside0.mk p1
      have Q1 := Aside0.mk c1
      have W1 := Aside0.mk (show wrap64 (x8 + 1) = x8 + 1 from by unfold wrap64; have := HN.out; have := P1.out; have := Q1.out; omega)
      clear hev hem hit
      generalize rd_T42 es x8 = e at *
      replace p1 := eq_true p1
      replace c1 := eq_true c1
      obtain ⟨k1, rfl⟩ : ∃ k1, gk = k1 + 1 := ⟨gk - 1, by have := HK.out; have := Q1.out; omega⟩
      cases hq : pp e with
      | false =>
        rw [hq] at QE
        have HQ := Aside0.mk hq
        clear hq
        go_wp2_with (go_at_call 62; refine QE.out.mono ?_; rintro r w1 ⟨rfl, hb⟩; have HB1 := Aside0.mk (below_step HB.out hb); clear hb)
        go_roundg k1
        case measure => omega
        case rel => exact ⟨x8 + 1, by rw [W1.out], ⟨by have := P1.out; omega, by have := HK.out; omega⟩, ⟨by
          rw [HE.out]
          intro y hy
          rcases List.mem_append.1 hy with h | h
          · exact HA.out y h
          · rw [List.mem_singleton.1 h]; exact HQ.out⟩, HB1⟩
      | true =>
        rw [hq] at QE
        have HQ := Aside0.mk hq
        clear hq
        go_wp2_with (go_at_call 62; refine QE.out.mono ?_; rintro r w1 ⟨rfl, hb⟩; have HB1 := Aside0.mk (below_step HB.out hb); clear hb)
        go_ret
        refine ⟨x8, rfl, ?_, HB1.out⟩
        rw [decide_eq_true P1.out]
        exact (List.any_eq_true.2 ⟨e, HM.out, HQ.out⟩).symm
    · have c1b := decide_eq_false c1
      have hx : x8.toNat = es.length := by have := HK.out; omega
      have ha := HA.out
      rw [hx, List.take_length] at ha
      have HAll := Aside0.mk ha
      clear ha hx c1
      go_wp2_with fail
      go_ret
      refine ⟨-1, rfl, ?_, HB.out⟩
      exact (List.any_eq_false.2 (fun e he => by rw [HAll.out e he]; simp)).symm
set_option maxHeartbeats 2000000 in
set_option maxRecDepth 100000 in
theorem may_contains  (es : List S42) (hn : es.length ≤ 1000000000) (A0 : Option Addr) (c0 : Nat) (w : World) (hr0 : Kd.C k42 w A0 es.length es)
    (QL0 : ∀ e ∈ es, ∀ W, Below w.heap.size w W → Calls Try.prog 62 #[.agg #[.int .u64 e.f0, .int .u64 e.f1, .int .u64 e.f2, .int .u8 e.f3, .string e.f4, .string e.f5, .int .i64 e.f6, .int .i64 e.f7]] W fun r w' => r = .returned (.bool ((fun s => !mayS s) e)) ∧ Below W.heap.size W w') :
    Calls Try.prog 61 #[.slice A0 es.length c0, .func (.func 62) #[] #[]] w fun r w' => r = .returned (.bool (es.any (fun s => !mayS s))) ∧ Below w.heap.size w w' := by
  have HB0 := Aside0.mk (Below.refl w.heap.size w)
  have QI := Aside0.mk (may_index  es hn A0 c0 w hr0 QL0)
  clear hn hr0 QL0
  go_enter Try.func61, Try.ntmps61
  go_wp2_with (go_at_call 71; refine QI.out.mono ?_; rintro r w1 ⟨i, rfl, hd, hb⟩; have HD := Aside0.mk hd; have HB2 := Aside0.mk hb; clear hb hd)
  go_ret
  refine ⟨?_, HB2.out⟩
  rw [← HD.out]
  rfl
def mayA (l : List S42) : Bool := l.all mayS
theorem not_any (l : List S42) : (!l.any (fun s => !mayS s)) = l.all mayS := by
  induction l with
  | nil => rfl
  | cons x l ih => rw [List.any_cons, List.all_cons, Bool.not_or, ih, Bool.not_not]
theorem smay_calls (l : List S42) (hf : ∀ s ∈ l, fitS s) (hn : l.length ≤ 1000000000) (A0 : Option Addr) (c0 : Nat) (w : World) (hr0 : Kd.C k42 w A0 l.length l) :
    Calls Try.prog 44 #[.slice A0 l.length c0] w fun e w' => e = .returned (.bool (mayA l)) ∧ Below w.heap.size w w' := by
  have QC := Aside0.mk (may_contains l hn A0 c0 w hr0 (fun e he W hb => notmay_calls e (hf e he) W))
  clear hf hn hr0
  go_enter Try.func44, Try.ntmps44
  go_wp2_with (go_at_call 61; refine QC.out.mono ?_; rintro e w1 ⟨rfl, hb⟩; have HB1 := Aside0.mk hb; clear hb)
  go_ret
  refine ⟨?_, HB1.out⟩
  rw [show mayA l = (!l.any (fun s => !mayS s)) from (not_any l).symm]
  rfl
end Go.Proofs.Ytjgpggjjgimibaa.L

/- shift.Starts: the walk. -/
namespace Go.Proofs.Ytjgpggjjgimibaa.L
open Go.RowKit Go.Proofs.Ytjgpggjjgimibaa.Q Go.Proofs.YtjgpggjjgimibaaW.PrintWords Go.Proofs.YtjgpggjjgimibaaW.PrintLast Go.Proofs.YtjgpggjjgimibaaW.PrintMore Go.Proofs.YtjgpggjjgimibaaW.MapB Go.Proofs.YtjgpggjjgimibaaW.Lib
set_option linter.unusedVariables false
set_option linter.unusedSimpArgs false
theorem keep1s {w : World} {a : Addr} {v : Value} {o1 : Obj} (h : w.cell? a = some v) : (w.alloc o1).cell? a = some v :=
  ((below_alloc (Below.refl w.heap.size w) o1).cell (World.block_lt_of_cell? w _ h)).trans h
/-- How far an offset may be from 0. -/
def beyondB (o : Int) : Bool := decide (288230376151711744 < o) || decide (o < -288230376151711744)
theorem beyond_calls (o : Int) (w : World) : Calls Try.prog 43 #[.int .i64 o] w fun e w' => e = .returned (.bool (beyondB o)) ∧ Below w.heap.size w w' := by
  have HB := Aside0.mk (Below.refl w.heap.size w)
  by_cases c1 : 288230376151711744 < o
  · have c1b := decide_eq_true c1
    have hv := Aside0.mk (show beyondB o = true from by unfold beyondB; rw [c1b]; rfl)
    clear c1
    go_enter Try.func43, Try.ntmps43
    go_wp2_with fail
    go_ret
    exact ⟨by rw [hv.out]; rfl, HB.out⟩
  by_cases c2 : o < -288230376151711744
  · have c1b := decide_eq_false c1
    have c2b := decide_eq_true c2
    have hv := Aside0.mk (show beyondB o = true from by unfold beyondB; rw [c1b, c2b]; rfl)
    clear c1 c2
    go_enter Try.func43, Try.ntmps43
    go_wp2_with fail
    go_ret
    exact ⟨by rw [hv.out]; rfl, HB.out⟩
  have c1b := decide_eq_false c1
  have c2b := decide_eq_false c2
  have hv := Aside0.mk (show beyondB o = false from by unfold beyondB; rw [c1b, c2b]; rfl)
  clear c1 c2
  go_enter Try.func43, Try.ntmps43
  go_wp2_with fail
  go_ret
  exact ⟨by rw [hv.out]; rfl, HB.out⟩
set_option maxHeartbeats 4000000 in
set_option maxRecDepth 100000 in
theorem beyond_index  (es : List Int) (hn : es.length ≤ 1000000000) (A0 : Option Addr) (c0 : Nat) (w : World) (hr0 : Kd.C (Kd.int .i64) w A0 es.length es)
    (QL0 : ∀ e ∈ es, ∀ W, Below w.heap.size w W → Calls Try.prog 43 #[.int .i64 e] W fun r w' => r = .returned (.bool (beyondB e)) ∧ Below W.heap.size W w') :
    Calls Try.prog 66 #[.slice A0 es.length c0, .func (.func 43) #[] #[]] w fun r w' => ∃ i : Int, r = .returned (.int .i64 i) ∧ decide (0 ≤ i) = es.any beyondB ∧ Below w.heap.size w w' := by
  have HB0 := Aside0.mk (Below.refl w.heap.size w)
  have HR0 := Aside0.mk hr0
  have HN := Aside0.mk hn
  have QL := Aside0.mk QL0
  clear hr0 hn QL0
  generalize hpp : beyondB = pp at *
  clear hpp
  go_enter Try.func66, Try.ntmps66
  go_wp2_with fail
  go_loopg [8] es.length (fun kq v8 w' => ∃ x8 : Int, v8 = .int .i64 x8 ∧ Aside0 (0 ≤ x8 ∧ x8 + kq = es.length) ∧ Aside0 (∀ e ∈ es.take x8.toNat, pp e = false) ∧ Aside0 (Below w.heap.size w w'))
  case atStart => exact ⟨0, rfl, ⟨by omega, by omega⟩, ⟨by simp⟩, HB0⟩
  case round =>
    obtain ⟨x8, rfl, HK, HA, HB⟩ := hrel
    by_cases c1 : x8 < (es.length : Int)
    · have c1b := decide_eq_true c1
      have p1 : 0 ≤ x8 := HK.out.1
      obtain ⟨ad, e1, hx0⟩ := Kd.at_int HR0.out x8 p1 c1
      cases e1
      replace hx0 := (HB.out.cell (World.block_lt_of_cell? w _ hx0)).trans hx0
      have hit : x8.toNat < es.length := by omega
      have hev : rd es x8 = es[x8.toNat] := by simp [rd, List.getD, hit]
      have hem : rd es x8 ∈ es := by rw [hev]; exact List.getElem_mem _
      have HE := Aside0.mk (show es.take (x8 + 1).toNat = es.take x8.toNat ++ [rd es x8] from by
        rw [show (x8 + 1).toNat = x8.toNat + 1 by omega, List.take_succ_eq_append_getElem hit, hev])
      have QE := Aside0.mk (QL.out _ hem wr HB.out)
      have HM := Aside0.mk hem
      have P1 := Aside0.mk p1
      have Q1 := Aside0.mk c1
      have W1 := Aside0.mk (show wrap64 (x8 + 1) = x8 + 1 from by unfold wrap64; have := HN.out; have := P1.out; have := Q1.out; omega)
      clear hev hem hit
      generalize rd es x8 = e at *
      replace p1 := eq_true p1
      replace c1 := eq_true c1
      obtain ⟨k1, rfl⟩ : ∃ k1, gk = k1 + 1 := ⟨gk - 1, by have := HK.out; have := Q1.out; omega⟩
      cases hq : pp e with
      | false =>
        rw [hq] at QE
        have HQ := Aside0.mk hq
        clear hq
        go_wp2_with (go_at_call 43; refine QE.out.mono ?_; rintro r w1 ⟨rfl, hb⟩; have HB1 := Aside0.mk (below_step HB.out hb); clear hb)
        go_roundg k1
        case measure => omega
        case rel => exact ⟨x8 + 1, by rw [W1.out], ⟨by have := P1.out; omega, by have := HK.out; omega⟩, ⟨by
          rw [HE.out]
          intro y hy
          rcases List.mem_append.1 hy with h | h
          · exact HA.out y h
          · rw [List.mem_singleton.1 h]; exact HQ.out⟩, HB1⟩
      | true =>
        rw [hq] at QE
        have HQ := Aside0.mk hq
        clear hq
        go_wp2_with (go_at_call 43; refine QE.out.mono ?_; rintro r w1 ⟨rfl, hb⟩; have HB1 := Aside0.mk (below_step HB.out hb); clear hb)
        go_ret
        refine ⟨x8, rfl, ?_, HB1.out⟩
        rw [decide_eq_true P1.out]
        exact (List.any_eq_true.2 ⟨e, HM.out, HQ.out⟩).symm
    · have c1b := decide_eq_false c1
      have hx : x8.toNat = es.length := by have := HK.out; omega
      have ha := HA.out
      rw [hx, List.take_length] at ha
      have HAll := Aside0.mk ha
      clear ha hx c1
      go_wp2_with fail
      go_ret
      refine ⟨-1, rfl, ?_, HB.out⟩
      exact (List.any_eq_false.2 (fun e he => by rw [HAll.out e he]; simp)).symm
set_option maxHeartbeats 2000000 in
set_option maxRecDepth 100000 in
theorem beyond_contains  (es : List Int) (hn : es.length ≤ 1000000000) (A0 : Option Addr) (c0 : Nat) (w : World) (hr0 : Kd.C (Kd.int .i64) w A0 es.length es)
    (QL0 : ∀ e ∈ es, ∀ W, Below w.heap.size w W → Calls Try.prog 43 #[.int .i64 e] W fun r w' => r = .returned (.bool (beyondB e)) ∧ Below W.heap.size W w') :
    Calls Try.prog 46 #[.slice A0 es.length c0, .func (.func 43) #[] #[]] w fun r w' => r = .returned (.bool (es.any beyondB)) ∧ Below w.heap.size w w' := by
  have HB0 := Aside0.mk (Below.refl w.heap.size w)
  have QI := Aside0.mk (beyond_index  es hn A0 c0 w hr0 QL0)
  clear hn hr0 QL0
  go_enter Try.func46, Try.ntmps46
  go_wp2_with (go_at_call 66; refine QI.out.mono ?_; rintro r w1 ⟨i, rfl, hd, hb⟩; have HD := Aside0.mk hd; have HB2 := Aside0.mk hb; clear hb hd)
  go_ret
  refine ⟨?_, HB2.out⟩
  rw [← HD.out]
  rfl
/-- A start and an offset. -/
def startAt (offs nums : List Int) (s : S42) (i : Int) : Int := wrap64 (s.f6 + rd offs (rd nums i))
set_option maxRecDepth 100000 in
set_option maxHeartbeats 2000000 in
theorem add_calls (offs nums : List Int) (s : S42) (i : Int) (h0 : 0 ≤ i) (h1 : i < nums.length) (h2 : 0 ≤ rd nums i) (h3 : rd nums i < offs.length) (A1 A2 : Option Addr) (c1 c2 B1 B2 : Nat) (w : World)
    (hr1 : Kd.C (Kd.int .i64) w A1 offs.length offs) (hr2 : Kd.C (Kd.int .i64) w A2 nums.length nums) (hc1 : w.cell? ⟨B1, 0, none⟩ = some (.slice A1 offs.length c1)) (hc2 : w.cell? ⟨B2, 0, none⟩ = some (.slice A2 nums.length c2)) :
    Calls Try.prog 48 #[.int .i64 i, .agg #[.int .u64 s.f0, .int .u64 s.f1, .int .u64 s.f2, .int .u8 s.f3, .string s.f4, .string s.f5, .int .i64 s.f6, .int .i64 s.f7], .pointer (some ⟨B1, 0, none⟩), .pointer (some ⟨B2, 0, none⟩)] w fun e w' => e = .returned (.int .i64 (startAt offs nums s i)) ∧ Below w.heap.size w w' := by
  have HB := Aside0.mk (Below.refl w.heap.size w)
  obtain ⟨ad2, e2, hn⟩ := Kd.at_int hr2 i h0 h1
  cases e2
  obtain ⟨ad1, e1, ho⟩ := Kd.at_int hr1 (rd nums i) h2 h3
  cases e1
  have hv := Aside0.mk (show startAt offs nums s i = wrap64 (s.f6 + rd offs (rd nums i)) from rfl)
  clear hr1 hr2
  generalize startAt offs nums s i = z at *
  generalize rd offs (rd nums i) = o at *
  generalize rd nums i = j at *
  have k1 := fun q => keep1s (o1 := q) hc1
  have k2 := fun q => keep1s (o1 := q) hc2
  have k3 := fun q => keep1s (o1 := q) hn
  have k4 := fun q => keep1s (o1 := q) ho
  replace h0 := eq_true h0
  replace h1 := eq_true h1
  replace h2 := eq_true h2
  replace h3 := eq_true h3
  clear hc1 hc2 hn ho
  go_enter Try.func48, Try.ntmps48
  go_wp2_with fail
  go_quiet (fail)
  go_wp2_with fail
  go_ret
  exact ⟨by rw [hv.out]; rfl, pw_below_drewN (below_alloc HB.out _) _⟩
end Go.Proofs.Ytjgpggjjgimibaa.L

/- shift.each and shift.Starts: the walks. -/
namespace Go.Proofs.Ytjgpggjjgimibaa.L
open Go.RowKit Go.Proofs.Ytjgpggjjgimibaa.Q Go.Proofs.YtjgpggjjgimibaaW.PrintWords Go.Proofs.YtjgpggjjgimibaaW.PrintLast Go.Proofs.YtjgpggjjgimibaaW.PrintMore Go.Proofs.YtjgpggjjgimibaaW.MapB Go.Proofs.YtjgpggjjgimibaaW.Lib
set_option linter.unusedVariables false
set_option linter.unusedSimpArgs false
set_option maxHeartbeats 4000000 in
set_option maxRecDepth 100000 in
theorem each_calls (g : Int → Int) (l0 : List S42) (hl : l0.length ≤ 1759218604441) (A0 : Option Addr) (c0 B1 B2 : Nat) (w : World) (hr0 : Kd.C k42 w A0 l0.length l0)
    (QA0 : ∀ (i : Int) (s : S42), 0 ≤ i → i < l0.length → rd_T42 l0 i = s → ∀ W, Below w.heap.size w W → Calls Try.prog 48 #[.int .i64 i, .agg #[.int .u64 s.f0, .int .u64 s.f1, .int .u64 s.f2, .int .u8 s.f3, .string s.f4, .string s.f5, .int .i64 s.f6, .int .i64 s.f7], .pointer (some ⟨B1, 0, none⟩), .pointer (some ⟨B2, 0, none⟩)] W fun e w' => e = .returned (.int .i64 (g i)) ∧ Below W.heap.size W w') :
    Calls Try.prog 47 #[.slice A0 l0.length c0, .func (.func 48) #[] #[.pointer (some ⟨B1, 0, none⟩), .pointer (some ⟨B2, 0, none⟩)]] w fun e w' => ∃ v : Value, e = .returned v ∧ Kd.R (Kd.int .i64) 2 w' w.heap.size (fun _ => True) v ((List.range l0.length).map (fun i : Nat => g i)) ∧ Below w.heap.size w w' := by
  have HR0 := Aside0.mk hr0
  have HL := Aside0.mk hl
  have QA := Aside0.mk QA0
  have HB0 := Aside0.mk (Below.refl w.heap.size w)
  have hlen : ((List.range l0.length).map (fun i : Nat => g i)).length = l0.length := by simp
  have hnext : ∀ x : Int, 0 ≤ x → x < l0.length → ((List.range l0.length).map (fun i : Nat => g i)).take (x + 1).toNat = ((List.range l0.length).map (fun i : Nat => g i)).take x.toNat ++ [g x] := by
    intro x h0 h1
    have hx : x.toNat < l0.length := by omega
    rw [show (x + 1).toNat = x.toNat + 1 by omega, List.take_succ_eq_append_getElem (by rw [hlen]; exact hx)]
    simp [show max x 0 = x from by omega]
  have NX := Aside0.mk hnext
  have HLen := Aside0.mk hlen
  clear hr0 hl QA0 hlen hnext
  generalize (List.range l0.length).map (fun i : Nat => g i) = ns at *
  go_enter Try.func47, Try.ntmps47
  go_wp2_with fail
  go_loopg [5, 10] l0.length (fun kq v5 v10 w' => ∃ x10 : Int, v10 = .int .i64 x10 ∧ Aside0 (0 ≤ x10 ∧ x10 + kq = l0.length) ∧ Aside0 (Kd.R (Kd.int .i64) 2 w' w.heap.size (fun _ => True) v5 (ns.take x10.toNat)) ∧ Aside0 (Below w.heap.size w w'))
  case atStart => exact ⟨0, rfl, ⟨by omega, by omega⟩, ⟨Kd.R_nil _ _ _ _ _⟩, HB0⟩
  case round =>
    obtain ⟨x10, rfl, HK, HO, HB⟩ := hrel
    by_cases c1 : x10 < (l0.length : Int)
    · have c1b := decide_eq_true c1
      have p1 : 0 ≤ x10 := HK.out.1
      obtain ⟨ad1, e1, hx0, hx1, hx2, hx3, hx4, hx5, hx6, hx7⟩ := at_T42 HR0.out x10 p1 c1
      cases e1
      replace hx0 := (HB.out.cell (World.block_lt_of_cell? w _ hx0)).trans hx0
      replace hx1 := (HB.out.cell (World.block_lt_of_cell? w _ hx1)).trans hx1
      replace hx2 := (HB.out.cell (World.block_lt_of_cell? w _ hx2)).trans hx2
      replace hx3 := (HB.out.cell (World.block_lt_of_cell? w _ hx3)).trans hx3
      replace hx4 := (HB.out.cell (World.block_lt_of_cell? w _ hx4)).trans hx4
      replace hx5 := (HB.out.cell (World.block_lt_of_cell? w _ hx5)).trans hx5
      replace hx6 := (HB.out.cell (World.block_lt_of_cell? w _ hx6)).trans hx6
      replace hx7 := (HB.out.cell (World.block_lt_of_cell? w _ hx7)).trans hx7
      have QE := Aside0.mk (QA.out x10 _ p1 c1 rfl)
      have P1 := Aside0.mk p1
      have Q1 := Aside0.mk c1
      generalize rd_T42 l0 x10 = s at *
      have HG := Aside0.mk (NX.out x10 p1 c1)
      generalize g x10 = gx at *
      replace p1 := eq_true p1
      replace c1 := eq_true c1
      have W1 := Aside0.mk (show wrap64 (x10 + 1) = x10 + 1 from by unfold wrap64; have := HL.out; have := P1.out; have := Q1.out; omega)
      obtain ⟨k1, rfl⟩ : ∃ k1, gk = k1 + 1 := ⟨gk - 1, by have := HK.out; have := Q1.out; omega⟩
      go_wp2_with (first
        | (go_at_call 48; refine (QE.out _ (below_alloc HB.out _)).mono ?_; rintro e w1 ⟨rfl, hb⟩; have HB1 := Aside0.mk (below_step (below_alloc HB.out _) hb); have HO1 := Aside0.mk (Kd.R_below (Kd.R_alloc HO.out _) hb); clear hb)
        | ((with_reducible refine gate_builtin (b := .append) (xs := #[.tmp 15, .tmp 20]) rfl ?_); at_builtin; refine Kd.R_append (Kd.int .i64) (w0 := w) w.heap.size rfl (.tmp 15) (.tmp 20) 33 2 (.int .i64 0) 8 rfl Try.underlying33 (by kernel_rfl) rfl (by decide) (by omega) u5 (ns.take x10.toNat) gx [.int .i64 gx] (fun _ => True) (fun _ => False) rfl ?aX ?aP (fun _ hk => hk.elim) ?aF ?aO ?aB ?aS ?aL ?_; (case aX => first | rfl | (go_simp; done) | (simp; done)); (case aP => exact rfl); (case aB => exact (by repeat (first | (with_reducible first | exact HB1.out | apply below_alloc | apply pw_below_drewN | apply below_drew1) | exact HB1.out))); (case aF => exact (fun _ _ => trivial)); (case aO => exact (by (with_reducible repeat (first | apply Kd.R_alloc | apply Kd.R_drewN | apply Kd.R_drew)); exact HO1.out)); (case aS => exact (below_size (by repeat (first | (with_reducible first | exact HB1.out | apply below_alloc | apply pw_below_drewN | apply below_drew1) | exact HB1.out)))); (case aL => have := HL.out; have := Q1.out; simp only [List.length_take]; omega); intro v2 w2 ho hb hg hat; have HO2 := Aside0.mk ho; have HB2 := Aside0.mk hb; clear ho hb hg hat))
      go_roundg k1
      case measure => omega
      case rel => exact ⟨x10 + 1, by rw [W1.out], ⟨by have := P1.out; omega, by have := HK.out; omega⟩, ⟨by rw [HG.out]; exact HO2.out⟩, HB2⟩
    · have c1b := decide_eq_false c1
      have hx : x10.toNat = ns.length := by have := HK.out; have := HLen.out; omega
      have ho := HO.out
      rw [hx, List.take_length] at ho
      have HO2 := Aside0.mk ho
      clear ho HO
      go_wp2
      go_ret
      exact ⟨_, rfl, HO2.out, HB.out⟩
theorem rd_mem' (l : List Int) (i : Int) (h0 : 0 ≤ i) (h1 : i < l.length) : rd l i ∈ l := by
  have hx : i.toNat < l.length := by omega
  rw [show rd l i = l[i.toNat] by simp [rd, List.getD, hx]]
  exact List.getElem_mem _
theorem results_tmp2 {fn : Func} {a b : Tmp} (h : fn.results = #[.tmp a, .tmp b]) (tmps : Array Value) (P : Program) (w : World) : (results fn tmps).run P w = .ok (.tuple #[tmps.getD a undef, tmps.getD b undef]) w := by
  simp [results, h]
/-- Starts, put right by offsets. -/
def startsL (l : List S42) (offs : List Int) : List Int := (List.range l.length).map (fun i : Nat => startAt offs (numsL l) (rd_T42 l (i : Int)) i)
def startsB (l : List S42) (offs : List Int) : List Int × Bool := if mayA l = true ∧ offs.length = (hostsB l).length ∧ offs.any beyondB = false then (startsL l offs, true) else ([], false)
theorem numsL_in (l : List S42) : ∀ x ∈ numsL l, 0 ≤ x ∧ x < (hostsB l).length := by
  intro x hx
  unfold numsL at hx
  obtain ⟨s, hs, rfl⟩ := List.mem_map.1 hx
  have h1 : s.f4 ∈ hostsB l := (hostsB_mem l _).2 ⟨s, hs, rfl⟩
  have h2 : numB (hostsB l) s.f4 < (hostsB l).length := List.findIdx_lt_length_of_exists ⟨s.f4, h1, by simp⟩
  exact ⟨by omega, by omega⟩
set_option maxHeartbeats 8000000 in
set_option maxRecDepth 100000 in
theorem starts_calls (l0 : List S42) (l1 : List Int) (hf : ∀ s ∈ l0, fitS s) (hl : l0.length ≤ 1000000000) (hl1 : l1.length ≤ 1000000000) (A0 A1 : Option Addr) (c0 c1_ : Nat) (w : World) (hr0 : Kd.C k42 w A0 l0.length l0) (hc0 : l0.length ≤ c0) (hr1 : Kd.C (Kd.int .i64) w A1 l1.length l1) :
    Calls Try.prog 24 #[.slice A0 l0.length c0, .slice A1 l1.length c1_] w fun e w' => ∃ v : Value, e = .returned (.tuple #[v, .bool (startsB l0 l1).2]) ∧ Kd.R (Kd.int .i64) 2 w' w.heap.size (fun _ => True) v (startsB l0 l1).1 ∧ Below w.heap.size w w' := by
  have hmf : ∀ (fn : Fn) (first cap : Array Value) (w : World), (Instr.makeFunc fn first cap).run Try.prog w = .ok (.func fn first cap) w := fun _ _ _ _ => rfl
  have HB0 := Aside0.mk (Below.refl w.heap.size w)
  have HR0 := Aside0.mk hr0
  have HR1 := Aside0.mk hr1
  have QM := Aside0.mk (fun (W : World) (hb : Below w.heap.size w W) => smay_calls l0 hf hl A0 c0 W (Kd.C_below hr0 hb))
  have QH := Aside0.mk (fun (W : World) (hb : Below w.heap.size w W) => hosts_calls l0 (by omega) A0 c0 W (Kd.C_below hr0 hb) hc0)
  have QB := Aside0.mk (fun (W : World) (hb : Below w.heap.size w W) => beyond_contains l1 hl1 A1 c1_ W (Kd.C_below hr1 hb) (fun e _ V _ => beyond_calls e V))
  have QN := Aside0.mk (fun (W : World) (hb : Below w.heap.size w W) => nums_calls l0 (by omega) hf A0 c0 W (Kd.C_below hr0 hb) hc0)
  have HNin := Aside0.mk (numsL_in l0)
  have HNl := Aside0.mk (show (numsL l0).length = l0.length by unfold numsL; rw [List.length_map])
  have HL := Aside0.mk hl
  have HSt := Aside0.mk (show startsL l0 l1 = (List.range l0.length).map (fun i : Nat => startAt l1 (numsL l0) (rd_T42 l0 (i : Int)) i) from rfl)
  unfold startsB
  clear hr0 hr1 hf hl hl1 hc0
  cases h1 : mayA l0 with
  | false =>
    rw [h1] at QM
    clear h1
    simp only [Bool.false_eq_true, false_and, if_false]
    go_enter Try.func24, Try.ntmps24
    go_wp2_with fail
    refine start_ (n := 16) (S := fun W' => Below w.heap.size w W' ∧ W'.cell? ⟨w.heap.size, 0, none⟩ = some (.slice A1 l1.length c1_)) (ds := []) #[false, false, false, false, false, false, false, false, false, false, false, false, false, false, false, false] (by kernel_rfl) rfl rfl ⟨below_drew (below_alloc HB0.out _), own1 w _ _ 0 rfl⟩ (fun hHeld => ?_)
    generalize World.drew _ = W2 at *
    refine pure_ (i := 0) (N := some 8) (v := ?_) (a' := ?_) #[true, false, false, false, false, false, false, false, false, false, false, false, false, false, false, false] rfl rfl (by kernel_rfl) (fun _ _ _ h => h) (Or.inl ⟨by rfl, ?_⟩) ?_ ?_
    rotate_left
    · intro w'
      go_simp
      with_reducible rfl
    rotate_left
    · simp only [Act.put, List.setIfInBounds_toArray, List.set_cons_zero, List.set_cons_succ, i64_w, i32_w]
      rfl
    refine one_ (i := 1) (N := some 9) #[true, true, false, false, false, false, false, false, false, false, false, false, false, false, false, false] rfl rfl (by kernel_rfl) (by decide) (fun K hK => ?_)
    first | (go_at_call 44; (with_reducible refine (QM.out _ hHeld.1).mono ?_); rintro e w4 ⟨rfl, hb⟩) | (go_simp; (go_at_call 44; (with_reducible refine (QM.out _ hHeld.1).mono ?_); rintro e w4 ⟨rfl, hb⟩))
    refine hK.out _ _ (⟨below_step hHeld.1 hb, (hb.cell (World.block_lt_of_cell? _ _ hHeld.2)).trans hHeld.2⟩) (fun hHeld2 => ?_)
    clear hK K hb hHeld
    have hHeld := hHeld2
    clear hHeld2
    try simp only [Act.put, List.setIfInBounds_toArray, List.set_cons_zero, List.set_cons_succ]
    refine pure_ (i := 2) (N := some 10) (v := ?_) (a' := ?_) #[true, true, true, false, false, false, false, false, false, false, false, false, false, false, false, false] rfl rfl (by kernel_rfl) (fun _ _ _ h => h) (Or.inl ⟨by rfl, ?_⟩) ?_ ?_
    rotate_left
    · intro w'
      go_simp
      with_reducible rfl
    rotate_left
    · simp only [Act.put, List.setIfInBounds_toArray, List.set_cons_zero, List.set_cons_succ, i64_w, i32_w]
      rfl
    refine pure_ (i := 3) (N := some 11) (v := ?_) (a' := ?_) #[true, true, true, true, false, false, false, false, false, false, false, false, false, false, false, false] rfl rfl (by kernel_rfl) (fun _ _ _ h => h) (Or.inl ⟨by rfl, ?_⟩) ?_ ?_
    rotate_left
    · intro w'
      go_simp
      with_reducible rfl
    rotate_left
    · simp only [Act.put, List.setIfInBounds_toArray, List.set_cons_zero, List.set_cons_succ, i64_w, i32_w]
      rfl
    refine pure_ (i := 4) (N := some 12) (v := undef) (a' := ?_) #[true, true, true, true, true, false, false, false, false, false, false, false, false, false, false, false] rfl rfl (by kernel_rfl) (fun _ _ _ h => h) (Or.inr ⟨by rfl, rfl⟩) ?_ ?_
    rotate_left
    · simp only [Act.put, List.setIfInBounds_toArray, List.set_cons_zero, List.set_cons_succ, i64_w, i32_w]
      rfl
    refine pure_ (i := 5) (N := some 13) (v := undef) (a' := ?_) #[true, true, true, true, true, true, false, false, false, false, false, false, false, false, false, false] rfl rfl (by kernel_rfl) (fun _ _ _ h => h) (Or.inr ⟨by rfl, rfl⟩) ?_ ?_
    rotate_left
    · simp only [Act.put, List.setIfInBounds_toArray, List.set_cons_zero, List.set_cons_succ, i64_w, i32_w]
      rfl
    refine pure_ (i := 6) (N := some 14) (v := undef) (a' := ?_) #[true, true, true, true, true, true, true, false, false, false, false, false, false, false, false, false] rfl rfl (by kernel_rfl) (fun _ _ _ h => h) (Or.inr ⟨by rfl, rfl⟩) ?_ ?_
    rotate_left
    · simp only [Act.put, List.setIfInBounds_toArray, List.set_cons_zero, List.set_cons_succ, i64_w, i32_w]
      rfl
    refine pure_ (i := 7) (N := some 15) (v := undef) (a' := ?_) #[true, true, true, true, true, true, true, true, false, false, false, false, false, false, false, false] rfl rfl (by kernel_rfl) (fun _ _ _ h => h) (Or.inr ⟨by rfl, rfl⟩) ?_ ?_
    rotate_left
    · simp only [Act.put, List.setIfInBounds_toArray, List.set_cons_zero, List.set_cons_succ, i64_w, i32_w]
      rfl
    refine pure_ (i := 8) (N := some 16) (v := undef) (a' := ?_) #[true, true, true, true, true, true, true, true, true, false, false, false, false, false, false, false] rfl rfl (by kernel_rfl) (fun _ _ _ h => h) (Or.inr ⟨by rfl, rfl⟩) ?_ ?_
    rotate_left
    · simp only [Act.put, List.setIfInBounds_toArray, List.set_cons_zero, List.set_cons_succ, i64_w, i32_w]
      rfl
    refine pure_ (i := 9) (N := some 17) (v := undef) (a' := ?_) #[true, true, true, true, true, true, true, true, true, true, false, false, false, false, false, false] rfl rfl (by kernel_rfl) (fun _ _ _ h => h) (Or.inr ⟨by rfl, rfl⟩) ?_ ?_
    rotate_left
    · simp only [Act.put, List.setIfInBounds_toArray, List.set_cons_zero, List.set_cons_succ, i64_w, i32_w]
      rfl
    refine pure_ (i := 10) (N := some 18) (v := ?_) (a' := ?_) #[true, true, true, true, true, true, true, true, true, true, true, false, false, false, false, false] rfl rfl (by kernel_rfl) (fun _ _ _ h => h) (Or.inl ⟨by rfl, ?_⟩) ?_ ?_
    rotate_left
    · intro w'
      go_simp
      with_reducible rfl
    rotate_left
    · simp only [Act.put, List.setIfInBounds_toArray, List.set_cons_zero, List.set_cons_succ, i64_w, i32_w]
      rfl
    refine pure_ (i := 11) (N := some 19) (v := ?_) (a' := ?_) #[true, true, true, true, true, true, true, true, true, true, true, true, false, false, false, false] rfl rfl (by kernel_rfl) (fun _ _ _ h => h) (Or.inl ⟨by rfl, ?_⟩) ?_ ?_
    rotate_left
    · intro w'
      go_simp
      with_reducible rfl
    rotate_left
    · simp only [Act.put, List.setIfInBounds_toArray, List.set_cons_zero, List.set_cons_succ, i64_w, i32_w]
      rfl
    refine pure_ (i := 12) (N := some 20) (v := undef) (a' := ?_) #[true, true, true, true, true, true, true, true, true, true, true, true, true, false, false, false] rfl rfl (by kernel_rfl) (fun _ _ _ h => h) (Or.inr ⟨by rfl, rfl⟩) ?_ ?_
    rotate_left
    · simp only [Act.put, List.setIfInBounds_toArray, List.set_cons_zero, List.set_cons_succ, i64_w, i32_w]
      rfl
    refine pure_ (i := 13) (N := some 21) (v := undef) (a' := ?_) #[true, true, true, true, true, true, true, true, true, true, true, true, true, true, false, false] rfl rfl (by kernel_rfl) (fun _ _ _ h => h) (Or.inr ⟨by rfl, rfl⟩) ?_ ?_
    rotate_left
    · simp only [Act.put, List.setIfInBounds_toArray, List.set_cons_zero, List.set_cons_succ, i64_w, i32_w]
      rfl
    refine pure_ (i := 14) (N := some 22) (v := undef) (a' := ?_) #[true, true, true, true, true, true, true, true, true, true, true, true, true, true, true, false] rfl rfl (by kernel_rfl) (fun _ _ _ h => h) (Or.inr ⟨by rfl, rfl⟩) ?_ ?_
    rotate_left
    · simp only [Act.put, List.setIfInBounds_toArray, List.set_cons_zero, List.set_cons_succ, i64_w, i32_w]
      rfl
    refine pure_ (i := 15) (N := some 23) (v := ?_) (a' := ?_) #[true, true, true, true, true, true, true, true, true, true, true, true, true, true, true, true] rfl rfl (by kernel_rfl) (fun _ _ _ h => h) (Or.inl ⟨by rfl, ?_⟩) ?_ ?_
    rotate_left
    · intro w'
      go_simp
      with_reducible rfl
    rotate_left
    · simp only [Act.put, List.setIfInBounds_toArray, List.set_cons_zero, List.set_cons_succ, i64_w, i32_w]
      rfl
    refine done_ (by kernel_rfl) ?_
    have HBe := Aside0.mk hHeld.1
    clear hHeld
    go_wp2_with fail
    refine bodyPost_ret (results_tmp2 rfl _ _ _) rfl ?_
    exact ⟨_, rfl, Kd.R_nil _ _ _ _ _, HBe.out⟩
  | true =>
  rw [h1] at QM
  clear h1
  by_cases h2 : l1.length = (hostsB l0).length
  rotate_left
  · have c2b : (((l1.length : Nat) : Int) != (((hostsB l0).length : Nat) : Int)) = true := by rw [bne_iff_ne]; omega
    rw [if_neg (fun h => h2 h.2.1)]
    clear h2
    go_enter Try.func24, Try.ntmps24
    go_wp2_with fail
    refine start_ (n := 16) (S := fun W' => Below w.heap.size w W' ∧ W'.cell? ⟨w.heap.size, 0, none⟩ = some (.slice A1 l1.length c1_)) (ds := []) #[false, false, false, false, false, false, false, false, false, false, false, false, false, false, false, false] (by kernel_rfl) rfl rfl ⟨below_drew (below_alloc HB0.out _), own1 w _ _ 0 rfl⟩ (fun hHeld => ?_)
    generalize World.drew _ = W2 at *
    refine pure_ (i := 0) (N := some 8) (v := ?_) (a' := ?_) #[true, false, false, false, false, false, false, false, false, false, false, false, false, false, false, false] rfl rfl (by kernel_rfl) (fun _ _ _ h => h) (Or.inl ⟨by rfl, ?_⟩) ?_ ?_
    rotate_left
    · intro w'
      go_simp
      with_reducible rfl
    rotate_left
    · simp only [Act.put, List.setIfInBounds_toArray, List.set_cons_zero, List.set_cons_succ, i64_w, i32_w]
      rfl
    refine one_ (i := 1) (N := some 9) #[true, true, false, false, false, false, false, false, false, false, false, false, false, false, false, false] rfl rfl (by kernel_rfl) (by decide) (fun K hK => ?_)
    first | (go_at_call 44; (with_reducible refine (QM.out _ hHeld.1).mono ?_); rintro e w4 ⟨rfl, hb⟩) | (go_simp; (go_at_call 44; (with_reducible refine (QM.out _ hHeld.1).mono ?_); rintro e w4 ⟨rfl, hb⟩))
    refine hK.out _ _ (⟨below_step hHeld.1 hb, (hb.cell (World.block_lt_of_cell? _ _ hHeld.2)).trans hHeld.2⟩) (fun hHeld2 => ?_)
    clear hK K hb hHeld
    have hHeld := hHeld2
    clear hHeld2
    try simp only [Act.put, List.setIfInBounds_toArray, List.set_cons_zero, List.set_cons_succ]
    refine pure_ (i := 2) (N := some 10) (v := ?_) (a' := ?_) #[true, true, true, false, false, false, false, false, false, false, false, false, false, false, false, false] rfl rfl (by kernel_rfl) (fun _ _ _ h => h) (Or.inl ⟨by rfl, ?_⟩) ?_ ?_
    rotate_left
    · intro w'
      go_simp
      with_reducible rfl
    rotate_left
    · simp only [Act.put, List.setIfInBounds_toArray, List.set_cons_zero, List.set_cons_succ, i64_w, i32_w]
      rfl
    refine pure_ (i := 3) (N := some 11) (v := ?_) (a' := ?_) #[true, true, true, true, false, false, false, false, false, false, false, false, false, false, false, false] rfl rfl (by kernel_rfl) (fun _ _ _ h => h) (Or.inl ⟨by rfl, ?_⟩) ?_ ?_
    rotate_left
    · intro w'
      go_simp
      with_reducible rfl
    rotate_left
    · simp only [Act.put, List.setIfInBounds_toArray, List.set_cons_zero, List.set_cons_succ, i64_w, i32_w]
      rfl
    refine take_ (i := 4) (N := some 12) (v := ?_) (a' := ?_) #[true, true, true, true, true, false, false, false, false, false, false, false, false, false, false, false] rfl rfl (by kernel_rfl) (fun _ _ _ h => h) (Or.inl ⟨by rfl, ?_⟩) hHeld ?_ ?_
    rotate_left
    · rintro w' ⟨_, s0⟩
      go_simp
      with_reducible rfl
    rotate_left
    · simp only [Act.put, List.setIfInBounds_toArray, List.set_cons_zero, List.set_cons_succ, i64_w, i32_w]
      rfl
    refine pure_ (i := 5) (N := some 13) (v := ?_) (a' := ?_) #[true, true, true, true, true, true, false, false, false, false, false, false, false, false, false, false] rfl rfl (by kernel_rfl) (fun _ _ _ h => h) (Or.inl ⟨by rfl, ?_⟩) ?_ ?_
    rotate_left
    · intro w'
      go_simp
      with_reducible rfl
    rotate_left
    · simp only [Act.put, List.setIfInBounds_toArray, List.set_cons_zero, List.set_cons_succ, i64_w, i32_w]
      rfl
    refine pure_ (i := 6) (N := some 14) (v := ?_) (a' := ?_) #[true, true, true, true, true, true, true, false, false, false, false, false, false, false, false, false] rfl rfl (by kernel_rfl) (fun _ _ _ h => h) (Or.inl ⟨by rfl, ?_⟩) ?_ ?_
    rotate_left
    · intro w'
      go_simp
      with_reducible rfl
    rotate_left
    · simp only [Act.put, List.setIfInBounds_toArray, List.set_cons_zero, List.set_cons_succ, i64_w, i32_w]
      rfl
    refine one_ (i := 7) (N := some 15) #[true, true, true, true, true, true, true, true, false, false, false, false, false, false, false, false] rfl rfl (by kernel_rfl) (by decide) (fun K hK => ?_)
    first | (go_at_call 45; (with_reducible refine (QH.out _ hHeld.1).mono ?_); rintro e w4 ⟨v4, rfl, ho, hb⟩; obtain ⟨A4, c4, rfl⟩ := Kd.R_slice ho; clear ho) | (go_simp; (go_at_call 45; (with_reducible refine (QH.out _ hHeld.1).mono ?_); rintro e w4 ⟨v4, rfl, ho, hb⟩; obtain ⟨A4, c4, rfl⟩ := Kd.R_slice ho; clear ho))
    refine hK.out _ _ (⟨below_step hHeld.1 hb, (hb.cell (World.block_lt_of_cell? _ _ hHeld.2)).trans hHeld.2⟩) (fun hHeld2 => ?_)
    clear hK K hb hHeld
    have hHeld := hHeld2
    clear hHeld2
    try simp only [Act.put, List.setIfInBounds_toArray, List.set_cons_zero, List.set_cons_succ]
    refine pure_ (i := 8) (N := some 16) (v := ?_) (a' := ?_) #[true, true, true, true, true, true, true, true, true, false, false, false, false, false, false, false] rfl rfl (by kernel_rfl) (fun _ _ _ h => h) (Or.inl ⟨by rfl, ?_⟩) ?_ ?_
    rotate_left
    · intro w'
      go_simp
      with_reducible rfl
    rotate_left
    · simp only [Act.put, List.setIfInBounds_toArray, List.set_cons_zero, List.set_cons_succ, i64_w, i32_w]
      rfl
    refine pure_ (i := 9) (N := some 17) (v := ?_) (a' := ?_) #[true, true, true, true, true, true, true, true, true, true, false, false, false, false, false, false] rfl rfl (by kernel_rfl) (fun _ _ _ h => h) (Or.inl ⟨by rfl, ?_⟩) ?_ ?_
    rotate_left
    · intro w'
      go_simp
      with_reducible rfl
    rotate_left
    · simp only [Act.put, List.setIfInBounds_toArray, List.set_cons_zero, List.set_cons_succ, i64_w, i32_w]
      rfl
    refine pure_ (i := 10) (N := some 18) (v := ?_) (a' := ?_) #[true, true, true, true, true, true, true, true, true, true, true, false, false, false, false, false] rfl rfl (by kernel_rfl) (fun _ _ _ h => h) (Or.inl ⟨by rfl, ?_⟩) ?_ ?_
    rotate_left
    · intro w'
      go_simp
      with_reducible rfl
    rotate_left
    · simp only [Act.put, List.setIfInBounds_toArray, List.set_cons_zero, List.set_cons_succ, i64_w, i32_w]
      rfl
    refine pure_ (i := 11) (N := some 19) (v := ?_) (a' := ?_) #[true, true, true, true, true, true, true, true, true, true, true, true, false, false, false, false] rfl rfl (by kernel_rfl) (fun _ _ _ h => h) (Or.inl ⟨by rfl, ?_⟩) ?_ ?_
    rotate_left
    · intro w'
      go_simp
      with_reducible rfl
    rotate_left
    · simp only [Act.put, List.setIfInBounds_toArray, List.set_cons_zero, List.set_cons_succ, i64_w, i32_w]
      rfl
    refine pure_ (i := 12) (N := some 20) (v := undef) (a' := ?_) #[true, true, true, true, true, true, true, true, true, true, true, true, true, false, false, false] rfl rfl (by kernel_rfl) (fun _ _ _ h => h) (Or.inr ⟨by rfl, rfl⟩) ?_ ?_
    rotate_left
    · simp only [Act.put, List.setIfInBounds_toArray, List.set_cons_zero, List.set_cons_succ, i64_w, i32_w]
      rfl
    refine pure_ (i := 13) (N := some 21) (v := undef) (a' := ?_) #[true, true, true, true, true, true, true, true, true, true, true, true, true, true, false, false] rfl rfl (by kernel_rfl) (fun _ _ _ h => h) (Or.inr ⟨by rfl, rfl⟩) ?_ ?_
    rotate_left
    · simp only [Act.put, List.setIfInBounds_toArray, List.set_cons_zero, List.set_cons_succ, i64_w, i32_w]
      rfl
    refine pure_ (i := 14) (N := some 22) (v := undef) (a' := ?_) #[true, true, true, true, true, true, true, true, true, true, true, true, true, true, true, false] rfl rfl (by kernel_rfl) (fun _ _ _ h => h) (Or.inr ⟨by rfl, rfl⟩) ?_ ?_
    rotate_left
    · simp only [Act.put, List.setIfInBounds_toArray, List.set_cons_zero, List.set_cons_succ, i64_w, i32_w]
      rfl
    refine pure_ (i := 15) (N := some 23) (v := ?_) (a' := ?_) #[true, true, true, true, true, true, true, true, true, true, true, true, true, true, true, true] rfl rfl (by kernel_rfl) (fun _ _ _ h => h) (Or.inl ⟨by rfl, ?_⟩) ?_ ?_
    rotate_left
    · intro w'
      go_simp
      with_reducible rfl
    rotate_left
    · simp only [Act.put, List.setIfInBounds_toArray, List.set_cons_zero, List.set_cons_succ, i64_w, i32_w]
      rfl
    refine done_ (by kernel_rfl) ?_
    have HBe := Aside0.mk hHeld.1
    clear hHeld
    go_wp2_with fail
    refine bodyPost_ret (results_tmp2 rfl _ _ _) rfl ?_
    exact ⟨_, rfl, Kd.R_nil _ _ _ _ _, HBe.out⟩
  have c2b : (((l1.length : Nat) : Int) != (((hostsB l0).length : Nat) : Int)) = false := by rw [h2]; simp
  have HH2 := Aside0.mk h2
  cases h3 : l1.any beyondB with
  | true =>
    rw [if_neg (fun h => by cases h.2.2)]
    rw [h3] at QB
    clear h2 h3
    go_enter Try.func24, Try.ntmps24
    go_wp2_with fail
    refine start_ (n := 16) (S := fun W' => Below w.heap.size w W' ∧ W'.cell? ⟨w.heap.size, 0, none⟩ = some (.slice A1 l1.length c1_)) (ds := []) #[false, false, false, false, false, false, false, false, false, false, false, false, false, false, false, false] (by kernel_rfl) rfl rfl ⟨below_drew (below_alloc HB0.out _), own1 w _ _ 0 rfl⟩ (fun hHeld => ?_)
    generalize World.drew _ = W2 at *
    refine pure_ (i := 0) (N := some 8) (v := ?_) (a' := ?_) #[true, false, false, false, false, false, false, false, false, false, false, false, false, false, false, false] rfl rfl (by kernel_rfl) (fun _ _ _ h => h) (Or.inl ⟨by rfl, ?_⟩) ?_ ?_
    rotate_left
    · intro w'
      go_simp
      with_reducible rfl
    rotate_left
    · simp only [Act.put, List.setIfInBounds_toArray, List.set_cons_zero, List.set_cons_succ, i64_w, i32_w]
      rfl
    refine one_ (i := 1) (N := some 9) #[true, true, false, false, false, false, false, false, false, false, false, false, false, false, false, false] rfl rfl (by kernel_rfl) (by decide) (fun K hK => ?_)
    first | (go_at_call 44; (with_reducible refine (QM.out _ hHeld.1).mono ?_); rintro e w4 ⟨rfl, hb⟩) | (go_simp; (go_at_call 44; (with_reducible refine (QM.out _ hHeld.1).mono ?_); rintro e w4 ⟨rfl, hb⟩))
    refine hK.out _ _ (⟨below_step hHeld.1 hb, (hb.cell (World.block_lt_of_cell? _ _ hHeld.2)).trans hHeld.2⟩) (fun hHeld2 => ?_)
    clear hK K hb hHeld
    have hHeld := hHeld2
    clear hHeld2
    try simp only [Act.put, List.setIfInBounds_toArray, List.set_cons_zero, List.set_cons_succ]
    refine pure_ (i := 2) (N := some 10) (v := ?_) (a' := ?_) #[true, true, true, false, false, false, false, false, false, false, false, false, false, false, false, false] rfl rfl (by kernel_rfl) (fun _ _ _ h => h) (Or.inl ⟨by rfl, ?_⟩) ?_ ?_
    rotate_left
    · intro w'
      go_simp
      with_reducible rfl
    rotate_left
    · simp only [Act.put, List.setIfInBounds_toArray, List.set_cons_zero, List.set_cons_succ, i64_w, i32_w]
      rfl
    refine pure_ (i := 3) (N := some 11) (v := ?_) (a' := ?_) #[true, true, true, true, false, false, false, false, false, false, false, false, false, false, false, false] rfl rfl (by kernel_rfl) (fun _ _ _ h => h) (Or.inl ⟨by rfl, ?_⟩) ?_ ?_
    rotate_left
    · intro w'
      go_simp
      with_reducible rfl
    rotate_left
    · simp only [Act.put, List.setIfInBounds_toArray, List.set_cons_zero, List.set_cons_succ, i64_w, i32_w]
      rfl
    refine take_ (i := 4) (N := some 12) (v := ?_) (a' := ?_) #[true, true, true, true, true, false, false, false, false, false, false, false, false, false, false, false] rfl rfl (by kernel_rfl) (fun _ _ _ h => h) (Or.inl ⟨by rfl, ?_⟩) hHeld ?_ ?_
    rotate_left
    · rintro w' ⟨_, s0⟩
      go_simp
      with_reducible rfl
    rotate_left
    · simp only [Act.put, List.setIfInBounds_toArray, List.set_cons_zero, List.set_cons_succ, i64_w, i32_w]
      rfl
    refine pure_ (i := 5) (N := some 13) (v := ?_) (a' := ?_) #[true, true, true, true, true, true, false, false, false, false, false, false, false, false, false, false] rfl rfl (by kernel_rfl) (fun _ _ _ h => h) (Or.inl ⟨by rfl, ?_⟩) ?_ ?_
    rotate_left
    · intro w'
      go_simp
      with_reducible rfl
    rotate_left
    · simp only [Act.put, List.setIfInBounds_toArray, List.set_cons_zero, List.set_cons_succ, i64_w, i32_w]
      rfl
    refine pure_ (i := 6) (N := some 14) (v := ?_) (a' := ?_) #[true, true, true, true, true, true, true, false, false, false, false, false, false, false, false, false] rfl rfl (by kernel_rfl) (fun _ _ _ h => h) (Or.inl ⟨by rfl, ?_⟩) ?_ ?_
    rotate_left
    · intro w'
      go_simp
      with_reducible rfl
    rotate_left
    · simp only [Act.put, List.setIfInBounds_toArray, List.set_cons_zero, List.set_cons_succ, i64_w, i32_w]
      rfl
    refine one_ (i := 7) (N := some 15) #[true, true, true, true, true, true, true, true, false, false, false, false, false, false, false, false] rfl rfl (by kernel_rfl) (by decide) (fun K hK => ?_)
    first | (go_at_call 45; (with_reducible refine (QH.out _ hHeld.1).mono ?_); rintro e w4 ⟨v4, rfl, ho, hb⟩; obtain ⟨A4, c4, rfl⟩ := Kd.R_slice ho; clear ho) | (go_simp; (go_at_call 45; (with_reducible refine (QH.out _ hHeld.1).mono ?_); rintro e w4 ⟨v4, rfl, ho, hb⟩; obtain ⟨A4, c4, rfl⟩ := Kd.R_slice ho; clear ho))
    refine hK.out _ _ (⟨below_step hHeld.1 hb, (hb.cell (World.block_lt_of_cell? _ _ hHeld.2)).trans hHeld.2⟩) (fun hHeld2 => ?_)
    clear hK K hb hHeld
    have hHeld := hHeld2
    clear hHeld2
    try simp only [Act.put, List.setIfInBounds_toArray, List.set_cons_zero, List.set_cons_succ]
    refine pure_ (i := 8) (N := some 16) (v := ?_) (a' := ?_) #[true, true, true, true, true, true, true, true, true, false, false, false, false, false, false, false] rfl rfl (by kernel_rfl) (fun _ _ _ h => h) (Or.inl ⟨by rfl, ?_⟩) ?_ ?_
    rotate_left
    · intro w'
      go_simp
      with_reducible rfl
    rotate_left
    · simp only [Act.put, List.setIfInBounds_toArray, List.set_cons_zero, List.set_cons_succ, i64_w, i32_w]
      rfl
    refine pure_ (i := 9) (N := some 17) (v := ?_) (a' := ?_) #[true, true, true, true, true, true, true, true, true, true, false, false, false, false, false, false] rfl rfl (by kernel_rfl) (fun _ _ _ h => h) (Or.inl ⟨by rfl, ?_⟩) ?_ ?_
    rotate_left
    · intro w'
      go_simp
      with_reducible rfl
    rotate_left
    · simp only [Act.put, List.setIfInBounds_toArray, List.set_cons_zero, List.set_cons_succ, i64_w, i32_w]
      rfl
    refine pure_ (i := 10) (N := some 18) (v := ?_) (a' := ?_) #[true, true, true, true, true, true, true, true, true, true, true, false, false, false, false, false] rfl rfl (by kernel_rfl) (fun _ _ _ h => h) (Or.inl ⟨by rfl, ?_⟩) ?_ ?_
    rotate_left
    · intro w'
      go_simp
      with_reducible rfl
    rotate_left
    · simp only [Act.put, List.setIfInBounds_toArray, List.set_cons_zero, List.set_cons_succ, i64_w, i32_w]
      rfl
    refine pure_ (i := 11) (N := some 19) (v := ?_) (a' := ?_) #[true, true, true, true, true, true, true, true, true, true, true, true, false, false, false, false] rfl rfl (by kernel_rfl) (fun _ _ _ h => h) (Or.inl ⟨by rfl, ?_⟩) ?_ ?_
    rotate_left
    · intro w'
      go_simp
      with_reducible rfl
    rotate_left
    · simp only [Act.put, List.setIfInBounds_toArray, List.set_cons_zero, List.set_cons_succ, i64_w, i32_w]
      rfl
    refine take_ (i := 12) (N := some 20) (v := ?_) (a' := ?_) #[true, true, true, true, true, true, true, true, true, true, true, true, true, false, false, false] rfl rfl (by kernel_rfl) (fun _ _ _ h => h) (Or.inl ⟨by rfl, ?_⟩) hHeld ?_ ?_
    rotate_left
    · rintro w' ⟨_, s0⟩
      go_simp
      with_reducible rfl
    rotate_left
    · simp only [Act.put, List.setIfInBounds_toArray, List.set_cons_zero, List.set_cons_succ, i64_w, i32_w]
      rfl
    refine pure_ (i := 13) (N := some 21) (v := ?_) (a' := ?_) #[true, true, true, true, true, true, true, true, true, true, true, true, true, true, false, false] rfl rfl (by kernel_rfl) (fun _ _ _ h => h) (Or.inl ⟨by rfl, ?_⟩) ?_ ?_
    rotate_left
    · intro w'
      go_simp
      with_reducible rfl
    rotate_left
    · simp only [Act.put, List.setIfInBounds_toArray, List.set_cons_zero, List.set_cons_succ, i64_w, i32_w]
      rfl
    refine one_ (i := 14) (N := some 22) #[true, true, true, true, true, true, true, true, true, true, true, true, true, true, true, false] rfl rfl (by kernel_rfl) (by decide) (fun K hK => ?_)
    first | (go_at_call 46; (with_reducible refine (QB.out _ hHeld.1).mono ?_); rintro e w4 ⟨rfl, hb⟩) | (go_simp; (go_at_call 46; (with_reducible refine (QB.out _ hHeld.1).mono ?_); rintro e w4 ⟨rfl, hb⟩))
    refine hK.out _ _ (⟨below_step hHeld.1 hb, (hb.cell (World.block_lt_of_cell? _ _ hHeld.2)).trans hHeld.2⟩) (fun hHeld2 => ?_)
    clear hK K hb hHeld
    have hHeld := hHeld2
    clear hHeld2
    try simp only [Act.put, List.setIfInBounds_toArray, List.set_cons_zero, List.set_cons_succ]
    refine pure_ (i := 15) (N := some 23) (v := ?_) (a' := ?_) #[true, true, true, true, true, true, true, true, true, true, true, true, true, true, true, true] rfl rfl (by kernel_rfl) (fun _ _ _ h => h) (Or.inl ⟨by rfl, ?_⟩) ?_ ?_
    rotate_left
    · intro w'
      go_simp
      with_reducible rfl
    rotate_left
    · simp only [Act.put, List.setIfInBounds_toArray, List.set_cons_zero, List.set_cons_succ, i64_w, i32_w]
      rfl
    refine done_ (by kernel_rfl) ?_
    have HBe := Aside0.mk hHeld.1
    clear hHeld
    go_wp2_with fail
    refine bodyPost_ret (results_tmp2 rfl _ _ _) rfl ?_
    exact ⟨_, rfl, Kd.R_nil _ _ _ _ _, HBe.out⟩
  | false =>
    rw [if_pos ⟨rfl, h2, rfl⟩]
    rw [h3] at QB
    rw [HSt.out]
    clear h2 h3 HSt
    generalize numsL l0 = nums at *
    go_enter Try.func24, Try.ntmps24
    go_wp2_with fail
    refine start_ (n := 16) (S := fun W' => Below w.heap.size w W' ∧ W'.cell? ⟨w.heap.size, 0, none⟩ = some (.slice A1 l1.length c1_)) (ds := []) #[false, false, false, false, false, false, false, false, false, false, false, false, false, false, false, false] (by kernel_rfl) rfl rfl ⟨below_drew (below_alloc HB0.out _), own1 w _ _ 0 rfl⟩ (fun hHeld => ?_)
    generalize World.drew _ = W2 at *
    refine pure_ (i := 0) (N := some 8) (v := ?_) (a' := ?_) #[true, false, false, false, false, false, false, false, false, false, false, false, false, false, false, false] rfl rfl (by kernel_rfl) (fun _ _ _ h => h) (Or.inl ⟨by rfl, ?_⟩) ?_ ?_
    rotate_left
    · intro w'
      go_simp
      with_reducible rfl
    rotate_left
    · simp only [Act.put, List.setIfInBounds_toArray, List.set_cons_zero, List.set_cons_succ, i64_w, i32_w]
      rfl
    refine one_ (i := 1) (N := some 9) #[true, true, false, false, false, false, false, false, false, false, false, false, false, false, false, false] rfl rfl (by kernel_rfl) (by decide) (fun K hK => ?_)
    first | (go_at_call 44; (with_reducible refine (QM.out _ hHeld.1).mono ?_); rintro e w4 ⟨rfl, hb⟩) | (go_simp; (go_at_call 44; (with_reducible refine (QM.out _ hHeld.1).mono ?_); rintro e w4 ⟨rfl, hb⟩))
    refine hK.out _ _ (⟨below_step hHeld.1 hb, (hb.cell (World.block_lt_of_cell? _ _ hHeld.2)).trans hHeld.2⟩) (fun hHeld2 => ?_)
    clear hK K hb hHeld
    have hHeld := hHeld2
    clear hHeld2
    try simp only [Act.put, List.setIfInBounds_toArray, List.set_cons_zero, List.set_cons_succ]
    refine pure_ (i := 2) (N := some 10) (v := ?_) (a' := ?_) #[true, true, true, false, false, false, false, false, false, false, false, false, false, false, false, false] rfl rfl (by kernel_rfl) (fun _ _ _ h => h) (Or.inl ⟨by rfl, ?_⟩) ?_ ?_
    rotate_left
    · intro w'
      go_simp
      with_reducible rfl
    rotate_left
    · simp only [Act.put, List.setIfInBounds_toArray, List.set_cons_zero, List.set_cons_succ, i64_w, i32_w]
      rfl
    refine pure_ (i := 3) (N := some 11) (v := ?_) (a' := ?_) #[true, true, true, true, false, false, false, false, false, false, false, false, false, false, false, false] rfl rfl (by kernel_rfl) (fun _ _ _ h => h) (Or.inl ⟨by rfl, ?_⟩) ?_ ?_
    rotate_left
    · intro w'
      go_simp
      with_reducible rfl
    rotate_left
    · simp only [Act.put, List.setIfInBounds_toArray, List.set_cons_zero, List.set_cons_succ, i64_w, i32_w]
      rfl
    refine take_ (i := 4) (N := some 12) (v := ?_) (a' := ?_) #[true, true, true, true, true, false, false, false, false, false, false, false, false, false, false, false] rfl rfl (by kernel_rfl) (fun _ _ _ h => h) (Or.inl ⟨by rfl, ?_⟩) hHeld ?_ ?_
    rotate_left
    · rintro w' ⟨_, s0⟩
      go_simp
      with_reducible rfl
    rotate_left
    · simp only [Act.put, List.setIfInBounds_toArray, List.set_cons_zero, List.set_cons_succ, i64_w, i32_w]
      rfl
    refine pure_ (i := 5) (N := some 13) (v := ?_) (a' := ?_) #[true, true, true, true, true, true, false, false, false, false, false, false, false, false, false, false] rfl rfl (by kernel_rfl) (fun _ _ _ h => h) (Or.inl ⟨by rfl, ?_⟩) ?_ ?_
    rotate_left
    · intro w'
      go_simp
      with_reducible rfl
    rotate_left
    · simp only [Act.put, List.setIfInBounds_toArray, List.set_cons_zero, List.set_cons_succ, i64_w, i32_w]
      rfl
    refine pure_ (i := 6) (N := some 14) (v := ?_) (a' := ?_) #[true, true, true, true, true, true, true, false, false, false, false, false, false, false, false, false] rfl rfl (by kernel_rfl) (fun _ _ _ h => h) (Or.inl ⟨by rfl, ?_⟩) ?_ ?_
    rotate_left
    · intro w'
      go_simp
      with_reducible rfl
    rotate_left
    · simp only [Act.put, List.setIfInBounds_toArray, List.set_cons_zero, List.set_cons_succ, i64_w, i32_w]
      rfl
    refine one_ (i := 7) (N := some 15) #[true, true, true, true, true, true, true, true, false, false, false, false, false, false, false, false] rfl rfl (by kernel_rfl) (by decide) (fun K hK => ?_)
    first | (go_at_call 45; (with_reducible refine (QH.out _ hHeld.1).mono ?_); rintro e w4 ⟨v4, rfl, ho, hb⟩; obtain ⟨A4, c4, rfl⟩ := Kd.R_slice ho; clear ho) | (go_simp; (go_at_call 45; (with_reducible refine (QH.out _ hHeld.1).mono ?_); rintro e w4 ⟨v4, rfl, ho, hb⟩; obtain ⟨A4, c4, rfl⟩ := Kd.R_slice ho; clear ho))
    refine hK.out _ _ (⟨below_step hHeld.1 hb, (hb.cell (World.block_lt_of_cell? _ _ hHeld.2)).trans hHeld.2⟩) (fun hHeld2 => ?_)
    clear hK K hb hHeld
    have hHeld := hHeld2
    clear hHeld2
    try simp only [Act.put, List.setIfInBounds_toArray, List.set_cons_zero, List.set_cons_succ]
    refine pure_ (i := 8) (N := some 16) (v := ?_) (a' := ?_) #[true, true, true, true, true, true, true, true, true, false, false, false, false, false, false, false] rfl rfl (by kernel_rfl) (fun _ _ _ h => h) (Or.inl ⟨by rfl, ?_⟩) ?_ ?_
    rotate_left
    · intro w'
      go_simp
      with_reducible rfl
    rotate_left
    · simp only [Act.put, List.setIfInBounds_toArray, List.set_cons_zero, List.set_cons_succ, i64_w, i32_w]
      rfl
    refine pure_ (i := 9) (N := some 17) (v := ?_) (a' := ?_) #[true, true, true, true, true, true, true, true, true, true, false, false, false, false, false, false] rfl rfl (by kernel_rfl) (fun _ _ _ h => h) (Or.inl ⟨by rfl, ?_⟩) ?_ ?_
    rotate_left
    · intro w'
      go_simp
      with_reducible rfl
    rotate_left
    · simp only [Act.put, List.setIfInBounds_toArray, List.set_cons_zero, List.set_cons_succ, i64_w, i32_w]
      rfl
    refine pure_ (i := 10) (N := some 18) (v := ?_) (a' := ?_) #[true, true, true, true, true, true, true, true, true, true, true, false, false, false, false, false] rfl rfl (by kernel_rfl) (fun _ _ _ h => h) (Or.inl ⟨by rfl, ?_⟩) ?_ ?_
    rotate_left
    · intro w'
      go_simp
      with_reducible rfl
    rotate_left
    · simp only [Act.put, List.setIfInBounds_toArray, List.set_cons_zero, List.set_cons_succ, i64_w, i32_w]
      rfl
    refine pure_ (i := 11) (N := some 19) (v := ?_) (a' := ?_) #[true, true, true, true, true, true, true, true, true, true, true, true, false, false, false, false] rfl rfl (by kernel_rfl) (fun _ _ _ h => h) (Or.inl ⟨by rfl, ?_⟩) ?_ ?_
    rotate_left
    · intro w'
      go_simp
      with_reducible rfl
    rotate_left
    · simp only [Act.put, List.setIfInBounds_toArray, List.set_cons_zero, List.set_cons_succ, i64_w, i32_w]
      rfl
    refine take_ (i := 12) (N := some 20) (v := ?_) (a' := ?_) #[true, true, true, true, true, true, true, true, true, true, true, true, true, false, false, false] rfl rfl (by kernel_rfl) (fun _ _ _ h => h) (Or.inl ⟨by rfl, ?_⟩) hHeld ?_ ?_
    rotate_left
    · rintro w' ⟨_, s0⟩
      go_simp
      with_reducible rfl
    rotate_left
    · simp only [Act.put, List.setIfInBounds_toArray, List.set_cons_zero, List.set_cons_succ, i64_w, i32_w]
      rfl
    refine pure_ (i := 13) (N := some 21) (v := ?_) (a' := ?_) #[true, true, true, true, true, true, true, true, true, true, true, true, true, true, false, false] rfl rfl (by kernel_rfl) (fun _ _ _ h => h) (Or.inl ⟨by rfl, ?_⟩) ?_ ?_
    rotate_left
    · intro w'
      go_simp
      with_reducible rfl
    rotate_left
    · simp only [Act.put, List.setIfInBounds_toArray, List.set_cons_zero, List.set_cons_succ, i64_w, i32_w]
      rfl
    refine one_ (i := 14) (N := some 22) #[true, true, true, true, true, true, true, true, true, true, true, true, true, true, true, false] rfl rfl (by kernel_rfl) (by decide) (fun K hK => ?_)
    first | (go_at_call 46; (with_reducible refine (QB.out _ hHeld.1).mono ?_); rintro e w4 ⟨rfl, hb⟩) | (go_simp; (go_at_call 46; (with_reducible refine (QB.out _ hHeld.1).mono ?_); rintro e w4 ⟨rfl, hb⟩))
    refine hK.out _ _ (⟨below_step hHeld.1 hb, (hb.cell (World.block_lt_of_cell? _ _ hHeld.2)).trans hHeld.2⟩) (fun hHeld2 => ?_)
    clear hK K hb hHeld
    have hHeld := hHeld2
    clear hHeld2
    try simp only [Act.put, List.setIfInBounds_toArray, List.set_cons_zero, List.set_cons_succ]
    refine pure_ (i := 15) (N := some 23) (v := ?_) (a' := ?_) #[true, true, true, true, true, true, true, true, true, true, true, true, true, true, true, true] rfl rfl (by kernel_rfl) (fun _ _ _ h => h) (Or.inl ⟨by rfl, ?_⟩) ?_ ?_
    rotate_left
    · intro w'
      go_simp
      with_reducible rfl
    rotate_left
    · simp only [Act.put, List.setIfInBounds_toArray, List.set_cons_zero, List.set_cons_succ, i64_w, i32_w]
      rfl
    refine done_ (by kernel_rfl) ?_
    have HBe := Aside0.mk hHeld.1
    have hce := hHeld.2
    clear hHeld
    go_wp2_with (go_at_call 34; (with_reducible refine (QN.out _ HBe.out).mono ?_); rintro e w6 ⟨v6, rfl, ho, hb⟩; obtain ⟨A6, c6, rfl⟩ := Kd.R_slice ho; have HB6 := Aside0.mk (below_step HBe.out hb); have HN6 := Aside0.mk (Kd.R_reads' ho).2.2; have hc6 := (hb.cell (World.block_lt_of_cell? _ _ hce)).trans hce; clear ho hb hce)
    have hA : Below w6.heap.size w6 (w6.alloc (.cells #[.slice A6 nums.length c6] 27)) := below_alloc (Below.refl w6.heap.size w6) _
    have hB2 : (w6.alloc (.cells #[.slice A6 nums.length c6] 27)).cell? ⟨w6.heap.size, 0, none⟩ = some (.slice A6 nums.length c6) := (blk_cell (MapKept.heap_alloc w6 _).1 0).trans rfl
    have hB1 := (hA.cell (World.block_lt_of_cell? w6 _ hc6)).trans hc6
    have HBa := Aside0.mk (below_step HB6.out hA)
    have QE := Aside0.mk (each_calls (fun i => startAt l1 nums (rd_T42 l0 i) i) l0 (by have := HL.out; omega) A0 c0 w.heap.size w6.heap.size _ (Kd.C_below HR0.out HBa.out) (fun i s h0 h1 hs W hb => by
      rw [← hs]
      have hni := HNin.out _ (rd_mem' nums i h0 (by rw [HNl.out]; exact h1))
      exact add_calls l1 nums _ i h0 (by rw [HNl.out]; exact h1) hni.1 (by rw [HH2.out]; exact hni.2) A1 A6 c1_ c6 w.heap.size w6.heap.size W (Kd.C_below HR1.out (below_step HBa.out hb)) (Kd.C_below HN6.out (below_step hA hb)) ((hb.cell (World.block_lt_of_cell? _ _ hB1)).trans hB1) ((hb.cell (World.block_lt_of_cell? _ _ hB2)).trans hB2)))
    clear hA hB1 hB2 hc6
    go_wp2_with (go_at_call 47; (with_reducible refine QE.out.mono ?_); rintro e w7 ⟨v7, rfl, ho, hb⟩; have HO7 := Aside0.mk (Kd.R_lower ho HBa.out.size); have HB7 := Aside0.mk (below_step HBa.out hb); clear ho hb)
    refine bodyPost_ret (results_tmp2 rfl _ _ _) rfl ?_
    exact ⟨_, rfl, HO7.out, HB7.out⟩
end Go.Proofs.Ytjgpggjjgimibaa.L

/- bound.All: the closure, slices.IndexFunc and ContainsFunc over edges. -/
namespace Go.Proofs.Ytjgpggjjgimibaa.L
open Go.RowKit Go.Proofs.Ytjgpggjjgimibaa.Q Go.Proofs.YtjgpggjjgimibaaW.PrintWords Go.Proofs.YtjgpggjjgimibaaW.PrintLast Go.Proofs.YtjgpggjjgimibaaW.PrintMore Go.Proofs.YtjgpggjjgimibaaW.MapB Go.Proofs.YtjgpggjjgimibaaW.Lib
set_option linter.unusedVariables false
set_option linter.unusedSimpArgs false
end Go.Proofs.Ytjgpggjjgimibaa.L

/- relax.May: which edges may be. -/
namespace Go.Proofs.Ytjgpggjjgimibaa.L
open Go.RowKit Go.Proofs.Ytjgpggjjgimibaa.Q Go.Proofs.YtjgpggjjgimibaaW.PrintWords Go.Proofs.YtjgpggjjgimibaaW.PrintLast Go.Proofs.YtjgpggjjgimibaaW.PrintMore Go.Proofs.YtjgpggjjgimibaaW.MapB Go.Proofs.YtjgpggjjgimibaaW.Lib
set_option linter.unusedVariables false
set_option linter.unusedSimpArgs false
/-- What is no edge of n hosts. -/
def badE (n : Int) (e : S37) : Bool := decide (min e.f0 e.f1 < 0) || (decide (n ≤ max e.f0 e.f1) || (decide (4503599627370496 < e.f2) || decide (e.f2 < -4503599627370496)))
theorem keep1r {w : World} {a : Addr} {v : Value} {o1 : Obj} (h : w.cell? a = some v) : (w.alloc o1).cell? a = some v :=
  ((below_alloc (Below.refl w.heap.size w) o1).cell (World.block_lt_of_cell? w _ h)).trans h
set_option maxRecDepth 100000 in
set_option maxHeartbeats 2000000 in
theorem bad_calls (n : Int) (B : Nat) (e : S37) (w : World) (hc : w.cell? ⟨B, 0, none⟩ = some (.int .i64 n)) : Calls Try.prog 93 #[.agg #[.int .i64 e.f0, .int .i64 e.f1, .int .i64 e.f2, .int .i64 e.f3.f0, .int .i64 e.f3.f1, .bool e.f4], .pointer (some ⟨B, 0, none⟩)] w fun r w' => r = .returned (.bool (badE n e)) ∧ Below w.heap.size w w' := by
  have HB := Aside0.mk (Below.refl w.heap.size w)
  have hk := fun o => keep1r (o1 := o) hc
  clear hc
  unfold badE
  cases c1 : decide (min e.f0 e.f1 < 0) with
  | true =>
    go_enter Try.func93, Try.ntmps93
    go_wp2_with fail
    go_ret
    exact ⟨rfl, below_alloc HB.out _⟩
  | false =>
  cases c2 : decide (n ≤ max e.f0 e.f1) with
  | true =>
    go_enter Try.func93, Try.ntmps93
    go_wp2_with fail
    go_ret
    exact ⟨rfl, below_alloc HB.out _⟩
  | false =>
  cases c3 : decide (4503599627370496 < e.f2) with
  | true =>
    go_enter Try.func93, Try.ntmps93
    go_wp2_with fail
    go_ret
    exact ⟨rfl, below_alloc HB.out _⟩
  | false =>
  cases c4 : decide (e.f2 < -4503599627370496) with
  | true =>
    go_enter Try.func93, Try.ntmps93
    go_wp2_with fail
    go_ret
    exact ⟨rfl, below_alloc HB.out _⟩
  | false =>
    go_enter Try.func93, Try.ntmps93
    go_wp2_with fail
    go_ret
    exact ⟨rfl, below_alloc HB.out _⟩
set_option maxHeartbeats 4000000 in
set_option maxRecDepth 100000 in
theorem edgemay_index (n : Int) (B : Nat) (es : List S37) (hn : es.length ≤ 1000000000) (A0 : Option Addr) (c0 : Nat) (w : World) (hr0 : Kd.C k37 w A0 es.length es)
    (QL0 : ∀ e ∈ es, ∀ W, Below w.heap.size w W → Calls Try.prog 93 #[.agg #[.int .i64 e.f0, .int .i64 e.f1, .int .i64 e.f2, .int .i64 e.f3.f0, .int .i64 e.f3.f1, .bool e.f4], .pointer (some ⟨B, 0, none⟩)] W fun r w' => r = .returned (.bool ((badE n) e)) ∧ Below W.heap.size W w') :
    Calls Try.prog 59 #[.slice A0 es.length c0, .func (.func 93) #[] #[.pointer (some ⟨B, 0, none⟩)]] w fun r w' => ∃ i : Int, r = .returned (.int .i64 i) ∧ decide (0 ≤ i) = es.any (badE n) ∧ Below w.heap.size w w' := by
  have HB0 := Aside0.mk (Below.refl w.heap.size w)
  have HR0 := Aside0.mk hr0
  have HN := Aside0.mk hn
  have QL := Aside0.mk QL0
  clear hr0 hn QL0
  generalize hpp : (badE n) = pp at *
  clear hpp
  go_enter Try.func59, Try.ntmps59
  go_wp2_with fail
  go_loopg [8] es.length (fun kq v8 w' => ∃ x8 : Int, v8 = .int .i64 x8 ∧ Aside0 (0 ≤ x8 ∧ x8 + kq = es.length) ∧ Aside0 (∀ e ∈ es.take x8.toNat, pp e = false) ∧ Aside0 (Below w.heap.size w w'))
  case atStart => exact ⟨0, rfl, ⟨by omega, by omega⟩, ⟨by simp⟩, HB0⟩
  case round =>
    obtain ⟨x8, rfl, HK, HA, HB⟩ := hrel
    by_cases c1 : x8 < (es.length : Int)
    · have c1b := decide_eq_true c1
      have p1 : 0 ≤ x8 := HK.out.1
      obtain ⟨ad, e1, hx0, hx1, hx2, hx3, hx4, hx5⟩ := at_T37 HR0.out x8 p1 c1
      cases e1
      replace hx0 := (HB.out.cell (World.block_lt_of_cell? w _ hx0)).trans hx0
      replace hx1 := (HB.out.cell (World.block_lt_of_cell? w _ hx1)).trans hx1
      replace hx2 := (HB.out.cell (World.block_lt_of_cell? w _ hx2)).trans hx2
      replace hx3 := (HB.out.cell (World.block_lt_of_cell? w _ hx3)).trans hx3
      replace hx4 := (HB.out.cell (World.block_lt_of_cell? w _ hx4)).trans hx4
      replace hx5 := (HB.out.cell (World.block_lt_of_cell? w _ hx5)).trans hx5
      have hit : x8.toNat < es.length := by omega
      have hev : rd_T37 es x8 = es[x8.toNat] := by simp [rd_T37, List.getD, hit]
      have hem : rd_T37 es x8 ∈ es := by rw [hev]; exact List.getElem_mem _
      have HE := Aside0.mk (show es.take (x8 + 1).toNat = es.take x8.toNat ++ [rd_T37 es x8] from by
        rw [show (x8 + 1).toNat = x8.toNat + 1 by omega, List.take_succ_eq_append_getElem hit, hev])
      have QE := Aside0.mk (QL.out _ hem wr HB.out)
      have HM := Aside0.mk hem
      have P1 := Aside0.mk p1
      have Q1 := Aside0.mk c1
      have W1 := Aside0.mk (show wrap64 (x8 + 1) = x8 + 1 from by unfold wrap64; have := HN.out; have := P1.out; have := Q1.out; omega)
      clear hev hem hit
      generalize rd_T37 es x8 = e at *
      replace p1 := eq_true p1
      replace c1 := eq_true c1
      obtain ⟨k1, rfl⟩ : ∃ k1, gk = k1 + 1 := ⟨gk - 1, by have := HK.out; have := Q1.out; omega⟩
      cases hq : pp e with
      | false =>
        rw [hq] at QE
        have HQ := Aside0.mk hq
        clear hq
        go_wp2_with (go_at_call 93; refine QE.out.mono ?_; rintro r w1 ⟨rfl, hb⟩; have HB1 := Aside0.mk (below_step HB.out hb); clear hb)
        go_roundg k1
        case measure => omega
        case rel => exact ⟨x8 + 1, by rw [W1.out], ⟨by have := P1.out; omega, by have := HK.out; omega⟩, ⟨by
          rw [HE.out]
          intro y hy
          rcases List.mem_append.1 hy with h | h
          · exact HA.out y h
          · rw [List.mem_singleton.1 h]; exact HQ.out⟩, HB1⟩
      | true =>
        rw [hq] at QE
        have HQ := Aside0.mk hq
        clear hq
        go_wp2_with (go_at_call 93; refine QE.out.mono ?_; rintro r w1 ⟨rfl, hb⟩; have HB1 := Aside0.mk (below_step HB.out hb); clear hb)
        go_ret
        refine ⟨x8, rfl, ?_, HB1.out⟩
        rw [decide_eq_true P1.out]
        exact (List.any_eq_true.2 ⟨e, HM.out, HQ.out⟩).symm
    · have c1b := decide_eq_false c1
      have hx : x8.toNat = es.length := by have := HK.out; omega
      have ha := HA.out
      rw [hx, List.take_length] at ha
      have HAll := Aside0.mk ha
      clear ha hx c1
      go_wp2_with fail
      go_ret
      refine ⟨-1, rfl, ?_, HB.out⟩
      exact (List.any_eq_false.2 (fun e he => by rw [HAll.out e he]; simp)).symm
set_option maxHeartbeats 2000000 in
set_option maxRecDepth 100000 in
theorem edgemay_contains (n : Int) (B : Nat) (es : List S37) (hn : es.length ≤ 1000000000) (A0 : Option Addr) (c0 : Nat) (w : World) (hr0 : Kd.C k37 w A0 es.length es)
    (QL0 : ∀ e ∈ es, ∀ W, Below w.heap.size w W → Calls Try.prog 93 #[.agg #[.int .i64 e.f0, .int .i64 e.f1, .int .i64 e.f2, .int .i64 e.f3.f0, .int .i64 e.f3.f1, .bool e.f4], .pointer (some ⟨B, 0, none⟩)] W fun r w' => r = .returned (.bool ((badE n) e)) ∧ Below W.heap.size W w') :
    Calls Try.prog 39 #[.slice A0 es.length c0, .func (.func 93) #[] #[.pointer (some ⟨B, 0, none⟩)]] w fun r w' => r = .returned (.bool (es.any (badE n))) ∧ Below w.heap.size w w' := by
  have HB0 := Aside0.mk (Below.refl w.heap.size w)
  have QI := Aside0.mk (edgemay_index n B es hn A0 c0 w hr0 QL0)
  clear hn hr0 QL0
  go_enter Try.func39, Try.ntmps39
  go_wp2_with (go_at_call 59; refine QI.out.mono ?_; rintro r w1 ⟨i, rfl, hd, hb⟩; have HD := Aside0.mk hd; have HB2 := Aside0.mk hb; clear hb hd)
  go_ret
  refine ⟨?_, HB2.out⟩
  rw [← HD.out]
  rfl
/-- Which edges may be. -/
def rmayB (n : Int) (es : List S37) : Bool := if 0 ≤ n ∧ n ≤ 32 then !es.any (badE n) else false
set_option maxRecDepth 100000 in
set_option maxHeartbeats 2000000 in
theorem rmayE_calls (n : Int) (es : List S37) (hn : es.length ≤ 1000000000) (A0 : Option Addr) (c0 : Nat) (w : World) (hr0 : Kd.C k37 w A0 es.length es) :
    Calls Try.prog 75 #[.int .i64 n, .slice A0 es.length c0] w fun r w' => r = .returned (.bool (rmayB n es)) ∧ Below w.heap.size w w' := by
  have hmf : ∀ (fn : Fn) (first cap : Array Value) (w : World), (Instr.makeFunc fn first cap).run Try.prog w = .ok (.func fn first cap) w := fun _ _ _ _ => rfl
  have HB := Aside0.mk (Below.refl w.heap.size w)
  have hb1 := below_alloc HB.out (.cells #[.int .i64 n] 3)
  have hcell : (w.alloc (.cells #[.int .i64 n] 3)).cell? ⟨w.heap.size, 0, none⟩ = some (.int .i64 n) := (blk_cell (MapKept.heap_alloc w _).1 0).trans rfl
  have QC := Aside0.mk (edgemay_contains n w.heap.size es hn A0 c0 _ (Kd.C_below hr0 hb1) (fun e he W hb => bad_calls n w.heap.size e W ((hb.cell (World.block_lt_of_cell? _ _ hcell)).trans hcell)))
  have HB1 := Aside0.mk hb1
  clear hb1 hcell hn hr0
  by_cases h0 : n < 0
  · have hv : rmayB n es = false := by unfold rmayB; rw [if_neg (by omega)]
    rw [hv]
    have b0 := decide_eq_true h0
    clear h0 hv
    go_enter Try.func75, Try.ntmps75
    go_wp2_with fail
    go_ret
    exact ⟨rfl, below_alloc HB.out _⟩
  by_cases h1 : 32 < n
  · have hv : rmayB n es = false := by unfold rmayB; rw [if_neg (by omega)]
    rw [hv]
    have b0 := decide_eq_false h0
    have b1 := decide_eq_true h1
    clear h0 h1 hv
    go_enter Try.func75, Try.ntmps75
    go_wp2_with fail
    go_ret
    exact ⟨rfl, below_alloc HB.out _⟩
  have hv : rmayB n es = !es.any (badE n) := by unfold rmayB; rw [if_pos ⟨by omega, by omega⟩]
  rw [hv]
  have b0 := decide_eq_false h0
  have b1 := decide_eq_false h1
  clear h0 h1 hv
  generalize es.any (badE n) = r at *
  go_enter Try.func75, Try.ntmps75
  go_wp2_with (go_at_call 39; refine QC.out.mono ?_; rintro e w1 ⟨rfl, hb⟩; have HB2 := Aside0.mk (below_step HB1.out hb); clear hb)
  go_ret
  exact ⟨rfl, HB2.out⟩
end Go.Proofs.Ytjgpggjjgimibaa.L

-- Written by wip/tools/gp.py, a program of this session round the kit's printer. Lean checks it.
namespace Go.Proofs.Ytjgpggjjgimibaa.B
open Go.RowKit Go.Proofs.Ytjgpggjjgimibaa.Q Go.Proofs.YtjgpggjjgimibaaW.PrintWords Go.Proofs.YtjgpggjjgimibaaW.PrintLast Go.Proofs.YtjgpggjjgimibaaW.PrintMore
attribute [local go_sem] max2_int min2_int max_two min_two max_three min_three max_four min_four   -- for this text's walks alone
set_option linter.unusedVariables false
set_option linter.unusedSimpArgs false




-- the values' own types

end Go.Proofs.Ytjgpggjjgimibaa.B

-- Written by wip/tools/gp.py, a program of this session round the kit's printer. Lean checks it.
namespace Go.Proofs.Ytjgpggjjgimibaa.B
open Go.RowKit Go.Proofs.Ytjgpggjjgimibaa.Q Go.Proofs.YtjgpggjjgimibaaW.PrintWords Go.Proofs.YtjgpggjjgimibaaW.PrintLast Go.Proofs.YtjgpggjjgimibaaW.PrintMore
attribute [local go_sem] max2_int min2_int max_two min_two max_three min_three max_four min_four   -- for this text's walks alone
set_option linter.unusedVariables false
set_option linter.unusedSimpArgs false
/-! ### bits_Mul64: function 106 -/
def bits_Mul64.f (a0 : Int) (a1 : Int) : Option (Int × Int) := some (IntKind.u64.wrap ((IntKind.u64.wrap ((IntKind.u64.wrap ((a0 / 4294967296) * (a1 / 4294967296))) + ((IntKind.u64.wrap ((IntKind.u64.wrap ((a0 / 4294967296) * (Go.bits .and .u64 a1 4294967295))) + ((IntKind.u64.wrap ((Go.bits .and .u64 a0 4294967295) * (Go.bits .and .u64 a1 4294967295))) / 4294967296))) / 4294967296))) + ((IntKind.u64.wrap ((Go.bits .and .u64 (IntKind.u64.wrap ((IntKind.u64.wrap ((a0 / 4294967296) * (Go.bits .and .u64 a1 4294967295))) + ((IntKind.u64.wrap ((Go.bits .and .u64 a0 4294967295) * (Go.bits .and .u64 a1 4294967295))) / 4294967296))) 4294967295) + (IntKind.u64.wrap ((Go.bits .and .u64 a0 4294967295) * (a1 / 4294967296))))) / 4294967296)), IntKind.u64.wrap (a0 * a1))
set_option maxHeartbeats 8000000 in
set_option maxRecDepth 100000 in
theorem bits_Mul64.calls (a0 : Int) (a1 : Int) (r1 : Int) (r2 : Int) (w : World) (h : bits_Mul64.f a0 a1 = some (r1, r2)) :
    Calls Try.prog 106 #[.int .u64 a0, .int .u64 a1] w fun e w' => e = .returned (.tuple #[.int .u64 r1, .int .u64 r2]) ∧ Drawn0 w w' := by
  have H : (some (IntKind.u64.wrap ((IntKind.u64.wrap ((IntKind.u64.wrap ((a0 / 4294967296) * (a1 / 4294967296))) + ((IntKind.u64.wrap ((IntKind.u64.wrap ((a0 / 4294967296) * (Go.bits .and .u64 a1 4294967295))) + ((IntKind.u64.wrap ((Go.bits .and .u64 a0 4294967295) * (Go.bits .and .u64 a1 4294967295))) / 4294967296))) / 4294967296))) + ((IntKind.u64.wrap ((Go.bits .and .u64 (IntKind.u64.wrap ((IntKind.u64.wrap ((a0 / 4294967296) * (Go.bits .and .u64 a1 4294967295))) + ((IntKind.u64.wrap ((Go.bits .and .u64 a0 4294967295) * (Go.bits .and .u64 a1 4294967295))) / 4294967296))) 4294967295) + (IntKind.u64.wrap ((Go.bits .and .u64 a0 4294967295) * (a1 / 4294967296))))) / 4294967296)), IntKind.u64.wrap (a0 * a1))) = some (r1, r2) := h
  clear h
  simp only [Option.some.injEq, Prod.mk.injEq] at H
  obtain ⟨rfl, rfl⟩ := H
  go_enter Try.func106, Try.ntmps106
  go_wp2
  go_ret2
  exact ⟨by first | rfl | (simp; done) | (simp [*]; done), by repeat (first | exact Drawn0.refl _ | apply Drawn0.step)⟩

/-! ### bits_Mul: function 103 -/
def bits_Mul.f (a0 : Int) (a1 : Int) : Option (Int × Int) := (bits_Mul64.f a0 a1).bind fun bt101 => (some (bt101.1, bt101.2))
set_option maxHeartbeats 8000000 in
set_option maxRecDepth 100000 in
theorem bits_Mul.calls (a0 : Int) (a1 : Int) (r1 : Int) (r2 : Int) (w : World) (h : bits_Mul.f a0 a1 = some (r1, r2)) :
    Calls Try.prog 103 #[.int .u64 a0, .int .u64 a1] w fun e w' => e = .returned (.tuple #[.int .u64 r1, .int .u64 r2]) ∧ Drawn0 w w' := by
  have H : ((bits_Mul64.f a0 a1).bind fun bt101 => (some (bt101.1, bt101.2))) = some (r1, r2) := h
  clear h
  replace H := Option.bind_eq_some_iff.mp H
  obtain ⟨⟨t101, t102⟩, A30, H⟩ := H
  replace H : (some (t101, t102)) = some (r1, r2) := H
  have A3 := Aside0.mk A30
  clear A30
  simp only [Option.some.injEq, Prod.mk.injEq] at H
  obtain ⟨rfl, rfl⟩ := H
  go_enter Try.func103, Try.ntmps103
  go_wp2_with (first | ((with_reducible refine gate_callee (f := 106) rfl ?_); refine goesL_ (some 25) rfl rfl Try.func106 (by kernel_rfl) rfl #[.int .u64 a0, .int .u64 a1] rfl (by (try simp only [List.map_toArray, List.map_cons, List.map_nil]); first | done | rfl | (simp only [List.length_drop, List.length_take]; rfl)) ?_; (with_reducible refine (bits_Mul64.calls a0 a1 t101 t102 _ A3.out).mono ?_); rintro e w' ⟨rfl, ⟨nd, rfl⟩⟩; refine ⟨_, rfl, ?_⟩))
  go_ret2
  exact ⟨by first | rfl | (simp; done) | (simp [*]; done), by repeat (first | exact Drawn0.refl _ | apply Drawn0.step)⟩

end Go.Proofs.Ytjgpggjjgimibaa.B

/- slices.Clone, slices.Repeat, relax.row. -/
namespace Go.Proofs.Ytjgpggjjgimibaa.L
open Go.RowKit Go.Proofs.Ytjgpggjjgimibaa.Q Go.Proofs.YtjgpggjjgimibaaW.PrintWords Go.Proofs.YtjgpggjjgimibaaW.PrintLast Go.Proofs.YtjgpggjjgimibaaW.PrintMore Go.Proofs.YtjgpggjjgimibaaW.MapB Go.Proofs.YtjgpggjjgimibaaW.Lib
set_option linter.unusedVariables false
set_option linter.unusedSimpArgs false
set_option maxHeartbeats 1000000 in
theorem clone64_calls (l : List Int) (hl : l.length ≤ 17592186044416) (A : Option Addr) (c : Nat) (w : World) (hr : Kd.C (Kd.int .i64) w A l.length l) (hc : l.length ≤ c) :
    Calls Try.prog 96 #[.slice A l.length c] w fun e w' => ∃ v : Value, e = .returned v ∧ Kd.R (Kd.int .i64) 2 w' w.heap.size (fun _ => True) v l ∧ Below w.heap.size w w' := by
  have q : ∀ (w : World) (a : Option Addr) (n c n' c' : Nat), (binOp .eql 33 (.slice a n c) (.slice none n' c')).run Try.prog w = .ok (.bool a.isNone) w := fun w a n c n' c' => Go.Lib.run_eql_slice_nil w _ _ a n c n' c' Try.underlying33
  cases A with
  | none =>
    have h0 : l = [] := by
      cases l with
      | nil => rfl
      | cons x l => obtain ⟨ad, h, _⟩ := hr.2.2 (by simp); exact absurd h (by simp)
    subst h0
    go_enter Try.func96, Try.ntmps96
    go_wp2
    go_ret
    exact ⟨_, rfl, Kd.R_nil _ _ _ _ _, Below.refl _ _⟩
  | some ad =>
    have HR0 := Aside0.mk hr
    clear hr
    have HL := Aside0.mk hl
    clear hl
    go_enter Try.func96, Try.ntmps96
    go_wp2_with (first
      | ((with_reducible refine gate_dst (N := 5) rfl ?_); refine Kd.R_lit (Kd.int .i64) _ 2 ?hg (N := 5) ?hd (xs := ([] : List Int)) (inner := []) (ok := fun _ => True) (okp := fun _ => True) ?hr ?hp (fun _ hk => hk) trivial (Below.refl _ _) (Nat.le_refl _) (by simp) ?_; (case hd => rfl); (case hg => rfl); (case hr => first | (go_simp; done) | (go_simp; rfl)); (case hp => exact (Reps.none _ _)); intro v1 w1 ho hb hg_ hnew_; clear hg_ hnew_; have HO := Aside0.mk ho; have HB := Aside0.mk hb; clear ho hb)
      | ((with_reducible refine gate_builtin (b := .append) (xs := #[.tmp 5, .tmp 6]) rfl ?_); at_builtin; refine Kd.R_append_rows (Kd.int .i64) (w0 := w) w.heap.size rfl (.tmp 5) (.tmp 6) 33 2 (.int .i64 0) 8 rfl Try.underlying33 (by kernel_rfl) rfl (by decide) (by omega) v1 [] l _ _ _ (fun _ => True) (fun _ => False) rfl rfl ?aO ?aR (fun _ _ h => h) (fun _ h => h.elim) ?aF ?aB ?aS ?aL ?_; (case aR => exact (Kd.C_below HR0.out HB.out)); (case aB => exact HB.out); (case aF => exact (fun _ _ => trivial)); (case aO => exact HO.out); (case aS => exact HB.out.size); (case aL => have := HL.out; simp only [List.length_nil]; omega); intro v2 w2 ho hb hg hat; rw [List.nil_append] at ho; have HB2 := Aside0.mk hb; have HO2 := Aside0.mk ho; clear ho hb hg hat))
    go_ret
    exact ⟨_, rfl, HO2.out, HB2.out⟩
theorem heap_made (W : World) (z : Value) (n : Nat) (e : TypeId) : (W.alloc (.cells (madeCells #[z] n) e)).heap[W.heap.size]? = some (.cells (List.replicate n z).toArray e (0, 0)) := by
  have h := (MapKept.heap_alloc W (.cells (madeCells #[z] n) e)).1
  have e1 : madeCells #[z] n = (List.replicate n z).toArray := by
    apply Array.ext
    · simp [madeCells]
    · intro i h1 h2
      simp [madeCells, Nat.mod_one]
  exact h.trans (by rw [e1])
theorem rep_cells {w : World} (v : Value) (m : Nat) (ad : Addr) (u : World) (hm : m ≤ 1) (h : u.cell? ad = some v) : ∀ (j : Nat) (x : Value), (List.replicate m v)[j]? = some x → u.cell? (ad.add j) = some x := by
  intro j x hx
  have hj : j < m := by
    rcases Nat.lt_or_ge j m with h | h
    · exact h
    · rw [List.getElem?_eq_none (by rw [List.length_replicate]; exact h)] at hx; cases hx
  obtain rfl : j = 0 := by omega
  rw [List.getElem?_replicate, if_pos hj] at hx
  cases hx
  rw [Addr.add_zero']
  exact h
theorem rep_src {w : World} {g m k : Nat} {x : Value} {zs : List Value} {e : TypeId} (h : w.heap[g]? = some (.cells (List.replicate m x ++ zs).toArray e (0, 0))) (hk : k ≤ m) : ∀ (j : Nat) (v : Value), (List.replicate k x)[j]? = some v → w.drew.cell? ((⟨g, 0, none⟩ : Addr).add j) = some v := by
  intro j v hv
  have hj : j < k := by
    rcases Nat.lt_or_ge j k with h | h
    · exact h
    · rw [List.getElem?_eq_none (by rw [List.length_replicate]; exact h)] at hv; cases hv
  rw [List.getElem?_replicate, if_pos hj] at hv
  cases hv
  have h2 := blk_cell h j
  have e1 : ((⟨g, 0, none⟩ : Addr).add j) = ⟨g, j, none⟩ := by rw [Addr.add_lit, Nat.zero_add]
  rw [e1]
  refine Eq.trans (show w.drew.cell? ⟨g, j, none⟩ = w.cell? ⟨g, j, none⟩ from rfl) (h2.trans ?_)
  simp [List.getElem?_append_left, List.length_replicate, show j < m by omega]
theorem own_rep {w : World} {g n base : Nat} {v : Value} {e : TypeId} (hg : w.heap[g]? = some (.cells (List.replicate n v).toArray e (0, 0))) (hb : base ≤ g) (hn : n ≤ 1000000) : w.ownsRow base e 1 (.slice (some ⟨g, 0, none⟩) n n) n (List.replicate n v) := by
  have hm : n ≤ Go.maxLen := Nat.le_trans hn (by decide)
  exact ⟨by rw [List.length_replicate, Nat.mul_one], .inr ⟨g, n, _, rfl, hb, hg, Nat.le_refl _, hm, by simp, by simp⟩⟩
theorem splice_rep0 (n k : Nat) (x z : Value) (h : k ≤ n) : Go.splice (List.replicate n z) 0 (List.replicate k x) = List.replicate k x ++ List.replicate (n - k) z := by
  unfold Go.splice
  rw [List.take_zero, List.nil_append, List.length_replicate, List.drop_replicate, Nat.zero_add]
theorem splice_rep (n m k : Nat) (x z : Value) (h : m + k ≤ n) : Go.splice (List.replicate m x ++ List.replicate (n - m) z) m (List.replicate k x) = List.replicate (m + k) x ++ List.replicate (n - (m + k)) z := by
  unfold Go.splice
  rw [List.length_replicate, List.take_append_of_le_length (by rw [List.length_replicate]; omega), List.take_replicate, Nat.min_self, List.drop_append, List.length_replicate, List.drop_of_length_le (l := List.replicate m x) (by rw [List.length_replicate]; omega), List.nil_append, List.drop_replicate, ← List.append_assoc, List.replicate_append_replicate]
  congr 2
  omega
theorem mul1_f (n : Nat) (h : n < 4294967296) : B.bits_Mul.f 1 (n : Int) = some (0, (n : Int)) := by
  have e1 : Go.bits .and .u64 1 4294967295 = 1 := by decide +kernel
  have e2 : Go.bits .and .u64 (n : Int) 4294967295 = (n : Int) := by
    rw [show (4294967295 : Int) = ((4294967295 : Nat) : Int) from rfl, bits_and_u64_nat n 4294967295 (by omega) (by decide)]
    rw [show 4294967295 = 2 ^ 32 - 1 by decide, Nat.and_two_pow_sub_one_eq_mod, Nat.mod_eq_of_lt (by omega)]
  have e0 : Go.bits .and .u64 0 4294967295 = 0 := by decide +kernel
  have e3 : (n : Int) / 4294967296 = 0 := by omega
  have e4 : (1 : Int) / 4294967296 = 0 := by decide
  have w0 : IntKind.u64.wrap 0 = 0 := by decide
  have wn : IntKind.u64.wrap (n : Int) = (n : Int) := by simp [IntKind.wrap, IntKind.signed, IntKind.bits]; omega
  unfold B.bits_Mul.f B.bits_Mul64.f
  simp only [e1, e2, e3, e4, Int.zero_mul, Int.mul_zero, Int.one_mul, w0, wn, Int.zero_add, Int.add_zero, e0, Option.bind_some, Int.zero_ediv]
theorem mul1_calls (n : Nat) (h : n < 4294967296) (w : World) : Calls Try.prog 103 #[.int .u64 1, .int .u64 (n : Int)] w fun e w' => e = .returned (.tuple #[.int .u64 0, .int .u64 (n : Int)]) ∧ Below w.heap.size w w' := by
  refine (B.bits_Mul.calls 1 n 0 n w (mul1_f n h)).mono ?_
  rintro e w' ⟨rfl, hd⟩
  exact ⟨rfl, hd.below⟩
set_option maxHeartbeats 4000000 in
set_option maxRecDepth 100000 in
theorem rep64_calls (x : Int) (n : Nat) (hn : n ≤ 1000000) (A0 : Option Addr) (c0 : Nat) (w : World) (hr0 : Kd.C (Kd.int .i64) w A0 1 [x]) :
    Calls Try.prog 94 #[.slice A0 1 c0, .int .i64 (n : Int)] w fun e w' => ∃ v : Value, e = .returned v ∧ Kd.R (Kd.int .i64) 2 w' w.heap.size (fun _ => True) v (List.replicate n x) ∧ Below w.heap.size w w' := by
  have HB := Aside0.mk (Below.refl w.heap.size w)
  obtain ⟨ad, e1, hx⟩ := Kd.at_int hr0 0 (by decide) (by decide)
  cases e1
  have hx0 : rd [x] 0 = x := rfl
  rw [hx0, show ad.add (Int.toNat 0) = ad from Addr.add_zero' _] at hx
  have HX := Aside0.mk hx
  have QM := Aside0.mk (fun W => mul1_calls n (by omega) W)
  have hmk := print_make 33 2 .i64 8 Try.underlying33 (by kernel_rfl) (by omega) n (by omega)
  have hn0 : decide ((n : Int) < 0) = false := decide_eq_false (by omega)
  have hnm : decide ((9223372036854775807 : Int) < (n : Int)) = false := decide_eq_false (by omega)
  have huw : IntKind.u64.wrap (n : Int) = (n : Int) := by simp [IntKind.wrap, IntKind.signed, IntKind.bits]; omega
  have hsw : IntKind.i64.wrap (n : Int) = (n : Int) := (i64_w _).trans (wrap_id (by omega) (by omega))
  have HN := Aside0.mk hn
  clear hr0 hn hx hx0
  go_enter Try.func94, Try.ntmps94
  go_wp2_with (first
    | (go_at_call 103; (with_reducible refine (QM.out _).mono ?_); rintro e w1 ⟨rfl, hb⟩; have HB1 := Aside0.mk hb; clear hb)
    | ((with_reducible refine gate_builtin (b := .copy) (xs := #[.tmp 31, .tmp 32]) rfl ?_); go_loud (refine wpList_copy_splice rfl (.tmp 31) (.tmp 32) 33 33 rfl 2 Try.underlying33 (by kernel_rfl) (some ⟨w1.heap.size, 0, none⟩) (some ad) n n 1 c0 rfl rfl w1.heap.size 0 (List.replicate n (.int .i64 0)) 2 ?cg (List.replicate (min 1 n) (.int .i64 x)) ?cn ?cp ?cf ?c1 w.heap.size w ?cb ?cB ?_; (case cg => exact heap_made w1 _ n _); (case cn => exact List.length_replicate); (case cp => intro hp; exact ⟨rfl, ad, rfl, rep_cells (w := w) _ (min 1 n) ad _ (by omega) (((below_alloc HB1.out _).cell (World.block_lt_of_cell? w _ HX.out)).trans HX.out)⟩); (case cf => rw [List.length_replicate, List.length_replicate]; omega); (case c1 => intro v hv; rw [List.eq_of_mem_replicate hv] <;> rfl); (case cb => exact below_alloc HB1.out _); (case cB => exact HB1.out.size); intro w2 hg hb; have HG2 := Aside0.mk (show w2.heap[w1.heap.size]? = _ from splice_rep0 n (min 1 n) (.int .i64 x) (.int .i64 0) (by omega) ▸ hg.out); have HB2 := Aside0.mk hb; clear hg hb)))
  generalize hgg : w1.heap.size = g at *
  have HGb := Aside0.mk (show w.heap.size ≤ g from hgg ▸ HB1.out.size)
  clear hgg
  go_loopg [8] n (fun kq v8 w' => ∃ m : Nat, v8 = .int .i64 (m : Int) ∧ Aside0 (m ≤ n ∧ n ≤ m + kq ∧ (0 < n → 0 < m)) ∧ Aside0 (w'.heap[g]? = some (.cells (List.replicate m (Value.int .i64 x) ++ List.replicate (n - m) (Value.int .i64 0)).toArray 2 (0, 0))) ∧ Aside0 (Below w.heap.size w w'))
  case atStart => exact ⟨min 1 n, rfl, ⟨by omega, by omega, by omega⟩, ⟨by exact HG2.out⟩, HB2⟩
  case round =>
    obtain ⟨m, rfl, HK, HG, HB⟩ := hrel
    by_cases c1 : m < n
    · have c1b : decide ((m : Int) < (n : Int)) = true := decide_eq_true (by omega)
      have c1c : decide (m < n) = true := decide_eq_true c1
      have hm0 : (0 : Int) ≤ (m : Int) := by omega
      have hmn : (m : Int) ≤ (n : Int) := by omega
      obtain ⟨k1, rfl⟩ : ∃ k1, gk = k1 + 1 := ⟨gk - 1, by have := HK.out; omega⟩
      have hne : (n = m) = False := eq_false (by omega)
      have HC1 := Aside0.mk c1
      clear c1
      go_wp2_with fail
      go_region_law ((refine step_copy_splice rfl (.tmp 41) (.tmp 44) 33 33 rfl 2 Try.underlying33 (by kernel_rfl) (some ⟨g, m, none⟩) (some ⟨g, 0, none⟩) (n - m) (n - m) m n ?hd ?hs g m (List.replicate m (Value.int .i64 x) ++ List.replicate (n - m) (Value.int .i64 0)) 2 ?cg (List.replicate (min m (n - m)) (Value.int .i64 x)) ?cn ?cp ?cf ?c1 w.heap.size w ?cb ?cB ?_; (case hd => first | (go_simp; done) | (go_simp; rfl)); (case hs => first | (go_simp; done) | (go_simp; rfl)); (case cg => exact HG.out); (case cn => exact List.length_replicate); (case cp => intro hp; exact ⟨rfl, _, rfl, rep_src HG.out (by omega)⟩); (case cf => rw [List.length_append, List.length_replicate, List.length_replicate, List.length_replicate]; have := HC1.out; omega); (case c1 => intro v hv; rw [List.eq_of_mem_replicate hv] <;> rfl); (case cb => exact below_drew HB.out); (case cB => exact HGb.out); intro w3 hg hb; have HG3 := Aside0.mk (show w3.heap[g]? = _ from splice_rep n m (min m (n - m)) (.int .i64 x) (.int .i64 0) (by have := HC1.out; omega) ▸ hg.out); have HB3 := Aside0.mk hb; clear hg hb))
      have HM := Aside0.mk (show wrap64 ((m : Int) + (min m (n - m) : Nat)) = ((m + min m (n - m) : Nat) : Int) from by unfold wrap64; have := HN.out; have := HC1.out; omega)
      go_wp2_with fail
      go_roundg k1
      case measure => omega
      case rel => exact ⟨m + min m (n - m), congrArg (Value.int .i64) ((i64_w _).trans HM.out), ⟨by have := HK.out; have := HC1.out; omega, by have := HK.out; have := HC1.out; omega, by have := HK.out; have := HC1.out; omega⟩, HG3, HB3⟩
    · have c1b : decide ((m : Int) < (n : Int)) = false := decide_eq_false (by omega)
      have c1c : decide (m < n) = false := decide_eq_false c1
      have hmn : m = n := by have := HK.out; omega
      have HMN := Aside0.mk hmn
      clear c1 hmn
      go_wp2_with fail
      go_ret
      refine ⟨_, rfl, Kd.R_of_own ?_ (fun _ _ => trivial), HB.out⟩
      have hg := HG.out
      rw [HMN.out, Nat.sub_self, List.replicate_zero, List.append_nil] at hg
      have ho := own_rep (base := w.heap.size) hg HGb.out HN.out
      have he : encs (Value.int .i64) (List.replicate n x) = List.replicate n (Value.int .i64 x) := by simp [encs]
      rw [he, List.length_replicate]
      exact ho
set_option maxHeartbeats 4000000 in
set_option maxRecDepth 100000 in
theorem repI_calls (x : Int) (n : Nat) (hn : n ≤ 1000000) (A0 : Option Addr) (c0 : Nat) (w : World) (hr0 : Kd.C (Kd.int .i64) w A0 1 [x]) :
    Calls Try.prog 95 #[.slice A0 1 c0, .int .i64 (n : Int)] w fun e w' => ∃ v : Value, e = .returned v ∧ Kd.R (Kd.int .i64) 3 w' w.heap.size (fun _ => True) v (List.replicate n x) ∧ Below w.heap.size w w' := by
  have HB := Aside0.mk (Below.refl w.heap.size w)
  obtain ⟨ad, e1, hx⟩ := Kd.at_int hr0 0 (by decide) (by decide)
  cases e1
  have hx0 : rd [x] 0 = x := rfl
  rw [hx0, show ad.add (Int.toNat 0) = ad from Addr.add_zero' _] at hx
  have HX := Aside0.mk hx
  have QM := Aside0.mk (fun W => mul1_calls n (by omega) W)
  have hmk := print_make 27 3 .i64 8 Try.underlying27 (by kernel_rfl) (by omega) n (by omega)
  have hn0 : decide ((n : Int) < 0) = false := decide_eq_false (by omega)
  have hnm : decide ((9223372036854775807 : Int) < (n : Int)) = false := decide_eq_false (by omega)
  have huw : IntKind.u64.wrap (n : Int) = (n : Int) := by simp [IntKind.wrap, IntKind.signed, IntKind.bits]; omega
  have hsw : IntKind.i64.wrap (n : Int) = (n : Int) := (i64_w _).trans (wrap_id (by omega) (by omega))
  have HN := Aside0.mk hn
  clear hr0 hn hx hx0
  go_enter Try.func95, Try.ntmps95
  go_wp2_with (first
    | (go_at_call 103; (with_reducible refine (QM.out _).mono ?_); rintro e w1 ⟨rfl, hb⟩; have HB1 := Aside0.mk hb; clear hb)
    | ((with_reducible refine gate_builtin (b := .copy) (xs := #[.tmp 31, .tmp 32]) rfl ?_); go_loud (refine wpList_copy_splice rfl (.tmp 31) (.tmp 32) 27 27 rfl 3 Try.underlying27 (by kernel_rfl) (some ⟨w1.heap.size, 0, none⟩) (some ad) n n 1 c0 rfl rfl w1.heap.size 0 (List.replicate n (.int .i64 0)) 3 ?cg (List.replicate (min 1 n) (.int .i64 x)) ?cn ?cp ?cf ?c1 w.heap.size w ?cb ?cB ?_; (case cg => exact heap_made w1 _ n _); (case cn => exact List.length_replicate); (case cp => intro hp; exact ⟨rfl, ad, rfl, rep_cells (w := w) _ (min 1 n) ad _ (by omega) (((below_alloc HB1.out _).cell (World.block_lt_of_cell? w _ HX.out)).trans HX.out)⟩); (case cf => rw [List.length_replicate, List.length_replicate]; omega); (case c1 => intro v hv; rw [List.eq_of_mem_replicate hv] <;> rfl); (case cb => exact below_alloc HB1.out _); (case cB => exact HB1.out.size); intro w2 hg hb; have HG2 := Aside0.mk (show w2.heap[w1.heap.size]? = _ from splice_rep0 n (min 1 n) (.int .i64 x) (.int .i64 0) (by omega) ▸ hg.out); have HB2 := Aside0.mk hb; clear hg hb)))
  generalize hgg : w1.heap.size = g at *
  have HGb := Aside0.mk (show w.heap.size ≤ g from hgg ▸ HB1.out.size)
  clear hgg
  go_loopg [8] n (fun kq v8 w' => ∃ m : Nat, v8 = .int .i64 (m : Int) ∧ Aside0 (m ≤ n ∧ n ≤ m + kq ∧ (0 < n → 0 < m)) ∧ Aside0 (w'.heap[g]? = some (.cells (List.replicate m (Value.int .i64 x) ++ List.replicate (n - m) (Value.int .i64 0)).toArray 3 (0, 0))) ∧ Aside0 (Below w.heap.size w w'))
  case atStart => exact ⟨min 1 n, rfl, ⟨by omega, by omega, by omega⟩, ⟨by exact HG2.out⟩, HB2⟩
  case round =>
    obtain ⟨m, rfl, HK, HG, HB⟩ := hrel
    by_cases c1 : m < n
    · have c1b : decide ((m : Int) < (n : Int)) = true := decide_eq_true (by omega)
      have c1c : decide (m < n) = true := decide_eq_true c1
      have hm0 : (0 : Int) ≤ (m : Int) := by omega
      have hmn : (m : Int) ≤ (n : Int) := by omega
      obtain ⟨k1, rfl⟩ : ∃ k1, gk = k1 + 1 := ⟨gk - 1, by have := HK.out; omega⟩
      have hne : (n = m) = False := eq_false (by omega)
      have HC1 := Aside0.mk c1
      clear c1
      go_wp2_with fail
      go_region_law ((refine step_copy_splice rfl (.tmp 41) (.tmp 44) 27 27 rfl 3 Try.underlying27 (by kernel_rfl) (some ⟨g, m, none⟩) (some ⟨g, 0, none⟩) (n - m) (n - m) m n ?hd ?hs g m (List.replicate m (Value.int .i64 x) ++ List.replicate (n - m) (Value.int .i64 0)) 3 ?cg (List.replicate (min m (n - m)) (Value.int .i64 x)) ?cn ?cp ?cf ?c1 w.heap.size w ?cb ?cB ?_; (case hd => first | (go_simp; done) | (go_simp; rfl)); (case hs => first | (go_simp; done) | (go_simp; rfl)); (case cg => exact HG.out); (case cn => exact List.length_replicate); (case cp => intro hp; exact ⟨rfl, _, rfl, rep_src HG.out (by omega)⟩); (case cf => rw [List.length_append, List.length_replicate, List.length_replicate, List.length_replicate]; have := HC1.out; omega); (case c1 => intro v hv; rw [List.eq_of_mem_replicate hv] <;> rfl); (case cb => exact below_drew HB.out); (case cB => exact HGb.out); intro w3 hg hb; have HG3 := Aside0.mk (show w3.heap[g]? = _ from splice_rep n m (min m (n - m)) (.int .i64 x) (.int .i64 0) (by have := HC1.out; omega) ▸ hg.out); have HB3 := Aside0.mk hb; clear hg hb))
      have HM := Aside0.mk (show wrap64 ((m : Int) + (min m (n - m) : Nat)) = ((m + min m (n - m) : Nat) : Int) from by unfold wrap64; have := HN.out; have := HC1.out; omega)
      go_wp2_with fail
      go_roundg k1
      case measure => omega
      case rel => exact ⟨m + min m (n - m), congrArg (Value.int .i64) ((i64_w _).trans HM.out), ⟨by have := HK.out; have := HC1.out; omega, by have := HK.out; have := HC1.out; omega, by have := HK.out; have := HC1.out; omega⟩, HG3, HB3⟩
    · have c1b : decide ((m : Int) < (n : Int)) = false := decide_eq_false (by omega)
      have c1c : decide (m < n) = false := decide_eq_false c1
      have hmn : m = n := by have := HK.out; omega
      have HMN := Aside0.mk hmn
      clear c1 hmn
      go_wp2_with fail
      go_ret
      refine ⟨_, rfl, Kd.R_of_own ?_ (fun _ _ => trivial), HB.out⟩
      have hg := HG.out
      rw [HMN.out, Nat.sub_self, List.replicate_zero, List.append_nil] at hg
      have ho := own_rep (base := w.heap.size) hg HGb.out HN.out
      have he : encs (Value.int .i64) (List.replicate n x) = List.replicate n (Value.int .i64 x) := by simp [encs]
      rw [he, List.length_replicate]
      exact ho
theorem one_int {k : IntKind} {e : TypeId} {x : Int} (W : World) (b : Nat) (h : W.heap[b]? = some (.cells #[.int k x] e (0, 0))) : Kd.C (Kd.int k) W (some ⟨b, 0, none⟩) 1 [x] := by
  refine ⟨rfl, by simp, fun _ => ⟨_, rfl, fun j p hj => ?_⟩⟩
  rcases j with _ | j
  · cases hj
    refine ⟨[.int k x], rfl, rfl, fun i u hi => ?_⟩
    rcases i with _ | i
    · cases hi
      rw [Addr.add_lit]; exact (blk_cell h _).trans rfl
    · cases hi
  · cases hj
set_option maxRecDepth 100000 in
theorem row64_calls (n x : Int) (h0 : 0 ≤ n) (h1 : n ≤ 1000000) (w : World) :
    Calls Try.prog 76 #[.int .i64 n, .int .i64 x] w fun e w' => ∃ v : Value, e = .returned v ∧ Kd.R (Kd.int .i64) 2 w' w.heap.size (fun _ => True) v (List.replicate n.toNat x) ∧ Below w.heap.size w w' := by
  have HB := Aside0.mk (Below.refl w.heap.size w)
  have QR := Aside0.mk (rep64_calls x n.toNat (by omega) (some ⟨w.heap.size, 0, none⟩) 1 (w.alloc (.cells #[.int .i64 x] 2)) (one_int _ _ (MapKept.heap_alloc w _).1))
  rw [Int.toNat_of_nonneg h0] at QR
  clear h0 h1
  go_enter Try.func76, Try.ntmps76
  go_wp2_with (go_at_call 94; go_loud ((with_reducible refine QR.out.mono ?_); rintro e w1 ⟨v, rfl, ho, hb⟩; have HO := Aside0.mk (Kd.R_lower ho (below_alloc HB.out _).size); have HB1 := Aside0.mk (below_step (below_alloc HB.out _) hb); clear ho hb))
  go_ret
  exact ⟨_, rfl, HO.out, HB1.out⟩
set_option maxRecDepth 100000 in
theorem rowI_calls (n x : Int) (h0 : 0 ≤ n) (h1 : n ≤ 1000000) (w : World) :
    Calls Try.prog 77 #[.int .i64 n, .int .i64 x] w fun e w' => ∃ v : Value, e = .returned v ∧ Kd.R (Kd.int .i64) 3 w' w.heap.size (fun _ => True) v (List.replicate n.toNat x) ∧ Below w.heap.size w w' := by
  have HB := Aside0.mk (Below.refl w.heap.size w)
  have QR := Aside0.mk (repI_calls x n.toNat (by omega) (some ⟨w.heap.size, 0, none⟩) 1 (w.alloc (.cells #[.int .i64 x] 3)) (one_int _ _ (MapKept.heap_alloc w _).1))
  rw [Int.toNat_of_nonneg h0] at QR
  clear h0 h1
  go_enter Try.func77, Try.ntmps77
  go_wp2_with (go_at_call 95; go_loud ((with_reducible refine QR.out.mono ?_); rintro e w1 ⟨v, rfl, ho, hb⟩; have HO := Aside0.mk (Kd.R_lower ho (below_alloc HB.out _).size); have HB1 := Aside0.mk (below_step (below_alloc HB.out _) hb); clear ho hb))
  go_ret
  exact ⟨_, rfl, HO.out, HB1.out⟩
end Go.Proofs.Ytjgpggjjgimibaa.L

/- relax.next: one layer behind another. -/
namespace Go.Proofs.Ytjgpggjjgimibaa.L
open Go.RowKit Go.Proofs.Ytjgpggjjgimibaa.Q Go.Proofs.YtjgpggjjgimibaaW.PrintWords Go.Proofs.YtjgpggjjgimibaaW.PrintLast Go.Proofs.YtjgpggjjgimibaaW.PrintMore Go.Proofs.YtjgpggjjgimibaaW.MapB Go.Proofs.YtjgpggjjgimibaaW.Lib
set_option linter.unusedVariables false
set_option linter.unusedSimpArgs false
/-- One edge of a layer: its target has less by it. -/
def stepN (had : List Int) (acc : List Int × List Int) (i : Int) (e : S37) : List Int × List Int :=
  if wrap64 (rd had e.f0 + e.f2) < rd acc.1 e.f1 then (acc.1.set e.f1.toNat (wrap64 (rd had e.f0 + e.f2)), acc.2.set e.f1.toNat i) else acc
def nextL (had : List Int) (es : List S37) : Nat → List Int × List Int
  | 0 => (had, List.replicate had.length (-1))
  | k + 1 => stepN had (nextL had es k) (k : Int) (rd_T37 es (k : Int))
theorem stepN_len (had : List Int) (acc : List Int × List Int) (i : Int) (e : S37) : (stepN had acc i e).1.length = acc.1.length ∧ (stepN had acc i e).2.length = acc.2.length := by
  unfold stepN
  split
  · exact ⟨List.length_set .., List.length_set ..⟩
  · exact ⟨rfl, rfl⟩
theorem nextL_len (had : List Int) (es : List S37) : ∀ k, (nextL had es k).1.length = had.length ∧ (nextL had es k).2.length = had.length
  | 0 => ⟨rfl, List.length_replicate⟩
  | k + 1 => by
    have h := stepN_len had (nextL had es k) (k : Int) (rd_T37 es (k : Int))
    have ih := nextL_len had es k
    exact ⟨h.1.trans ih.1, h.2.trans ih.2⟩
/-- Edges among n hosts. -/
def inE (n : Nat) (es : List S37) : Prop := ∀ e ∈ es, 0 ≤ e.f0 ∧ e.f0 < n ∧ 0 ≤ e.f1 ∧ e.f1 < n
instance (n : Nat) : DecidablePred (inE n) := fun es => by unfold inE; infer_instance
theorem rdE_mem (l : List S37) (i : Int) (h0 : 0 ≤ i) (h1 : i < l.length) : rd_T37 l i ∈ l := by
  have hx : i.toNat < l.length := by omega
  rw [show rd_T37 l i = l[i.toNat] by simp [rd_T37, List.getD, hx]]
  exact List.getElem_mem _
theorem results_tmp2' {fn : Func} {a b : Tmp} (h : fn.results = #[.tmp a, .tmp b]) (tmps : Array Value) (P : Program) (w : World) : (results fn tmps).run P w = .ok (.tuple #[tmps.getD a undef, tmps.getD b undef]) w := by
  simp [results, h]
set_option maxHeartbeats 8000000 in
set_option maxRecDepth 100000 in
theorem next_calls (had : List Int) (es : List S37) (hn : had.length ≤ 1000000) (he : es.length ≤ 1000000000) (hin : inE had.length es) (A0 A1 : Option Addr) (c0 c1_ : Nat) (w : World) (hr0 : Kd.C (Kd.int .i64) w A0 had.length had) (hc0 : had.length ≤ c0) (hr1 : Kd.C k37 w A1 es.length es) :
    Calls Try.prog 78 #[.slice A0 had.length c0, .slice A1 es.length c1_] w fun e w' => ∃ v1 v2 : Value, e = .returned (.tuple #[v1, v2]) ∧ Kd.R (Kd.int .i64) 2 w' w.heap.size (fun k => some k ≠ v2.ownBlock) v1 (nextL had es es.length).1 ∧ Kd.R (Kd.int .i64) 3 w' w.heap.size (fun k => some k ≠ v1.ownBlock) v2 (nextL had es es.length).2 ∧ Below w.heap.size w w' := by
  have HB0 := Aside0.mk (Below.refl w.heap.size w)
  have HR0 := Aside0.mk hr0
  have HR1 := Aside0.mk hr1
  have HN := Aside0.mk hn
  have HE := Aside0.mk he
  have HIn := Aside0.mk hin
  have QC := Aside0.mk (fun (W : World) (hb : Below w.heap.size w W) => clone64_calls had (by omega) A0 c0 W (Kd.C_below hr0 hb) hc0)
  have QR := Aside0.mk (fun W => rowI_calls (had.length : Int) (-1) (by omega) (by omega) W)
  have HLen := Aside0.mk (nextL_len had es)
  clear hr0 hr1 hn he hin hc0
  go_enter Try.func78, Try.ntmps78
  go_wp2_with (first
    | (go_at_call 96; (with_reducible refine (QC.out _ HB0.out).mono ?_); rintro e w1 ⟨v1, rfl, ho, hb⟩; have HB1 := Aside0.mk hb; have HO1 := Aside0.mk ho; clear ho hb)
    | (go_at_call 77; (with_reducible refine (QR.out _).mono ?_); rintro e w2 ⟨v2, rfl, ho, hb⟩; have HB2 := Aside0.mk (below_step HB1.out hb); have HH2 := Aside0.mk (Kd.R_elder' HO1.out (Kd.R_base ho) hb); have HY2 := Aside0.mk (Kd.R_lower (Kd.R_new' ho (Kd.R_lt HO1.out)) HB1.out.size); clear ho hb))
  obtain ⟨A6, c6, rfl⟩ := Kd.R_slice HH2.out
  obtain ⟨A7, c7, rfl⟩ := Kd.R_slice HY2.out
  have e7 : (List.replicate ((had.length : Nat) : Int).toNat (-1 : Int)).length = had.length := by rw [List.length_replicate]; omega
  have HY3 := HY2.out
  rw [e7, show ((had.length : Nat) : Int).toNat = had.length from rfl] at HY3
  have HY4 := Aside0.mk HY3
  simp only [e7]
  clear HY3 HY2 HO1 QC QR
  go_loopg [18] es.length (fun kq v18 w' => ∃ x18 : Int, v18 = .int .i64 x18 ∧ Aside0 (0 ≤ x18 ∧ x18 + kq = es.length) ∧ Aside0 (Kd.R (Kd.int .i64) 2 w' w.heap.size (fun k => some k ≠ (Value.slice A7 had.length c7).ownBlock) (.slice A6 had.length c6) (nextL had es x18.toNat).1) ∧ Aside0 (Kd.R (Kd.int .i64) 3 w' w.heap.size (fun k => some k ≠ (Value.slice A6 had.length c6).ownBlock) (.slice A7 had.length c7) (nextL had es x18.toNat).2) ∧ Aside0 (Below w.heap.size w w'))
  case atStart => exact ⟨0, rfl, ⟨by omega, by omega⟩, ⟨Kd.R_mono HH2.out (fun _ hk h => hk.2 (h.trans (own_len _ _ _ _ _)))⟩, ⟨Kd.R_mono HY4.out (fun _ hk => hk.2)⟩, HB2⟩
  case round =>
    clear HH2 HY4 HB2 HB1
    obtain ⟨x18, rfl, HK, HH, HY, HB⟩ := hrel
    by_cases c1 : x18 < (es.length : Int)
    · have c1b := decide_eq_true c1
      have p1 : 0 ≤ x18 := HK.out.1
      obtain ⟨ad1, e1, hx0, hx1, hx2, hx3, hx4, hx5⟩ := at_T37 HR1.out x18 p1 c1
      cases e1
      replace hx0 := (HB.out.cell (World.block_lt_of_cell? w _ hx0)).trans hx0
      replace hx1 := (HB.out.cell (World.block_lt_of_cell? w _ hx1)).trans hx1
      replace hx2 := (HB.out.cell (World.block_lt_of_cell? w _ hx2)).trans hx2
      replace hx3 := (HB.out.cell (World.block_lt_of_cell? w _ hx3)).trans hx3
      replace hx4 := (HB.out.cell (World.block_lt_of_cell? w _ hx4)).trans hx4
      replace hx5 := (HB.out.cell (World.block_lt_of_cell? w _ hx5)).trans hx5
      obtain ⟨i0, i1, i2, i3⟩ := HIn.out _ (rdE_mem es x18 p1 c1)
      have HS := Aside0.mk (show nextL had es (x18 + 1).toNat = stepN had (nextL had es x18.toNat) x18 (rd_T37 es x18) from by
        rw [show (x18 + 1).toNat = x18.toNat + 1 by omega]
        show stepN had (nextL had es x18.toNat) (x18.toNat : Int) (rd_T37 es (x18.toNat : Int)) = _
        rw [show (x18.toNat : Int) = x18 by omega])
      have HLx := Aside0.mk (HLen.out x18.toNat)
      have P1 := Aside0.mk p1
      have Q1 := Aside0.mk c1
      have W1 := Aside0.mk (show wrap64 (x18 + 1) = x18 + 1 from by unfold wrap64; have := HE.out; have := P1.out; have := Q1.out; omega)
      obtain ⟨ad0, e0, hh⟩ := Kd.at_int HR0.out (rd_T37 es x18).f0 i0 i1
      cases e0
      replace hh := (HB.out.cell (World.block_lt_of_cell? w _ hh)).trans hh
      generalize rd_T37 es x18 = e at *
      generalize nextL had es x18.toNat = acc at *
      obtain ⟨ha, hb_⟩ := HLx.out
      -- the rows' blocks
      have hg6 : ∃ g6, A6 = some ⟨g6, 0, none⟩ ∧ w.heap.size ≤ g6 := by
        have ho := (Kd.own_of_R HH.out).2
        rcases ho with ⟨h, h'⟩ | ⟨g, cap, cur, h, hbg, _⟩
        · exfalso; omega
        · injection h with h h2 h3; exact ⟨g, h, hbg⟩
      have hg7 : ∃ g7, A7 = some ⟨g7, 0, none⟩ ∧ w.heap.size ≤ g7 := by
        have ho := (Kd.own_of_R HY.out).2
        rcases ho with ⟨h, h'⟩ | ⟨g, cap, cur, h, hbg, _⟩
        · exfalso; omega
        · injection h with h h2 h3; exact ⟨g, h, hbg⟩
      obtain ⟨g6, rfl, hb6⟩ := hg6
      obtain ⟨g7, rfl, hb7⟩ := hg7
      obtain ⟨q6, e6, hc6⟩ := Kd.at_int (Kd.R_reads' HH.out).2.2 e.f1 i2 (by rw [← ha] at i3; exact i3)
      cases e6
      obtain ⟨q7, e7, hc7⟩ := Kd.at_int (Kd.R_reads' HY.out).2.2 e.f1 i2 (by rw [← hb_] at i3; exact i3)
      cases e7
      have d67 : g6 ≠ g7 := fun h => HH.out.1 g6 rfl (by rw [h]; rfl)
      have HD := Aside0.mk d67
      have l6 := World.block_lt_of_cell? wr _ hc6
      have l7 := World.block_lt_of_cell? wr _ hc7
      rw [Addr.add_lit, Nat.zero_add] at hc6 hc7 l6 l7
      have L6 := Aside0.mk (show g6 < wr.heap.size from l6)
      have L7 := Aside0.mk (show g7 < wr.heap.size from l7)
      have HC6 := Aside0.mk hc6
      have HC7 := Aside0.mk hc7
      have hv := Aside0.mk (show wrap64 (rd had e.f0 + e.f2) = wrap64 (rd had e.f0 + e.f2) from rfl)
      have HA := Aside0.mk ha
      have HBn := Aside0.mk hb_
      have hh1 := fun o => keep1r (o1 := o) hh
      have hst := Aside0.mk (show stepN had acc x18 e = if wrap64 (rd had e.f0 + e.f2) < rd acc.1 e.f1 then (acc.1.set e.f1.toNat (wrap64 (rd had e.f0 + e.f2)), acc.2.set e.f1.toNat x18) else acc from rfl)
      clear hc6 hc7 l6 l7 d67 ha hb_ HLx hv hh
      generalize rd had e.f0 = hf at *
      replace p1 := eq_true p1
      replace c1 := eq_true c1
      replace i0 := eq_true i0
      replace i1 := eq_true i1
      have I2 := Aside0.mk i2
      have I3 := Aside0.mk i3
      replace i2 := eq_true i2
      replace i3 := eq_true i3
      obtain ⟨k1, rfl⟩ : ∃ k1, gk = k1 + 1 := ⟨gk - 1, by have := HK.out; have := Q1.out; omega⟩
      go_upto_region 5 with (fail)
      go_cut [8, 9, 10, 16, 17, 18] (fun v8 v9 v10 v16 v17 v18 wc => v8 = .int .i64 x18 ∧ v16 = .slice (some ad1) es.length c1_ ∧ v17 = .int .i64 es.length ∧ v18 = .int .i64 x18 ∧ v10 = .int .i64 (wrap64 (hf + e.f2)) ∧ ∃ ke : Nat, v9 = .pointer (some ⟨ke, 0, none⟩) ∧ Aside0 (wr.heap.size ≤ ke ∧ wc.heap[ke]? = some (.cells #[.int .i64 e.f0, .int .i64 e.f1, .int .i64 e.f2, .int .i64 e.f3.f0, .int .i64 e.f3.f1, .bool e.f4] 37 (0, 0))) ∧ Aside0 (Below wr.heap.size wr wc))
      case first =>
        go_quiet (fail)
        go_wp2_with fail
        go_meet
        case rel => exact ⟨rfl, rfl, rfl, rfl, rfl, _, rfl, ⟨Nat.le_refl _, (MapKept.heap_alloc wr _).1⟩, ⟨pw_below_drewN (below_alloc (Below.refl wr.heap.size wr) _) _⟩⟩
      case rest =>
        obtain ⟨rfl, rfl, rfl, rfl, rfl, ke, rfl, HKE, HBW⟩ := hcut
        obtain ⟨w5, rfl⟩ : ∃ w5 : World, w5 = wc := ⟨_, rfl⟩
        clear hx0 hx1 hx2 hx3 hx4 hx5 hh1
        have hk0 : w5.cell? ⟨ke, 0, none⟩ = some (.int .i64 e.f0) := (blk_cell HKE.out.2 0).trans rfl
        have hk1 : w5.cell? ⟨ke, 1, none⟩ = some (.int .i64 e.f1) := (blk_cell HKE.out.2 1).trans rfl
        have hk2 : w5.cell? ⟨ke, 2, none⟩ = some (.int .i64 e.f2) := (blk_cell HKE.out.2 2).trans rfl
        have hc6 := (HBW.out.cell (World.block_lt_of_cell? wr _ HC6.out)).trans HC6.out
        have hc7 := (HBW.out.cell (World.block_lt_of_cell? wr _ HC7.out)).trans HC7.out
        have HH5 := Aside0.mk (Kd.R_below HH.out HBW.out)
        have HY5 := Aside0.mk (Kd.R_below HY.out HBW.out)
        have HB5 := Aside0.mk (below_step HB.out HBW.out)
        by_cases c2 : wrap64 (hf + e.f2) < rd acc.1 e.f1
        · have c2b := decide_eq_true c2
          have HST := hst.out
          rw [if_pos c2] at HST
          have HS2 := Aside0.mk (HS.out.trans HST)
          clear c2 HST hst HS
          generalize wrap64 (hf + e.f2) = x at *
          have n6 : ke ≠ g6 := by have := HKE.out.1; have := L6.out; omega
          have n7 : ke ≠ g7 := by have := HKE.out.1; have := L7.out; omega
          obtain ⟨cur6, hw6⟩ : ∃ cur, w5.heap[g6]? = some (.cells cur 2 (0, 0)) := by
            rcases (Kd.own_of_R HH5.out).2 with ⟨h, _⟩ | ⟨g, cap, cur, h, hbg, hh, _⟩
            · injection h with h1; cases h1
            · have hg : g6 = g := by
                injection h with h1
                injection h1 with h1
                injection h1
              subst hg
              exact ⟨cur, hh⟩
          obtain ⟨cur7, hw7⟩ : ∃ cur, w5.heap[g7]? = some (.cells cur 3 (0, 0)) := by
            rcases (Kd.own_of_R HY5.out).2 with ⟨h, _⟩ | ⟨g, cap, cur, h, hbg, hh, _⟩
            · injection h with h1; cases h1
            · have hg : g7 = g := by
                injection h with h1
                injection h1 with h1
                injection h1
              subst hg
              exact ⟨cur, hh⟩
          have f6 := blk_frozen hw6 e.f1.toNat
          have f7 := fun u => blk_frozen ((Below.heap_setCell w5 ⟨g6, e.f1.toNat, none⟩ u g7 (fun h => HD.out h.symm)).trans hw7) e.f1.toNat
          have f7' := blk_frozen hw7 e.f1.toNat
          have s1 : ∀ u, (w5.setCell ⟨g6, e.f1.toNat, none⟩ u).cell? ⟨ke, 1, none⟩ = some (.int .i64 e.f1) := fun u => (blk_cell ((Below.heap_setCell w5 ⟨g6, e.f1.toNat, none⟩ u ke n6).trans HKE.out.2) 1).trans rfl
          have s7 : ∀ u, (w5.setCell ⟨g6, e.f1.toNat, none⟩ u).cell? ⟨g7, e.f1.toNat, none⟩ = some (.int .i64 (rd acc.2 e.f1)) := fun u => (blk_cell ((Below.heap_setCell w5 ⟨g6, e.f1.toNat, none⟩ u g7 (fun h => HD.out h.symm)).trans hw7) _).trans ((blk_cell hw7 _).symm.trans hc7)
          clear hw6 hw7 n6 n7
          go_wp2_with fail
          go_region
          all_goals
            go_wp2_with fail
            go_roundg k1
            case measure => omega
            case rel => exact ⟨x18 + 1, by rw [W1.out], ⟨by have := P1.out; omega, by have := HK.out; omega⟩, ⟨by rw [HS2.out]; (repeat (first | apply Kd.R_drewN | apply Kd.R_drew)); exact Kd.R_far (Kd.R_putn HH5.out e.f1 x) (fun k hk h => hk (by rw [h]; rfl)) _⟩, ⟨by rw [HS2.out]; (repeat (first | apply Kd.R_drewN | apply Kd.R_drew)); exact Kd.R_putn (Kd.R_far HY5.out (p := ⟨g6, e.f1.toNat, none⟩) (fun k hk h => hk (by rw [h]; rfl)) _) e.f1 x18⟩, ⟨by (repeat (first | apply pw_below_drewN | apply below_drew)); exact below_set (below_set HB5.out hb6) hb7⟩⟩
        · have c2b := decide_eq_false c2
          have HST := hst.out
          rw [if_neg c2] at HST
          have HS2 := Aside0.mk (HS.out.trans HST)
          clear c2 HST hst HS
          go_wp2_with fail
          go_roundg k1
          case measure => omega
          case rel => exact ⟨x18 + 1, by rw [W1.out], ⟨by have := P1.out; omega, by have := HK.out; omega⟩, ⟨by rw [HS2.out]; exact HH5.out⟩, ⟨by rw [HS2.out]; exact HY5.out⟩, HB5⟩
    · have c1b := decide_eq_false c1
      have hx : x18.toNat = es.length := by have := HK.out; omega
      have HX := Aside0.mk hx
      clear c1 hx
      go_wp2_with fail
      refine bodyPost_ret (results_tmp2' rfl _ _ _) rfl ?_
      refine ⟨_, _, rfl, ?_, ?_, HB.out⟩
      · have h := HH.out; rw [HX.out] at h; exact h
      · have h := HY.out; rw [HX.out] at h; exact h
end Go.Proofs.Ytjgpggjjgimibaa.L

-- Written by wip/tools/gp.py, a program of this session round the kit's printer. Lean checks it.
namespace Go.Proofs.Ytjgpggjjgimibaa.X
open Go.RowKit Go.Proofs.Ytjgpggjjgimibaa.Q Go.Proofs.YtjgpggjjgimibaaW.PrintWords Go.Proofs.YtjgpggjjgimibaaW.PrintLast Go.Proofs.YtjgpggjjgimibaaW.PrintMore
attribute [local go_sem] max2_int min2_int max_two min_two max_three min_three max_four min_four   -- for this text's walks alone
set_option linter.unusedVariables false
set_option linter.unusedSimpArgs false
end Go.Proofs.Ytjgpggjjgimibaa.X

-- Written by wip/tools/gp.py, a program of this session round the kit's printer. Lean checks it.
namespace Go.Proofs.Ytjgpggjjgimibaa.V
open Go.RowKit Go.Proofs.Ytjgpggjjgimibaa.Q Go.Proofs.Ytjgpggjjgimibaa.X Go.Proofs.YtjgpggjjgimibaaW.PrintWords Go.Proofs.YtjgpggjjgimibaaW.PrintLast Go.Proofs.YtjgpggjjgimibaaW.PrintMore
attribute [local go_sem] max2_int min2_int max_two min_two max_three min_three max_four min_four   -- for this text's walks alone
set_option linter.unusedVariables false
set_option linter.unusedSimpArgs false




theorem info37 : (Try.prog.info? 37).map (fun i => (i.zero, i.size, i.bytes)) = some (some (.agg #[(.int .i64 0), (.int .i64 0), (.int .i64 0), (.int .i64 0), (.int .i64 0), (.bool false)]), 6, 48) := by kernel_rfl
end Go.Proofs.Ytjgpggjjgimibaa.V

