/- Texts joined by wip/tools/merge.py: Ax2 ChkC Bx0 Bx1 ChtS Flt FltW PlaneA FltC PlaneB PlaneC PlaneD PlaneE PlaneX PlaneY PlaneW CplK Kx0 Kx1 ChtK Cx0 Cx4 ChtB ChtC Zx0 Zx1 ChtF Hx0 Cx1 Cx2. -/
import Derived.Test.YtmfdhcgdibefiaaJChartBoxes22
import Derived.Test.YtmfdhcgdibefiaaJChartBoxes24
import Derived.Test.YtmfdhcgdibefiaaJChartBoxes12
import Derived.Test.YtmfdhcgdibefiaaJChartBoxes21
import Derived.Test.YtmfdhcgdibefiaaProg
import Derived.Below
import Derived.Deep.Draws
import Derived.Deep.AppendLies
import Derived.Maps.AppendAt
import Derived.OwnWalk
import Derived.Laws.BytesArg
import Derived.Laws.MakeOwn
import Derived.Laws.OwnMore
import Derived.Deep.OwnRows
import Derived.Tactics
import Derived.Lib.ConvBytes
import Derived.Laws.Slices
import Derived.WalkKit
import Derived.KernelRfl
import Derived.RowKit3
import Derived.Deep.LoopGhost
import Derived.Deep.QuietTactic
import Derived.BigQuiet
import Derived.WideLaws
import Derived.Deep.DeepCutAuto
import Derived.Deep.CutBlock
import Derived.Deep.RegionHeld3
import Derived.Laws.Rows
import Derived.Lib.AppendStr
import Derived.ArgAppend
import Derived.Laws.IdiomCopy
import Derived.OrdersHeld
import Derived.Laws.BitsLemmas
import Derived.RowKit
import Derived.Test.YtmfdhcgdibefiaaJChartBoxes0
import Derived.Test.YtmfdhcgdibefiaaJChartBoxes1
import Derived.Test.YtmfdhcgdibefiaaJChartBoxes13
import Derived.Test.YtmfdhcgdibefiaaJChartBoxes14
import Derived.Test.YtmfdhcgdibefiaaJChartBoxes2
import Derived.Test.YtmfdhcgdibefiaaJChartBoxes3
import Derived.Test.YtmfdhcgdibefiaaJChartBoxes4
import Derived.Test.YtmfdhcgdibefiaaJChartBoxes5
import Derived.Test.YtmfdhcgdibefiaaJChartBoxes6
import Derived.Test.YtmfdhcgdibefiaaJChartBoxes7
import Derived.Test.YtmfdhcgdibefiaaJChartBoxes8
import Derived.Test.YtmfdhcgdibefiaaJChartBoxes9
import Derived.Test.YtmfdhcgdibefiaaJChartBoxes15
import Derived.Test.YtmfdhcgdibefiaaJChartBoxes16
import Derived.Test.YtmfdhcgdibefiaaJChartBoxes17
import Derived.Test.YtmfdhcgdibefiaaJChartBoxes18
import Derived.Test.YtmfdhcgdibefiaaJChartBoxes19
import Derived.Test.YtmfdhcgdibefiaaJChartBoxes20
import Derived.Test.YtmfdhcgdibefiaaJChartBoxes10
import Derived.Test.YtmfdhcgdibefiaaJChartBoxes11
import Derived.RangeFuncBox
import Derived.Tactics2
import Derived.StillTailTactics
import GoSem.Core.Float
import Derived.Laws.FloatArith
import Derived.Lib.Walk
import Derived.WalkSmall
import Derived.Handy
import Derived.Laws.Entries
-- Written by wip/tools/gp.py, a program of this session round the kit's printer. Lean checks it.
namespace Go.Proofs.Ytmfdhcgdibefiaa.A
open Go.RowKit Go.Proofs.Ytmfdhcgdibefiaa.Q Go.Proofs.YtmfdhcgdibefiaaW.PrintWords Go.Proofs.YtmfdhcgdibefiaaW.PrintLast Go.Proofs.YtmfdhcgdibefiaaW.PrintMore
attribute [local go_sem] max2_int min2_int max_two min_two max_three min_three max_four min_four   -- for this text's walks alone
set_option linter.unusedVariables false
set_option linter.unusedSimpArgs false

/-! ### slices_Max_int64_int64: function 105 -/
mutual
def slices_Max_int64_int64.j0 : Nat → List Int → Option (Int)
  | 0, _ => none
  | k + 1, x0 => if 0 < (x0.length : Int) then (slices_Max_int64_int64.l0 k x0 (rd x0 0) 1) else (none)
def slices_Max_int64_int64.l0 : Nat → List Int → Int → Int → Option (Int)
  | 0, _, _, _ => none
  | k + 1, x0, x3, x4 => if x4 < (x0.length : Int) then (if 0 ≤ x4 then (slices_Max_int64_int64.l0 k x0 (mx x3 (rd x0 x4)) (wrap64 (x4 + 1))) else (none)) else (some x3)
end
def slices_Max_int64_int64.f (k : Nat) (l0 : List Int) : Option (Int) := if (l0.length : Int) < 1 then (if 0 = 0 then (none) else (slices_Max_int64_int64.j0 k l0)) else (slices_Max_int64_int64.j0 k l0)
theorem slices_Max_int64_int64.mono_l : ∀ k, (∀ y0, LeO (slices_Max_int64_int64.j0 k y0) (slices_Max_int64_int64.j0 (k + 1) y0)) ∧ (∀ y0 y1 y2, LeO (slices_Max_int64_int64.l0 k y0 y1 y2) (slices_Max_int64_int64.l0 (k + 1) y0 y1 y2))
  | 0 => ⟨fun _ r h => by simp [slices_Max_int64_int64.j0] at h, fun _ _ _ r h => by simp [slices_Max_int64_int64.l0] at h⟩
  | k + 1 => by
    obtain ⟨ih0, ih1⟩ := slices_Max_int64_int64.mono_l k
    refine ⟨?_, ?_⟩
    · intro y0
      unfold slices_Max_int64_int64.j0
      repeat' first
      | (with_reducible exact ih0 _)
      | (with_reducible exact ih1 _ _ _)
      | (with_reducible exact LeO.refl _)
      | (with_reducible exact LeO.none _)
      | (with_reducible refine LeO.ite ?_ ?_)
      | (with_reducible refine LeO.bind ?_ (fun _ => ?_))
      | exact ih0 _
      | exact ih1 _ _ _
      | exact LeO.none _
      | refine LeO.ite ?_ ?_
      | refine LeO.bind ?_ (fun _ => ?_)
    · intro y0 y1 y2
      unfold slices_Max_int64_int64.l0
      repeat' first
      | (with_reducible exact ih0 _)
      | (with_reducible exact ih1 _ _ _)
      | (with_reducible exact LeO.refl _)
      | (with_reducible exact LeO.none _)
      | (with_reducible refine LeO.ite ?_ ?_)
      | (with_reducible refine LeO.bind ?_ (fun _ => ?_))
      | exact ih0 _
      | exact ih1 _ _ _
      | exact LeO.none _
      | refine LeO.ite ?_ ?_
      | refine LeO.bind ?_ (fun _ => ?_)
theorem slices_Max_int64_int64.mono : ∀ a0 k, LeO (slices_Max_int64_int64.f k a0) (slices_Max_int64_int64.f (k + 1) a0) := by
  intro a0 k
  obtain ⟨ih0, ih1⟩ := slices_Max_int64_int64.mono_l k
  unfold slices_Max_int64_int64.f
  repeat' first
      | (with_reducible exact ih0 _)
      | (with_reducible exact ih1 _ _ _)
      | (with_reducible exact LeO.refl _)
      | (with_reducible exact LeO.none _)
      | (with_reducible refine LeO.ite ?_ ?_)
      | (with_reducible refine LeO.bind ?_ (fun _ => ?_))
      | exact ih0 _
      | exact ih1 _ _ _
      | exact LeO.none _
      | refine LeO.ite ?_ ?_
      | refine LeO.bind ?_ (fun _ => ?_)
set_option maxHeartbeats 8000000 in
set_option maxRecDepth 100000 in
theorem slices_Max_int64_int64.calls (k : Nat) (A0 : Option Addr) (c0 : Nat) (l0 : List Int) (r : Int) (w : World) (hr0 : Kd.C (Kd.int .i64) w A0 l0.length l0) (hc0 : l0.length ≤ c0) (h : slices_Max_int64_int64.f k l0 = some r) :
    Calls Try.prog 105 #[.slice A0 l0.length c0] w fun e w' => e = .returned (.int .i64 r) ∧ Below w.heap.size w w' := by
  have HR0 := Aside0.mk hr0
  have HC0 := Aside0.mk hc0
  clear hr0 hc0
  have HB := Aside0.mk (Below.refl w.heap.size w)
  have H : (if (l0.length : Int) < 1 then (if 0 = 0 then (none) else (slices_Max_int64_int64.j0 k l0)) else (slices_Max_int64_int64.j0 k l0)) = some r := h
  clear h
  have HC2 := Aside0.mk H
  clear H
  go_enter Try.func105, Try.ntmps105
  go_upto_if 7 with (fail)
  go_cut [] (fun wc => ∃ (kq : Nat), Aside0 (slices_Max_int64_int64.j0 kq l0 = some r) ∧ Aside0 (kq ≤ k) ∧ Aside0 (Below w.heap.size w wc))
  case first =>
    have H := HC2.out
    clear HC2
    by_cases c3 : (l0.length : Int) < 1
    · rw [if_pos c3] at H
      have c3b0 : decide ((l0.length : Int) < 1) = true := decide_eq_true c3
      have c3b1 : decide (l0.length < 1) = true := decide_eq_true (by omega)
      clear c3
      (first | rw [c3b0] | (simp only [i64_w, i32_w]; rw [c3b0]) | skip)
      exact absurd H (by simp)
    · rw [if_neg c3] at H
      have c3b0 : decide ((l0.length : Int) < 1) = false := decide_eq_false c3
      have c3b1 : decide (l0.length < 1) = false := decide_eq_false (by omega)
      clear c3
      (first | rw [c3b0] | (simp only [i64_w, i32_w]; rw [c3b0]) | skip)
      have H' := Aside0.mk H
      clear H
      go_wp2
      go_meet
      case rel => exact ⟨_, H', ⟨by first | omega | exact Nat.le_refl _⟩, ⟨by repeat (first | (with_reducible first | exact HB.out | apply below_alloc | apply pw_below_drewN | apply below_drew1) | exact HB.out)⟩⟩
  case rest =>
    clear HC2
    (try clear c1); (try clear p2); (try clear c3); (try clear c3b0); (try clear c3b1); (try clear c4); (try clear c4b0); (try clear c4b1)
    obtain ⟨kq, HA, HJ1, HB⟩ := hcut
    cases kq with
    | zero => exact absurd HA.out (by simp [slices_Max_int64_int64.j0])
    | succ kj1 =>
      have H := HA.out
      clear HA
      simp only [slices_Max_int64_int64.j0] at H
      by_cases c5 : 0 < (l0.length : Int)
      · rw [if_pos c5] at H
        have c5b0 : decide (0 < (l0.length : Int)) = true := decide_eq_true c5
        have c5b1 : decide (0 < l0.length) = true := decide_eq_true (by omega)
        clear c5
        have H' := Aside0.mk H
        clear H
        have p102 : 0 ≤ (0 : Int) := (by omega)
        have q102 : 0 < (l0.length : Int) := of_decide_eq_true (by first | (with_reducible assumption) | assumption)
        obtain ⟨ad102, e102, hx102_0⟩ := Kd.at_int HR0.out 0 p102 q102
        cases e102
        have qi102 : (0 < l0.length) = True := eq_true (by omega)
        (try rw [show ((0 : Int)).toNat = 0 from rfl] at hx102_0)
        (try rw [Addr.add_zero'] at hx102_0)
        replace hx102_0 := (HB.out.cell (World.block_lt_of_cell? w _ hx102_0)).trans hx102_0
        replace p102 := eq_true p102
        replace q102 := eq_true q102
        go_wp2
        go_loopg [3, 4] kj1 (fun kq v3 v4 w' => ∃ (x3_2 : Int) (x4_2 : Int), v3 = .int .i64 x3_2 ∧ v4 = .int .i64 x4_2 ∧ Aside0 (slices_Max_int64_int64.l0 kq l0 x3_2 x4_2 = some r) ∧ Aside0 (kq ≤ kj1) ∧ Aside0 (Below w.heap.size w w'))
        case atStart => exact ⟨(rd l0 0), (1), (by first | rfl | (simp; done) | (simp [*]; done)), (by first | rfl | (simp; done) | (simp [*]; done)), H', ⟨Nat.le_refl _⟩, ⟨by repeat (first | (with_reducible first | exact HB.out | apply below_alloc | apply pw_below_drewN | apply below_drew1) | exact HB.out)⟩⟩
        case round =>
          clear H'
          (try clear c1); (try clear p1); (try clear q1); (try clear hx1); (try clear qi1); (try clear p2); (try clear c3); (try clear c3b0); (try clear c3b1); (try clear c4); (try clear c4b0); (try clear c4b1); (try clear c5); (try clear c5b0); (try clear c5b1); (try clear hx102_0); (try clear p102); (try clear p2); (try clear q102)
          obtain ⟨x3_2, x4_2, rfl, rfl, HA, HK2, HB⟩ := hrel
          cases gk with
          | zero => exact absurd HA.out (by simp [slices_Max_int64_int64.l0])
          | succ k2 =>
            have H := HA.out
            clear HA
            simp only [slices_Max_int64_int64.l0] at H
            by_cases c6 : x4_2 < (l0.length : Int)
            · rw [if_pos c6] at H
              have c6b0 : decide (x4_2 < (l0.length : Int)) = true := decide_eq_true c6
              clear c6
              by_cases c7 : 0 ≤ x4_2
              · rw [if_pos c7] at H
                have c7b0 : decide (0 ≤ x4_2) = true := decide_eq_true c7
                clear c7
                obtain ⟨ji8, hji8⟩ : ∃ j_ : Int, (mx x3_2 (rd l0 x4_2)) = j_ := ⟨_, rfl⟩
                replace H : (slices_Max_int64_int64.l0 k2 l0 ji8 (wrap64 (x4_2 + 1))) = some r := by first | (rw [hji8] at H; exact H) | (simp only [hji8] at H ⊢; exact H)
                have hji8_ : (if x3_2 < (rd l0 x4_2) then (rd l0 x4_2) else x3_2) = ji8 := hji8
                have H' := Aside0.mk H
                clear H
                have p103 : 0 ≤ (x4_2 : Int) := of_decide_eq_true (by first | (with_reducible assumption) | assumption)
                have q103 : x4_2 < (l0.length : Int) := of_decide_eq_true (by first | (with_reducible assumption) | assumption)
                obtain ⟨ad103, e103, hx103_0⟩ := Kd.at_int HR0.out x4_2 p103 q103
                obtain rfl : ad102 = ad103 := (by injection e103)
                replace hx103_0 := (HB.out.cell (World.block_lt_of_cell? w _ hx103_0)).trans hx103_0
                replace p103 := eq_true p103
                replace q103 := eq_true q103
                go_wp2
                go_roundg k2
                case measure => have := HJ1.out; have := HK2.out; omega
                case rel => exact ⟨(ji8), (wrap64 (x4_2 + 1)), (by first | rfl | (simp; done) | (simp only [← hji8] <;> (first | rfl | simp)) | (simp [*]; done)), (by first | rfl | (simp; done) | (simp [*]; done)), H', ⟨by have := HJ1.out; have := HK2.out; omega⟩, ⟨by repeat (first | (with_reducible first | exact HB.out | apply below_alloc | apply pw_below_drewN | apply below_drew1) | exact HB.out)⟩⟩
              · rw [if_neg c7] at H
                exact absurd H (by simp)
            · rw [if_neg c6] at H
              have c6b0 : decide (x4_2 < (l0.length : Int)) = false := decide_eq_false c6
              clear c6
              obtain rfl := Option.some.inj H
              go_wp2
              go_ret
              exact ⟨by first | rfl | (simp [errW_none, errW_some] <;> rfl) | (simp [*, errW_none, errW_some] <;> rfl), by repeat (first | (with_reducible first | exact HB.out | apply below_alloc | apply pw_below_drewN | apply below_drew1) | exact HB.out)⟩
      · rw [if_neg c5] at H
        exact absurd H (by simp)

/-! ### slices_Min_int64_int64: function 106 -/
mutual
def slices_Min_int64_int64.j0 : Nat → List Int → Option (Int)
  | 0, _ => none
  | k + 1, x0 => if 0 < (x0.length : Int) then (slices_Min_int64_int64.l0 k x0 (rd x0 0) 1) else (none)
def slices_Min_int64_int64.l0 : Nat → List Int → Int → Int → Option (Int)
  | 0, _, _, _ => none
  | k + 1, x0, x3, x4 => if x4 < (x0.length : Int) then (if 0 ≤ x4 then (slices_Min_int64_int64.l0 k x0 (mn x3 (rd x0 x4)) (wrap64 (x4 + 1))) else (none)) else (some x3)
end
def slices_Min_int64_int64.f (k : Nat) (l0 : List Int) : Option (Int) := if (l0.length : Int) < 1 then (if 0 = 0 then (none) else (slices_Min_int64_int64.j0 k l0)) else (slices_Min_int64_int64.j0 k l0)
theorem slices_Min_int64_int64.mono_l : ∀ k, (∀ y0, LeO (slices_Min_int64_int64.j0 k y0) (slices_Min_int64_int64.j0 (k + 1) y0)) ∧ (∀ y0 y1 y2, LeO (slices_Min_int64_int64.l0 k y0 y1 y2) (slices_Min_int64_int64.l0 (k + 1) y0 y1 y2))
  | 0 => ⟨fun _ r h => by simp [slices_Min_int64_int64.j0] at h, fun _ _ _ r h => by simp [slices_Min_int64_int64.l0] at h⟩
  | k + 1 => by
    obtain ⟨ih0, ih1⟩ := slices_Min_int64_int64.mono_l k
    refine ⟨?_, ?_⟩
    · intro y0
      unfold slices_Min_int64_int64.j0
      repeat' first
      | (with_reducible exact ih0 _)
      | (with_reducible exact ih1 _ _ _)
      | (with_reducible exact LeO.refl _)
      | (with_reducible exact LeO.none _)
      | (with_reducible refine LeO.ite ?_ ?_)
      | (with_reducible refine LeO.bind ?_ (fun _ => ?_))
      | exact ih0 _
      | exact ih1 _ _ _
      | exact LeO.none _
      | refine LeO.ite ?_ ?_
      | refine LeO.bind ?_ (fun _ => ?_)
    · intro y0 y1 y2
      unfold slices_Min_int64_int64.l0
      repeat' first
      | (with_reducible exact ih0 _)
      | (with_reducible exact ih1 _ _ _)
      | (with_reducible exact LeO.refl _)
      | (with_reducible exact LeO.none _)
      | (with_reducible refine LeO.ite ?_ ?_)
      | (with_reducible refine LeO.bind ?_ (fun _ => ?_))
      | exact ih0 _
      | exact ih1 _ _ _
      | exact LeO.none _
      | refine LeO.ite ?_ ?_
      | refine LeO.bind ?_ (fun _ => ?_)
theorem slices_Min_int64_int64.mono : ∀ a0 k, LeO (slices_Min_int64_int64.f k a0) (slices_Min_int64_int64.f (k + 1) a0) := by
  intro a0 k
  obtain ⟨ih0, ih1⟩ := slices_Min_int64_int64.mono_l k
  unfold slices_Min_int64_int64.f
  repeat' first
      | (with_reducible exact ih0 _)
      | (with_reducible exact ih1 _ _ _)
      | (with_reducible exact LeO.refl _)
      | (with_reducible exact LeO.none _)
      | (with_reducible refine LeO.ite ?_ ?_)
      | (with_reducible refine LeO.bind ?_ (fun _ => ?_))
      | exact ih0 _
      | exact ih1 _ _ _
      | exact LeO.none _
      | refine LeO.ite ?_ ?_
      | refine LeO.bind ?_ (fun _ => ?_)
set_option maxHeartbeats 8000000 in
set_option maxRecDepth 100000 in
theorem slices_Min_int64_int64.calls (k : Nat) (A0 : Option Addr) (c0 : Nat) (l0 : List Int) (r : Int) (w : World) (hr0 : Kd.C (Kd.int .i64) w A0 l0.length l0) (hc0 : l0.length ≤ c0) (h : slices_Min_int64_int64.f k l0 = some r) :
    Calls Try.prog 106 #[.slice A0 l0.length c0] w fun e w' => e = .returned (.int .i64 r) ∧ Below w.heap.size w w' := by
  have HR0 := Aside0.mk hr0
  have HC0 := Aside0.mk hc0
  clear hr0 hc0
  have HB := Aside0.mk (Below.refl w.heap.size w)
  have H : (if (l0.length : Int) < 1 then (if 0 = 0 then (none) else (slices_Min_int64_int64.j0 k l0)) else (slices_Min_int64_int64.j0 k l0)) = some r := h
  clear h
  have HC2 := Aside0.mk H
  clear H
  go_enter Try.func106, Try.ntmps106
  go_upto_if 7 with (fail)
  go_cut [] (fun wc => ∃ (kq : Nat), Aside0 (slices_Min_int64_int64.j0 kq l0 = some r) ∧ Aside0 (kq ≤ k) ∧ Aside0 (Below w.heap.size w wc))
  case first =>
    have H := HC2.out
    clear HC2
    by_cases c3 : (l0.length : Int) < 1
    · rw [if_pos c3] at H
      have c3b0 : decide ((l0.length : Int) < 1) = true := decide_eq_true c3
      have c3b1 : decide (l0.length < 1) = true := decide_eq_true (by omega)
      clear c3
      (first | rw [c3b0] | (simp only [i64_w, i32_w]; rw [c3b0]) | skip)
      exact absurd H (by simp)
    · rw [if_neg c3] at H
      have c3b0 : decide ((l0.length : Int) < 1) = false := decide_eq_false c3
      have c3b1 : decide (l0.length < 1) = false := decide_eq_false (by omega)
      clear c3
      (first | rw [c3b0] | (simp only [i64_w, i32_w]; rw [c3b0]) | skip)
      have H' := Aside0.mk H
      clear H
      go_wp2
      go_meet
      case rel => exact ⟨_, H', ⟨by first | omega | exact Nat.le_refl _⟩, ⟨by repeat (first | (with_reducible first | exact HB.out | apply below_alloc | apply pw_below_drewN | apply below_drew1) | exact HB.out)⟩⟩
  case rest =>
    clear HC2
    (try clear c1); (try clear p2); (try clear c3); (try clear c3b0); (try clear c3b1); (try clear c4); (try clear c4b0); (try clear c4b1)
    obtain ⟨kq, HA, HJ1, HB⟩ := hcut
    cases kq with
    | zero => exact absurd HA.out (by simp [slices_Min_int64_int64.j0])
    | succ kj1 =>
      have H := HA.out
      clear HA
      simp only [slices_Min_int64_int64.j0] at H
      by_cases c5 : 0 < (l0.length : Int)
      · rw [if_pos c5] at H
        have c5b0 : decide (0 < (l0.length : Int)) = true := decide_eq_true c5
        have c5b1 : decide (0 < l0.length) = true := decide_eq_true (by omega)
        clear c5
        have H' := Aside0.mk H
        clear H
        have p104 : 0 ≤ (0 : Int) := (by omega)
        have q104 : 0 < (l0.length : Int) := of_decide_eq_true (by first | (with_reducible assumption) | assumption)
        obtain ⟨ad104, e104, hx104_0⟩ := Kd.at_int HR0.out 0 p104 q104
        cases e104
        have qi104 : (0 < l0.length) = True := eq_true (by omega)
        (try rw [show ((0 : Int)).toNat = 0 from rfl] at hx104_0)
        (try rw [Addr.add_zero'] at hx104_0)
        replace hx104_0 := (HB.out.cell (World.block_lt_of_cell? w _ hx104_0)).trans hx104_0
        replace p104 := eq_true p104
        replace q104 := eq_true q104
        go_wp2
        go_loopg [3, 4] kj1 (fun kq v3 v4 w' => ∃ (x3_2 : Int) (x4_2 : Int), v3 = .int .i64 x3_2 ∧ v4 = .int .i64 x4_2 ∧ Aside0 (slices_Min_int64_int64.l0 kq l0 x3_2 x4_2 = some r) ∧ Aside0 (kq ≤ kj1) ∧ Aside0 (Below w.heap.size w w'))
        case atStart => exact ⟨(rd l0 0), (1), (by first | rfl | (simp; done) | (simp [*]; done)), (by first | rfl | (simp; done) | (simp [*]; done)), H', ⟨Nat.le_refl _⟩, ⟨by repeat (first | (with_reducible first | exact HB.out | apply below_alloc | apply pw_below_drewN | apply below_drew1) | exact HB.out)⟩⟩
        case round =>
          clear H'
          (try clear c1); (try clear p1); (try clear q1); (try clear hx1); (try clear qi1); (try clear p2); (try clear c3); (try clear c3b0); (try clear c3b1); (try clear c4); (try clear c4b0); (try clear c4b1); (try clear c5); (try clear c5b0); (try clear c5b1); (try clear hx104_0); (try clear p104); (try clear p2); (try clear q104)
          obtain ⟨x3_2, x4_2, rfl, rfl, HA, HK2, HB⟩ := hrel
          cases gk with
          | zero => exact absurd HA.out (by simp [slices_Min_int64_int64.l0])
          | succ k2 =>
            have H := HA.out
            clear HA
            simp only [slices_Min_int64_int64.l0] at H
            by_cases c6 : x4_2 < (l0.length : Int)
            · rw [if_pos c6] at H
              have c6b0 : decide (x4_2 < (l0.length : Int)) = true := decide_eq_true c6
              clear c6
              by_cases c7 : 0 ≤ x4_2
              · rw [if_pos c7] at H
                have c7b0 : decide (0 ≤ x4_2) = true := decide_eq_true c7
                clear c7
                obtain ⟨ji8, hji8⟩ : ∃ j_ : Int, (mn x3_2 (rd l0 x4_2)) = j_ := ⟨_, rfl⟩
                replace H : (slices_Min_int64_int64.l0 k2 l0 ji8 (wrap64 (x4_2 + 1))) = some r := by first | (rw [hji8] at H; exact H) | (simp only [hji8] at H ⊢; exact H)
                have hji8_ : (if (rd l0 x4_2) < x3_2 then (rd l0 x4_2) else x3_2) = ji8 := hji8
                have H' := Aside0.mk H
                clear H
                have p105 : 0 ≤ (x4_2 : Int) := of_decide_eq_true (by first | (with_reducible assumption) | assumption)
                have q105 : x4_2 < (l0.length : Int) := of_decide_eq_true (by first | (with_reducible assumption) | assumption)
                obtain ⟨ad105, e105, hx105_0⟩ := Kd.at_int HR0.out x4_2 p105 q105
                obtain rfl : ad104 = ad105 := (by injection e105)
                replace hx105_0 := (HB.out.cell (World.block_lt_of_cell? w _ hx105_0)).trans hx105_0
                replace p105 := eq_true p105
                replace q105 := eq_true q105
                go_wp2
                go_roundg k2
                case measure => have := HJ1.out; have := HK2.out; omega
                case rel => exact ⟨(ji8), (wrap64 (x4_2 + 1)), (by first | rfl | (simp; done) | (simp only [← hji8] <;> (first | rfl | simp)) | (simp [*]; done)), (by first | rfl | (simp; done) | (simp [*]; done)), H', ⟨by have := HJ1.out; have := HK2.out; omega⟩, ⟨by repeat (first | (with_reducible first | exact HB.out | apply below_alloc | apply pw_below_drewN | apply below_drew1) | exact HB.out)⟩⟩
              · rw [if_neg c7] at H
                exact absurd H (by simp)
            · rw [if_neg c6] at H
              have c6b0 : decide (x4_2 < (l0.length : Int)) = false := decide_eq_false c6
              clear c6
              obtain rfl := Option.some.inj H
              go_wp2
              go_ret
              exact ⟨by first | rfl | (simp [errW_none, errW_some] <;> rfl) | (simp [*, errW_none, errW_some] <;> rfl), by repeat (first | (with_reducible first | exact HB.out | apply below_alloc | apply pw_below_drewN | apply below_drew1) | exact HB.out)⟩
      · rw [if_neg c5] at H
        exact absurd H (by simp)

/-! ### merkhetref26_column: function 58 -/
def merkhetref26_column.l0 : Nat → Int → Int → Int → Int → Int → Int → Option (Int)
  | 0, _, _, _, _, _, _ => none
  | k + 1, x0, x1, x2, x7, x8, x9 => if x9 < x2 then (if (wrap64 (x7 + x0)) ≥ x1 then (merkhetref26_column.l0 k x0 x1 x2 (wrap64 ((wrap64 (x7 + x0)) - x1)) (wrap64 (x8 + 1)) (wrap64 (x9 + 1))) else (merkhetref26_column.l0 k x0 x1 x2 (wrap64 (x7 + x0)) x8 (wrap64 (x9 + 1)))) else (some x8)
def merkhetref26_column.f (k : Nat) (a0 : Int) (a1 : Int) (a2 : Int) : Option (Int) := merkhetref26_column.l0 k a0 a1 a2 0 0 0
theorem merkhetref26_column.mono_l : ∀ k, (∀ y0 y1 y2 y3 y4 y5, LeO (merkhetref26_column.l0 k y0 y1 y2 y3 y4 y5) (merkhetref26_column.l0 (k + 1) y0 y1 y2 y3 y4 y5))
  | 0 => fun _ _ _ _ _ _ r h => by simp [merkhetref26_column.l0] at h
  | k + 1 => by
    have ih0 := merkhetref26_column.mono_l k
    · intro y0 y1 y2 y3 y4 y5
      unfold merkhetref26_column.l0
      repeat' first
      | (with_reducible exact ih0 _ _ _ _ _ _)
      | (with_reducible exact LeO.refl _)
      | (with_reducible exact LeO.none _)
      | (with_reducible refine LeO.ite ?_ ?_)
      | (with_reducible refine LeO.bind ?_ (fun _ => ?_))
      | exact ih0 _ _ _ _ _ _
      | exact LeO.none _
      | refine LeO.ite ?_ ?_
      | refine LeO.bind ?_ (fun _ => ?_)
theorem merkhetref26_column.mono : ∀ a0 a1 a2 k, LeO (merkhetref26_column.f k a0 a1 a2) (merkhetref26_column.f (k + 1) a0 a1 a2) := by
  intro a0 a1 a2 k
  have ih0 := merkhetref26_column.mono_l k
  unfold merkhetref26_column.f
  repeat' first
      | (with_reducible exact ih0 _ _ _ _ _ _)
      | (with_reducible exact LeO.refl _)
      | (with_reducible exact LeO.none _)
      | (with_reducible refine LeO.ite ?_ ?_)
      | (with_reducible refine LeO.bind ?_ (fun _ => ?_))
      | exact ih0 _ _ _ _ _ _
      | exact LeO.none _
      | refine LeO.ite ?_ ?_
      | refine LeO.bind ?_ (fun _ => ?_)
set_option maxHeartbeats 8000000 in
set_option maxRecDepth 100000 in
theorem merkhetref26_column.calls (k : Nat) (a0 : Int) (a1 : Int) (a2 : Int) (r : Int) (w : World) (h : merkhetref26_column.f k a0 a1 a2 = some r) :
    Calls Try.prog 58 #[.int .i64 a0, .int .i64 a1, .int .i64 a2] w fun e w' => e = .returned (.int .i64 r) ∧ Drawn0 w w' := by
  have H : (merkhetref26_column.l0 k a0 a1 a2 0 0 0) = some r := h
  clear h
  have H' := Aside0.mk H
  clear H
  go_enter Try.func58, Try.ntmps58
  go_wp2
  go_loopg [7, 8, 9] k (fun kq v7 v8 v9 w' => ∃ (x7_1 : Int) (x8_1 : Int) (x9_1 : Int), v7 = .int .i64 x7_1 ∧ v8 = .int .i64 x8_1 ∧ v9 = .int .i64 x9_1 ∧ Aside0 (merkhetref26_column.l0 kq a0 a1 a2 x7_1 x8_1 x9_1 = some r) ∧ Aside0 (kq ≤ k) ∧ Drawn0 w w')
  case atStart => exact ⟨(0), (0), (0), (by first | rfl | (simp; done) | (simp [*]; done)), (by first | rfl | (simp; done) | (simp [*]; done)), (by first | rfl | (simp; done) | (simp [*]; done)), H', ⟨Nat.le_refl _⟩, by repeat (first | exact Drawn0.refl _ | apply Drawn0.step)⟩
  case round =>
    clear H'
    (try clear p2)
    obtain ⟨x7_1, x8_1, x9_1, rfl, rfl, rfl, HA, HK1, ⟨m1, rfl⟩⟩ := hrel
    cases gk with
    | zero => exact absurd HA.out (by simp [merkhetref26_column.l0])
    | succ k1 =>
      have H := HA.out
      clear HA
      simp only [merkhetref26_column.l0] at H
      by_cases c4 : x9_1 < a2
      · rw [if_pos c4] at H
        have c4b0 : decide (x9_1 < a2) = true := decide_eq_true c4
        clear c4
        by_cases c5 : (wrap64 (x7_1 + a0)) ≥ a1
        · rw [if_pos c5] at H
          have c5b0 : decide (a1 ≤ (wrap64 (x7_1 + a0))) = true := decide_eq_true c5
          clear c5
          have H' := Aside0.mk H
          clear H
          go_wp2
          go_roundg k1
          case measure => have := HK1.out; omega
          case rel => exact ⟨(wrap64 ((wrap64 (x7_1 + a0)) - a1)), (wrap64 (x8_1 + 1)), (wrap64 (x9_1 + 1)), (by first | rfl | (simp; done) | (simp [*]; done)), (by first | rfl | (simp; done) | (simp [*]; done)), (by first | rfl | (simp; done) | (simp [*]; done)), H', ⟨by have := HK1.out; omega⟩, by repeat (first | exact Drawn0.refl _ | apply Drawn0.step)⟩
        · rw [if_neg c5] at H
          have c5b0 : decide (a1 ≤ (wrap64 (x7_1 + a0))) = false := decide_eq_false c5
          clear c5
          have H' := Aside0.mk H
          clear H
          go_wp2
          go_roundg k1
          case measure => have := HK1.out; omega
          case rel => exact ⟨(wrap64 (x7_1 + a0)), (x8_1), (wrap64 (x9_1 + 1)), (by first | rfl | (simp; done) | (simp [*]; done)), (by first | rfl | (simp; done) | (simp [*]; done)), (by first | rfl | (simp; done) | (simp [*]; done)), H', ⟨by have := HK1.out; omega⟩, by repeat (first | exact Drawn0.refl _ | apply Drawn0.step)⟩
      · rw [if_neg c4] at H
        have c4b0 : decide (x9_1 < a2) = false := decide_eq_false c4
        clear c4
        obtain rfl := Option.some.inj H
        go_wp2
        go_ret
        exact ⟨by first | rfl | (simp; done) | (simp [*]; done), by repeat (first | exact Drawn0.refl _ | apply Drawn0.step)⟩

/-! ### chart_sheet: function 53 -/
def chart_sheet.f (a0 : Int) : Option (Bool) := if a0 ≥ 1 then (some (decide (a0 ≤ 200))) else (some false)
set_option maxHeartbeats 8000000 in
set_option maxRecDepth 100000 in
theorem chart_sheet.calls (a0 : Int) (r : Bool) (w : World) (h : chart_sheet.f a0 = some r) :
    Calls Try.prog 53 #[.int .i64 a0] w fun e w' => e = .returned (.bool r) ∧ Drawn0 w w' := by
  have H : (if a0 ≥ 1 then (some (decide (a0 ≤ 200))) else (some false)) = some r := h
  clear h
  by_cases c2 : a0 ≥ 1
  · rw [if_pos c2] at H
    have c2b0 : decide (1 ≤ a0) = true := decide_eq_true c2
    clear c2
    obtain rfl := Option.some.inj H
    go_enter Try.func53, Try.ntmps53
    go_wp2
    go_ret
    exact ⟨by first | rfl | (simp; done) | (simp [*]; done), by repeat (first | exact Drawn0.refl _ | apply Drawn0.step)⟩
  · rw [if_neg c2] at H
    have c2b0 : decide (1 ≤ a0) = false := decide_eq_false c2
    clear c2
    obtain rfl := Option.some.inj H
    go_enter Try.func53, Try.ntmps53
    go_wp2
    go_ret
    exact ⟨by first | rfl | (simp; done) | (simp [*]; done), by repeat (first | exact Drawn0.refl _ | apply Drawn0.step)⟩

end Go.Proofs.Ytmfdhcgdibefiaa.A

/- chart.check's closure: whether a span may not be. -/
namespace Go.Proofs.Ytmfdhcgdibefiaa.L
open Go.RowKit Go.Proofs.Ytmfdhcgdibefiaa.Q Go.Proofs.YtmfdhcgdibefiaaW.PrintWords Go.Proofs.YtmfdhcgdibefiaaW.PrintLast Go.Proofs.YtmfdhcgdibefiaaW.PrintMore Go.Proofs.YtmfdhcgdibefiaaW.MapB Go.Proofs.YtmfdhcgdibefiaaW.Lib
set_option linter.unusedVariables false
set_option linter.unusedSimpArgs false
theorem chkspan_calls (s : S37) (h : fitS s) (w : World) : Calls Try.prog 43 #[.agg #[.int .u64 s.f0, .int .u64 s.f1, .int .u64 s.f2, .int .u8 s.f3, .string s.f4, .string s.f5, .int .i64 s.f6, .int .i64 s.f7]] w fun e w' => e = .returned (.bool (mayS s)) ∧ Below w.heap.size w w' := by
  obtain ⟨k, hk⟩ := Ev.rounds (may_ev s.f0 s.f1 s.f2 s.f3 s.f4 s.f5 s.f6 s.f7 h.2.1 h.2.2)
  exact span_May.calls k _ _ _ _ _ _ _ _ _ w hk
set_option maxRecDepth 100000 in
theorem chkmay_calls (s : S37) (h : fitS s) (w : World) : Calls Try.prog 104 #[.agg #[.int .u64 s.f0, .int .u64 s.f1, .int .u64 s.f2, .int .u8 s.f3, .string s.f4, .string s.f5, .int .i64 s.f6, .int .i64 s.f7]] w fun e w' => e = .returned (.bool (!mayS s)) ∧ Below w.heap.size w w' := by
  have HB := Aside0.mk (Below.refl w.heap.size w)
  have QM := Aside0.mk (chkspan_calls s h)
  clear h
  go_enter Try.func104, Try.ntmps104
  go_wp2_with (go_at_call 43; refine (QM.out _).mono ?_; rintro e w1 ⟨rfl, hb⟩; have HB1 := Aside0.mk (below_step (below_alloc HB.out _) hb); clear hb)
  go_ret
  exact ⟨rfl, HB1.out⟩
set_option maxHeartbeats 4000000 in
set_option maxRecDepth 100000 in
theorem chk_index  (es : List S37) (hn : es.length ≤ 1000000000) (A0 : Option Addr) (c0 : Nat) (w : World) (hr0 : Kd.C k37 w A0 es.length es)
    (QL0 : ∀ e ∈ es, ∀ W, Below w.heap.size w W → Calls Try.prog 104 #[.agg #[.int .u64 e.f0, .int .u64 e.f1, .int .u64 e.f2, .int .u8 e.f3, .string e.f4, .string e.f5, .int .i64 e.f6, .int .i64 e.f7]] W fun r w' => r = .returned (.bool ((fun s => !mayS s) e)) ∧ Below W.heap.size W w') :
    Calls Try.prog 95 #[.slice A0 es.length c0, .func (.func 104) #[] #[]] w fun r w' => ∃ i : Int, r = .returned (.int .i64 i) ∧ decide (0 ≤ i) = es.any (fun s => !mayS s) ∧ Below w.heap.size w w' := by
  have HB0 := Aside0.mk (Below.refl w.heap.size w)
  have HR0 := Aside0.mk hr0
  have HN := Aside0.mk hn
  have QL := Aside0.mk QL0
  clear hr0 hn QL0
  generalize hpp : (fun s => !mayS s) = pp at *
  clear hpp
  go_enter Try.func95, Try.ntmps95
  go_wp2_with fail
  go_loopg [8] es.length (fun kq v8 w' => ∃ x8 : Int, v8 = .int .i64 x8 ∧ Aside0 (0 ≤ x8 ∧ x8 + kq = es.length) ∧ Aside0 (∀ e ∈ es.take x8.toNat, pp e = false) ∧ Aside0 (Below w.heap.size w w'))
  case atStart => exact ⟨0, rfl, ⟨by omega, by omega⟩, ⟨by simp⟩, HB0⟩
  case round =>
    obtain ⟨x8, rfl, HK, HA, HB⟩ := hrel
    by_cases c1 : x8 < (es.length : Int)
    · have c1b := decide_eq_true c1
      have p1 : 0 ≤ x8 := HK.out.1
      obtain ⟨ad, e1, hx0, hx1, hx2, hx3, hx4, hx5, hx6, hx7⟩ := at_T37 HR0.out x8 p1 c1
      cases e1
      replace hx0 := (HB.out.cell (World.block_lt_of_cell? w _ hx0)).trans hx0
      replace hx1 := (HB.out.cell (World.block_lt_of_cell? w _ hx1)).trans hx1
      replace hx2 := (HB.out.cell (World.block_lt_of_cell? w _ hx2)).trans hx2
      replace hx3 := (HB.out.cell (World.block_lt_of_cell? w _ hx3)).trans hx3
      replace hx4 := (HB.out.cell (World.block_lt_of_cell? w _ hx4)).trans hx4
      replace hx5 := (HB.out.cell (World.block_lt_of_cell? w _ hx5)).trans hx5
      replace hx6 := (HB.out.cell (World.block_lt_of_cell? w _ hx6)).trans hx6
      replace hx7 := (HB.out.cell (World.block_lt_of_cell? w _ hx7)).trans hx7
      have hit : x8.toNat < es.length := by omega
      have hev : rd_T37 es x8 = es[x8.toNat] := by simp [rd_T37, List.getD, hit]
      have hem : rd_T37 es x8 ∈ es := by rw [hev]; exact List.getElem_mem _
      have HE := Aside0.mk (show es.take (x8 + 1).toNat = es.take x8.toNat ++ [rd_T37 es x8] from by
        rw [show (x8 + 1).toNat = x8.toNat + 1 by omega, List.take_succ_eq_append_getElem hit, hev])
      have QE := Aside0.mk (QL.out _ hem wr HB.out)
      have HM := Aside0.mk hem
      have P1 := Aside0.mk p1
      have Q1 := Aside0.mk c1
      have W1 := Aside0.mk (show wrap64 (x8 + 1) = x8 + 1 from by unfold wrap64; have := HN.out; have := P1.out; have := Q1.out; omega)
      clear hev hem hit
      generalize rd_T37 es x8 = e at *
      replace p1 := eq_true p1
      replace c1 := eq_true c1
      obtain ⟨k1, rfl⟩ : ∃ k1, gk = k1 + 1 := ⟨gk - 1, by have := HK.out; have := Q1.out; omega⟩
      cases hq : pp e with
      | false =>
        rw [hq] at QE
        have HQ := Aside0.mk hq
        clear hq
        go_wp2_with (go_at_call 104; refine QE.out.mono ?_; rintro r w1 ⟨rfl, hb⟩; have HB1 := Aside0.mk (below_step HB.out hb); clear hb)
        go_roundg k1
        case measure => omega
        case rel => exact ⟨x8 + 1, by rw [W1.out], ⟨by have := P1.out; omega, by have := HK.out; omega⟩, ⟨by
          rw [HE.out]
          intro y hy
          rcases List.mem_append.1 hy with h | h
          · exact HA.out y h
          · rw [List.mem_singleton.1 h]; exact HQ.out⟩, HB1⟩
      | true =>
        rw [hq] at QE
        have HQ := Aside0.mk hq
        clear hq
        go_wp2_with (go_at_call 104; refine QE.out.mono ?_; rintro r w1 ⟨rfl, hb⟩; have HB1 := Aside0.mk (below_step HB.out hb); clear hb)
        go_ret
        refine ⟨x8, rfl, ?_, HB1.out⟩
        rw [decide_eq_true P1.out]
        exact (List.any_eq_true.2 ⟨e, HM.out, HQ.out⟩).symm
    · have c1b := decide_eq_false c1
      have hx : x8.toNat = es.length := by have := HK.out; omega
      have ha := HA.out
      rw [hx, List.take_length] at ha
      have HAll := Aside0.mk ha
      clear ha hx c1
      go_wp2_with fail
      go_ret
      refine ⟨-1, rfl, ?_, HB.out⟩
      exact (List.any_eq_false.2 (fun e he => by rw [HAll.out e he]; simp)).symm
set_option maxHeartbeats 2000000 in
set_option maxRecDepth 100000 in
theorem chk_contains  (es : List S37) (hn : es.length ≤ 1000000000) (A0 : Option Addr) (c0 : Nat) (w : World) (hr0 : Kd.C k37 w A0 es.length es)
    (QL0 : ∀ e ∈ es, ∀ W, Below w.heap.size w W → Calls Try.prog 104 #[.agg #[.int .u64 e.f0, .int .u64 e.f1, .int .u64 e.f2, .int .u8 e.f3, .string e.f4, .string e.f5, .int .i64 e.f6, .int .i64 e.f7]] W fun r w' => r = .returned (.bool ((fun s => !mayS s) e)) ∧ Below W.heap.size W w') :
    Calls Try.prog 41 #[.slice A0 es.length c0, .func (.func 104) #[] #[]] w fun r w' => r = .returned (.bool (es.any (fun s => !mayS s))) ∧ Below w.heap.size w w' := by
  have HB0 := Aside0.mk (Below.refl w.heap.size w)
  have QI := Aside0.mk (chk_index  es hn A0 c0 w hr0 QL0)
  clear hn hr0 QL0
  go_enter Try.func41, Try.ntmps41
  go_wp2_with (go_at_call 95; refine QI.out.mono ?_; rintro r w1 ⟨i, rfl, hd, hb⟩; have HD := Aside0.mk hd; have HB2 := Aside0.mk hb; clear hb hd)
  go_ret
  refine ⟨?_, HB2.out⟩
  rw [← HD.out]
  rfl
end Go.Proofs.Ytmfdhcgdibefiaa.L

-- Written by wip/tools/gp.py, a program of this session round the kit's printer. Lean checks it.
namespace Go.Proofs.Ytmfdhcgdibefiaa.B
open Go.RowKit Go.Proofs.Ytmfdhcgdibefiaa.Q Go.Proofs.Ytmfdhcgdibefiaa.A Go.Proofs.YtmfdhcgdibefiaaW.PrintWords Go.Proofs.YtmfdhcgdibefiaaW.PrintLast Go.Proofs.YtmfdhcgdibefiaaW.PrintMore
attribute [local go_sem] max2_int min2_int max_two min_two max_three min_three max_four min_four   -- for this text's walks alone
set_option linter.unusedVariables false
set_option linter.unusedSimpArgs false
end Go.Proofs.Ytmfdhcgdibefiaa.B

-- Written by wip/tools/gp.py, a program of this session round the kit's printer. Lean checks it.
namespace Go.Proofs.Ytmfdhcgdibefiaa.B
open Go.RowKit Go.Proofs.Ytmfdhcgdibefiaa.Q Go.Proofs.Ytmfdhcgdibefiaa.A Go.Proofs.YtmfdhcgdibefiaaW.PrintWords Go.Proofs.YtmfdhcgdibefiaaW.PrintLast Go.Proofs.YtmfdhcgdibefiaaW.PrintMore
attribute [local go_sem] max2_int min2_int max_two min_two max_three min_three max_four min_four   -- for this text's walks alone
set_option linter.unusedVariables false
set_option linter.unusedSimpArgs false

/-! ### chart_check_1: function 104 (given) -/
def chart_check_1.f (l0 : List S37) : Option Bool := if l0.length ≤ 1000000000 ∧ (∀ s ∈ l0, L.fitS s) then some (l0.any (fun s => !L.mayS s)) else none
theorem chart_check_1.calls (A0 : Option Addr) (c0 : Nat) (l0 : List (S37)) (r : Bool) (w : World) (hr0 : Kd.C k37 w A0 l0.length l0) (hc0 : l0.length ≤ c0) (h : chart_check_1.f l0 = some r) :
    Calls Try.prog 41 #[.slice A0 l0.length c0, .func (.func 104) #[] #[]] w fun e w' => e = .returned (.bool r) ∧ Below w.heap.size w w' := by
  unfold chart_check_1.f at h
  split at h
  · rename_i hl
    obtain rfl := Option.some.inj h
    exact L.chk_contains l0 hl.1 A0 c0 w hr0 (fun e he W hb => L.chkmay_calls e (hl.2 e he) W)
  · cases h

-- NOT PRINTED: function 95 (api_Span_95)

-- NOT PRINTED: function 41 (api_Span_41)

/-! ### chart_check: function 54 -/
def chart_check.j0 : Nat → Bool → Int → List (S37) → List Int → List ByteArray → List Int → List (S126) → Option (Int)
  | 0, _, _, _, _, _, _, _ => none
  | k + 1, x18, x102000, x102001, x102002, x102003, x102004, x102005 => if x18 = true then (some 3) else (if (x102001.length : Int) > 1048576 then (some 4) else ((slices_Max_int64_int64.f k x102002).bind fun t103 => (if t103 > 1152921504606846976 then (some 4) else ((slices_Min_int64_int64.f k x102002).bind fun t104 => (if t104 < (-1152921504606846976) then (some 4) else (some 0))))))
def chart_check.f (k : Nat) (a0_0 : Int) (l0_1 : List (S37)) (l0_2 : List Int) (l0_3 : List ByteArray) (l0_4 : List Int) (l0_5 : List (S126)) : Option (Int) := if (l0_1.length : Int) = 0 then (some 5) else (if (l0_2.length : Int) = (l0_1.length : Int) then ((chart_check_1.f l0_1).bind fun t102 => (chart_check.j0 k t102 a0_0 l0_1 l0_2 l0_3 l0_4 l0_5)) else (chart_check.j0 k true a0_0 l0_1 l0_2 l0_3 l0_4 l0_5))
theorem chart_check.mono_l : ∀ k, (∀ y0 y1 y2 y3 y4 y5 y6, LeO (chart_check.j0 k y0 y1 y2 y3 y4 y5 y6) (chart_check.j0 (k + 1) y0 y1 y2 y3 y4 y5 y6))
  | 0 => fun _ _ _ _ _ _ _ r h => by simp [chart_check.j0] at h
  | k + 1 => by
    have ih0 := chart_check.mono_l k
    · intro y0 y1 y2 y3 y4 y5 y6
      unfold chart_check.j0
      repeat' first
      | (with_reducible exact ih0 _ _ _ _ _ _ _)
      | (with_reducible exact slices_Max_int64_int64.mono _ _)
      | (with_reducible exact slices_Min_int64_int64.mono _ _)
      | (with_reducible exact LeO.refl _)
      | (with_reducible exact LeO.none _)
      | (with_reducible refine LeO.ite ?_ ?_)
      | (with_reducible refine LeO.bind ?_ (fun _ => ?_))
      | exact ih0 _ _ _ _ _ _ _
      | exact slices_Max_int64_int64.mono _ _
      | exact slices_Min_int64_int64.mono _ _
      | exact LeO.none _
      | refine LeO.ite ?_ ?_
      | refine LeO.bind ?_ (fun _ => ?_)
theorem chart_check.mono : ∀ a0 a1 a2 a3 a4 a5 k, LeO (chart_check.f k a0 a1 a2 a3 a4 a5) (chart_check.f (k + 1) a0 a1 a2 a3 a4 a5) := by
  intro a0 a1 a2 a3 a4 a5 k
  have ih0 := chart_check.mono_l k
  unfold chart_check.f
  repeat' first
      | (with_reducible exact ih0 _ _ _ _ _ _ _)
      | (with_reducible exact slices_Max_int64_int64.mono _ _)
      | (with_reducible exact slices_Min_int64_int64.mono _ _)
      | (with_reducible exact LeO.refl _)
      | (with_reducible exact LeO.none _)
      | (with_reducible refine LeO.ite ?_ ?_)
      | (with_reducible refine LeO.bind ?_ (fun _ => ?_))
      | exact ih0 _ _ _ _ _ _ _
      | exact slices_Max_int64_int64.mono _ _
      | exact slices_Min_int64_int64.mono _ _
      | exact LeO.none _
      | refine LeO.ite ?_ ?_
      | refine LeO.bind ?_ (fun _ => ?_)
set_option maxHeartbeats 8000000 in
set_option maxRecDepth 100000 in
theorem chart_check.calls (k : Nat) (a0_0 : Int) (A0_1 : Option Addr) (c0_1 : Nat) (l0_1 : List (S37)) (A0_2 : Option Addr) (c0_2 : Nat) (l0_2 : List Int) (A0_3 : Option Addr) (c0_3 : Nat) (l0_3 : List ByteArray) (A0_4 : Option Addr) (c0_4 : Nat) (l0_4 : List Int) (A0_5 : Option Addr) (c0_5 : Nat) (l0_5 : List (S126)) (r : Int) (w : World) (hr0_1 : Kd.C k37 w A0_1 l0_1.length l0_1) (hc0_1 : l0_1.length ≤ c0_1) (hr0_2 : Kd.C (Kd.int .i64) w A0_2 l0_2.length l0_2) (hc0_2 : l0_2.length ≤ c0_2) (hr0_3 : Kd.C Kd.string w A0_3 l0_3.length l0_3) (hc0_3 : l0_3.length ≤ c0_3) (hr0_4 : Kd.C (Kd.int .i64) w A0_4 l0_4.length l0_4) (hc0_4 : l0_4.length ≤ c0_4) (hr0_5 : Kd.C k126 w A0_5 l0_5.length l0_5) (hc0_5 : l0_5.length ≤ c0_5) (h : chart_check.f k a0_0 l0_1 l0_2 l0_3 l0_4 l0_5 = some r) :
    Calls Try.prog 54 #[.agg #[.int .i64 a0_0, .slice A0_1 l0_1.length c0_1, .slice A0_2 l0_2.length c0_2, .slice A0_3 l0_3.length c0_3, .slice A0_4 l0_4.length c0_4, .slice A0_5 l0_5.length c0_5]] w fun e w' => e = .returned (.int .i64 r) ∧ Below w.heap.size w w' := by
  have hu48 := Try.underlying48
  have HR0_1 := Aside0.mk hr0_1
  have HC0_1 := Aside0.mk hc0_1
  clear hr0_1 hc0_1
  have HR0_2 := Aside0.mk hr0_2
  have HC0_2 := Aside0.mk hc0_2
  clear hr0_2 hc0_2
  have HR0_3 := Aside0.mk hr0_3
  have HC0_3 := Aside0.mk hc0_3
  clear hr0_3 hc0_3
  have HR0_4 := Aside0.mk hr0_4
  have HC0_4 := Aside0.mk hc0_4
  clear hr0_4 hc0_4
  have HR0_5 := Aside0.mk hr0_5
  have HC0_5 := Aside0.mk hc0_5
  clear hr0_5 hc0_5
  have HB := Aside0.mk (Below.refl w.heap.size w)
  have H : (if (l0_1.length : Int) = 0 then (some 5) else (if (l0_2.length : Int) = (l0_1.length : Int) then ((chart_check_1.f l0_1).bind fun t102 => (chart_check.j0 k t102 a0_0 l0_1 l0_2 l0_3 l0_4 l0_5)) else (chart_check.j0 k true a0_0 l0_1 l0_2 l0_3 l0_4 l0_5))) = some r := h
  clear h
  by_cases c2 : (l0_1.length : Int) = 0
  · rw [if_pos c2] at H
    have c2b0 : ((l0_1.length : Int) == 0) = true := beq_iff_eq.mpr c2
    have c2b1 : ((l0_1.length : Int) != 0) = false := bne_eq_false_iff_eq.mpr c2
    clear c2
    obtain rfl := Option.some.inj H
    go_enter Try.func54, Try.ntmps54
    go_wp2_with (first | ((with_reducible refine gate_dst (N := 1) rfl ?_); refine box_event ?hg (N := 1) ?hd (cs := #[.int .i64 a0_0, .slice A0_1 l0_1.length c0_1, .slice A0_2 l0_2.length c0_2, .slice A0_3 l0_3.length c0_3, .slice A0_4 l0_4.length c0_4, .slice A0_5 l0_5.length c0_5]) (t := 48) ?hr ?_; (case hd => rfl); (case hg => rfl); (case hr => first | (go_simp; done) | (go_simp; rfl)); intro gb101 hg w3 hbox hb; have n0_ := Aside0.mk (below_step (by repeat (first | (with_reducible first | exact HB.out | apply below_alloc | apply pw_below_drewN | apply below_drew1) | exact HB.out)) hb); have n1_ := Aside0.mk (hbox); have n2_ := Aside0.mk ((by rw [hg]; exact (below_size (by repeat (first | (with_reducible first | exact HB.out | apply below_alloc | apply pw_below_drewN | apply below_drew1) | exact HB.out))) : w.heap.size ≤ gb101)); have n3_ := Aside0.mk ((by rw [hg]; exact (below_size (by repeat (first | (with_reducible first | exact HB.out | apply below_alloc | apply pw_below_drewN | apply below_drew1) | exact HB.out))) : w.heap.size ≤ gb101)); clear HB; have HB := n0_; have BK101 := n1_; have GW101 := n2_; have GE101 := n3_; clear n0_ n1_ n2_ n3_; clear hb hbox hg; have hcz4_0 : w3.cell? ⟨gb101, 0, none⟩ = some (.int .i64 a0_0) := (blk_cell BK101.out 0).trans rfl; have hcz4_1 : w3.cell? ⟨gb101, 1, none⟩ = some (.slice A0_1 l0_1.length c0_1) := (blk_cell BK101.out 1).trans rfl; have hcz4_2 : w3.cell? ⟨gb101, 2, none⟩ = some (.slice A0_2 l0_2.length c0_2) := (blk_cell BK101.out 2).trans rfl; have hcz4_3 : w3.cell? ⟨gb101, 3, none⟩ = some (.slice A0_3 l0_3.length c0_3) := (blk_cell BK101.out 3).trans rfl; have hcz4_4 : w3.cell? ⟨gb101, 4, none⟩ = some (.slice A0_4 l0_4.length c0_4) := (blk_cell BK101.out 4).trans rfl; have hcz4_5 : w3.cell? ⟨gb101, 5, none⟩ = some (.slice A0_5 l0_5.length c0_5) := (blk_cell BK101.out 5).trans rfl; have hfz4_0 := blk_frozen BK101.out 0; have hfz4_1 := blk_frozen BK101.out 1; have hfz4_2 := blk_frozen BK101.out 2; have hfz4_3 := blk_frozen BK101.out 3; have hfz4_4 := blk_frozen BK101.out 4; have hfz4_5 := blk_frozen BK101.out 5))
    go_ret
    exact ⟨by first | rfl | (simp [errW_none, errW_some] <;> rfl) | (simp [*, errW_none, errW_some] <;> rfl), by repeat (first | (with_reducible first | exact HB.out | apply below_alloc | apply pw_below_drewN | apply below_drew1 | refine below_set ?_ GE101.out) | exact HB.out)⟩
  · rw [if_neg c2] at H
    have c2b0 : ((l0_1.length : Int) == 0) = false := beq_eq_false_iff_ne.mpr c2
    have c2b1 : ((l0_1.length : Int) != 0) = true := bne_iff_ne.mpr c2
    have c2b2 : ¬ (l0_1 = []) := fun h_ => c2 (by rw [h_]; rfl)
    have HC5 := Aside0.mk H
    clear H
    go_enter Try.func54, Try.ntmps54
    go_upto_region 3 with (first | ((with_reducible refine gate_dst (N := 1) rfl ?_); refine box_event ?hg (N := 1) ?hd (cs := #[.int .i64 a0_0, .slice A0_1 l0_1.length c0_1, .slice A0_2 l0_2.length c0_2, .slice A0_3 l0_3.length c0_3, .slice A0_4 l0_4.length c0_4, .slice A0_5 l0_5.length c0_5]) (t := 48) ?hr ?_; (case hd => rfl); (case hg => rfl); (case hr => first | (go_simp; done) | (go_simp; rfl)); intro gb101 hg w6 hbox hb; have n0_ := Aside0.mk (below_step (by repeat (first | (with_reducible first | exact HB.out | apply below_alloc | apply pw_below_drewN | apply below_drew1) | exact HB.out)) hb); have n1_ := Aside0.mk (hbox); have n2_ := Aside0.mk ((by rw [hg]; exact (below_size (by repeat (first | (with_reducible first | exact HB.out | apply below_alloc | apply pw_below_drewN | apply below_drew1) | exact HB.out))) : w.heap.size ≤ gb101)); have n3_ := Aside0.mk ((by rw [hg]; exact (below_size (by repeat (first | (with_reducible first | exact HB.out | apply below_alloc | apply pw_below_drewN | apply below_drew1) | exact HB.out))) : w.heap.size ≤ gb101)); clear HB; have HB := n0_; have BK101 := n1_; have GW101 := n2_; have GE101 := n3_; clear n0_ n1_ n2_ n3_; clear hb hbox hg; have hcz7_0 : w6.cell? ⟨gb101, 0, none⟩ = some (.int .i64 a0_0) := (blk_cell BK101.out 0).trans rfl; have hcz7_1 : w6.cell? ⟨gb101, 1, none⟩ = some (.slice A0_1 l0_1.length c0_1) := (blk_cell BK101.out 1).trans rfl; have hcz7_2 : w6.cell? ⟨gb101, 2, none⟩ = some (.slice A0_2 l0_2.length c0_2) := (blk_cell BK101.out 2).trans rfl; have hcz7_3 : w6.cell? ⟨gb101, 3, none⟩ = some (.slice A0_3 l0_3.length c0_3) := (blk_cell BK101.out 3).trans rfl; have hcz7_4 : w6.cell? ⟨gb101, 4, none⟩ = some (.slice A0_4 l0_4.length c0_4) := (blk_cell BK101.out 4).trans rfl; have hcz7_5 : w6.cell? ⟨gb101, 5, none⟩ = some (.slice A0_5 l0_5.length c0_5) := (blk_cell BK101.out 5).trans rfl; have hfz7_0 := blk_frozen BK101.out 0; have hfz7_1 := blk_frozen BK101.out 1; have hfz7_2 := blk_frozen BK101.out 2; have hfz7_3 := blk_frozen BK101.out 3; have hfz7_4 := blk_frozen BK101.out 4; have hfz7_5 := blk_frozen BK101.out 5))
    (try simp only [Act.put, List.setIfInBounds_toArray, List.set_cons_zero, List.set_cons_succ])
    go_cut [18] (fun v18 wc => ∃ (kq : Nat) (x18_4 : Bool), v18 = .bool x18_4 ∧ Aside0 (chart_check.j0 kq x18_4 a0_0 l0_1 l0_2 l0_3 l0_4 l0_5 = some r) ∧ Aside0 (kq ≤ k) ∧ Aside0 (wc.heap[gb101]? = some (.cells #[.int .i64 a0_0, (.slice A0_1 l0_1.length c0_1), (.slice A0_2 l0_2.length c0_2), (.slice A0_3 l0_3.length c0_3), (.slice A0_4 l0_4.length c0_4), (.slice A0_5 l0_5.length c0_5)] 48 (0, 0))) ∧ Aside0 (Below w.heap.size w wc))
    case first =>
      have H := HC5.out
      clear HC5
      by_cases c8 : (l0_2.length : Int) = (l0_1.length : Int)
      · rw [if_pos c8] at H
        have c8b0 : ((l0_2.length : Int) == (l0_1.length : Int)) = true := beq_iff_eq.mpr c8
        have c8b1 : ((l0_2.length : Int) != (l0_1.length : Int)) = false := bne_eq_false_iff_eq.mpr c8
        have c8b2 : (l0_2.length == l0_1.length) = true := by first | simpa using c8 | (simp at c8 ⊢; omega)
        clear c8
        (first | rw [c8b0] | (simp only [i64_w, i32_w]; rw [c8b0]) | skip)
        replace H := Option.bind_eq_some_iff.mp H
        obtain ⟨t102, A90, H⟩ := H
        replace H : (chart_check.j0 k t102 a0_0 l0_1 l0_2 l0_3 l0_4 l0_5) = some r := H
        have A9 := Aside0.mk A90
        clear A90
        have H' := Aside0.mk H
        clear H
        have hcz10_0 : w6.cell? ⟨gb101, 0, none⟩ = some (.int .i64 a0_0) := (blk_cell BK101.out 0).trans rfl
        have hcz10_1 : w6.cell? ⟨gb101, 1, none⟩ = some (.slice A0_1 l0_1.length c0_1) := (blk_cell BK101.out 1).trans rfl
        have hcz10_2 : w6.cell? ⟨gb101, 2, none⟩ = some (.slice A0_2 l0_2.length c0_2) := (blk_cell BK101.out 2).trans rfl
        have hcz10_3 : w6.cell? ⟨gb101, 3, none⟩ = some (.slice A0_3 l0_3.length c0_3) := (blk_cell BK101.out 3).trans rfl
        have hcz10_4 : w6.cell? ⟨gb101, 4, none⟩ = some (.slice A0_4 l0_4.length c0_4) := (blk_cell BK101.out 4).trans rfl
        have hcz10_5 : w6.cell? ⟨gb101, 5, none⟩ = some (.slice A0_5 l0_5.length c0_5) := (blk_cell BK101.out 5).trans rfl
        have hfz10_0 := blk_frozen BK101.out 0
        have hfz10_1 := blk_frozen BK101.out 1
        have hfz10_2 := blk_frozen BK101.out 2
        have hfz10_3 := blk_frozen BK101.out 3
        have hfz10_4 := blk_frozen BK101.out 4
        have hfz10_5 := blk_frozen BK101.out 5
        go_wp2_with (first | (go_at_call 41; (with_reducible refine (chart_check_1.calls _ _ l0_1 t102 _ ?side1 ?side2 A9.out).mono ?_); (case side1 => repeat (first | exact (Kd.C_below HR0_1.out HB.out) | (with_reducible refine Kd.C_alloc ?_ _) | (with_reducible refine Kd.C_drewN ?_ _) | (with_reducible refine Kd.C_drew ?_))); (case side2 => exact HC0_1.out); rintro e w11 ⟨rfl, hb⟩; have n0_ := Aside0.mk (blk_below (g := gb101) (o := .cells #[.int .i64 a0_0, .slice A0_1 l0_1.length c0_1, .slice A0_2 l0_2.length c0_2, .slice A0_3 l0_3.length c0_3, .slice A0_4 l0_4.length c0_4, .slice A0_5 l0_5.length c0_5] 48 (0, 0)) (by (with_reducible repeat (first | refine blk_drewN ?_ _ | refine blk_drew ?_ | refine blk_alloc ?_ _)); exact BK101.out) hb); have n1_ := Aside0.mk (below_step (by repeat (first | (with_reducible first | exact HB.out | apply below_alloc | apply pw_below_drewN | apply below_drew1 | refine below_set ?_ GE101.out) | exact HB.out)) hb); clear BK101; clear HB; have BK101 := n0_; have HB := n1_; clear n0_ n1_; (try clear hb); (try clear hb2); (try clear hk); (try clear hi)))
        go_meet
        case rel => exact ⟨_, (t102), (by first | rfl | (simp; done) | (simp [*]; done)), H', ⟨by first | omega | exact Nat.le_refl _⟩, ⟨by (with_reducible repeat (first | refine blk_drewN ?_ _ | refine blk_drew ?_ | refine blk_alloc ?_ _)); exact BK101.out⟩, ⟨by repeat (first | (with_reducible first | exact HB.out | apply below_alloc | apply pw_below_drewN | apply below_drew1 | refine below_set ?_ GE101.out) | exact HB.out)⟩⟩
      · rw [if_neg c8] at H
        have c8b0 : ((l0_2.length : Int) == (l0_1.length : Int)) = false := beq_eq_false_iff_ne.mpr c8
        have c8b1 : ((l0_2.length : Int) != (l0_1.length : Int)) = true := bne_iff_ne.mpr c8
        have c8b2 : (l0_2.length == l0_1.length) = false := by first | simpa using c8 | (simp at c8 ⊢; omega)
        (first | rw [c8b0] | (simp only [i64_w, i32_w]; rw [c8b0]) | skip)
        have H' := Aside0.mk H
        clear H
        have hcz12_0 : w6.cell? ⟨gb101, 0, none⟩ = some (.int .i64 a0_0) := (blk_cell BK101.out 0).trans rfl
        have hcz12_1 : w6.cell? ⟨gb101, 1, none⟩ = some (.slice A0_1 l0_1.length c0_1) := (blk_cell BK101.out 1).trans rfl
        have hcz12_2 : w6.cell? ⟨gb101, 2, none⟩ = some (.slice A0_2 l0_2.length c0_2) := (blk_cell BK101.out 2).trans rfl
        have hcz12_3 : w6.cell? ⟨gb101, 3, none⟩ = some (.slice A0_3 l0_3.length c0_3) := (blk_cell BK101.out 3).trans rfl
        have hcz12_4 : w6.cell? ⟨gb101, 4, none⟩ = some (.slice A0_4 l0_4.length c0_4) := (blk_cell BK101.out 4).trans rfl
        have hcz12_5 : w6.cell? ⟨gb101, 5, none⟩ = some (.slice A0_5 l0_5.length c0_5) := (blk_cell BK101.out 5).trans rfl
        have hfz12_0 := blk_frozen BK101.out 0
        have hfz12_1 := blk_frozen BK101.out 1
        have hfz12_2 := blk_frozen BK101.out 2
        have hfz12_3 := blk_frozen BK101.out 3
        have hfz12_4 := blk_frozen BK101.out 4
        have hfz12_5 := blk_frozen BK101.out 5
        go_wp2
        go_meet
        case rel => exact ⟨_, (true), (by first | rfl | (simp; done) | (simp [*]; done)), H', ⟨by first | omega | exact Nat.le_refl _⟩, ⟨by (with_reducible repeat (first | refine blk_drewN ?_ _ | refine blk_drew ?_ | refine blk_alloc ?_ _)); exact BK101.out⟩, ⟨by repeat (first | (with_reducible first | exact HB.out | apply below_alloc | apply pw_below_drewN | apply below_drew1 | refine below_set ?_ GE101.out) | exact HB.out)⟩⟩
    case rest =>
      clear HC5
      (try clear c2); (try clear c2b0); (try clear c2b1); (try clear c2b2); (try clear p2); (try clear c5); (try clear c8); (try clear c8b0); (try clear c8b1); (try clear c8b2); (try clear hcz10_0); (try clear hcz10_1); (try clear hcz10_2); (try clear hcz10_3); (try clear hcz10_4); (try clear hcz10_5); (try clear hcz12_0); (try clear hcz12_1); (try clear hcz12_2); (try clear hcz12_3); (try clear hcz12_4); (try clear hcz12_5); (try clear hcz4_0); (try clear hcz4_1); (try clear hcz4_2); (try clear hcz4_3); (try clear hcz4_4); (try clear hcz4_5); (try clear hcz7_0); (try clear hcz7_1); (try clear hcz7_2); (try clear hcz7_3); (try clear hcz7_4); (try clear hcz7_5); (try clear hfz10_0); (try clear hfz10_1); (try clear hfz10_2); (try clear hfz10_3); (try clear hfz10_4); (try clear hfz10_5); (try clear hfz12_0); (try clear hfz12_1); (try clear hfz12_2); (try clear hfz12_3); (try clear hfz12_4); (try clear hfz12_5); (try clear hfz4_0); (try clear hfz4_1); (try clear hfz4_2); (try clear hfz4_3); (try clear hfz4_4); (try clear hfz4_5); (try clear hfz7_0); (try clear hfz7_1); (try clear hfz7_2); (try clear hfz7_3); (try clear hfz7_4); (try clear hfz7_5)
      obtain ⟨kq, x18_4, rfl, HA, HJ4, BK101, HB⟩ := hcut
      cases kq with
      | zero => exact absurd HA.out (by simp [chart_check.j0])
      | succ kj4 =>
        have H := HA.out
        clear HA
        simp only [chart_check.j0] at H
        by_cases c13 : x18_4 = true
        · subst c13
          have H1 : (some 3) = some r := by rw [if_pos rfl] at H; exact H
          clear H
          have H := H1
          clear H1
          obtain rfl := Option.some.inj H
          go_wp2
          go_ret
          exact ⟨by first | rfl | (simp [errW_none, errW_some] <;> rfl) | (simp [*, errW_none, errW_some] <;> rfl), by repeat (first | (with_reducible first | exact HB.out | apply below_alloc | apply pw_below_drewN | apply below_drew1 | refine below_set ?_ GE101.out) | exact HB.out)⟩
        · replace c13 := Bool.eq_false_iff.mpr c13
          subst c13
          have H1 : (if (l0_1.length : Int) > 1048576 then (some 4) else ((slices_Max_int64_int64.f kj4 l0_2).bind fun t103 => (if t103 > 1152921504606846976 then (some 4) else ((slices_Min_int64_int64.f kj4 l0_2).bind fun t104 => (if t104 < (-1152921504606846976) then (some 4) else (some 0)))))) = some r := by rw [if_neg (show ¬ (false = true) by decide)] at H; exact H
          clear H
          have H := H1
          clear H1
          by_cases c14 : (l0_1.length : Int) > 1048576
          · rw [if_pos c14] at H
            have c14b0 : decide (1048576 < (l0_1.length : Int)) = true := decide_eq_true c14
            have c14b1 : decide (1048576 < l0_1.length) = true := decide_eq_true (by omega)
            clear c14
            obtain rfl := Option.some.inj H
            have hcz15_0 : wc.cell? ⟨gb101, 0, none⟩ = some (.int .i64 a0_0) := (blk_cell BK101.out 0).trans rfl
            have hcz15_1 : wc.cell? ⟨gb101, 1, none⟩ = some (.slice A0_1 l0_1.length c0_1) := (blk_cell BK101.out 1).trans rfl
            have hcz15_2 : wc.cell? ⟨gb101, 2, none⟩ = some (.slice A0_2 l0_2.length c0_2) := (blk_cell BK101.out 2).trans rfl
            have hcz15_3 : wc.cell? ⟨gb101, 3, none⟩ = some (.slice A0_3 l0_3.length c0_3) := (blk_cell BK101.out 3).trans rfl
            have hcz15_4 : wc.cell? ⟨gb101, 4, none⟩ = some (.slice A0_4 l0_4.length c0_4) := (blk_cell BK101.out 4).trans rfl
            have hcz15_5 : wc.cell? ⟨gb101, 5, none⟩ = some (.slice A0_5 l0_5.length c0_5) := (blk_cell BK101.out 5).trans rfl
            have hfz15_0 := blk_frozen BK101.out 0
            have hfz15_1 := blk_frozen BK101.out 1
            have hfz15_2 := blk_frozen BK101.out 2
            have hfz15_3 := blk_frozen BK101.out 3
            have hfz15_4 := blk_frozen BK101.out 4
            have hfz15_5 := blk_frozen BK101.out 5
            go_wp2
            go_ret
            exact ⟨by first | rfl | (simp [errW_none, errW_some] <;> rfl) | (simp [*, errW_none, errW_some] <;> rfl), by repeat (first | (with_reducible first | exact HB.out | apply below_alloc | apply pw_below_drewN | apply below_drew1 | refine below_set ?_ GE101.out) | exact HB.out)⟩
          · rw [if_neg c14] at H
            have c14b0 : decide (1048576 < (l0_1.length : Int)) = false := decide_eq_false c14
            have c14b1 : decide (1048576 < l0_1.length) = false := decide_eq_false (by omega)
            clear c14
            replace H := Option.bind_eq_some_iff.mp H
            obtain ⟨t103, A160, H⟩ := H
            replace H : (if t103 > 1152921504606846976 then (some 4) else ((slices_Min_int64_int64.f kj4 l0_2).bind fun t104 => (if t104 < (-1152921504606846976) then (some 4) else (some 0)))) = some r := H
            have A16 := Aside0.mk A160
            clear A160
            by_cases c17 : t103 > 1152921504606846976
            · rw [if_pos c17] at H
              have c17b0 : decide (1152921504606846976 < t103) = true := decide_eq_true c17
              clear c17
              obtain rfl := Option.some.inj H
              have hcz18_0 : wc.cell? ⟨gb101, 0, none⟩ = some (.int .i64 a0_0) := (blk_cell BK101.out 0).trans rfl
              have hcz18_1 : wc.cell? ⟨gb101, 1, none⟩ = some (.slice A0_1 l0_1.length c0_1) := (blk_cell BK101.out 1).trans rfl
              have hcz18_2 : wc.cell? ⟨gb101, 2, none⟩ = some (.slice A0_2 l0_2.length c0_2) := (blk_cell BK101.out 2).trans rfl
              have hcz18_3 : wc.cell? ⟨gb101, 3, none⟩ = some (.slice A0_3 l0_3.length c0_3) := (blk_cell BK101.out 3).trans rfl
              have hcz18_4 : wc.cell? ⟨gb101, 4, none⟩ = some (.slice A0_4 l0_4.length c0_4) := (blk_cell BK101.out 4).trans rfl
              have hcz18_5 : wc.cell? ⟨gb101, 5, none⟩ = some (.slice A0_5 l0_5.length c0_5) := (blk_cell BK101.out 5).trans rfl
              have hfz18_0 := blk_frozen BK101.out 0
              have hfz18_1 := blk_frozen BK101.out 1
              have hfz18_2 := blk_frozen BK101.out 2
              have hfz18_3 := blk_frozen BK101.out 3
              have hfz18_4 := blk_frozen BK101.out 4
              have hfz18_5 := blk_frozen BK101.out 5
              go_wp2_with (first | (go_at_call 105; (with_reducible refine (slices_Max_int64_int64.calls kj4 _ _ l0_2 t103 _ ?side1 ?side2 A16.out).mono ?_); (case side1 => repeat (first | exact (Kd.C_below HR0_2.out HB.out) | (with_reducible refine Kd.C_alloc ?_ _) | (with_reducible refine Kd.C_drewN ?_ _) | (with_reducible refine Kd.C_drew ?_))); (case side2 => exact HC0_2.out); rintro e w19 ⟨rfl, hb⟩; have n0_ := Aside0.mk (blk_below (g := gb101) (o := .cells #[.int .i64 a0_0, .slice A0_1 l0_1.length c0_1, .slice A0_2 l0_2.length c0_2, .slice A0_3 l0_3.length c0_3, .slice A0_4 l0_4.length c0_4, .slice A0_5 l0_5.length c0_5] 48 (0, 0)) (by (with_reducible repeat (first | refine blk_drewN ?_ _ | refine blk_drew ?_ | refine blk_alloc ?_ _)); exact BK101.out) hb); have n1_ := Aside0.mk (below_step (by repeat (first | (with_reducible first | exact HB.out | apply below_alloc | apply pw_below_drewN | apply below_drew1 | refine below_set ?_ GE101.out) | exact HB.out)) hb); clear BK101; clear HB; have BK101 := n0_; have HB := n1_; clear n0_ n1_; (try clear hb); (try clear hb2); (try clear hk); (try clear hi)))
              go_ret
              exact ⟨by first | rfl | (simp [errW_none, errW_some] <;> rfl) | (simp [*, errW_none, errW_some] <;> rfl), by repeat (first | (with_reducible first | exact HB.out | apply below_alloc | apply pw_below_drewN | apply below_drew1 | refine below_set ?_ GE101.out) | exact HB.out)⟩
            · rw [if_neg c17] at H
              have c17b0 : decide (1152921504606846976 < t103) = false := decide_eq_false c17
              clear c17
              replace H := Option.bind_eq_some_iff.mp H
              obtain ⟨t104, A200, H⟩ := H
              replace H : (if t104 < (-1152921504606846976) then (some 4) else (some 0)) = some r := H
              have A20 := Aside0.mk A200
              clear A200
              by_cases c21 : t104 < (-1152921504606846976)
              · rw [if_pos c21] at H
                have c21b0 : decide (t104 < (-1152921504606846976)) = true := decide_eq_true c21
                clear c21
                obtain rfl := Option.some.inj H
                have hcz22_0 : wc.cell? ⟨gb101, 0, none⟩ = some (.int .i64 a0_0) := (blk_cell BK101.out 0).trans rfl
                have hcz22_1 : wc.cell? ⟨gb101, 1, none⟩ = some (.slice A0_1 l0_1.length c0_1) := (blk_cell BK101.out 1).trans rfl
                have hcz22_2 : wc.cell? ⟨gb101, 2, none⟩ = some (.slice A0_2 l0_2.length c0_2) := (blk_cell BK101.out 2).trans rfl
                have hcz22_3 : wc.cell? ⟨gb101, 3, none⟩ = some (.slice A0_3 l0_3.length c0_3) := (blk_cell BK101.out 3).trans rfl
                have hcz22_4 : wc.cell? ⟨gb101, 4, none⟩ = some (.slice A0_4 l0_4.length c0_4) := (blk_cell BK101.out 4).trans rfl
                have hcz22_5 : wc.cell? ⟨gb101, 5, none⟩ = some (.slice A0_5 l0_5.length c0_5) := (blk_cell BK101.out 5).trans rfl
                have hfz22_0 := blk_frozen BK101.out 0
                have hfz22_1 := blk_frozen BK101.out 1
                have hfz22_2 := blk_frozen BK101.out 2
                have hfz22_3 := blk_frozen BK101.out 3
                have hfz22_4 := blk_frozen BK101.out 4
                have hfz22_5 := blk_frozen BK101.out 5
                go_wp2_with (first | (go_at_call 105; (with_reducible refine (slices_Max_int64_int64.calls kj4 _ _ l0_2 t103 _ ?side1 ?side2 A16.out).mono ?_); (case side1 => repeat (first | exact (Kd.C_below HR0_2.out HB.out) | (with_reducible refine Kd.C_alloc ?_ _) | (with_reducible refine Kd.C_drewN ?_ _) | (with_reducible refine Kd.C_drew ?_))); (case side2 => exact HC0_2.out); rintro e w23 ⟨rfl, hb⟩; have n0_ := Aside0.mk (blk_below (g := gb101) (o := .cells #[.int .i64 a0_0, .slice A0_1 l0_1.length c0_1, .slice A0_2 l0_2.length c0_2, .slice A0_3 l0_3.length c0_3, .slice A0_4 l0_4.length c0_4, .slice A0_5 l0_5.length c0_5] 48 (0, 0)) (by (with_reducible repeat (first | refine blk_drewN ?_ _ | refine blk_drew ?_ | refine blk_alloc ?_ _)); exact BK101.out) hb); have n1_ := Aside0.mk (below_step (by repeat (first | (with_reducible first | exact HB.out | apply below_alloc | apply pw_below_drewN | apply below_drew1 | refine below_set ?_ GE101.out) | exact HB.out)) hb); clear BK101; clear HB; have BK101 := n0_; have HB := n1_; clear n0_ n1_; (try clear hb); (try clear hb2); (try clear hk); (try clear hi); have hcz24_0 : w23.cell? ⟨gb101, 0, none⟩ = some (.int .i64 a0_0) := (blk_cell BK101.out 0).trans rfl; have hcz24_1 : w23.cell? ⟨gb101, 1, none⟩ = some (.slice A0_1 l0_1.length c0_1) := (blk_cell BK101.out 1).trans rfl; have hcz24_2 : w23.cell? ⟨gb101, 2, none⟩ = some (.slice A0_2 l0_2.length c0_2) := (blk_cell BK101.out 2).trans rfl; have hcz24_3 : w23.cell? ⟨gb101, 3, none⟩ = some (.slice A0_3 l0_3.length c0_3) := (blk_cell BK101.out 3).trans rfl; have hcz24_4 : w23.cell? ⟨gb101, 4, none⟩ = some (.slice A0_4 l0_4.length c0_4) := (blk_cell BK101.out 4).trans rfl; have hcz24_5 : w23.cell? ⟨gb101, 5, none⟩ = some (.slice A0_5 l0_5.length c0_5) := (blk_cell BK101.out 5).trans rfl; have hfz24_0 := blk_frozen BK101.out 0; have hfz24_1 := blk_frozen BK101.out 1; have hfz24_2 := blk_frozen BK101.out 2; have hfz24_3 := blk_frozen BK101.out 3; have hfz24_4 := blk_frozen BK101.out 4; have hfz24_5 := blk_frozen BK101.out 5) | (go_at_call 106; (with_reducible refine (slices_Min_int64_int64.calls kj4 _ _ l0_2 t104 _ ?side1 ?side2 A20.out).mono ?_); (case side1 => repeat (first | exact (Kd.C_below HR0_2.out HB.out) | (with_reducible refine Kd.C_alloc ?_ _) | (with_reducible refine Kd.C_drewN ?_ _) | (with_reducible refine Kd.C_drew ?_))); (case side2 => exact HC0_2.out); rintro e w25 ⟨rfl, hb⟩; have n0_ := Aside0.mk (blk_below (g := gb101) (o := .cells #[.int .i64 a0_0, .slice A0_1 l0_1.length c0_1, .slice A0_2 l0_2.length c0_2, .slice A0_3 l0_3.length c0_3, .slice A0_4 l0_4.length c0_4, .slice A0_5 l0_5.length c0_5] 48 (0, 0)) (by (with_reducible repeat (first | refine blk_drewN ?_ _ | refine blk_drew ?_ | refine blk_alloc ?_ _)); exact BK101.out) hb); have n1_ := Aside0.mk (below_step (by repeat (first | (with_reducible first | exact HB.out | apply below_alloc | apply pw_below_drewN | apply below_drew1 | refine below_set ?_ GE101.out) | exact HB.out)) hb); clear BK101; clear HB; have BK101 := n0_; have HB := n1_; clear n0_ n1_; (try clear hb); (try clear hb2); (try clear hk); (try clear hi)))
                go_ret
                exact ⟨by first | rfl | (simp [errW_none, errW_some] <;> rfl) | (simp [*, errW_none, errW_some] <;> rfl), by repeat (first | (with_reducible first | exact HB.out | apply below_alloc | apply pw_below_drewN | apply below_drew1 | refine below_set ?_ GE101.out) | exact HB.out)⟩
              · rw [if_neg c21] at H
                have c21b0 : decide (t104 < (-1152921504606846976)) = false := decide_eq_false c21
                clear c21
                obtain rfl := Option.some.inj H
                have hcz26_0 : wc.cell? ⟨gb101, 0, none⟩ = some (.int .i64 a0_0) := (blk_cell BK101.out 0).trans rfl
                have hcz26_1 : wc.cell? ⟨gb101, 1, none⟩ = some (.slice A0_1 l0_1.length c0_1) := (blk_cell BK101.out 1).trans rfl
                have hcz26_2 : wc.cell? ⟨gb101, 2, none⟩ = some (.slice A0_2 l0_2.length c0_2) := (blk_cell BK101.out 2).trans rfl
                have hcz26_3 : wc.cell? ⟨gb101, 3, none⟩ = some (.slice A0_3 l0_3.length c0_3) := (blk_cell BK101.out 3).trans rfl
                have hcz26_4 : wc.cell? ⟨gb101, 4, none⟩ = some (.slice A0_4 l0_4.length c0_4) := (blk_cell BK101.out 4).trans rfl
                have hcz26_5 : wc.cell? ⟨gb101, 5, none⟩ = some (.slice A0_5 l0_5.length c0_5) := (blk_cell BK101.out 5).trans rfl
                have hfz26_0 := blk_frozen BK101.out 0
                have hfz26_1 := blk_frozen BK101.out 1
                have hfz26_2 := blk_frozen BK101.out 2
                have hfz26_3 := blk_frozen BK101.out 3
                have hfz26_4 := blk_frozen BK101.out 4
                have hfz26_5 := blk_frozen BK101.out 5
                go_wp2_with (first | (go_at_call 105; (with_reducible refine (slices_Max_int64_int64.calls kj4 _ _ l0_2 t103 _ ?side1 ?side2 A16.out).mono ?_); (case side1 => repeat (first | exact (Kd.C_below HR0_2.out HB.out) | (with_reducible refine Kd.C_alloc ?_ _) | (with_reducible refine Kd.C_drewN ?_ _) | (with_reducible refine Kd.C_drew ?_))); (case side2 => exact HC0_2.out); rintro e w27 ⟨rfl, hb⟩; have n0_ := Aside0.mk (blk_below (g := gb101) (o := .cells #[.int .i64 a0_0, .slice A0_1 l0_1.length c0_1, .slice A0_2 l0_2.length c0_2, .slice A0_3 l0_3.length c0_3, .slice A0_4 l0_4.length c0_4, .slice A0_5 l0_5.length c0_5] 48 (0, 0)) (by (with_reducible repeat (first | refine blk_drewN ?_ _ | refine blk_drew ?_ | refine blk_alloc ?_ _)); exact BK101.out) hb); have n1_ := Aside0.mk (below_step (by repeat (first | (with_reducible first | exact HB.out | apply below_alloc | apply pw_below_drewN | apply below_drew1 | refine below_set ?_ GE101.out) | exact HB.out)) hb); clear BK101; clear HB; have BK101 := n0_; have HB := n1_; clear n0_ n1_; (try clear hb); (try clear hb2); (try clear hk); (try clear hi); have hcz28_0 : w27.cell? ⟨gb101, 0, none⟩ = some (.int .i64 a0_0) := (blk_cell BK101.out 0).trans rfl; have hcz28_1 : w27.cell? ⟨gb101, 1, none⟩ = some (.slice A0_1 l0_1.length c0_1) := (blk_cell BK101.out 1).trans rfl; have hcz28_2 : w27.cell? ⟨gb101, 2, none⟩ = some (.slice A0_2 l0_2.length c0_2) := (blk_cell BK101.out 2).trans rfl; have hcz28_3 : w27.cell? ⟨gb101, 3, none⟩ = some (.slice A0_3 l0_3.length c0_3) := (blk_cell BK101.out 3).trans rfl; have hcz28_4 : w27.cell? ⟨gb101, 4, none⟩ = some (.slice A0_4 l0_4.length c0_4) := (blk_cell BK101.out 4).trans rfl; have hcz28_5 : w27.cell? ⟨gb101, 5, none⟩ = some (.slice A0_5 l0_5.length c0_5) := (blk_cell BK101.out 5).trans rfl; have hfz28_0 := blk_frozen BK101.out 0; have hfz28_1 := blk_frozen BK101.out 1; have hfz28_2 := blk_frozen BK101.out 2; have hfz28_3 := blk_frozen BK101.out 3; have hfz28_4 := blk_frozen BK101.out 4; have hfz28_5 := blk_frozen BK101.out 5) | (go_at_call 106; (with_reducible refine (slices_Min_int64_int64.calls kj4 _ _ l0_2 t104 _ ?side1 ?side2 A20.out).mono ?_); (case side1 => repeat (first | exact (Kd.C_below HR0_2.out HB.out) | (with_reducible refine Kd.C_alloc ?_ _) | (with_reducible refine Kd.C_drewN ?_ _) | (with_reducible refine Kd.C_drew ?_))); (case side2 => exact HC0_2.out); rintro e w29 ⟨rfl, hb⟩; have n0_ := Aside0.mk (blk_below (g := gb101) (o := .cells #[.int .i64 a0_0, .slice A0_1 l0_1.length c0_1, .slice A0_2 l0_2.length c0_2, .slice A0_3 l0_3.length c0_3, .slice A0_4 l0_4.length c0_4, .slice A0_5 l0_5.length c0_5] 48 (0, 0)) (by (with_reducible repeat (first | refine blk_drewN ?_ _ | refine blk_drew ?_ | refine blk_alloc ?_ _)); exact BK101.out) hb); have n1_ := Aside0.mk (below_step (by repeat (first | (with_reducible first | exact HB.out | apply below_alloc | apply pw_below_drewN | apply below_drew1 | refine below_set ?_ GE101.out) | exact HB.out)) hb); clear BK101; clear HB; have BK101 := n0_; have HB := n1_; clear n0_ n1_; (try clear hb); (try clear hb2); (try clear hk); (try clear hi)))
                go_ret
                exact ⟨by first | rfl | (simp [errW_none, errW_some] <;> rfl) | (simp [*, errW_none, errW_some] <;> rfl), by repeat (first | (with_reducible first | exact HB.out | apply below_alloc | apply pw_below_drewN | apply below_drew1 | refine below_set ?_ GE101.out) | exact HB.out)⟩

end Go.Proofs.Ytmfdhcgdibefiaa.B

/- chart.scale: the closure that tells columns. -/
namespace Go.Proofs.Ytmfdhcgdibefiaa.L
open Go.RowKit Go.Proofs.Ytmfdhcgdibefiaa.Q Go.Proofs.Ytmfdhcgdibefiaa.A Go.Proofs.YtmfdhcgdibefiaaW.PrintWords Go.Proofs.YtmfdhcgdibefiaaW.PrintLast Go.Proofs.YtmfdhcgdibefiaaW.PrintMore Go.Proofs.YtmfdhcgdibefiaaW.MapB Go.Proofs.YtmfdhcgdibefiaaW.Lib
set_option linter.unusedVariables false
set_option linter.unusedSimpArgs false
theorem boxed_below {W W' : World} {B : Nat} {t : TypeId} {v : Value} (h : Boxed W B t v) (hb : Below W.heap.size W W') : Boxed W' B t v := (hb.block B h.lt).trans h
/-- A number's column on a sheet, from lo to hi. -/
def colC (lo hi wide t : Int) : Int := (t - lo) * wide / (hi - lo + 1)
set_option maxHeartbeats 4000000 in
set_option maxRecDepth 1000000 in
theorem col_calls (lo hi wide t : Int) (h0 : -1152921504606846976 ≤ lo) (h1 : lo ≤ t) (h2 : t ≤ hi) (h3 : hi ≤ 1154047404513689600) (w0 : 0 ≤ wide) (w1 : wide ≤ 200) (w : World) (B1 B2 B3 : Nat) (b1 : Boxed w B1 2 (.int .i64 lo)) (b2 : Boxed w B2 3 (.int .i64 wide)) (b3 : Boxed w B3 2 (.int .i64 hi)) :
    Calls Try.prog 107 #[.int .i64 t, .pointer (some ⟨B1, 0, none⟩), .pointer (some ⟨B2, 0, none⟩), .pointer (some ⟨B3, 0, none⟩)] w fun e w' => e = .returned (.int .i64 (colC lo hi wide t)) ∧ ∃ n, w' = w.drewN n := by
  have hp0 : 0 ≤ (t - lo) * wide := Int.mul_nonneg (by omega) w0
  have hp1 : (t - lo) * wide ≤ (t - lo) * 200 := Int.mul_le_mul_of_nonneg_left w1 (by omega)
  have hp2 : (t - lo) * wide ≤ (hi - lo) * 200 := Int.le_trans hp1 (by omega)
  have QM := Aside0.mk (fun W => bits_Mul64.calls (t - lo) wide _ _ W (mul64_is (t - lo) wide (by omega) (by omega) w0 (by omega)))
  have hdiv : (t - lo) * wide / 18446744073709551616 * 18446744073709551616 + (t - lo) * wide % 18446744073709551616 = (t - lo) * wide := by omega
  obtain ⟨z, hz⟩ := div64_ev ((t - lo) * wide / 18446744073709551616) ((t - lo) * wide % 18446744073709551616) (hi - lo + 1) (by omega) (by omega) (by omega) (by omega) (by omega)
  rw [hdiv] at hz
  obtain ⟨k, hk⟩ := Ev.rounds hz
  have QD := Aside0.mk (fun W => bits_Div64.calls k _ _ _ _ _ W hk)
  have hc0 : 0 ≤ colC lo hi wide t := Int.ediv_nonneg hp0 (by omega)
  have hc1 : colC lo hi wide t < 9223372036854775808 := Int.lt_of_lt_of_le (show (t - lo) * wide / (hi - lo + 1) < 201 from Int.ediv_lt_of_lt_mul (by omega) (by omega)) (by omega)
  have e1 : IntKind.u64.wrap (wrap64 (t - lo)) = t - lo := by rw [wrap_id (by omega) (by omega), wrapU_id (by omega) (by omega)]
  have e2 : IntKind.u64.wrap wide = wide := wrapU_id w0 (by omega)
  have e3 : IntKind.u64.wrap (IntKind.u64.wrap (wrap64 (hi - lo)) + 1) = hi - lo + 1 := by rw [wrap_id (by omega) (by omega), wrapU_id (x := hi - lo) (by omega) (by omega), wrapU_id (by omega) (by omega)]
  have e4 : wrap64 (colC lo hi wide t) = colC lo hi wide t := wrap_id (by omega) (by omega)
  have E1 := Aside0.mk e1
  have E2 := Aside0.mk e2
  have E3 := Aside0.mk e3
  have E4 := Aside0.mk e4
  change Aside0 (∀ W, Calls _ _ _ W fun e w' => e = .returned (.tuple #[.int .u64 (colC lo hi wide t), .int .u64 z]) ∧ Drawn0 W w') at QD
  have hx1 := b1.cell
  have hx2 := b2.cell
  have hx3 := b3.cell
  clear hk hz hc0 hc1 e1 e2 e3 e4 hp0 hp1 hp2 h0 h1 h2 h3 w0 w1 hdiv
  generalize colC lo hi wide t = c at *
  go_enter Try.func107, Try.ntmps107
  go_wp2_with (first
    | (go_at_call 108; go_loud (rw [E1.out, E2.out]; refine (QM.out _).mono ?_; rintro e w1 ⟨rfl, hd⟩; have HD := Aside0.mk hd; obtain ⟨⟨n1, rfl⟩⟩ := hd))
    | (go_at_call 109; go_loud (rw [E3.out]; refine (QD.out _).mono ?_; rintro e w2 ⟨rfl, hd⟩; obtain ⟨⟨n2, rfl⟩⟩ := hd)))
  go_ret
  exact ⟨by rw [E4.out]; rfl, _, rfl⟩
/-- The greatest end of the first spans, or what was there. -/
def hiL (S : List Int) (l : List S37) (m : Int) : Nat → Int
  | 0 => m
  | k + 1 => max (hiL S l m k) (rd S k + (rd_T37 l k).f7)
abbrev ansV (v : Int) (A1 A2 A3 A4 A5 : Option Addr) (n1 n2 n3 n4 n5 c1 c2 c3 c4 c5 : Nat) : Array Value := #[.int .i64 v, .slice A1 n1 c1, .slice A2 n2 c2, .slice A3 n3 c3, .slice A4 n4 c4, .slice A5 n5 c5]
/-- The least of some numbers. -/
def minN (l : List Int) : Nat → Int
  | 0 => rd l 0
  | k + 1 => min (minN l k) (rd l k)
def minZ (l : List Int) : Int := minN l l.length
theorem minN_one (l : List Int) : minN l 1 = rd l 0 := Int.min_eq_left (Int.le_refl _)
theorem mn_min (a b : Int) : mn a b = min a b := by unfold mn; omega
set_option maxHeartbeats 2000000 in
set_option maxRecDepth 100000 in
theorem minZ_calls (l : List Int) (hl : 0 < l.length) (hb : l.length ≤ 1000000) (A : Option Addr) (c : Nat) (w : World) (hr : Kd.C (Kd.int .i64) w A l.length l) :
    Calls Try.prog 106 #[.slice A l.length c] w fun e w' => e = .returned (.int .i64 (minZ l)) ∧ w' = w := by
  obtain ⟨ad, e0, h0⟩ := Kd.at_int hr 0 (by omega) (by omega)
  subst e0
  rw [show ad.add (Int.toNat 0) = ad from Addr.add_zero' _] at h0
  have HR := Aside0.mk hr
  have HBD := Aside0.mk hb
  have HP := Aside0.mk hl
  have hlt : decide ((l.length : Int) < 1) = false := decide_eq_false (by omega)
  obtain ⟨r, hre⟩ : ∃ r, minZ l = r := ⟨_, rfl⟩
  rw [hre]
  have HE := Aside0.mk hre
  have M1 := Aside0.mk (minN_one l)
  have hz0 : decide ((0 : Int) < (l.length : Int)) = true := decide_eq_true (by omega)
  replace hl : (0 < l.length) = True := eq_true hl
  clear hr hb hre
  go_enter Try.func106, Try.ntmps106
  go_wp2_with fail
  go_loopg [3, 4] l.length (fun kq v3 v4 w' => ∃ x4 : Int, v4 = .int .i64 x4 ∧ v3 = .int .i64 (minN l x4.toNat) ∧ Aside0 (1 ≤ x4 ∧ x4 ≤ l.length ∧ x4 + kq = l.length + 1) ∧ w' = w)
  case atStart => exact ⟨1, rfl, by rw [show Int.toNat 1 = 1 from rfl, M1.out], ⟨by omega, by have := HP.out; omega, by omega⟩, rfl⟩
  case round =>
    obtain ⟨x4, rfl, rfl, HK, rfl⟩ := hrel
    clear h0
    by_cases c1 : x4 < (l.length : Int)
    · obtain ⟨ad', e1, hx⟩ := Kd.at_int HR.out x4 (by have := HK.out; omega) c1
      cases e1
      have c1b := decide_eq_true c1
      have p1 : (0 ≤ x4) = True := eq_true (by have := HK.out; omega)
      have hw1 : wrap64 (x4 + 1) = x4 + 1 := wrap_id (by have := HK.out; omega) (by have := HBD.out; omega)
      have HW := Aside0.mk hw1
      have HN := Aside0.mk (show minN l (x4 + 1).toNat = min (minN l x4.toNat) (rd l x4) from by
        rw [show (x4 + 1).toNat = x4.toNat + 1 by have := HK.out; omega]
        show min (minN l x4.toNat) (rd l (x4.toNat : Int)) = _
        rw [show ((x4.toNat : Nat) : Int) = x4 by have := HK.out; omega])
      have HC1 := Aside0.mk c1
      obtain ⟨k1, rfl⟩ : ∃ k1, gk = k1 + 1 := ⟨gk - 1, by have := HK.out; have := HC1.out; omega⟩
      clear hw1
      generalize minN l x4.toNat = m at *
      generalize rd l x4 = y at *
      replace c1 := eq_true c1
      by_cases hmy : m ≤ y
      all_goals
        go_wp2_with fail
        go_roundg k1
        case measure => omega
        case rel => exact ⟨x4 + 1, by rw [HW.out], by rw [HN.out]; try (congr 1; first | omega | (simp only [mn_min]; omega)), ⟨by have := HK.out; omega, by have := HK.out; have := HC1.out; omega, by have := HK.out; omega⟩, rfl⟩
    · have c1b := decide_eq_false c1
      have HKo := HK.out
      have e4 : x4.toNat = l.length := by omega
      clear HKo
      have hfin : minN l x4.toNat = r := by rw [e4]; exact HE.out
      rw [hfin]
      clear e4 hfin
      go_wp2_with fail
      go_ret
      exact ⟨rfl, rfl⟩
/-- What the closure's maker holds on to. -/
def Sc1 (w : World) (cs : Array Value) (wide : Int) (W : World) : Prop := Below w.heap.size w W ∧ W.heap[w.heap.size]? = some (.cells cs 48 (0, 0)) ∧ Boxed W (w.heap.size + 1) 3 (.int .i64 wide)
theorem Sc1.below {w : World} {cs : Array Value} {wide : Int} {W W' : World} (h : Sc1 w cs wide W) (hb : Below W.heap.size W W') : Sc1 w cs wide W' :=
  ⟨below_step h.1 hb, (hb.block _ (Array.getElem?_eq_some_iff.1 h.2.1).1).trans h.2.1, boxed_below h.2.2 hb⟩
theorem Sc1.size {w : World} {cs : Array Value} {wide : Int} {W : World} (h : Sc1 w cs wide W) : w.heap.size + 2 ≤ W.heap.size := h.2.2.lt
theorem Sc1.alloc {w : World} {cs : Array Value} {wide : Int} {W : World} (h : Sc1 w cs wide W) (o : Obj) : Sc1 w cs wide (W.alloc o) := h.below (below_alloc (Below.refl _ _) o)
theorem Sc1.set {w : World} {cs : Array Value} {wide : Int} {W : World} (h : Sc1 w cs wide W) (k : Nat) (hk : w.heap.size + 2 ≤ k) (i : Nat) (u : Value) : Sc1 w cs wide (W.setCell ⟨k, i, none⟩ u) :=
  ⟨h.1.setCell (by show w.heap.size ≤ k; omega) u, (Below.heap_setCell W ⟨k, i, none⟩ u _ (by show w.heap.size ≠ k; omega)).trans h.2.1, (Below.heap_setCell W ⟨k, i, none⟩ u _ (by show w.heap.size + 1 ≠ k; omega)).trans h.2.2⟩
def Sc2 (w : World) (cs : Array Value) (wide : Int) (u : Value) (W : World) : Prop := Sc1 w cs wide W ∧ W.cell? ⟨w.heap.size, 2, none⟩ = some u
theorem Sc2.of {w : World} {cs : Array Value} {wide : Int} {u : Value} {W' : World} (hc : cs[2]? = some u) (h' : Sc1 w cs wide W') : Sc1 w cs wide W' ∧ W'.cell? ⟨w.heap.size, 2, none⟩ = some u := ⟨h', (blk_cell h'.2.1 2).trans hc⟩
theorem new2_box (w : World) (t u : TypeId) (v x : Value) : Boxed ((w.alloc (.cells #[v] t)).alloc (.cells #[x] u)) (w.heap.size + 1) u x := by
  have h := Boxed.new (w.alloc (.cells #[v] t)) u x
  rw [show (w.alloc (Obj.cells #[v] t)).heap.size = w.heap.size + 1 by simp] at h
  exact h
theorem Sc1.start (w : World) (cs : Array Value) (wide : Int) : Sc1 w cs wide ((w.alloc (Obj.cells cs 48)).alloc (Obj.cells #[.int .i64 wide] 3)) := by
  refine ⟨below_alloc (below_alloc (Below.refl _ _) _) _, ?_, ?_⟩
  · exact (Below.block (below_alloc (Below.refl _ _) _) _ (by simp)).trans (World.alloc_heap_new w _)
  · have h := Boxed.new (w.alloc (Obj.cells cs 48)) 3 (.int .i64 wide)
    rw [show (w.alloc (Obj.cells cs 48)).heap.size = w.heap.size + 1 by simp] at h
    exact h
set_option maxHeartbeats 8000000 in
set_option maxRecDepth 1000000 in
theorem scale_calls (v wide lo : Int) (l : List S37) (S : List Int) (A1 A2 A3 A4 A5 : Option Addr) (n3 n4 n5 d1 d2 c3 c4 c5 : Nat) (w : World) (hl : l.length ≤ 1000000) (hS : S.length = l.length)
    (hr1 : Kd.C k37 w A1 l.length l) (hc1 : l.length ≤ d1) (hr2 : Kd.C (Kd.int .i64) w A2 S.length S) (hc2 : S.length ≤ d2)
    (hin : ∀ k : Nat, k < l.length → -1152921504606846976 ≤ rd S k ∧ rd S k + (rd_T37 l k).f7 ≤ 1154047404513689600 ∧ 0 ≤ (rd_T37 l k).f7)
    (hmin : minZ S = lo) (hS0 : 0 < S.length) :
    Calls Try.prog 55 #[.agg (ansV v A1 A2 A3 A4 A5 l.length S.length n3 n4 n5 d1 d2 c3 c4 c5), .int .i64 wide] w fun e w' => ∃ B1 B2 B3, e = .returned (.func (.func 107) #[] #[.pointer (some ⟨B1, 0, none⟩), .pointer (some ⟨B2, 0, none⟩), .pointer (some ⟨B3, 0, none⟩)]) ∧ Boxed w' B1 2 (.int .i64 lo) ∧ Boxed w' B2 3 (.int .i64 wide) ∧ Boxed w' B3 2 (.int .i64 (hiL S l lo l.length)) ∧ Below w.heap.size w w' := by
  have hmf : ∀ (fn : Fn) (first cap : Array Value) (w : World), (Instr.makeFunc fn first cap).run Try.prog w = .ok (.func fn first cap) w := fun _ _ _ _ => rfl
  have QM : Aside0 (∀ W, Below w.heap.size w W → Calls Try.prog 106 #[.slice A2 S.length d2] W fun e w' => e = .returned (.int .i64 lo) ∧ w' = W) := ⟨fun W hW => by
    have h := minZ_calls S hS0 (by omega) A2 d2 W (Kd.C_below hr2 hW)
    rw [hmin] at h
    exact h⟩
  have HR1 := Aside0.mk hr1
  have HR2 := Aside0.mk hr2
  have HI := Aside0.mk hin
  have HL := Aside0.mk hl
  have HS := Aside0.mk hS
  have HB := Aside0.mk (Below.refl w.heap.size w)
  clear hr1 hr2 hc1 hc2 hin hl hS hmin hS0
  go_enter Try.func55, Try.ntmps55
  go_upto_region 1 with fail
  have hs0 := Sc1.start w (ansV v A1 A2 A3 A4 A5 l.length S.length n3 n4 n5 d1 d2 c3 c4 c5) wide
  generalize (w.alloc (Obj.cells (ansV v A1 A2 A3 A4 A5 l.length S.length n3 n4 n5 d1 d2 c3 c4 c5) 48)).alloc (Obj.cells #[.int .i64 wide] 3) = w2 at *
  go_cut [5, 6] (fun s5 s6 wx => ∃ B5 B6 : Nat, s5 = .pointer (some ⟨B5, 0, none⟩) ∧ s6 = .pointer (some ⟨B6, 0, none⟩) ∧ Aside0 (B5 ≠ B6 ∧ w.heap.size + 2 ≤ B5 ∧ w.heap.size + 2 ≤ B6) ∧ Aside0 (Boxed wx B5 2 (.int .i64 lo)) ∧ Aside0 (Boxed wx B6 2 (.int .i64 lo)) ∧ Aside0 (Sc1 w (ansV v A1 A2 A3 A4 A5 l.length S.length n3 n4 n5 d1 d2 c3 c4 c5) wide wx))
  case first =>
    have HS0 := Aside0.mk hs0
    have hz := hs0.size
    have HZ := Aside0.mk hz
    have k2 : w2.cell? ⟨w.heap.size, 2, none⟩ = some (.slice A2 S.length d2) := (blk_cell hs0.2.1 2).trans rfl
    have k2d : w2.drew.cell? ⟨w.heap.size, 2, none⟩ = some (.slice A2 S.length d2) := k2
    clear hs0 hz
    have HS1 := Aside0.mk (HS0.out.below (below_drew (Below.refl _ _)))
    go_region_held3 (fun W' => Sc1 w (ansV v A1 A2 A3 A4 A5 l.length S.length n3 n4 n5 d1 d2 c3 c4 c5) wide W' ∧ W'.cell? ⟨w.heap.size, 2, none⟩ = some (.slice A2 S.length d2))
      (first
        | exact ⟨HS1.out, k2d⟩
        | exact Sc2.of rfl (HS1.out.alloc _)
        | exact Sc2.of rfl ((HS1.out.alloc _).alloc _)
        | assumption)
      (first
        | (go_at_call 106; refine (QM.out _ (And.left (And.left (by assumption)))).mono ?_; rintro r w2 ⟨rfl, rfl⟩))
    all_goals
      go_wp2_with fail
      go_meet
      first
        | exact ⟨_, _, rfl, rfl, ⟨by omega, HZ.out, by have := HZ.out; omega⟩, ⟨(Boxed.new w2 _ _).alloc _⟩, ⟨new2_box w2 _ _ _ _⟩, ⟨Sc1.below ((HS0.out.alloc _).alloc _) (below_drew (Below.refl _ _))⟩⟩
        | exact ⟨_, _, rfl, rfl, ⟨by omega, by have := HZ.out; omega, HZ.out⟩, ⟨new2_box w2 _ _ _ _⟩, ⟨(Boxed.new w2 _ _).alloc _⟩, ⟨Sc1.below ((HS0.out.alloc _).alloc _) (below_drew (Below.refl _ _))⟩⟩
  case rest =>
    clear hs0
    obtain ⟨B5, B6, rfl, rfl, HN, HB5, HB6, HS2⟩ := hcut
    have hc := HS2.out
    have k1 : wc.cell? ⟨w.heap.size, 1, none⟩ = some (.slice A1 l.length d1) := (blk_cell hc.2.1 1).trans rfl
    clear hc
    go_wp2_with fail
    clear k1
    go_loopg [18] l.length (fun kq v18 w' => ∃ x : Int, v18 = .int .i64 x ∧ Aside0 (0 ≤ x ∧ x + kq = l.length) ∧ Aside0 (Boxed w' B5 2 (.int .i64 lo)) ∧ Aside0 (Boxed w' B6 2 (.int .i64 (hiL S l lo x.toNat))) ∧ Aside0 (Sc1 w (ansV v A1 A2 A3 A4 A5 l.length S.length n3 n4 n5 d1 d2 c3 c4 c5) wide w'))
    case atStart => exact ⟨0, rfl, ⟨by omega, by omega⟩, HB5, HB6, HS2⟩
    case round =>
      clear HB5 HB6 HS2
      obtain ⟨x, rfl, HK, HB5, HB6, HS2⟩ := hrel
      by_cases c1 : x < (l.length : Int)
      · have c1b := decide_eq_true c1
        have p1 : 0 ≤ x := HK.out.1
        obtain ⟨ad, e1, hx0, hx1, hx2, hx3, hx4, hx5, hx6, hx7⟩ := at_T37 HR1.out x p1 c1
        obtain ⟨ae, e2, hy⟩ := Kd.at_int HR2.out x p1 (by have := HS.out; omega)
        cases e1
        cases e2
        have hb := HS2.out.1
        replace hx0 := (hb.cell (World.block_lt_of_cell? w _ hx0)).trans hx0
        replace hx1 := (hb.cell (World.block_lt_of_cell? w _ hx1)).trans hx1
        replace hx2 := (hb.cell (World.block_lt_of_cell? w _ hx2)).trans hx2
        replace hx3 := (hb.cell (World.block_lt_of_cell? w _ hx3)).trans hx3
        replace hx4 := (hb.cell (World.block_lt_of_cell? w _ hx4)).trans hx4
        replace hx5 := (hb.cell (World.block_lt_of_cell? w _ hx5)).trans hx5
        replace hx6 := (hb.cell (World.block_lt_of_cell? w _ hx6)).trans hx6
        replace hx7 := (hb.cell (World.block_lt_of_cell? w _ hx7)).trans hx7
        have HY := Aside0.mk ((hb.cell (World.block_lt_of_cell? w _ hy)).trans hy)
        clear hy hb
        have hin := HI.out x.toNat (by omega)
        rw [show ((x.toNat : Nat) : Int) = x by omega] at hin
        have hsum : wrap64 (rd S x + (rd_T37 l x).f7) = rd S x + (rd_T37 l x).f7 := wrap_id (by omega) (by omega)
        have HW := Aside0.mk hsum
        have HW1 := Aside0.mk (show wrap64 (x + 1) = x + 1 from wrap_id (by omega) (by have := HL.out; omega))
        have HN1 := Aside0.mk (show hiL S l lo (x + 1).toNat = max (hiL S l lo x.toNat) (rd S x + (rd_T37 l x).f7) from by
          rw [show (x + 1).toNat = x.toNat + 1 by omega]
          show max _ (rd S (x.toNat : Int) + (rd_T37 l (x.toNat : Int)).f7) = _
          rw [show ((x.toNat : Nat) : Int) = x by omega])
        have HC1 := Aside0.mk c1
        have HLS := Aside0.mk (show x < (S.length : Int) by have := HS.out; omega)
        have HP := Aside0.mk p1
        clear hin hsum
        replace p1 := eq_true p1
        replace c1 := eq_true c1
        obtain ⟨k1, rfl⟩ : ∃ k1, gk = k1 + 1 := ⟨gk - 1, by have := HK.out; have := HC1.out; omega⟩
        generalize rd_T37 l x = sp at *
        go_wp2_with fail
        obtain ⟨gn, hgn⟩ : ∃ gn, gn = wr.heap.size := ⟨_, rfl⟩
        obtain ⟨W2, hW2⟩ : ∃ W2, W2 = wr.alloc (Obj.cells #[.int .u64 sp.f0, .int .u64 sp.f1, .int .u64 sp.f2, .int .u8 sp.f3, .string sp.f4, .string sp.f5, .int .i64 sp.f6, .int .i64 sp.f7] 37) := ⟨_, rfl⟩
        rw [← hW2, ← hgn]
        have g0 : W2.drew.cell? ⟨B6, 0, none⟩ = some (.int .i64 (hiL S l lo x.toNat)) := by rw [hW2]; exact (HB6.out.alloc _).cell
        have gf : W2.drew.frozen? ⟨B6, 0, none⟩ = false := by rw [hW2]; exact (HB6.out.alloc _).frozen
        have g1 : W2.drew.cell? ⟨w.heap.size, 2, none⟩ = some (.slice (some ae) S.length d2) := by rw [hW2]; exact (blk_cell (HS2.out.alloc _).2.1 2).trans rfl
        have g2 : W2.drew.cell? (ae.add x.toNat) = some (.int .i64 (rd S x)) := by rw [hW2]; exact (World.cell?_alloc_lt _ _ _ (World.block_lt_of_cell? _ _ HY.out)).trans HY.out
        have g3 : W2.drew.cell? ⟨gn, 7, none⟩ = some (.int .i64 sp.f7) := by rw [hW2, hgn]; exact (blk_cell (World.alloc_heap_new wr _) 7).trans rfl
        have HB5' : Aside0 (Boxed W2.drew B5 2 (.int .i64 lo)) := ⟨by rw [hW2]; exact HB5.out.alloc _⟩
        have HB6' : Aside0 (Boxed W2.drew B6 2 (.int .i64 (hiL S l lo x.toNat))) := ⟨by rw [hW2]; exact HB6.out.alloc _⟩
        have HS2' : Aside0 (Sc1 w (ansV v (some ad) (some ae) A3 A4 A5 l.length S.length n3 n4 n5 d1 d2 c3 c4 c5) wide W2.drew) := ⟨by rw [hW2]; exact (HS2.out.alloc _).below (below_drew (Below.refl _ _))⟩
        have q1 : (x < (S.length : Int)) = True := eq_true HLS.out
        clear hW2 hgn hx0 hx1 hx2 hx3 hx4 hx5 hx6 hx7
        generalize hiL S l lo x.toNat = m at *
        generalize rd S x = y at *
        go_still_tail 10, (by kernel_rfl)
        change wpList _ _ _ _ _ W2.drew
        generalize hmm : max m (IntKind.i64.wrap (y + sp.f7)) = mm at *
        have HM := Aside0.mk (show hiL S l lo (x + 1).toNat = mm from by rw [HN1.out, ← hmm, i64_w, HW.out])
        have HB6n := Aside0.mk (HB6'.out.set (.int .i64 mm))
        have HB5n := Aside0.mk (HB5'.out.kept (grownBy_setCell' W2.drew B6 (.int .i64 mm)) (by have := HN.out.1; simp; exact this))
        have HS2n := Aside0.mk (HS2'.out.set B6 HN.out.2.2 0 (.int .i64 mm))
        clear hmm
        go_wp2_with fail
        go_roundg k1
        case measure => omega
        case rel => exact ⟨x + 1, by rw [HW1.out], ⟨by have := HP.out; omega, by have := HK.out; omega⟩, HB5n, by rw [HM.out]; exact HB6n, HS2n⟩
      · have c1b := decide_eq_false c1
        have HE := Aside0.mk (show x.toNat = l.length by have := HK.out; omega)
        go_wp2_with fail
        go_ret
        exact ⟨_, _, _, rfl, HB5.out, HS2.out.2.2, HE.out ▸ HB6.out, HS2.out.1⟩
end Go.Proofs.Ytmfdhcgdibefiaa.L

/- Whole numbers as floats: what reading, writing and reckoning come to where all values are small whole numbers. -/
namespace Go.Proofs.YtmfdhcgdibefiaaW.Flt
open Ieee
set_option linter.unusedVariables false
theorem shl_one (n : Nat) : 1 <<< n = 2 ^ n := by rw [Nat.shiftLeft_eq, Nat.one_mul]
theorem cut_exact (way : Toward) (neg : Bool) (n k : Nat) (hn : 0 < n) : way.cut neg (n * 2 ^ k) k = n := by
  unfold Toward.cut
  have hl : k ≤ (n * 2 ^ k).log2 + 2 := by
    have := (Nat.le_log2 (n := n * 2 ^ k) (k := k) (by have := Nat.two_pow_pos k; have := Nat.mul_pos hn this; omega)).2 (Nat.le_mul_of_pos_left _ hn)
    omega
  rw [Nat.min_eq_left hl, shl_one]
  have h1 : n * 2 ^ k / 2 ^ k = n := Nat.mul_div_cancel _ (Nat.two_pow_pos k)
  have h2 : n * 2 ^ k % 2 ^ k = 0 := Nat.mul_mod_left _ _
  simp only [h1, h2]
  have h3 := Nat.two_pow_pos k
  cases way <;> simp
theorem log2_mul (n k : Nat) (hn : 0 < n) : (n * 2 ^ k).log2 = n.log2 + k := by
  have h := Nat.two_pow_pos k
  have hp : n * 2 ^ k ≠ 0 := by have := Nat.mul_pos hn h; omega
  apply Nat.le_antisymm
  · have h1 : n * 2 ^ k < 2 ^ (n.log2 + 1 + k) := by
      rw [Nat.pow_add]; exact Nat.mul_lt_mul_of_pos_right Nat.lt_log2_self h
    have := (Nat.log2_lt hp).2 h1
    omega
  · apply (Nat.le_log2 hp).2
    rw [Nat.pow_add]
    exact Nat.mul_le_mul_right _ (Nat.log2_self_le (by omega))

/-- The rung of a whole number. -/
def rung (m : Nat) : Nat := (m.log2 + 1022) * 2 ^ 52 + m * 2 ^ (52 - m.log2)
theorem nearest_val (neg : Bool) (m : Nat) (p : Int) (hp : p ≤ 0) (hm : 0 < m) (hb : m < 2 ^ 52) : double.nearest neg (m * 2 ^ (-p).toNat) p = double.word neg (rung m) := by
  have hlog : m.log2 < 52 := (Nat.log2_lt (by omega)).2 hb
  have h2 := Nat.two_pow_pos (-p).toNat
  have hne : m * 2 ^ (-p).toNat ≠ 0 := by have := Nat.mul_pos hm h2; omega
  unfold Format.nearest
  rw [if_neg hne, log2_mul _ _ hm]
  have hfb : ((double.fractionBits : Nat) : Int) = 52 := rfl
  have hlp : double.leastPlace = -1074 := by decide
  have hlast : max (p + ((m.log2 + (-p).toNat : Nat) : Int) - 52) (-1074) = (m.log2 : Int) - 52 := by omega
  simp only [hfb, hlp, hlast]
  have hkept : Toward.even.cut neg ((m * 2 ^ (-p).toNat) <<< (p - ((m.log2 : Int) - 52)).toNat) ((m.log2 : Int) - 52 - p).toNat = m * 2 ^ (52 - m.log2) := by
    rw [Nat.shiftLeft_eq, Nat.mul_assoc, ← Nat.pow_add]
    by_cases hc : (-p).toNat ≤ 52 - m.log2
    · rw [show ((m.log2 : Int) - 52 - p).toNat = 0 by omega, show (-p).toNat + (p - ((m.log2 : Int) - 52)).toNat = 52 - m.log2 by omega]
      have := cut_exact .even neg (m * 2 ^ (52 - m.log2)) 0 (Nat.mul_pos hm (Nat.two_pow_pos _))
      simpa using this
    · rw [show (-p).toNat + (p - ((m.log2 : Int) - 52)).toNat = (52 - m.log2) + ((m.log2 : Int) - 52 - p).toNat by omega, Nat.pow_add, ← Nat.mul_assoc]
      exact cut_exact .even neg _ _ (Nat.mul_pos hm (Nat.two_pow_pos _))
  rw [hkept]
  have hbin : double.binade = 2 ^ 52 := rfl
  have hinf : double.infRung = 2047 * 2 ^ 52 := by decide
  rw [hbin, hinf, show ((m.log2 : Int) - 52 - -1074).toNat = m.log2 + 1022 by omega]
  have hlt : m * 2 ^ (52 - m.log2) < 2 ^ 53 := by
    have h3 : m < 2 ^ (m.log2 + 1) := Nat.lt_log2_self
    calc m * 2 ^ (52 - m.log2) < 2 ^ (m.log2 + 1) * 2 ^ (52 - m.log2) := Nat.mul_lt_mul_of_pos_right h3 (Nat.two_pow_pos _)
      _ = 2 ^ 53 := by rw [← Nat.pow_add]; congr 1; omega
  rw [Nat.min_eq_left (by show (m.log2 + 1022) * 2 ^ 52 + m * 2 ^ (52 - m.log2) ≤ 2047 * 2 ^ 52; omega)]
  rfl
/-- The word of a whole number. -/
def enc (a : Int) : Nat := if a = 0 then 0 else double.word (decide (a < 0)) (rung a.natAbs)
/-- .. or the other zero. -/
def V (w : Nat) (a : Int) : Prop := w = enc a ∨ a = 0 ∧ w = double.word true 0
theorem nearest_enc (a : Int) (hb : a.natAbs < 2 ^ 52) : FloatKind.f64.nearest a = enc a := by
  unfold FloatKind.nearest FloatKind.encode FloatKind.format Format.write enc
  by_cases h : a = 0
  · subst h; decide
  · rw [if_neg h]
    have := nearest_val (decide (a < 0)) a.natAbs 0 (Int.le_refl _) (by omega) hb
    simpa using this
end Go.Proofs.YtmfdhcgdibefiaaW.Flt

/- Which words are those of whole numbers from -2^20 to 2^20. -/
namespace Go.Proofs.YtmfdhcgdibefiaaW.Flt
open Ieee
set_option linter.unusedVariables false
end Go.Proofs.YtmfdhcgdibefiaaW.Flt

/- plane: what the small functions hand back: whole, point, Coords, Point. -/
namespace Go.Proofs.Ytmfdhcgdibefiaa.Pl
open Go.RowKit Go.Proofs.YtmfdhcgdibefiaaW.PrintWords Go.Proofs.YtmfdhcgdibefiaaW.Lib Go.Proofs.YtmfdhcgdibefiaaW.Flt
set_option linter.unusedVariables false

theorem run_bits (b : Nat) (w : World) : (callFunc 110 #[.float .f64 b]).run Try.prog w = .ok (.value (.int .u64 b)) w := by
  rw [run_callFunc_extern Try.func110 (by kernel_rfl) (by kernel_rfl) (by kernel_rfl) (e := Extern.MathFloatBits.float64bits) (by kernel_rfl)]
  rfl
end Go.Proofs.Ytmfdhcgdibefiaa.Pl

/- Sums, differences, products of words that stand for whole numbers; and the walk's laws for complex values. -/
namespace Go.Proofs.YtmfdhcgdibefiaaW.Flt
open Ieee Go.RowKit
set_option linter.unusedVariables false
/-- From -2^20 to 2^20. -/
def okI (x : Int) : Bool := decide (-1048576 ≤ x) && decide (x ≤ 1048576)
theorem okI_abs {a : Int} (h : okI a = true) : a.natAbs ≤ 1048576 := by
  unfold okI at h; rw [Bool.and_eq_true] at h
  have h1 := of_decide_eq_true h.1
  have h2 := of_decide_eq_true h.2
  omega
/-! What arithmetic gives, and the world behind it. -/
def ar (op : BinOp) (x y : Nat) (w : World) : Nat := match floatBits op .f64 x y with | some r => r | none => (Question.nanBits .f64 x y).cut (w.tape w.drawn (.nanBits .f64 x y))
def aw (op : BinOp) (x y : Nat) (w : World) : World := if (floatBits op .f64 x y).isSome then w else w.drew
theorem run_fadd (P : Program) (x y : Nat) (w : World) : (Op.floatArith .add .f64 x y).run P w = .ok (.float .f64 (ar .add x y w)) (aw .add x y w) := by
  unfold Op.floatArith ar aw floatBits
  cases h : FloatKind.f64.format.add x y <;> simp [Question.forced]
@[simp high, go_sem high] theorem run_add (P : Program) (t : TypeId) (x y : Nat) (w : World) : (binOp .add t (.float .f64 x) (.float .f64 y)).run P w = .ok (.float .f64 (ar .add x y w)) (aw .add x y w) := by
  unfold binOp
  simp [run_fadd]
end Go.Proofs.YtmfdhcgdibefiaaW.Flt

/- plane: what the small functions hand back: point, clean, Coords, Point. -/
namespace Go.Proofs.Ytmfdhcgdibefiaa.Pl
open Go.RowKit Go.Proofs.YtmfdhcgdibefiaaW.PrintWords Go.Proofs.YtmfdhcgdibefiaaW.Lib Go.Proofs.YtmfdhcgdibefiaaW.Flt
set_option linter.unusedVariables false

@[simp, go_sem] theorem run_real (P : Program) (ts : Array TypeId) (t : TypeId) (a b : Nat) (w : World) : (Builtin.real_ ts t #[.complex .f64 a b]).run P w = .ok (.float .f64 a) w := rfl
@[simp, go_sem] theorem run_imag (P : Program) (ts : Array TypeId) (t : TypeId) (a b : Nat) (w : World) : (Builtin.imag_ ts t #[.complex .f64 a b]).run P w = .ok (.float .f64 b) w := rfl
@[simp, go_sem] theorem run_complex (P : Program) (ts : Array TypeId) (t : TypeId) (a b : Nat) (w : World) : (Builtin.complex_ ts t #[.float .f64 a, .float .f64 b]).run P w = .ok (.complex .f64 a b) w := rfl
def pointV (x y : Int) : Nat × Nat × Bool := if okI x && okI y then (enc x, enc y, true) else (0, 0, false)
theorem Point_calls (x y : Int) (w : World) : Calls Try.prog 56 #[.int .i64 x, .int .i64 y] w fun e w' => e = .returned (.tuple #[.complex .f64 (pointV x y).1 (pointV x y).2.1, .bool (pointV x y).2.2]) ∧ w' = w := by
  cases h : okI x && okI y
  · have e0 : pointV x y = (0, 0, false) := by unfold pointV; rw [h]; rfl
    rw [e0]
    have hn : ¬ (max x y ≤ 1048576 ∧ -1048576 ≤ min x y) := by
      intro hc
      unfold okI at h
      rw [decide_eq_true (by omega), decide_eq_true (by omega), decide_eq_true (by omega), decide_eq_true (by omega)] at h
      cases h
    clear e0 h
    go_enter Try.func56, Try.ntmps56
    go_wp2_with fail
    all_goals (first | (go_ret; exact ⟨rfl, rfl⟩) | (go_ret2; exact ⟨rfl, rfl⟩) | (go_ret3; exact ⟨rfl, rfl⟩) | trace_state)
  · have e0 : pointV x y = (enc x, enc y, true) := by unfold pointV; rw [h]; rfl
    have hh := (Bool.and_eq_true _ _ ▸ h : okI x = true ∧ okI y = true)
    have hx := okI_abs hh.1
    have hy := okI_abs hh.2
    have c1 : floatOfInt .f64 x = enc x := nearest_enc x (by omega)
    have c2 : floatOfInt .f64 y = enc y := nearest_enc y (by omega)
    have m1 : max x y ≤ 1048576 := by omega
    have m2 : -1048576 ≤ min x y := by omega
    rw [e0]
    clear h e0 hh hx hy
    go_enter Try.func56, Try.ntmps56
    go_wp2_with fail
    all_goals (first | (go_ret; exact ⟨rfl, rfl⟩) | (go_ret2; exact ⟨rfl, rfl⟩) | (go_ret3; exact ⟨rfl, rfl⟩) | trace_state)
end Go.Proofs.Ytmfdhcgdibefiaa.Pl

/- plane: Move, Turn. -/
namespace Go.Proofs.Ytmfdhcgdibefiaa.Pl
open Go.RowKit Go.Proofs.YtmfdhcgdibefiaaW.PrintWords Go.Proofs.YtmfdhcgdibefiaaW.Lib Go.Proofs.YtmfdhcgdibefiaaW.Flt
set_option linter.unusedVariables false
end Go.Proofs.Ytmfdhcgdibefiaa.Pl

/- plane: the document's functions: Of, Told, part, Coords, Point, Turn, Move. -/
namespace Go.Proofs.Ytmfdhcgdibefiaa.Pl
open Go.RowKit Go.Proofs.YtmfdhcgdibefiaaW.PrintWords Go.Proofs.YtmfdhcgdibefiaaW.Lib Go.Proofs.YtmfdhcgdibefiaaW.Flt
set_option linter.unusedVariables false

theorem results_cell1 {fn : Func} {a : Tmp} {t : TypeId} (h : fn.results = #[.cell a t]) (tmps : Array Value) (P : Program) (w : World) (ad : Addr) (v : Value) (ha : tmps.getD a undef = .pointer (some ad)) (hl : (loadVar t ad).run P w = .ok v w) :
    (results fn tmps).run P w = .ok v w := by
  have ha' : tmps[a]?.getD undef = .pointer (some ad) := by rw [← ha]; simp
  have e : ∀ ad w, (asAddr (.pointer (some ad))).run P w = .ok ad w := fun _ _ => rfl
  simp [results, h, ha', hl, e]
theorem results_cell2 {fn : Func} {a b : Tmp} {t : TypeId} (h : fn.results = #[.cell a t, .tmp b]) (tmps : Array Value) (P : Program) (w : World) (ad : Addr) (v : Value) (ha : tmps.getD a undef = .pointer (some ad)) (hl : (loadVar t ad).run P w = .ok v w) :
    (results fn tmps).run P w = .ok (.tuple #[v, tmps.getD b undef]) w := by
  have ha' : tmps[a]?.getD undef = .pointer (some ad) := by rw [← ha]; simp
  have e : ∀ ad w, (asAddr (.pointer (some ad))).run P w = .ok ad w := fun _ _ => rfl
  simp [results, h, ha', hl, e]
set_option maxRecDepth 100000 in
theorem Told_calls (a b : Nat) (w : World) : Calls Try.prog 111 #[.complex .f64 a b] w fun e w' => e = .returned (.agg #[.int .u64 a, .int .u64 b]) ∧ ∀ B, B ≤ w.heap.size → Below B w w' := by
  have q := run_bits
  go_enter Try.func111, Try.ntmps111
  go_wp2_with fail
  refine bodyPost_ret (results_cell1 rfl _ _ _ _ _ rfl ?_) rfl ⟨rfl, fun B h => (Below.refl B w).alloc h _⟩
  go_simp
set_option maxRecDepth 100000 in
theorem rPoint_calls (x y : Int) (w : World) : Calls Try.prog 59 #[.int .i64 x, .int .i64 y] w fun e w' => e = .returned (.tuple #[.agg #[.int .u64 (pointV x y).1, .int .u64 (pointV x y).2.1], .bool (pointV x y).2.2]) ∧ ∀ B, B ≤ w.heap.size → Below B w w' := by
  have q := run_bits
  cases h : okI x && okI y
  · have e0 : pointV x y = (0, 0, false) := by unfold pointV; rw [h]; rfl
    rw [e0]
    have hn : ¬ (x ≤ 1048576 ∧ -1048576 ≤ x ∧ y ≤ 1048576 ∧ -1048576 ≤ y) := by
      intro hc
      unfold okI at h
      rw [decide_eq_true (by omega), decide_eq_true (by omega), decide_eq_true (by omega), decide_eq_true (by omega)] at h
      cases h
    clear e0 h
    go_enter Try.func59, Try.ntmps59
    go_wp2_with fail
    all_goals first
      | (exfalso; omega)
      | (refine bodyPost_ret (results_cell2 rfl _ _ _ _ _ rfl ?h) rfl ⟨rfl, fun B h => (Below.refl B w).alloc h _⟩
         case h => go_simp)
      | trace_state
  · have e0 : pointV x y = (enc x, enc y, true) := by unfold pointV; rw [h]; rfl
    have hh := (Bool.and_eq_true _ _ ▸ h : okI x = true ∧ okI y = true)
    have hx := okI_abs hh.1
    have hy := okI_abs hh.2
    have c1 : floatOfInt .f64 x = enc x := nearest_enc x (by omega)
    have c2 : floatOfInt .f64 y = enc y := nearest_enc y (by omega)
    rw [e0]
    generalize enc x = ex at *
    generalize enc y = ey at *
    clear h e0 hh
    go_enter Try.func59, Try.ntmps59
    go_wp2_with fail
    all_goals first
      | (exfalso; omega)
      | (refine bodyPost_ret (results_cell2 rfl _ _ _ _ _ rfl ?h) rfl ⟨rfl, fun B h => (Below.refl B w).alloc h _⟩
         case h => go_simp)
      | trace_state
end Go.Proofs.Ytmfdhcgdibefiaa.Pl

/- plane: the document's Turn and Move. -/
namespace Go.Proofs.Ytmfdhcgdibefiaa.Pl
open Go.RowKit Go.Proofs.YtmfdhcgdibefiaaW.PrintWords Go.Proofs.YtmfdhcgdibefiaaW.Lib Go.Proofs.YtmfdhcgdibefiaaW.Flt
set_option linter.unusedVariables false

/-- Whatever lay there lies there. -/
abbrev Own (w W : World) : Prop := ∀ B, B ≤ w.heap.size → Below B w W
theorem Own.refl (w : World) : Own w w := fun B _ => Below.refl B w
theorem Own.trans {a b c : World} (h : Own a b) (k : Own b c) : Own a c := fun B hB => (h B hB).trans (k B (Nat.le_trans hB (h B hB).size))
theorem Own.alloc {a b : World} (h : Own a b) (o : Obj) : Own a (b.alloc o) := fun B hB => (h B hB).alloc (Nat.le_trans hB (h B hB).size) o
theorem Own.drew {a b : World} (h : Own a b) : Own a b.drew := fun B hB => (h B hB).drew
theorem Own.setCell {a b : World} (h : Own a b) {p : Addr} (hp : a.heap.size ≤ p.block) (u : Value) : Own a (b.setCell p u) := fun B hB => (h B hB).setCell (Nat.le_trans hB hp) u
theorem Own.size {a b : World} (h : Own a b) : a.heap.size ≤ b.heap.size := (h 0 (Nat.zero_le _)).size
theorem Own.cell {W w1 : World} (hb : Own W w1) {p : Addr} {v : Value} (h : W.cell? p = some v) : w1.cell? p = some v := by
  have hp : p.block < W.heap.size := by
    unfold World.cell? at h
    cases h1 : W.heap[p.block]? with
    | none => rw [h1] at h; simp at h
    | some o => exact (Array.getElem?_eq_some_iff.1 h1).1
  unfold World.cell? at h ⊢
  rw [(hb _ (Nat.le_refl _)).block _ hp]
  exact h

theorem Own.frozen {W w1 : World} (hb : Own W w1) {p : Addr} {b : Bool} {v : Value} (hc : W.cell? p = some v) (h : W.frozen? p = b) : w1.frozen? p = b := by
  have hp : p.block < W.heap.size := by
    unfold World.cell? at hc
    cases h1 : W.heap[p.block]? with
    | none => rw [h1] at hc; simp at hc
    | some o => exact (Array.getElem?_eq_some_iff.1 h1).1
  unfold World.frozen? at h ⊢
  rw [(hb _ (Nat.le_refl _)).block _ hp]
  exact h
end Go.Proofs.Ytmfdhcgdibefiaa.Pl

/- plane: Box. -/
namespace Go.Proofs.Ytmfdhcgdibefiaa.Pl
open Go.RowKit Go.Proofs.YtmfdhcgdibefiaaW.PrintWords Go.Proofs.YtmfdhcgdibefiaaW.Lib Go.Proofs.YtmfdhcgdibefiaaW.Flt
set_option linter.unusedVariables false
end Go.Proofs.Ytmfdhcgdibefiaa.Pl

/- plane: the document's Box. -/
namespace Go.Proofs.Ytmfdhcgdibefiaa.Pl
open Go.RowKit Go.Proofs.YtmfdhcgdibefiaaW.PrintWords Go.Proofs.YtmfdhcgdibefiaaW.Lib Go.Proofs.YtmfdhcgdibefiaaW.Flt
set_option linter.unusedVariables false
end Go.Proofs.Ytmfdhcgdibefiaa.Pl

/- plane: rows of numbers; a box of none. -/
namespace Go.Proofs.Ytmfdhcgdibefiaa.Pl
open Go.RowKit Go.Proofs.YtmfdhcgdibefiaaW.PrintWords Go.Proofs.YtmfdhcgdibefiaaW.Lib Go.Proofs.YtmfdhcgdibefiaaW.Flt
set_option linter.unusedVariables false
/-- The first k numbers, as complex values. -/
def cells (f : Nat → Nat × Nat) (k : Nat) : List Value := (List.range k).map fun j => .complex .f64 (f j).1 (f j).2
theorem Own.grown {w a b : World} {v : Value} {e : TypeId} {size n : Nat} {xs : List Value} (ho : Own w a) (hv : a.ownsRow w.heap.size e size v n xs) (hg : a.grownBy b v.ownBlock) : Own w b := by
  intro B hB
  refine (ho B hB).grown hg (Nat.le_trans hB ho.size) fun k hk => ?_
  obtain ⟨_, ⟨rfl, _⟩ | ⟨g, cap, cur, rfl, h2, _⟩⟩ := hv
  · cases hk
  · obtain rfl : g = k := by simpa [Value.ownBlock] using hk
    omega
end Go.Proofs.Ytmfdhcgdibefiaa.Pl

/- Complex values as a kind of one cell: its two halves as numbers of their bits. -/
namespace Go.Proofs.YtmfdhcgdibefiaaW.PrintWords
open Go
@[go_sem] theorem run_store_cplx (P : Program) (w : World) (a : Addr) (m : Mode) (k : FloatKind) (x y : Nat) : (store a (.complex k x y) m).run P w = stored P w a (.complex k x y) m := run_store P w a _ m rfl
end Go.Proofs.YtmfdhcgdibefiaaW.PrintWords
namespace Go.Proofs.YtmfdhcgdibefiaaW.PrintWords.Kd
open Go Go.RowKit
def cplx : Kd (Nat × Nat) := scalar (fun p : Nat × Nat => Value.complex .f64 p.1 p.2) (fun _ => rfl)
end Go.Proofs.YtmfdhcgdibefiaaW.PrintWords.Kd

-- Written by wip/tools/gp.py, a program of this session round the kit's printer. Lean checks it.
namespace Go.Proofs.Ytmfdhcgdibefiaa.K
open Go.RowKit Go.Proofs.Ytmfdhcgdibefiaa.Q Go.Proofs.Ytmfdhcgdibefiaa.A Go.Proofs.Ytmfdhcgdibefiaa.B Go.Proofs.YtmfdhcgdibefiaaW.PrintWords Go.Proofs.YtmfdhcgdibefiaaW.PrintLast Go.Proofs.YtmfdhcgdibefiaaW.PrintMore
attribute [local go_sem] max2_int min2_int max_two min_two max_three min_three max_four min_four   -- for this text's walks alone
set_option linter.unusedVariables false
set_option linter.unusedSimpArgs false




-- the values' own types
/-! #### struct type 97 -/
structure S97 where
  f0 : Int
  f1 : Int
def z97 : S97 := ⟨(0 : Int), (0 : Int)⟩
def k97 : Kd S97 := Kd.iso (Kd.pair (Kd.int .u64) (Kd.int .u64)) (fun x : S97 => (x.f0, x.f1))
theorem k97_open {w : World} {x : S97} {cs : List Value} (h : k97.K w x cs) : cs = [.int .u64 x.f0, .int .u64 x.f1] := by
  obtain ⟨_, _, rfl, rfl, rfl⟩ := h
  exact rfl
theorem k97_mkM (w : World) (base : Nat) (ok : Nat → Prop) (x : S97)  : k97.M w base ok x [.int .u64 x.f0, .int .u64 x.f1] := ⟨[.int .u64 x.f0], [.int .u64 x.f1], rfl, rfl, rfl⟩
/-! #### struct type 101 -/
structure S101 where
  f0 : S97
  f1 : Int
  f2 : ByteArray
def z101 : S101 := ⟨z97, (0 : Int), (⟨#[]⟩ : ByteArray)⟩
def k101 : Kd S101 := Kd.iso (Kd.pair k97 (Kd.pair (Kd.int .i64) Kd.string)) (fun x : S101 => (x.f0, x.f1, x.f2))
theorem k101_open {w : World} {x : S101} {cs : List Value} (h : k101.K w x cs) : cs = [.int .u64 x.f0.f0, .int .u64 x.f0.f1, .int .i64 x.f1, .string x.f2] := by
  obtain ⟨_, _, rfl, s0, ⟨_, _, rfl, rfl, rfl⟩⟩ := h
  obtain rfl := k97_open s0
  exact rfl
theorem k101_mkM (w : World) (base : Nat) (ok : Nat → Prop) (x : S101)  : k101.M w base ok x [.int .u64 x.f0.f0, .int .u64 x.f0.f1, .int .i64 x.f1, .string x.f2] := ⟨[.int .u64 x.f0.f0, .int .u64 x.f0.f1], [.int .i64 x.f1, .string x.f2], rfl, (k97_mkM w base ok x.f0 ), ⟨[.int .i64 x.f1], [.string x.f2], rfl, rfl, rfl⟩⟩
def rd_T101 (xs : List S101) (i : Int) : S101 := xs.getD i.toNat z101
theorem at_T101 {w : World} {A : Option Addr} {n : Nat} {xs : List S101} (h : Kd.C k101 w A n xs) (i : Int) (h0 : 0 ≤ i) (h1 : i < n) : ∃ ad , A = some ad ∧ w.cell? (ad.add (i.toNat * 4)) = some (.int .u64 (rd_T101 xs i).f0.f0) ∧ w.cell? ⟨(ad.add (i.toNat * 4)).block, (ad.add (i.toNat * 4)).off + 1, none⟩ = some (.int .u64 (rd_T101 xs i).f0.f1) ∧ w.cell? ⟨(ad.add (i.toNat * 4)).block, (ad.add (i.toNat * 4)).off + 2, none⟩ = some (.int .i64 (rd_T101 xs i).f1) ∧ w.cell? ⟨(ad.add (i.toNat * 4)).block, (ad.add (i.toNat * 4)).off + 3, none⟩ = some (.string (rd_T101 xs i).f2) := by
  obtain ⟨ad, c, e, _, hK, hc0⟩ := Kd.C_get h z101 i h0 h1
  have hc : ∀ j u, c[j]? = some u → w.cell? (ad.add (i.toNat * 4 + j)) = some u := hc0
  obtain rfl := k101_open hK
  exact ⟨ad, e, hc 0 _ rfl, by rw [← add_field _ _ 1 (by omega)]; exact hc 1 _ rfl, by rw [← add_field _ _ 2 (by omega)]; exact hc 2 _ rfl, by rw [← add_field _ _ 3 (by omega)]; exact hc 3 _ rfl⟩

end Go.Proofs.Ytmfdhcgdibefiaa.K

-- Written by wip/tools/gp.py, a program of this session round the kit's printer. Lean checks it.
namespace Go.Proofs.Ytmfdhcgdibefiaa.K
open Go.RowKit Go.Proofs.Ytmfdhcgdibefiaa.Q Go.Proofs.Ytmfdhcgdibefiaa.A Go.Proofs.Ytmfdhcgdibefiaa.B Go.Proofs.YtmfdhcgdibefiaaW.PrintWords Go.Proofs.YtmfdhcgdibefiaaW.PrintLast Go.Proofs.YtmfdhcgdibefiaaW.PrintMore
attribute [local go_sem] max2_int min2_int max_two min_two max_three min_three max_four min_four   -- for this text's walks alone
set_option linter.unusedVariables false
set_option linter.unusedSimpArgs false
end Go.Proofs.Ytmfdhcgdibefiaa.K

/- plane's and its document's functions over pairs of bits (for the printed texts). -/
namespace Go.Proofs.Ytmfdhcgdibefiaa.Pl
open Go.RowKit Go.Proofs.Ytmfdhcgdibefiaa.Q Go.Proofs.Ytmfdhcgdibefiaa.K Go.Proofs.YtmfdhcgdibefiaaW.PrintWords Go.Proofs.YtmfdhcgdibefiaaW.Lib Go.Proofs.YtmfdhcgdibefiaaW.Flt
set_option linter.unusedVariables false
set_option linter.unusedSimpArgs false
abbrev NumB := S97
def bitI (n : Int) : Prop := 0 ≤ n ∧ n < 18446744073709551616
instance (n : Int) : Decidable (bitI n) := by unfold bitI; infer_instance
def bitP (p : Nat × Nat) : Prop := p.1 < 18446744073709551616 ∧ p.2 < 18446744073709551616
instance (p : Nat × Nat) : Decidable (bitP p) := by unfold bitP; infer_instance
def bitN (x : NumB) : Prop := bitI x.f0 ∧ bitI x.f1
instance (x : NumB) : Decidable (bitN x) := by unfold bitN; infer_instance
theorem own_below {w w' : World} (h : Own w w') : Below w.heap.size w w' := h _ (Nat.le_refl _)
end Go.Proofs.Ytmfdhcgdibefiaa.Pl

-- Written by wip/tools/gp.py, a program of this session round the kit's printer. Lean checks it.
namespace Go.Proofs.Ytmfdhcgdibefiaa.C
open Go.RowKit Go.Proofs.Ytmfdhcgdibefiaa.Q Go.Proofs.Ytmfdhcgdibefiaa.A Go.Proofs.Ytmfdhcgdibefiaa.B Go.Proofs.Ytmfdhcgdibefiaa.K Go.Proofs.YtmfdhcgdibefiaaW.PrintWords Go.Proofs.YtmfdhcgdibefiaaW.PrintLast Go.Proofs.YtmfdhcgdibefiaaW.PrintMore
attribute [local go_sem] max2_int min2_int max_two min_two max_three min_three max_four min_four   -- for this text's walks alone
set_option linter.unusedVariables false
set_option linter.unusedSimpArgs false
theorem info101 : (Try.prog.info? 101).map (fun i => (i.zero, i.size, i.bytes)) = some (some (.agg #[(.int .u64 0), (.int .u64 0), (.int .i64 0), (.string ⟨#[]⟩)]), 4, 40) := by kernel_rfl
-- the values' own types
/-! #### struct type 68 -/
structure S68 where
  f0 : (Nat × Nat)
  f1 : Int
  f2 : ByteArray
def z68 : S68 := ⟨((0, 0) : Nat × Nat), (0 : Int), (⟨#[]⟩ : ByteArray)⟩
def k68 : Kd S68 := Kd.iso (Kd.pair Kd.cplx (Kd.pair (Kd.int .i64) Kd.string)) (fun x : S68 => (x.f0, x.f1, x.f2))
theorem k68_open {w : World} {x : S68} {cs : List Value} (h : k68.K w x cs) : cs = [.complex .f64 x.f0.1 x.f0.2, .int .i64 x.f1, .string x.f2] := by
  obtain ⟨_, _, rfl, rfl, ⟨_, _, rfl, rfl, rfl⟩⟩ := h
  exact rfl
theorem k68_mkM (w : World) (base : Nat) (ok : Nat → Prop) (x : S68)  : k68.M w base ok x [.complex .f64 x.f0.1 x.f0.2, .int .i64 x.f1, .string x.f2] := ⟨[.complex .f64 x.f0.1 x.f0.2], [.int .i64 x.f1, .string x.f2], rfl, rfl, ⟨[.int .i64 x.f1], [.string x.f2], rfl, rfl, rfl⟩⟩
def rd_T68 (xs : List S68) (i : Int) : S68 := xs.getD i.toNat z68
theorem at_T68 {w : World} {A : Option Addr} {n : Nat} {xs : List S68} (h : Kd.C k68 w A n xs) (i : Int) (h0 : 0 ≤ i) (h1 : i < n) : ∃ ad , A = some ad ∧ w.cell? (ad.add (i.toNat * 3)) = some (.complex .f64 (rd_T68 xs i).f0.1 (rd_T68 xs i).f0.2) ∧ w.cell? ⟨(ad.add (i.toNat * 3)).block, (ad.add (i.toNat * 3)).off + 1, none⟩ = some (.int .i64 (rd_T68 xs i).f1) ∧ w.cell? ⟨(ad.add (i.toNat * 3)).block, (ad.add (i.toNat * 3)).off + 2, none⟩ = some (.string (rd_T68 xs i).f2) := by
  obtain ⟨ad, c, e, _, hK, hc0⟩ := Kd.C_get h z68 i h0 h1
  have hc : ∀ j u, c[j]? = some u → w.cell? (ad.add (i.toNat * 3 + j)) = some u := hc0
  obtain rfl := k68_open hK
  exact ⟨ad, e, hc 0 _ rfl, by rw [← add_field _ _ 1 (by omega)]; exact hc 1 _ rfl, by rw [← add_field _ _ 2 (by omega)]; exact hc 2 _ rfl⟩

end Go.Proofs.Ytmfdhcgdibefiaa.C

-- Written by wip/tools/gp.py, a program of this session round the kit's printer. Lean checks it.
namespace Go.Proofs.Ytmfdhcgdibefiaa.C
open Go.RowKit Go.Proofs.Ytmfdhcgdibefiaa.Q Go.Proofs.Ytmfdhcgdibefiaa.A Go.Proofs.Ytmfdhcgdibefiaa.B Go.Proofs.Ytmfdhcgdibefiaa.K Go.Proofs.YtmfdhcgdibefiaaW.PrintWords Go.Proofs.YtmfdhcgdibefiaaW.PrintLast Go.Proofs.YtmfdhcgdibefiaaW.PrintMore
attribute [local go_sem] max2_int min2_int max_two min_two max_three min_three max_four min_four   -- for this text's walks alone
set_option linter.unusedVariables false
set_option linter.unusedSimpArgs false
end Go.Proofs.Ytmfdhcgdibefiaa.C

/- chart.Boxes: the boxes of an answer. -/
namespace Go.Proofs.Ytmfdhcgdibefiaa.L
open Go.RowKit Go.Proofs.Ytmfdhcgdibefiaa.Q Go.Proofs.Ytmfdhcgdibefiaa.A Go.Proofs.Ytmfdhcgdibefiaa.B Go.Proofs.Ytmfdhcgdibefiaa.K Go.Proofs.Ytmfdhcgdibefiaa.C Go.Proofs.YtmfdhcgdibefiaaW.PrintWords Go.Proofs.YtmfdhcgdibefiaaW.PrintLast Go.Proofs.YtmfdhcgdibefiaaW.PrintMore Go.Proofs.YtmfdhcgdibefiaaW.MapB Go.Proofs.YtmfdhcgdibefiaaW.Lib
set_option linter.unusedVariables false
set_option linter.unusedSimpArgs false
abbrev BoxS := S68
abbrev SpS := S37
def blank : ByteArray := ⟨#[32]⟩
/-- A span's box. -/
def boxAt (lo hi wide : Int) (l : List SpS) (S : List Int) (k : Nat) : BoxS :=
  ⟨((Pl.pointV (colC lo hi wide (rd S k)) k).1, (Pl.pointV (colC lo hi wide (rd S k)) k).2.1), colC lo hi wide (rd S k + (rd_T37 l k).f7) - colC lo hi wide (rd S k) + 1, (rd_T37 l k).f4 ++ blank ++ (rd_T37 l k).f5⟩
def boxesL (lo hi wide : Int) (l : List SpS) (S : List Int) : Nat → List BoxS
  | 0 => []
  | k + 1 => boxesL lo hi wide l S k ++ [boxAt lo hi wide l S k]
theorem boxesL_length (lo hi wide : Int) (l : List SpS) (S : List Int) : ∀ k, (boxesL lo hi wide l S k).length = k
  | 0 => rfl
  | k + 1 => by rw [boxesL, List.length_append, boxesL_length lo hi wide l S k]; rfl
theorem hiL_le (S : List Int) (l : List SpS) (m : Int) : ∀ n k : Nat, k < n → rd S k + (rd_T37 l k).f7 ≤ hiL S l m n
  | n + 1, k, h => by
    rw [hiL]
    by_cases e : k = n
    · subst e; omega
    · have := hiL_le S l m n k (by omega); omega
theorem hiL_bound (S : List Int) (l : List SpS) (m M : Int) (hm : m ≤ M) : ∀ n, (∀ k : Nat, k < n → rd S k + (rd_T37 l k).f7 ≤ M) → hiL S l m n ≤ M
  | 0, _ => hm
  | n + 1, h => by
    rw [hiL]
    have h1 := h n (by omega)
    have h2 := hiL_bound S l m M hm n (fun k hk => h k (by omega))
    omega
theorem minN_le (l : List Int) : ∀ n k : Nat, k < n → minN l n ≤ rd l k
  | n + 1, k, h => by
    rw [minN]
    by_cases e : k = n
    · subst e; omega
    · have := minN_le l n k (by omega); omega
theorem minN_ge (l : List Int) (m : Int) : ∀ n : Nat, 0 < n → (∀ k : Nat, k < n → m ≤ rd l k) → m ≤ minN l n
  | 1, _, h => by rw [minN_one]; exact h 0 (by omega)
  | n + 2, _, h => by
    rw [minN]
    have h1 := minN_ge l m (n + 1) (by omega) (fun k hk => h k (by omega))
    have h2 := h (n + 1) (by omega)
    omega
theorem colC_in {lo hi wide t : Int} (h1 : lo ≤ t) (h2 : t ≤ hi) (w0 : 0 ≤ wide) (w1 : wide ≤ 200) : 0 ≤ colC lo hi wide t ∧ colC lo hi wide t ≤ 200 := by
  have hp0 : 0 ≤ (t - lo) * wide := Int.mul_nonneg (by omega) w0
  have hp1 : (t - lo) * wide ≤ (t - lo) * 200 := Int.mul_le_mul_of_nonneg_left w1 (by omega)
  refine ⟨Int.ediv_nonneg hp0 (by omega), ?_⟩
  have : (t - lo) * wide / (hi - lo + 1) < 201 := Int.ediv_lt_of_lt_mul (by omega) (by omega)
  unfold colC
  omega
/-- What chart.Boxes holds on to over its loop. -/
def Cb (w : World) (cs : Array Value) (lo wide hi : Int) (B1 B2 B3 : Nat) (W : World) : Prop :=
  Below w.heap.size w W ∧ W.heap[w.heap.size]? = some (.cells cs 48 (0, 0)) ∧ Boxed W B1 2 (.int .i64 lo) ∧ Boxed W B2 3 (.int .i64 wide) ∧ Boxed W B3 2 (.int .i64 hi)
section
variable {w : World} {cs : Array Value} {lo wide hi : Int} {B1 B2 B3 : Nat} {W W' : World}
theorem Cb.below (h : Cb w cs lo wide hi B1 B2 B3 W) (hb : Below W.heap.size W W') : Cb w cs lo wide hi B1 B2 B3 W' :=
  ⟨below_step h.1 hb, (hb.block _ (Array.getElem?_eq_some_iff.1 h.2.1).1).trans h.2.1, boxed_below h.2.2.1 hb, boxed_below h.2.2.2.1 hb, boxed_below h.2.2.2.2 hb⟩
theorem Cb.grown {base : Nat} {ok : Nat → Prop} {v : Value} {xs : List BoxS} (h : Cb w cs lo wide hi B1 B2 B3 W) (hr : Kd.R k68 68 W base ok v xs) (hg : W.grownBy W' v.ownBlock) (hb : Below w.heap.size w W') : Cb w cs lo wide hi B1 B2 B3 W' := by
  obtain ⟨inner, ho⟩ := Kd.R_own hr
  exact ⟨hb, (hg.block _ (Array.getElem?_eq_some_iff.1 h.2.1).1 (Kd.R_ne hr h.2.1 (by decide))).trans h.2.1, h.2.2.1.kept hg (h.2.2.1.not_row (by decide) ho), h.2.2.2.1.kept hg (h.2.2.2.1.not_row (by decide) ho), h.2.2.2.2.kept hg (h.2.2.2.2.not_row (by decide) ho)⟩
theorem Cb.drewN (h : Cb w cs lo wide hi B1 B2 B3 W) (n : Nat) : Cb w cs lo wide hi B1 B2 B3 (W.drewN n) := h.below (pw_below_drewN (Below.refl _ _) n)
end
set_option maxHeartbeats 8000000 in
set_option maxRecDepth 1000000 in
theorem cboxes_calls (v wide lo hi : Int) (l : List SpS) (S : List Int) (H : List ByteArray) (O : List Int) (E : List S126) (A1 A2 A3 A4 A5 : Option Addr) (d1 d2 c3 c4 c5 : Nat) (w : World) (hl : l.length ≤ 60) (hS : S.length = l.length) (hS0 : 0 < S.length) (w0 : 1 ≤ wide) (w1 : wide ≤ 200)
    (hr1 : Kd.C k37 w A1 l.length l) (hc1 : l.length ≤ d1) (hr2 : Kd.C (Kd.int .i64) w A2 S.length S) (hc2 : S.length ≤ d2) (hr3 : Kd.C Kd.string w A3 H.length H) (hc3 : H.length ≤ c3) (hr4 : Kd.C (Kd.int .i64) w A4 O.length O) (hc4 : O.length ≤ c4) (hr5 : Kd.C k126 w A5 E.length E) (hc5 : E.length ≤ c5)
    (hin : ∀ k : Nat, k < l.length → -1152921504606846976 ≤ rd S k ∧ rd S k + (rd_T37 l k).f7 ≤ 1154047404513689600 ∧ 0 ≤ (rd_T37 l k).f7)
    (htx : ∀ s ∈ l, s.f4.size ≤ 1000 ∧ s.f5.size ≤ 1000)
    (hlo : minZ S = lo) (hhi : hiL S l lo l.length = hi) (hck : ∃ k, chart_check.f k v l S H O E = some 0) (hsh : chart_sheet.f wide = some true) :
    Calls Try.prog 25 #[.agg (ansV v A1 A2 A3 A4 A5 l.length S.length H.length O.length E.length d1 d2 c3 c4 c5), .int .i64 wide] w fun e w' => ∃ r, e = .returned (.tuple #[r, .int .i64 0]) ∧ Kd.R k68 68 w' w.heap.size (fun _ => True) r (boxesL lo hi wide l S l.length) ∧ Below w.heap.size w w' := by
  obtain ⟨k, hk⟩ := hck
  have hb1 : Below w.heap.size w (w.alloc (Obj.cells (ansV v A1 A2 A3 A4 A5 l.length S.length H.length O.length E.length d1 d2 c3 c4 c5) 48)) := below_alloc (Below.refl _ _) _
  have QS := Aside0.mk (fun W => chart_sheet.calls wide true W hsh)
  have QK : Aside0 (∀ W, Below w.heap.size w W → Calls Try.prog 54 #[.agg (ansV v A1 A2 A3 A4 A5 l.length S.length H.length O.length E.length d1 d2 c3 c4 c5)] W fun e w' => e = .returned (.int .i64 0) ∧ Below W.heap.size W w') :=
    ⟨fun W h => chart_check.calls k v A1 d1 l A2 d2 S A3 c3 H A4 c4 O A5 c5 E 0 W (Kd.C_below hr1 h) hc1 (Kd.C_below hr2 h) hc2 (Kd.C_below hr3 h) hc3 (Kd.C_below hr4 h) hc4 (Kd.C_below hr5 h) hc5 hk⟩
  have QC : Aside0 (∀ W, Below w.heap.size w W → Calls Try.prog 55 #[.agg (ansV v A1 A2 A3 A4 A5 l.length S.length H.length O.length E.length d1 d2 c3 c4 c5), .int .i64 wide] W fun e w' => ∃ B1 B2 B3, e = .returned (.func (.func 107) #[] #[.pointer (some ⟨B1, 0, none⟩), .pointer (some ⟨B2, 0, none⟩), .pointer (some ⟨B3, 0, none⟩)]) ∧ Boxed w' B1 2 (.int .i64 lo) ∧ Boxed w' B2 3 (.int .i64 wide) ∧ Boxed w' B3 2 (.int .i64 hi) ∧ Below W.heap.size W w') :=
    ⟨fun W h => by
      have q := scale_calls v wide lo l S A1 A2 A3 A4 A5 H.length O.length E.length d1 d2 c3 c4 c5 W (by omega) hS (Kd.C_below hr1 h) hc1 (Kd.C_below hr2 h) hc2 hin hlo hS0
      rw [hhi] at q
      exact q⟩
  have HR1 := Aside0.mk hr1
  have HR2 := Aside0.mk hr2
  have HI := Aside0.mk hin
  have HL := Aside0.mk hl
  have HS := Aside0.mk hS
  have HT := Aside0.mk htx
  have HW0 := Aside0.mk (And.intro w0 w1)
  have HLo := Aside0.mk hlo
  have HHi := Aside0.mk hhi
  have hlo2 : -1152921504606846976 ≤ lo := by
    rw [← hlo]; exact minN_ge S _ _ hS0 (fun k hk => (hin k (by omega)).1)
  have hhi2 : hi ≤ 1154047404513689600 := by
    rw [← hhi]
    refine hiL_bound S l lo _ ?_ _ (fun k hk => (hin k hk).2.1)
    have h0 := hin 0 (by omega)
    have h1 := minN_le S S.length 0 hS0
    change minZ S ≤ _ at h1
    omega
  have HLO2 := Aside0.mk hlo2
  have HHI2 := Aside0.mk hhi2
  clear hlo2 hhi2
  clear hr1 hr2 hr3 hr4 hr5 hc1 hc2 hc3 hc4 hc5 hk hin hl hS hS0 hlo hhi hsh htx w0 w1
  have HB1 := Aside0.mk hb1
  clear hb1
  go_enter Try.func25, Try.ntmps25
  go_wp2_with (first
    | (go_at_call 53; go_loud (refine (QS.out _).mono ?_; rintro e w1 ⟨rfl, hd⟩; obtain ⟨⟨n1, rfl⟩⟩ := hd))
    | (go_at_call 54; go_loud (refine (QK.out _ (pw_below_drewN HB1.out _)).mono ?_; rintro e w2 ⟨rfl, hb⟩; have HB2 := Aside0.mk (below_step (pw_below_drewN HB1.out _) hb); have bk := (hb.block w.heap.size (by simp)).trans (World.alloc_heap_new w _); have BK2 := Aside0.mk bk; have m0 : w2.cell? ⟨w.heap.size, 0, none⟩ = some (.int .i64 v) := (blk_cell bk 0).trans rfl; have m1 : w2.cell? ⟨w.heap.size, 1, none⟩ = some (.slice A1 l.length d1) := (blk_cell bk 1).trans rfl; have m2 : w2.cell? ⟨w.heap.size, 2, none⟩ = some (.slice A2 S.length d2) := (blk_cell bk 2).trans rfl; have m3 : w2.cell? ⟨w.heap.size, 3, none⟩ = some (.slice A3 H.length c3) := (blk_cell bk 3).trans rfl; have m4 : w2.cell? ⟨w.heap.size, 4, none⟩ = some (.slice A4 O.length c4) := (blk_cell bk 4).trans rfl; have m5 : w2.cell? ⟨w.heap.size, 5, none⟩ = some (.slice A5 E.length c5) := (blk_cell bk 5).trans rfl; clear hb bk))
    | (go_at_call 55; go_loud (refine (QC.out _ HB2.out).mono ?_; rintro e w3 ⟨B1, B2, B3, rfl, b1, b2, b3, hb⟩; have bk := (hb.block w.heap.size (Array.getElem?_eq_some_iff.1 BK2.out).1).trans BK2.out; have HCb : Aside0 (Cb w (ansV v A1 A2 A3 A4 A5 l.length S.length H.length O.length E.length d1 d2 c3 c4 c5) lo wide hi B1 B2 B3 w3) := ⟨⟨below_step HB2.out hb, bk, b1, b2, b3⟩⟩; have k1 : w3.cell? ⟨w.heap.size, 1, none⟩ = some (.slice A1 l.length d1) := (blk_cell bk 1).trans rfl; clear hb bk b1 b2 b3 m0 m1 m2 m3 m4 m5)))
  clear k1
  go_loopg [8, 29] l.length (fun kq v8 v29 w' => ∃ x : Int, v29 = .int .i64 x ∧ Aside0 (0 ≤ x ∧ x + kq = l.length) ∧ Aside0 (Kd.R k68 68 w' w.heap.size (fun _ => True) v8 (boxesL lo hi wide l S x.toNat)) ∧ Aside0 (Cb w (ansV v A1 A2 A3 A4 A5 l.length S.length H.length O.length E.length d1 d2 c3 c4 c5) lo wide hi B1 B2 B3 w'))
  case atStart => exact ⟨0, rfl, ⟨by omega, by omega⟩, ⟨Kd.R_nil _ _ _ _ _⟩, HCb⟩
  case round =>
    clear HCb BK2 HB2
    obtain ⟨x, rfl, HK, HO, HCb⟩ := hrel
    by_cases c1 : x < (l.length : Int)
    · have c1b := decide_eq_true c1
      have p1 : 0 ≤ x := HK.out.1
      obtain ⟨ad, e1, hx0, hx1, hx2, hx3, hx4, hx5, hx6, hx7⟩ := at_T37 HR1.out x p1 c1
      obtain ⟨ae, e2, hy⟩ := Kd.at_int HR2.out x p1 (by have := HS.out; omega)
      cases e1
      cases e2
      have hb := HCb.out.1
      replace hx0 := (hb.cell (World.block_lt_of_cell? w _ hx0)).trans hx0
      replace hx1 := (hb.cell (World.block_lt_of_cell? w _ hx1)).trans hx1
      replace hx2 := (hb.cell (World.block_lt_of_cell? w _ hx2)).trans hx2
      replace hx3 := (hb.cell (World.block_lt_of_cell? w _ hx3)).trans hx3
      replace hx4 := (hb.cell (World.block_lt_of_cell? w _ hx4)).trans hx4
      replace hx5 := (hb.cell (World.block_lt_of_cell? w _ hx5)).trans hx5
      replace hx6 := (hb.cell (World.block_lt_of_cell? w _ hx6)).trans hx6
      replace hx7 := (hb.cell (World.block_lt_of_cell? w _ hx7)).trans hx7
      have HY := Aside0.mk ((hb.cell (World.block_lt_of_cell? w _ hy)).trans hy)
      clear hy hb
      obtain ⟨A8, n8, e8⟩ := Kd.R_slice HO.out
      subst e8
      have hin := HI.out x.toNat (by omega)
      rw [show ((x.toNat : Nat) : Int) = x by omega] at hin
      have hle := hiL_le S l lo l.length x.toNat (by omega)
      rw [HHi.out, show ((x.toNat : Nat) : Int) = x by omega] at hle
      have hge := minN_le S S.length x.toNat (by have := HS.out; omega)
      change minZ S ≤ _ at hge
      rw [HLo.out, show ((x.toNat : Nat) : Int) = x by omega] at hge
      have hsum : IntKind.i64.wrap (rd S x + (rd_T37 l x).f7) = rd S x + (rd_T37 l x).f7 := (i64_w _).trans (wrap_id (by omega) (by omega))
      have hlo2 := HLO2.out
      have hhi2 := HHI2.out
      have QA : Aside0 (∀ W, Boxed W B1 2 (.int .i64 lo) → Boxed W B2 3 (.int .i64 wide) → Boxed W B3 2 (.int .i64 hi) → Calls Try.prog 107 #[.int .i64 (rd S x), .pointer (some ⟨B1, 0, none⟩), .pointer (some ⟨B2, 0, none⟩), .pointer (some ⟨B3, 0, none⟩)] W fun e w' => e = .returned (.int .i64 (colC lo hi wide (rd S x))) ∧ ∃ n, w' = W.drewN n) := ⟨fun W q1 q2 q3 => col_calls lo hi wide _ hlo2 hge (by omega) hhi2 (by have := HW0.out; omega) HW0.out.2 W B1 B2 B3 q1 q2 q3⟩
      have QB : Aside0 (∀ W, Boxed W B1 2 (.int .i64 lo) → Boxed W B2 3 (.int .i64 wide) → Boxed W B3 2 (.int .i64 hi) → Calls Try.prog 107 #[.int .i64 (rd S x + (rd_T37 l x).f7), .pointer (some ⟨B1, 0, none⟩), .pointer (some ⟨B2, 0, none⟩), .pointer (some ⟨B3, 0, none⟩)] W fun e w' => e = .returned (.int .i64 (colC lo hi wide (rd S x + (rd_T37 l x).f7))) ∧ ∃ n, w' = W.drewN n) := ⟨fun W q1 q2 q3 => col_calls lo hi wide _ hlo2 (by omega) hle hhi2 (by have := HW0.out; omega) HW0.out.2 W B1 B2 B3 q1 q2 q3⟩
      have HW := Aside0.mk hsum
      have HW1 := Aside0.mk (show wrap64 (x + 1) = x + 1 from wrap_id (by omega) (by have := HL.out; omega))
      have HN1 := Aside0.mk (show boxesL lo hi wide l S (x + 1).toNat = boxesL lo hi wide l S x.toNat ++ [boxAt lo hi wide l S x.toNat] from by
        rw [show (x + 1).toNat = x.toNat + 1 by omega]; rfl)
      have HC1 := Aside0.mk c1
      have HLS := Aside0.mk (show x < (S.length : Int) by have := HS.out; omega)
      have HP := Aside0.mk p1
      have hbx : boxAt lo hi wide l S x.toNat = ⟨((Pl.pointV (colC lo hi wide (rd S x)) x).1, (Pl.pointV (colC lo hi wide (rd S x)) x).2.1), colC lo hi wide (rd S x + (rd_T37 l x).f7) - colC lo hi wide (rd S x) + 1, (rd_T37 l x).f4 ++ blank ++ (rd_T37 l x).f5⟩ := by
        unfold boxAt; rw [show ((x.toNat : Nat) : Int) = x by omega]
      have HBX := Aside0.mk hbx
      have hcw : wrap64 (wrap64 (colC lo hi wide (rd S x + (rd_T37 l x).f7) - colC lo hi wide (rd S x)) + 1) = colC lo hi wide (rd S x + (rd_T37 l x).f7) - colC lo hi wide (rd S x) + 1 := by
        have g1 := colC_in (lo := lo) (hi := hi) (wide := wide) hge (by omega) (by have := HW0.out; omega) HW0.out.2
        have g2 := colC_in (lo := lo) (hi := hi) (t := rd S x + (rd_T37 l x).f7) (wide := wide) (by omega) hle (by have := HW0.out; omega) HW0.out.2
        rw [wrap_id (i := colC lo hi wide (rd S x + (rd_T37 l x).f7) - colC lo hi wide (rd S x)) (by omega) (by omega)]
        exact wrap_id (by omega) (by omega)
      have HCW := Aside0.mk hcw
      have HTX := Aside0.mk (show (rd_T37 l x).f4.size ≤ 1000 ∧ (rd_T37 l x).f5.size ≤ 1000 from by
        have hlt : x.toNat < l.length := by omega
        have : rd_T37 l x = l[x.toNat] := by simp [rd_T37, List.getD, hlt]
        rw [this]; exact HT.out _ (List.getElem_mem _))
      clear hin hsum hle hge hlo2 hhi2 hbx hcw
      replace p1 := eq_true p1
      replace c1 := eq_true c1
      obtain ⟨k1, rfl⟩ : ∃ k1, gk = k1 + 1 := ⟨gk - 1, by have := HK.out; have := HC1.out; omega⟩
      generalize rd_T37 l x = sp at *
      generalize hcy : colC lo hi wide (rd S x) = ca at *
      generalize hcz : colC lo hi wide (rd S x + sp.f7) = cb at *
      clear hcy hcz
      generalize rd S x = y at *
      go_wp2_with fail
      obtain ⟨gn, hgn⟩ : ∃ gn, gn = wr.heap.size := ⟨_, rfl⟩
      obtain ⟨W2, hW2⟩ : ∃ W2, W2 = wr.alloc (Obj.cells #[.int .u64 sp.f0, .int .u64 sp.f1, .int .u64 sp.f2, .int .u8 sp.f3, .string sp.f4, .string sp.f5, .int .i64 sp.f6, .int .i64 sp.f7] 37) := ⟨_, rfl⟩
      rw [← hW2, ← hgn]
      have HCb2 : Aside0 (Cb w (ansV v (some ad) (some ae) A3 A4 A5 l.length S.length H.length O.length E.length d1 d2 c3 c4 c5) lo wide hi B1 B2 B3 W2) := ⟨by rw [hW2]; exact HCb.out.below (below_alloc (Below.refl _ _) _)⟩
      have HO2 : Aside0 (Kd.R k68 68 W2 w.heap.size (fun _ => True) (.slice A8 (boxesL lo hi wide l S x.toNat).length n8) (boxesL lo hi wide l S x.toNat)) := ⟨by rw [hW2]; exact Kd.R_alloc HO.out _⟩
      have g1 : W2.drew.cell? ⟨w.heap.size, 2, none⟩ = some (.slice (some ae) S.length d2) := (blk_cell HCb2.out.2.1 2).trans rfl
      have g2 : W2.drew.cell? (ae.add x.toNat) = some (.int .i64 y) := by rw [hW2]; exact (World.cell?_alloc_lt _ _ _ (World.block_lt_of_cell? _ _ HY.out)).trans HY.out
      have BKn : Aside0 (W2.heap[gn]? = some (.cells #[.int .u64 sp.f0, .int .u64 sp.f1, .int .u64 sp.f2, .int .u8 sp.f3, .string sp.f4, .string sp.f5, .int .i64 sp.f6, .int .i64 sp.f7] 37 (0, 0))) := ⟨by rw [hW2, hgn]; exact World.alloc_heap_new wr _⟩
      have g3 : W2.drew.cell? ⟨gn, 7, none⟩ = some (.int .i64 sp.f7) := (blk_cell BKn.out 7).trans rfl
      have q1 : (x < (S.length : Int)) = True := eq_true HLS.out
      have QA2 : Aside0 (∀ W, (∃ n, W = W2.drewN n) → Calls Try.prog 107 #[.int .i64 y, .pointer (some ⟨B1, 0, none⟩), .pointer (some ⟨B2, 0, none⟩), .pointer (some ⟨B3, 0, none⟩)] W fun e w' => e = .returned (.int .i64 ca) ∧ ∃ n, w' = W.drewN n) := ⟨fun W h => by obtain ⟨n, rfl⟩ := h; have hc := HCb2.out.drewN n; exact QA.out _ hc.2.2.1 hc.2.2.2.1 hc.2.2.2.2⟩
      have QB2 : Aside0 (∀ W, (∃ n, W = W2.drewN n) → Calls Try.prog 107 #[.int .i64 (y + sp.f7), .pointer (some ⟨B1, 0, none⟩), .pointer (some ⟨B2, 0, none⟩), .pointer (some ⟨B3, 0, none⟩)] W fun e w' => e = .returned (.int .i64 cb) ∧ ∃ n, w' = W.drewN n) := ⟨fun W h => by obtain ⟨n, rfl⟩ := h; have hc := HCb2.out.drewN n; exact QB.out _ hc.2.2.1 hc.2.2.2.1 hc.2.2.2.2⟩
      clear hW2 hgn hx0 hx1 hx2 hx3 hx4 hx5 hx6 hx7
      go_region_held3 (fun W' => (∃ n, W' = W2.drewN n) ∧ W'.cell? ⟨w.heap.size, 2, none⟩ = some (.slice (some ae) S.length d2) ∧ W'.cell? (ae.add x.toNat) = some (.int .i64 y) ∧ W'.cell? ⟨gn, 7, none⟩ = some (.int .i64 sp.f7))
        (first
          | exact ⟨⟨1, rfl⟩, g1, g2, g3⟩
          | exact ⟨⟨_, rfl⟩, g1, g2, g3⟩
          | assumption)
        (first
          | (go_at_call 107; rw [HW.out]; (with_reducible refine (QB2.out _ (And.left (by assumption))).mono ?_); rintro r w5 ⟨rfl, n6, rfl⟩)
          | (go_at_call 107; (with_reducible refine (QA2.out _ (And.left (by assumption))).mono ?_); rintro r w5 ⟨rfl, n5, rfl⟩))
      rename_i hHeld
      obtain ⟨W3, hW3⟩ : ∃ W3, W3 = W2.drewN (1 + n5 + n6) := ⟨_, rfl⟩
      rw [← hW3]
      have f4 : W3.cell? ⟨gn, 4, none⟩ = some (.string sp.f4) := by rw [hW3]; exact (blk_cell BKn.out 4).trans rfl
      have f5 : W3.cell? ⟨gn, 5, none⟩ = some (.string sp.f5) := by rw [hW3]; exact (blk_cell BKn.out 5).trans rfl
      have HCb3 : Aside0 (Cb w (ansV v (some ad) (some ae) A3 A4 A5 l.length S.length H.length O.length E.length d1 d2 c3 c4 c5) lo wide hi B1 B2 B3 W3) := ⟨by rw [hW3]; exact HCb2.out.drewN _⟩
      have HO3 : Aside0 (Kd.R k68 68 W3 w.heap.size (fun _ => True) (.slice A8 (boxesL lo hi wide l S x.toNat).length n8) (boxesL lo hi wide l S x.toNat)) := ⟨by rw [hW3]; exact Kd.R_drewN HO2.out _⟩
      have z1 : (9223372036854775807 < sp.f4.size + 1) = False := eq_false (by have := HTX.out.1; omega)
      have z2 : (9223372036854775807 < sp.f4.size + 1 + sp.f5.size) = False := eq_false (by have := HTX.out.1; have := HTX.out.2; omega)
      have HLn := Aside0.mk (boxesL_length lo hi wide l S x.toNat)
      clear hW3 hHeld g1 g2 g3
      generalize boxesL lo hi wide l S x.toNat = acc at *
      go_wp2_with (first
        | (go_at_call 56; go_loud (refine (Pl.Point_calls _ _ _).mono ?_; rintro e w6 ⟨rfl, rfl⟩))
        | ((with_reducible refine gate_builtin (b := .append) (xs := #[.tmp 57, .tmp 70]) rfl ?_); at_builtin; go_loud (rw [HCW.out]; refine Kd.R_append k68 (w0 := w) w.heap.size rfl (.tmp 57) (.tmp 70) 50 68 (.agg #[(.complex .f64 0 0), (.int .i64 0), (.string ⟨#[]⟩)]) 40 rfl Try.underlying50 (by kernel_rfl) rfl (by decide) (by omega) (.slice A8 acc.length n8) acc (⟨((Pl.pointV ca x).1, (Pl.pointV ca x).2.1), cb - ca + 1, sp.f4 ++ blank ++ sp.f5⟩ : BoxS) [.complex .f64 (Pl.pointV ca x).1 (Pl.pointV ca x).2.1, .int .i64 (cb - ca + 1), .string (sp.f4 ++ blank ++ sp.f5)] (fun _ => True) (fun _ => False) rfl ?aX ?aP (fun _ hk => hk.elim) ?aF ?aO ?aB ?aS ?aL ?_; (case aX => first | rfl | (go_simp; done) | (go_simp; rfl)); (case aP => exact k68_mkM _ _ _ (⟨((Pl.pointV ca x).1, (Pl.pointV ca x).2.1), cb - ca + 1, sp.f4 ++ blank ++ sp.f5⟩ : BoxS)); (case aB => exact HCb3.out.1); (case aF => exact (fun _ _ => trivial)); (case aO => exact HO3.out); (case aS => exact HCb3.out.1.size); (case aL => have := HLn.out; have := HL.out; have := HC1.out; have := HP.out; omega); intro v7 w7 ho hb hg hat; have HO7 := Aside0.mk ho; have HCb7 := Aside0.mk (HCb3.out.grown HO3.out hg hb); clear ho hb hg hat)))
      go_roundg k1
      case measure => omega
      case rel => exact ⟨x + 1, by rw [HW1.out], ⟨by have := HP.out; omega, by have := HK.out; omega⟩, ⟨by rw [HN1.out, HBX.out]; exact HO7.out⟩, HCb7⟩
    · have c1b := decide_eq_false c1
      have HE := Aside0.mk (show x.toNat = l.length by have := HK.out; omega)
      go_wp2_with fail
      go_ret2
      exact ⟨_, rfl, HE.out ▸ HO.out, HCb.out.1⟩
end Go.Proofs.Ytmfdhcgdibefiaa.L

/- chart.Boxes: what it answers, in all cases. -/
namespace Go.Proofs.Ytmfdhcgdibefiaa.L
open Go.RowKit Go.Proofs.Ytmfdhcgdibefiaa.Q Go.Proofs.Ytmfdhcgdibefiaa.A Go.Proofs.Ytmfdhcgdibefiaa.B Go.Proofs.Ytmfdhcgdibefiaa.K Go.Proofs.Ytmfdhcgdibefiaa.C Go.Proofs.YtmfdhcgdibefiaaW.PrintWords Go.Proofs.YtmfdhcgdibefiaaW.PrintLast Go.Proofs.YtmfdhcgdibefiaaW.PrintMore Go.Proofs.YtmfdhcgdibefiaaW.MapB Go.Proofs.YtmfdhcgdibefiaaW.Lib
set_option linter.unusedVariables false
set_option linter.unusedSimpArgs false
/-- The greatest of some numbers. -/
def maxN (l : List Int) : Nat → Int
  | 0 => rd l 0
  | k + 1 => max (maxN l k) (rd l k)
def maxZ (l : List Int) : Int := maxN l l.length
theorem mx_max (a b : Int) : mx a b = max a b := by unfold mx; omega
theorem maxN_le (l : List Int) : ∀ n k : Nat, k < n → rd l k ≤ maxN l n
  | n + 1, k, h => by
    rw [maxN]
    by_cases e : k = n
    · subst e; omega
    · have := maxN_le l n k (by omega); omega
theorem maxN_ge (l : List Int) (m : Int) : ∀ n : Nat, 0 < n → (∀ k : Nat, k < n → rd l k ≤ m) → maxN l n ≤ m
  | 1, _, h => by show max (rd l 0) (rd l ((0 : Nat) : Int)) ≤ m; have := h 0 (by omega); rw [show ((0 : Nat) : Int) = 0 from rfl] at this ⊢; omega
  | n + 2, _, h => by
    rw [maxN]
    have h1 := maxN_ge l m (n + 1) (by omega) (fun k hk => h k (by omega))
    have h2 := h (n + 1) (by omega)
    omega
theorem max_l0 (l : List Int) (hl : l.length ≤ 1000000) : ∀ d x : Nat, x + d = l.length → Ev (fun k => slices_Max_int64_int64.l0 k l (maxN l x) (x : Int)) (maxZ l)
  | 0, x, h => by
    refine Ev.succ ?_
    simp only [slices_Max_int64_int64.l0]
    refine Ev.neg (by omega) (Ev.cast (Ev.now _) ?_)
    unfold maxZ; rw [show x = l.length by omega]
  | d + 1, x, h => by
    refine Ev.succ ?_
    simp only [slices_Max_int64_int64.l0]
    refine Ev.pos (by omega) (Ev.pos (by omega) ?_)
    rw [mx_max, wrap_id (i := (x : Int) + 1) (by omega) (by omega)]
    exact max_l0 l hl d (x + 1) (by omega)
theorem min_l0 (l : List Int) (hl : l.length ≤ 1000000) : ∀ d x : Nat, x + d = l.length → Ev (fun k => slices_Min_int64_int64.l0 k l (minN l x) (x : Int)) (minZ l)
  | 0, x, h => by
    refine Ev.succ ?_
    simp only [slices_Min_int64_int64.l0]
    refine Ev.neg (by omega) (Ev.cast (Ev.now _) ?_)
    unfold minZ; rw [show x = l.length by omega]
  | d + 1, x, h => by
    refine Ev.succ ?_
    simp only [slices_Min_int64_int64.l0]
    refine Ev.pos (by omega) (Ev.pos (by omega) ?_)
    rw [mn_min, wrap_id (i := (x : Int) + 1) (by omega) (by omega)]
    exact min_l0 l hl d (x + 1) (by omega)
theorem maxN_one (l : List Int) : maxN l 1 = rd l 0 := Int.max_eq_left (Int.le_refl _)
theorem max_ev (l : List Int) (h0 : 0 < l.length) (hl : l.length ≤ 1000000) : Ev (fun k => slices_Max_int64_int64.f k l) (maxZ l) := by
  simp only [slices_Max_int64_int64.f]
  refine Ev.neg (by omega) (Ev.succ ?_)
  simp only [slices_Max_int64_int64.j0]
  refine Ev.pos (by omega) ?_
  have h := max_l0 l hl (l.length - 1) 1 (by omega)
  rw [maxN_one] at h
  exact h
theorem min_ev (l : List Int) (h0 : 0 < l.length) (hl : l.length ≤ 1000000) : Ev (fun k => slices_Min_int64_int64.f k l) (minZ l) := by
  simp only [slices_Min_int64_int64.f]
  refine Ev.neg (by omega) (Ev.succ ?_)
  simp only [slices_Min_int64_int64.j0]
  refine Ev.pos (by omega) ?_
  have h := min_l0 l hl (l.length - 1) 1 (by omega)
  rw [minN_one] at h
  exact h
/-- What is wrong with an answer; 0: nothing. -/
def chkV (l : List SpS) (S : List Int) : Int := if l.length = 0 then 5 else if S.length = l.length ∧ l.any (fun s => !mayS s) = false then (if l.length > 1048576 ∨ maxZ S > 1152921504606846976 ∨ minZ S < -1152921504606846976 then 4 else 0) else 3
theorem check_ev (v : Int) (l : List SpS) (S : List Int) (H : List ByteArray) (O : List Int) (E : List S126) (hl : l.length ≤ 1000000) (hf : ∀ s ∈ l, fitS s) : Ev (fun k => chart_check.f k v l S H O E) (chkV l S) := by
  simp only [chart_check.f]
  unfold chkV
  by_cases c0 : l.length = 0
  · rw [if_pos c0]
    exact Ev.pos (by omega) (Ev.now _)
  · rw [if_neg c0]
    refine Ev.neg (by omega) ?_
    by_cases c1 : S.length = l.length
    · refine Ev.pos (by omega) (Ev.bind (a := l.any (fun s => !mayS s)) (Ev.const (by unfold chart_check_1.f; rw [if_pos ⟨by omega, hf⟩])) (Ev.succ ?_))
      simp only [chart_check.j0]
      cases hb : l.any (fun s => !mayS s) with
      | true =>
        rw [if_neg (by rintro ⟨_, h⟩; cases h)]
        exact Ev.pos (by first | rfl | trivial) (Ev.now _)
      | false =>
        rw [if_pos ⟨c1, rfl⟩]
        refine Ev.neg (by simp) ?_
        by_cases c2 : l.length > 1048576
        · rw [if_pos (.inl c2)]
          exact Ev.pos (by omega) (Ev.now _)
        · refine Ev.neg (by omega) (Ev.bind (max_ev S (by omega) (by omega)) ?_)
          by_cases c3 : maxZ S > 1152921504606846976
          · rw [if_pos (.inr (.inl c3))]
            exact Ev.pos c3 (Ev.now _)
          · refine Ev.neg c3 (Ev.bind (min_ev S (by omega) (by omega)) ?_)
            by_cases c4 : minZ S < -1152921504606846976
            · exact Ev.cast (Ev.pos c4 (Ev.now _)) (if_pos (.inr (.inr c4))).symm
            · exact Ev.cast (Ev.neg c4 (Ev.now _)) (if_neg (by omega)).symm
    · rw [if_neg (by rintro ⟨h, _⟩; exact c1 h)]
      refine Ev.neg (by omega) (Ev.succ ?_)
      simp only [chart_check.j0]
      exact Ev.pos (by first | rfl | trivial) (Ev.now _)
theorem mayS_dur {s : SpS} (h : mayS s = true) : 0 ≤ s.f7 ∧ s.f7 ≤ 1125899906842624 := by
  unfold mayS mayB at h
  simp only [Bool.and_eq_true, Bool.not_eq_true', Bool.or_eq_false_iff, decide_eq_false_iff_not] at h
  omega
/-- chart.Boxes' answer. -/
def cbV (l : List SpS) (S : List Int) (wide : Int) : List BoxS × Int :=
  if 1 ≤ wide ∧ wide ≤ 200 then (if chkV l S = 0 then (boxesL (minZ S) (hiL S l (minZ S) l.length) wide l S l.length, 0) else ([], chkV l S)) else ([], 1)
theorem sheet_is (wide : Int) : chart_sheet.f wide = some (decide (1 ≤ wide ∧ wide ≤ 200)) := by
  unfold chart_sheet.f
  by_cases h : wide ≥ 1
  · rw [if_pos h]; congr 1; rw [decide_eq_decide]; omega
  · rw [if_neg h, decide_eq_false (by omega)]
def okCb (l : List SpS) (S : List Int) : Prop := l.length ≤ 60 ∧ (∀ s ∈ l, fitS s ∧ s.f4.size ≤ 1000 ∧ s.f5.size ≤ 1000) ∧ S.length ≤ 100
instance (l : List SpS) (S : List Int) : Decidable (okCb l S) := by unfold okCb; infer_instance
set_option maxHeartbeats 8000000 in
set_option maxRecDepth 1000000 in
theorem cbV_calls (v wide : Int) (l : List SpS) (S : List Int) (H : List ByteArray) (O : List Int) (E : List S126) (A1 A2 A3 A4 A5 : Option Addr) (d1 d2 c3 c4 c5 : Nat) (w : World) (hok : okCb l S)
    (hr1 : Kd.C k37 w A1 l.length l) (hc1 : l.length ≤ d1) (hr2 : Kd.C (Kd.int .i64) w A2 S.length S) (hc2 : S.length ≤ d2) (hr3 : Kd.C Kd.string w A3 H.length H) (hc3 : H.length ≤ c3) (hr4 : Kd.C (Kd.int .i64) w A4 O.length O) (hc4 : O.length ≤ c4) (hr5 : Kd.C k126 w A5 E.length E) (hc5 : E.length ≤ c5) :
    Calls Try.prog 25 #[.agg (ansV v A1 A2 A3 A4 A5 l.length S.length H.length O.length E.length d1 d2 c3 c4 c5), .int .i64 wide] w fun e w' => ∃ r, e = .returned (.tuple #[r, .int .i64 (cbV l S wide).2]) ∧ Kd.R k68 68 w' w.heap.size (fun _ => True) r (cbV l S wide).1 ∧ Below w.heap.size w w' := by
  obtain ⟨h1, h2, h3⟩ := hok
  have hck := check_ev v l S H O E (by omega) (fun s hs => (h2 s hs).1)
  unfold cbV
  by_cases c0 : 1 ≤ wide ∧ wide ≤ 200
  · rw [if_pos c0]
    have hsh := sheet_is wide
    rw [decide_eq_true c0] at hsh
    by_cases c1 : chkV l S = 0
    · rw [if_pos c1]
      rw [c1] at hck
      unfold chkV at c1
      split at c1
      · cases c1
      · rename_i cl
        split at c1
        · rename_i cs
          split at c1
          · cases c1
          · rename_i cr
            have hm : ∀ s ∈ l, mayS s = true := by
              intro s hs
              have := List.any_eq_false.1 cs.2 s hs
              simpa using this
            refine cboxes_calls v wide _ _ l S H O E A1 A2 A3 A4 A5 d1 d2 c3 c4 c5 w h1 cs.1 (by omega) c0.1 c0.2 hr1 hc1 hr2 hc2 hr3 hc3 hr4 hc4 hr5 hc5 ?_ (fun s hs => (h2 s hs).2) rfl rfl (Ev.rounds hck) hsh
            intro k hk
            have e : rd_T37 l (k : Int) = l[k] := by simp [rd_T37, List.getD, hk]
            have hd := mayS_dur (hm _ (List.getElem_mem hk))
            rw [← e] at hd
            have g1 := minN_le S S.length k (by omega)
            have g2 := maxN_le S S.length k (by omega)
            change minZ S ≤ _ at g1
            change _ ≤ maxZ S at g2
            omega
        · cases c1
    · rw [if_neg c1]
      obtain ⟨k, hk⟩ := Ev.rounds hck
      generalize hcc : chkV l S = cc at *
      have hb1 : Below w.heap.size w (w.alloc (Obj.cells (ansV v A1 A2 A3 A4 A5 l.length S.length H.length O.length E.length d1 d2 c3 c4 c5) 48)) := below_alloc (Below.refl _ _) _
      have QS := Aside0.mk (fun W => chart_sheet.calls wide true W hsh)
      have QK : Aside0 (∀ W, Below w.heap.size w W → Calls Try.prog 54 #[.agg (ansV v A1 A2 A3 A4 A5 l.length S.length H.length O.length E.length d1 d2 c3 c4 c5)] W fun e w' => e = .returned (.int .i64 cc) ∧ Below W.heap.size W w') :=
        ⟨fun W h => chart_check.calls k v A1 d1 l A2 d2 S A3 c3 H A4 c4 O A5 c5 E cc W (Kd.C_below hr1 h) hc1 (Kd.C_below hr2 h) hc2 (Kd.C_below hr3 h) hc3 (Kd.C_below hr4 h) hc4 (Kd.C_below hr5 h) hc5 hk⟩
      have HB1 := Aside0.mk hb1
      have hne : (!(cc == 0)) = true := by simp [c1]
      have hne2 : (cc == 0) = false := by simp [c1]
      clear hb1 hr1 hr2 hr3 hr4 hr5 hc1 hc2 hc3 hc4 hc5 hk hck hsh h1 h2 h3 hcc c0
      go_enter Try.func25, Try.ntmps25
      go_wp2_with (first
        | (go_at_call 53; go_loud (refine (QS.out _).mono ?_; rintro e w1 ⟨rfl, hd⟩; obtain ⟨⟨n1, rfl⟩⟩ := hd))
        | (go_at_call 54; go_loud (refine (QK.out _ (pw_below_drewN HB1.out _)).mono ?_; rintro e w2 ⟨rfl, hb⟩; have HB2 := Aside0.mk (below_step (pw_below_drewN HB1.out _) hb); clear hb)))
      go_ret2
      exact ⟨_, rfl, Kd.R_nil _ _ _ _ _, HB2.out⟩
  · rw [if_neg c0]
    have hsh := sheet_is wide
    rw [decide_eq_false c0] at hsh
    have QS := Aside0.mk (fun W => chart_sheet.calls wide false W hsh)
    have hb1 : Below w.heap.size w (w.alloc (Obj.cells (ansV v A1 A2 A3 A4 A5 l.length S.length H.length O.length E.length d1 d2 c3 c4 c5) 48)) := below_alloc (Below.refl _ _) _
    have HB1 := Aside0.mk hb1
    clear hb1 hr1 hr2 hr3 hr4 hr5 hc1 hc2 hc3 hc4 hc5 hck hsh h1 h2 h3 c0
    go_enter Try.func25, Try.ntmps25
    go_wp2_with (first
      | (go_at_call 53; go_loud (refine (QS.out _).mono ?_; rintro e w1 ⟨rfl, hd⟩; obtain ⟨⟨n1, rfl⟩⟩ := hd)))
    go_ret2
    exact ⟨_, rfl, Kd.R_nil _ _ _ _ _, pw_below_drewN HB1.out _⟩
end Go.Proofs.Ytmfdhcgdibefiaa.L

-- Written by wip/tools/gp.py, a program of this session round the kit's printer. Lean checks it.
namespace Go.Proofs.Ytmfdhcgdibefiaa.Z
open Go.RowKit Go.Proofs.Ytmfdhcgdibefiaa.Q Go.Proofs.Ytmfdhcgdibefiaa.A Go.Proofs.YtmfdhcgdibefiaaW.PrintWords Go.Proofs.YtmfdhcgdibefiaaW.PrintLast Go.Proofs.YtmfdhcgdibefiaaW.PrintMore
attribute [local go_sem] max2_int min2_int max_two min_two max_three min_three max_four min_four   -- for this text's walks alone
set_option linter.unusedVariables false
set_option linter.unusedSimpArgs false




-- the values' own types

end Go.Proofs.Ytmfdhcgdibefiaa.Z

-- Written by wip/tools/gp.py, a program of this session round the kit's printer. Lean checks it.
namespace Go.Proofs.Ytmfdhcgdibefiaa.Z
open Go.RowKit Go.Proofs.Ytmfdhcgdibefiaa.Q Go.Proofs.Ytmfdhcgdibefiaa.A Go.Proofs.YtmfdhcgdibefiaaW.PrintWords Go.Proofs.YtmfdhcgdibefiaaW.PrintLast Go.Proofs.YtmfdhcgdibefiaaW.PrintMore
attribute [local go_sem] max2_int min2_int max_two min_two max_three min_three max_four min_four   -- for this text's walks alone
set_option linter.unusedVariables false
set_option linter.unusedSimpArgs false

/-! ### merkhetlaw26_fixed_1: function 52 -/
def merkhetlaw26_fixed_1.f (a0 : Int) (a1 : Int) (a2 : Int) : Option (Int × Int × Int × Int × ByteArray × ByteArray × Int × Int) := some (1, a0, 0, 0, (⟨#[97]⟩ : ByteArray), (⟨#[98]⟩ : ByteArray), a1, a2)
set_option maxHeartbeats 8000000 in
set_option maxRecDepth 100000 in
theorem merkhetlaw26_fixed_1.calls (a0 : Int) (a1 : Int) (a2 : Int) (r1 : Int) (r2 : Int) (r3 : Int) (r4 : Int) (r5 : ByteArray) (r6 : ByteArray) (r7 : Int) (r8 : Int) (w : World) (h : merkhetlaw26_fixed_1.f a0 a1 a2 = some (r1, r2, r3, r4, r5, r6, r7, r8)) :
    Calls Try.prog 52 #[.int .u64 a0, .int .i64 a1, .int .i64 a2] w fun e w' => e = .returned (.agg #[.int .u64 r1, .int .u64 r2, .int .u64 r3, .int .u8 r4, .string r5, .string r6, .int .i64 r7, .int .i64 r8]) ∧ Below w.heap.size w w' := by
  have hu37 := Try.underlying37
  have HB := Aside0.mk (Below.refl w.heap.size w)
  have H : (some (1, a0, 0, 0, (⟨#[97]⟩ : ByteArray), (⟨#[98]⟩ : ByteArray), a1, a2)) = some (r1, r2, r3, r4, r5, r6, r7, r8) := h
  clear h
  simp only [Option.some.injEq, Prod.mk.injEq] at H
  obtain ⟨rfl, rfl, rfl, rfl, rfl, rfl, rfl, rfl⟩ := H
  go_enter Try.func52, Try.ntmps52
  go_wp2_with (first | ((with_reducible refine gate_dst (N := 6) rfl ?_); refine box_event ?hg (N := 6) ?hd (cs := #[.int .u64 0, .int .u64 0, .int .u64 0, .int .u8 0, .string (⟨#[]⟩ : ByteArray), .string (⟨#[]⟩ : ByteArray), .int .i64 0, .int .i64 0]) (t := 37) ?hr ?_; (case hd => rfl); (case hg => rfl); (case hr => first | (go_simp; done) | (go_simp; rfl)); intro gb101 hg w4 hbox hb; have n0_ := Aside0.mk (below_step (by repeat (first | (with_reducible first | exact HB.out | apply below_alloc | apply pw_below_drewN | apply below_drew1) | exact HB.out)) hb); have n1_ := Aside0.mk (hbox); have n2_ := Aside0.mk ((by rw [hg]; exact (below_size (by repeat (first | (with_reducible first | exact HB.out | apply below_alloc | apply pw_below_drewN | apply below_drew1) | exact HB.out))) : w.heap.size ≤ gb101)); have n3_ := Aside0.mk ((by rw [hg]; exact (below_size (by repeat (first | (with_reducible first | exact HB.out | apply below_alloc | apply pw_below_drewN | apply below_drew1) | exact HB.out))) : w.heap.size ≤ gb101)); clear HB; have HB := n0_; have BK101 := n1_; have GW101 := n2_; have GE101 := n3_; clear n0_ n1_ n2_ n3_; clear hb hbox hg; have hcz5_0 : w4.cell? ⟨gb101, 0, none⟩ = some (.int .u64 0) := (blk_cell BK101.out 0).trans rfl; have hcz5_1 : w4.cell? ⟨gb101, 1, none⟩ = some (.int .u64 0) := (blk_cell BK101.out 1).trans rfl; have hcz5_2 : w4.cell? ⟨gb101, 2, none⟩ = some (.int .u64 0) := (blk_cell BK101.out 2).trans rfl; have hcz5_3 : w4.cell? ⟨gb101, 3, none⟩ = some (.int .u8 0) := (blk_cell BK101.out 3).trans rfl; have hcz5_4 : w4.cell? ⟨gb101, 4, none⟩ = some (.string (⟨#[]⟩ : ByteArray)) := (blk_cell BK101.out 4).trans rfl; have hcz5_5 : w4.cell? ⟨gb101, 5, none⟩ = some (.string (⟨#[]⟩ : ByteArray)) := (blk_cell BK101.out 5).trans rfl; have hcz5_6 : w4.cell? ⟨gb101, 6, none⟩ = some (.int .i64 0) := (blk_cell BK101.out 6).trans rfl; have hcz5_7 : w4.cell? ⟨gb101, 7, none⟩ = some (.int .i64 0) := (blk_cell BK101.out 7).trans rfl; have hfz5_0 := blk_frozen BK101.out 0; have hfz5_1 := blk_frozen BK101.out 1; have hfz5_2 := blk_frozen BK101.out 2; have hfz5_3 := blk_frozen BK101.out 3; have hfz5_4 := blk_frozen BK101.out 4; have hfz5_5 := blk_frozen BK101.out 5; have hfz5_6 := blk_frozen BK101.out 6; have hfz5_7 := blk_frozen BK101.out 7))
  refine bodyPost_ret (results_cell_row rfl _ _ gb101 37 #[.int .u64 1, .int .u64 a0, .int .u64 0, .int .u8 0, .string (⟨#[97]⟩ : ByteArray), .string (⟨#[98]⟩ : ByteArray), .int .i64 a1, .int .i64 a2] (0, 0) _ rfl (by (with_reducible repeat (first | refine blk_drewN ?_ _ | refine blk_drew ?_ | refine blk_alloc ?_ _)); refine blk_put (cs := #[.int .u64 1, .int .u64 a0, .int .u64 0, .int .u8 0, .string (⟨#[97]⟩ : ByteArray), .string (⟨#[98]⟩ : ByteArray), .int .i64 a1, .int .i64 0]) ?_ 7 _ rfl; (with_reducible repeat (first | refine blk_drewN ?_ _ | refine blk_drew ?_ | refine blk_alloc ?_ _)); refine blk_put (cs := #[.int .u64 1, .int .u64 a0, .int .u64 0, .int .u8 0, .string (⟨#[97]⟩ : ByteArray), .string (⟨#[98]⟩ : ByteArray), .int .i64 0, .int .i64 0]) ?_ 6 _ rfl; (with_reducible repeat (first | refine blk_drewN ?_ _ | refine blk_drew ?_ | refine blk_alloc ?_ _)); refine blk_put (cs := #[.int .u64 1, .int .u64 a0, .int .u64 0, .int .u8 0, .string (⟨#[97]⟩ : ByteArray), .string (⟨#[]⟩ : ByteArray), .int .i64 0, .int .i64 0]) ?_ 5 _ rfl; (with_reducible repeat (first | refine blk_drewN ?_ _ | refine blk_drew ?_ | refine blk_alloc ?_ _)); refine blk_put (cs := #[.int .u64 1, .int .u64 a0, .int .u64 0, .int .u8 0, .string (⟨#[]⟩ : ByteArray), .string (⟨#[]⟩ : ByteArray), .int .i64 0, .int .i64 0]) ?_ 4 _ rfl; (with_reducible repeat (first | refine blk_drewN ?_ _ | refine blk_drew ?_ | refine blk_alloc ?_ _)); refine blk_put (cs := #[.int .u64 1, .int .u64 a0, .int .u64 0, .int .u8 0, .string (⟨#[]⟩ : ByteArray), .string (⟨#[]⟩ : ByteArray), .int .i64 0, .int .i64 0]) ?_ 3 _ rfl; (with_reducible repeat (first | refine blk_drewN ?_ _ | refine blk_drew ?_ | refine blk_alloc ?_ _)); refine blk_put (cs := #[.int .u64 1, .int .u64 a0, .int .u64 0, .int .u8 0, .string (⟨#[]⟩ : ByteArray), .string (⟨#[]⟩ : ByteArray), .int .i64 0, .int .i64 0]) ?_ 2 _ rfl; (with_reducible repeat (first | refine blk_drewN ?_ _ | refine blk_drew ?_ | refine blk_alloc ?_ _)); refine blk_put (cs := #[.int .u64 1, .int .u64 0, .int .u64 0, .int .u8 0, .string (⟨#[]⟩ : ByteArray), .string (⟨#[]⟩ : ByteArray), .int .i64 0, .int .i64 0]) ?_ 1 _ rfl; (with_reducible repeat (first | refine blk_drewN ?_ _ | refine blk_drew ?_ | refine blk_alloc ?_ _)); refine blk_put (cs := #[.int .u64 0, .int .u64 0, .int .u64 0, .int .u8 0, .string (⟨#[]⟩ : ByteArray), .string (⟨#[]⟩ : ByteArray), .int .i64 0, .int .i64 0]) ?_ 0 _ rfl; (with_reducible repeat (first | refine blk_drewN ?_ _ | refine blk_drew ?_ | refine blk_alloc ?_ _)); exact BK101.out) Try.underlying37 rfl (by kernel_rfl)) rfl ?_
  exact ⟨by first | rfl | (simp [errW_none, errW_some] <;> rfl) | (simp [*, errW_none, errW_some] <;> rfl), by repeat (first | (with_reducible first | exact HB.out | apply below_alloc | apply pw_below_drewN | apply below_drew1 | refine below_set ?_ GE101.out) | exact HB.out)⟩

end Go.Proofs.Ytmfdhcgdibefiaa.Z

/- The chapter's example of chart. -/
namespace Go.Proofs.Ytmfdhcgdibefiaa.L
open Go.RowKit Go.Proofs.Ytmfdhcgdibefiaa.Q Go.Proofs.Ytmfdhcgdibefiaa.A Go.Proofs.Ytmfdhcgdibefiaa.B Go.Proofs.Ytmfdhcgdibefiaa.K Go.Proofs.Ytmfdhcgdibefiaa.C Go.Proofs.Ytmfdhcgdibefiaa.Z Go.Proofs.YtmfdhcgdibefiaaW.PrintWords Go.Proofs.YtmfdhcgdibefiaaW.PrintLast Go.Proofs.YtmfdhcgdibefiaaW.PrintMore Go.Proofs.YtmfdhcgdibefiaaW.MapB Go.Proofs.YtmfdhcgdibefiaaW.Lib
set_option linter.unusedVariables false
set_option linter.unusedSimpArgs false
def fsp (i s d : Int) : SpS := ⟨1, i, 0, 0, ⟨#[97]⟩, ⟨#[98]⟩, s, d⟩
def fab : ByteArray := ⟨#[97, 32, 98]⟩
theorem fchk : chkV [fsp 1 0 9, fsp 2 5 4] [0, 5] = 0 := by decide +kernel
theorem fcb : cbV [fsp 1 0 9, fsp 2 5 4] [0, 5] 10 = ([⟨(0, 0), 10, fab⟩, ⟨(4617315517961601024, 4607182418800017408), 5, fab⟩], 0) := by
  unfold cbV
  rw [if_pos ⟨by decide, by decide⟩, if_pos fchk]
  rfl
theorem fok : okCb [fsp 1 0 9, fsp 2 5 4] [0, 5] := by decide +kernel
set_option maxHeartbeats 8000000 in
set_option maxRecDepth 1000000 in
theorem fixed26_calls (w : World) : Calls Try.prog 24 #[] w fun e w' => e = .returned (.bool true) ∧ Below w.heap.size w w' := by
  have QF : Aside0 (∀ (i s d : Int) W, Calls Try.prog 52 #[.int .u64 i, .int .i64 s, .int .i64 d] W fun e w' => e = .returned (.agg #[.int .u64 1, .int .u64 i, .int .u64 0, .int .u8 0, .string ⟨#[97]⟩, .string ⟨#[98]⟩, .int .i64 s, .int .i64 d]) ∧ Below W.heap.size W w') := ⟨fun i s d W => merkhetlaw26_fixed_1.calls i s d _ _ _ _ _ _ _ _ W rfl⟩
  have HB0 := Aside0.mk (Below.refl w.heap.size w)
  have he1 : ∀ W : World, (binOp .eql 68 (.agg #[.complex .f64 0 0, .int .i64 10, .string ⟨#[97, 32, 98]⟩]) (.agg #[.complex .f64 0 0, .int .i64 10, .string ⟨#[97, 32, 98]⟩])).run Try.prog W = .ok (.bool true) W := fun W => by kernel_rfl
  have he2 : ∀ W : World, (binOp .eql 68 (.agg #[.complex .f64 4617315517961601024 4607182418800017408, .int .i64 5, .string ⟨#[97, 32, 98]⟩]) (.agg #[.complex .f64 4617315517961601024 4607182418800017408, .int .i64 5, .string ⟨#[97, 32, 98]⟩])).run Try.prog W = .ok (.bool true) W := fun W => by kernel_rfl
  go_enter Try.func24, Try.ntmps24
  go_wp2_with (first
    | (go_at_call 52; ((with_reducible refine (QF.out 1 0 9 _).mono ?_); rintro e w1 ⟨rfl, hb⟩; have HB1 := Aside0.mk (below_step HB0.out hb); clear hb HB0))
    | (go_at_call 52; ((with_reducible refine (QF.out 2 5 4 _).mono ?_); rintro e w2 ⟨rfl, hb⟩; have HB2 := Aside0.mk (below_step HB1.out hb); clear hb))
    | ((with_reducible refine gate_dst (N := 9) rfl ?_); go_loud (refine Kd.R_lit k37 w.heap.size 37 ?hg (N := 9) ?hd (w0 := w) (xs := ([fsp 1 0 9, fsp 2 5 4] : List SpS)) (inner := [.int .u64 1, .int .u64 1, .int .u64 0, .int .u8 0, .string ⟨#[97]⟩, .string ⟨#[98]⟩, .int .i64 0, .int .i64 9, .int .u64 1, .int .u64 2, .int .u64 0, .int .u8 0, .string ⟨#[97]⟩, .string ⟨#[98]⟩, .int .i64 5, .int .i64 4]) (ok := fun _ => True) (okp := fun _ => True) ?hr ?hp (fun _ hk => hk) trivial HB2.out HB2.out.size (by simp) ?_; (case hd => rfl); (case hg => rfl); (case hr => first | (go_simp; done) | (go_simp; rfl)); (case hp => exact (Reps.c8 (show Kd.M k37 _ _ _ (fsp 1 0 9) _ from (k37_mkM _ _ _ (fsp 1 0 9))) (Reps.c8 (show Kd.M k37 _ _ _ (fsp 2 5 4) _ from (k37_mkM _ _ _ (fsp 2 5 4))) (Reps.none _ _)))); intro v3 w3 ho hb hg_ hnew_; obtain ⟨A3, n3, e3⟩ := Kd.R_slice ho; subst e3; have HC3 := Aside0.mk (Kd.R_reads' ho).2; have HB3 := Aside0.mk hb; clear ho hb hg_ hnew_))
    | ((with_reducible refine gate_dst (N := 10) rfl ?_); go_loud (refine Kd.R_lit (Kd.int .i64) w.heap.size 2 ?hg (N := 10) ?hd (w0 := w) (xs := ([0, 5] : List Int)) (inner := [.int .i64 0, .int .i64 5]) (ok := fun _ => True) (okp := fun _ => True) ?hr ?hp (fun _ hk => hk) trivial HB3.out HB3.out.size (by simp) ?_; (case hd => rfl); (case hg => rfl); (case hr => first | (go_simp; done) | (go_simp; rfl)); (case hp => exact (Reps.one rfl (Reps.one rfl (Reps.none _ _)))); intro v4 w4 ho hb hg_ hnew_; obtain ⟨A4, n4, e4⟩ := Kd.R_slice ho; subst e4; have HC4 := Aside0.mk (Kd.R_reads' ho).2; have HG4 := Aside0.mk (grown_below (B := w3.heap.size) hg_ (fun _ h => by cases h) (Nat.le_refl _)); have HB4 := Aside0.mk hb; clear ho hb hg_ hnew_))
    | (go_at_call 25; go_loud (have q := cbV_calls 0 10 [fsp 1 0 9, fsp 2 5 4] [0, 5] [] [] [] A3 A4 none none none n3 n4 0 0 0 w4 fok (Kd.C_below HC3.out.2 HG4.out) HC3.out.1 HC4.out.2 HC4.out.1 (Kd.C_nil _ _) (Nat.le_refl _) (Kd.C_nil _ _) (Nat.le_refl _) (Kd.C_nil _ _) (Nat.le_refl _); rw [fcb] at q; refine q.mono ?_; rintro e w5 ⟨v5, rfl, ho, hb⟩; obtain ⟨A5, n5, e5⟩ := Kd.R_slice ho; subst e5; have HC5 := Aside0.mk (Kd.R_reads' ho).2; have HB5 := Aside0.mk (below_step HB4.out hb); clear ho hb q; obtain ⟨ad, ea, hx0, hx1, hx2⟩ := at_T68 HC5.out.2 0 (by omega) (by decide); obtain ⟨ad', ea', hy0, hy1, hy2⟩ := at_T68 HC5.out.2 1 (by omega) (by decide); cases ea; cases ea'; have z0 : w5.cell? (ad.add 0) = some (.complex .f64 0 0) := hx0; have z1 : w5.cell? ⟨(ad.add 0).block, (ad.add 0).off + 1, none⟩ = some (.int .i64 10) := hx1; have z2 : w5.cell? ⟨(ad.add 0).block, (ad.add 0).off + 2, none⟩ = some (.string ⟨#[97, 32, 98]⟩) := hx2; rw [Addr.add_zero'] at z0 z1 z2; have y0 : w5.cell? ⟨ad.block, ad.off + 3, none⟩ = some (.complex .f64 4617315517961601024 4607182418800017408) := hy0; have y1 : w5.cell? ⟨ad.block, ad.off + 3 + 1, none⟩ = some (.int .i64 5) := hy1; have y2 : w5.cell? ⟨ad.block, ad.off + 3 + 2, none⟩ = some (.string ⟨#[97, 32, 98]⟩) := hy2; clear hx0 hx1 hx2 hy0 hy1 hy2)))
  go_ret
  exact ⟨rfl, HB5.out⟩
end Go.Proofs.Ytmfdhcgdibefiaa.L

-- Written by wip/tools/gp.py, a program of this session round the kit's printer. Lean checks it.
namespace Go.Proofs.Ytmfdhcgdibefiaa.H
open Go.RowKit Go.Proofs.Ytmfdhcgdibefiaa.Q Go.Proofs.Ytmfdhcgdibefiaa.A Go.Proofs.Ytmfdhcgdibefiaa.B Go.Proofs.Ytmfdhcgdibefiaa.K Go.Proofs.Ytmfdhcgdibefiaa.C Go.Proofs.YtmfdhcgdibefiaaW.PrintWords Go.Proofs.YtmfdhcgdibefiaaW.PrintLast Go.Proofs.YtmfdhcgdibefiaaW.PrintMore
attribute [local go_sem] max2_int min2_int max_two min_two max_three min_three max_four min_four   -- for this text's walks alone
set_option linter.unusedVariables false
set_option linter.unusedSimpArgs false
/-! #### struct type 48 -/
structure S48 where
  f0 : Int
  f1 : (List S37)
  f2 : (List Int)
  f3 : (List ByteArray)
  f4 : (List Int)
  f5 : (List S126)
def k48 : Kd S48 := Kd.iso (Kd.pair (Kd.int .i64) (Kd.pair (Kd.slice 37 k37) (Kd.pair (Kd.slice 2 (Kd.int .i64)) (Kd.pair (Kd.slice 9 Kd.string) (Kd.pair (Kd.slice 2 (Kd.int .i64)) (Kd.slice 126 k126)))))) (fun x : S48 => (x.f0, x.f1, x.f2, x.f3, x.f4, x.f5))
theorem k48_open {w : World} {x : S48} {cs : List Value} (h : k48.K w x cs) : ∃ A1 c1 A2 c2 A3 c3 A4 c4 A5 c5, cs = [.int .i64 x.f0, .slice A1 x.f1.length c1, .slice A2 x.f2.length c2, .slice A3 x.f3.length c3, .slice A4 x.f4.length c4, .slice A5 x.f5.length c5] ∧ x.f1.length ≤ c1 ∧ k37.C w A1 x.f1.length x.f1 ∧ x.f2.length ≤ c2 ∧ (Kd.int .i64).C w A2 x.f2.length x.f2 ∧ x.f3.length ≤ c3 ∧ Kd.string.C w A3 x.f3.length x.f3 ∧ x.f4.length ≤ c4 ∧ (Kd.int .i64).C w A4 x.f4.length x.f4 ∧ x.f5.length ≤ c5 ∧ k126.C w A5 x.f5.length x.f5 := by
  obtain ⟨_, _, rfl, rfl, ⟨_, _, rfl, ⟨A1, c1, rfl, l1, g1⟩, ⟨_, _, rfl, ⟨A2, c2, rfl, l2, g2⟩, ⟨_, _, rfl, ⟨A3, c3, rfl, l3, g3⟩, ⟨_, _, rfl, ⟨A4, c4, rfl, l4, g4⟩, ⟨A5, c5, rfl, l5, g5⟩⟩⟩⟩⟩⟩ := h
  exact ⟨A1, c1, A2, c2, A3, c3, A4, c4, A5, c5, rfl, l1, g1, l2, g2, l3, g3, l4, g4, l5, g5⟩
end Go.Proofs.Ytmfdhcgdibefiaa.H

-- Written by wip/tools/gp.py, a program of this session round the kit's printer. Lean checks it.
namespace Go.Proofs.Ytmfdhcgdibefiaa.C
open Go.RowKit Go.Proofs.Ytmfdhcgdibefiaa.Q Go.Proofs.Ytmfdhcgdibefiaa.A Go.Proofs.Ytmfdhcgdibefiaa.B Go.Proofs.Ytmfdhcgdibefiaa.K Go.Proofs.YtmfdhcgdibefiaaW.PrintWords Go.Proofs.YtmfdhcgdibefiaaW.PrintLast Go.Proofs.YtmfdhcgdibefiaaW.PrintMore
attribute [local go_sem] max2_int min2_int max_two min_two max_three min_three max_four min_four   -- for this text's walks alone
set_option linter.unusedVariables false
set_option linter.unusedSimpArgs false

theorem eqA97 (d : Nat) (w : World) (x0 y0 : Int) (x1 y1 : Int) :
    (Op.equalIn (d + 2) 97 (.agg #[.int .u64 x0, .int .u64 x1]) (.agg #[.int .u64 y0, .int .u64 y1])).run Try.prog w = .ok (x0 == y0 && (x1 == y1)) w := by
  refine eqA_of Try.underlying97 (by kernel_rfl) ?_
  refine eqf_cons (by rfl) (by go_simp; rfl) (by go_simp; rfl) (by go_simp) ?_
  exact eqf_last (by rfl) (by go_simp; rfl) (by go_simp; rfl) (by go_simp)
theorem eqA101 (d : Nat) (w : World) (x0 y0 : Int) (x1 y1 : Int) (x2 y2 : Int) (x3 y3 : ByteArray) :
    (Op.equalIn (d + 3) 101 (.agg #[.int .u64 x0, .int .u64 x1, .int .i64 x2, .string x3]) (.agg #[.int .u64 y0, .int .u64 y1, .int .i64 y2, .string y3])).run Try.prog w = .ok ((x0 == y0 && (x1 == y1)) && (x2 == y2 && (x3.toList == y3.toList))) w := by
  refine eqA_of Try.underlying101 (by kernel_rfl) ?_
  refine eqf_cons (by rfl) (by go_simp) (by go_simp) (eqA97 (d + 0) w _ _ _ _) ?_
  refine eqf_cons (by rfl) (by go_simp; rfl) (by go_simp; rfl) (by go_simp) ?_
  exact eqf_last (by rfl) (by go_simp; rfl) (by go_simp; rfl) (by go_simp)
end Go.Proofs.Ytmfdhcgdibefiaa.C

-- Written by wip/tools/gp.py, a program of this session round the kit's printer. Lean checks it.
namespace Go.Proofs.Ytmfdhcgdibefiaa.C
open Go.RowKit Go.Proofs.Ytmfdhcgdibefiaa.Q Go.Proofs.Ytmfdhcgdibefiaa.A Go.Proofs.Ytmfdhcgdibefiaa.B Go.Proofs.Ytmfdhcgdibefiaa.K Go.Proofs.YtmfdhcgdibefiaaW.PrintWords Go.Proofs.YtmfdhcgdibefiaaW.PrintLast Go.Proofs.YtmfdhcgdibefiaaW.PrintMore
attribute [local go_sem] max2_int min2_int max_two min_two max_three min_three max_four min_four   -- for this text's walks alone
set_option linter.unusedVariables false
set_option linter.unusedSimpArgs false

attribute [local go_sem high] eqA101
/-! ### merkhetref25_Told: function 111 (given) -/
def merkhetref25_Told.f (a0 : Nat × Nat) : Option (Int × Int) := if True then some ((a0.1 : Int), (a0.2 : Int)) else none
theorem merkhetref25_Told.calls (a0 : Nat × Nat) (r1 : Int) (r2 : Int) (w : World) (h : merkhetref25_Told.f a0 = some (r1, r2)) :
    Calls Try.prog 111 #[.complex .f64 a0.1 a0.2] w fun e w' => e = .returned (.agg #[.int .u64 r1, .int .u64 r2]) ∧ Below w.heap.size w w' := by
  unfold merkhetref25_Told.f at h
  split at h
  · rename_i hl
    have e := Option.some.inj h
    obtain ⟨rfl, rfl⟩ := Prod.mk.inj e
    exact (Pl.Told_calls a0.1 a0.2 w).mono (by rintro e w' ⟨rfl, hb⟩; exact ⟨rfl, Pl.own_below hb⟩)
  · cases h

/-! ### merkhetref26_Told: function 60 -/
def merkhetref26_Told.f (a0_0 : (Nat × Nat)) (a0_1 : Int) (a0_2 : ByteArray) : Option (Int × Int × Int × ByteArray) := (merkhetref25_Told.f a0_0).bind fun bt103 => (some (bt103.1, bt103.2, a0_1, a0_2))
def merkhetref26_Told.T1 : Bool × List (List Nat × List Nat) := (true, [([], []), ([0], [0]), ([1], [1]), ([], []), ([3], [3]), ([], []), ([5], [5]), ([2, 4, 6], [2, 4, 6]), ([7, 2, 0, 1, 2, 3, 4, 5, 6, 7], [7])])
def merkhetref26_Told.B1 : List Nat := [0, 1, 3, 0, 8, 0, 32, 127, 255]
theorem merkhetref26_Told.tab1 : rtab .any (opsOf Try.f60 1) = merkhetref26_Told.T1 := by kernel_rfl
theorem merkhetref26_Told.bits1 : waitsOk merkhetref26_Told.T1.2 merkhetref26_Told.B1 = true := by kernel_rfl
set_option maxHeartbeats 8000000 in
set_option maxRecDepth 100000 in
theorem merkhetref26_Told.calls (a0_0 : (Nat × Nat)) (a0_1 : Int) (a0_2 : ByteArray) (r1 : Int) (r2 : Int) (r3 : Int) (r4 : ByteArray) (w : World) (h : merkhetref26_Told.f a0_0 a0_1 a0_2 = some (r1, r2, r3, r4)) :
    Calls Try.prog 60 #[.agg #[.complex .f64 a0_0.1 a0_0.2, .int .i64 a0_1, .string a0_2]] w fun e w' => e = .returned (.agg #[.int .u64 r1, .int .u64 r2, .int .i64 r3, .string r4]) ∧ Below w.heap.size w w' := by
  have hu68 := Try.underlying68
  have hu101 := Try.underlying101
  have HB := Aside0.mk (Below.refl w.heap.size w)
  have H : ((merkhetref25_Told.f a0_0).bind fun bt103 => (some (bt103.1, bt103.2, a0_1, a0_2))) = some (r1, r2, r3, r4) := h
  clear h
  replace H := Option.bind_eq_some_iff.mp H
  obtain ⟨⟨t103, t104⟩, A20, H⟩ := H
  replace H : (some (t103, t104, a0_1, a0_2)) = some (r1, r2, r3, r4) := H
  have A2 := Aside0.mk A20
  clear A20
  simp only [Option.some.injEq, Prod.mk.injEq] at H
  obtain ⟨rfl, rfl, rfl, rfl⟩ := H
  go_enter Try.func60, Try.ntmps60
  try go_wp2_with (first | ((with_reducible refine gate_dst (N := 1) rfl ?_); refine box_event ?hg (N := 1) ?hd (cs := #[.complex .f64 a0_0.1 a0_0.2, .int .i64 a0_1, .string a0_2]) (t := 68) ?hr ?_; (case hd => rfl); (case hg => rfl); (case hr => first | (go_simp; done) | (go_simp; rfl)); intro gb101 hg w3 hbox hb; have n0_ := Aside0.mk (below_step (by repeat (first | (with_reducible first | exact HB.out | apply below_alloc | apply pw_below_drewN | apply below_drew1) | exact HB.out)) hb); have n1_ := Aside0.mk (hbox); have n2_ := Aside0.mk ((by rw [hg]; exact (below_size (by repeat (first | (with_reducible first | exact HB.out | apply below_alloc | apply pw_below_drewN | apply below_drew1) | exact HB.out))) : w.heap.size ≤ gb101)); have n3_ := Aside0.mk ((by rw [hg]; exact (below_size (by repeat (first | (with_reducible first | exact HB.out | apply below_alloc | apply pw_below_drewN | apply below_drew1) | exact HB.out))) : w.heap.size ≤ gb101)); clear HB; have HB := n0_; have BK101 := n1_; have GW101 := n2_; have GE101 := n3_; clear n0_ n1_ n2_ n3_; clear hb hbox hg) | ((with_reducible refine gate_dst (N := 2) rfl ?_); refine box_event ?hg (N := 2) ?hd (cs := #[.int .u64 0, .int .u64 0, .int .i64 0, .string (⟨#[]⟩ : ByteArray)]) (t := 101) ?hr ?_; (case hd => rfl); (case hg => rfl); (case hr => first | (go_simp; done) | (go_simp; rfl)); intro gb102 hg w4 hbox hb; have n0_ := Aside0.mk (blk_below (g := gb101) (o := .cells #[.complex .f64 a0_0.1 a0_0.2, .int .i64 a0_1, .string a0_2] 68 (0, 0)) (by (with_reducible repeat (first | refine blk_drewN ?_ _ | refine blk_drew ?_ | refine blk_alloc ?_ _)); exact BK101.out) hb); have n1_ := Aside0.mk (below_step (by repeat (first | (with_reducible first | exact HB.out | apply below_alloc | apply pw_below_drewN | apply below_drew1 | refine below_set ?_ GE101.out) | exact HB.out)) hb); have n2_ := Aside0.mk (hbox); have n3_ := Aside0.mk ((by rw [hg]; exact (below_size (by repeat (first | (with_reducible first | exact HB.out | apply below_alloc | apply pw_below_drewN | apply below_drew1 | refine below_set ?_ GE101.out) | exact HB.out))) : w.heap.size ≤ gb102)); have n4_ := Aside0.mk ((by rw [hg]; exact (below_size (by repeat (first | (with_reducible first | exact HB.out | apply below_alloc | apply pw_below_drewN | apply below_drew1 | refine below_set ?_ GE101.out) | exact HB.out))) : w.heap.size ≤ gb102)); have n5_ := Aside0.mk ((by rw [hg]; exact Nat.ne_of_lt (blk_lt (g := gb101) (o := .cells #[.complex .f64 a0_0.1 a0_0.2, .int .i64 a0_1, .string a0_2] 68 (0, 0)) (by (with_reducible repeat (first | refine blk_drewN ?_ _ | refine blk_drew ?_ | refine blk_alloc ?_ _)); exact BK101.out)) : gb101 ≠ gb102)); have n6_ := Aside0.mk ((by rw [hg]; exact Nat.ne_of_gt (blk_lt (g := gb101) (o := .cells #[.complex .f64 a0_0.1 a0_0.2, .int .i64 a0_1, .string a0_2] 68 (0, 0)) (by (with_reducible repeat (first | refine blk_drewN ?_ _ | refine blk_drew ?_ | refine blk_alloc ?_ _)); exact BK101.out)) : gb102 ≠ gb101)); clear BK101; clear HB; have BK101 := n0_; have HB := n1_; have BK102 := n2_; have GW102 := n3_; have GE102 := n4_; have NB101_102 := n5_; have NB102_101 := n6_; clear n0_ n1_ n2_ n3_ n4_ n5_ n6_; clear hb hbox hg))
  have n0_ := Aside0.mk (blk_drew BK101.out)
  have n1_ := Aside0.mk (blk_drew BK102.out)
  have n2_ := Aside0.mk (below_drew1 HB.out)
  clear BK101
  clear BK102
  clear HB
  have BK101 := n0_
  have BK102 := n1_
  have HB := n2_
  clear n0_ n1_ n2_
  refine start_ (n := 9) (S := fun w' => w'.cell? ⟨gb101, 0, none⟩ = some (.complex .f64 a0_0.1 a0_0.2) ∧ w'.cell? ⟨gb101, 1, none⟩ = some (.int .i64 a0_1) ∧ w'.cell? ⟨gb101, 2, none⟩ = some (.string a0_2)) (ds := []) #[false, false, false, false, false, false, false, false, false] (by kernel_rfl) rfl rfl ⟨(blk_cell BK101.out 0).trans rfl, (blk_cell BK101.out 1).trans rfl, (blk_cell BK101.out 2).trans rfl⟩ (fun hHeld => ?_); refine with_tabW merkhetref26_Told.tab1 merkhetref26_Told.bits1 (fun HT_ HW_ => ?_)
  generalize w4.drew = w5 at BK101 BK102 HB hHeld ⊢
  refine pure_ (i := 0) (N := some 3) (v := ?_) (a' := ?_) #[true, false, false, false, false, false, false, false, false] rfl rfl (any_of HT_.out (by kernel_rfl)) (fun _ _ _ h => h) (Or.inl ⟨by rfl, ?_⟩) ?_ ?_
  rotate_left
  · intro w'
    go_simp
    with_reducible rfl
  rotate_left
  · simp only [Act.put, List.setIfInBounds_toArray, List.set_cons_zero, List.set_cons_succ, i64_w, i32_w]
    rfl
  refine pure_ (i := 3) (N := some 6) (v := ?_) (a' := ?_) #[true, false, false, true, false, false, false, false, false] rfl rfl (any_of HT_.out (by kernel_rfl)) (fun _ _ _ h => h) (Or.inl ⟨by rfl, ?_⟩) ?_ ?_
  rotate_left
  · intro w'
    go_simp
    with_reducible rfl
  rotate_left
  · simp only [Act.put, List.setIfInBounds_toArray, List.set_cons_zero, List.set_cons_succ, i64_w, i32_w]
    rfl
  refine pure_ (i := 5) (N := some 8) (v := ?_) (a' := ?_) #[true, false, false, true, false, true, false, false, false] rfl rfl (any_of HT_.out (by kernel_rfl)) (fun _ _ _ h => h) (Or.inl ⟨by rfl, ?_⟩) ?_ ?_
  rotate_left
  · intro w'
    go_simp
    with_reducible rfl
  rotate_left
  · simp only [Act.put, List.setIfInBounds_toArray, List.set_cons_zero, List.set_cons_succ, i64_w, i32_w]
    rfl
  refine take_ (i := 1) (N := some 4) (v := ?_) (a' := ?_) #[true, true, false, true, false, true, false, false, false] rfl rfl (take_ofW HT_.out HW_.out (by kernel_rfl)) (fun _ _ _ h => h) (Or.inl ⟨by rfl, ?_⟩) hHeld ?_ ?_
  rotate_left
  · rintro w' ⟨s0, s1, s2⟩
    go_simp
    with_reducible rfl
  rotate_left
  · simp only [Act.put, List.setIfInBounds_toArray, List.set_cons_zero, List.set_cons_succ, i64_w, i32_w]
    rfl
  refine take_ (i := 4) (N := some 7) (v := ?_) (a' := ?_) #[true, true, false, true, true, true, false, false, false] rfl rfl (take_ofW HT_.out HW_.out (by kernel_rfl)) (fun _ _ _ h => h) (Or.inl ⟨by rfl, ?_⟩) hHeld ?_ ?_
  rotate_left
  · rintro w' ⟨s0, s1, s2⟩
    go_simp
    with_reducible rfl
  rotate_left
  · simp only [Act.put, List.setIfInBounds_toArray, List.set_cons_zero, List.set_cons_succ, i64_w, i32_w]
    rfl
  refine take_ (i := 6) (N := some 9) (v := ?_) (a' := ?_) #[true, true, false, true, true, true, true, false, false] rfl rfl (take_ofW HT_.out HW_.out (by kernel_rfl)) (fun _ _ _ h => h) (Or.inl ⟨by rfl, ?_⟩) hHeld ?_ ?_
  rotate_left
  · rintro w' ⟨s0, s1, s2⟩
    go_simp
    with_reducible rfl
  rotate_left
  · simp only [Act.put, List.setIfInBounds_toArray, List.set_cons_zero, List.set_cons_succ, i64_w, i32_w]
    rfl
  refine one_ (i := 2) (N := some 5) #[true, true, true, true, true, true, true, false, false] rfl rfl (one_of HT_.out (by kernel_rfl)) (by decide) (fun K hK => ?_)
  refine goes_ Try.func111 (by kernel_rfl) rfl #[.complex .f64 a0_0.1 a0_0.2] (by rfl) rfl rfl (by (try simp only [List.map_toArray, List.map_cons, List.map_nil]); first | done | rfl | (simp only [List.length_drop, List.length_take]; rfl)) ?_
  with_reducible refine (merkhetref25_Told.calls a0_0 t103 t104 _ A2.out).mono ?_
  rintro e w6 ⟨rfl, hb⟩
  refine ⟨_, rfl, ?_⟩
  have n0_ := Aside0.mk (blk_below (g := gb101) (o := .cells #[.complex .f64 a0_0.1 a0_0.2, .int .i64 a0_1, .string a0_2] 68 (0, 0)) (by (with_reducible repeat (first | refine blk_drewN ?_ _ | refine blk_drew ?_ | refine blk_alloc ?_ _)); exact BK101.out) hb)
  have n1_ := Aside0.mk (blk_below (g := gb102) (o := .cells #[.int .u64 0, .int .u64 0, .int .i64 0, .string (⟨#[]⟩ : ByteArray)] 101 (0, 0)) (by (with_reducible repeat (first | refine blk_drewN ?_ _ | refine blk_drew ?_ | refine blk_alloc ?_ _)); exact BK102.out) hb)
  have n2_ := Aside0.mk (below_step (by repeat (first | (with_reducible first | exact HB.out | apply below_alloc | apply pw_below_drewN | apply below_drew1 | refine below_set ?_ GE101.out | refine below_set ?_ GE102.out) | exact HB.out)) hb)
  clear BK101
  clear BK102
  clear HB
  have BK101 := n0_
  have BK102 := n1_
  have HB := n2_
  clear n0_ n1_ n2_
  (try clear hb)
  (try clear hb2)
  (try clear hk)
  (try clear hi)
  refine hK.out _ _ ⟨(blk_cell BK101.out 0).trans rfl, (blk_cell BK101.out 1).trans rfl, (blk_cell BK101.out 2).trans rfl⟩ (fun hHeld => ?_)
  clear hK K
  refine norm_ (a' := ?_) ?_ ?_
  rotate_left
  · show Act.put _ (some 5) _ = _
    simp only [Act.put, List.setIfInBounds_toArray, List.set_cons_zero, List.set_cons_succ, i64_w, i32_w]
    rfl
  refine pure_ (i := 7) (N := some 10) (v := ?_) (a' := ?_) #[true, true, true, true, true, true, true, true, false] rfl rfl (any_of HT_.out (by kernel_rfl)) (fun _ _ _ h => h) (Or.inl ⟨by rfl, ?_⟩) ?_ ?_
  rotate_left
  · intro w'
    go_simp
    with_reducible rfl
  rotate_left
  · simp only [Act.put, List.setIfInBounds_toArray, List.set_cons_zero, List.set_cons_succ, i64_w, i32_w]
    rfl
  refine one_ (i := 8) (N := none) #[true, true, true, true, true, true, true, true, true] rfl rfl (one_of HT_.out (by kernel_rfl)) (by decide) (fun K hK => ?_)
  have hs7 : w6.cell? ⟨gb102, 0, none⟩ = some (.int .u64 0) := (blk_cell BK102.out 0).trans rfl
  have hfs7 := blk_frozen BK102.out 0
  have hns7_0 := NB101_102.out
  have hms7_0 := NB102_101.out
  have hs8 : w6.cell? ⟨gb102, 1, none⟩ = some (.int .u64 0) := (blk_cell BK102.out 1).trans rfl
  have hfs8 := blk_frozen BK102.out 1
  have hns8_0 := NB101_102.out
  have hms8_0 := NB102_101.out
  have hs9 : w6.cell? ⟨gb102, 2, none⟩ = some (.int .i64 0) := (blk_cell BK102.out 2).trans rfl
  have hfs9 := blk_frozen BK102.out 2
  have hns9_0 := NB101_102.out
  have hms9_0 := NB102_101.out
  have hs10 : w6.cell? ⟨gb102, 3, none⟩ = some (.string (⟨#[]⟩ : ByteArray)) := (blk_cell BK102.out 3).trans rfl
  have hfs10 := blk_frozen BK102.out 3
  have hns10_0 := NB101_102.out
  have hms10_0 := NB102_101.out
  refine skip_ (w1 := ?_) (by rfl) rfl ?_ ?_
  rotate_left
  · go_simp
    rfl
  refine hK.out _ _ ⟨((cell_far (p := ⟨gb102, _, none⟩) NB101_102.out _).trans (((cell_far (p := ⟨gb102, _, none⟩) NB101_102.out _).trans (((cell_far (p := ⟨gb102, _, none⟩) NB101_102.out _).trans (((cell_far (p := ⟨gb102, _, none⟩) NB101_102.out _).trans (hHeld.1)))))))), ((cell_far (p := ⟨gb102, _, none⟩) NB101_102.out _).trans (((cell_far (p := ⟨gb102, _, none⟩) NB101_102.out _).trans (((cell_far (p := ⟨gb102, _, none⟩) NB101_102.out _).trans (((cell_far (p := ⟨gb102, _, none⟩) NB101_102.out _).trans (hHeld.2.1)))))))), ((cell_far (p := ⟨gb102, _, none⟩) NB101_102.out _).trans (((cell_far (p := ⟨gb102, _, none⟩) NB101_102.out _).trans (((cell_far (p := ⟨gb102, _, none⟩) NB101_102.out _).trans (((cell_far (p := ⟨gb102, _, none⟩) NB101_102.out _).trans (hHeld.2.2))))))))⟩ (fun hHeld => ?_)
  clear hK K
  refine done_ (done_of HT_.out (by kernel_rfl)) ?_
  try go_wp2
  refine bodyPost_ret (results_cell_row rfl _ _ gb102 101 #[.int .u64 t103, .int .u64 t104, .int .i64 a0_1, .string a0_2] (0, 0) _ rfl (by (with_reducible repeat (first | refine blk_drewN ?_ _ | refine blk_drew ?_ | refine blk_alloc ?_ _)); refine blk_put (cs := #[.int .u64 t103, .int .u64 t104, .int .i64 a0_1, .string (⟨#[]⟩ : ByteArray)]) ?_ 3 _ rfl; (with_reducible repeat (first | refine blk_drewN ?_ _ | refine blk_drew ?_ | refine blk_alloc ?_ _)); refine blk_put (cs := #[.int .u64 t103, .int .u64 t104, .int .i64 0, .string (⟨#[]⟩ : ByteArray)]) ?_ 2 _ rfl; (with_reducible repeat (first | refine blk_drewN ?_ _ | refine blk_drew ?_ | refine blk_alloc ?_ _)); refine blk_put (cs := #[.int .u64 t103, .int .u64 0, .int .i64 0, .string (⟨#[]⟩ : ByteArray)]) ?_ 1 _ rfl; (with_reducible repeat (first | refine blk_drewN ?_ _ | refine blk_drew ?_ | refine blk_alloc ?_ _)); refine blk_put (cs := #[.int .u64 0, .int .u64 0, .int .i64 0, .string (⟨#[]⟩ : ByteArray)]) ?_ 0 _ rfl; (with_reducible repeat (first | refine blk_drewN ?_ _ | refine blk_drew ?_ | refine blk_alloc ?_ _)); exact BK102.out) Try.underlying101 rfl (by kernel_rfl)) rfl ?_
  exact ⟨by first | rfl | (simp [errW_none, errW_some] <;> rfl) | (simp [*, errW_none, errW_some] <;> rfl), by repeat (first | (with_reducible first | exact HB.out | apply below_alloc | apply pw_below_drewN | apply below_drew1 | refine below_set ?_ GE101.out | refine below_set ?_ GE102.out) | exact HB.out)⟩

/-! ### merkhetref26_Same: function 27 -/
def merkhetref26_Same.l0 : Nat → List (S68) → List (S101) → Int → Option (Bool)
  | 0, _, _, _ => none
  | k + 1, x0, x1, x5 => if x5 < (x0.length : Int) then (if 0 ≤ x5 then ((merkhetref26_Told.f ((rd_T68 x0 x5).f0) ((rd_T68 x0 x5).f1) ((rd_T68 x0 x5).f2)).bind fun bt106 => (if x5 < (x1.length : Int) then (if ((!(bt106.1 == ((rd_T101 x1 x5).f0.f0)) || (!(bt106.2.1 == ((rd_T101 x1 x5).f0.f1)))) || (!(bt106.2.2.1 == ((rd_T101 x1 x5).f1)) || (!(bt106.2.2.2.toList == (((rd_T101 x1 x5).f2).toList))))) = true then (some false) else (merkhetref26_Same.l0 k x0 x1 (wrap64 (x5 + 1)))) else (none))) else (none)) else (some true)
def merkhetref26_Same.f (k : Nat) (l0 : List (S68)) (l1 : List (S101)) : Option (Bool) := if (l0.length : Int) = (l1.length : Int) then (merkhetref26_Same.l0 k l0 l1 0) else (some false)
theorem merkhetref26_Same.mono_l : ∀ k, (∀ y0 y1 y2, LeO (merkhetref26_Same.l0 k y0 y1 y2) (merkhetref26_Same.l0 (k + 1) y0 y1 y2))
  | 0 => fun _ _ _ r h => by simp [merkhetref26_Same.l0] at h
  | k + 1 => by
    have ih0 := merkhetref26_Same.mono_l k
    · intro y0 y1 y2
      unfold merkhetref26_Same.l0
      repeat' first
      | (with_reducible exact ih0 _ _ _)
      | (with_reducible exact LeO.refl _)
      | (with_reducible exact LeO.none _)
      | (with_reducible refine LeO.ite ?_ ?_)
      | (with_reducible refine LeO.bind ?_ (fun _ => ?_))
      | exact ih0 _ _ _
      | exact LeO.none _
      | refine LeO.ite ?_ ?_
      | refine LeO.bind ?_ (fun _ => ?_)
theorem merkhetref26_Same.mono : ∀ a0 a1 k, LeO (merkhetref26_Same.f k a0 a1) (merkhetref26_Same.f (k + 1) a0 a1) := by
  intro a0 a1 k
  have ih0 := merkhetref26_Same.mono_l k
  unfold merkhetref26_Same.f
  repeat' first
      | (with_reducible exact ih0 _ _ _)
      | (with_reducible exact LeO.refl _)
      | (with_reducible exact LeO.none _)
      | (with_reducible refine LeO.ite ?_ ?_)
      | (with_reducible refine LeO.bind ?_ (fun _ => ?_))
      | exact ih0 _ _ _
      | exact LeO.none _
      | refine LeO.ite ?_ ?_
      | refine LeO.bind ?_ (fun _ => ?_)
def merkhetref26_Same.T6 : Bool × List (List Nat × List Nat) := (true, [([], []), ([], []), ([0, 1], [0, 1]), ([2], [2]), ([3], [3]), ([], []), ([], []), ([5, 6], [5, 6]), ([7], [7]), ([4, 8], [4, 8])])
def merkhetref26_Same.B6 : List Nat := [0, 0, 3, 7, 15, 0, 0, 96, 224, 511]
theorem merkhetref26_Same.tab6 : rtab .any (opsOf Try.f27 6) = merkhetref26_Same.T6 := by kernel_rfl
theorem merkhetref26_Same.bits6 : waitsOk merkhetref26_Same.T6.2 merkhetref26_Same.B6 = true := by kernel_rfl
set_option maxHeartbeats 8000000 in
set_option maxRecDepth 100000 in
theorem merkhetref26_Same.calls (k : Nat) (A0 : Option Addr) (c0 : Nat) (l0 : List (S68)) (A1 : Option Addr) (c1 : Nat) (l1 : List (S101)) (r : Bool) (w : World) (hr0 : Kd.C k68 w A0 l0.length l0) (hc0 : l0.length ≤ c0) (hr1 : Kd.C k101 w A1 l1.length l1) (hc1 : l1.length ≤ c1) (h : merkhetref26_Same.f k l0 l1 = some r) :
    Calls Try.prog 27 #[.slice A0 l0.length c0, .slice A1 l1.length c1] w fun e w' => e = .returned (.bool r) ∧ Below w.heap.size w w' := by
  have hu68 := Try.underlying68
  have hu101 := Try.underlying101
  have HR0 := Aside0.mk hr0
  have HC0 := Aside0.mk hc0
  clear hr0 hc0
  have HR1 := Aside0.mk hr1
  have HC1 := Aside0.mk hc1
  clear hr1 hc1
  have HB := Aside0.mk (Below.refl w.heap.size w)
  have H : (if (l0.length : Int) = (l1.length : Int) then (merkhetref26_Same.l0 k l0 l1 0) else (some false)) = some r := h
  clear h
  by_cases c3 : (l0.length : Int) = (l1.length : Int)
  · rw [if_pos c3] at H
    have c3b0 : ((l0.length : Int) == (l1.length : Int)) = true := beq_iff_eq.mpr c3
    have c3b1 : ((l0.length : Int) != (l1.length : Int)) = false := bne_eq_false_iff_eq.mpr c3
    have c3b2 : (l0.length == l1.length) = true := by first | simpa using c3 | (simp at c3 ⊢; omega)
    clear c3
    have H' := Aside0.mk H
    clear H
    go_enter Try.func27, Try.ntmps27
    go_wp2
    go_loopg [5] k (fun kq v5 w' => ∃ (x5_1 : Int), v5 = .int .i64 x5_1 ∧ Aside0 (merkhetref26_Same.l0 kq l0 l1 x5_1 = some r) ∧ Aside0 (kq ≤ k) ∧ Aside0 (Below w.heap.size w w'))
    case atStart => exact ⟨(0), (by first | rfl | (simp; done) | (simp [*]; done)), H', ⟨Nat.le_refl _⟩, ⟨by repeat (first | (with_reducible first | exact HB.out | apply below_alloc | apply pw_below_drewN | apply below_drew1) | exact HB.out)⟩⟩
    case round =>
      clear H'
      (try clear c1); (try clear c2); (try clear p2); (try clear c3); (try clear c3b0); (try clear c3b1); (try clear c3b2)
      obtain ⟨x5_1, rfl, HA, HK1, HB⟩ := hrel
      cases gk with
      | zero => exact absurd HA.out (by simp [merkhetref26_Same.l0])
      | succ k1 =>
        have H := HA.out
        clear HA
        simp only [merkhetref26_Same.l0] at H
        by_cases c4 : x5_1 < (l0.length : Int)
        · rw [if_pos c4] at H
          have c4b0 : decide (x5_1 < (l0.length : Int)) = true := decide_eq_true c4
          clear c4
          by_cases c5 : 0 ≤ x5_1
          · rw [if_pos c5] at H
            have c5b0 : decide (0 ≤ x5_1) = true := decide_eq_true c5
            clear c5
            replace H := Option.bind_eq_some_iff.mp H
            obtain ⟨⟨t106, t107, t108, t109⟩, A60, H⟩ := H
            replace H : (if x5_1 < (l1.length : Int) then (if ((!(t106 == ((rd_T101 l1 x5_1).f0.f0)) || (!(t107 == ((rd_T101 l1 x5_1).f0.f1)))) || (!(t108 == ((rd_T101 l1 x5_1).f1)) || (!(t109.toList == (((rd_T101 l1 x5_1).f2).toList))))) = true then (some false) else (merkhetref26_Same.l0 k1 l0 l1 (wrap64 (x5_1 + 1)))) else (none)) = some r := H
            have A6 := Aside0.mk A60
            clear A60
            by_cases c7 : x5_1 < (l1.length : Int)
            · rw [if_pos c7] at H
              have c7b0 : decide (x5_1 < (l1.length : Int)) = true := decide_eq_true c7
              clear c7
              by_cases c8 : ((!(t106 == ((rd_T101 l1 x5_1).f0.f0)) || (!(t107 == ((rd_T101 l1 x5_1).f0.f1)))) || (!(t108 == ((rd_T101 l1 x5_1).f1)) || (!(t109.toList == (((rd_T101 l1 x5_1).f2).toList))))) = true
              · rw [if_pos c8] at H
                have c8b0 : ((!(t106 == ((rd_T101 l1 x5_1).f0.f0)) || (!(t107 == ((rd_T101 l1 x5_1).f0.f1)))) || (!(t108 == ((rd_T101 l1 x5_1).f1)) || (!(t109.toList == (((rd_T101 l1 x5_1).f2).toList))))) = true := c8
                clear c8
                obtain rfl := Option.some.inj H
                try go_wp2
                have n0_ := Aside0.mk (below_drew1 HB.out)
                clear HB
                have HB := n0_
                clear n0_
                have p105 : 0 ≤ (x5_1 : Int) := of_decide_eq_true (by first | (with_reducible assumption) | assumption)
                have q105 : x5_1 < (l0.length : Int) := of_decide_eq_true (by first | (with_reducible assumption) | assumption)
                obtain ⟨ad105, e105, hx105_0, hx105_1, hx105_2⟩ := at_T68 HR0.out x5_1 p105 q105
                have hw105_2 := hx105_2
                have hw105_1 := hx105_1
                have hw105_0 := hx105_0
                cases e105
                replace hx105_0 := (HB.out.cell (World.block_lt_of_cell? w _ hx105_0)).trans hx105_0
                replace hx105_1 := (HB.out.cell (World.block_lt_of_cell? w _ hx105_1)).trans hx105_1
                replace hx105_2 := (HB.out.cell (World.block_lt_of_cell? w _ hx105_2)).trans hx105_2
                replace p105 := eq_true p105
                replace q105 := eq_true q105
                have p110 : 0 ≤ (x5_1 : Int) := of_decide_eq_true (by first | (with_reducible assumption) | assumption)
                have q110 : x5_1 < (l1.length : Int) := of_decide_eq_true (by first | (with_reducible assumption) | assumption)
                obtain ⟨ad110, e110, hx110_0, hx110_1, hx110_2, hx110_3⟩ := at_T101 HR1.out x5_1 p110 q110
                have hw110_3 := hx110_3
                have hw110_2 := hx110_2
                have hw110_1 := hx110_1
                have hw110_0 := hx110_0
                cases e110
                replace hx110_0 := (HB.out.cell (World.block_lt_of_cell? w _ hx110_0)).trans hx110_0
                replace hx110_1 := (HB.out.cell (World.block_lt_of_cell? w _ hx110_1)).trans hx110_1
                replace hx110_2 := (HB.out.cell (World.block_lt_of_cell? w _ hx110_2)).trans hx110_2
                replace hx110_3 := (HB.out.cell (World.block_lt_of_cell? w _ hx110_3)).trans hx110_3
                replace p110 := eq_true p110
                replace q110 := eq_true q110
                refine start_ (n := 10) (S := fun w' => w'.cell? (ad105.add ((x5_1).toNat * 3)) = some (.complex .f64 ((rd_T68 l0 x5_1).f0).1 ((rd_T68 l0 x5_1).f0).2) ∧ w'.cell? ⟨(ad105.add ((x5_1).toNat * 3)).block, (ad105.add ((x5_1).toNat * 3)).off + 1, none⟩ = some (.int .i64 ((rd_T68 l0 x5_1).f1)) ∧ w'.cell? ⟨(ad105.add ((x5_1).toNat * 3)).block, (ad105.add ((x5_1).toNat * 3)).off + 2, none⟩ = some (.string ((rd_T68 l0 x5_1).f2)) ∧ w'.cell? (ad110.add ((x5_1).toNat * 4)) = some (.int .u64 ((rd_T101 l1 x5_1).f0.f0)) ∧ w'.cell? ⟨(ad110.add ((x5_1).toNat * 4)).block, (ad110.add ((x5_1).toNat * 4)).off + 1, none⟩ = some (.int .u64 ((rd_T101 l1 x5_1).f0.f1)) ∧ w'.cell? ⟨(ad110.add ((x5_1).toNat * 4)).block, (ad110.add ((x5_1).toNat * 4)).off + 2, none⟩ = some (.int .i64 ((rd_T101 l1 x5_1).f1)) ∧ w'.cell? ⟨(ad110.add ((x5_1).toNat * 4)).block, (ad110.add ((x5_1).toNat * 4)).off + 3, none⟩ = some (.string ((rd_T101 l1 x5_1).f2))) (ds := []) #[false, false, false, false, false, false, false, false, false, false] (by kernel_rfl) rfl rfl ⟨((HB.out.cell (World.block_lt_of_cell? w _ hw105_0)).trans hw105_0), ((HB.out.cell (World.block_lt_of_cell? w _ hw105_1)).trans hw105_1), ((HB.out.cell (World.block_lt_of_cell? w _ hw105_2)).trans hw105_2), ((HB.out.cell (World.block_lt_of_cell? w _ hw110_0)).trans hw110_0), ((HB.out.cell (World.block_lt_of_cell? w _ hw110_1)).trans hw110_1), ((HB.out.cell (World.block_lt_of_cell? w _ hw110_2)).trans hw110_2), ((HB.out.cell (World.block_lt_of_cell? w _ hw110_3)).trans hw110_3)⟩ (fun hHeld => ?_); refine with_tabW merkhetref26_Same.tab6 merkhetref26_Same.bits6 (fun HT_ HW_ => ?_)
                generalize wr.drew = w9 at HB hx105_0 hx105_1 hx105_2 hx110_0 hx110_1 hx110_2 hx110_3 hHeld ⊢
                refine pure_ (i := 0) (N := some 17) (v := ?_) (a' := ?_) #[true, false, false, false, false, false, false, false, false, false] rfl rfl (any_of HT_.out (by kernel_rfl)) (fun _ _ _ h => h) (Or.inl ⟨by rfl, ?_⟩) ?_ ?_
                rotate_left
                · intro w'
                  go_simp
                  with_reducible rfl
                rotate_left
                · simp only [Act.put, List.setIfInBounds_toArray, List.set_cons_zero, List.set_cons_succ, i64_w, i32_w]
                  rfl
                refine pure_ (i := 1) (N := some 18) (v := ?_) (a' := ?_) #[true, true, false, false, false, false, false, false, false, false] rfl rfl (any_of HT_.out (by kernel_rfl)) (fun _ _ _ h => h) (Or.inl ⟨by rfl, ?_⟩) ?_ ?_
                rotate_left
                · intro w'
                  go_simp
                  with_reducible rfl
                rotate_left
                · simp only [Act.put, List.setIfInBounds_toArray, List.set_cons_zero, List.set_cons_succ, i64_w, i32_w]
                  rfl
                refine pure_ (i := 2) (N := some 19) (v := ?_) (a' := ?_) #[true, true, true, false, false, false, false, false, false, false] rfl rfl (any_of HT_.out (by kernel_rfl)) (fun _ _ _ h => h) (Or.inl ⟨by rfl, ?_⟩) ?_ ?_
                rotate_left
                · intro w'
                  go_simp
                  with_reducible rfl
                rotate_left
                · simp only [Act.put, List.setIfInBounds_toArray, List.set_cons_zero, List.set_cons_succ, i64_w, i32_w]
                  rfl
                refine pure_ (i := 5) (N := some 22) (v := ?_) (a' := ?_) #[true, true, true, false, false, true, false, false, false, false] rfl rfl (any_of HT_.out (by kernel_rfl)) (fun _ _ _ h => h) (Or.inl ⟨by rfl, ?_⟩) ?_ ?_
                rotate_left
                · intro w'
                  go_simp
                  with_reducible rfl
                rotate_left
                · simp only [Act.put, List.setIfInBounds_toArray, List.set_cons_zero, List.set_cons_succ, i64_w, i32_w]
                  rfl
                refine pure_ (i := 6) (N := some 23) (v := ?_) (a' := ?_) #[true, true, true, false, false, true, true, false, false, false] rfl rfl (any_of HT_.out (by kernel_rfl)) (fun _ _ _ h => h) (Or.inl ⟨by rfl, ?_⟩) ?_ ?_
                rotate_left
                · intro w'
                  go_simp
                  with_reducible rfl
                rotate_left
                · simp only [Act.put, List.setIfInBounds_toArray, List.set_cons_zero, List.set_cons_succ, i64_w, i32_w]
                  rfl
                refine pure_ (i := 7) (N := some 24) (v := ?_) (a' := ?_) #[true, true, true, false, false, true, true, true, false, false] rfl rfl (any_of HT_.out (by kernel_rfl)) (fun _ _ _ h => h) (Or.inl ⟨by rfl, ?_⟩) ?_ ?_
                rotate_left
                · intro w'
                  go_simp
                  with_reducible rfl
                rotate_left
                · simp only [Act.put, List.setIfInBounds_toArray, List.set_cons_zero, List.set_cons_succ, i64_w, i32_w]
                  rfl
                refine take_ (i := 3) (N := some 20) (v := ?_) (a' := ?_) #[true, true, true, true, false, true, true, true, false, false] rfl rfl (take_ofW HT_.out HW_.out (by kernel_rfl)) (fun _ _ _ h => h) (Or.inl ⟨by rfl, ?_⟩) hHeld ?_ ?_
                rotate_left
                · rintro w' ⟨s0, s1, s2, s3, s4, s5, s6⟩
                  go_simp
                  with_reducible rfl
                rotate_left
                · simp only [Act.put, List.setIfInBounds_toArray, List.set_cons_zero, List.set_cons_succ, i64_w, i32_w]
                  rfl
                refine take_ (i := 8) (N := some 25) (v := ?_) (a' := ?_) #[true, true, true, true, false, true, true, true, true, false] rfl rfl (take_ofW HT_.out HW_.out (by kernel_rfl)) (fun _ _ _ h => h) (Or.inl ⟨by rfl, ?_⟩) hHeld ?_ ?_
                rotate_left
                · rintro w' ⟨s0, s1, s2, s3, s4, s5, s6⟩
                  go_simp
                  with_reducible rfl
                rotate_left
                · simp only [Act.put, List.setIfInBounds_toArray, List.set_cons_zero, List.set_cons_succ, i64_w, i32_w]
                  rfl
                refine one_ (i := 4) (N := some 21) #[true, true, true, true, true, true, true, true, true, false] rfl rfl (one_of HT_.out (by kernel_rfl)) (by decide) (fun K hK => ?_)
                refine goes_ Try.func60 (by kernel_rfl) rfl #[.agg #[.complex .f64 ((rd_T68 l0 x5_1).f0).1 ((rd_T68 l0 x5_1).f0).2, .int .i64 ((rd_T68 l0 x5_1).f1), .string ((rd_T68 l0 x5_1).f2)]] (by rfl) rfl rfl (by (try simp only [List.map_toArray, List.map_cons, List.map_nil]); first | done | rfl | (simp only [List.length_drop, List.length_take]; rfl)) ?_
                with_reducible refine (merkhetref26_Told.calls ((rd_T68 l0 x5_1).f0) ((rd_T68 l0 x5_1).f1) ((rd_T68 l0 x5_1).f2) t106 t107 t108 t109 _ A6.out).mono ?_
                rintro e w10 ⟨rfl, hb⟩
                refine ⟨_, rfl, ?_⟩
                have n0_ := Aside0.mk (below_step (by repeat (first | (with_reducible first | exact HB.out | apply below_alloc | apply pw_below_drewN | apply below_drew1) | exact HB.out)) hb)
                clear HB
                have HB := n0_
                clear n0_
                (try clear hb)
                (try clear hb2)
                (try clear hk)
                (try clear hi)
                refine hK.out _ _ ⟨((HB.out.cell (World.block_lt_of_cell? w _ hw105_0)).trans hw105_0), ((HB.out.cell (World.block_lt_of_cell? w _ hw105_1)).trans hw105_1), ((HB.out.cell (World.block_lt_of_cell? w _ hw105_2)).trans hw105_2), ((HB.out.cell (World.block_lt_of_cell? w _ hw110_0)).trans hw110_0), ((HB.out.cell (World.block_lt_of_cell? w _ hw110_1)).trans hw110_1), ((HB.out.cell (World.block_lt_of_cell? w _ hw110_2)).trans hw110_2), ((HB.out.cell (World.block_lt_of_cell? w _ hw110_3)).trans hw110_3)⟩ (fun hHeld => ?_)
                clear hK K
                refine norm_ (a' := ?_) ?_ ?_
                rotate_left
                · show Act.put _ (some 21) _ = _
                  simp only [Act.put, List.setIfInBounds_toArray, List.set_cons_zero, List.set_cons_succ, i64_w, i32_w]
                  rfl
                refine pure_ (i := 9) (N := some 26) (v := ?_) (a' := ?_) #[true, true, true, true, true, true, true, true, true, true] rfl rfl (any_of HT_.out (by kernel_rfl)) (fun _ _ _ h => h) (Or.inl ⟨by rfl, ?_⟩) ?_ ?_
                rotate_left
                · intro w'
                  go_simp
                  with_reducible rfl
                rotate_left
                · simp only [Act.put, List.setIfInBounds_toArray, List.set_cons_zero, List.set_cons_succ, i64_w, i32_w]
                  rfl
                refine done_ (done_of HT_.out (by kernel_rfl)) ?_
                try go_wp2
                go_ret
                exact ⟨by first | rfl | (simp [errW_none, errW_some] <;> rfl) | (simp [*, errW_none, errW_some] <;> rfl), by repeat (first | (with_reducible first | exact HB.out | apply below_alloc | apply pw_below_drewN | apply below_drew1) | exact HB.out)⟩
              · rw [if_neg c8] at H
                have c8b0 : ((!(t106 == ((rd_T101 l1 x5_1).f0.f0)) || (!(t107 == ((rd_T101 l1 x5_1).f0.f1)))) || (!(t108 == ((rd_T101 l1 x5_1).f1)) || (!(t109.toList == (((rd_T101 l1 x5_1).f2).toList))))) = false := by simpa using c8
                clear c8
                have H' := Aside0.mk H
                clear H
                try go_wp2
                have n0_ := Aside0.mk (below_drew1 HB.out)
                clear HB
                have HB := n0_
                clear n0_
                have p105 : 0 ≤ (x5_1 : Int) := of_decide_eq_true (by first | (with_reducible assumption) | assumption)
                have q105 : x5_1 < (l0.length : Int) := of_decide_eq_true (by first | (with_reducible assumption) | assumption)
                obtain ⟨ad105, e105, hx105_0, hx105_1, hx105_2⟩ := at_T68 HR0.out x5_1 p105 q105
                have hw105_2 := hx105_2
                have hw105_1 := hx105_1
                have hw105_0 := hx105_0
                cases e105
                replace hx105_0 := (HB.out.cell (World.block_lt_of_cell? w _ hx105_0)).trans hx105_0
                replace hx105_1 := (HB.out.cell (World.block_lt_of_cell? w _ hx105_1)).trans hx105_1
                replace hx105_2 := (HB.out.cell (World.block_lt_of_cell? w _ hx105_2)).trans hx105_2
                replace p105 := eq_true p105
                replace q105 := eq_true q105
                have p110 : 0 ≤ (x5_1 : Int) := of_decide_eq_true (by first | (with_reducible assumption) | assumption)
                have q110 : x5_1 < (l1.length : Int) := of_decide_eq_true (by first | (with_reducible assumption) | assumption)
                obtain ⟨ad110, e110, hx110_0, hx110_1, hx110_2, hx110_3⟩ := at_T101 HR1.out x5_1 p110 q110
                have hw110_3 := hx110_3
                have hw110_2 := hx110_2
                have hw110_1 := hx110_1
                have hw110_0 := hx110_0
                cases e110
                replace hx110_0 := (HB.out.cell (World.block_lt_of_cell? w _ hx110_0)).trans hx110_0
                replace hx110_1 := (HB.out.cell (World.block_lt_of_cell? w _ hx110_1)).trans hx110_1
                replace hx110_2 := (HB.out.cell (World.block_lt_of_cell? w _ hx110_2)).trans hx110_2
                replace hx110_3 := (HB.out.cell (World.block_lt_of_cell? w _ hx110_3)).trans hx110_3
                replace p110 := eq_true p110
                replace q110 := eq_true q110
                refine start_ (n := 10) (S := fun w' => w'.cell? (ad105.add ((x5_1).toNat * 3)) = some (.complex .f64 ((rd_T68 l0 x5_1).f0).1 ((rd_T68 l0 x5_1).f0).2) ∧ w'.cell? ⟨(ad105.add ((x5_1).toNat * 3)).block, (ad105.add ((x5_1).toNat * 3)).off + 1, none⟩ = some (.int .i64 ((rd_T68 l0 x5_1).f1)) ∧ w'.cell? ⟨(ad105.add ((x5_1).toNat * 3)).block, (ad105.add ((x5_1).toNat * 3)).off + 2, none⟩ = some (.string ((rd_T68 l0 x5_1).f2)) ∧ w'.cell? (ad110.add ((x5_1).toNat * 4)) = some (.int .u64 ((rd_T101 l1 x5_1).f0.f0)) ∧ w'.cell? ⟨(ad110.add ((x5_1).toNat * 4)).block, (ad110.add ((x5_1).toNat * 4)).off + 1, none⟩ = some (.int .u64 ((rd_T101 l1 x5_1).f0.f1)) ∧ w'.cell? ⟨(ad110.add ((x5_1).toNat * 4)).block, (ad110.add ((x5_1).toNat * 4)).off + 2, none⟩ = some (.int .i64 ((rd_T101 l1 x5_1).f1)) ∧ w'.cell? ⟨(ad110.add ((x5_1).toNat * 4)).block, (ad110.add ((x5_1).toNat * 4)).off + 3, none⟩ = some (.string ((rd_T101 l1 x5_1).f2))) (ds := []) #[false, false, false, false, false, false, false, false, false, false] (by kernel_rfl) rfl rfl ⟨((HB.out.cell (World.block_lt_of_cell? w _ hw105_0)).trans hw105_0), ((HB.out.cell (World.block_lt_of_cell? w _ hw105_1)).trans hw105_1), ((HB.out.cell (World.block_lt_of_cell? w _ hw105_2)).trans hw105_2), ((HB.out.cell (World.block_lt_of_cell? w _ hw110_0)).trans hw110_0), ((HB.out.cell (World.block_lt_of_cell? w _ hw110_1)).trans hw110_1), ((HB.out.cell (World.block_lt_of_cell? w _ hw110_2)).trans hw110_2), ((HB.out.cell (World.block_lt_of_cell? w _ hw110_3)).trans hw110_3)⟩ (fun hHeld => ?_); refine with_tabW merkhetref26_Same.tab6 merkhetref26_Same.bits6 (fun HT_ HW_ => ?_)
                generalize wr.drew = w11 at HB hx105_0 hx105_1 hx105_2 hx110_0 hx110_1 hx110_2 hx110_3 hHeld ⊢
                refine pure_ (i := 0) (N := some 17) (v := ?_) (a' := ?_) #[true, false, false, false, false, false, false, false, false, false] rfl rfl (any_of HT_.out (by kernel_rfl)) (fun _ _ _ h => h) (Or.inl ⟨by rfl, ?_⟩) ?_ ?_
                rotate_left
                · intro w'
                  go_simp
                  with_reducible rfl
                rotate_left
                · simp only [Act.put, List.setIfInBounds_toArray, List.set_cons_zero, List.set_cons_succ, i64_w, i32_w]
                  rfl
                refine pure_ (i := 1) (N := some 18) (v := ?_) (a' := ?_) #[true, true, false, false, false, false, false, false, false, false] rfl rfl (any_of HT_.out (by kernel_rfl)) (fun _ _ _ h => h) (Or.inl ⟨by rfl, ?_⟩) ?_ ?_
                rotate_left
                · intro w'
                  go_simp
                  with_reducible rfl
                rotate_left
                · simp only [Act.put, List.setIfInBounds_toArray, List.set_cons_zero, List.set_cons_succ, i64_w, i32_w]
                  rfl
                refine pure_ (i := 2) (N := some 19) (v := ?_) (a' := ?_) #[true, true, true, false, false, false, false, false, false, false] rfl rfl (any_of HT_.out (by kernel_rfl)) (fun _ _ _ h => h) (Or.inl ⟨by rfl, ?_⟩) ?_ ?_
                rotate_left
                · intro w'
                  go_simp
                  with_reducible rfl
                rotate_left
                · simp only [Act.put, List.setIfInBounds_toArray, List.set_cons_zero, List.set_cons_succ, i64_w, i32_w]
                  rfl
                refine pure_ (i := 5) (N := some 22) (v := ?_) (a' := ?_) #[true, true, true, false, false, true, false, false, false, false] rfl rfl (any_of HT_.out (by kernel_rfl)) (fun _ _ _ h => h) (Or.inl ⟨by rfl, ?_⟩) ?_ ?_
                rotate_left
                · intro w'
                  go_simp
                  with_reducible rfl
                rotate_left
                · simp only [Act.put, List.setIfInBounds_toArray, List.set_cons_zero, List.set_cons_succ, i64_w, i32_w]
                  rfl
                refine pure_ (i := 6) (N := some 23) (v := ?_) (a' := ?_) #[true, true, true, false, false, true, true, false, false, false] rfl rfl (any_of HT_.out (by kernel_rfl)) (fun _ _ _ h => h) (Or.inl ⟨by rfl, ?_⟩) ?_ ?_
                rotate_left
                · intro w'
                  go_simp
                  with_reducible rfl
                rotate_left
                · simp only [Act.put, List.setIfInBounds_toArray, List.set_cons_zero, List.set_cons_succ, i64_w, i32_w]
                  rfl
                refine pure_ (i := 7) (N := some 24) (v := ?_) (a' := ?_) #[true, true, true, false, false, true, true, true, false, false] rfl rfl (any_of HT_.out (by kernel_rfl)) (fun _ _ _ h => h) (Or.inl ⟨by rfl, ?_⟩) ?_ ?_
                rotate_left
                · intro w'
                  go_simp
                  with_reducible rfl
                rotate_left
                · simp only [Act.put, List.setIfInBounds_toArray, List.set_cons_zero, List.set_cons_succ, i64_w, i32_w]
                  rfl
                refine take_ (i := 3) (N := some 20) (v := ?_) (a' := ?_) #[true, true, true, true, false, true, true, true, false, false] rfl rfl (take_ofW HT_.out HW_.out (by kernel_rfl)) (fun _ _ _ h => h) (Or.inl ⟨by rfl, ?_⟩) hHeld ?_ ?_
                rotate_left
                · rintro w' ⟨s0, s1, s2, s3, s4, s5, s6⟩
                  go_simp
                  with_reducible rfl
                rotate_left
                · simp only [Act.put, List.setIfInBounds_toArray, List.set_cons_zero, List.set_cons_succ, i64_w, i32_w]
                  rfl
                refine take_ (i := 8) (N := some 25) (v := ?_) (a' := ?_) #[true, true, true, true, false, true, true, true, true, false] rfl rfl (take_ofW HT_.out HW_.out (by kernel_rfl)) (fun _ _ _ h => h) (Or.inl ⟨by rfl, ?_⟩) hHeld ?_ ?_
                rotate_left
                · rintro w' ⟨s0, s1, s2, s3, s4, s5, s6⟩
                  go_simp
                  with_reducible rfl
                rotate_left
                · simp only [Act.put, List.setIfInBounds_toArray, List.set_cons_zero, List.set_cons_succ, i64_w, i32_w]
                  rfl
                refine one_ (i := 4) (N := some 21) #[true, true, true, true, true, true, true, true, true, false] rfl rfl (one_of HT_.out (by kernel_rfl)) (by decide) (fun K hK => ?_)
                refine goes_ Try.func60 (by kernel_rfl) rfl #[.agg #[.complex .f64 ((rd_T68 l0 x5_1).f0).1 ((rd_T68 l0 x5_1).f0).2, .int .i64 ((rd_T68 l0 x5_1).f1), .string ((rd_T68 l0 x5_1).f2)]] (by rfl) rfl rfl (by (try simp only [List.map_toArray, List.map_cons, List.map_nil]); first | done | rfl | (simp only [List.length_drop, List.length_take]; rfl)) ?_
                with_reducible refine (merkhetref26_Told.calls ((rd_T68 l0 x5_1).f0) ((rd_T68 l0 x5_1).f1) ((rd_T68 l0 x5_1).f2) t106 t107 t108 t109 _ A6.out).mono ?_
                rintro e w12 ⟨rfl, hb⟩
                refine ⟨_, rfl, ?_⟩
                have n0_ := Aside0.mk (below_step (by repeat (first | (with_reducible first | exact HB.out | apply below_alloc | apply pw_below_drewN | apply below_drew1) | exact HB.out)) hb)
                clear HB
                have HB := n0_
                clear n0_
                (try clear hb)
                (try clear hb2)
                (try clear hk)
                (try clear hi)
                refine hK.out _ _ ⟨((HB.out.cell (World.block_lt_of_cell? w _ hw105_0)).trans hw105_0), ((HB.out.cell (World.block_lt_of_cell? w _ hw105_1)).trans hw105_1), ((HB.out.cell (World.block_lt_of_cell? w _ hw105_2)).trans hw105_2), ((HB.out.cell (World.block_lt_of_cell? w _ hw110_0)).trans hw110_0), ((HB.out.cell (World.block_lt_of_cell? w _ hw110_1)).trans hw110_1), ((HB.out.cell (World.block_lt_of_cell? w _ hw110_2)).trans hw110_2), ((HB.out.cell (World.block_lt_of_cell? w _ hw110_3)).trans hw110_3)⟩ (fun hHeld => ?_)
                clear hK K
                refine norm_ (a' := ?_) ?_ ?_
                rotate_left
                · show Act.put _ (some 21) _ = _
                  simp only [Act.put, List.setIfInBounds_toArray, List.set_cons_zero, List.set_cons_succ, i64_w, i32_w]
                  rfl
                refine pure_ (i := 9) (N := some 26) (v := ?_) (a' := ?_) #[true, true, true, true, true, true, true, true, true, true] rfl rfl (any_of HT_.out (by kernel_rfl)) (fun _ _ _ h => h) (Or.inl ⟨by rfl, ?_⟩) ?_ ?_
                rotate_left
                · intro w'
                  go_simp
                  with_reducible rfl
                rotate_left
                · simp only [Act.put, List.setIfInBounds_toArray, List.set_cons_zero, List.set_cons_succ, i64_w, i32_w]
                  rfl
                refine done_ (done_of HT_.out (by kernel_rfl)) ?_
                try go_wp2
                go_roundg k1
                case measure => have := HK1.out; omega
                case rel => exact ⟨(wrap64 (x5_1 + 1)), (by first | rfl | (simp; done) | (simp [*]; done)), H', ⟨by have := HK1.out; omega⟩, ⟨by repeat (first | (with_reducible first | exact HB.out | apply below_alloc | apply pw_below_drewN | apply below_drew1) | exact HB.out)⟩⟩
            · rw [if_neg c7] at H
              exact absurd H (by simp)
          · rw [if_neg c5] at H
            exact absurd H (by simp)
        · rw [if_neg c4] at H
          have c4b0 : decide (x5_1 < (l0.length : Int)) = false := decide_eq_false c4
          clear c4
          obtain rfl := Option.some.inj H
          go_wp2
          go_ret
          exact ⟨by first | rfl | (simp [errW_none, errW_some] <;> rfl) | (simp [*, errW_none, errW_some] <;> rfl), by repeat (first | (with_reducible first | exact HB.out | apply below_alloc | apply pw_below_drewN | apply below_drew1) | exact HB.out)⟩
  · rw [if_neg c3] at H
    have c3b0 : ((l0.length : Int) == (l1.length : Int)) = false := beq_eq_false_iff_ne.mpr c3
    have c3b1 : ((l0.length : Int) != (l1.length : Int)) = true := bne_iff_ne.mpr c3
    have c3b2 : (l0.length == l1.length) = false := by first | simpa using c3 | (simp at c3 ⊢; omega)
    obtain rfl := Option.some.inj H
    go_enter Try.func27, Try.ntmps27
    go_wp2
    go_ret
    exact ⟨by first | rfl | (simp [errW_none, errW_some] <;> rfl) | (simp [*, errW_none, errW_some] <;> rfl), by repeat (first | (with_reducible first | exact HB.out | apply below_alloc | apply pw_below_drewN | apply below_drew1) | exact HB.out)⟩

/-! ### merkhetref25_Point: function 59 (given) -/
def merkhetref25_Point.f (a0 : Int) (a1 : Int) : Option (Int × Int × Bool) := if True then some (((Pl.pointV a0 a1).1 : Int), ((Pl.pointV a0 a1).2.1 : Int), (Pl.pointV a0 a1).2.2) else none
theorem merkhetref25_Point.calls (a0 : Int) (a1 : Int) (r1 : Int) (r2 : Int) (r3 : Bool) (w : World) (h : merkhetref25_Point.f a0 a1 = some (r1, r2, r3)) :
    Calls Try.prog 59 #[.int .i64 a0, .int .i64 a1] w fun e w' => e = .returned (.tuple #[.agg #[.int .u64 r1, .int .u64 r2], .bool r3]) ∧ Below w.heap.size w w' := by
  unfold merkhetref25_Point.f at h
  split at h
  · rename_i hl
    have e := Option.some.inj h
    obtain ⟨rfl, e2⟩ := Prod.mk.inj e
    obtain ⟨rfl, rfl⟩ := Prod.mk.inj e2
    exact (Pl.rPoint_calls a0 a1 w).mono (by rintro e w' ⟨rfl, hb⟩; exact ⟨rfl, Pl.own_below hb⟩)
  · cases h

end Go.Proofs.Ytmfdhcgdibefiaa.C

