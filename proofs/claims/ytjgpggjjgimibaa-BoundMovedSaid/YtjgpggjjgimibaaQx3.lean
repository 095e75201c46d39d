-- Written by wip/tools/gp.py, a program of this session round the kit's printer. Lean checks it.
import Derived.Test.YtjgpggjjgimibaaQx0
import Derived.Test.YtjgpggjjgimibaaQx1
import Derived.Test.YtjgpggjjgimibaaQx2
namespace Go.Proofs.Ytjgpggjjgimibaa.Q
open Go.RowKit Go.Proofs.YtjgpggjjgimibaaW.PrintWords Go.Proofs.YtjgpggjjgimibaaW.PrintLast Go.Proofs.YtjgpggjjgimibaaW.PrintMore
attribute [local go_sem] max2_int min2_int max_two min_two max_three min_three max_four min_four   -- for this text's walks alone
set_option linter.unusedVariables false
set_option linter.unusedSimpArgs false

attribute [local go_sem high] eqA37
/-! ### merkhetref14_Holds: function 19 -/
def merkhetref14_Holds.j0 : Nat → List Int → Bool → Int → Int → Int → Int → Int → Bool → Option (Bool)
  | 0, _, _, _, _, _, _, _, _ => none
  | k + 1, x1, x26, x106000, x106001, x106002, x106003, x106004, x106005 => if x26 = true then (some false) else (if 0 ≤ x106000 then (if x106000 < (x1.length : Int) then (if 0 ≤ x106001 then (if x106001 < (x1.length : Int) then ((merkhetref14_less.f k (rd x1 x106000) x106002 (rd x1 x106001)).bind fun t108 => (some (!t108))) else (none)) else (none)) else (none)) else (none))
def merkhetref14_Holds.f (k : Nat) (a0_0 : Int) (a0_1 : Int) (a0_2 : Int) (a0_3 : Int) (a0_4 : Int) (a0_5 : Bool) (l1 : List Int) : Option (Bool) := if a0_0 < 0 then (merkhetref14_Holds.j0 k l1 true a0_0 a0_1 a0_2 a0_3 a0_4 a0_5) else (if a0_1 < 0 then (merkhetref14_Holds.j0 k l1 true a0_0 a0_1 a0_2 a0_3 a0_4 a0_5) else (if a0_0 ≥ (l1.length : Int) then (merkhetref14_Holds.j0 k l1 true a0_0 a0_1 a0_2 a0_3 a0_4 a0_5) else (merkhetref14_Holds.j0 k l1 (decide (a0_1 ≥ (l1.length : Int))) a0_0 a0_1 a0_2 a0_3 a0_4 a0_5)))
theorem merkhetref14_Holds.mono_l : ∀ k, (∀ y0 y1 y2 y3 y4 y5 y6 y7, LeO (merkhetref14_Holds.j0 k y0 y1 y2 y3 y4 y5 y6 y7) (merkhetref14_Holds.j0 (k + 1) y0 y1 y2 y3 y4 y5 y6 y7))
  | 0 => fun _ _ _ _ _ _ _ _ r h => by simp [merkhetref14_Holds.j0] at h
  | k + 1 => by
    have ih0 := merkhetref14_Holds.mono_l k
    · intro y0 y1 y2 y3 y4 y5 y6 y7
      unfold merkhetref14_Holds.j0
      repeat' first
      | (with_reducible exact ih0 _ _ _ _ _ _ _ _)
      | (with_reducible exact merkhetref14_less.mono _ _ _ _)
      | (with_reducible exact LeO.refl _)
      | (with_reducible exact LeO.none _)
      | (with_reducible refine LeO.ite ?_ ?_)
      | (with_reducible refine LeO.bind ?_ (fun _ => ?_))
      | exact ih0 _ _ _ _ _ _ _ _
      | exact merkhetref14_less.mono _ _ _ _
      | exact LeO.none _
      | refine LeO.ite ?_ ?_
      | refine LeO.bind ?_ (fun _ => ?_)
theorem merkhetref14_Holds.mono : ∀ a0 a1 a2 a3 a4 a5 a6 k, LeO (merkhetref14_Holds.f k a0 a1 a2 a3 a4 a5 a6) (merkhetref14_Holds.f (k + 1) a0 a1 a2 a3 a4 a5 a6) := by
  intro a0 a1 a2 a3 a4 a5 a6 k
  have ih0 := merkhetref14_Holds.mono_l k
  unfold merkhetref14_Holds.f
  repeat' first
      | (with_reducible exact ih0 _ _ _ _ _ _ _ _)
      | (with_reducible exact merkhetref14_less.mono _ _ _ _)
      | (with_reducible exact LeO.refl _)
      | (with_reducible exact LeO.none _)
      | (with_reducible refine LeO.ite ?_ ?_)
      | (with_reducible refine LeO.bind ?_ (fun _ => ?_))
      | exact ih0 _ _ _ _ _ _ _ _
      | exact merkhetref14_less.mono _ _ _ _
      | exact LeO.none _
      | refine LeO.ite ?_ ?_
      | refine LeO.bind ?_ (fun _ => ?_)
set_option maxHeartbeats 8000000 in
set_option maxRecDepth 100000 in
theorem merkhetref14_Holds.calls (k : Nat) (a0_0 : Int) (a0_1 : Int) (a0_2 : Int) (a0_3 : Int) (a0_4 : Int) (a0_5 : Bool) (A1 : Option Addr) (c1 : Nat) (l1 : List Int) (r : Bool) (w : World) (hr1 : Kd.C (Kd.int .i64) w A1 l1.length l1) (hc1 : l1.length ≤ c1) (h : merkhetref14_Holds.f k a0_0 a0_1 a0_2 a0_3 a0_4 a0_5 l1 = some r) :
    Calls Try.prog 19 #[.agg #[.int .i64 a0_0, .int .i64 a0_1, .int .i64 a0_2, .int .i64 a0_3, .int .i64 a0_4, .bool a0_5], .slice A1 l1.length c1] w fun e w' => e = .returned (.bool r) ∧ Below w.heap.size w w' := by
  have hu37 := Try.underlying37
  have HR1 := Aside0.mk hr1
  have HC1 := Aside0.mk hc1
  clear hr1 hc1
  have HB := Aside0.mk (Below.refl w.heap.size w)
  have H : (if a0_0 < 0 then (merkhetref14_Holds.j0 k l1 true a0_0 a0_1 a0_2 a0_3 a0_4 a0_5) else (if a0_1 < 0 then (merkhetref14_Holds.j0 k l1 true a0_0 a0_1 a0_2 a0_3 a0_4 a0_5) else (if a0_0 ≥ (l1.length : Int) then (merkhetref14_Holds.j0 k l1 true a0_0 a0_1 a0_2 a0_3 a0_4 a0_5) else (merkhetref14_Holds.j0 k l1 (decide (a0_1 ≥ (l1.length : Int))) a0_0 a0_1 a0_2 a0_3 a0_4 a0_5)))) = some r := h
  clear h
  have HC3 := Aside0.mk H
  clear H
  go_enter Try.func19, Try.ntmps19
  go_upto_region 1 with (first | ((with_reducible refine gate_dst (N := 2) rfl ?_); (try (refine gate_guard (by rfl) ?_; dsimp only)); refine box_event ?hg (N := 2) ?hd (cs := #[.int .i64 a0_0, .int .i64 a0_1, .int .i64 a0_2, .int .i64 a0_3, .int .i64 a0_4, .bool a0_5]) (t := 37) ?hr ?_; (case hd => rfl); (case hg => rfl); (case hr => first | (go_simp; done) | (go_simp; rfl)); intro gb105 hg w4 hbox hb; have n0_ := Aside0.mk (below_step (by repeat (first | (with_reducible first | exact HB.out | apply below_alloc | apply pw_below_drewN | apply below_drew1) | exact HB.out)) hb); have n1_ := Aside0.mk (hbox); have n2_ := Aside0.mk ((by rw [hg]; exact (below_size (by repeat (first | (with_reducible first | exact HB.out | apply below_alloc | apply pw_below_drewN | apply below_drew1) | exact HB.out))) : w.heap.size ≤ gb105)); have n3_ := Aside0.mk ((by rw [hg]; exact (below_size (by repeat (first | (with_reducible first | exact HB.out | apply below_alloc | apply pw_below_drewN | apply below_drew1) | exact HB.out))) : w.heap.size ≤ gb105)); clear HB; have HB := n0_; have BK105 := n1_; have GW105 := n2_; have GE105 := n3_; clear n0_ n1_ n2_ n3_; clear hb hbox hg))
  repeat (go_quiet (first | ((with_reducible refine gate_dst (N := 2) rfl ?_); (try (refine gate_guard (by rfl) ?_; dsimp only)); refine box_event ?hg (N := 2) ?hd (cs := #[.int .i64 a0_0, .int .i64 a0_1, .int .i64 a0_2, .int .i64 a0_3, .int .i64 a0_4, .bool a0_5]) (t := 37) ?hr ?_; (case hd => rfl); (case hg => rfl); (case hr => first | (go_simp; done) | (go_simp; rfl)); intro gb105 hg w4 hbox hb; have n0_ := Aside0.mk (below_step (by repeat (first | (with_reducible first | exact HB.out | apply below_alloc | apply pw_below_drewN | apply below_drew1) | exact HB.out)) hb); have n1_ := Aside0.mk (hbox); have n2_ := Aside0.mk ((by rw [hg]; exact (below_size (by repeat (first | (with_reducible first | exact HB.out | apply below_alloc | apply pw_below_drewN | apply below_drew1) | exact HB.out))) : w.heap.size ≤ gb105)); have n3_ := Aside0.mk ((by rw [hg]; exact (below_size (by repeat (first | (with_reducible first | exact HB.out | apply below_alloc | apply pw_below_drewN | apply below_drew1) | exact HB.out))) : w.heap.size ≤ gb105)); clear HB; have HB := n0_; have BK105 := n1_; have GW105 := n2_; have GE105 := n3_; clear n0_ n1_ n2_ n3_; clear hb hbox hg)); go_upto_region 1 with (first | ((with_reducible refine gate_dst (N := 2) rfl ?_); (try (refine gate_guard (by rfl) ?_; dsimp only)); refine box_event ?hg (N := 2) ?hd (cs := #[.int .i64 a0_0, .int .i64 a0_1, .int .i64 a0_2, .int .i64 a0_3, .int .i64 a0_4, .bool a0_5]) (t := 37) ?hr ?_; (case hd => rfl); (case hg => rfl); (case hr => first | (go_simp; done) | (go_simp; rfl)); intro gb105 hg w4 hbox hb; have n0_ := Aside0.mk (below_step (by repeat (first | (with_reducible first | exact HB.out | apply below_alloc | apply pw_below_drewN | apply below_drew1) | exact HB.out)) hb); have n1_ := Aside0.mk (hbox); have n2_ := Aside0.mk ((by rw [hg]; exact (below_size (by repeat (first | (with_reducible first | exact HB.out | apply below_alloc | apply pw_below_drewN | apply below_drew1) | exact HB.out))) : w.heap.size ≤ gb105)); have n3_ := Aside0.mk ((by rw [hg]; exact (below_size (by repeat (first | (with_reducible first | exact HB.out | apply below_alloc | apply pw_below_drewN | apply below_drew1) | exact HB.out))) : w.heap.size ≤ gb105)); clear HB; have HB := n0_; have BK105 := n1_; have GW105 := n2_; have GE105 := n3_; clear n0_ n1_ n2_ n3_; clear hb hbox hg)))
  (try simp only [Act.put, List.setIfInBounds_toArray, List.set_cons_zero, List.set_cons_succ])
  go_cut [26] (fun v26 wc => ∃ (kq : Nat) (x26_2 : Bool), v26 = .bool x26_2 ∧ Aside0 (merkhetref14_Holds.j0 kq l1 x26_2 a0_0 a0_1 a0_2 a0_3 a0_4 a0_5 = some r) ∧ Aside0 (kq ≤ k) ∧ Aside0 (wc.heap[gb105]? = some (.cells #[.int .i64 a0_0, .int .i64 a0_1, .int .i64 a0_2, .int .i64 a0_3, .int .i64 a0_4, .bool a0_5] 37 (0, 0))) ∧ Aside0 (Below w.heap.size w wc))
  case first =>
    have H := HC3.out
    clear HC3
    by_cases c5 : a0_0 < 0
    · rw [if_pos c5] at H
      have c5b0 : decide (a0_0 < 0) = true := decide_eq_true c5
      clear c5
      (first | rw [c5b0] | (simp only [i64_w, i32_w]; rw [c5b0]) | skip)
      have H' := Aside0.mk H
      clear H
      have hcz6_0 : w4.cell? ⟨gb105, 0, none⟩ = some (.int .i64 a0_0) := (blk_cell BK105.out 0).trans rfl
      have hcz6_1 : w4.cell? ⟨gb105, 1, none⟩ = some (.int .i64 a0_1) := (blk_cell BK105.out 1).trans rfl
      have hcz6_2 : w4.cell? ⟨gb105, 2, none⟩ = some (.int .i64 a0_2) := (blk_cell BK105.out 2).trans rfl
      have hcz6_3 : w4.cell? ⟨gb105, 3, none⟩ = some (.int .i64 a0_3) := (blk_cell BK105.out 3).trans rfl
      have hcz6_4 : w4.cell? ⟨gb105, 4, none⟩ = some (.int .i64 a0_4) := (blk_cell BK105.out 4).trans rfl
      have hcz6_5 : w4.cell? ⟨gb105, 5, none⟩ = some (.bool a0_5) := (blk_cell BK105.out 5).trans rfl
      have hfz6_0 := blk_frozen BK105.out 0
      have hfz6_1 := blk_frozen BK105.out 1
      have hfz6_2 := blk_frozen BK105.out 2
      have hfz6_3 := blk_frozen BK105.out 3
      have hfz6_4 := blk_frozen BK105.out 4
      have hfz6_5 := blk_frozen BK105.out 5
      go_wp2
      repeat (go_quiet (fail); try go_wp2)
      go_meet
      case rel => exact ⟨_, (true), (by first | rfl | (simp; done) | (simp [*]; done)), H', ⟨by first | omega | exact Nat.le_refl _⟩, ⟨by (with_reducible repeat (first | refine blk_drewN ?_ _ | refine blk_drew ?_ | refine blk_alloc ?_ _)); exact BK105.out⟩, ⟨by repeat (first | (with_reducible first | exact HB.out | apply below_alloc | apply pw_below_drewN | apply below_drew1 | refine below_set ?_ GE105.out) | exact HB.out)⟩⟩
    · rw [if_neg c5] at H
      have c5b0 : decide (a0_0 < 0) = false := decide_eq_false c5
      clear c5
      (first | rw [c5b0] | (simp only [i64_w, i32_w]; rw [c5b0]) | skip)
      by_cases c7 : a0_1 < 0
      · rw [if_pos c7] at H
        have c7b0 : decide (a0_1 < 0) = true := decide_eq_true c7
        clear c7
        have H' := Aside0.mk H
        clear H
        have hcz8_0 : w4.cell? ⟨gb105, 0, none⟩ = some (.int .i64 a0_0) := (blk_cell BK105.out 0).trans rfl
        have hcz8_1 : w4.cell? ⟨gb105, 1, none⟩ = some (.int .i64 a0_1) := (blk_cell BK105.out 1).trans rfl
        have hcz8_2 : w4.cell? ⟨gb105, 2, none⟩ = some (.int .i64 a0_2) := (blk_cell BK105.out 2).trans rfl
        have hcz8_3 : w4.cell? ⟨gb105, 3, none⟩ = some (.int .i64 a0_3) := (blk_cell BK105.out 3).trans rfl
        have hcz8_4 : w4.cell? ⟨gb105, 4, none⟩ = some (.int .i64 a0_4) := (blk_cell BK105.out 4).trans rfl
        have hcz8_5 : w4.cell? ⟨gb105, 5, none⟩ = some (.bool a0_5) := (blk_cell BK105.out 5).trans rfl
        have hfz8_0 := blk_frozen BK105.out 0
        have hfz8_1 := blk_frozen BK105.out 1
        have hfz8_2 := blk_frozen BK105.out 2
        have hfz8_3 := blk_frozen BK105.out 3
        have hfz8_4 := blk_frozen BK105.out 4
        have hfz8_5 := blk_frozen BK105.out 5
        go_wp2
        repeat (go_quiet (fail); try go_wp2)
        go_meet
        case rel => exact ⟨_, (true), (by first | rfl | (simp; done) | (simp [*]; done)), H', ⟨by first | omega | exact Nat.le_refl _⟩, ⟨by (with_reducible repeat (first | refine blk_drewN ?_ _ | refine blk_drew ?_ | refine blk_alloc ?_ _)); exact BK105.out⟩, ⟨by repeat (first | (with_reducible first | exact HB.out | apply below_alloc | apply pw_below_drewN | apply below_drew1 | refine below_set ?_ GE105.out) | exact HB.out)⟩⟩
      · rw [if_neg c7] at H
        have c7b0 : decide (a0_1 < 0) = false := decide_eq_false c7
        clear c7
        by_cases c9 : a0_0 ≥ (l1.length : Int)
        · rw [if_pos c9] at H
          have c9b0 : decide ((l1.length : Int) ≤ a0_0) = true := decide_eq_true c9
          clear c9
          have H' := Aside0.mk H
          clear H
          have hcz10_0 : w4.cell? ⟨gb105, 0, none⟩ = some (.int .i64 a0_0) := (blk_cell BK105.out 0).trans rfl
          have hcz10_1 : w4.cell? ⟨gb105, 1, none⟩ = some (.int .i64 a0_1) := (blk_cell BK105.out 1).trans rfl
          have hcz10_2 : w4.cell? ⟨gb105, 2, none⟩ = some (.int .i64 a0_2) := (blk_cell BK105.out 2).trans rfl
          have hcz10_3 : w4.cell? ⟨gb105, 3, none⟩ = some (.int .i64 a0_3) := (blk_cell BK105.out 3).trans rfl
          have hcz10_4 : w4.cell? ⟨gb105, 4, none⟩ = some (.int .i64 a0_4) := (blk_cell BK105.out 4).trans rfl
          have hcz10_5 : w4.cell? ⟨gb105, 5, none⟩ = some (.bool a0_5) := (blk_cell BK105.out 5).trans rfl
          have hfz10_0 := blk_frozen BK105.out 0
          have hfz10_1 := blk_frozen BK105.out 1
          have hfz10_2 := blk_frozen BK105.out 2
          have hfz10_3 := blk_frozen BK105.out 3
          have hfz10_4 := blk_frozen BK105.out 4
          have hfz10_5 := blk_frozen BK105.out 5
          go_wp2
          repeat (go_quiet (fail); try go_wp2)
          go_meet
          case rel => exact ⟨_, (true), (by first | rfl | (simp; done) | (simp [*]; done)), H', ⟨by first | omega | exact Nat.le_refl _⟩, ⟨by (with_reducible repeat (first | refine blk_drewN ?_ _ | refine blk_drew ?_ | refine blk_alloc ?_ _)); exact BK105.out⟩, ⟨by repeat (first | (with_reducible first | exact HB.out | apply below_alloc | apply pw_below_drewN | apply below_drew1 | refine below_set ?_ GE105.out) | exact HB.out)⟩⟩
        · rw [if_neg c9] at H
          have c9b0 : decide ((l1.length : Int) ≤ a0_0) = false := decide_eq_false c9
          clear c9
          have H' := Aside0.mk H
          clear H
          have hcz11_0 : w4.cell? ⟨gb105, 0, none⟩ = some (.int .i64 a0_0) := (blk_cell BK105.out 0).trans rfl
          have hcz11_1 : w4.cell? ⟨gb105, 1, none⟩ = some (.int .i64 a0_1) := (blk_cell BK105.out 1).trans rfl
          have hcz11_2 : w4.cell? ⟨gb105, 2, none⟩ = some (.int .i64 a0_2) := (blk_cell BK105.out 2).trans rfl
          have hcz11_3 : w4.cell? ⟨gb105, 3, none⟩ = some (.int .i64 a0_3) := (blk_cell BK105.out 3).trans rfl
          have hcz11_4 : w4.cell? ⟨gb105, 4, none⟩ = some (.int .i64 a0_4) := (blk_cell BK105.out 4).trans rfl
          have hcz11_5 : w4.cell? ⟨gb105, 5, none⟩ = some (.bool a0_5) := (blk_cell BK105.out 5).trans rfl
          have hfz11_0 := blk_frozen BK105.out 0
          have hfz11_1 := blk_frozen BK105.out 1
          have hfz11_2 := blk_frozen BK105.out 2
          have hfz11_3 := blk_frozen BK105.out 3
          have hfz11_4 := blk_frozen BK105.out 4
          have hfz11_5 := blk_frozen BK105.out 5
          go_wp2
          repeat (go_quiet (fail); try go_wp2)
          go_meet
          case rel => exact ⟨_, (decide (a0_1 ≥ (l1.length : Int))), (by first | rfl | (simp; done) | (simp [*]; done)), H', ⟨by first | omega | exact Nat.le_refl _⟩, ⟨by (with_reducible repeat (first | refine blk_drewN ?_ _ | refine blk_drew ?_ | refine blk_alloc ?_ _)); exact BK105.out⟩, ⟨by repeat (first | (with_reducible first | exact HB.out | apply below_alloc | apply pw_below_drewN | apply below_drew1 | refine below_set ?_ GE105.out) | exact HB.out)⟩⟩
  case rest =>
    clear HC3
    try clear c1
    try clear p2
    try clear c5
    try clear c5b0
    try clear c7
    try clear c7b0
    try clear c9
    try clear c9b0
    try clear hcz10_0
    try clear hcz10_1
    try clear hcz10_2
    try clear hcz10_3
    try clear hcz10_4
    try clear hcz10_5
    try clear hcz11_0
    try clear hcz11_1
    try clear hcz11_2
    try clear hcz11_3
    try clear hcz11_4
    try clear hcz11_5
    try clear hcz6_0
    try clear hcz6_1
    try clear hcz6_2
    try clear hcz6_3
    try clear hcz6_4
    try clear hcz6_5
    try clear hcz8_0
    try clear hcz8_1
    try clear hcz8_2
    try clear hcz8_3
    try clear hcz8_4
    try clear hcz8_5
    try clear hfz10_0
    try clear hfz10_1
    try clear hfz10_2
    try clear hfz10_3
    try clear hfz10_4
    try clear hfz10_5
    try clear hfz11_0
    try clear hfz11_1
    try clear hfz11_2
    try clear hfz11_3
    try clear hfz11_4
    try clear hfz11_5
    try clear hfz6_0
    try clear hfz6_1
    try clear hfz6_2
    try clear hfz6_3
    try clear hfz6_4
    try clear hfz6_5
    try clear hfz8_0
    try clear hfz8_1
    try clear hfz8_2
    try clear hfz8_3
    try clear hfz8_4
    try clear hfz8_5
    obtain ⟨kq, x26_2, rfl, HA, HJ2, BK105, HB⟩ := hcut
    cases kq with
    | zero => exact absurd HA.out (by simp [merkhetref14_Holds.j0])
    | succ kj2 =>
      have H := HA.out
      clear HA
      simp only [merkhetref14_Holds.j0] at H
      by_cases c12 : x26_2 = true
      · subst c12
        have H1 : (some false) = some r := by rw [if_pos rfl] at H; exact H
        clear H
        have H := H1
        clear H1
        obtain rfl := Option.some.inj H
        go_wp2
        repeat (go_quiet (fail); try go_wp2)
        go_ret
        exact ⟨by first | rfl | (simp [errW_none, errW_some] <;> rfl) | (simp [*, errW_none, errW_some] <;> rfl), by repeat (first | (with_reducible first | exact HB.out | apply below_alloc | apply pw_below_drewN | apply below_drew1 | refine below_set ?_ GE105.out) | exact HB.out)⟩
      · replace c12 := Bool.eq_false_iff.mpr c12
        subst c12
        have H1 : (if 0 ≤ a0_0 then (if a0_0 < (l1.length : Int) then (if 0 ≤ a0_1 then (if a0_1 < (l1.length : Int) then ((merkhetref14_less.f kj2 (rd l1 a0_0) a0_2 (rd l1 a0_1)).bind fun t108 => (some (!t108))) else (none)) else (none)) else (none)) else (none)) = some r := by rw [if_neg (show ¬ (false = true) by decide)] at H; exact H
        clear H
        have H := H1
        clear H1
        by_cases c13 : 0 ≤ a0_0
        · rw [if_pos c13] at H
          have c13b0 : decide (0 ≤ a0_0) = true := decide_eq_true c13
          clear c13
          by_cases c14 : a0_0 < (l1.length : Int)
          · rw [if_pos c14] at H
            have c14b0 : decide (a0_0 < (l1.length : Int)) = true := decide_eq_true c14
            clear c14
            by_cases c15 : 0 ≤ a0_1
            · rw [if_pos c15] at H
              have c15b0 : decide (0 ≤ a0_1) = true := decide_eq_true c15
              clear c15
              by_cases c16 : a0_1 < (l1.length : Int)
              · rw [if_pos c16] at H
                have c16b0 : decide (a0_1 < (l1.length : Int)) = true := decide_eq_true c16
                clear c16
                replace H := Option.bind_eq_some_iff.mp H
                obtain ⟨t108, A170, H⟩ := H
                replace H : (some (!t108)) = some r := H
                have A17 := Aside0.mk A170
                clear A170
                obtain rfl := Option.some.inj H
                have hcz18_0 : wc.cell? ⟨gb105, 0, none⟩ = some (.int .i64 a0_0) := (blk_cell BK105.out 0).trans rfl
                have hcz18_1 : wc.cell? ⟨gb105, 1, none⟩ = some (.int .i64 a0_1) := (blk_cell BK105.out 1).trans rfl
                have hcz18_2 : wc.cell? ⟨gb105, 2, none⟩ = some (.int .i64 a0_2) := (blk_cell BK105.out 2).trans rfl
                have hcz18_3 : wc.cell? ⟨gb105, 3, none⟩ = some (.int .i64 a0_3) := (blk_cell BK105.out 3).trans rfl
                have hcz18_4 : wc.cell? ⟨gb105, 4, none⟩ = some (.int .i64 a0_4) := (blk_cell BK105.out 4).trans rfl
                have hcz18_5 : wc.cell? ⟨gb105, 5, none⟩ = some (.bool a0_5) := (blk_cell BK105.out 5).trans rfl
                have hfz18_0 := blk_frozen BK105.out 0
                have hfz18_1 := blk_frozen BK105.out 1
                have hfz18_2 := blk_frozen BK105.out 2
                have hfz18_3 := blk_frozen BK105.out 3
                have hfz18_4 := blk_frozen BK105.out 4
                have hfz18_5 := blk_frozen BK105.out 5
                have p106 : 0 ≤ (a0_0 : Int) := of_decide_eq_true (by first | (with_reducible assumption) | assumption)
                have q106 : a0_0 < (l1.length : Int) := of_decide_eq_true (by first | (with_reducible assumption) | assumption)
                obtain ⟨ad106, e106, hx106_0⟩ := Kd.at_int HR1.out a0_0 p106 q106
                cases e106
                replace hx106_0 := (HB.out.cell (World.block_lt_of_cell? w _ hx106_0)).trans hx106_0
                replace p106 := eq_true p106
                replace q106 := eq_true q106
                have p107 : 0 ≤ (a0_1 : Int) := of_decide_eq_true (by first | (with_reducible assumption) | assumption)
                have q107 : a0_1 < (l1.length : Int) := of_decide_eq_true (by first | (with_reducible assumption) | assumption)
                obtain ⟨ad107, e107, hx107_0⟩ := Kd.at_int HR1.out a0_1 p107 q107
                obtain rfl : ad106 = ad107 := (by injection e107)
                replace hx107_0 := (HB.out.cell (World.block_lt_of_cell? w _ hx107_0)).trans hx107_0
                replace p107 := eq_true p107
                replace q107 := eq_true q107
                go_wp2_with (first | (go_at_call 38; (with_reducible refine (merkhetref14_less.calls kj2 (rd l1 a0_0) a0_2 (rd l1 a0_1) t108 _ A17.out).mono ?_); rintro e w' ⟨rfl, ⟨nd, rfl⟩⟩; (try first | exact ⟨rfl, _, World.drewN_drewN _ _ _⟩ | exact ⟨rfl, _, Eq.trans (World.drewN_drewN _ _ _) (congrArg (World.drewN _) (Nat.add_assoc _ _ _))⟩)))
                repeat (go_quiet (first | (go_at_call 38; (with_reducible refine (merkhetref14_less.calls kj2 (rd l1 a0_0) a0_2 (rd l1 a0_1) t108 _ A17.out).mono ?_); rintro e w' ⟨rfl, ⟨nd, rfl⟩⟩; (try first | exact ⟨rfl, _, World.drewN_drewN _ _ _⟩ | exact ⟨rfl, _, Eq.trans (World.drewN_drewN _ _ _) (congrArg (World.drewN _) (Nat.add_assoc _ _ _))⟩))); try go_wp2_with (first | (go_at_call 38; (with_reducible refine (merkhetref14_less.calls kj2 (rd l1 a0_0) a0_2 (rd l1 a0_1) t108 _ A17.out).mono ?_); rintro e w' ⟨rfl, ⟨nd, rfl⟩⟩; (try first | exact ⟨rfl, _, World.drewN_drewN _ _ _⟩ | exact ⟨rfl, _, Eq.trans (World.drewN_drewN _ _ _) (congrArg (World.drewN _) (Nat.add_assoc _ _ _))⟩))))
                go_ret
                exact ⟨by first | rfl | (simp [errW_none, errW_some] <;> rfl) | (simp [*, errW_none, errW_some] <;> rfl), by repeat (first | (with_reducible first | exact HB.out | apply below_alloc | apply pw_below_drewN | apply below_drew1 | refine below_set ?_ GE105.out) | exact HB.out)⟩
              · rw [if_neg c16] at H
                exact absurd H (by simp)
            · rw [if_neg c15] at H
              exact absurd H (by simp)
          · rw [if_neg c14] at H
            exact absurd H (by simp)
        · rw [if_neg c13] at H
          exact absurd H (by simp)

/-! ### merkhetref14_All: function 21 -/
def merkhetref14_All.l0 : Nat → List (S37) → List Int → Int → Option (Bool)
  | 0, _, _, _ => none
  | k + 1, x0, x1, x5 => if x5 < (x0.length : Int) then (if 0 ≤ x5 then ((merkhetref14_Holds.f k ((rd_T37 x0 x5).f0) ((rd_T37 x0 x5).f1) ((rd_T37 x0 x5).f2) ((rd_T37 x0 x5).f3.f0) ((rd_T37 x0 x5).f3.f1) ((rd_T37 x0 x5).f4) x1).bind fun t110 => (if t110 = true then (merkhetref14_All.l0 k x0 x1 (wrap64 (x5 + 1))) else (some false))) else (none)) else (some true)
def merkhetref14_All.f (k : Nat) (l0 : List (S37)) (l1 : List Int) : Option (Bool) := merkhetref14_All.l0 k l0 l1 0
theorem merkhetref14_All.mono_l : ∀ k, (∀ y0 y1 y2, LeO (merkhetref14_All.l0 k y0 y1 y2) (merkhetref14_All.l0 (k + 1) y0 y1 y2))
  | 0 => fun _ _ _ r h => by simp [merkhetref14_All.l0] at h
  | k + 1 => by
    have ih0 := merkhetref14_All.mono_l k
    · intro y0 y1 y2
      unfold merkhetref14_All.l0
      repeat' first
      | (with_reducible exact ih0 _ _ _)
      | (with_reducible exact merkhetref14_Holds.mono _ _ _ _ _ _ _ _)
      | (with_reducible exact LeO.refl _)
      | (with_reducible exact LeO.none _)
      | (with_reducible refine LeO.ite ?_ ?_)
      | (with_reducible refine LeO.bind ?_ (fun _ => ?_))
      | exact ih0 _ _ _
      | exact merkhetref14_Holds.mono _ _ _ _ _ _ _ _
      | exact LeO.none _
      | refine LeO.ite ?_ ?_
      | refine LeO.bind ?_ (fun _ => ?_)
theorem merkhetref14_All.mono : ∀ a0 a1 k, LeO (merkhetref14_All.f k a0 a1) (merkhetref14_All.f (k + 1) a0 a1) := by
  intro a0 a1 k
  have ih0 := merkhetref14_All.mono_l k
  unfold merkhetref14_All.f
  repeat' first
      | (with_reducible exact ih0 _ _ _)
      | (with_reducible exact merkhetref14_Holds.mono _ _ _ _ _ _ _ _)
      | (with_reducible exact LeO.refl _)
      | (with_reducible exact LeO.none _)
      | (with_reducible refine LeO.ite ?_ ?_)
      | (with_reducible refine LeO.bind ?_ (fun _ => ?_))
      | exact ih0 _ _ _
      | exact merkhetref14_Holds.mono _ _ _ _ _ _ _ _
      | exact LeO.none _
      | refine LeO.ite ?_ ?_
      | refine LeO.bind ?_ (fun _ => ?_)
set_option maxHeartbeats 8000000 in
set_option maxRecDepth 100000 in
theorem merkhetref14_All.calls (k : Nat) (A0 : Option Addr) (c0 : Nat) (l0 : List (S37)) (A1 : Option Addr) (c1 : Nat) (l1 : List Int) (r : Bool) (w : World) (hr0 : Kd.C k37 w A0 l0.length l0) (hc0 : l0.length ≤ c0) (hr1 : Kd.C (Kd.int .i64) w A1 l1.length l1) (hc1 : l1.length ≤ c1) (h : merkhetref14_All.f k l0 l1 = some r) :
    Calls Try.prog 21 #[.slice A0 l0.length c0, .slice A1 l1.length c1] w fun e w' => e = .returned (.bool r) ∧ Below w.heap.size w w' := by
  have hu37 := Try.underlying37
  have HR0 := Aside0.mk hr0
  have HC0 := Aside0.mk hc0
  clear hr0 hc0
  have HR1 := Aside0.mk hr1
  have HC1 := Aside0.mk hc1
  clear hr1 hc1
  have HB := Aside0.mk (Below.refl w.heap.size w)
  have H : (merkhetref14_All.l0 k l0 l1 0) = some r := h
  clear h
  have H' := Aside0.mk H
  clear H
  go_enter Try.func21, Try.ntmps21
  go_wp2
  go_loopg [5] k (fun kq v5 w' => ∃ (x5_1 : Int), v5 = .int .i64 x5_1 ∧ Aside0 (merkhetref14_All.l0 kq l0 l1 x5_1 = some r) ∧ Aside0 (kq ≤ k) ∧ Aside0 (Below w.heap.size w w'))
  case atStart => exact ⟨(0), (by first | rfl | (simp; done) | (simp [*]; done)), H', ⟨Nat.le_refl _⟩, ⟨by repeat (first | (with_reducible first | exact HB.out | apply below_alloc | apply pw_below_drewN | apply below_drew1) | exact HB.out)⟩⟩
  case round =>
    clear H'
    try clear c1
    try clear c2
    try clear p2
    obtain ⟨x5_1, rfl, HA, HK1, HB⟩ := hrel
    cases gk with
    | zero => exact absurd HA.out (by simp [merkhetref14_All.l0])
    | succ k1 =>
      have H := HA.out
      clear HA
      simp only [merkhetref14_All.l0] at H
      by_cases c3 : x5_1 < (l0.length : Int)
      · rw [if_pos c3] at H
        have c3b0 : decide (x5_1 < (l0.length : Int)) = true := decide_eq_true c3
        clear c3
        by_cases c4 : 0 ≤ x5_1
        · rw [if_pos c4] at H
          have c4b0 : decide (0 ≤ x5_1) = true := decide_eq_true c4
          clear c4
          replace H := Option.bind_eq_some_iff.mp H
          obtain ⟨t110, A50, H⟩ := H
          replace H : (if t110 = true then (merkhetref14_All.l0 k1 l0 l1 (wrap64 (x5_1 + 1))) else (some false)) = some r := H
          have A5 := Aside0.mk A50
          clear A50
          by_cases c6 : t110 = true
          · subst c6
            have H1 : (merkhetref14_All.l0 k1 l0 l1 (wrap64 (x5_1 + 1))) = some r := by rw [if_pos rfl] at H; exact H
            clear H
            have H := H1
            clear H1
            have H' := Aside0.mk H
            clear H
            have p109 : 0 ≤ (x5_1 : Int) := of_decide_eq_true (by first | (with_reducible assumption) | assumption)
            have q109 : x5_1 < (l0.length : Int) := of_decide_eq_true (by first | (with_reducible assumption) | assumption)
            obtain ⟨ad109, e109, hx109_0, hx109_1, hx109_2, hx109_3, hx109_4, hx109_5⟩ := at_T37 HR0.out x5_1 p109 q109
            cases e109
            replace hx109_0 := (HB.out.cell (World.block_lt_of_cell? w _ hx109_0)).trans hx109_0
            replace hx109_1 := (HB.out.cell (World.block_lt_of_cell? w _ hx109_1)).trans hx109_1
            replace hx109_2 := (HB.out.cell (World.block_lt_of_cell? w _ hx109_2)).trans hx109_2
            replace hx109_3 := (HB.out.cell (World.block_lt_of_cell? w _ hx109_3)).trans hx109_3
            replace hx109_4 := (HB.out.cell (World.block_lt_of_cell? w _ hx109_4)).trans hx109_4
            replace hx109_5 := (HB.out.cell (World.block_lt_of_cell? w _ hx109_5)).trans hx109_5
            replace p109 := eq_true p109
            replace q109 := eq_true q109
            go_wp2_with (first | ((with_reducible refine gate_callee (f := 19) rfl ?_); refine goesL_ (some 17) rfl rfl Try.func19 (by kernel_rfl) rfl #[.agg #[.int .i64 ((rd_T37 l0 x5_1).f0), .int .i64 ((rd_T37 l0 x5_1).f1), .int .i64 ((rd_T37 l0 x5_1).f2), .int .i64 ((rd_T37 l0 x5_1).f3.f0), .int .i64 ((rd_T37 l0 x5_1).f3.f1), .bool ((rd_T37 l0 x5_1).f4)], .slice A1 l1.length c1] rfl (by (try simp only [List.map_toArray, List.map_cons, List.map_nil]); first | done | rfl | (simp only [List.length_drop, List.length_take]; rfl)) ?_; (with_reducible refine (merkhetref14_Holds.calls k1 ((rd_T37 l0 x5_1).f0) ((rd_T37 l0 x5_1).f1) ((rd_T37 l0 x5_1).f2) ((rd_T37 l0 x5_1).f3.f0) ((rd_T37 l0 x5_1).f3.f1) ((rd_T37 l0 x5_1).f4) _ _ l1 true _ ?side1 ?side2 A5.out).mono ?_); (case side1 => repeat (first | exact (Kd.C_below HR1.out HB.out) | (with_reducible refine Kd.C_alloc ?_ _) | (with_reducible refine Kd.C_drewN ?_ _) | (with_reducible refine Kd.C_drew ?_))); (case side2 => exact HC1.out); rintro e w7 ⟨rfl, hb⟩; refine ⟨_, rfl, ?_⟩; have n0_ := Aside0.mk (below_step (by repeat (first | (with_reducible first | exact HB.out | apply below_alloc | apply pw_below_drewN | apply below_drew1) | exact HB.out)) hb); clear HB; have HB := n0_; clear n0_; (try clear hb); (try clear hb2); (try clear hk); (try clear hi)))
            go_roundg k1
            case measure => have := HK1.out; omega
            case rel => exact ⟨(wrap64 (x5_1 + 1)), (by first | rfl | (simp; done) | (simp [*]; done)), H', ⟨by have := HK1.out; omega⟩, ⟨by repeat (first | (with_reducible first | exact HB.out | apply below_alloc | apply pw_below_drewN | apply below_drew1) | exact HB.out)⟩⟩
          · replace c6 := Bool.eq_false_iff.mpr c6
            subst c6
            have H1 : (some false) = some r := by rw [if_neg (show ¬ (false = true) by decide)] at H; exact H
            clear H
            have H := H1
            clear H1
            obtain rfl := Option.some.inj H
            have p109 : 0 ≤ (x5_1 : Int) := of_decide_eq_true (by first | (with_reducible assumption) | assumption)
            have q109 : x5_1 < (l0.length : Int) := of_decide_eq_true (by first | (with_reducible assumption) | assumption)
            obtain ⟨ad109, e109, hx109_0, hx109_1, hx109_2, hx109_3, hx109_4, hx109_5⟩ := at_T37 HR0.out x5_1 p109 q109
            cases e109
            replace hx109_0 := (HB.out.cell (World.block_lt_of_cell? w _ hx109_0)).trans hx109_0
            replace hx109_1 := (HB.out.cell (World.block_lt_of_cell? w _ hx109_1)).trans hx109_1
            replace hx109_2 := (HB.out.cell (World.block_lt_of_cell? w _ hx109_2)).trans hx109_2
            replace hx109_3 := (HB.out.cell (World.block_lt_of_cell? w _ hx109_3)).trans hx109_3
            replace hx109_4 := (HB.out.cell (World.block_lt_of_cell? w _ hx109_4)).trans hx109_4
            replace hx109_5 := (HB.out.cell (World.block_lt_of_cell? w _ hx109_5)).trans hx109_5
            replace p109 := eq_true p109
            replace q109 := eq_true q109
            go_wp2_with (first | ((with_reducible refine gate_callee (f := 19) rfl ?_); refine goesL_ (some 17) rfl rfl Try.func19 (by kernel_rfl) rfl #[.agg #[.int .i64 ((rd_T37 l0 x5_1).f0), .int .i64 ((rd_T37 l0 x5_1).f1), .int .i64 ((rd_T37 l0 x5_1).f2), .int .i64 ((rd_T37 l0 x5_1).f3.f0), .int .i64 ((rd_T37 l0 x5_1).f3.f1), .bool ((rd_T37 l0 x5_1).f4)], .slice A1 l1.length c1] rfl (by (try simp only [List.map_toArray, List.map_cons, List.map_nil]); first | done | rfl | (simp only [List.length_drop, List.length_take]; rfl)) ?_; (with_reducible refine (merkhetref14_Holds.calls k1 ((rd_T37 l0 x5_1).f0) ((rd_T37 l0 x5_1).f1) ((rd_T37 l0 x5_1).f2) ((rd_T37 l0 x5_1).f3.f0) ((rd_T37 l0 x5_1).f3.f1) ((rd_T37 l0 x5_1).f4) _ _ l1 false _ ?side1 ?side2 A5.out).mono ?_); (case side1 => repeat (first | exact (Kd.C_below HR1.out HB.out) | (with_reducible refine Kd.C_alloc ?_ _) | (with_reducible refine Kd.C_drewN ?_ _) | (with_reducible refine Kd.C_drew ?_))); (case side2 => exact HC1.out); rintro e w8 ⟨rfl, hb⟩; refine ⟨_, rfl, ?_⟩; have n0_ := Aside0.mk (below_step (by repeat (first | (with_reducible first | exact HB.out | apply below_alloc | apply pw_below_drewN | apply below_drew1) | exact HB.out)) hb); clear HB; have HB := n0_; clear n0_; (try clear hb); (try clear hb2); (try clear hk); (try clear hi)))
            go_ret
            exact ⟨by first | rfl | (simp [errW_none, errW_some] <;> rfl) | (simp [*, errW_none, errW_some] <;> rfl), by repeat (first | (with_reducible first | exact HB.out | apply below_alloc | apply pw_below_drewN | apply below_drew1) | exact HB.out)⟩
        · rw [if_neg c4] at H
          exact absurd H (by simp)
      · rw [if_neg c3] at H
        have c3b0 : decide (x5_1 < (l0.length : Int)) = false := decide_eq_false c3
        clear c3
        obtain rfl := Option.some.inj H
        go_wp2
        go_ret
        exact ⟨by first | rfl | (simp [errW_none, errW_some] <;> rfl) | (simp [*, errW_none, errW_some] <;> rfl), by repeat (first | (with_reducible first | exact HB.out | apply below_alloc | apply pw_below_drewN | apply below_drew1) | exact HB.out)⟩

/-! ### merkhetref14_Same: function 15 -/
def merkhetref14_Same.l0 : Nat → List (S37) → List (S37) → Int → Option (Bool)
  | 0, _, _, _ => none
  | k + 1, x0, x1, x5 => if x5 < (x0.length : Int) then (if 0 ≤ x5 then (if x5 < (x1.length : Int) then (if (!(((rd_T37 x0 x5).f0) == ((rd_T37 x1 x5).f0)) || (!(((rd_T37 x0 x5).f1) == ((rd_T37 x1 x5).f1)) || (!(((rd_T37 x0 x5).f2) == ((rd_T37 x1 x5).f2)) || ((!(((rd_T37 x0 x5).f3.f0) == ((rd_T37 x1 x5).f3.f0)) || (!(((rd_T37 x0 x5).f3.f1) == ((rd_T37 x1 x5).f3.f1)))) || (!(((rd_T37 x0 x5).f4) == ((rd_T37 x1 x5).f4))))))) = true then (some false) else (merkhetref14_Same.l0 k x0 x1 (wrap64 (x5 + 1)))) else (none)) else (none)) else (some true)
def merkhetref14_Same.f (k : Nat) (l0 : List (S37)) (l1 : List (S37)) : Option (Bool) := if (l0.length : Int) = (l1.length : Int) then (merkhetref14_Same.l0 k l0 l1 0) else (some false)
theorem merkhetref14_Same.mono_l : ∀ k, (∀ y0 y1 y2, LeO (merkhetref14_Same.l0 k y0 y1 y2) (merkhetref14_Same.l0 (k + 1) y0 y1 y2))
  | 0 => fun _ _ _ r h => by simp [merkhetref14_Same.l0] at h
  | k + 1 => by
    have ih0 := merkhetref14_Same.mono_l k
    · intro y0 y1 y2
      unfold merkhetref14_Same.l0
      repeat' first
      | (with_reducible exact ih0 _ _ _)
      | (with_reducible exact LeO.refl _)
      | (with_reducible exact LeO.none _)
      | (with_reducible refine LeO.ite ?_ ?_)
      | (with_reducible refine LeO.bind ?_ (fun _ => ?_))
      | exact ih0 _ _ _
      | exact LeO.none _
      | refine LeO.ite ?_ ?_
      | refine LeO.bind ?_ (fun _ => ?_)
theorem merkhetref14_Same.mono : ∀ a0 a1 k, LeO (merkhetref14_Same.f k a0 a1) (merkhetref14_Same.f (k + 1) a0 a1) := by
  intro a0 a1 k
  have ih0 := merkhetref14_Same.mono_l k
  unfold merkhetref14_Same.f
  repeat' first
      | (with_reducible exact ih0 _ _ _)
      | (with_reducible exact LeO.refl _)
      | (with_reducible exact LeO.none _)
      | (with_reducible refine LeO.ite ?_ ?_)
      | (with_reducible refine LeO.bind ?_ (fun _ => ?_))
      | exact ih0 _ _ _
      | exact LeO.none _
      | refine LeO.ite ?_ ?_
      | refine LeO.bind ?_ (fun _ => ?_)
set_option maxHeartbeats 8000000 in
set_option maxRecDepth 100000 in
theorem merkhetref14_Same.calls (k : Nat) (A0 : Option Addr) (c0 : Nat) (l0 : List (S37)) (A1 : Option Addr) (c1 : Nat) (l1 : List (S37)) (r : Bool) (w : World) (hr0 : Kd.C k37 w A0 l0.length l0) (hc0 : l0.length ≤ c0) (hr1 : Kd.C k37 w A1 l1.length l1) (hc1 : l1.length ≤ c1) (h : merkhetref14_Same.f k l0 l1 = some r) :
    Calls Try.prog 15 #[.slice A0 l0.length c0, .slice A1 l1.length c1] w fun e w' => e = .returned (.bool r) ∧ Drawn0 w w' := by
  have hu37 := Try.underlying37
  have HR0 := Aside0.mk hr0
  have HC0 := Aside0.mk hc0
  clear hr0 hc0
  have HR1 := Aside0.mk hr1
  have HC1 := Aside0.mk hc1
  clear hr1 hc1
  have H : (if (l0.length : Int) = (l1.length : Int) then (merkhetref14_Same.l0 k l0 l1 0) else (some false)) = some r := h
  clear h
  by_cases c3 : (l0.length : Int) = (l1.length : Int)
  · rw [if_pos c3] at H
    have c3b0 : ((l0.length : Int) == (l1.length : Int)) = true := beq_iff_eq.mpr c3
    have c3b1 : ((l0.length : Int) != (l1.length : Int)) = false := bne_eq_false_iff_eq.mpr c3
    have c3b2 : (l0.length == l1.length) = true := by first | simpa using c3 | (simp at c3 ⊢; omega)
    clear c3
    have H' := Aside0.mk H
    clear H
    go_enter Try.func15, Try.ntmps15
    go_wp2
    repeat (go_quiet (fail); try go_wp2)
    go_loopg [5] k (fun kq v5 w' => ∃ (x5_1 : Int), v5 = .int .i64 x5_1 ∧ Aside0 (merkhetref14_Same.l0 kq l0 l1 x5_1 = some r) ∧ Aside0 (kq ≤ k) ∧ Drawn0 w w')
    case atStart => exact ⟨(0), (by first | rfl | (simp; done) | (simp [*]; done)), H', ⟨Nat.le_refl _⟩, by repeat (first | exact Drawn0.refl _ | apply Drawn0.step)⟩
    case round =>
      clear H'
      try clear c1
      try clear p2
      try clear c3
      try clear c3b0
      try clear c3b1
      try clear c3b2
      obtain ⟨x5_1, rfl, HA, HK1, ⟨m1, rfl⟩⟩ := hrel
      cases gk with
      | zero => exact absurd HA.out (by simp [merkhetref14_Same.l0])
      | succ k1 =>
        have H := HA.out
        clear HA
        simp only [merkhetref14_Same.l0] at H
        by_cases c4 : x5_1 < (l0.length : Int)
        · rw [if_pos c4] at H
          have c4b0 : decide (x5_1 < (l0.length : Int)) = true := decide_eq_true c4
          clear c4
          by_cases c5 : 0 ≤ x5_1
          · rw [if_pos c5] at H
            have c5b0 : decide (0 ≤ x5_1) = true := decide_eq_true c5
            clear c5
            by_cases c6 : x5_1 < (l1.length : Int)
            · rw [if_pos c6] at H
              have c6b0 : decide (x5_1 < (l1.length : Int)) = true := decide_eq_true c6
              clear c6
              by_cases c7 : (!(((rd_T37 l0 x5_1).f0) == ((rd_T37 l1 x5_1).f0)) || (!(((rd_T37 l0 x5_1).f1) == ((rd_T37 l1 x5_1).f1)) || (!(((rd_T37 l0 x5_1).f2) == ((rd_T37 l1 x5_1).f2)) || ((!(((rd_T37 l0 x5_1).f3.f0) == ((rd_T37 l1 x5_1).f3.f0)) || (!(((rd_T37 l0 x5_1).f3.f1) == ((rd_T37 l1 x5_1).f3.f1)))) || (!(((rd_T37 l0 x5_1).f4) == ((rd_T37 l1 x5_1).f4))))))) = true
              · rw [if_pos c7] at H
                have c7b0 : (!(((rd_T37 l0 x5_1).f0) == ((rd_T37 l1 x5_1).f0)) || (!(((rd_T37 l0 x5_1).f1) == ((rd_T37 l1 x5_1).f1)) || (!(((rd_T37 l0 x5_1).f2) == ((rd_T37 l1 x5_1).f2)) || ((!(((rd_T37 l0 x5_1).f3.f0) == ((rd_T37 l1 x5_1).f3.f0)) || (!(((rd_T37 l0 x5_1).f3.f1) == ((rd_T37 l1 x5_1).f3.f1)))) || (!(((rd_T37 l0 x5_1).f4) == ((rd_T37 l1 x5_1).f4))))))) = true := c7
                clear c7
                obtain rfl := Option.some.inj H
                have p111 : 0 ≤ (x5_1 : Int) := of_decide_eq_true (by first | (with_reducible assumption) | assumption)
                have q111 : x5_1 < (l0.length : Int) := of_decide_eq_true (by first | (with_reducible assumption) | assumption)
                obtain ⟨ad111, e111, hx111_0, hx111_1, hx111_2, hx111_3, hx111_4, hx111_5⟩ := at_T37 HR0.out x5_1 p111 q111
                cases e111
                replace p111 := eq_true p111
                replace q111 := eq_true q111
                have p112 : 0 ≤ (x5_1 : Int) := of_decide_eq_true (by first | (with_reducible assumption) | assumption)
                have q112 : x5_1 < (l1.length : Int) := of_decide_eq_true (by first | (with_reducible assumption) | assumption)
                obtain ⟨ad112, e112, hx112_0, hx112_1, hx112_2, hx112_3, hx112_4, hx112_5⟩ := at_T37 HR1.out x5_1 p112 q112
                cases e112
                replace p112 := eq_true p112
                replace q112 := eq_true q112
                go_wp2
                repeat (go_quiet (fail); try go_wp2)
                go_ret
                exact ⟨by first | rfl | (simp; done) | (simp [*]; done), by repeat (first | exact Drawn0.refl _ | apply Drawn0.step)⟩
              · rw [if_neg c7] at H
                have c7b0 : (!(((rd_T37 l0 x5_1).f0) == ((rd_T37 l1 x5_1).f0)) || (!(((rd_T37 l0 x5_1).f1) == ((rd_T37 l1 x5_1).f1)) || (!(((rd_T37 l0 x5_1).f2) == ((rd_T37 l1 x5_1).f2)) || ((!(((rd_T37 l0 x5_1).f3.f0) == ((rd_T37 l1 x5_1).f3.f0)) || (!(((rd_T37 l0 x5_1).f3.f1) == ((rd_T37 l1 x5_1).f3.f1)))) || (!(((rd_T37 l0 x5_1).f4) == ((rd_T37 l1 x5_1).f4))))))) = false := by simpa using c7
                clear c7
                have H' := Aside0.mk H
                clear H
                have p111 : 0 ≤ (x5_1 : Int) := of_decide_eq_true (by first | (with_reducible assumption) | assumption)
                have q111 : x5_1 < (l0.length : Int) := of_decide_eq_true (by first | (with_reducible assumption) | assumption)
                obtain ⟨ad111, e111, hx111_0, hx111_1, hx111_2, hx111_3, hx111_4, hx111_5⟩ := at_T37 HR0.out x5_1 p111 q111
                cases e111
                replace p111 := eq_true p111
                replace q111 := eq_true q111
                have p112 : 0 ≤ (x5_1 : Int) := of_decide_eq_true (by first | (with_reducible assumption) | assumption)
                have q112 : x5_1 < (l1.length : Int) := of_decide_eq_true (by first | (with_reducible assumption) | assumption)
                obtain ⟨ad112, e112, hx112_0, hx112_1, hx112_2, hx112_3, hx112_4, hx112_5⟩ := at_T37 HR1.out x5_1 p112 q112
                cases e112
                replace p112 := eq_true p112
                replace q112 := eq_true q112
                go_wp2
                repeat (go_quiet (fail); try go_wp2)
                go_roundg k1
                case measure => have := HK1.out; omega
                case rel => exact ⟨(wrap64 (x5_1 + 1)), (by first | rfl | (simp; done) | (simp [*]; done)), H', ⟨by have := HK1.out; omega⟩, by repeat (first | exact Drawn0.refl _ | apply Drawn0.step)⟩
            · rw [if_neg c6] at H
              exact absurd H (by simp)
          · rw [if_neg c5] at H
            exact absurd H (by simp)
        · rw [if_neg c4] at H
          have c4b0 : decide (x5_1 < (l0.length : Int)) = false := decide_eq_false c4
          clear c4
          obtain rfl := Option.some.inj H
          go_wp2
          repeat (go_quiet (fail); try go_wp2)
          go_ret
          exact ⟨by first | rfl | (simp; done) | (simp [*]; done), by repeat (first | exact Drawn0.refl _ | apply Drawn0.step)⟩
  · rw [if_neg c3] at H
    have c3b0 : ((l0.length : Int) == (l1.length : Int)) = false := beq_eq_false_iff_ne.mpr c3
    have c3b1 : ((l0.length : Int) != (l1.length : Int)) = true := bne_iff_ne.mpr c3
    have c3b2 : (l0.length == l1.length) = false := by first | simpa using c3 | (simp at c3 ⊢; omega)
    obtain rfl := Option.some.inj H
    go_enter Try.func15, Try.ntmps15
    go_wp2
    repeat (go_quiet (fail); try go_wp2)
    go_ret
    exact ⟨by first | rfl | (simp; done) | (simp [*]; done), by repeat (first | exact Drawn0.refl _ | apply Drawn0.step)⟩

/-! ### merkhetlaw04_Great: function 11 -/
def merkhetlaw04_Great.l0 : Nat → List (S42) → Int → Int → Option (Bool)
  | 0, _, _, _ => none
  | k + 1, x8, x9, x10 => if x10 < x9 then (if 0 ≤ x10 then (if x10 < (x8.length : Int) then (if (((rd_T42 x8 x10).f4).size : Int) > 100 then (some true) else (if (((rd_T42 x8 x10).f5).size : Int) > 100 then (some true) else (merkhetlaw04_Great.l0 k x8 x9 (wrap64 (x10 + 1))))) else (none)) else (none)) else (some false)
def merkhetlaw04_Great.f (k : Nat) (l0 : List (S42)) : Option (Bool) := if (l0.length : Int) > 60 then (some true) else (merkhetlaw04_Great.l0 k l0 (l0.length : Int) 0)
theorem merkhetlaw04_Great.mono_l : ∀ k, (∀ y0 y1 y2, LeO (merkhetlaw04_Great.l0 k y0 y1 y2) (merkhetlaw04_Great.l0 (k + 1) y0 y1 y2))
  | 0 => fun _ _ _ r h => by simp [merkhetlaw04_Great.l0] at h
  | k + 1 => by
    have ih0 := merkhetlaw04_Great.mono_l k
    · intro y0 y1 y2
      unfold merkhetlaw04_Great.l0
      repeat' first
      | (with_reducible exact ih0 _ _ _)
      | (with_reducible exact LeO.refl _)
      | (with_reducible exact LeO.none _)
      | (with_reducible refine LeO.ite ?_ ?_)
      | (with_reducible refine LeO.bind ?_ (fun _ => ?_))
      | exact ih0 _ _ _
      | exact LeO.none _
      | refine LeO.ite ?_ ?_
      | refine LeO.bind ?_ (fun _ => ?_)
theorem merkhetlaw04_Great.mono : ∀ a0 k, LeO (merkhetlaw04_Great.f k a0) (merkhetlaw04_Great.f (k + 1) a0) := by
  intro a0 k
  have ih0 := merkhetlaw04_Great.mono_l k
  unfold merkhetlaw04_Great.f
  repeat' first
      | (with_reducible exact ih0 _ _ _)
      | (with_reducible exact LeO.refl _)
      | (with_reducible exact LeO.none _)
      | (with_reducible refine LeO.ite ?_ ?_)
      | (with_reducible refine LeO.bind ?_ (fun _ => ?_))
      | exact ih0 _ _ _
      | exact LeO.none _
      | refine LeO.ite ?_ ?_
      | refine LeO.bind ?_ (fun _ => ?_)
set_option maxHeartbeats 8000000 in
set_option maxRecDepth 100000 in
theorem merkhetlaw04_Great.calls (k : Nat) (A0 : Option Addr) (c0 : Nat) (l0 : List (S42)) (r : Bool) (w : World) (hr0 : Kd.C k42 w A0 l0.length l0) (hc0 : l0.length ≤ c0) (h : merkhetlaw04_Great.f k l0 = some r) :
    Calls Try.prog 11 #[.slice A0 l0.length c0] w fun e w' => e = .returned (.bool r) ∧ Below w.heap.size w w' := by
  have hu42 := Try.underlying42
  have HR0 := Aside0.mk hr0
  have HC0 := Aside0.mk hc0
  clear hr0 hc0
  have HB := Aside0.mk (Below.refl w.heap.size w)
  have H : (if (l0.length : Int) > 60 then (some true) else (merkhetlaw04_Great.l0 k l0 (l0.length : Int) 0)) = some r := h
  clear h
  by_cases c2 : (l0.length : Int) > 60
  · rw [if_pos c2] at H
    have c2b0 : decide (60 < (l0.length : Int)) = true := decide_eq_true c2
    have c2b1 : decide (60 < l0.length) = true := decide_eq_true (by omega)
    clear c2
    obtain rfl := Option.some.inj H
    go_enter Try.func11, Try.ntmps11
    go_wp2
    go_ret
    exact ⟨by first | rfl | (simp [errW_none, errW_some] <;> rfl) | (simp [*, errW_none, errW_some] <;> rfl), by repeat (first | (with_reducible first | exact HB.out | apply below_alloc | apply pw_below_drewN | apply below_drew1) | exact HB.out)⟩
  · rw [if_neg c2] at H
    have c2b0 : decide (60 < (l0.length : Int)) = false := decide_eq_false c2
    have c2b1 : decide (60 < l0.length) = false := decide_eq_false (by omega)
    clear c2
    have H' := Aside0.mk H
    clear H
    go_enter Try.func11, Try.ntmps11
    go_wp2
    go_loopg [10] k (fun kq v10 w' => ∃ (x10_1 : Int), v10 = .int .i64 x10_1 ∧ Aside0 (merkhetlaw04_Great.l0 kq l0 (l0.length : Int) x10_1 = some r) ∧ Aside0 (kq ≤ k) ∧ Aside0 (Below w.heap.size w w'))
    case atStart => exact ⟨(0), (by first | rfl | (simp; done) | (simp [*]; done)), H', ⟨Nat.le_refl _⟩, ⟨by repeat (first | (with_reducible first | exact HB.out | apply below_alloc | apply pw_below_drewN | apply below_drew1) | exact HB.out)⟩⟩
    case round =>
      clear H'
      try clear c1
      try clear c2
      try clear c2b0
      try clear c2b1
      try clear p2
      obtain ⟨x10_1, rfl, HA, HK1, HB⟩ := hrel
      cases gk with
      | zero => exact absurd HA.out (by simp [merkhetlaw04_Great.l0])
      | succ k1 =>
        have H := HA.out
        clear HA
        simp only [merkhetlaw04_Great.l0] at H
        by_cases c3 : x10_1 < (l0.length : Int)
        · rw [if_pos c3] at H
          have c3b0 : decide (x10_1 < (l0.length : Int)) = true := decide_eq_true c3
          clear c3
          by_cases c4 : 0 ≤ x10_1
          · rw [if_pos c4] at H
            have c4b0 : decide (0 ≤ x10_1) = true := decide_eq_true c4
            clear c4
            by_cases c5 : x10_1 < (l0.length : Int)
            · rw [if_pos c5] at H
              have c5b0 : decide (x10_1 < (l0.length : Int)) = true := decide_eq_true c5
              clear c5
              by_cases c6 : (((rd_T42 l0 x10_1).f4).size : Int) > 100
              · rw [if_pos c6] at H
                have c6b0 : decide (100 < (((rd_T42 l0 x10_1).f4).size : Int)) = true := decide_eq_true c6
                have c6b1 : decide (100 < ((rd_T42 l0 x10_1).f4).size) = true := decide_eq_true (by omega)
                clear c6
                obtain rfl := Option.some.inj H
                have p113 : 0 ≤ (x10_1 : Int) := of_decide_eq_true (by first | (with_reducible assumption) | assumption)
                have q113 : x10_1 < (l0.length : Int) := of_decide_eq_true (by first | (with_reducible assumption) | assumption)
                obtain ⟨ad113, e113, hx113_0, hx113_1, hx113_2, hx113_3, hx113_4, hx113_5, hx113_6, hx113_7⟩ := at_T42 HR0.out x10_1 p113 q113
                cases e113
                replace hx113_0 := (HB.out.cell (World.block_lt_of_cell? w _ hx113_0)).trans hx113_0
                replace hx113_1 := (HB.out.cell (World.block_lt_of_cell? w _ hx113_1)).trans hx113_1
                replace hx113_2 := (HB.out.cell (World.block_lt_of_cell? w _ hx113_2)).trans hx113_2
                replace hx113_3 := (HB.out.cell (World.block_lt_of_cell? w _ hx113_3)).trans hx113_3
                replace hx113_4 := (HB.out.cell (World.block_lt_of_cell? w _ hx113_4)).trans hx113_4
                replace hx113_5 := (HB.out.cell (World.block_lt_of_cell? w _ hx113_5)).trans hx113_5
                replace hx113_6 := (HB.out.cell (World.block_lt_of_cell? w _ hx113_6)).trans hx113_6
                replace hx113_7 := (HB.out.cell (World.block_lt_of_cell? w _ hx113_7)).trans hx113_7
                replace p113 := eq_true p113
                replace q113 := eq_true q113
                go_wp2_with (first | ((with_reducible refine gate_dst (N := 4) rfl ?_); (try (refine gate_guard (by rfl) ?_; dsimp only)); refine box_event ?hg (N := 4) ?hd (cs := #[.int .u64 0, .int .u64 0, .int .u64 0, .int .u8 0, .string (⟨#[]⟩ : ByteArray), .string (⟨#[]⟩ : ByteArray), .int .i64 0, .int .i64 0]) (t := 42) ?hr ?_; (case hd => rfl); (case hg => rfl); (case hr => first | (go_simp; done) | (go_simp; rfl)); intro gb114 hg w7 hbox hb; have n0_ := Aside0.mk (below_step (by repeat (first | (with_reducible first | exact HB.out | apply below_alloc | apply pw_below_drewN | apply below_drew1) | exact HB.out)) hb); have n1_ := Aside0.mk (hbox); have n2_ := Aside0.mk ((by rw [hg]; exact (below_size (by repeat (first | (with_reducible first | exact HB.out | apply below_alloc | apply pw_below_drewN | apply below_drew1) | exact HB.out))) : w.heap.size ≤ gb114)); have n3_ := Aside0.mk ((by rw [hg]; exact (below_size (by repeat (first | (with_reducible first | exact HB.out | apply below_alloc | apply pw_below_drewN | apply below_drew1) | exact HB.out))) : w.heap.size ≤ gb114)); clear HB; have HB := n0_; have BK114 := n1_; have GW114 := n2_; have GE114 := n3_; clear n0_ n1_ n2_ n3_; clear hb hbox hg; have hcz8_0 : w7.cell? ⟨gb114, 0, none⟩ = some (.int .u64 0) := (blk_cell BK114.out 0).trans rfl; have hcz8_1 : w7.cell? ⟨gb114, 1, none⟩ = some (.int .u64 0) := (blk_cell BK114.out 1).trans rfl; have hcz8_2 : w7.cell? ⟨gb114, 2, none⟩ = some (.int .u64 0) := (blk_cell BK114.out 2).trans rfl; have hcz8_3 : w7.cell? ⟨gb114, 3, none⟩ = some (.int .u8 0) := (blk_cell BK114.out 3).trans rfl; have hcz8_4 : w7.cell? ⟨gb114, 4, none⟩ = some (.string (⟨#[]⟩ : ByteArray)) := (blk_cell BK114.out 4).trans rfl; have hcz8_5 : w7.cell? ⟨gb114, 5, none⟩ = some (.string (⟨#[]⟩ : ByteArray)) := (blk_cell BK114.out 5).trans rfl; have hcz8_6 : w7.cell? ⟨gb114, 6, none⟩ = some (.int .i64 0) := (blk_cell BK114.out 6).trans rfl; have hcz8_7 : w7.cell? ⟨gb114, 7, none⟩ = some (.int .i64 0) := (blk_cell BK114.out 7).trans rfl; have hfz8_0 := blk_frozen BK114.out 0; have hfz8_1 := blk_frozen BK114.out 1; have hfz8_2 := blk_frozen BK114.out 2; have hfz8_3 := blk_frozen BK114.out 3; have hfz8_4 := blk_frozen BK114.out 4; have hfz8_5 := blk_frozen BK114.out 5; have hfz8_6 := blk_frozen BK114.out 6; have hfz8_7 := blk_frozen BK114.out 7))
                go_ret
                exact ⟨by first | rfl | (simp [errW_none, errW_some] <;> rfl) | (simp [*, errW_none, errW_some] <;> rfl), by repeat (first | (with_reducible first | exact HB.out | apply below_alloc | apply pw_below_drewN | apply below_drew1 | refine below_set ?_ GE114.out) | exact HB.out)⟩
              · rw [if_neg c6] at H
                have c6b0 : decide (100 < (((rd_T42 l0 x10_1).f4).size : Int)) = false := decide_eq_false c6
                have c6b1 : decide (100 < ((rd_T42 l0 x10_1).f4).size) = false := decide_eq_false (by omega)
                clear c6
                by_cases c9 : (((rd_T42 l0 x10_1).f5).size : Int) > 100
                · rw [if_pos c9] at H
                  have c9b0 : decide (100 < (((rd_T42 l0 x10_1).f5).size : Int)) = true := decide_eq_true c9
                  have c9b1 : decide (100 < ((rd_T42 l0 x10_1).f5).size) = true := decide_eq_true (by omega)
                  clear c9
                  obtain rfl := Option.some.inj H
                  have p113 : 0 ≤ (x10_1 : Int) := of_decide_eq_true (by first | (with_reducible assumption) | assumption)
                  have q113 : x10_1 < (l0.length : Int) := of_decide_eq_true (by first | (with_reducible assumption) | assumption)
                  obtain ⟨ad113, e113, hx113_0, hx113_1, hx113_2, hx113_3, hx113_4, hx113_5, hx113_6, hx113_7⟩ := at_T42 HR0.out x10_1 p113 q113
                  cases e113
                  replace hx113_0 := (HB.out.cell (World.block_lt_of_cell? w _ hx113_0)).trans hx113_0
                  replace hx113_1 := (HB.out.cell (World.block_lt_of_cell? w _ hx113_1)).trans hx113_1
                  replace hx113_2 := (HB.out.cell (World.block_lt_of_cell? w _ hx113_2)).trans hx113_2
                  replace hx113_3 := (HB.out.cell (World.block_lt_of_cell? w _ hx113_3)).trans hx113_3
                  replace hx113_4 := (HB.out.cell (World.block_lt_of_cell? w _ hx113_4)).trans hx113_4
                  replace hx113_5 := (HB.out.cell (World.block_lt_of_cell? w _ hx113_5)).trans hx113_5
                  replace hx113_6 := (HB.out.cell (World.block_lt_of_cell? w _ hx113_6)).trans hx113_6
                  replace hx113_7 := (HB.out.cell (World.block_lt_of_cell? w _ hx113_7)).trans hx113_7
                  replace p113 := eq_true p113
                  replace q113 := eq_true q113
                  go_wp2_with (first | ((with_reducible refine gate_dst (N := 4) rfl ?_); (try (refine gate_guard (by rfl) ?_; dsimp only)); refine box_event ?hg (N := 4) ?hd (cs := #[.int .u64 0, .int .u64 0, .int .u64 0, .int .u8 0, .string (⟨#[]⟩ : ByteArray), .string (⟨#[]⟩ : ByteArray), .int .i64 0, .int .i64 0]) (t := 42) ?hr ?_; (case hd => rfl); (case hg => rfl); (case hr => first | (go_simp; done) | (go_simp; rfl)); intro gb114 hg w10 hbox hb; have n0_ := Aside0.mk (below_step (by repeat (first | (with_reducible first | exact HB.out | apply below_alloc | apply pw_below_drewN | apply below_drew1) | exact HB.out)) hb); have n1_ := Aside0.mk (hbox); have n2_ := Aside0.mk ((by rw [hg]; exact (below_size (by repeat (first | (with_reducible first | exact HB.out | apply below_alloc | apply pw_below_drewN | apply below_drew1) | exact HB.out))) : w.heap.size ≤ gb114)); have n3_ := Aside0.mk ((by rw [hg]; exact (below_size (by repeat (first | (with_reducible first | exact HB.out | apply below_alloc | apply pw_below_drewN | apply below_drew1) | exact HB.out))) : w.heap.size ≤ gb114)); clear HB; have HB := n0_; have BK114 := n1_; have GW114 := n2_; have GE114 := n3_; clear n0_ n1_ n2_ n3_; clear hb hbox hg; have hcz11_0 : w10.cell? ⟨gb114, 0, none⟩ = some (.int .u64 0) := (blk_cell BK114.out 0).trans rfl; have hcz11_1 : w10.cell? ⟨gb114, 1, none⟩ = some (.int .u64 0) := (blk_cell BK114.out 1).trans rfl; have hcz11_2 : w10.cell? ⟨gb114, 2, none⟩ = some (.int .u64 0) := (blk_cell BK114.out 2).trans rfl; have hcz11_3 : w10.cell? ⟨gb114, 3, none⟩ = some (.int .u8 0) := (blk_cell BK114.out 3).trans rfl; have hcz11_4 : w10.cell? ⟨gb114, 4, none⟩ = some (.string (⟨#[]⟩ : ByteArray)) := (blk_cell BK114.out 4).trans rfl; have hcz11_5 : w10.cell? ⟨gb114, 5, none⟩ = some (.string (⟨#[]⟩ : ByteArray)) := (blk_cell BK114.out 5).trans rfl; have hcz11_6 : w10.cell? ⟨gb114, 6, none⟩ = some (.int .i64 0) := (blk_cell BK114.out 6).trans rfl; have hcz11_7 : w10.cell? ⟨gb114, 7, none⟩ = some (.int .i64 0) := (blk_cell BK114.out 7).trans rfl; have hfz11_0 := blk_frozen BK114.out 0; have hfz11_1 := blk_frozen BK114.out 1; have hfz11_2 := blk_frozen BK114.out 2; have hfz11_3 := blk_frozen BK114.out 3; have hfz11_4 := blk_frozen BK114.out 4; have hfz11_5 := blk_frozen BK114.out 5; have hfz11_6 := blk_frozen BK114.out 6; have hfz11_7 := blk_frozen BK114.out 7))
                  go_ret
                  exact ⟨by first | rfl | (simp [errW_none, errW_some] <;> rfl) | (simp [*, errW_none, errW_some] <;> rfl), by repeat (first | (with_reducible first | exact HB.out | apply below_alloc | apply pw_below_drewN | apply below_drew1 | refine below_set ?_ GE114.out) | exact HB.out)⟩
                · rw [if_neg c9] at H
                  have c9b0 : decide (100 < (((rd_T42 l0 x10_1).f5).size : Int)) = false := decide_eq_false c9
                  have c9b1 : decide (100 < ((rd_T42 l0 x10_1).f5).size) = false := decide_eq_false (by omega)
                  clear c9
                  have H' := Aside0.mk H
                  clear H
                  have p113 : 0 ≤ (x10_1 : Int) := of_decide_eq_true (by first | (with_reducible assumption) | assumption)
                  have q113 : x10_1 < (l0.length : Int) := of_decide_eq_true (by first | (with_reducible assumption) | assumption)
                  obtain ⟨ad113, e113, hx113_0, hx113_1, hx113_2, hx113_3, hx113_4, hx113_5, hx113_6, hx113_7⟩ := at_T42 HR0.out x10_1 p113 q113
                  cases e113
                  replace hx113_0 := (HB.out.cell (World.block_lt_of_cell? w _ hx113_0)).trans hx113_0
                  replace hx113_1 := (HB.out.cell (World.block_lt_of_cell? w _ hx113_1)).trans hx113_1
                  replace hx113_2 := (HB.out.cell (World.block_lt_of_cell? w _ hx113_2)).trans hx113_2
                  replace hx113_3 := (HB.out.cell (World.block_lt_of_cell? w _ hx113_3)).trans hx113_3
                  replace hx113_4 := (HB.out.cell (World.block_lt_of_cell? w _ hx113_4)).trans hx113_4
                  replace hx113_5 := (HB.out.cell (World.block_lt_of_cell? w _ hx113_5)).trans hx113_5
                  replace hx113_6 := (HB.out.cell (World.block_lt_of_cell? w _ hx113_6)).trans hx113_6
                  replace hx113_7 := (HB.out.cell (World.block_lt_of_cell? w _ hx113_7)).trans hx113_7
                  replace p113 := eq_true p113
                  replace q113 := eq_true q113
                  go_wp2_with (first | ((with_reducible refine gate_dst (N := 4) rfl ?_); (try (refine gate_guard (by rfl) ?_; dsimp only)); refine box_event ?hg (N := 4) ?hd (cs := #[.int .u64 0, .int .u64 0, .int .u64 0, .int .u8 0, .string (⟨#[]⟩ : ByteArray), .string (⟨#[]⟩ : ByteArray), .int .i64 0, .int .i64 0]) (t := 42) ?hr ?_; (case hd => rfl); (case hg => rfl); (case hr => first | (go_simp; done) | (go_simp; rfl)); intro gb114 hg w12 hbox hb; have n0_ := Aside0.mk (below_step (by repeat (first | (with_reducible first | exact HB.out | apply below_alloc | apply pw_below_drewN | apply below_drew1) | exact HB.out)) hb); have n1_ := Aside0.mk (hbox); have n2_ := Aside0.mk ((by rw [hg]; exact (below_size (by repeat (first | (with_reducible first | exact HB.out | apply below_alloc | apply pw_below_drewN | apply below_drew1) | exact HB.out))) : w.heap.size ≤ gb114)); have n3_ := Aside0.mk ((by rw [hg]; exact (below_size (by repeat (first | (with_reducible first | exact HB.out | apply below_alloc | apply pw_below_drewN | apply below_drew1) | exact HB.out))) : w.heap.size ≤ gb114)); clear HB; have HB := n0_; have BK114 := n1_; have GW114 := n2_; have GE114 := n3_; clear n0_ n1_ n2_ n3_; clear hb hbox hg; have hcz13_0 : w12.cell? ⟨gb114, 0, none⟩ = some (.int .u64 0) := (blk_cell BK114.out 0).trans rfl; have hcz13_1 : w12.cell? ⟨gb114, 1, none⟩ = some (.int .u64 0) := (blk_cell BK114.out 1).trans rfl; have hcz13_2 : w12.cell? ⟨gb114, 2, none⟩ = some (.int .u64 0) := (blk_cell BK114.out 2).trans rfl; have hcz13_3 : w12.cell? ⟨gb114, 3, none⟩ = some (.int .u8 0) := (blk_cell BK114.out 3).trans rfl; have hcz13_4 : w12.cell? ⟨gb114, 4, none⟩ = some (.string (⟨#[]⟩ : ByteArray)) := (blk_cell BK114.out 4).trans rfl; have hcz13_5 : w12.cell? ⟨gb114, 5, none⟩ = some (.string (⟨#[]⟩ : ByteArray)) := (blk_cell BK114.out 5).trans rfl; have hcz13_6 : w12.cell? ⟨gb114, 6, none⟩ = some (.int .i64 0) := (blk_cell BK114.out 6).trans rfl; have hcz13_7 : w12.cell? ⟨gb114, 7, none⟩ = some (.int .i64 0) := (blk_cell BK114.out 7).trans rfl; have hfz13_0 := blk_frozen BK114.out 0; have hfz13_1 := blk_frozen BK114.out 1; have hfz13_2 := blk_frozen BK114.out 2; have hfz13_3 := blk_frozen BK114.out 3; have hfz13_4 := blk_frozen BK114.out 4; have hfz13_5 := blk_frozen BK114.out 5; have hfz13_6 := blk_frozen BK114.out 6; have hfz13_7 := blk_frozen BK114.out 7))
                  go_roundg k1
                  case measure => have := HK1.out; omega
                  case rel => exact ⟨(wrap64 (x10_1 + 1)), (by first | rfl | (simp; done) | (simp [*]; done)), H', ⟨by have := HK1.out; omega⟩, ⟨by repeat (first | (with_reducible first | exact HB.out | apply below_alloc | apply pw_below_drewN | apply below_drew1 | refine below_set ?_ GE114.out) | exact HB.out)⟩⟩
            · rw [if_neg c5] at H
              exact absurd H (by simp)
          · rw [if_neg c4] at H
            exact absurd H (by simp)
        · rw [if_neg c3] at H
          have c3b0 : decide (x10_1 < (l0.length : Int)) = false := decide_eq_false c3
          clear c3
          obtain rfl := Option.some.inj H
          go_wp2
          go_ret
          exact ⟨by first | rfl | (simp [errW_none, errW_some] <;> rfl) | (simp [*, errW_none, errW_some] <;> rfl), by repeat (first | (with_reducible first | exact HB.out | apply below_alloc | apply pw_below_drewN | apply below_drew1) | exact HB.out)⟩

end Go.Proofs.Ytjgpggjjgimibaa.Q
