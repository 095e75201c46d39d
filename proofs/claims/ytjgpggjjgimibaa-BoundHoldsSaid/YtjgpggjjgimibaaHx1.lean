-- Written by wip/tools/gp.py, a program of this session round the kit's printer. Lean checks it.
import Derived.Test.YtjgpggjjgimibaaHx0
import Derived.Test.YtjgpggjjgimibaaQx3
namespace Go.Proofs.Ytjgpggjjgimibaa.H
open Go.RowKit Go.Proofs.Ytjgpggjjgimibaa.Q Go.Proofs.YtjgpggjjgimibaaW.PrintWords Go.Proofs.YtjgpggjjgimibaaW.PrintLast Go.Proofs.YtjgpggjjgimibaaW.PrintMore
attribute [local go_sem] max2_int min2_int max_two min_two max_three min_three max_four min_four   -- for this text's walks alone
set_option linter.unusedVariables false
set_option linter.unusedSimpArgs false

/-! ### merkhetlaw14_fixed: function 12 (given) -/
def merkhetlaw14_fixed.f : Option Bool := some true
theorem merkhetlaw14_fixed.calls (r : Bool) (w : World) (h : merkhetlaw14_fixed.f = some r) :
    Calls Try.prog 12 #[] w fun e w' => e = .returned (.bool r) ∧ Below w.heap.size w w' := by
  obtain rfl := Option.some.inj h
  exact L.fixed_calls w

/-! ### bound_Holds: function 18 (given) -/
def bound_Holds.f (a0_0 a0_1 a0_2 a0_3 a0_4 : Int) (a0_5 : Bool) (l1 : List Int) : Option Bool := if (∀ x ∈ l1, L.inI x) ∧ L.inI a0_2 then some (L.holdsB ⟨a0_0, a0_1, a0_2, ⟨a0_3, a0_4⟩, a0_5⟩ l1) else none
theorem bound_Holds.calls (a0_0 : Int) (a0_1 : Int) (a0_2 : Int) (a0_3 : Int) (a0_4 : Int) (a0_5 : Bool) (A1 : Option Addr) (c1 : Nat) (l1 : List Int) (r : Bool) (w : World) (hr1 : Kd.C (Kd.int .i64) w A1 l1.length l1) (hc1 : l1.length ≤ c1) (h : bound_Holds.f a0_0 a0_1 a0_2 a0_3 a0_4 a0_5 l1 = some r) :
    Calls Try.prog 18 #[.agg #[.int .i64 a0_0, .int .i64 a0_1, .int .i64 a0_2, .int .i64 a0_3, .int .i64 a0_4, .bool a0_5], .slice A1 l1.length c1] w fun e w' => e = .returned (.bool r) ∧ Below w.heap.size w w' := by
  unfold bound_Holds.f at h
  split at h
  · rename_i hl
    obtain rfl := Option.some.inj h
    exact L.holds_calls ⟨a0_0, a0_1, a0_2, ⟨a0_3, a0_4⟩, a0_5⟩ l1 hl.1 hl.2 A1 c1 w hr1 hc1
  · cases h

/-! ### bound_All: function 20 (given) -/
def bound_All.f (l0 : List S37) (l1 : List Int) : Option Bool := if (∀ x ∈ l1, L.inI x) ∧ (∀ e ∈ l0, L.inI e.f2) ∧ l0.length ≤ 1000000000 then some (l0.all (fun e => L.holdsB e l1)) else none
theorem bound_All.calls (A0 : Option Addr) (c0 : Nat) (l0 : List (S37)) (A1 : Option Addr) (c1 : Nat) (l1 : List Int) (r : Bool) (w : World) (hr0 : Kd.C k37 w A0 l0.length l0) (hc0 : l0.length ≤ c0) (hr1 : Kd.C (Kd.int .i64) w A1 l1.length l1) (hc1 : l1.length ≤ c1) (h : bound_All.f l0 l1 = some r) :
    Calls Try.prog 20 #[.slice A0 l0.length c0, .slice A1 l1.length c1] w fun e w' => e = .returned (.bool r) ∧ Below w.heap.size w w' := by
  unfold bound_All.f at h
  split at h
  · rename_i hl
    obtain rfl := Option.some.inj h
    exact L.all_calls l0 l1 hl.1 hl.2.1 hl.2.2 A0 A1 c0 c1 w hr0 hr1 hc1
  · cases h

/-! ### merkhetlaw14_BoundHolds: function 4 -/
mutual
def merkhetlaw14_BoundHolds.j0 : Nat → List (S37) → List Int → Bool → Option (Bool)
  | 0, _, _, _ => none
  | k + 1, x0, x1, x14 => if x14 = true then ((merkhetlaw14_fixed.f).bind fun t101 => (some t101)) else (merkhetlaw14_BoundHolds.l0 k x0 x1 x0 (x0.length : Int) 0)
def merkhetlaw14_BoundHolds.l0 : Nat → List (S37) → List Int → List (S37) → Int → Int → Option (Bool)
  | 0, _, _, _, _, _ => none
  | k + 1, x0, x1, x16, x17, x18 => if x18 < x17 then (if 0 ≤ x18 then (if x18 < (x16.length : Int) then ((bound_Holds.f ((rd_T37 x16 x18).f0) ((rd_T37 x16 x18).f1) ((rd_T37 x16 x18).f2) ((rd_T37 x16 x18).f3.f0) ((rd_T37 x16 x18).f3.f1) ((rd_T37 x16 x18).f4) x1).bind fun t104 => ((merkhetref14_Holds.f k ((rd_T37 x16 x18).f0) ((rd_T37 x16 x18).f1) ((rd_T37 x16 x18).f2) ((rd_T37 x16 x18).f3.f0) ((rd_T37 x16 x18).f3.f1) ((rd_T37 x16 x18).f4) x1).bind fun t105 => (if (t104 != t105) = true then (some false) else (merkhetlaw14_BoundHolds.l0 k x0 x1 x16 x17 (wrap64 (x18 + 1)))))) else (none)) else (none)) else ((merkhetlaw14_fixed.f).bind fun t106 => (if t106 = true then ((bound_All.f x0 x1).bind fun t107 => ((merkhetref14_All.f k x0 x1).bind fun t108 => (some (t107 == t108)))) else (some false)))
end
def merkhetlaw14_BoundHolds.f (k : Nat) (l0 : List (S37)) (l1 : List Int) : Option (Bool) := if (l0.length : Int) > 100 then (merkhetlaw14_BoundHolds.j0 k l0 l1 true) else (merkhetlaw14_BoundHolds.j0 k l0 l1 (decide ((l1.length : Int) > 100)))
theorem merkhetlaw14_BoundHolds.mono_l : ∀ k, (∀ y0 y1 y2, LeO (merkhetlaw14_BoundHolds.j0 k y0 y1 y2) (merkhetlaw14_BoundHolds.j0 (k + 1) y0 y1 y2)) ∧ (∀ y0 y1 y2 y3 y4, LeO (merkhetlaw14_BoundHolds.l0 k y0 y1 y2 y3 y4) (merkhetlaw14_BoundHolds.l0 (k + 1) y0 y1 y2 y3 y4))
  | 0 => ⟨fun _ _ _ r h => by simp [merkhetlaw14_BoundHolds.j0] at h, fun _ _ _ _ _ r h => by simp [merkhetlaw14_BoundHolds.l0] at h⟩
  | k + 1 => by
    obtain ⟨ih0, ih1⟩ := merkhetlaw14_BoundHolds.mono_l k
    refine ⟨?_, ?_⟩
    · intro y0 y1 y2
      unfold merkhetlaw14_BoundHolds.j0
      repeat' first
      | (with_reducible exact ih0 _ _ _)
      | (with_reducible exact ih1 _ _ _ _ _)
      | (with_reducible exact merkhetref14_All.mono _ _ _)
      | (with_reducible exact merkhetref14_Holds.mono _ _ _ _ _ _ _ _)
      | (with_reducible exact LeO.refl _)
      | (with_reducible exact LeO.none _)
      | (with_reducible refine LeO.ite ?_ ?_)
      | (with_reducible refine LeO.bind ?_ (fun _ => ?_))
      | exact ih0 _ _ _
      | exact ih1 _ _ _ _ _
      | exact merkhetref14_All.mono _ _ _
      | exact merkhetref14_Holds.mono _ _ _ _ _ _ _ _
      | exact LeO.none _
      | refine LeO.ite ?_ ?_
      | refine LeO.bind ?_ (fun _ => ?_)
    · intro y0 y1 y2 y3 y4
      unfold merkhetlaw14_BoundHolds.l0
      repeat' first
      | (with_reducible exact ih0 _ _ _)
      | (with_reducible exact ih1 _ _ _ _ _)
      | (with_reducible exact merkhetref14_All.mono _ _ _)
      | (with_reducible exact merkhetref14_Holds.mono _ _ _ _ _ _ _ _)
      | (with_reducible exact LeO.refl _)
      | (with_reducible exact LeO.none _)
      | (with_reducible refine LeO.ite ?_ ?_)
      | (with_reducible refine LeO.bind ?_ (fun _ => ?_))
      | exact ih0 _ _ _
      | exact ih1 _ _ _ _ _
      | exact merkhetref14_All.mono _ _ _
      | exact merkhetref14_Holds.mono _ _ _ _ _ _ _ _
      | exact LeO.none _
      | refine LeO.ite ?_ ?_
      | refine LeO.bind ?_ (fun _ => ?_)
theorem merkhetlaw14_BoundHolds.mono : ∀ a0 a1 k, LeO (merkhetlaw14_BoundHolds.f k a0 a1) (merkhetlaw14_BoundHolds.f (k + 1) a0 a1) := by
  intro a0 a1 k
  obtain ⟨ih0, ih1⟩ := merkhetlaw14_BoundHolds.mono_l k
  unfold merkhetlaw14_BoundHolds.f
  repeat' first
      | (with_reducible exact ih0 _ _ _)
      | (with_reducible exact ih1 _ _ _ _ _)
      | (with_reducible exact merkhetref14_All.mono _ _ _)
      | (with_reducible exact merkhetref14_Holds.mono _ _ _ _ _ _ _ _)
      | (with_reducible exact LeO.refl _)
      | (with_reducible exact LeO.none _)
      | (with_reducible refine LeO.ite ?_ ?_)
      | (with_reducible refine LeO.bind ?_ (fun _ => ?_))
      | exact ih0 _ _ _
      | exact ih1 _ _ _ _ _
      | exact merkhetref14_All.mono _ _ _
      | exact merkhetref14_Holds.mono _ _ _ _ _ _ _ _
      | exact LeO.none _
      | refine LeO.ite ?_ ?_
      | refine LeO.bind ?_ (fun _ => ?_)
set_option maxHeartbeats 8000000 in
set_option maxRecDepth 100000 in
theorem merkhetlaw14_BoundHolds.calls (k : Nat) (A0 : Option Addr) (c0 : Nat) (l0 : List (S37)) (A1 : Option Addr) (c1 : Nat) (l1 : List Int) (r : Bool) (w : World) (hr0 : Kd.C k37 w A0 l0.length l0) (hc0 : l0.length ≤ c0) (hr1 : Kd.C (Kd.int .i64) w A1 l1.length l1) (hc1 : l1.length ≤ c1) (h : merkhetlaw14_BoundHolds.f k l0 l1 = some r) :
    Calls Try.prog 4 #[.slice A0 l0.length c0, .slice A1 l1.length c1] w fun e w' => e = .returned (.bool r) ∧ Below w.heap.size w w' := by
  have hu37 := Try.underlying37
  have HR0 := Aside0.mk hr0
  have HC0 := Aside0.mk hc0
  clear hr0 hc0
  have HR1 := Aside0.mk hr1
  have HC1 := Aside0.mk hc1
  clear hr1 hc1
  have HB := Aside0.mk (Below.refl w.heap.size w)
  have H : (if (l0.length : Int) > 100 then (merkhetlaw14_BoundHolds.j0 k l0 l1 true) else (merkhetlaw14_BoundHolds.j0 k l0 l1 (decide ((l1.length : Int) > 100)))) = some r := h
  clear h
  have HC3 := Aside0.mk H
  clear H
  go_enter Try.func4, Try.ntmps4
  go_upto_region 1 with (fail)
  go_cut [14] (fun v14 wc => ∃ (kq : Nat) (x14_2 : Bool), v14 = .bool x14_2 ∧ Aside0 (merkhetlaw14_BoundHolds.j0 kq l0 l1 x14_2 = some r) ∧ Aside0 (kq ≤ k) ∧ Aside0 (Below w.heap.size w wc))
  case first =>
    have H := HC3.out
    clear HC3
    by_cases c4 : (l0.length : Int) > 100
    · rw [if_pos c4] at H
      have c4b0 : decide (100 < (l0.length : Int)) = true := decide_eq_true c4
      have c4b1 : decide (100 < l0.length) = true := decide_eq_true (by omega)
      clear c4
      (first | rw [c4b0] | (simp only [i64_w, i32_w]; rw [c4b0]) | skip)
      have H' := Aside0.mk H
      clear H
      go_wp2
      go_meet
      case rel => exact ⟨_, (true), (by first | rfl | (simp; done) | (simp [*]; done)), H', ⟨by first | omega | exact Nat.le_refl _⟩, ⟨by repeat (first | (with_reducible first | exact HB.out | apply below_alloc | apply pw_below_drewN | apply below_drew1) | exact HB.out)⟩⟩
    · rw [if_neg c4] at H
      have c4b0 : decide (100 < (l0.length : Int)) = false := decide_eq_false c4
      have c4b1 : decide (100 < l0.length) = false := decide_eq_false (by omega)
      clear c4
      (first | rw [c4b0] | (simp only [i64_w, i32_w]; rw [c4b0]) | skip)
      have H' := Aside0.mk H
      clear H
      go_wp2
      go_meet
      case rel => exact ⟨_, (decide ((l1.length : Int) > 100)), (by first | rfl | (simp; done) | (simp [*]; done)), H', ⟨by first | omega | exact Nat.le_refl _⟩, ⟨by repeat (first | (with_reducible first | exact HB.out | apply below_alloc | apply pw_below_drewN | apply below_drew1) | exact HB.out)⟩⟩
  case rest =>
    clear HC3
    try clear c1
    try clear p2
    try clear c4
    try clear c4b0
    try clear c4b1
    obtain ⟨kq, x14_2, rfl, HA, HJ2, HB⟩ := hcut
    cases kq with
    | zero => exact absurd HA.out (by simp [merkhetlaw14_BoundHolds.j0])
    | succ kj2 =>
      have H := HA.out
      clear HA
      simp only [merkhetlaw14_BoundHolds.j0] at H
      by_cases c5 : x14_2 = true
      · subst c5
        have H1 : ((merkhetlaw14_fixed.f).bind fun t101 => (some t101)) = some r := by rw [if_pos rfl] at H; exact H
        clear H
        have H := H1
        clear H1
        replace H := Option.bind_eq_some_iff.mp H
        obtain ⟨t101, A60, H⟩ := H
        replace H : (some t101) = some r := H
        have A6 := Aside0.mk A60
        clear A60
        obtain rfl := Option.some.inj H
        go_wp2_with (first | ((with_reducible refine gate_callee (f := 12) rfl ?_); refine goesL_ (some 15) rfl rfl Try.func12 (by kernel_rfl) rfl #[] rfl (by (try simp only [List.map_toArray, List.map_cons, List.map_nil]); first | done | rfl | (simp only [List.length_drop, List.length_take]; rfl)) ?_; (with_reducible refine (merkhetlaw14_fixed.calls  t101 _ A6.out).mono ?_); rintro e w7 ⟨rfl, hb⟩; refine ⟨_, rfl, ?_⟩; have n0_ := Aside0.mk (below_step (by repeat (first | (with_reducible first | exact HB.out | apply below_alloc | apply pw_below_drewN | apply below_drew1) | exact HB.out)) hb); clear HB; have HB := n0_; clear n0_; (try clear hb); (try clear hb2); (try clear hk); (try clear hi)))
        go_ret
        exact ⟨by first | rfl | (simp [errW_none, errW_some] <;> rfl) | (simp [*, errW_none, errW_some] <;> rfl), by repeat (first | (with_reducible first | exact HB.out | apply below_alloc | apply pw_below_drewN | apply below_drew1) | exact HB.out)⟩
      · replace c5 := Bool.eq_false_iff.mpr c5
        subst c5
        have H1 : (merkhetlaw14_BoundHolds.l0 kj2 l0 l1 l0 (l0.length : Int) 0) = some r := by rw [if_neg (show ¬ (false = true) by decide)] at H; exact H
        clear H
        have H := H1
        clear H1
        have H' := Aside0.mk H
        clear H
        go_wp2
        go_loopg [18] kj2 (fun kq v18 w' => ∃ (x18_2 : Int), v18 = .int .i64 x18_2 ∧ Aside0 (merkhetlaw14_BoundHolds.l0 kq l0 l1 l0 (l0.length : Int) x18_2 = some r) ∧ Aside0 (kq ≤ kj2) ∧ Aside0 (Below w.heap.size w w'))
        case atStart => exact ⟨(0), (by first | rfl | (simp; done) | (simp [*]; done)), H', ⟨Nat.le_refl _⟩, ⟨by repeat (first | (with_reducible first | exact HB.out | apply below_alloc | apply pw_below_drewN | apply below_drew1) | exact HB.out)⟩⟩
        case round =>
          clear H'
          try clear c1
          try clear p2
          try clear c4
          try clear c4b0
          try clear c4b1
          try clear c5
          try clear p2
          obtain ⟨x18_2, rfl, HA, HK2, HB⟩ := hrel
          cases gk with
          | zero => exact absurd HA.out (by simp [merkhetlaw14_BoundHolds.l0])
          | succ k2 =>
            have H := HA.out
            clear HA
            simp only [merkhetlaw14_BoundHolds.l0] at H
            by_cases c8 : x18_2 < (l0.length : Int)
            · rw [if_pos c8] at H
              have c8b0 : decide (x18_2 < (l0.length : Int)) = true := decide_eq_true c8
              clear c8
              by_cases c9 : 0 ≤ x18_2
              · rw [if_pos c9] at H
                have c9b0 : decide (0 ≤ x18_2) = true := decide_eq_true c9
                clear c9
                by_cases c10 : x18_2 < (l0.length : Int)
                · rw [if_pos c10] at H
                  have c10b0 : decide (x18_2 < (l0.length : Int)) = true := decide_eq_true c10
                  clear c10
                  replace H := Option.bind_eq_some_iff.mp H
                  obtain ⟨t104, A110, H⟩ := H
                  replace H : ((merkhetref14_Holds.f k2 ((rd_T37 l0 x18_2).f0) ((rd_T37 l0 x18_2).f1) ((rd_T37 l0 x18_2).f2) ((rd_T37 l0 x18_2).f3.f0) ((rd_T37 l0 x18_2).f3.f1) ((rd_T37 l0 x18_2).f4) l1).bind fun t105 => (if (t104 != t105) = true then (some false) else (merkhetlaw14_BoundHolds.l0 k2 l0 l1 l0 (l0.length : Int) (wrap64 (x18_2 + 1))))) = some r := H
                  have A11 := Aside0.mk A110
                  clear A110
                  replace H := Option.bind_eq_some_iff.mp H
                  obtain ⟨t105, A120, H⟩ := H
                  replace H : (if (t104 != t105) = true then (some false) else (merkhetlaw14_BoundHolds.l0 k2 l0 l1 l0 (l0.length : Int) (wrap64 (x18_2 + 1)))) = some r := H
                  have A12 := Aside0.mk A120
                  clear A120
                  by_cases c13 : (t104 != t105) = true
                  · rw [if_pos c13] at H
                    have c13b0 : (t104 != t105) = true := c13
                    (try (have c13b1 : decide (t104 = t105) = false := by simpa using c13))
                    (try (have c13b2 : (t104 == t105) = false := by simpa using c13))
                    (try (have c13b3 : ¬ (t104 = t105) := by simpa using c13))
                    clear c13
                    obtain rfl := Option.some.inj H
                    have p102 : 0 ≤ (x18_2 : Int) := of_decide_eq_true (by first | (with_reducible assumption) | assumption)
                    have q102 : x18_2 < (l0.length : Int) := of_decide_eq_true (by first | (with_reducible assumption) | assumption)
                    obtain ⟨ad102, e102, hx102_0, hx102_1, hx102_2, hx102_3, hx102_4, hx102_5⟩ := at_T37 HR0.out x18_2 p102 q102
                    cases e102
                    replace hx102_0 := (HB.out.cell (World.block_lt_of_cell? w _ hx102_0)).trans hx102_0
                    replace hx102_1 := (HB.out.cell (World.block_lt_of_cell? w _ hx102_1)).trans hx102_1
                    replace hx102_2 := (HB.out.cell (World.block_lt_of_cell? w _ hx102_2)).trans hx102_2
                    replace hx102_3 := (HB.out.cell (World.block_lt_of_cell? w _ hx102_3)).trans hx102_3
                    replace hx102_4 := (HB.out.cell (World.block_lt_of_cell? w _ hx102_4)).trans hx102_4
                    replace hx102_5 := (HB.out.cell (World.block_lt_of_cell? w _ hx102_5)).trans hx102_5
                    replace p102 := eq_true p102
                    replace q102 := eq_true q102
                    try go_wp2_with (first | ((with_reducible refine gate_dst (N := 6) rfl ?_); (try (refine gate_guard (by rfl) ?_; dsimp only)); refine box_event ?hg (N := 6) ?hd (cs := #[.int .i64 0, .int .i64 0, .int .i64 0, .int .i64 0, .int .i64 0, .bool false]) (t := 37) ?hr ?_; (case hd => rfl); (case hg => rfl); (case hr => first | (go_simp; done) | (go_simp; rfl)); intro gb103 hg w14 hbox hb; have n0_ := Aside0.mk (below_step (by repeat (first | (with_reducible first | exact HB.out | apply below_alloc | apply pw_below_drewN | apply below_drew1) | exact HB.out)) hb); have n1_ := Aside0.mk (hbox); have n2_ := Aside0.mk ((by rw [hg]; exact (below_size (by repeat (first | (with_reducible first | exact HB.out | apply below_alloc | apply pw_below_drewN | apply below_drew1) | exact HB.out))) : w.heap.size ≤ gb103)); have n3_ := Aside0.mk ((by rw [hg]; exact (below_size (by repeat (first | (with_reducible first | exact HB.out | apply below_alloc | apply pw_below_drewN | apply below_drew1) | exact HB.out))) : w.heap.size ≤ gb103)); clear HB; have HB := n0_; have BK103 := n1_; have GW103 := n2_; have GE103 := n3_; clear n0_ n1_ n2_ n3_; clear hb hbox hg; have hcz15_0 : w14.cell? ⟨gb103, 0, none⟩ = some (.int .i64 0) := (blk_cell BK103.out 0).trans rfl; have hcz15_1 : w14.cell? ⟨gb103, 1, none⟩ = some (.int .i64 0) := (blk_cell BK103.out 1).trans rfl; have hcz15_2 : w14.cell? ⟨gb103, 2, none⟩ = some (.int .i64 0) := (blk_cell BK103.out 2).trans rfl; have hcz15_3 : w14.cell? ⟨gb103, 3, none⟩ = some (.int .i64 0) := (blk_cell BK103.out 3).trans rfl; have hcz15_4 : w14.cell? ⟨gb103, 4, none⟩ = some (.int .i64 0) := (blk_cell BK103.out 4).trans rfl; have hcz15_5 : w14.cell? ⟨gb103, 5, none⟩ = some (.bool false) := (blk_cell BK103.out 5).trans rfl; have hfz15_0 := blk_frozen BK103.out 0; have hfz15_1 := blk_frozen BK103.out 1; have hfz15_2 := blk_frozen BK103.out 2; have hfz15_3 := blk_frozen BK103.out 3; have hfz15_4 := blk_frozen BK103.out 4; have hfz15_5 := blk_frozen BK103.out 5))
                    have n0_ : Aside0 (((((((w14.setCell ⟨gb103, 0, none⟩ (.int .i64 ((rd_T37 l0 x18_2).f0))).setCell ⟨gb103, 1, none⟩ (.int .i64 ((rd_T37 l0 x18_2).f1))).setCell ⟨gb103, 2, none⟩ (.int .i64 ((rd_T37 l0 x18_2).f2))).setCell ⟨gb103, 3, none⟩ (.int .i64 ((rd_T37 l0 x18_2).f3.f0))).setCell ⟨gb103, 4, none⟩ (.int .i64 ((rd_T37 l0 x18_2).f3.f1))).setCell ⟨gb103, 5, none⟩ (.bool ((rd_T37 l0 x18_2).f4))).heap[gb103]? = some (.cells #[.int .i64 ((rd_T37 l0 x18_2).f0), .int .i64 ((rd_T37 l0 x18_2).f1), .int .i64 ((rd_T37 l0 x18_2).f2), .int .i64 ((rd_T37 l0 x18_2).f3.f0), .int .i64 ((rd_T37 l0 x18_2).f3.f1), .bool ((rd_T37 l0 x18_2).f4)] 37 (0, 0))) := ⟨by (with_reducible repeat (first | refine blk_drewN ?_ _ | refine blk_drew ?_ | refine blk_alloc ?_ _)); refine blk_put (cs := #[.int .i64 ((rd_T37 l0 x18_2).f0), .int .i64 ((rd_T37 l0 x18_2).f1), .int .i64 ((rd_T37 l0 x18_2).f2), .int .i64 ((rd_T37 l0 x18_2).f3.f0), .int .i64 ((rd_T37 l0 x18_2).f3.f1), .bool false]) ?_ 5 _ rfl; (with_reducible repeat (first | refine blk_drewN ?_ _ | refine blk_drew ?_ | refine blk_alloc ?_ _)); refine blk_put (cs := #[.int .i64 ((rd_T37 l0 x18_2).f0), .int .i64 ((rd_T37 l0 x18_2).f1), .int .i64 ((rd_T37 l0 x18_2).f2), .int .i64 ((rd_T37 l0 x18_2).f3.f0), .int .i64 0, .bool false]) ?_ 4 _ rfl; (with_reducible repeat (first | refine blk_drewN ?_ _ | refine blk_drew ?_ | refine blk_alloc ?_ _)); refine blk_put (cs := #[.int .i64 ((rd_T37 l0 x18_2).f0), .int .i64 ((rd_T37 l0 x18_2).f1), .int .i64 ((rd_T37 l0 x18_2).f2), .int .i64 0, .int .i64 0, .bool false]) ?_ 3 _ rfl; (with_reducible repeat (first | refine blk_drewN ?_ _ | refine blk_drew ?_ | refine blk_alloc ?_ _)); refine blk_put (cs := #[.int .i64 ((rd_T37 l0 x18_2).f0), .int .i64 ((rd_T37 l0 x18_2).f1), .int .i64 0, .int .i64 0, .int .i64 0, .bool false]) ?_ 2 _ rfl; (with_reducible repeat (first | refine blk_drewN ?_ _ | refine blk_drew ?_ | refine blk_alloc ?_ _)); refine blk_put (cs := #[.int .i64 ((rd_T37 l0 x18_2).f0), .int .i64 0, .int .i64 0, .int .i64 0, .int .i64 0, .bool false]) ?_ 1 _ rfl; (with_reducible repeat (first | refine blk_drewN ?_ _ | refine blk_drew ?_ | refine blk_alloc ?_ _)); refine blk_put (cs := #[.int .i64 0, .int .i64 0, .int .i64 0, .int .i64 0, .int .i64 0, .bool false]) ?_ 0 _ rfl; (with_reducible repeat (first | refine blk_drewN ?_ _ | refine blk_drew ?_ | refine blk_alloc ?_ _)); exact BK103.out⟩
                    have n1_ : Aside0 (Below w.heap.size w ((((((w14.setCell ⟨gb103, 0, none⟩ (.int .i64 ((rd_T37 l0 x18_2).f0))).setCell ⟨gb103, 1, none⟩ (.int .i64 ((rd_T37 l0 x18_2).f1))).setCell ⟨gb103, 2, none⟩ (.int .i64 ((rd_T37 l0 x18_2).f2))).setCell ⟨gb103, 3, none⟩ (.int .i64 ((rd_T37 l0 x18_2).f3.f0))).setCell ⟨gb103, 4, none⟩ (.int .i64 ((rd_T37 l0 x18_2).f3.f1))).setCell ⟨gb103, 5, none⟩ (.bool ((rd_T37 l0 x18_2).f4)))) := ⟨by repeat (first | (with_reducible first | exact HB.out | apply below_alloc | apply pw_below_drewN | apply below_drew1 | refine below_set ?_ GE103.out) | exact HB.out)⟩
                    (try clear BK103)
                    (try clear HB)
                    generalize ((((((w14.setCell ⟨gb103, 0, none⟩ (.int .i64 ((rd_T37 l0 x18_2).f0))).setCell ⟨gb103, 1, none⟩ (.int .i64 ((rd_T37 l0 x18_2).f1))).setCell ⟨gb103, 2, none⟩ (.int .i64 ((rd_T37 l0 x18_2).f2))).setCell ⟨gb103, 3, none⟩ (.int .i64 ((rd_T37 l0 x18_2).f3.f0))).setCell ⟨gb103, 4, none⟩ (.int .i64 ((rd_T37 l0 x18_2).f3.f1))).setCell ⟨gb103, 5, none⟩ (.bool ((rd_T37 l0 x18_2).f4))) = w16 at n0_ n1_ ⊢
                    have BK103 := n0_
                    have HB := n1_
                    clear n0_ n1_
                    have n0_ := Aside0.mk (blk_drew BK103.out)
                    have n1_ := Aside0.mk (below_drew1 HB.out)
                    clear BK103
                    clear HB
                    have BK103 := n0_
                    have HB := n1_
                    clear n0_ n1_
                    refine start_ (n := 7) (S := fun w' => w'.cell? ⟨gb103, 0, none⟩ = some (.int .i64 ((rd_T37 l0 x18_2).f0)) ∧ w'.cell? ⟨gb103, 1, none⟩ = some (.int .i64 ((rd_T37 l0 x18_2).f1)) ∧ w'.cell? ⟨gb103, 2, none⟩ = some (.int .i64 ((rd_T37 l0 x18_2).f2)) ∧ w'.cell? ⟨gb103, 3, none⟩ = some (.int .i64 ((rd_T37 l0 x18_2).f3.f0)) ∧ w'.cell? ⟨gb103, 4, none⟩ = some (.int .i64 ((rd_T37 l0 x18_2).f3.f1)) ∧ w'.cell? ⟨gb103, 5, none⟩ = some (.bool ((rd_T37 l0 x18_2).f4))) (ds := []) #[false, false, false, false, false, false, false] (by kernel_rfl) rfl rfl ⟨(blk_cell BK103.out 0).trans rfl, (blk_cell BK103.out 1).trans rfl, (blk_cell BK103.out 2).trans rfl, (blk_cell BK103.out 3).trans rfl, (blk_cell BK103.out 4).trans rfl, (blk_cell BK103.out 5).trans rfl⟩ (fun hHeld => ?_)
                    generalize w16.drew = w17 at BK103 HB hHeld ⊢
                    refine pure_ (i := 1) (N := some 23) (v := ?_) (a' := ?_) #[false, true, false, false, false, false, false] rfl rfl (by kernel_rfl) (fun _ _ _ h => h) (Or.inl ⟨by rfl, ?_⟩) ?_ ?_
                    rotate_left
                    · intro w'
                      go_simp
                      with_reducible rfl
                    rotate_left
                    · simp only [Act.put, List.setIfInBounds_toArray, List.set_cons_zero, List.set_cons_succ, i64_w, i32_w]
                      rfl
                    refine pure_ (i := 4) (N := some 26) (v := ?_) (a' := ?_) #[false, true, false, false, true, false, false] rfl rfl (by kernel_rfl) (fun _ _ _ h => h) (Or.inl ⟨by rfl, ?_⟩) ?_ ?_
                    rotate_left
                    · intro w'
                      go_simp
                      with_reducible rfl
                    rotate_left
                    · simp only [Act.put, List.setIfInBounds_toArray, List.set_cons_zero, List.set_cons_succ, i64_w, i32_w]
                      rfl
                    refine take_ (i := 0) (N := some 22) (v := ?_) (a' := ?_) #[true, true, false, false, true, false, false] rfl rfl (by kernel_rfl) (fun _ _ _ h => h) (Or.inl ⟨by rfl, ?_⟩) hHeld ?_ ?_
                    rotate_left
                    · rintro w' ⟨s0, s1, s2, s3, s4, s5⟩
                      go_simp
                      with_reducible rfl
                    rotate_left
                    · simp only [Act.put, List.setIfInBounds_toArray, List.set_cons_zero, List.set_cons_succ, i64_w, i32_w]
                      rfl
                    refine take_ (i := 3) (N := some 25) (v := ?_) (a' := ?_) #[true, true, false, true, true, false, false] rfl rfl (by kernel_rfl) (fun _ _ _ h => h) (Or.inl ⟨by rfl, ?_⟩) hHeld ?_ ?_
                    rotate_left
                    · rintro w' ⟨s0, s1, s2, s3, s4, s5⟩
                      go_simp
                      with_reducible rfl
                    rotate_left
                    · simp only [Act.put, List.setIfInBounds_toArray, List.set_cons_zero, List.set_cons_succ, i64_w, i32_w]
                      rfl
                    refine one_ (i := 2) (N := some 24) #[true, true, true, true, true, false, false] rfl rfl (by kernel_rfl) (by decide) (fun K hK => ?_)
                    refine goes_ Try.func18 (by kernel_rfl) rfl #[.agg #[.int .i64 ((rd_T37 l0 x18_2).f0), .int .i64 ((rd_T37 l0 x18_2).f1), .int .i64 ((rd_T37 l0 x18_2).f2), .int .i64 ((rd_T37 l0 x18_2).f3.f0), .int .i64 ((rd_T37 l0 x18_2).f3.f1), .bool ((rd_T37 l0 x18_2).f4)], .slice A1 l1.length c1] (by rfl) rfl rfl (by (try simp only [List.map_toArray, List.map_cons, List.map_nil]); first | done | rfl | (simp only [List.length_drop, List.length_take]; rfl)) ?_
                    with_reducible refine (bound_Holds.calls ((rd_T37 l0 x18_2).f0) ((rd_T37 l0 x18_2).f1) ((rd_T37 l0 x18_2).f2) ((rd_T37 l0 x18_2).f3.f0) ((rd_T37 l0 x18_2).f3.f1) ((rd_T37 l0 x18_2).f4) _ _ l1 t104 _ ?side1 ?side2 A11.out).mono ?_
                    (case side1 => repeat (first | exact (Kd.C_below HR1.out HB.out) | (with_reducible refine Kd.C_alloc ?_ _) | (with_reducible refine Kd.C_drewN ?_ _) | (with_reducible refine Kd.C_drew ?_)))
                    (case side2 => exact HC1.out)
                    rintro e w18 ⟨rfl, hb⟩
                    refine ⟨_, rfl, ?_⟩
                    have n0_ := Aside0.mk (blk_below (g := gb103) (o := .cells #[.int .i64 ((rd_T37 l0 x18_2).f0), .int .i64 ((rd_T37 l0 x18_2).f1), .int .i64 ((rd_T37 l0 x18_2).f2), .int .i64 ((rd_T37 l0 x18_2).f3.f0), .int .i64 ((rd_T37 l0 x18_2).f3.f1), .bool ((rd_T37 l0 x18_2).f4)] 37 (0, 0)) (by (with_reducible repeat (first | refine blk_drewN ?_ _ | refine blk_drew ?_ | refine blk_alloc ?_ _)); exact BK103.out) hb)
                    have n1_ := Aside0.mk (below_step (by repeat (first | (with_reducible first | exact HB.out | apply below_alloc | apply pw_below_drewN | apply below_drew1 | refine below_set ?_ GE103.out) | exact HB.out)) hb)
                    clear BK103
                    clear HB
                    have BK103 := n0_
                    have HB := n1_
                    clear n0_ n1_
                    (try clear hb)
                    (try clear hb2)
                    (try clear hk)
                    (try clear hi)
                    refine hK.out _ _ ⟨(blk_cell BK103.out 0).trans rfl, (blk_cell BK103.out 1).trans rfl, (blk_cell BK103.out 2).trans rfl, (blk_cell BK103.out 3).trans rfl, (blk_cell BK103.out 4).trans rfl, (blk_cell BK103.out 5).trans rfl⟩ (fun hHeld => ?_)
                    clear hK K
                    refine norm_ (a' := ?_) ?_ ?_
                    rotate_left
                    · show Act.put _ (some 24) _ = _
                      simp only [Act.put, List.setIfInBounds_toArray, List.set_cons_zero, List.set_cons_succ, i64_w, i32_w]
                      rfl
                    refine one_ (i := 5) (N := some 27) #[true, true, true, true, true, true, false] rfl rfl (by kernel_rfl) (by decide) (fun K hK => ?_)
                    refine goes_ Try.func19 (by kernel_rfl) rfl #[.agg #[.int .i64 ((rd_T37 l0 x18_2).f0), .int .i64 ((rd_T37 l0 x18_2).f1), .int .i64 ((rd_T37 l0 x18_2).f2), .int .i64 ((rd_T37 l0 x18_2).f3.f0), .int .i64 ((rd_T37 l0 x18_2).f3.f1), .bool ((rd_T37 l0 x18_2).f4)], .slice A1 l1.length c1] (by rfl) rfl rfl (by (try simp only [List.map_toArray, List.map_cons, List.map_nil]); first | done | rfl | (simp only [List.length_drop, List.length_take]; rfl)) ?_
                    with_reducible refine (merkhetref14_Holds.calls k2 ((rd_T37 l0 x18_2).f0) ((rd_T37 l0 x18_2).f1) ((rd_T37 l0 x18_2).f2) ((rd_T37 l0 x18_2).f3.f0) ((rd_T37 l0 x18_2).f3.f1) ((rd_T37 l0 x18_2).f4) _ _ l1 t105 _ ?side1 ?side2 A12.out).mono ?_
                    (case side1 => repeat (first | exact (Kd.C_below HR1.out HB.out) | (with_reducible refine Kd.C_alloc ?_ _) | (with_reducible refine Kd.C_drewN ?_ _) | (with_reducible refine Kd.C_drew ?_)))
                    (case side2 => exact HC1.out)
                    rintro e w19 ⟨rfl, hb⟩
                    refine ⟨_, rfl, ?_⟩
                    have n0_ := Aside0.mk (blk_below (g := gb103) (o := .cells #[.int .i64 ((rd_T37 l0 x18_2).f0), .int .i64 ((rd_T37 l0 x18_2).f1), .int .i64 ((rd_T37 l0 x18_2).f2), .int .i64 ((rd_T37 l0 x18_2).f3.f0), .int .i64 ((rd_T37 l0 x18_2).f3.f1), .bool ((rd_T37 l0 x18_2).f4)] 37 (0, 0)) (by (with_reducible repeat (first | refine blk_drewN ?_ _ | refine blk_drew ?_ | refine blk_alloc ?_ _)); exact BK103.out) hb)
                    have n1_ := Aside0.mk (below_step (by repeat (first | (with_reducible first | exact HB.out | apply below_alloc | apply pw_below_drewN | apply below_drew1 | refine below_set ?_ GE103.out) | exact HB.out)) hb)
                    clear BK103
                    clear HB
                    have BK103 := n0_
                    have HB := n1_
                    clear n0_ n1_
                    (try clear hb)
                    (try clear hb2)
                    (try clear hk)
                    (try clear hi)
                    refine hK.out _ _ ⟨(blk_cell BK103.out 0).trans rfl, (blk_cell BK103.out 1).trans rfl, (blk_cell BK103.out 2).trans rfl, (blk_cell BK103.out 3).trans rfl, (blk_cell BK103.out 4).trans rfl, (blk_cell BK103.out 5).trans rfl⟩ (fun hHeld => ?_)
                    clear hK K
                    refine norm_ (a' := ?_) ?_ ?_
                    rotate_left
                    · show Act.put _ (some 27) _ = _
                      simp only [Act.put, List.setIfInBounds_toArray, List.set_cons_zero, List.set_cons_succ, i64_w, i32_w]
                      rfl
                    refine pure_ (i := 6) (N := some 28) (v := ?_) (a' := ?_) #[true, true, true, true, true, true, true] rfl rfl (by kernel_rfl) (fun _ _ _ h => h) (Or.inl ⟨by rfl, ?_⟩) ?_ ?_
                    rotate_left
                    · intro w'
                      go_simp
                      with_reducible rfl
                    rotate_left
                    · simp only [Act.put, List.setIfInBounds_toArray, List.set_cons_zero, List.set_cons_succ, i64_w, i32_w]
                      rfl
                    refine done_ (by kernel_rfl) ?_
                    try go_wp2
                    go_ret
                    exact ⟨by first | rfl | (simp [errW_none, errW_some] <;> rfl) | (simp [*, errW_none, errW_some] <;> rfl), by repeat (first | (with_reducible first | exact HB.out | apply below_alloc | apply pw_below_drewN | apply below_drew1 | refine below_set ?_ GE103.out) | exact HB.out)⟩
                  · rw [if_neg c13] at H
                    have c13b0 : (t104 != t105) = false := by simpa using c13
                    (try (have c13b1 : decide (t104 = t105) = true := by simpa using c13))
                    (try (have c13b2 : (t104 == t105) = true := by simpa using c13))
                    clear c13
                    have H' := Aside0.mk H
                    clear H
                    have p102 : 0 ≤ (x18_2 : Int) := of_decide_eq_true (by first | (with_reducible assumption) | assumption)
                    have q102 : x18_2 < (l0.length : Int) := of_decide_eq_true (by first | (with_reducible assumption) | assumption)
                    obtain ⟨ad102, e102, hx102_0, hx102_1, hx102_2, hx102_3, hx102_4, hx102_5⟩ := at_T37 HR0.out x18_2 p102 q102
                    cases e102
                    replace hx102_0 := (HB.out.cell (World.block_lt_of_cell? w _ hx102_0)).trans hx102_0
                    replace hx102_1 := (HB.out.cell (World.block_lt_of_cell? w _ hx102_1)).trans hx102_1
                    replace hx102_2 := (HB.out.cell (World.block_lt_of_cell? w _ hx102_2)).trans hx102_2
                    replace hx102_3 := (HB.out.cell (World.block_lt_of_cell? w _ hx102_3)).trans hx102_3
                    replace hx102_4 := (HB.out.cell (World.block_lt_of_cell? w _ hx102_4)).trans hx102_4
                    replace hx102_5 := (HB.out.cell (World.block_lt_of_cell? w _ hx102_5)).trans hx102_5
                    replace p102 := eq_true p102
                    replace q102 := eq_true q102
                    try go_wp2_with (first | ((with_reducible refine gate_dst (N := 6) rfl ?_); (try (refine gate_guard (by rfl) ?_; dsimp only)); refine box_event ?hg (N := 6) ?hd (cs := #[.int .i64 0, .int .i64 0, .int .i64 0, .int .i64 0, .int .i64 0, .bool false]) (t := 37) ?hr ?_; (case hd => rfl); (case hg => rfl); (case hr => first | (go_simp; done) | (go_simp; rfl)); intro gb103 hg w20 hbox hb; have n0_ := Aside0.mk (below_step (by repeat (first | (with_reducible first | exact HB.out | apply below_alloc | apply pw_below_drewN | apply below_drew1) | exact HB.out)) hb); have n1_ := Aside0.mk (hbox); have n2_ := Aside0.mk ((by rw [hg]; exact (below_size (by repeat (first | (with_reducible first | exact HB.out | apply below_alloc | apply pw_below_drewN | apply below_drew1) | exact HB.out))) : w.heap.size ≤ gb103)); have n3_ := Aside0.mk ((by rw [hg]; exact (below_size (by repeat (first | (with_reducible first | exact HB.out | apply below_alloc | apply pw_below_drewN | apply below_drew1) | exact HB.out))) : w.heap.size ≤ gb103)); clear HB; have HB := n0_; have BK103 := n1_; have GW103 := n2_; have GE103 := n3_; clear n0_ n1_ n2_ n3_; clear hb hbox hg; have hcz21_0 : w20.cell? ⟨gb103, 0, none⟩ = some (.int .i64 0) := (blk_cell BK103.out 0).trans rfl; have hcz21_1 : w20.cell? ⟨gb103, 1, none⟩ = some (.int .i64 0) := (blk_cell BK103.out 1).trans rfl; have hcz21_2 : w20.cell? ⟨gb103, 2, none⟩ = some (.int .i64 0) := (blk_cell BK103.out 2).trans rfl; have hcz21_3 : w20.cell? ⟨gb103, 3, none⟩ = some (.int .i64 0) := (blk_cell BK103.out 3).trans rfl; have hcz21_4 : w20.cell? ⟨gb103, 4, none⟩ = some (.int .i64 0) := (blk_cell BK103.out 4).trans rfl; have hcz21_5 : w20.cell? ⟨gb103, 5, none⟩ = some (.bool false) := (blk_cell BK103.out 5).trans rfl; have hfz21_0 := blk_frozen BK103.out 0; have hfz21_1 := blk_frozen BK103.out 1; have hfz21_2 := blk_frozen BK103.out 2; have hfz21_3 := blk_frozen BK103.out 3; have hfz21_4 := blk_frozen BK103.out 4; have hfz21_5 := blk_frozen BK103.out 5))
                    have n0_ : Aside0 (((((((w20.setCell ⟨gb103, 0, none⟩ (.int .i64 ((rd_T37 l0 x18_2).f0))).setCell ⟨gb103, 1, none⟩ (.int .i64 ((rd_T37 l0 x18_2).f1))).setCell ⟨gb103, 2, none⟩ (.int .i64 ((rd_T37 l0 x18_2).f2))).setCell ⟨gb103, 3, none⟩ (.int .i64 ((rd_T37 l0 x18_2).f3.f0))).setCell ⟨gb103, 4, none⟩ (.int .i64 ((rd_T37 l0 x18_2).f3.f1))).setCell ⟨gb103, 5, none⟩ (.bool ((rd_T37 l0 x18_2).f4))).heap[gb103]? = some (.cells #[.int .i64 ((rd_T37 l0 x18_2).f0), .int .i64 ((rd_T37 l0 x18_2).f1), .int .i64 ((rd_T37 l0 x18_2).f2), .int .i64 ((rd_T37 l0 x18_2).f3.f0), .int .i64 ((rd_T37 l0 x18_2).f3.f1), .bool ((rd_T37 l0 x18_2).f4)] 37 (0, 0))) := ⟨by (with_reducible repeat (first | refine blk_drewN ?_ _ | refine blk_drew ?_ | refine blk_alloc ?_ _)); refine blk_put (cs := #[.int .i64 ((rd_T37 l0 x18_2).f0), .int .i64 ((rd_T37 l0 x18_2).f1), .int .i64 ((rd_T37 l0 x18_2).f2), .int .i64 ((rd_T37 l0 x18_2).f3.f0), .int .i64 ((rd_T37 l0 x18_2).f3.f1), .bool false]) ?_ 5 _ rfl; (with_reducible repeat (first | refine blk_drewN ?_ _ | refine blk_drew ?_ | refine blk_alloc ?_ _)); refine blk_put (cs := #[.int .i64 ((rd_T37 l0 x18_2).f0), .int .i64 ((rd_T37 l0 x18_2).f1), .int .i64 ((rd_T37 l0 x18_2).f2), .int .i64 ((rd_T37 l0 x18_2).f3.f0), .int .i64 0, .bool false]) ?_ 4 _ rfl; (with_reducible repeat (first | refine blk_drewN ?_ _ | refine blk_drew ?_ | refine blk_alloc ?_ _)); refine blk_put (cs := #[.int .i64 ((rd_T37 l0 x18_2).f0), .int .i64 ((rd_T37 l0 x18_2).f1), .int .i64 ((rd_T37 l0 x18_2).f2), .int .i64 0, .int .i64 0, .bool false]) ?_ 3 _ rfl; (with_reducible repeat (first | refine blk_drewN ?_ _ | refine blk_drew ?_ | refine blk_alloc ?_ _)); refine blk_put (cs := #[.int .i64 ((rd_T37 l0 x18_2).f0), .int .i64 ((rd_T37 l0 x18_2).f1), .int .i64 0, .int .i64 0, .int .i64 0, .bool false]) ?_ 2 _ rfl; (with_reducible repeat (first | refine blk_drewN ?_ _ | refine blk_drew ?_ | refine blk_alloc ?_ _)); refine blk_put (cs := #[.int .i64 ((rd_T37 l0 x18_2).f0), .int .i64 0, .int .i64 0, .int .i64 0, .int .i64 0, .bool false]) ?_ 1 _ rfl; (with_reducible repeat (first | refine blk_drewN ?_ _ | refine blk_drew ?_ | refine blk_alloc ?_ _)); refine blk_put (cs := #[.int .i64 0, .int .i64 0, .int .i64 0, .int .i64 0, .int .i64 0, .bool false]) ?_ 0 _ rfl; (with_reducible repeat (first | refine blk_drewN ?_ _ | refine blk_drew ?_ | refine blk_alloc ?_ _)); exact BK103.out⟩
                    have n1_ : Aside0 (Below w.heap.size w ((((((w20.setCell ⟨gb103, 0, none⟩ (.int .i64 ((rd_T37 l0 x18_2).f0))).setCell ⟨gb103, 1, none⟩ (.int .i64 ((rd_T37 l0 x18_2).f1))).setCell ⟨gb103, 2, none⟩ (.int .i64 ((rd_T37 l0 x18_2).f2))).setCell ⟨gb103, 3, none⟩ (.int .i64 ((rd_T37 l0 x18_2).f3.f0))).setCell ⟨gb103, 4, none⟩ (.int .i64 ((rd_T37 l0 x18_2).f3.f1))).setCell ⟨gb103, 5, none⟩ (.bool ((rd_T37 l0 x18_2).f4)))) := ⟨by repeat (first | (with_reducible first | exact HB.out | apply below_alloc | apply pw_below_drewN | apply below_drew1 | refine below_set ?_ GE103.out) | exact HB.out)⟩
                    (try clear BK103)
                    (try clear HB)
                    generalize ((((((w20.setCell ⟨gb103, 0, none⟩ (.int .i64 ((rd_T37 l0 x18_2).f0))).setCell ⟨gb103, 1, none⟩ (.int .i64 ((rd_T37 l0 x18_2).f1))).setCell ⟨gb103, 2, none⟩ (.int .i64 ((rd_T37 l0 x18_2).f2))).setCell ⟨gb103, 3, none⟩ (.int .i64 ((rd_T37 l0 x18_2).f3.f0))).setCell ⟨gb103, 4, none⟩ (.int .i64 ((rd_T37 l0 x18_2).f3.f1))).setCell ⟨gb103, 5, none⟩ (.bool ((rd_T37 l0 x18_2).f4))) = w22 at n0_ n1_ ⊢
                    have BK103 := n0_
                    have HB := n1_
                    clear n0_ n1_
                    have n0_ := Aside0.mk (blk_drew BK103.out)
                    have n1_ := Aside0.mk (below_drew1 HB.out)
                    clear BK103
                    clear HB
                    have BK103 := n0_
                    have HB := n1_
                    clear n0_ n1_
                    refine start_ (n := 7) (S := fun w' => w'.cell? ⟨gb103, 0, none⟩ = some (.int .i64 ((rd_T37 l0 x18_2).f0)) ∧ w'.cell? ⟨gb103, 1, none⟩ = some (.int .i64 ((rd_T37 l0 x18_2).f1)) ∧ w'.cell? ⟨gb103, 2, none⟩ = some (.int .i64 ((rd_T37 l0 x18_2).f2)) ∧ w'.cell? ⟨gb103, 3, none⟩ = some (.int .i64 ((rd_T37 l0 x18_2).f3.f0)) ∧ w'.cell? ⟨gb103, 4, none⟩ = some (.int .i64 ((rd_T37 l0 x18_2).f3.f1)) ∧ w'.cell? ⟨gb103, 5, none⟩ = some (.bool ((rd_T37 l0 x18_2).f4))) (ds := []) #[false, false, false, false, false, false, false] (by kernel_rfl) rfl rfl ⟨(blk_cell BK103.out 0).trans rfl, (blk_cell BK103.out 1).trans rfl, (blk_cell BK103.out 2).trans rfl, (blk_cell BK103.out 3).trans rfl, (blk_cell BK103.out 4).trans rfl, (blk_cell BK103.out 5).trans rfl⟩ (fun hHeld => ?_)
                    generalize w22.drew = w23 at BK103 HB hHeld ⊢
                    refine pure_ (i := 1) (N := some 23) (v := ?_) (a' := ?_) #[false, true, false, false, false, false, false] rfl rfl (by kernel_rfl) (fun _ _ _ h => h) (Or.inl ⟨by rfl, ?_⟩) ?_ ?_
                    rotate_left
                    · intro w'
                      go_simp
                      with_reducible rfl
                    rotate_left
                    · simp only [Act.put, List.setIfInBounds_toArray, List.set_cons_zero, List.set_cons_succ, i64_w, i32_w]
                      rfl
                    refine pure_ (i := 4) (N := some 26) (v := ?_) (a' := ?_) #[false, true, false, false, true, false, false] rfl rfl (by kernel_rfl) (fun _ _ _ h => h) (Or.inl ⟨by rfl, ?_⟩) ?_ ?_
                    rotate_left
                    · intro w'
                      go_simp
                      with_reducible rfl
                    rotate_left
                    · simp only [Act.put, List.setIfInBounds_toArray, List.set_cons_zero, List.set_cons_succ, i64_w, i32_w]
                      rfl
                    refine take_ (i := 0) (N := some 22) (v := ?_) (a' := ?_) #[true, true, false, false, true, false, false] rfl rfl (by kernel_rfl) (fun _ _ _ h => h) (Or.inl ⟨by rfl, ?_⟩) hHeld ?_ ?_
                    rotate_left
                    · rintro w' ⟨s0, s1, s2, s3, s4, s5⟩
                      go_simp
                      with_reducible rfl
                    rotate_left
                    · simp only [Act.put, List.setIfInBounds_toArray, List.set_cons_zero, List.set_cons_succ, i64_w, i32_w]
                      rfl
                    refine take_ (i := 3) (N := some 25) (v := ?_) (a' := ?_) #[true, true, false, true, true, false, false] rfl rfl (by kernel_rfl) (fun _ _ _ h => h) (Or.inl ⟨by rfl, ?_⟩) hHeld ?_ ?_
                    rotate_left
                    · rintro w' ⟨s0, s1, s2, s3, s4, s5⟩
                      go_simp
                      with_reducible rfl
                    rotate_left
                    · simp only [Act.put, List.setIfInBounds_toArray, List.set_cons_zero, List.set_cons_succ, i64_w, i32_w]
                      rfl
                    refine one_ (i := 2) (N := some 24) #[true, true, true, true, true, false, false] rfl rfl (by kernel_rfl) (by decide) (fun K hK => ?_)
                    refine goes_ Try.func18 (by kernel_rfl) rfl #[.agg #[.int .i64 ((rd_T37 l0 x18_2).f0), .int .i64 ((rd_T37 l0 x18_2).f1), .int .i64 ((rd_T37 l0 x18_2).f2), .int .i64 ((rd_T37 l0 x18_2).f3.f0), .int .i64 ((rd_T37 l0 x18_2).f3.f1), .bool ((rd_T37 l0 x18_2).f4)], .slice A1 l1.length c1] (by rfl) rfl rfl (by (try simp only [List.map_toArray, List.map_cons, List.map_nil]); first | done | rfl | (simp only [List.length_drop, List.length_take]; rfl)) ?_
                    with_reducible refine (bound_Holds.calls ((rd_T37 l0 x18_2).f0) ((rd_T37 l0 x18_2).f1) ((rd_T37 l0 x18_2).f2) ((rd_T37 l0 x18_2).f3.f0) ((rd_T37 l0 x18_2).f3.f1) ((rd_T37 l0 x18_2).f4) _ _ l1 t104 _ ?side1 ?side2 A11.out).mono ?_
                    (case side1 => repeat (first | exact (Kd.C_below HR1.out HB.out) | (with_reducible refine Kd.C_alloc ?_ _) | (with_reducible refine Kd.C_drewN ?_ _) | (with_reducible refine Kd.C_drew ?_)))
                    (case side2 => exact HC1.out)
                    rintro e w24 ⟨rfl, hb⟩
                    refine ⟨_, rfl, ?_⟩
                    have n0_ := Aside0.mk (blk_below (g := gb103) (o := .cells #[.int .i64 ((rd_T37 l0 x18_2).f0), .int .i64 ((rd_T37 l0 x18_2).f1), .int .i64 ((rd_T37 l0 x18_2).f2), .int .i64 ((rd_T37 l0 x18_2).f3.f0), .int .i64 ((rd_T37 l0 x18_2).f3.f1), .bool ((rd_T37 l0 x18_2).f4)] 37 (0, 0)) (by (with_reducible repeat (first | refine blk_drewN ?_ _ | refine blk_drew ?_ | refine blk_alloc ?_ _)); exact BK103.out) hb)
                    have n1_ := Aside0.mk (below_step (by repeat (first | (with_reducible first | exact HB.out | apply below_alloc | apply pw_below_drewN | apply below_drew1 | refine below_set ?_ GE103.out) | exact HB.out)) hb)
                    clear BK103
                    clear HB
                    have BK103 := n0_
                    have HB := n1_
                    clear n0_ n1_
                    (try clear hb)
                    (try clear hb2)
                    (try clear hk)
                    (try clear hi)
                    refine hK.out _ _ ⟨(blk_cell BK103.out 0).trans rfl, (blk_cell BK103.out 1).trans rfl, (blk_cell BK103.out 2).trans rfl, (blk_cell BK103.out 3).trans rfl, (blk_cell BK103.out 4).trans rfl, (blk_cell BK103.out 5).trans rfl⟩ (fun hHeld => ?_)
                    clear hK K
                    refine norm_ (a' := ?_) ?_ ?_
                    rotate_left
                    · show Act.put _ (some 24) _ = _
                      simp only [Act.put, List.setIfInBounds_toArray, List.set_cons_zero, List.set_cons_succ, i64_w, i32_w]
                      rfl
                    refine one_ (i := 5) (N := some 27) #[true, true, true, true, true, true, false] rfl rfl (by kernel_rfl) (by decide) (fun K hK => ?_)
                    refine goes_ Try.func19 (by kernel_rfl) rfl #[.agg #[.int .i64 ((rd_T37 l0 x18_2).f0), .int .i64 ((rd_T37 l0 x18_2).f1), .int .i64 ((rd_T37 l0 x18_2).f2), .int .i64 ((rd_T37 l0 x18_2).f3.f0), .int .i64 ((rd_T37 l0 x18_2).f3.f1), .bool ((rd_T37 l0 x18_2).f4)], .slice A1 l1.length c1] (by rfl) rfl rfl (by (try simp only [List.map_toArray, List.map_cons, List.map_nil]); first | done | rfl | (simp only [List.length_drop, List.length_take]; rfl)) ?_
                    with_reducible refine (merkhetref14_Holds.calls k2 ((rd_T37 l0 x18_2).f0) ((rd_T37 l0 x18_2).f1) ((rd_T37 l0 x18_2).f2) ((rd_T37 l0 x18_2).f3.f0) ((rd_T37 l0 x18_2).f3.f1) ((rd_T37 l0 x18_2).f4) _ _ l1 t105 _ ?side1 ?side2 A12.out).mono ?_
                    (case side1 => repeat (first | exact (Kd.C_below HR1.out HB.out) | (with_reducible refine Kd.C_alloc ?_ _) | (with_reducible refine Kd.C_drewN ?_ _) | (with_reducible refine Kd.C_drew ?_)))
                    (case side2 => exact HC1.out)
                    rintro e w25 ⟨rfl, hb⟩
                    refine ⟨_, rfl, ?_⟩
                    have n0_ := Aside0.mk (blk_below (g := gb103) (o := .cells #[.int .i64 ((rd_T37 l0 x18_2).f0), .int .i64 ((rd_T37 l0 x18_2).f1), .int .i64 ((rd_T37 l0 x18_2).f2), .int .i64 ((rd_T37 l0 x18_2).f3.f0), .int .i64 ((rd_T37 l0 x18_2).f3.f1), .bool ((rd_T37 l0 x18_2).f4)] 37 (0, 0)) (by (with_reducible repeat (first | refine blk_drewN ?_ _ | refine blk_drew ?_ | refine blk_alloc ?_ _)); exact BK103.out) hb)
                    have n1_ := Aside0.mk (below_step (by repeat (first | (with_reducible first | exact HB.out | apply below_alloc | apply pw_below_drewN | apply below_drew1 | refine below_set ?_ GE103.out) | exact HB.out)) hb)
                    clear BK103
                    clear HB
                    have BK103 := n0_
                    have HB := n1_
                    clear n0_ n1_
                    (try clear hb)
                    (try clear hb2)
                    (try clear hk)
                    (try clear hi)
                    refine hK.out _ _ ⟨(blk_cell BK103.out 0).trans rfl, (blk_cell BK103.out 1).trans rfl, (blk_cell BK103.out 2).trans rfl, (blk_cell BK103.out 3).trans rfl, (blk_cell BK103.out 4).trans rfl, (blk_cell BK103.out 5).trans rfl⟩ (fun hHeld => ?_)
                    clear hK K
                    refine norm_ (a' := ?_) ?_ ?_
                    rotate_left
                    · show Act.put _ (some 27) _ = _
                      simp only [Act.put, List.setIfInBounds_toArray, List.set_cons_zero, List.set_cons_succ, i64_w, i32_w]
                      rfl
                    refine pure_ (i := 6) (N := some 28) (v := ?_) (a' := ?_) #[true, true, true, true, true, true, true] rfl rfl (by kernel_rfl) (fun _ _ _ h => h) (Or.inl ⟨by rfl, ?_⟩) ?_ ?_
                    rotate_left
                    · intro w'
                      go_simp
                      with_reducible rfl
                    rotate_left
                    · simp only [Act.put, List.setIfInBounds_toArray, List.set_cons_zero, List.set_cons_succ, i64_w, i32_w]
                      rfl
                    refine done_ (by kernel_rfl) ?_
                    try go_wp2
                    go_roundg k2
                    case measure => have := HJ2.out; have := HK2.out; omega
                    case rel => exact ⟨(wrap64 (x18_2 + 1)), (by first | rfl | (simp; done) | (simp [*]; done)), H', ⟨by have := HJ2.out; have := HK2.out; omega⟩, ⟨by repeat (first | (with_reducible first | exact HB.out | apply below_alloc | apply pw_below_drewN | apply below_drew1 | refine below_set ?_ GE103.out) | exact HB.out)⟩⟩
                · rw [if_neg c10] at H
                  exact absurd H (by simp)
              · rw [if_neg c9] at H
                exact absurd H (by simp)
            · rw [if_neg c8] at H
              have c8b0 : decide (x18_2 < (l0.length : Int)) = false := decide_eq_false c8
              clear c8
              replace H := Option.bind_eq_some_iff.mp H
              obtain ⟨t106, A260, H⟩ := H
              replace H : (if t106 = true then ((bound_All.f l0 l1).bind fun t107 => ((merkhetref14_All.f k2 l0 l1).bind fun t108 => (some (t107 == t108)))) else (some false)) = some r := H
              have A26 := Aside0.mk A260
              clear A260
              by_cases c27 : t106 = true
              · subst c27
                have H1 : ((bound_All.f l0 l1).bind fun t107 => ((merkhetref14_All.f k2 l0 l1).bind fun t108 => (some (t107 == t108)))) = some r := by rw [if_pos rfl] at H; exact H
                clear H
                have H := H1
                clear H1
                replace H := Option.bind_eq_some_iff.mp H
                obtain ⟨t107, A280, H⟩ := H
                replace H : ((merkhetref14_All.f k2 l0 l1).bind fun t108 => (some (t107 == t108))) = some r := H
                have A28 := Aside0.mk A280
                clear A280
                replace H := Option.bind_eq_some_iff.mp H
                obtain ⟨t108, A290, H⟩ := H
                replace H : (some (t107 == t108)) = some r := H
                have A29 := Aside0.mk A290
                clear A290
                obtain rfl := Option.some.inj H
                go_wp2_with (first | ((with_reducible refine gate_callee (f := 12) rfl ?_); refine goesL_ (some 30) rfl rfl Try.func12 (by kernel_rfl) rfl #[] rfl (by (try simp only [List.map_toArray, List.map_cons, List.map_nil]); first | done | rfl | (simp only [List.length_drop, List.length_take]; rfl)) ?_; (with_reducible refine (merkhetlaw14_fixed.calls  true _ A26.out).mono ?_); rintro e w30 ⟨rfl, hb⟩; refine ⟨_, rfl, ?_⟩; have n0_ := Aside0.mk (below_step (by repeat (first | (with_reducible first | exact HB.out | apply below_alloc | apply pw_below_drewN | apply below_drew1) | exact HB.out)) hb); clear HB; have HB := n0_; clear n0_; (try clear hb); (try clear hb2); (try clear hk); (try clear hi)) | (go_at_call 20; (with_reducible refine (bound_All.calls _ _ l0 _ _ l1 t107 _ ?side1 ?side2 ?side3 ?side4 A28.out).mono ?_); (case side1 => repeat (first | exact (Kd.C_below HR0.out HB.out) | (with_reducible refine Kd.C_alloc ?_ _) | (with_reducible refine Kd.C_drewN ?_ _) | (with_reducible refine Kd.C_drew ?_))); (case side2 => exact HC0.out); (case side3 => repeat (first | exact (Kd.C_below HR1.out HB.out) | (with_reducible refine Kd.C_alloc ?_ _) | (with_reducible refine Kd.C_drewN ?_ _) | (with_reducible refine Kd.C_drew ?_))); (case side4 => exact HC1.out); rintro e w31 ⟨rfl, hb⟩; have n0_ := Aside0.mk (below_step (by repeat (first | (with_reducible first | exact HB.out | apply below_alloc | apply pw_below_drewN | apply below_drew1) | exact HB.out)) hb); clear HB; have HB := n0_; clear n0_; (try clear hb); (try clear hb2); (try clear hk); (try clear hi)) | (go_at_call 21; (with_reducible refine (merkhetref14_All.calls k2 _ _ l0 _ _ l1 t108 _ ?side1 ?side2 ?side3 ?side4 A29.out).mono ?_); (case side1 => repeat (first | exact (Kd.C_below HR0.out HB.out) | (with_reducible refine Kd.C_alloc ?_ _) | (with_reducible refine Kd.C_drewN ?_ _) | (with_reducible refine Kd.C_drew ?_))); (case side2 => exact HC0.out); (case side3 => repeat (first | exact (Kd.C_below HR1.out HB.out) | (with_reducible refine Kd.C_alloc ?_ _) | (with_reducible refine Kd.C_drewN ?_ _) | (with_reducible refine Kd.C_drew ?_))); (case side4 => exact HC1.out); rintro e w32 ⟨rfl, hb⟩; have n0_ := Aside0.mk (below_step (by repeat (first | (with_reducible first | exact HB.out | apply below_alloc | apply pw_below_drewN | apply below_drew1) | exact HB.out)) hb); clear HB; have HB := n0_; clear n0_; (try clear hb); (try clear hb2); (try clear hk); (try clear hi)))
                go_ret
                exact ⟨by first | rfl | (simp [errW_none, errW_some] <;> rfl) | (simp [*, errW_none, errW_some] <;> rfl), by repeat (first | (with_reducible first | exact HB.out | apply below_alloc | apply pw_below_drewN | apply below_drew1) | exact HB.out)⟩
              · replace c27 := Bool.eq_false_iff.mpr c27
                subst c27
                have H1 : (some false) = some r := by rw [if_neg (show ¬ (false = true) by decide)] at H; exact H
                clear H
                have H := H1
                clear H1
                obtain rfl := Option.some.inj H
                go_wp2_with (first | ((with_reducible refine gate_callee (f := 12) rfl ?_); refine goesL_ (some 30) rfl rfl Try.func12 (by kernel_rfl) rfl #[] rfl (by (try simp only [List.map_toArray, List.map_cons, List.map_nil]); first | done | rfl | (simp only [List.length_drop, List.length_take]; rfl)) ?_; (with_reducible refine (merkhetlaw14_fixed.calls  false _ A26.out).mono ?_); rintro e w33 ⟨rfl, hb⟩; refine ⟨_, rfl, ?_⟩; have n0_ := Aside0.mk (below_step (by repeat (first | (with_reducible first | exact HB.out | apply below_alloc | apply pw_below_drewN | apply below_drew1) | exact HB.out)) hb); clear HB; have HB := n0_; clear n0_; (try clear hb); (try clear hb2); (try clear hk); (try clear hi)))
                go_ret
                exact ⟨by first | rfl | (simp [errW_none, errW_some] <;> rfl) | (simp [*, errW_none, errW_some] <;> rfl), by repeat (first | (with_reducible first | exact HB.out | apply below_alloc | apply pw_below_drewN | apply below_drew1) | exact HB.out)⟩

end Go.Proofs.Ytjgpggjjgimibaa.H
