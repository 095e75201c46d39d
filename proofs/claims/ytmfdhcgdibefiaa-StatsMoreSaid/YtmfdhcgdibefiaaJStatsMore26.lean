/- Texts joined by wip/tools/merge.py: Mx1 Arr2 ROpens MOpens KidR May18 Ref15 Rx3 Rx4 OwnL SpanN RefG OwnM PureStatsMore. -/
import Derived.Test.YtmfdhcgdibefiaaJStatsMore24
import Derived.Test.YtmfdhcgdibefiaaJStatsMore25
import Derived.KernelRfl
import Derived.Test.YtmfdhcgdibefiaaJStatsMore22
-- Written by wip/tools/gp.py, a program of this session round the kit's printer. Lean checks it.
namespace Go.Proofs.Ytmfdhcgdibefiaa.M
open Go.RowKit Go.Proofs.Ytmfdhcgdibefiaa.Q Go.Proofs.Ytmfdhcgdibefiaa.R Go.Proofs.YtmfdhcgdibefiaaW.PrintWords Go.Proofs.YtmfdhcgdibefiaaW.PrintLast Go.Proofs.YtmfdhcgdibefiaaW.PrintMore
attribute [local go_sem] max2_int min2_int max_two min_two max_three min_three max_four min_four   -- for this text's walks alone
set_option linter.unusedVariables false
set_option linter.unusedSimpArgs false

/-! ### merkhetlaw27_StatsMore: function 5 -/
mutual
def merkhetlaw27_StatsMore.l0 : Nat → List (S26) → List (S26) → Int → Int → List (S26) → Int → Int → Int → Int → Option (Bool)
  | 0, _, _, _, _, _, _, _, _, _ => none
  | k + 1, x0, x5, x6, x7, x25, x26, x27, x102000, x102001 => if x27 < x26 then (if 0 ≤ x27 then (if x27 < (x25.length : Int) then (if ((rd_T26 x25 x27).f0) > 72057594037927936 then (merkhetlaw27_StatsMore.j1 k x0 x5 x6 x7 x25 x26 x27 true x102000 x102001 ((rd_T26 x25 x27).f0) ((rd_T26 x25 x27).f1)) else (if ((rd_T26 x25 x27).f0) < (-72057594037927936) then (merkhetlaw27_StatsMore.j1 k x0 x5 x6 x7 x25 x26 x27 true x102000 x102001 ((rd_T26 x25 x27).f0) ((rd_T26 x25 x27).f1)) else (if ((rd_T26 x25 x27).f1) > 72057594037927936 then (merkhetlaw27_StatsMore.j1 k x0 x5 x6 x7 x25 x26 x27 true x102000 x102001 ((rd_T26 x25 x27).f0) ((rd_T26 x25 x27).f1)) else (merkhetlaw27_StatsMore.j1 k x0 x5 x6 x7 x25 x26 x27 (decide (((rd_T26 x25 x27).f1) < (-72057594037927936))) x102000 x102001 ((rd_T26 x25 x27).f0) ((rd_T26 x25 x27).f1))))) else (none)) else (none)) else (merkhetlaw27_StatsMore.l1 k x0 x5 x6 x7 ([] : List (S26)) (wrap64 ((x5.length : Int) - 1)) x102000 x102001)
def merkhetlaw27_StatsMore.j1 : Nat → List (S26) → List (S26) → Int → Int → List (S26) → Int → Int → Bool → Int → Int → Int → Int → Option (Bool)
  | 0, _, _, _, _, _, _, _, _, _, _, _, _ => none
  | k + 1, x0, x5, x6, x7, x25, x26, x27, x48, x102000, x102001, x117000, x117001 => if x48 = true then ((merkhetlaw27_fixed.f k).bind fun t117 => (some t117)) else (merkhetlaw27_StatsMore.l0 k x0 x5 (IntKind.u64.wrap (x6 + (IntKind.u64.wrap (mx (wrap64 (x117001 - x117000)) 0)))) (mx x7 (IntKind.u64.wrap (mx (wrap64 (x117001 - x117000)) 0))) x25 x26 (wrap64 (x27 + 1)) x102000 x102001)
def merkhetlaw27_StatsMore.l1 : Nat → List (S26) → List (S26) → Int → Int → List (S26) → Int → Int → Int → Option (Bool)
  | 0, _, _, _, _, _, _, _, _ => none
  | k + 1, x0, x5, x6, x7, x11, x12, x102000, x102001 => if x12 ≥ 0 then (if 0 ≤ x12 then (if x12 < (x5.length : Int) then ((some (([(⟨(rd_T26 x5 x12).f0, (rd_T26 x5 x12).f1⟩ : S26)] : List (S26)) : List (S26))).bind fun y119 => (if x11.length + y119.length < 8796093022208 then (merkhetlaw27_StatsMore.l1 k x0 x5 x6 x7 (x11 ++ y119) (wrap64 (x12 - 1)) x102000 x102001) else (none))) else (none)) else (none)) else ((stats_Cover.f x5).bind fun t125 => ((stats_Cover.f x0).bind fun t126 => ((merkhetlaw27_fixed.f k).bind fun t127 => (if t127 = true then ((stats_Cover.f x11).bind fun t128 => (if t125 = t128 then (if t125 ≤ x6 then (if t125 ≥ x7 then (if t126 ≤ t125 then (some (decide ((IntKind.u64.wrap (t125 - t126)) ≤ (IntKind.u64.wrap (mx (wrap64 (x102001 - x102000)) 0))))) else (some false)) else (some false)) else (some false)) else (some false))) else (some false)))))
end
def merkhetlaw27_StatsMore.f (k : Nat) (l0 : List (S26)) (a1_0 : Int) (a1_1 : Int) : Option (Bool) := if (l0.length : Int) > 60 then ((merkhetlaw27_fixed.f k).bind fun t102 => (some t102)) else ((some (([] : List (S26)) : List (S26))).bind fun y103 => (if y103.length + l0.length < 8796093022208 then ((some (y103 ++ l0 : List (S26))).bind fun y106 => ((some (([(⟨a1_0, a1_1⟩ : S26)] : List (S26)) : List (S26))).bind fun y109 => (if y106.length + y109.length < 8796093022208 then ((some (y106 ++ y109 : List (S26))).bind fun y112 => (merkhetlaw27_StatsMore.l0 k l0 y112 0 0 y112 (y112.length : Int) 0 a1_0 a1_1)) else (none)))) else (none)))
theorem merkhetlaw27_StatsMore.mono_l : ∀ k, (∀ y0 y1 y2 y3 y4 y5 y6 y7 y8, LeO (merkhetlaw27_StatsMore.l0 k y0 y1 y2 y3 y4 y5 y6 y7 y8) (merkhetlaw27_StatsMore.l0 (k + 1) y0 y1 y2 y3 y4 y5 y6 y7 y8)) ∧ (∀ y0 y1 y2 y3 y4 y5 y6 y7 y8 y9 y10 y11, LeO (merkhetlaw27_StatsMore.j1 k y0 y1 y2 y3 y4 y5 y6 y7 y8 y9 y10 y11) (merkhetlaw27_StatsMore.j1 (k + 1) y0 y1 y2 y3 y4 y5 y6 y7 y8 y9 y10 y11)) ∧ (∀ y0 y1 y2 y3 y4 y5 y6 y7, LeO (merkhetlaw27_StatsMore.l1 k y0 y1 y2 y3 y4 y5 y6 y7) (merkhetlaw27_StatsMore.l1 (k + 1) y0 y1 y2 y3 y4 y5 y6 y7))
  | 0 => ⟨fun _ _ _ _ _ _ _ _ _ r h => by simp [merkhetlaw27_StatsMore.l0] at h, fun _ _ _ _ _ _ _ _ _ _ _ _ r h => by simp [merkhetlaw27_StatsMore.j1] at h, fun _ _ _ _ _ _ _ _ r h => by simp [merkhetlaw27_StatsMore.l1] at h⟩
  | k + 1 => by
    obtain ⟨ih0, ih1, ih2⟩ := merkhetlaw27_StatsMore.mono_l k
    refine ⟨?_, ?_, ?_⟩
    · intro y0 y1 y2 y3 y4 y5 y6 y7 y8
      unfold merkhetlaw27_StatsMore.l0
      repeat' first
      | (with_reducible exact ih0 _ _ _ _ _ _ _ _ _)
      | (with_reducible exact ih1 _ _ _ _ _ _ _ _ _ _ _ _)
      | (with_reducible exact ih2 _ _ _ _ _ _ _ _)
      | (with_reducible exact merkhetlaw27_fixed.mono _)
      | (with_reducible exact LeO.refl _)
      | (with_reducible exact LeO.none _)
      | (with_reducible refine LeO.ite ?_ ?_)
      | (with_reducible refine LeO.bind ?_ (fun _ => ?_))
      | exact ih0 _ _ _ _ _ _ _ _ _
      | exact ih1 _ _ _ _ _ _ _ _ _ _ _ _
      | exact ih2 _ _ _ _ _ _ _ _
      | exact merkhetlaw27_fixed.mono _
      | exact LeO.none _
      | refine LeO.ite ?_ ?_
      | refine LeO.bind ?_ (fun _ => ?_)
    · intro y0 y1 y2 y3 y4 y5 y6 y7 y8 y9 y10 y11
      unfold merkhetlaw27_StatsMore.j1
      repeat' first
      | (with_reducible exact ih0 _ _ _ _ _ _ _ _ _)
      | (with_reducible exact ih1 _ _ _ _ _ _ _ _ _ _ _ _)
      | (with_reducible exact ih2 _ _ _ _ _ _ _ _)
      | (with_reducible exact merkhetlaw27_fixed.mono _)
      | (with_reducible exact LeO.refl _)
      | (with_reducible exact LeO.none _)
      | (with_reducible refine LeO.ite ?_ ?_)
      | (with_reducible refine LeO.bind ?_ (fun _ => ?_))
      | exact ih0 _ _ _ _ _ _ _ _ _
      | exact ih1 _ _ _ _ _ _ _ _ _ _ _ _
      | exact ih2 _ _ _ _ _ _ _ _
      | exact merkhetlaw27_fixed.mono _
      | exact LeO.none _
      | refine LeO.ite ?_ ?_
      | refine LeO.bind ?_ (fun _ => ?_)
    · intro y0 y1 y2 y3 y4 y5 y6 y7
      unfold merkhetlaw27_StatsMore.l1
      repeat' first
      | (with_reducible exact ih0 _ _ _ _ _ _ _ _ _)
      | (with_reducible exact ih1 _ _ _ _ _ _ _ _ _ _ _ _)
      | (with_reducible exact ih2 _ _ _ _ _ _ _ _)
      | (with_reducible exact merkhetlaw27_fixed.mono _)
      | (with_reducible exact LeO.refl _)
      | (with_reducible exact LeO.none _)
      | (with_reducible refine LeO.ite ?_ ?_)
      | (with_reducible refine LeO.bind ?_ (fun _ => ?_))
      | exact ih0 _ _ _ _ _ _ _ _ _
      | exact ih1 _ _ _ _ _ _ _ _ _ _ _ _
      | exact ih2 _ _ _ _ _ _ _ _
      | exact merkhetlaw27_fixed.mono _
      | exact LeO.none _
      | refine LeO.ite ?_ ?_
      | refine LeO.bind ?_ (fun _ => ?_)
theorem merkhetlaw27_StatsMore.mono : ∀ a0 a1 a2 k, LeO (merkhetlaw27_StatsMore.f k a0 a1 a2) (merkhetlaw27_StatsMore.f (k + 1) a0 a1 a2) := by
  intro a0 a1 a2 k
  obtain ⟨ih0, ih1, ih2⟩ := merkhetlaw27_StatsMore.mono_l k
  unfold merkhetlaw27_StatsMore.f
  repeat' first
      | (with_reducible exact ih0 _ _ _ _ _ _ _ _ _)
      | (with_reducible exact ih1 _ _ _ _ _ _ _ _ _ _ _ _)
      | (with_reducible exact ih2 _ _ _ _ _ _ _ _)
      | (with_reducible exact merkhetlaw27_fixed.mono _)
      | (with_reducible exact LeO.refl _)
      | (with_reducible exact LeO.none _)
      | (with_reducible refine LeO.ite ?_ ?_)
      | (with_reducible refine LeO.bind ?_ (fun _ => ?_))
      | exact ih0 _ _ _ _ _ _ _ _ _
      | exact ih1 _ _ _ _ _ _ _ _ _ _ _ _
      | exact ih2 _ _ _ _ _ _ _ _
      | exact merkhetlaw27_fixed.mono _
      | exact LeO.none _
      | refine LeO.ite ?_ ?_
      | refine LeO.bind ?_ (fun _ => ?_)
set_option maxHeartbeats 8000000 in
set_option maxRecDepth 100000 in
theorem merkhetlaw27_StatsMore.calls (k : Nat) (A0 : Option Addr) (c0 : Nat) (l0 : List (S26)) (a1_0 : Int) (a1_1 : Int) (r : Bool) (w : World) (hr0 : Kd.C k26 w A0 l0.length l0) (hc0 : l0.length ≤ c0) (h : merkhetlaw27_StatsMore.f k l0 a1_0 a1_1 = some r) :
    Calls Try.prog 5 #[.slice A0 l0.length c0, .agg #[.int .i64 a1_0, .int .i64 a1_1]] w fun e w' => e = .returned (.bool r) ∧ Below w.heap.size w w' := by
  have hu26 := Try.underlying26
  have HR0 := Aside0.mk hr0
  have HC0 := Aside0.mk hc0
  clear hr0 hc0
  have HB := Aside0.mk (Below.refl w.heap.size w)
  have H : (if (l0.length : Int) > 60 then ((merkhetlaw27_fixed.f k).bind fun t102 => (some t102)) else ((some (([] : List (S26)) : List (S26))).bind fun y103 => (if y103.length + l0.length < 8796093022208 then ((some (y103 ++ l0 : List (S26))).bind fun y106 => ((some (([(⟨a1_0, a1_1⟩ : S26)] : List (S26)) : List (S26))).bind fun y109 => (if y106.length + y109.length < 8796093022208 then ((some (y106 ++ y109 : List (S26))).bind fun y112 => (merkhetlaw27_StatsMore.l0 k l0 y112 0 0 y112 (y112.length : Int) 0 a1_0 a1_1)) else (none)))) else (none)))) = some r := h
  clear h
  by_cases c3 : (l0.length : Int) > 60
  · rw [if_pos c3] at H
    have c3b0 : decide (60 < (l0.length : Int)) = true := decide_eq_true c3
    have c3b1 : decide (60 < l0.length) = true := decide_eq_true (by omega)
    clear c3
    replace H := Option.bind_eq_some_iff.mp H
    obtain ⟨t102, A40, H⟩ := H
    replace H : (some t102) = some r := H
    have A4 := Aside0.mk A40
    clear A40
    obtain rfl := Option.some.inj H
    go_enter Try.func5, Try.ntmps5
    go_wp2_with (first | ((with_reducible refine gate_dst (N := 3) rfl ?_); (try (refine gate_guard (by rfl) ?_; dsimp only)); refine box_event ?hg (N := 3) ?hd (cs := #[.int .i64 a1_0, .int .i64 a1_1]) (t := 26) ?hr ?_; (case hd => rfl); (case hg => rfl); (case hr => first | (go_simp; done) | (go_simp; rfl)); intro gb101 hg w5 hbox hb; have n0_ := Aside0.mk (below_step (by repeat (first | (with_reducible first | exact HB.out | apply below_alloc | apply pw_below_drewN | apply below_drew1) | exact HB.out)) hb); have n1_ := Aside0.mk (hbox); have n2_ := Aside0.mk ((by rw [hg]; exact (below_size (by repeat (first | (with_reducible first | exact HB.out | apply below_alloc | apply pw_below_drewN | apply below_drew1) | exact HB.out))) : w.heap.size ≤ gb101)); have n3_ := Aside0.mk ((by rw [hg]; exact (below_size (by repeat (first | (with_reducible first | exact HB.out | apply below_alloc | apply pw_below_drewN | apply below_drew1) | exact HB.out))) : w.heap.size ≤ gb101)); clear HB; have HB := n0_; have BK101 := n1_; have GW101 := n2_; have GE101 := n3_; clear n0_ n1_ n2_ n3_; clear hb hbox hg) | ((with_reducible refine gate_callee (f := 12) rfl ?_); refine goesL_ (some 18) rfl rfl Try.func12 (by kernel_rfl) rfl #[] rfl (by (try simp only [List.map_toArray, List.map_cons, List.map_nil]); first | done | rfl | (simp only [List.length_drop, List.length_take]; rfl)) ?_; (with_reducible refine (merkhetlaw27_fixed.calls k  t102 _ A4.out).mono ?_); rintro e w6 ⟨rfl, hb⟩; refine ⟨_, rfl, ?_⟩; have n0_ := Aside0.mk (blk_below (g := gb101) (o := .cells #[.int .i64 a1_0, .int .i64 a1_1] 26 (0, 0)) (by (with_reducible repeat (first | refine blk_drewN ?_ _ | refine blk_drew ?_ | refine blk_alloc ?_ _)); exact BK101.out) hb); have n1_ := Aside0.mk (below_step (by repeat (first | (with_reducible first | exact HB.out | apply below_alloc | apply pw_below_drewN | apply below_drew1 | refine below_set ?_ GE101.out) | exact HB.out)) hb); clear BK101; clear HB; have BK101 := n0_; have HB := n1_; clear n0_ n1_; (try clear hb); (try clear hb2); (try clear hk); (try clear hi)))
    go_ret
    exact ⟨by first | rfl | (simp [errW_none, errW_some] <;> rfl) | (simp [*, errW_none, errW_some] <;> rfl), by repeat (first | (with_reducible first | exact HB.out | apply below_alloc | apply pw_below_drewN | apply below_drew1 | refine below_set ?_ GE101.out) | exact HB.out)⟩
  · rw [if_neg c3] at H
    have c3b0 : decide (60 < (l0.length : Int)) = false := decide_eq_false c3
    have c3b1 : decide (60 < l0.length) = false := decide_eq_false (by omega)
    clear c3
    obtain ⟨y103, hy103⟩ : ∃ y_ : List (S26), y_ = (([] : List (S26))) := ⟨_, rfl⟩
    replace H : (if y103.length + l0.length < 8796093022208 then ((some (y103 ++ l0 : List (S26))).bind fun y106 => ((some (([(⟨a1_0, a1_1⟩ : S26)] : List (S26)) : List (S26))).bind fun y109 => (if y106.length + y109.length < 8796093022208 then ((some (y106 ++ y109 : List (S26))).bind fun y112 => (merkhetlaw27_StatsMore.l0 k l0 y112 0 0 y112 (y112.length : Int) 0 a1_0 a1_1)) else (none)))) else (none)) = some r := by first | (rw [hy103]; with_reducible exact H) | (have H2_ := (Option.bind_some _ _).symm.trans H; rw [hy103]; with_reducible exact H2_) | (have H2_ := (Option.bind_some _ _).symm.trans H; with_reducible exact H2_) | with_reducible exact H | (rw [hy103]; exact H) | exact H
    have Ny103 := Aside0.mk hy103
    clear hy103
    by_cases c7 : y103.length + l0.length < 8796093022208
    · rw [if_pos c7] at H
      have LMc7 := Aside0.mk c7
      clear c7
      obtain ⟨y106, hy106⟩ : ∃ y_ : List (S26), y_ = (y103 ++ l0) := ⟨_, rfl⟩
      replace H : ((some (([(⟨a1_0, a1_1⟩ : S26)] : List (S26)) : List (S26))).bind fun y109 => (if y106.length + y109.length < 8796093022208 then ((some (y106 ++ y109 : List (S26))).bind fun y112 => (merkhetlaw27_StatsMore.l0 k l0 y112 0 0 y112 (y112.length : Int) 0 a1_0 a1_1)) else (none))) = some r := by first | (rw [hy106]; with_reducible exact H) | (have H2_ := (Option.bind_some _ _).symm.trans H; rw [hy106]; with_reducible exact H2_) | (have H2_ := (Option.bind_some _ _).symm.trans H; with_reducible exact H2_) | with_reducible exact H | (rw [hy106]; exact H) | exact H
      have Ny106 := Aside0.mk hy106
      clear hy106
      obtain ⟨y109, hy109⟩ : ∃ y_ : List (S26), y_ = (([(⟨a1_0, a1_1⟩ : S26)] : List (S26))) := ⟨_, rfl⟩
      replace H : (if y106.length + y109.length < 8796093022208 then ((some (y106 ++ y109 : List (S26))).bind fun y112 => (merkhetlaw27_StatsMore.l0 k l0 y112 0 0 y112 (y112.length : Int) 0 a1_0 a1_1)) else (none)) = some r := by first | (rw [hy109]; with_reducible exact H) | (have H2_ := (Option.bind_some _ _).symm.trans H; rw [hy109]; with_reducible exact H2_) | (have H2_ := (Option.bind_some _ _).symm.trans H; with_reducible exact H2_) | with_reducible exact H | (rw [hy109]; exact H) | exact H
      have Ny109 := Aside0.mk hy109
      clear hy109
      by_cases c8 : y106.length + y109.length < 8796093022208
      · rw [if_pos c8] at H
        have LMc8 := Aside0.mk c8
        clear c8
        obtain ⟨y112, hy112⟩ : ∃ y_ : List (S26), y_ = (y106 ++ y109) := ⟨_, rfl⟩
        replace H : (merkhetlaw27_StatsMore.l0 k l0 y112 0 0 y112 (y112.length : Int) 0 a1_0 a1_1) = some r := by first | (rw [hy112]; with_reducible exact H) | (have H2_ := (Option.bind_some _ _).symm.trans H; rw [hy112]; with_reducible exact H2_) | (have H2_ := (Option.bind_some _ _).symm.trans H; with_reducible exact H2_) | with_reducible exact H | (rw [hy112]; exact H) | exact H
        have Ny112 := Aside0.mk hy112
        clear hy112
        have H' := Aside0.mk H
        clear H
        go_enter Try.func5, Try.ntmps5
        try go_wp2_with (first | ((with_reducible refine gate_dst (N := 3) rfl ?_); (try (refine gate_guard (by rfl) ?_; dsimp only)); refine box_event ?hg (N := 3) ?hd (cs := #[.int .i64 a1_0, .int .i64 a1_1]) (t := 26) ?hr ?_; (case hd => rfl); (case hg => rfl); (case hr => first | (go_simp; done) | (go_simp; rfl)); intro gb101 hg w9 hbox hb; have n0_ := Aside0.mk (below_step (by repeat (first | (with_reducible first | exact HB.out | apply below_alloc | apply pw_below_drewN | apply below_drew1) | exact HB.out)) hb); have n1_ := Aside0.mk (hbox); have n2_ := Aside0.mk ((by rw [hg]; exact (below_size (by repeat (first | (with_reducible first | exact HB.out | apply below_alloc | apply pw_below_drewN | apply below_drew1) | exact HB.out))) : w.heap.size ≤ gb101)); have n3_ := Aside0.mk ((by rw [hg]; exact (below_size (by repeat (first | (with_reducible first | exact HB.out | apply below_alloc | apply pw_below_drewN | apply below_drew1) | exact HB.out))) : w.heap.size ≤ gb101)); clear HB; have HB := n0_; have BK101 := n1_; have GW101 := n2_; have GE101 := n3_; clear n0_ n1_ n2_ n3_; clear hb hbox hg))
        have n0_ := Aside0.mk (blk_drew BK101.out)
        have n1_ := Aside0.mk (below_drew1 HB.out)
        clear BK101
        clear HB
        have BK101 := n0_
        have HB := n1_
        clear n0_ n1_
        refine start_ (n := 7) (S := fun w' => w'.cell? ⟨gb101, 0, none⟩ = some (.int .i64 a1_0) ∧ w'.cell? ⟨gb101, 1, none⟩ = some (.int .i64 a1_1)) (ds := []) #[false, false, false, false, false, false, false] (by kernel_rfl) rfl rfl ⟨(blk_cell BK101.out 0).trans rfl, (blk_cell BK101.out 1).trans rfl⟩ (fun hHeld => ?_)
        generalize w9.drew = w10 at BK101 HB hHeld ⊢
        refine pure_ (i := 1) (N := some 20) (v := ?_) (a' := ?_) #[false, true, false, false, false, false, false] rfl rfl (by kernel_rfl) (fun _ _ _ h => h) (Or.inl ⟨by rfl, ?_⟩) ?_ ?_
        rotate_left
        · intro w'
          go_simp
          with_reducible rfl
        rotate_left
        · simp only [Act.put, List.setIfInBounds_toArray, List.set_cons_zero, List.set_cons_succ, i64_w, i32_w]
          rfl
        refine take_ (i := 3) (N := some 22) (v := ?_) (a' := ?_) #[false, true, false, true, false, false, false] rfl rfl (by kernel_rfl) (fun _ _ _ h => h) (Or.inl ⟨by rfl, ?_⟩) hHeld ?_ ?_
        rotate_left
        · rintro w' ⟨s0, s1⟩
          go_simp
          with_reducible rfl
        rotate_left
        · simp only [Act.put, List.setIfInBounds_toArray, List.set_cons_zero, List.set_cons_succ, i64_w, i32_w]
          rfl
        refine join_ (σ := Value × Value × Value) 2 #[true, true, true, true, true, false, false] (fun s_ => [(19, s_.1), (21, s_.2.1), (23, s_.2.2)]) (fun s_ w' => (w'.cell? ⟨gb101, 0, none⟩ = some (.int .i64 a1_0) ∧ w'.cell? ⟨gb101, 1, none⟩ = some (.int .i64 a1_1)) ∧ (Kd.R k26 26 w' w.heap.size (fun k_ => some k_ ≠ (s_.2.2 : Value).ownBlock ∧ k_ ≠ gb101) s_.2.1 y106) ∧ (Kd.R k26 26 w' w.heap.size (fun k_ => some k_ ≠ (s_.2.1 : Value).ownBlock ∧ k_ ≠ gb101) s_.2.2 y109) ∧ (w'.heap[gb101]? = some (.cells #[.int .i64 a1_0, .int .i64 a1_1] 26 (0, 0))) ∧ (Below w.heap.size w w')) ?_ ?_
        rotate_left
        · intro hCont
          refine two_ (i := 0) (j := 4) (Ni := some 19) (Nj := some 23) #[true, true, false, true, false, false, false] #[false, true, false, true, true, false, false] rfl rfl rfl rfl (by kernel_rfl) (by decide) (by decide) (fun K hK => ?_) (fun K hK => ?_)
          · skip
            refine Kd.R_lit_step k26 _ 26 ?hg (N := 19) ?hd (xs := ([] : List (S26))) (inner := []) (ok := fun _ => True) (okp := fun _ => True) ?hr ?hp (fun _ hk => hk) trivial (Below.refl _ _) (Nat.le_refl _) (by simp) ?_; (case hd => rfl); (case hg => rfl); (case hr => first | (go_simp; done) | (go_simp; rfl)); (case hp => exact (Reps.none _ _))
            intro v104 w11 ho12 hb hg_ hnew_
            clear hg_ hnew_
            (first | rw [← Ny103.out] at ho12 | (simp only [Int.reduceToNat] at ho12; rw [← Ny103.out] at ho12))
            have n0_ := Aside0.mk (Kd.R_lower (Kd.R_newB ho12 (g := gb101) (o := .cells #[.int .i64 a1_0, .int .i64 a1_1] 26 (0, 0)) (by (with_reducible repeat (first | refine blk_drewN ?_ _ | refine blk_drew ?_ | refine blk_alloc ?_ _)); exact BK101.out)) (below_size (by repeat (first | (with_reducible first | exact HB.out | apply below_alloc | apply pw_below_drewN | apply below_drew1 | refine below_set ?_ GE101.out) | exact HB.out))))
            have n1_ := Aside0.mk (blk_below (g := gb101) (o := .cells #[.int .i64 a1_0, .int .i64 a1_1] 26 (0, 0)) (by (with_reducible repeat (first | refine blk_drewN ?_ _ | refine blk_drew ?_ | refine blk_alloc ?_ _)); exact BK101.out) hb)
            have n2_ := Aside0.mk (below_step (by repeat (first | (with_reducible first | exact HB.out | apply below_alloc | apply pw_below_drewN | apply below_drew1 | refine below_set ?_ GE101.out) | exact HB.out)) hb)
            clear BK101
            clear HB
            have HO105 := n0_
            have BK101 := n1_
            have HB := n2_
            clear n0_ n1_ n2_
            clear hb ho12
            refine hK.out _ _ ⟨(blk_cell BK101.out 0).trans rfl, (blk_cell BK101.out 1).trans rfl⟩ (fun hHeld => ?_)
            clear hK K
            refine norm_ (a' := ?_) ?_ ?_
            rotate_left
            · show Act.put _ (some 19) _ = _
              simp only [Act.put, List.setIfInBounds_toArray, List.set_cons_zero, List.set_cons_succ, i64_w, i32_w]
              rfl
            refine two_ (i := 2) (j := 4) (Ni := some 21) (Nj := some 23) #[true, true, true, true, false, false, false] #[true, true, false, true, true, false, false] rfl rfl rfl rfl (by kernel_rfl) (by decide) (by decide) (fun K hK => ?_) (fun K hK => ?_)
            · skip
              refine Kd.R_append_rows_step k26 (w0 := w) w.heap.size (by rfl) (.tmp 19) (.tmp 20) 22 26 (.agg #[(.int .i64 0), (.int .i64 0)]) 16 rfl Try.underlying22 info26 rfl (by decide) (by omega) v104 y103 l0 _ _ _ (fun k_ => k_ ≠ gb101) (fun _ => False) rfl rfl ?aO ?aR (fun _ _ h => h) (fun _ h => h.elim) ?aF ?aB ?aS ?aL ?_
              (case aR => repeat (first | exact (Kd.C_below HR0.out HB.out) | (with_reducible refine Kd.C_alloc ?_ _) | (with_reducible refine Kd.C_drewN ?_ _) | (with_reducible refine Kd.C_drew ?_)))
              (case aB => exact (by repeat (first | (with_reducible first | exact HB.out | apply below_alloc | apply pw_below_drewN | apply below_drew1 | refine below_set ?_ GE101.out) | exact HB.out)))
              (case aF => exact (fun k_ hk => Kd.freshB (g := gb101) (o := .cells #[.int .i64 a1_0, .int .i64 a1_1] 26 (0, 0)) (by (with_reducible repeat (first | refine blk_drewN ?_ _ | refine blk_drew ?_ | refine blk_alloc ?_ _)); exact BK101.out) k_ hk))
              (case aO => exact (by (with_reducible repeat (first | apply Kd.R_alloc | apply Kd.R_drewN | apply Kd.R_drew)); exact Kd.R_mono HO105.out (fun _ hk => hk.2)))
              (case aS => exact (below_size (by repeat (first | (with_reducible first | exact HB.out | apply below_alloc | apply pw_below_drewN | apply below_drew1 | refine below_set ?_ GE101.out) | exact HB.out))))
              (case aL => have := LMc7.out; omega)
              intro v107 w13 ho hb hg hat
              rw [← Ny106.out] at ho
              have n0_ := Aside0.mk (blk_grown (g := gb101) (o := .cells #[.int .i64 a1_0, .int .i64 a1_1] 26 (0, 0)) (by (with_reducible repeat (first | refine blk_drewN ?_ _ | refine blk_drew ?_ | refine blk_alloc ?_ _)); exact BK101.out) hg (Kd.R_away HO105.out (fun _ hk => hk.2)))
              have n1_ := Aside0.mk (hb)
              have n2_ := Aside0.mk (ho)
              clear BK101
              clear HB
              clear HO105
              have BK101 := n0_
              have HB := n1_
              have HO108 := n2_
              clear n0_ n1_ n2_
              clear ho hb hg hat
              refine hK.out _ _ ⟨(blk_cell BK101.out 0).trans rfl, (blk_cell BK101.out 1).trans rfl⟩ (fun hHeld => ?_)
              clear hK K
              refine norm_ (a' := ?_) ?_ ?_
              rotate_left
              · show Act.put _ (some 21) _ = _
                simp only [Act.put, List.setIfInBounds_toArray, List.set_cons_zero, List.set_cons_succ, i64_w, i32_w]
                rfl
              refine one_ (i := 4) (N := some 23) #[true, true, true, true, true, false, false] rfl rfl (by kernel_rfl) (by decide) (fun K hK => ?_)
              refine Kd.R_lit_step k26 _ 26 ?hg (N := 23) ?hd (xs := ([(⟨a1_0, a1_1⟩ : S26)] : List (S26))) (inner := [.int .i64 a1_0, .int .i64 a1_1]) (ok := fun _ => True) (okp := fun _ => True) ?hr ?hp (fun _ hk => hk) trivial (Below.refl _ _) (Nat.le_refl _) (by simp) ?_; (case hd => rfl); (case hg => rfl); (case hr => first | (go_simp; done) | (go_simp; rfl)); (case hp => exact (Reps.c2 (show Kd.M k26 _ _ _ (⟨a1_0, a1_1⟩ : S26) [.int .i64 a1_0, .int .i64 a1_1] from (k26_mkM _ _ _ (⟨a1_0, a1_1⟩ : S26) )) (Reps.none _ _)))
              intro v110 w14 ho15 hb hg_ hnew_
              clear hg_ hnew_
              (first | rw [← Ny109.out] at ho15 | (simp only [Int.reduceToNat] at ho15; rw [← Ny109.out] at ho15))
              have n0_ := Aside0.mk (Kd.R_elder' (by (with_reducible repeat (first | apply Kd.R_alloc | apply Kd.R_drewN | apply Kd.R_drew)); exact HO108.out) (Kd.R_base ho15) hb)
              have n1_ := Aside0.mk (Kd.R_lower (Kd.R_newB (Kd.R_new' ho15 (Kd.R_lt (by (with_reducible repeat (first | apply Kd.R_alloc | apply Kd.R_drewN | apply Kd.R_drew)); exact HO108.out))) (g := gb101) (o := .cells #[.int .i64 a1_0, .int .i64 a1_1] 26 (0, 0)) (by (with_reducible repeat (first | refine blk_drewN ?_ _ | refine blk_drew ?_ | refine blk_alloc ?_ _)); exact BK101.out)) (below_size (by repeat (first | (with_reducible first | exact HB.out | apply below_alloc | apply pw_below_drewN | apply below_drew1 | refine below_set ?_ GE101.out) | exact HB.out))))
              have n2_ := Aside0.mk (blk_below (g := gb101) (o := .cells #[.int .i64 a1_0, .int .i64 a1_1] 26 (0, 0)) (by (with_reducible repeat (first | refine blk_drewN ?_ _ | refine blk_drew ?_ | refine blk_alloc ?_ _)); exact BK101.out) hb)
              have n3_ := Aside0.mk (below_step (by repeat (first | (with_reducible first | exact HB.out | apply below_alloc | apply pw_below_drewN | apply below_drew1 | refine below_set ?_ GE101.out) | exact HB.out)) hb)
              clear HO108
              clear BK101
              clear HB
              have HO108 := n0_
              have HO111 := n1_
              have BK101 := n2_
              have HB := n3_
              clear n0_ n1_ n2_ n3_
              clear hb ho15
              refine hK.out _ _ ⟨(blk_cell BK101.out 0).trans rfl, (blk_cell BK101.out 1).trans rfl⟩ (fun hHeld => ?_)
              clear hK K
              refine norm_ (a' := ?_) ?_ ?_
              rotate_left
              · show Act.put _ (some 23) _ = _
                simp only [Act.put, List.setIfInBounds_toArray, List.set_cons_zero, List.set_cons_succ, i64_w, i32_w]
                rfl
              exact norm_ (by simp only [putAll, Act.put, List.setIfInBounds_toArray, List.set_cons_zero, List.set_cons_succ]) (hCont (v104, v107, v110) _ ⟨hHeld, (by (with_reducible repeat (first | apply Kd.R_alloc | apply Kd.R_drewN | apply Kd.R_drew)); exact Kd.R_mono HO108.out (fun _ hk => ⟨hk.2, hk.1⟩)), (by (with_reducible repeat (first | apply Kd.R_alloc | apply Kd.R_drewN | apply Kd.R_drew)); exact Kd.R_mono HO111.out (fun _ hk => ⟨hk.1.2, hk.2⟩)), (by (with_reducible repeat (first | refine blk_drewN ?_ _ | refine blk_drew ?_ | refine blk_alloc ?_ _)); exact BK101.out), (by repeat (first | (with_reducible first | exact HB.out | apply below_alloc | apply pw_below_drewN | apply below_drew1 | refine below_set ?_ GE101.out) | exact HB.out))⟩)
            · skip
              refine Kd.R_lit_step k26 _ 26 ?hg (N := 23) ?hd (xs := ([(⟨a1_0, a1_1⟩ : S26)] : List (S26))) (inner := [.int .i64 a1_0, .int .i64 a1_1]) (ok := fun _ => True) (okp := fun _ => True) ?hr ?hp (fun _ hk => hk) trivial (Below.refl _ _) (Nat.le_refl _) (by simp) ?_; (case hd => rfl); (case hg => rfl); (case hr => first | (go_simp; done) | (go_simp; rfl)); (case hp => exact (Reps.c2 (show Kd.M k26 _ _ _ (⟨a1_0, a1_1⟩ : S26) [.int .i64 a1_0, .int .i64 a1_1] from (k26_mkM _ _ _ (⟨a1_0, a1_1⟩ : S26) )) (Reps.none _ _)))
              intro v110 w13 ho14 hb hg_ hnew_
              clear hg_ hnew_
              (first | rw [← Ny109.out] at ho14 | (simp only [Int.reduceToNat] at ho14; rw [← Ny109.out] at ho14))
              have n0_ := Aside0.mk (Kd.R_elder' (by (with_reducible repeat (first | apply Kd.R_alloc | apply Kd.R_drewN | apply Kd.R_drew)); exact HO105.out) (Kd.R_base ho14) hb)
              have n1_ := Aside0.mk (Kd.R_lower (Kd.R_newB (Kd.R_new' ho14 (Kd.R_lt (by (with_reducible repeat (first | apply Kd.R_alloc | apply Kd.R_drewN | apply Kd.R_drew)); exact HO105.out))) (g := gb101) (o := .cells #[.int .i64 a1_0, .int .i64 a1_1] 26 (0, 0)) (by (with_reducible repeat (first | refine blk_drewN ?_ _ | refine blk_drew ?_ | refine blk_alloc ?_ _)); exact BK101.out)) (below_size (by repeat (first | (with_reducible first | exact HB.out | apply below_alloc | apply pw_below_drewN | apply below_drew1 | refine below_set ?_ GE101.out) | exact HB.out))))
              have n2_ := Aside0.mk (blk_below (g := gb101) (o := .cells #[.int .i64 a1_0, .int .i64 a1_1] 26 (0, 0)) (by (with_reducible repeat (first | refine blk_drewN ?_ _ | refine blk_drew ?_ | refine blk_alloc ?_ _)); exact BK101.out) hb)
              have n3_ := Aside0.mk (below_step (by repeat (first | (with_reducible first | exact HB.out | apply below_alloc | apply pw_below_drewN | apply below_drew1 | refine below_set ?_ GE101.out) | exact HB.out)) hb)
              clear HO105
              clear BK101
              clear HB
              have HO105 := n0_
              have HO111 := n1_
              have BK101 := n2_
              have HB := n3_
              clear n0_ n1_ n2_ n3_
              clear hb ho14
              refine hK.out _ _ ⟨(blk_cell BK101.out 0).trans rfl, (blk_cell BK101.out 1).trans rfl⟩ (fun hHeld => ?_)
              clear hK K
              refine norm_ (a' := ?_) ?_ ?_
              rotate_left
              · show Act.put _ (some 23) _ = _
                simp only [Act.put, List.setIfInBounds_toArray, List.set_cons_zero, List.set_cons_succ, i64_w, i32_w]
                rfl
              refine one_ (i := 2) (N := some 21) #[true, true, true, true, true, false, false] rfl rfl (by kernel_rfl) (by decide) (fun K hK => ?_)
              refine Kd.R_append_rows_step k26 (w0 := w) w.heap.size (by rfl) (.tmp 19) (.tmp 20) 22 26 (.agg #[(.int .i64 0), (.int .i64 0)]) 16 rfl Try.underlying22 info26 rfl (by decide) (by omega) v104 y103 l0 _ _ _ (fun k_ => some k_ ≠ (v110 : Value).ownBlock ∧ k_ ≠ gb101) (fun _ => False) rfl rfl ?aO ?aR (fun _ _ h => h) (fun _ h => h.elim) ?aF ?aB ?aS ?aL ?_
              (case aR => repeat (first | exact (Kd.C_below HR0.out HB.out) | (with_reducible refine Kd.C_alloc ?_ _) | (with_reducible refine Kd.C_drewN ?_ _) | (with_reducible refine Kd.C_drew ?_)))
              (case aB => exact (by repeat (first | (with_reducible first | exact HB.out | apply below_alloc | apply pw_below_drewN | apply below_drew1 | refine below_set ?_ GE101.out) | exact HB.out)))
              (case aF => exact (fun k_ hk => ⟨Kd.fresh' (Kd.R_lt (by (with_reducible repeat (first | apply Kd.R_alloc | apply Kd.R_drewN | apply Kd.R_drew)); exact HO111.out)) k_ hk, Kd.freshB (g := gb101) (o := .cells #[.int .i64 a1_0, .int .i64 a1_1] 26 (0, 0)) (by (with_reducible repeat (first | refine blk_drewN ?_ _ | refine blk_drew ?_ | refine blk_alloc ?_ _)); exact BK101.out) k_ hk⟩))
              (case aO => exact (by (with_reducible repeat (first | apply Kd.R_alloc | apply Kd.R_drewN | apply Kd.R_drew)); exact Kd.R_mono HO105.out (fun _ hk => ⟨hk.2, hk.1.2⟩)))
              (case aS => exact (below_size (by repeat (first | (with_reducible first | exact HB.out | apply below_alloc | apply pw_below_drewN | apply below_drew1 | refine below_set ?_ GE101.out) | exact HB.out))))
              (case aL => have := LMc7.out; omega)
              intro v107 w15 ho hb hg hat
              rw [← Ny106.out] at ho
              have n0_ := Aside0.mk (blk_grown (g := gb101) (o := .cells #[.int .i64 a1_0, .int .i64 a1_1] 26 (0, 0)) (by (with_reducible repeat (first | refine blk_drewN ?_ _ | refine blk_drew ?_ | refine blk_alloc ?_ _)); exact BK101.out) hg (Kd.R_away HO105.out (fun _ hk => hk.1.2)))
              have n1_ := Aside0.mk (Kd.R_after (ok := (fun k_ => k_ ≠ gb101)) (by (with_reducible repeat (first | apply Kd.R_alloc | apply Kd.R_drewN | apply Kd.R_drew)); exact Kd.R_mono HO111.out (fun _ hk => ⟨hk.2, hk.1.2⟩)) hg hat)
              have n2_ := Aside0.mk (hb)
              have n3_ := Aside0.mk (ho)
              clear BK101
              clear HO111
              clear HB
              clear HO105
              have BK101 := n0_
              have HO111 := n1_
              have HB := n2_
              have HO108 := n3_
              clear n0_ n1_ n2_ n3_
              clear ho hb hg hat
              refine hK.out _ _ ⟨(blk_cell BK101.out 0).trans rfl, (blk_cell BK101.out 1).trans rfl⟩ (fun hHeld => ?_)
              clear hK K
              refine norm_ (a' := ?_) ?_ ?_
              rotate_left
              · show Act.put _ (some 21) _ = _
                simp only [Act.put, List.setIfInBounds_toArray, List.set_cons_zero, List.set_cons_succ, i64_w, i32_w]
                rfl
              exact norm_ (by simp only [putAll, Act.put, List.setIfInBounds_toArray, List.set_cons_zero, List.set_cons_succ]) (hCont (v104, v107, v110) _ ⟨hHeld, (by (with_reducible repeat (first | apply Kd.R_alloc | apply Kd.R_drewN | apply Kd.R_drew)); exact HO108.out), (by (with_reducible repeat (first | apply Kd.R_alloc | apply Kd.R_drewN | apply Kd.R_drew)); exact Kd.R_mono HO111.out (fun _ hk => ⟨hk.2, hk.1⟩)), (by (with_reducible repeat (first | refine blk_drewN ?_ _ | refine blk_drew ?_ | refine blk_alloc ?_ _)); exact BK101.out), (by repeat (first | (with_reducible first | exact HB.out | apply below_alloc | apply pw_below_drewN | apply below_drew1 | refine below_set ?_ GE101.out) | exact HB.out))⟩)
          · skip
            refine Kd.R_lit_step k26 _ 26 ?hg (N := 23) ?hd (xs := ([(⟨a1_0, a1_1⟩ : S26)] : List (S26))) (inner := [.int .i64 a1_0, .int .i64 a1_1]) (ok := fun _ => True) (okp := fun _ => True) ?hr ?hp (fun _ hk => hk) trivial (Below.refl _ _) (Nat.le_refl _) (by simp) ?_; (case hd => rfl); (case hg => rfl); (case hr => first | (go_simp; done) | (go_simp; rfl)); (case hp => exact (Reps.c2 (show Kd.M k26 _ _ _ (⟨a1_0, a1_1⟩ : S26) [.int .i64 a1_0, .int .i64 a1_1] from (k26_mkM _ _ _ (⟨a1_0, a1_1⟩ : S26) )) (Reps.none _ _)))
            intro v110 w11 ho12 hb hg_ hnew_
            clear hg_ hnew_
            (first | rw [← Ny109.out] at ho12 | (simp only [Int.reduceToNat] at ho12; rw [← Ny109.out] at ho12))
            have n0_ := Aside0.mk (Kd.R_lower (Kd.R_newB ho12 (g := gb101) (o := .cells #[.int .i64 a1_0, .int .i64 a1_1] 26 (0, 0)) (by (with_reducible repeat (first | refine blk_drewN ?_ _ | refine blk_drew ?_ | refine blk_alloc ?_ _)); exact BK101.out)) (below_size (by repeat (first | (with_reducible first | exact HB.out | apply below_alloc | apply pw_below_drewN | apply below_drew1 | refine below_set ?_ GE101.out) | exact HB.out))))
            have n1_ := Aside0.mk (blk_below (g := gb101) (o := .cells #[.int .i64 a1_0, .int .i64 a1_1] 26 (0, 0)) (by (with_reducible repeat (first | refine blk_drewN ?_ _ | refine blk_drew ?_ | refine blk_alloc ?_ _)); exact BK101.out) hb)
            have n2_ := Aside0.mk (below_step (by repeat (first | (with_reducible first | exact HB.out | apply below_alloc | apply pw_below_drewN | apply below_drew1 | refine below_set ?_ GE101.out) | exact HB.out)) hb)
            clear BK101
            clear HB
            have HO111 := n0_
            have BK101 := n1_
            have HB := n2_
            clear n0_ n1_ n2_
            clear hb ho12
            refine hK.out _ _ ⟨(blk_cell BK101.out 0).trans rfl, (blk_cell BK101.out 1).trans rfl⟩ (fun hHeld => ?_)
            clear hK K
            refine norm_ (a' := ?_) ?_ ?_
            rotate_left
            · show Act.put _ (some 23) _ = _
              simp only [Act.put, List.setIfInBounds_toArray, List.set_cons_zero, List.set_cons_succ, i64_w, i32_w]
              rfl
            refine one_ (i := 0) (N := some 19) #[true, true, false, true, true, false, false] rfl rfl (by kernel_rfl) (by decide) (fun K hK => ?_)
            refine Kd.R_lit_step k26 _ 26 ?hg (N := 19) ?hd (xs := ([] : List (S26))) (inner := []) (ok := fun _ => True) (okp := fun _ => True) ?hr ?hp (fun _ hk => hk) trivial (Below.refl _ _) (Nat.le_refl _) (by simp) ?_; (case hd => rfl); (case hg => rfl); (case hr => first | (go_simp; done) | (go_simp; rfl)); (case hp => exact (Reps.none _ _))
            intro v104 w13 ho14 hb hg_ hnew_
            clear hg_ hnew_
            (first | rw [← Ny103.out] at ho14 | (simp only [Int.reduceToNat] at ho14; rw [← Ny103.out] at ho14))
            have n0_ := Aside0.mk (Kd.R_elder' (by (with_reducible repeat (first | apply Kd.R_alloc | apply Kd.R_drewN | apply Kd.R_drew)); exact HO111.out) (Kd.R_base ho14) hb)
            have n1_ := Aside0.mk (Kd.R_lower (Kd.R_newB (Kd.R_new' ho14 (Kd.R_lt (by (with_reducible repeat (first | apply Kd.R_alloc | apply Kd.R_drewN | apply Kd.R_drew)); exact HO111.out))) (g := gb101) (o := .cells #[.int .i64 a1_0, .int .i64 a1_1] 26 (0, 0)) (by (with_reducible repeat (first | refine blk_drewN ?_ _ | refine blk_drew ?_ | refine blk_alloc ?_ _)); exact BK101.out)) (below_size (by repeat (first | (with_reducible first | exact HB.out | apply below_alloc | apply pw_below_drewN | apply below_drew1 | refine below_set ?_ GE101.out) | exact HB.out))))
            have n2_ := Aside0.mk (blk_below (g := gb101) (o := .cells #[.int .i64 a1_0, .int .i64 a1_1] 26 (0, 0)) (by (with_reducible repeat (first | refine blk_drewN ?_ _ | refine blk_drew ?_ | refine blk_alloc ?_ _)); exact BK101.out) hb)
            have n3_ := Aside0.mk (below_step (by repeat (first | (with_reducible first | exact HB.out | apply below_alloc | apply pw_below_drewN | apply below_drew1 | refine below_set ?_ GE101.out) | exact HB.out)) hb)
            clear HO111
            clear BK101
            clear HB
            have HO111 := n0_
            have HO105 := n1_
            have BK101 := n2_
            have HB := n3_
            clear n0_ n1_ n2_ n3_
            clear hb ho14
            refine hK.out _ _ ⟨(blk_cell BK101.out 0).trans rfl, (blk_cell BK101.out 1).trans rfl⟩ (fun hHeld => ?_)
            clear hK K
            refine norm_ (a' := ?_) ?_ ?_
            rotate_left
            · show Act.put _ (some 19) _ = _
              simp only [Act.put, List.setIfInBounds_toArray, List.set_cons_zero, List.set_cons_succ, i64_w, i32_w]
              rfl
            refine one_ (i := 2) (N := some 21) #[true, true, true, true, true, false, false] rfl rfl (by kernel_rfl) (by decide) (fun K hK => ?_)
            refine Kd.R_append_rows_step k26 (w0 := w) w.heap.size (by rfl) (.tmp 19) (.tmp 20) 22 26 (.agg #[(.int .i64 0), (.int .i64 0)]) 16 rfl Try.underlying22 info26 rfl (by decide) (by omega) v104 y103 l0 _ _ _ (fun k_ => some k_ ≠ (v110 : Value).ownBlock ∧ k_ ≠ gb101) (fun _ => False) rfl rfl ?aO ?aR (fun _ _ h => h) (fun _ h => h.elim) ?aF ?aB ?aS ?aL ?_
            (case aR => repeat (first | exact (Kd.C_below HR0.out HB.out) | (with_reducible refine Kd.C_alloc ?_ _) | (with_reducible refine Kd.C_drewN ?_ _) | (with_reducible refine Kd.C_drew ?_)))
            (case aB => exact (by repeat (first | (with_reducible first | exact HB.out | apply below_alloc | apply pw_below_drewN | apply below_drew1 | refine below_set ?_ GE101.out) | exact HB.out)))
            (case aF => exact (fun k_ hk => ⟨Kd.fresh' (Kd.R_lt (by (with_reducible repeat (first | apply Kd.R_alloc | apply Kd.R_drewN | apply Kd.R_drew)); exact HO111.out)) k_ hk, Kd.freshB (g := gb101) (o := .cells #[.int .i64 a1_0, .int .i64 a1_1] 26 (0, 0)) (by (with_reducible repeat (first | refine blk_drewN ?_ _ | refine blk_drew ?_ | refine blk_alloc ?_ _)); exact BK101.out) k_ hk⟩))
            (case aO => exact (by (with_reducible repeat (first | apply Kd.R_alloc | apply Kd.R_drewN | apply Kd.R_drew)); exact Kd.R_mono HO105.out (fun _ hk => ⟨hk.1.2, hk.2⟩)))
            (case aS => exact (below_size (by repeat (first | (with_reducible first | exact HB.out | apply below_alloc | apply pw_below_drewN | apply below_drew1 | refine below_set ?_ GE101.out) | exact HB.out))))
            (case aL => have := LMc7.out; omega)
            intro v107 w15 ho hb hg hat
            rw [← Ny106.out] at ho
            have n0_ := Aside0.mk (blk_grown (g := gb101) (o := .cells #[.int .i64 a1_0, .int .i64 a1_1] 26 (0, 0)) (by (with_reducible repeat (first | refine blk_drewN ?_ _ | refine blk_drew ?_ | refine blk_alloc ?_ _)); exact BK101.out) hg (Kd.R_away HO105.out (fun _ hk => hk.2)))
            have n1_ := Aside0.mk (Kd.R_after (ok := (fun k_ => k_ ≠ gb101)) (by (with_reducible repeat (first | apply Kd.R_alloc | apply Kd.R_drewN | apply Kd.R_drew)); exact Kd.R_mono HO111.out (fun _ hk => ⟨hk.1.2, hk.2⟩)) hg hat)
            have n2_ := Aside0.mk (hb)
            have n3_ := Aside0.mk (ho)
            clear BK101
            clear HO111
            clear HB
            clear HO105
            have BK101 := n0_
            have HO111 := n1_
            have HB := n2_
            have HO108 := n3_
            clear n0_ n1_ n2_ n3_
            clear ho hb hg hat
            refine hK.out _ _ ⟨(blk_cell BK101.out 0).trans rfl, (blk_cell BK101.out 1).trans rfl⟩ (fun hHeld => ?_)
            clear hK K
            refine norm_ (a' := ?_) ?_ ?_
            rotate_left
            · show Act.put _ (some 21) _ = _
              simp only [Act.put, List.setIfInBounds_toArray, List.set_cons_zero, List.set_cons_succ, i64_w, i32_w]
              rfl
            exact norm_ (by simp only [putAll, Act.put, List.setIfInBounds_toArray, List.set_cons_zero, List.set_cons_succ]) (hCont (v104, v107, v110) _ ⟨hHeld, (by (with_reducible repeat (first | apply Kd.R_alloc | apply Kd.R_drewN | apply Kd.R_drew)); exact HO108.out), (by (with_reducible repeat (first | apply Kd.R_alloc | apply Kd.R_drewN | apply Kd.R_drew)); exact Kd.R_mono HO111.out (fun _ hk => ⟨hk.2, hk.1⟩)), (by (with_reducible repeat (first | refine blk_drewN ?_ _ | refine blk_drew ?_ | refine blk_alloc ?_ _)); exact BK101.out), (by repeat (first | (with_reducible first | exact HB.out | apply below_alloc | apply pw_below_drewN | apply below_drew1 | refine below_set ?_ GE101.out) | exact HB.out))⟩)
        rintro ⟨v104, v107, v110⟩ w16 ⟨hS_, h0_, h1_, h2_, h3_⟩
        have n0_ : Aside0 (Kd.R k26 26 w16 w.heap.size (fun k_ => some k_ ≠ (v110 : Value).ownBlock ∧ k_ ≠ gb101) v107 y106) := ⟨h0_⟩
        have n1_ : Aside0 (Kd.R k26 26 w16 w.heap.size (fun k_ => some k_ ≠ (v107 : Value).ownBlock ∧ k_ ≠ gb101) v110 y109) := ⟨h1_⟩
        have n2_ : Aside0 (w16.heap[gb101]? = some (.cells #[.int .i64 a1_0, .int .i64 a1_1] 26 (0, 0))) := ⟨h2_⟩
        have n3_ : Aside0 (Below w.heap.size w w16) := ⟨h3_⟩
        clear BK101
        clear HB
        clear h0_ h1_ h2_ h3_
        have HO108 := n0_
        have HO111 := n1_
        have BK101 := n2_
        have HB := n3_
        clear n0_ n1_ n2_ n3_
        have hHeld : w16.cell? ⟨gb101, 0, none⟩ = some (.int .i64 a1_0) ∧ w16.cell? ⟨gb101, 1, none⟩ = some (.int .i64 a1_1) := hS_
        obtain ⟨Ao18, co18, eo18⟩ := Kd.R_slice HO111.out
        (first | subst eo18 | (injection eo18 with f1_ f2_ f3_; have f4_ := f1_.symm; have f5_ := f3_.symm; clear f1_ f2_ f3_; subst f4_; subst f5_))
        refine norm_ (a' := ?_) ?_ ?_
        rotate_left
        · simp only [putAll, Act.put, List.setIfInBounds_toArray, List.set_cons_zero, List.set_cons_succ]
          rfl
        refine one_ (i := 5) (N := some 24) #[true, true, true, true, true, true, false] rfl rfl (by kernel_rfl) (by decide) (fun K hK => ?_)
        refine Kd.R_append_rows_step k26 (w0 := w) w.heap.size (by rfl) (.tmp 21) (.tmp 23) 22 26 (.agg #[(.int .i64 0), (.int .i64 0)]) 16 rfl Try.underlying22 info26 rfl (by decide) (by omega) v107 y106 y109 _ _ _ (fun k_ => some k_ ≠ (.slice Ao18 y109.length co18 : Value).ownBlock ∧ k_ ≠ gb101) (fun _ => False) rfl rfl ?aO ?aR (fun _ _ h => h) (fun _ h => h.elim) ?aF ?aB ?aS ?aL ?_
        (case aR => repeat (first | exact (Kd.R_reads' HO111.out).2.2 | (with_reducible refine Kd.C_alloc ?_ _) | (with_reducible refine Kd.C_drewN ?_ _) | (with_reducible refine Kd.C_drew ?_)))
        (case aB => exact (by repeat (first | (with_reducible first | exact HB.out | apply below_alloc | apply pw_below_drewN | apply below_drew1 | refine below_set ?_ GE101.out) | exact HB.out)))
        (case aF => exact (fun k_ hk => ⟨Kd.fresh' (Kd.R_lt (by (with_reducible repeat (first | apply Kd.R_alloc | apply Kd.R_drewN | apply Kd.R_drew)); exact HO111.out)) k_ hk, Kd.freshB (g := gb101) (o := .cells #[.int .i64 a1_0, .int .i64 a1_1] 26 (0, 0)) (by (with_reducible repeat (first | refine blk_drewN ?_ _ | refine blk_drew ?_ | refine blk_alloc ?_ _)); exact BK101.out) k_ hk⟩))
        (case aO => exact (by (with_reducible repeat (first | apply Kd.R_alloc | apply Kd.R_drewN | apply Kd.R_drew)); exact HO108.out))
        (case aS => exact (below_size (by repeat (first | (with_reducible first | exact HB.out | apply below_alloc | apply pw_below_drewN | apply below_drew1 | refine below_set ?_ GE101.out) | exact HB.out))))
        (case aL => have := LMc8.out; omega)
        intro v113 w17 ho hb hg hat
        rw [← Ny112.out] at ho
        have n0_ := Aside0.mk (blk_grown (g := gb101) (o := .cells #[.int .i64 a1_0, .int .i64 a1_1] 26 (0, 0)) (by (with_reducible repeat (first | refine blk_drewN ?_ _ | refine blk_drew ?_ | refine blk_alloc ?_ _)); exact BK101.out) hg (Kd.R_away HO108.out (fun _ hk => hk.2)))
        have n1_ := Aside0.mk (Kd.R_after (ok := (fun k_ => k_ ≠ gb101)) (by (with_reducible repeat (first | apply Kd.R_alloc | apply Kd.R_drewN | apply Kd.R_drew)); exact Kd.R_mono HO111.out (fun _ hk => ⟨hk.2, hk.1⟩)) hg hat)
        have n2_ := Aside0.mk (hb)
        have n3_ := Aside0.mk (ho)
        clear BK101
        clear HO111
        clear HB
        clear HO108
        have BK101 := n0_
        have HO111 := n1_
        have HB := n2_
        have HO114 := n3_
        clear n0_ n1_ n2_ n3_
        clear ho hb hg hat
        refine hK.out _ _ ⟨(blk_cell BK101.out 0).trans rfl, (blk_cell BK101.out 1).trans rfl⟩ (fun hHeld => ?_)
        clear hK K
        refine norm_ (a' := ?_) ?_ ?_
        rotate_left
        · show Act.put _ (some 24) _ = _
          simp only [Act.put, List.setIfInBounds_toArray, List.set_cons_zero, List.set_cons_succ, i64_w, i32_w]
          rfl
        refine pure_ (i := 6) (N := some 5) (v := ?_) (a' := ?_) #[true, true, true, true, true, true, true] rfl rfl (by kernel_rfl) (fun _ _ _ h => h) (Or.inl ⟨by rfl, ?_⟩) ?_ ?_
        rotate_left
        · intro w'
          go_simp
          with_reducible rfl
        rotate_left
        · simp only [Act.put, List.setIfInBounds_toArray, List.set_cons_zero, List.set_cons_succ, i64_w, i32_w]
          rfl
        refine done_ (by kernel_rfl) ?_
        obtain ⟨Ao19, co19, eo19⟩ := Kd.R_slice HO114.out
        subst eo19
        try go_wp2
        go_loopg [6, 7, 27] k (fun kq v6 v7 v27 w' => ∃ (x6_1 : Int) (x7_1 : Int) (x27_1 : Int), v6 = .int .u64 x6_1 ∧ v7 = .int .u64 x7_1 ∧ v27 = .int .i64 x27_1 ∧ Aside0 (merkhetlaw27_StatsMore.l0 kq l0 y112 x6_1 x7_1 y112 (y112.length : Int) x27_1 a1_0 a1_1 = some r) ∧ Aside0 (kq ≤ k) ∧ Aside0 (Kd.R k26 26 w' w.heap.size (fun k_ => k_ ≠ gb101) (.slice Ao19 y112.length co19) y112) ∧ Aside0 (Kd.R k26 26 w' w.heap.size (fun k_ => k_ ≠ gb101) (.slice Ao19 y112.length co19) y112) ∧ Aside0 (w'.heap[gb101]? = some (.cells #[.int .i64 a1_0, .int .i64 a1_1] 26 (0, 0))) ∧ Aside0 (Below w.heap.size w w'))
        case atStart => exact ⟨(0), (0), (0), (by first | rfl | (simp; done) | (simp [*]; done)), (by first | rfl | (simp; done) | (simp [*]; done)), (by first | rfl | (simp; done) | (simp [*]; done)), H', ⟨Nat.le_refl _⟩, ⟨by (with_reducible repeat (first | apply Kd.R_alloc | apply Kd.R_drewN | apply Kd.R_drew)); exact Kd.R_mono HO114.out (fun _ hk => hk.2)⟩, ⟨by (with_reducible repeat (first | apply Kd.R_alloc | apply Kd.R_drewN | apply Kd.R_drew)); exact Kd.R_mono HO114.out (fun _ hk => hk.2)⟩, ⟨by (with_reducible repeat (first | refine blk_drewN ?_ _ | refine blk_drew ?_ | refine blk_alloc ?_ _)); exact BK101.out⟩, ⟨by repeat (first | (with_reducible first | exact HB.out | apply below_alloc | apply pw_below_drewN | apply below_drew1 | refine below_set ?_ GE101.out) | exact HB.out)⟩⟩
        case round =>
          clear H'
          (try clear c1); (try clear c2); (try clear p2); (try clear c3); (try clear c3b0); (try clear c3b1); (try clear c5); (try clear c7); (try clear c8); (try clear c12)
          obtain ⟨x6_1, x7_1, x27_1, rfl, rfl, rfl, HA, HK1, HO_5, HO_25, BK101, HB⟩ := hrel
          cases gk with
          | zero => exact absurd HA.out (by simp [merkhetlaw27_StatsMore.l0])
          | succ k1 =>
            have H := HA.out
            clear HA
            simp only [merkhetlaw27_StatsMore.l0] at H
            by_cases c20 : x27_1 < (y112.length : Int)
            · rw [if_pos c20] at H
              have c20b0 : decide (x27_1 < (y112.length : Int)) = true := decide_eq_true c20
              clear c20
              by_cases c21 : 0 ≤ x27_1
              · rw [if_pos c21] at H
                have c21b0 : decide (0 ≤ x27_1) = true := decide_eq_true c21
                clear c21
                by_cases c22 : x27_1 < (y112.length : Int)
                · rw [if_pos c22] at H
                  have c22b0 : decide (x27_1 < (y112.length : Int)) = true := decide_eq_true c22
                  clear c22
                  have HC23 := Aside0.mk H
                  clear H
                  have p115 : 0 ≤ (x27_1 : Int) := of_decide_eq_true (by first | (with_reducible assumption) | assumption)
                  have q115 : x27_1 < (y112.length : Int) := of_decide_eq_true (by first | (with_reducible assumption) | assumption)
                  obtain ⟨ad115, e115, hx115_0, hx115_1⟩ := at_T26 (Kd.R_reads' HO_25.out).2.2 x27_1 p115 q115
                  cases e115
                  replace p115 := eq_true p115
                  replace q115 := eq_true q115
                  go_upto_region 8 with (first | ((with_reducible refine gate_dst (N := 9) rfl ?_); (try (refine gate_guard (by rfl) ?_; dsimp only)); refine box_event ?hg (N := 9) ?hd (cs := #[.int .i64 0, .int .i64 0]) (t := 26) ?hr ?_; (case hd => rfl); (case hg => rfl); (case hr => first | (go_simp; done) | (go_simp; rfl)); intro gb116 hg w24 hbox hb; have n0_ := Aside0.mk (Kd.R_below (Kd.R_elderB (by (with_reducible repeat (first | apply Kd.R_alloc | apply Kd.R_drewN | apply Kd.R_drew)); exact HO_5.out) gb116 (Nat.le_of_eq hg.symm)) hb); have n1_ := Aside0.mk (Kd.R_below (Kd.R_elderB (by (with_reducible repeat (first | apply Kd.R_alloc | apply Kd.R_drewN | apply Kd.R_drew)); exact HO_25.out) gb116 (Nat.le_of_eq hg.symm)) hb); have n2_ := Aside0.mk (blk_below (g := gb101) (o := .cells #[.int .i64 a1_0, .int .i64 a1_1] 26 (0, 0)) (by (with_reducible repeat (first | refine blk_drewN ?_ _ | refine blk_drew ?_ | refine blk_alloc ?_ _)); exact BK101.out) hb); have n3_ := Aside0.mk (below_step (by repeat (first | (with_reducible first | exact HB.out | apply below_alloc | apply pw_below_drewN | apply below_drew1 | refine below_set ?_ GE101.out) | exact HB.out)) hb); have n4_ := Aside0.mk (hbox); have n5_ := Aside0.mk ((by rw [hg]; exact (below_size (by repeat (first | (with_reducible first | exact HB.out | apply below_alloc | apply pw_below_drewN | apply below_drew1 | refine below_set ?_ GE101.out) | exact HB.out))) : w.heap.size ≤ gb116)); have n6_ := Aside0.mk ((by rw [hg]; exact (below_size (by repeat (first | (with_reducible first | exact HB.out | apply below_alloc | apply pw_below_drewN | apply below_drew1 | refine below_set ?_ GE101.out) | exact HB.out))) : w.heap.size ≤ gb116)); have n7_ := Aside0.mk ((by rw [hg]; exact Nat.ne_of_lt (blk_lt (g := gb101) (o := .cells #[.int .i64 a1_0, .int .i64 a1_1] 26 (0, 0)) (by (with_reducible repeat (first | refine blk_drewN ?_ _ | refine blk_drew ?_ | refine blk_alloc ?_ _)); exact BK101.out)) : gb101 ≠ gb116)); have n8_ := Aside0.mk ((by rw [hg]; exact Nat.ne_of_gt (blk_lt (g := gb101) (o := .cells #[.int .i64 a1_0, .int .i64 a1_1] 26 (0, 0)) (by (with_reducible repeat (first | refine blk_drewN ?_ _ | refine blk_drew ?_ | refine blk_alloc ?_ _)); exact BK101.out)) : gb116 ≠ gb101)); clear HO_5; clear HO_25; clear BK101; clear HB; have HO_5 := n0_; have HO_25 := n1_; have BK101 := n2_; have HB := n3_; have BK116 := n4_; have GW116 := n5_; have GE116 := n6_; have NB101_116 := n7_; have NB116_101 := n8_; clear n0_ n1_ n2_ n3_ n4_ n5_ n6_ n7_ n8_; clear hb hbox hg; have hnb25 := NB116_101.out; have hnc25 := NB101_116.out; have hcz26_0 : w24.cell? ⟨gb116, 0, none⟩ = some (.int .i64 0) := (blk_cell BK116.out 0).trans rfl; have hcz26_1 : w24.cell? ⟨gb116, 1, none⟩ = some (.int .i64 0) := (blk_cell BK116.out 1).trans rfl; have hfz26_0 := blk_frozen BK116.out 0; have hfz26_1 := blk_frozen BK116.out 1))
                  (try simp only [Act.put, List.setIfInBounds_toArray, List.set_cons_zero, List.set_cons_succ])
                  go_cut [48] (fun v48 wc => ∃ (kq : Nat) (x48_22 : Bool), v48 = .bool x48_22 ∧ Aside0 (merkhetlaw27_StatsMore.j1 kq l0 y112 x6_1 x7_1 y112 (y112.length : Int) x27_1 x48_22 a1_0 a1_1 ((rd_T26 y112 x27_1).f0) ((rd_T26 y112 x27_1).f1) = some r) ∧ Aside0 (kq ≤ k1) ∧ Aside0 (Kd.R k26 26 wc w.heap.size (fun k_ => k_ ≠ gb101 ∧ k_ ≠ gb116) (.slice (some ad115) y112.length co19) y112) ∧ Aside0 (Kd.R k26 26 wc w.heap.size (fun k_ => k_ ≠ gb101 ∧ k_ ≠ gb116) (.slice (some ad115) y112.length co19) y112) ∧ Aside0 (wc.heap[gb101]? = some (.cells #[.int .i64 a1_0, .int .i64 a1_1] 26 (0, 0))) ∧ Aside0 (wc.heap[gb116]? = some (.cells #[.int .i64 ((rd_T26 y112 x27_1).f0), .int .i64 ((rd_T26 y112 x27_1).f1)] 26 (0, 0))) ∧ Aside0 (Below w.heap.size w wc))
                  case first =>
                    have H := HC23.out
                    clear HC23
                    by_cases c27 : ((rd_T26 y112 x27_1).f0) > 72057594037927936
                    · rw [if_pos c27] at H
                      have c27b0 : decide (72057594037927936 < ((rd_T26 y112 x27_1).f0)) = true := decide_eq_true c27
                      clear c27
                      (first | rw [c27b0] | (simp only [i64_w, i32_w]; rw [c27b0]) | skip)
                      have H' := Aside0.mk H
                      clear H
                      have hnb28 := NB116_101.out
                      have hnc28 := NB101_116.out
                      have hcz29_0 : w24.cell? ⟨gb116, 0, none⟩ = some (.int .i64 0) := (blk_cell BK116.out 0).trans rfl
                      have hcz29_1 : w24.cell? ⟨gb116, 1, none⟩ = some (.int .i64 0) := (blk_cell BK116.out 1).trans rfl
                      have hfz29_0 := blk_frozen BK116.out 0
                      have hfz29_1 := blk_frozen BK116.out 1
                      go_wp2
                      go_meet
                      case rel => exact ⟨_, (true), (by first | rfl | (simp; done) | (simp [*]; done)), H', ⟨by have := HK1.out; first | omega | exact Nat.le_refl _⟩, ⟨by (with_reducible repeat (first | apply Kd.R_alloc | apply Kd.R_drewN | apply Kd.R_drew)); exact Kd.R_mono (Kd.R_far (p := ⟨gb116, 1, none⟩) (Kd.R_far (p := ⟨gb116, 0, none⟩) (Kd.R_mono HO_5.out (fun k_ hk => (⟨hk, hk.2⟩ : _ ∧ k_ ≠ gb116))) (fun _ hk => hk.2) (.int .i64 ((rd_T26 y112 x27_1).f0))) (fun _ hk => hk.2) (.int .i64 ((rd_T26 y112 x27_1).f1))) (fun _ hk => ⟨hk.1.1, hk.1.2⟩)⟩, ⟨by (with_reducible repeat (first | apply Kd.R_alloc | apply Kd.R_drewN | apply Kd.R_drew)); exact Kd.R_mono (Kd.R_far (p := ⟨gb116, 1, none⟩) (Kd.R_far (p := ⟨gb116, 0, none⟩) (Kd.R_mono HO_25.out (fun k_ hk => (⟨hk, hk.2⟩ : _ ∧ k_ ≠ gb116))) (fun _ hk => hk.2) (.int .i64 ((rd_T26 y112 x27_1).f0))) (fun _ hk => hk.2) (.int .i64 ((rd_T26 y112 x27_1).f1))) (fun _ hk => ⟨hk.1.1, hk.1.2⟩)⟩, ⟨by (with_reducible repeat (first | refine blk_drewN ?_ _ | refine blk_drew ?_ | refine blk_alloc ?_ _)); refine blk_far ?_ NB101_116.out _; (with_reducible repeat (first | refine blk_drewN ?_ _ | refine blk_drew ?_ | refine blk_alloc ?_ _)); refine blk_far ?_ NB101_116.out _; (with_reducible repeat (first | refine blk_drewN ?_ _ | refine blk_drew ?_ | refine blk_alloc ?_ _)); exact BK101.out⟩, ⟨by (with_reducible repeat (first | refine blk_drewN ?_ _ | refine blk_drew ?_ | refine blk_alloc ?_ _)); refine blk_put (cs := #[.int .i64 ((rd_T26 y112 x27_1).f0), .int .i64 0]) ?_ 1 _ rfl; (with_reducible repeat (first | refine blk_drewN ?_ _ | refine blk_drew ?_ | refine blk_alloc ?_ _)); refine blk_put (cs := #[.int .i64 0, .int .i64 0]) ?_ 0 _ rfl; (with_reducible repeat (first | refine blk_drewN ?_ _ | refine blk_drew ?_ | refine blk_alloc ?_ _)); exact BK116.out⟩, ⟨by repeat (first | (with_reducible first | exact HB.out | apply below_alloc | apply pw_below_drewN | apply below_drew1 | refine below_set ?_ GE101.out | refine below_set ?_ GE116.out) | exact HB.out)⟩⟩
                    · rw [if_neg c27] at H
                      have c27b0 : decide (72057594037927936 < ((rd_T26 y112 x27_1).f0)) = false := decide_eq_false c27
                      clear c27
                      (first | rw [c27b0] | (simp only [i64_w, i32_w]; rw [c27b0]) | skip)
                      by_cases c30 : ((rd_T26 y112 x27_1).f0) < (-72057594037927936)
                      · rw [if_pos c30] at H
                        have c30b0 : decide (((rd_T26 y112 x27_1).f0) < (-72057594037927936)) = true := decide_eq_true c30
                        clear c30
                        have H' := Aside0.mk H
                        clear H
                        have hnb31 := NB116_101.out
                        have hnc31 := NB101_116.out
                        have hcz32_0 : w24.cell? ⟨gb116, 0, none⟩ = some (.int .i64 0) := (blk_cell BK116.out 0).trans rfl
                        have hcz32_1 : w24.cell? ⟨gb116, 1, none⟩ = some (.int .i64 0) := (blk_cell BK116.out 1).trans rfl
                        have hfz32_0 := blk_frozen BK116.out 0
                        have hfz32_1 := blk_frozen BK116.out 1
                        go_wp2
                        go_meet
                        case rel => exact ⟨_, (true), (by first | rfl | (simp; done) | (simp [*]; done)), H', ⟨by have := HK1.out; first | omega | exact Nat.le_refl _⟩, ⟨by (with_reducible repeat (first | apply Kd.R_alloc | apply Kd.R_drewN | apply Kd.R_drew)); exact Kd.R_mono (Kd.R_far (p := ⟨gb116, 1, none⟩) (Kd.R_far (p := ⟨gb116, 0, none⟩) (Kd.R_mono HO_5.out (fun k_ hk => (⟨hk, hk.2⟩ : _ ∧ k_ ≠ gb116))) (fun _ hk => hk.2) (.int .i64 ((rd_T26 y112 x27_1).f0))) (fun _ hk => hk.2) (.int .i64 ((rd_T26 y112 x27_1).f1))) (fun _ hk => ⟨hk.1.1, hk.1.2⟩)⟩, ⟨by (with_reducible repeat (first | apply Kd.R_alloc | apply Kd.R_drewN | apply Kd.R_drew)); exact Kd.R_mono (Kd.R_far (p := ⟨gb116, 1, none⟩) (Kd.R_far (p := ⟨gb116, 0, none⟩) (Kd.R_mono HO_25.out (fun k_ hk => (⟨hk, hk.2⟩ : _ ∧ k_ ≠ gb116))) (fun _ hk => hk.2) (.int .i64 ((rd_T26 y112 x27_1).f0))) (fun _ hk => hk.2) (.int .i64 ((rd_T26 y112 x27_1).f1))) (fun _ hk => ⟨hk.1.1, hk.1.2⟩)⟩, ⟨by (with_reducible repeat (first | refine blk_drewN ?_ _ | refine blk_drew ?_ | refine blk_alloc ?_ _)); refine blk_far ?_ NB101_116.out _; (with_reducible repeat (first | refine blk_drewN ?_ _ | refine blk_drew ?_ | refine blk_alloc ?_ _)); refine blk_far ?_ NB101_116.out _; (with_reducible repeat (first | refine blk_drewN ?_ _ | refine blk_drew ?_ | refine blk_alloc ?_ _)); exact BK101.out⟩, ⟨by (with_reducible repeat (first | refine blk_drewN ?_ _ | refine blk_drew ?_ | refine blk_alloc ?_ _)); refine blk_put (cs := #[.int .i64 ((rd_T26 y112 x27_1).f0), .int .i64 0]) ?_ 1 _ rfl; (with_reducible repeat (first | refine blk_drewN ?_ _ | refine blk_drew ?_ | refine blk_alloc ?_ _)); refine blk_put (cs := #[.int .i64 0, .int .i64 0]) ?_ 0 _ rfl; (with_reducible repeat (first | refine blk_drewN ?_ _ | refine blk_drew ?_ | refine blk_alloc ?_ _)); exact BK116.out⟩, ⟨by repeat (first | (with_reducible first | exact HB.out | apply below_alloc | apply pw_below_drewN | apply below_drew1 | refine below_set ?_ GE101.out | refine below_set ?_ GE116.out) | exact HB.out)⟩⟩
                      · rw [if_neg c30] at H
                        have c30b0 : decide (((rd_T26 y112 x27_1).f0) < (-72057594037927936)) = false := decide_eq_false c30
                        clear c30
                        by_cases c33 : ((rd_T26 y112 x27_1).f1) > 72057594037927936
                        · rw [if_pos c33] at H
                          have c33b0 : decide (72057594037927936 < ((rd_T26 y112 x27_1).f1)) = true := decide_eq_true c33
                          clear c33
                          have H' := Aside0.mk H
                          clear H
                          have hnb34 := NB116_101.out
                          have hnc34 := NB101_116.out
                          have hcz35_0 : w24.cell? ⟨gb116, 0, none⟩ = some (.int .i64 0) := (blk_cell BK116.out 0).trans rfl
                          have hcz35_1 : w24.cell? ⟨gb116, 1, none⟩ = some (.int .i64 0) := (blk_cell BK116.out 1).trans rfl
                          have hfz35_0 := blk_frozen BK116.out 0
                          have hfz35_1 := blk_frozen BK116.out 1
                          go_wp2
                          go_meet
                          case rel => exact ⟨_, (true), (by first | rfl | (simp; done) | (simp [*]; done)), H', ⟨by have := HK1.out; first | omega | exact Nat.le_refl _⟩, ⟨by (with_reducible repeat (first | apply Kd.R_alloc | apply Kd.R_drewN | apply Kd.R_drew)); exact Kd.R_mono (Kd.R_far (p := ⟨gb116, 1, none⟩) (Kd.R_far (p := ⟨gb116, 0, none⟩) (Kd.R_mono HO_5.out (fun k_ hk => (⟨hk, hk.2⟩ : _ ∧ k_ ≠ gb116))) (fun _ hk => hk.2) (.int .i64 ((rd_T26 y112 x27_1).f0))) (fun _ hk => hk.2) (.int .i64 ((rd_T26 y112 x27_1).f1))) (fun _ hk => ⟨hk.1.1, hk.1.2⟩)⟩, ⟨by (with_reducible repeat (first | apply Kd.R_alloc | apply Kd.R_drewN | apply Kd.R_drew)); exact Kd.R_mono (Kd.R_far (p := ⟨gb116, 1, none⟩) (Kd.R_far (p := ⟨gb116, 0, none⟩) (Kd.R_mono HO_25.out (fun k_ hk => (⟨hk, hk.2⟩ : _ ∧ k_ ≠ gb116))) (fun _ hk => hk.2) (.int .i64 ((rd_T26 y112 x27_1).f0))) (fun _ hk => hk.2) (.int .i64 ((rd_T26 y112 x27_1).f1))) (fun _ hk => ⟨hk.1.1, hk.1.2⟩)⟩, ⟨by (with_reducible repeat (first | refine blk_drewN ?_ _ | refine blk_drew ?_ | refine blk_alloc ?_ _)); refine blk_far ?_ NB101_116.out _; (with_reducible repeat (first | refine blk_drewN ?_ _ | refine blk_drew ?_ | refine blk_alloc ?_ _)); refine blk_far ?_ NB101_116.out _; (with_reducible repeat (first | refine blk_drewN ?_ _ | refine blk_drew ?_ | refine blk_alloc ?_ _)); exact BK101.out⟩, ⟨by (with_reducible repeat (first | refine blk_drewN ?_ _ | refine blk_drew ?_ | refine blk_alloc ?_ _)); refine blk_put (cs := #[.int .i64 ((rd_T26 y112 x27_1).f0), .int .i64 0]) ?_ 1 _ rfl; (with_reducible repeat (first | refine blk_drewN ?_ _ | refine blk_drew ?_ | refine blk_alloc ?_ _)); refine blk_put (cs := #[.int .i64 0, .int .i64 0]) ?_ 0 _ rfl; (with_reducible repeat (first | refine blk_drewN ?_ _ | refine blk_drew ?_ | refine blk_alloc ?_ _)); exact BK116.out⟩, ⟨by repeat (first | (with_reducible first | exact HB.out | apply below_alloc | apply pw_below_drewN | apply below_drew1 | refine below_set ?_ GE101.out | refine below_set ?_ GE116.out) | exact HB.out)⟩⟩
                        · rw [if_neg c33] at H
                          have c33b0 : decide (72057594037927936 < ((rd_T26 y112 x27_1).f1)) = false := decide_eq_false c33
                          clear c33
                          have H' := Aside0.mk H
                          clear H
                          have hnb36 := NB116_101.out
                          have hnc36 := NB101_116.out
                          have hcz37_0 : w24.cell? ⟨gb116, 0, none⟩ = some (.int .i64 0) := (blk_cell BK116.out 0).trans rfl
                          have hcz37_1 : w24.cell? ⟨gb116, 1, none⟩ = some (.int .i64 0) := (blk_cell BK116.out 1).trans rfl
                          have hfz37_0 := blk_frozen BK116.out 0
                          have hfz37_1 := blk_frozen BK116.out 1
                          go_wp2
                          go_meet
                          case rel => exact ⟨_, (decide (((rd_T26 y112 x27_1).f1) < (-72057594037927936))), (by first | rfl | (simp; done) | (simp [*]; done)), H', ⟨by have := HK1.out; first | omega | exact Nat.le_refl _⟩, ⟨by (with_reducible repeat (first | apply Kd.R_alloc | apply Kd.R_drewN | apply Kd.R_drew)); exact Kd.R_mono (Kd.R_far (p := ⟨gb116, 1, none⟩) (Kd.R_far (p := ⟨gb116, 0, none⟩) (Kd.R_mono HO_5.out (fun k_ hk => (⟨hk, hk.2⟩ : _ ∧ k_ ≠ gb116))) (fun _ hk => hk.2) (.int .i64 ((rd_T26 y112 x27_1).f0))) (fun _ hk => hk.2) (.int .i64 ((rd_T26 y112 x27_1).f1))) (fun _ hk => ⟨hk.1.1, hk.1.2⟩)⟩, ⟨by (with_reducible repeat (first | apply Kd.R_alloc | apply Kd.R_drewN | apply Kd.R_drew)); exact Kd.R_mono (Kd.R_far (p := ⟨gb116, 1, none⟩) (Kd.R_far (p := ⟨gb116, 0, none⟩) (Kd.R_mono HO_25.out (fun k_ hk => (⟨hk, hk.2⟩ : _ ∧ k_ ≠ gb116))) (fun _ hk => hk.2) (.int .i64 ((rd_T26 y112 x27_1).f0))) (fun _ hk => hk.2) (.int .i64 ((rd_T26 y112 x27_1).f1))) (fun _ hk => ⟨hk.1.1, hk.1.2⟩)⟩, ⟨by (with_reducible repeat (first | refine blk_drewN ?_ _ | refine blk_drew ?_ | refine blk_alloc ?_ _)); refine blk_far ?_ NB101_116.out _; (with_reducible repeat (first | refine blk_drewN ?_ _ | refine blk_drew ?_ | refine blk_alloc ?_ _)); refine blk_far ?_ NB101_116.out _; (with_reducible repeat (first | refine blk_drewN ?_ _ | refine blk_drew ?_ | refine blk_alloc ?_ _)); exact BK101.out⟩, ⟨by (with_reducible repeat (first | refine blk_drewN ?_ _ | refine blk_drew ?_ | refine blk_alloc ?_ _)); refine blk_put (cs := #[.int .i64 ((rd_T26 y112 x27_1).f0), .int .i64 0]) ?_ 1 _ rfl; (with_reducible repeat (first | refine blk_drewN ?_ _ | refine blk_drew ?_ | refine blk_alloc ?_ _)); refine blk_put (cs := #[.int .i64 0, .int .i64 0]) ?_ 0 _ rfl; (with_reducible repeat (first | refine blk_drewN ?_ _ | refine blk_drew ?_ | refine blk_alloc ?_ _)); exact BK116.out⟩, ⟨by repeat (first | (with_reducible first | exact HB.out | apply below_alloc | apply pw_below_drewN | apply below_drew1 | refine below_set ?_ GE101.out | refine below_set ?_ GE116.out) | exact HB.out)⟩⟩
                  case rest =>
                    clear HC23
                    (try clear c1); (try clear p1); (try clear q1); (try clear hx1); (try clear c2); (try clear p2); (try clear c3); (try clear c3b0); (try clear c3b1); (try clear c5); (try clear c7); (try clear c8); (try clear p11); (try clear q11); (try clear hx11); (try clear c12); (try clear c20); (try clear c20b0); (try clear c21); (try clear c21b0); (try clear c22); (try clear c22b0); (try clear c25); (try clear c27); (try clear c27b0); (try clear c28); (try clear c30); (try clear c30b0); (try clear c31); (try clear c33); (try clear c33b0); (try clear c34); (try clear c36); (try clear hcz26_0); (try clear hcz26_1); (try clear hcz29_0); (try clear hcz29_1); (try clear hcz32_0); (try clear hcz32_1); (try clear hcz35_0); (try clear hcz35_1); (try clear hcz37_0); (try clear hcz37_1); (try clear hfz26_0); (try clear hfz26_1); (try clear hfz29_0); (try clear hfz29_1); (try clear hfz32_0); (try clear hfz32_1); (try clear hfz35_0); (try clear hfz35_1); (try clear hfz37_0); (try clear hfz37_1); (try clear hx115_0); (try clear hx115_1); (try clear p115); (try clear p2); (try clear q115)
                    obtain ⟨kq, x48_22, rfl, HA, HJ22, HO_5, HO_25, BK101, BK116, HB⟩ := hcut
                    cases kq with
                    | zero => exact absurd HA.out (by simp [merkhetlaw27_StatsMore.j1])
                    | succ kj22 =>
                      have H := HA.out
                      clear HA
                      simp only [merkhetlaw27_StatsMore.j1] at H
                      by_cases c38 : x48_22 = true
                      · subst c38
                        have H1 : ((merkhetlaw27_fixed.f kj22).bind fun t117 => (some t117)) = some r := by rw [if_pos rfl] at H; exact H
                        clear H
                        have H := H1
                        clear H1
                        replace H := Option.bind_eq_some_iff.mp H
                        obtain ⟨t117, A390, H⟩ := H
                        replace H : (some t117) = some r := H
                        have A39 := Aside0.mk A390
                        clear A390
                        obtain rfl := Option.some.inj H
                        go_wp2_with (first | ((with_reducible refine gate_callee (f := 12) rfl ?_); refine goesL_ (some 49) rfl rfl Try.func12 (by kernel_rfl) rfl #[] rfl (by (try simp only [List.map_toArray, List.map_cons, List.map_nil]); first | done | rfl | (simp only [List.length_drop, List.length_take]; rfl)) ?_; (with_reducible refine (merkhetlaw27_fixed.calls kj22  t117 _ A39.out).mono ?_); rintro e w40 ⟨rfl, hb⟩; refine ⟨_, rfl, ?_⟩; have n0_ := Aside0.mk (Kd.R_below (by (with_reducible repeat (first | apply Kd.R_alloc | apply Kd.R_drewN | apply Kd.R_drew)); exact HO_5.out) hb); have n1_ := Aside0.mk (Kd.R_below (by (with_reducible repeat (first | apply Kd.R_alloc | apply Kd.R_drewN | apply Kd.R_drew)); exact HO_25.out) hb); have n2_ := Aside0.mk (blk_below (g := gb101) (o := .cells #[.int .i64 a1_0, .int .i64 a1_1] 26 (0, 0)) (by (with_reducible repeat (first | refine blk_drewN ?_ _ | refine blk_drew ?_ | refine blk_alloc ?_ _)); exact BK101.out) hb); have n3_ := Aside0.mk (blk_below (g := gb116) (o := .cells #[.int .i64 ((rd_T26 y112 x27_1).f0), .int .i64 ((rd_T26 y112 x27_1).f1)] 26 (0, 0)) (by (with_reducible repeat (first | refine blk_drewN ?_ _ | refine blk_drew ?_ | refine blk_alloc ?_ _)); exact BK116.out) hb); have n4_ := Aside0.mk (below_step (by repeat (first | (with_reducible first | exact HB.out | apply below_alloc | apply pw_below_drewN | apply below_drew1 | refine below_set ?_ GE101.out | refine below_set ?_ GE116.out) | exact HB.out)) hb); clear HO_5; clear HO_25; clear BK101; clear BK116; clear HB; have HO_5 := n0_; have HO_25 := n1_; have BK101 := n2_; have BK116 := n3_; have HB := n4_; clear n0_ n1_ n2_ n3_ n4_; (try clear hb); (try clear hb2); (try clear hk); (try clear hi)))
                        go_ret
                        exact ⟨by first | rfl | (simp [errW_none, errW_some] <;> rfl) | (simp [*, errW_none, errW_some] <;> rfl), by repeat (first | (with_reducible first | exact HB.out | apply below_alloc | apply pw_below_drewN | apply below_drew1 | refine below_set ?_ GE101.out | refine below_set ?_ GE116.out) | exact HB.out)⟩
                      · replace c38 := Bool.eq_false_iff.mpr c38
                        subst c38
                        have H1 : (merkhetlaw27_StatsMore.l0 kj22 l0 y112 (IntKind.u64.wrap (x6_1 + (IntKind.u64.wrap (mx (wrap64 (((rd_T26 y112 x27_1).f1) - ((rd_T26 y112 x27_1).f0))) 0)))) (mx x7_1 (IntKind.u64.wrap (mx (wrap64 (((rd_T26 y112 x27_1).f1) - ((rd_T26 y112 x27_1).f0))) 0))) y112 (y112.length : Int) (wrap64 (x27_1 + 1)) a1_0 a1_1) = some r := by rw [if_neg (show ¬ (false = true) by decide)] at H; exact H
                        clear H
                        have H := H1
                        clear H1
                        obtain ⟨ji41, hji41⟩ : ∃ j_ : Int, (mx (wrap64 (((rd_T26 y112 x27_1).f1) - ((rd_T26 y112 x27_1).f0))) 0) = j_ := ⟨_, rfl⟩
                        replace H : (merkhetlaw27_StatsMore.l0 kj22 l0 y112 (IntKind.u64.wrap (x6_1 + (IntKind.u64.wrap (ji41)))) (mx x7_1 (IntKind.u64.wrap (ji41))) y112 (y112.length : Int) (wrap64 (x27_1 + 1)) a1_0 a1_1) = some r := by first | (rw [hji41] at H; exact H) | (simp only [hji41] at H ⊢; exact H)
                        have hji41_ : (if (wrap64 (((rd_T26 y112 x27_1).f1) - ((rd_T26 y112 x27_1).f0))) < 0 then 0 else (wrap64 (((rd_T26 y112 x27_1).f1) - ((rd_T26 y112 x27_1).f0)))) = ji41 := hji41
                        obtain ⟨ji42, hji42⟩ : ∃ j_ : Int, (mx x7_1 (IntKind.u64.wrap (ji41))) = j_ := ⟨_, rfl⟩
                        replace H : (merkhetlaw27_StatsMore.l0 kj22 l0 y112 (IntKind.u64.wrap (x6_1 + (IntKind.u64.wrap (ji41)))) ji42 y112 (y112.length : Int) (wrap64 (x27_1 + 1)) a1_0 a1_1) = some r := by first | (rw [hji42] at H; exact H) | (simp only [hji42] at H ⊢; exact H)
                        have hji42_ : (if x7_1 < (IntKind.u64.wrap (ji41)) then (IntKind.u64.wrap (ji41)) else x7_1) = ji42 := hji42
                        have H' := Aside0.mk H
                        clear H
                        have hnb43 := NB116_101.out
                        have hnc43 := NB101_116.out
                        have hcz44_0 : wc.cell? ⟨gb116, 0, none⟩ = some (.int .i64 ((rd_T26 y112 x27_1).f0)) := (blk_cell BK116.out 0).trans rfl
                        have hcz44_1 : wc.cell? ⟨gb116, 1, none⟩ = some (.int .i64 ((rd_T26 y112 x27_1).f1)) := (blk_cell BK116.out 1).trans rfl
                        have hfz44_0 := blk_frozen BK116.out 0
                        have hfz44_1 := blk_frozen BK116.out 1
                        go_wp2
                        go_roundg kj22
                        case measure => have := HK1.out; have := HJ22.out; omega
                        case rel => exact ⟨(IntKind.u64.wrap (x6_1 + (IntKind.u64.wrap (ji41)))), (ji42), (wrap64 (x27_1 + 1)), (by first | rfl | (simp; done) | (simp only [← hji41] <;> (first | rfl | simp)) | (simp [*]; done)), (by first | rfl | (simp; done) | (simp only [← hji42] <;> (first | rfl | simp)) | (simp [*]; done)), (by first | rfl | (simp; done) | (simp [*]; done)), H', ⟨by have := HK1.out; have := HJ22.out; omega⟩, ⟨by (with_reducible repeat (first | apply Kd.R_alloc | apply Kd.R_drewN | apply Kd.R_drew)); exact Kd.R_mono HO_5.out (fun _ hk => hk.1)⟩, ⟨by (with_reducible repeat (first | apply Kd.R_alloc | apply Kd.R_drewN | apply Kd.R_drew)); exact Kd.R_mono HO_25.out (fun _ hk => hk.1)⟩, ⟨by (with_reducible repeat (first | refine blk_drewN ?_ _ | refine blk_drew ?_ | refine blk_alloc ?_ _)); exact BK101.out⟩, ⟨by repeat (first | (with_reducible first | exact HB.out | apply below_alloc | apply pw_below_drewN | apply below_drew1 | refine below_set ?_ GE101.out | refine below_set ?_ GE116.out) | exact HB.out)⟩⟩
                · rw [if_neg c22] at H
                  exact absurd H (by simp)
              · rw [if_neg c21] at H
                exact absurd H (by simp)
            · rw [if_neg c20] at H
              have c20b0 : decide (x27_1 < (y112.length : Int)) = false := decide_eq_false c20
              clear c20
              have H' := Aside0.mk H
              clear H
              go_wp2
              go_loopg [11, 12] k1 (fun kq v11 v12 w' => ∃ (x11_2 : List (S26)) (x12_2 : Int), v12 = .int .i64 x12_2 ∧ Aside0 (merkhetlaw27_StatsMore.l1 kq l0 y112 x6_1 x7_1 x11_2 x12_2 a1_0 a1_1 = some r) ∧ Aside0 (kq ≤ k1) ∧ Aside0 (Kd.R k26 26 w' w.heap.size (fun k_ => some k_ ≠ (v11 : Value).ownBlock ∧ k_ ≠ gb101) (.slice Ao19 y112.length co19) y112) ∧ Aside0 (Kd.R k26 26 w' w.heap.size (fun k_ => some k_ ≠ ((.slice Ao19 y112.length co19) : Value).ownBlock ∧ k_ ≠ gb101) v11 x11_2) ∧ Aside0 (w'.heap[gb101]? = some (.cells #[.int .i64 a1_0, .int .i64 a1_1] 26 (0, 0))) ∧ Aside0 (Below w.heap.size w w'))
              case atStart => exact ⟨(([] : List (S26))), (wrap64 ((y112.length : Int) - 1)), (by first | rfl | (simp; done) | (simp [*]; done)), H', ⟨Nat.le_refl _⟩, ⟨by (with_reducible repeat (first | apply Kd.R_alloc | apply Kd.R_drewN | apply Kd.R_drew)); exact Kd.R_mono HO_5.out (fun _ hk => ⟨(by simp [Value.ownBlock]), hk⟩)⟩, ⟨by first | exact Kd.R_nil _ _ _ _ _ | exact Kd.N_nil _ _ _ _ _ | exact Kd.V_nil _ _ _ _ _ | exact Kd.Q_nil _ _ _ _ _ | exact Kd.S_nil _ _ _ _ _⟩, ⟨by (with_reducible repeat (first | refine blk_drewN ?_ _ | refine blk_drew ?_ | refine blk_alloc ?_ _)); exact BK101.out⟩, ⟨by repeat (first | (with_reducible first | exact HB.out | apply below_alloc | apply pw_below_drewN | apply below_drew1 | refine below_set ?_ GE101.out) | exact HB.out)⟩⟩
              case round =>
                clear H'
                (try clear c1); (try clear p1); (try clear q1); (try clear hx1); (try clear c2); (try clear p2); (try clear c3); (try clear c3b0); (try clear c3b1); (try clear c4); (try clear c5); (try clear p6); (try clear c7); (try clear c8); (try clear p11); (try clear q11); (try clear hx11); (try clear c12); (try clear c20); (try clear c20b0); (try clear c21); (try clear c21b0); (try clear c22); (try clear c22b0); (try clear c25); (try clear c27); (try clear c27b0); (try clear c28); (try clear c30); (try clear c30b0); (try clear c31); (try clear c33); (try clear c33b0); (try clear c34); (try clear c36); (try clear c38); (try clear c43); (try clear hcz26_0); (try clear hcz26_1); (try clear hcz29_0); (try clear hcz29_1); (try clear hcz32_0); (try clear hcz32_1); (try clear hcz35_0); (try clear hcz35_1); (try clear hcz37_0); (try clear hcz37_1); (try clear hcz44_0); (try clear hcz44_1); (try clear hfz26_0); (try clear hfz26_1); (try clear hfz29_0); (try clear hfz29_1); (try clear hfz32_0); (try clear hfz32_1); (try clear hfz35_0); (try clear hfz35_1); (try clear hfz37_0); (try clear hfz37_1); (try clear hfz44_0); (try clear hfz44_1); (try clear hx115_0); (try clear hx115_1); (try clear p1); (try clear p11); (try clear p115); (try clear p2); (try clear q1); (try clear q11); (try clear q115)
                obtain ⟨x11_2, x12_2, rfl, HA, HK2, HO_5, HO_11, BK101, HB⟩ := hrel
                cases gk with
                | zero => exact absurd HA.out (by simp [merkhetlaw27_StatsMore.l1])
                | succ k2 =>
                  have H := HA.out
                  clear HA
                  simp only [merkhetlaw27_StatsMore.l1] at H
                  by_cases c45 : x12_2 ≥ 0
                  · rw [if_pos c45] at H
                    have c45b0 : decide (0 ≤ x12_2) = true := decide_eq_true c45
                    clear c45
                    by_cases c46 : 0 ≤ x12_2
                    · rw [if_pos c46] at H
                      have c46b0 : decide (0 ≤ x12_2) = true := decide_eq_true c46
                      clear c46
                      by_cases c47 : x12_2 < (y112.length : Int)
                      · rw [if_pos c47] at H
                        have c47b0 : decide (x12_2 < (y112.length : Int)) = true := decide_eq_true c47
                        clear c47
                        obtain ⟨y119, hy119⟩ : ∃ y_ : List (S26), y_ = (([(⟨(rd_T26 y112 x12_2).f0, (rd_T26 y112 x12_2).f1⟩ : S26)] : List (S26))) := ⟨_, rfl⟩
                        replace H : (if x11_2.length + y119.length < 8796093022208 then (merkhetlaw27_StatsMore.l1 k2 l0 y112 x6_1 x7_1 (x11_2 ++ y119) (wrap64 (x12_2 - 1)) a1_0 a1_1) else (none)) = some r := by first | (rw [hy119]; with_reducible exact H) | (have H2_ := (Option.bind_some _ _).symm.trans H; rw [hy119]; with_reducible exact H2_) | (have H2_ := (Option.bind_some _ _).symm.trans H; with_reducible exact H2_) | with_reducible exact H | (rw [hy119]; exact H) | exact H
                        have Ny119 := Aside0.mk hy119
                        clear hy119
                        by_cases c48 : x11_2.length + y119.length < 8796093022208
                        · rw [if_pos c48] at H
                          have LMc48 := Aside0.mk c48
                          clear c48
                          obtain ⟨y122, hy122⟩ : ∃ y_ : List (S26), y_ = (x11_2 ++ y119) := ⟨_, rfl⟩
                          replace H : (merkhetlaw27_StatsMore.l1 k2 l0 y112 x6_1 x7_1 y122 (wrap64 (x12_2 - 1)) a1_0 a1_1) = some r := by first | (rw [hy122]; with_reducible exact H) | (have H2_ := (Option.bind_some _ _).symm.trans H; rw [hy122]; with_reducible exact H2_) | (have H2_ := (Option.bind_some _ _).symm.trans H; with_reducible exact H2_) | with_reducible exact H | (rw [hy122]; exact H) | exact H
                          have Ny122 := Aside0.mk hy122
                          clear hy122
                          have H' := Aside0.mk H
                          clear H
                          have p118 : 0 ≤ (x12_2 : Int) := of_decide_eq_true (by first | (with_reducible assumption) | assumption)
                          have q118 : x12_2 < (y112.length : Int) := of_decide_eq_true (by first | (with_reducible assumption) | assumption)
                          obtain ⟨ad118, e118, hx118_0, hx118_1⟩ := at_T26 (Kd.R_reads' HO_5.out).2.2 x12_2 p118 q118
                          cases e118
                          replace p118 := eq_true p118
                          replace q118 := eq_true q118
                          go_wp2_with (first | ((with_reducible refine gate_dst (N := 76) rfl ?_); (try (refine gate_guard (by rfl) ?_; dsimp only)); refine Kd.R_lit k26 _ 26 ?hg (N := 76) ?hd (xs := ([(⟨(rd_T26 y112 x12_2).f0, (rd_T26 y112 x12_2).f1⟩ : S26)] : List (S26))) (inner := [.int .i64 ((rd_T26 y112 x12_2).f0), .int .i64 ((rd_T26 y112 x12_2).f1)]) (ok := fun _ => True) (okp := fun _ => True) ?hr ?hp (fun _ hk => hk) trivial (Below.refl _ _) (Nat.le_refl _) (by simp) ?_; (case hd => rfl); (case hg => rfl); (case hr => first | (go_simp; done) | (go_simp; rfl)); (case hp => exact (Reps.c2 (show Kd.M k26 _ _ _ (⟨(rd_T26 y112 x12_2).f0, (rd_T26 y112 x12_2).f1⟩ : S26) [.int .i64 ((rd_T26 y112 x12_2).f0), .int .i64 ((rd_T26 y112 x12_2).f1)] from (k26_mkM _ _ _ (⟨(rd_T26 y112 x12_2).f0, (rd_T26 y112 x12_2).f1⟩ : S26) )) (Reps.none _ _))); intro v120 w49 ho50 hb hg_ hnew_; clear hg_ hnew_; (first | rw [← Ny119.out] at ho50 | (simp only [Int.reduceToNat] at ho50; rw [← Ny119.out] at ho50)); have n0_ := Aside0.mk (Kd.R_elder' (by (with_reducible repeat (first | apply Kd.R_alloc | apply Kd.R_drewN | apply Kd.R_drew)); exact HO_5.out) (Kd.R_base ho50) hb); have n1_ := Aside0.mk (Kd.R_elder' (by (with_reducible repeat (first | apply Kd.R_alloc | apply Kd.R_drewN | apply Kd.R_drew)); exact HO_11.out) (Kd.R_base ho50) hb); have n2_ := Aside0.mk (Kd.R_lower (Kd.R_newB (Kd.R_new' (Kd.R_new' ho50 (Kd.R_lt (by (with_reducible repeat (first | apply Kd.R_alloc | apply Kd.R_drewN | apply Kd.R_drew)); exact HO_5.out))) (Kd.R_lt (by (with_reducible repeat (first | apply Kd.R_alloc | apply Kd.R_drewN | apply Kd.R_drew)); exact HO_11.out))) (g := gb101) (o := .cells #[.int .i64 a1_0, .int .i64 a1_1] 26 (0, 0)) (by (with_reducible repeat (first | refine blk_drewN ?_ _ | refine blk_drew ?_ | refine blk_alloc ?_ _)); exact BK101.out)) (below_size (by repeat (first | (with_reducible first | exact HB.out | apply below_alloc | apply pw_below_drewN | apply below_drew1 | refine below_set ?_ GE101.out) | exact HB.out)))); have n3_ := Aside0.mk (blk_below (g := gb101) (o := .cells #[.int .i64 a1_0, .int .i64 a1_1] 26 (0, 0)) (by (with_reducible repeat (first | refine blk_drewN ?_ _ | refine blk_drew ?_ | refine blk_alloc ?_ _)); exact BK101.out) hb); have n4_ := Aside0.mk (below_step (by repeat (first | (with_reducible first | exact HB.out | apply below_alloc | apply pw_below_drewN | apply below_drew1 | refine below_set ?_ GE101.out) | exact HB.out)) hb); clear HO_5; clear HO_11; clear BK101; clear HB; have HO_5 := n0_; have HO_11 := n1_; have HO121 := n2_; have BK101 := n3_; have HB := n4_; clear n0_ n1_ n2_ n3_ n4_; clear hb ho50; obtain ⟨Ao52, co52, eo52⟩ := Kd.R_slice HO121.out; subst eo52) | ((with_reducible refine gate_builtin (b := .append) (xs := #[.tmp 71, .tmp 76]) rfl ?_); (try (refine gate_guard (by rfl) ?_; dsimp only)); at_builtin; refine Kd.R_append_rows k26 (w0 := w) w.heap.size rfl (.tmp 71) (.tmp 76) 22 26 (.agg #[(.int .i64 0), (.int .i64 0)]) 16 rfl Try.underlying22 info26 rfl (by decide) (by omega) u11 x11_2 y119 _ _ _ (fun k_ => some k_ ≠ (.slice (some ad118) y112.length co19 : Value).ownBlock ∧ some k_ ≠ (.slice Ao52 y119.length co52 : Value).ownBlock ∧ k_ ≠ gb101) (fun _ => False) rfl rfl ?aO ?aR (fun _ _ h => h) (fun _ h => h.elim) ?aF ?aB ?aS ?aL ?_; (case aR => repeat (first | exact (Kd.R_reads' HO121.out).2.2 | (with_reducible refine Kd.C_alloc ?_ _) | (with_reducible refine Kd.C_drewN ?_ _) | (with_reducible refine Kd.C_drew ?_))); (case aB => exact (by repeat (first | (with_reducible first | exact HB.out | apply below_alloc | apply pw_below_drewN | apply below_drew1 | refine below_set ?_ GE101.out) | exact HB.out))); (case aF => exact (fun k_ hk => ⟨Kd.fresh' (Kd.R_lt (by (with_reducible repeat (first | apply Kd.R_alloc | apply Kd.R_drewN | apply Kd.R_drew)); exact HO_5.out)) k_ hk, Kd.fresh' (Kd.R_lt (by (with_reducible repeat (first | apply Kd.R_alloc | apply Kd.R_drewN | apply Kd.R_drew)); exact HO121.out)) k_ hk, Kd.freshB (g := gb101) (o := .cells #[.int .i64 a1_0, .int .i64 a1_1] 26 (0, 0)) (by (with_reducible repeat (first | refine blk_drewN ?_ _ | refine blk_drew ?_ | refine blk_alloc ?_ _)); exact BK101.out) k_ hk⟩)); (case aO => exact (by (with_reducible repeat (first | apply Kd.R_alloc | apply Kd.R_drewN | apply Kd.R_drew)); exact Kd.R_mono HO_11.out (fun _ hk => ⟨hk.1.1, ⟨hk.2, hk.1.2⟩⟩))); (case aS => exact (below_size (by repeat (first | (with_reducible first | exact HB.out | apply below_alloc | apply pw_below_drewN | apply below_drew1 | refine below_set ?_ GE101.out) | exact HB.out)))); (case aL => have := LMc48.out; omega); intro v123 w51 ho hb hg hat; rw [← Ny122.out] at ho; have n0_ := Aside0.mk (Kd.R_after (ok := (fun k_ => some k_ ≠ (.slice Ao52 y119.length co52 : Value).ownBlock ∧ k_ ≠ gb101)) (by (with_reducible repeat (first | apply Kd.R_alloc | apply Kd.R_drewN | apply Kd.R_drew)); exact Kd.R_mono HO_5.out (fun _ hk => ⟨⟨hk.2, hk.1.2⟩, hk.1.1⟩)) hg hat); have n1_ := Aside0.mk (blk_grown (g := gb101) (o := .cells #[.int .i64 a1_0, .int .i64 a1_1] 26 (0, 0)) (by (with_reducible repeat (first | refine blk_drewN ?_ _ | refine blk_drew ?_ | refine blk_alloc ?_ _)); exact BK101.out) hg (Kd.R_away HO_11.out (fun _ hk => hk.1.2))); have n2_ := Aside0.mk (Kd.R_after (ok := (fun k_ => some k_ ≠ (.slice (some ad118) y112.length co19 : Value).ownBlock ∧ k_ ≠ gb101)) (by (with_reducible repeat (first | apply Kd.R_alloc | apply Kd.R_drewN | apply Kd.R_drew)); exact Kd.R_mono HO121.out (fun _ hk => ⟨⟨hk.1.1.2, hk.2⟩, hk.1.2⟩)) hg hat); have n3_ := Aside0.mk (hb); have n4_ := Aside0.mk (ho); clear HO_5; clear BK101; clear HO121; clear HB; clear HO_11; have HO_5 := n0_; have BK101 := n1_; have HO121 := n2_; have HB := n3_; have HO124 := n4_; clear n0_ n1_ n2_ n3_ n4_; clear ho hb hg hat))
                          go_roundg k2
                          case measure => have := HK1.out; have := HK2.out; omega
                          case rel => exact ⟨(y122), (wrap64 (x12_2 - 1)), (by first | rfl | (simp; done) | (simp [*]; done)), H', ⟨by have := HK1.out; have := HK2.out; omega⟩, ⟨by (with_reducible repeat (first | apply Kd.R_alloc | apply Kd.R_drewN | apply Kd.R_drew)); exact Kd.R_mono HO_5.out (fun _ hk => ⟨hk.2, hk.1.2⟩)⟩, ⟨by (with_reducible repeat (first | apply Kd.R_alloc | apply Kd.R_drewN | apply Kd.R_drew)); exact Kd.R_mono HO124.out (fun _ hk => ⟨hk.1, hk.2.2⟩)⟩, ⟨by (with_reducible repeat (first | refine blk_drewN ?_ _ | refine blk_drew ?_ | refine blk_alloc ?_ _)); exact BK101.out⟩, ⟨by repeat (first | (with_reducible first | exact HB.out | apply below_alloc | apply pw_below_drewN | apply below_drew1 | refine below_set ?_ GE101.out) | exact HB.out)⟩⟩
                        · rw [if_neg c48] at H
                          exact absurd H (by simp)
                      · rw [if_neg c47] at H
                        exact absurd H (by simp)
                    · rw [if_neg c46] at H
                      exact absurd H (by simp)
                  · rw [if_neg c45] at H
                    have c45b0 : decide (0 ≤ x12_2) = false := decide_eq_false c45
                    clear c45
                    replace H := Option.bind_eq_some_iff.mp H
                    obtain ⟨t125, A530, H⟩ := H
                    replace H : ((stats_Cover.f l0).bind fun t126 => ((merkhetlaw27_fixed.f k2).bind fun t127 => (if t127 = true then ((stats_Cover.f x11_2).bind fun t128 => (if t125 = t128 then (if t125 ≤ x6_1 then (if t125 ≥ x7_1 then (if t126 ≤ t125 then (some (decide ((IntKind.u64.wrap (t125 - t126)) ≤ (IntKind.u64.wrap (mx (wrap64 (a1_1 - a1_0)) 0))))) else (some false)) else (some false)) else (some false)) else (some false))) else (some false)))) = some r := H
                    have A53 := Aside0.mk A530
                    clear A530
                    replace H := Option.bind_eq_some_iff.mp H
                    obtain ⟨t126, A540, H⟩ := H
                    replace H : ((merkhetlaw27_fixed.f k2).bind fun t127 => (if t127 = true then ((stats_Cover.f x11_2).bind fun t128 => (if t125 = t128 then (if t125 ≤ x6_1 then (if t125 ≥ x7_1 then (if t126 ≤ t125 then (some (decide ((IntKind.u64.wrap (t125 - t126)) ≤ (IntKind.u64.wrap (mx (wrap64 (a1_1 - a1_0)) 0))))) else (some false)) else (some false)) else (some false)) else (some false))) else (some false))) = some r := H
                    have A54 := Aside0.mk A540
                    clear A540
                    replace H := Option.bind_eq_some_iff.mp H
                    obtain ⟨t127, A550, H⟩ := H
                    replace H : (if t127 = true then ((stats_Cover.f x11_2).bind fun t128 => (if t125 = t128 then (if t125 ≤ x6_1 then (if t125 ≥ x7_1 then (if t126 ≤ t125 then (some (decide ((IntKind.u64.wrap (t125 - t126)) ≤ (IntKind.u64.wrap (mx (wrap64 (a1_1 - a1_0)) 0))))) else (some false)) else (some false)) else (some false)) else (some false))) else (some false)) = some r := H
                    have A55 := Aside0.mk A550
                    clear A550
                    by_cases c56 : t127 = true
                    · subst c56
                      have H1 : ((stats_Cover.f x11_2).bind fun t128 => (if t125 = t128 then (if t125 ≤ x6_1 then (if t125 ≥ x7_1 then (if t126 ≤ t125 then (some (decide ((IntKind.u64.wrap (t125 - t126)) ≤ (IntKind.u64.wrap (mx (wrap64 (a1_1 - a1_0)) 0))))) else (some false)) else (some false)) else (some false)) else (some false))) = some r := by rw [if_pos rfl] at H; exact H
                      clear H
                      have H := H1
                      clear H1
                      replace H := Option.bind_eq_some_iff.mp H
                      obtain ⟨t128, A570, H⟩ := H
                      replace H : (if t125 = t128 then (if t125 ≤ x6_1 then (if t125 ≥ x7_1 then (if t126 ≤ t125 then (some (decide ((IntKind.u64.wrap (t125 - t126)) ≤ (IntKind.u64.wrap (mx (wrap64 (a1_1 - a1_0)) 0))))) else (some false)) else (some false)) else (some false)) else (some false)) = some r := H
                      have A57 := Aside0.mk A570
                      clear A570
                      by_cases c58 : t125 = t128
                      · rw [if_pos c58] at H
                        have c58b0 : (t125 == t128) = true := beq_iff_eq.mpr c58
                        have c58b1 : (t125 != t128) = false := bne_eq_false_iff_eq.mpr c58
                        clear c58
                        by_cases c59 : t125 ≤ x6_1
                        · rw [if_pos c59] at H
                          have c59b0 : decide (t125 ≤ x6_1) = true := decide_eq_true c59
                          clear c59
                          by_cases c60 : t125 ≥ x7_1
                          · rw [if_pos c60] at H
                            have c60b0 : decide (x7_1 ≤ t125) = true := decide_eq_true c60
                            clear c60
                            by_cases c61 : t126 ≤ t125
                            · rw [if_pos c61] at H
                              have c61b0 : decide (t126 ≤ t125) = true := decide_eq_true c61
                              clear c61
                              obtain ⟨ji62, hji62⟩ : ∃ j_ : Int, (mx (wrap64 (a1_1 - a1_0)) 0) = j_ := ⟨_, rfl⟩
                              replace H : (some (decide ((IntKind.u64.wrap (t125 - t126)) ≤ (IntKind.u64.wrap (ji62))))) = some r := by first | (rw [hji62] at H; exact H) | (simp only [hji62] at H ⊢; exact H)
                              (try rw [hji62] at A53)
                              (try rw [hji62] at A54)
                              (try rw [hji62] at A55)
                              (try rw [hji62] at A57)
                              have hji62_ : (if (wrap64 (a1_1 - a1_0)) < 0 then 0 else (wrap64 (a1_1 - a1_0))) = ji62 := hji62
                              obtain rfl := Option.some.inj H
                              go_wp2_with (first | ((with_reducible refine gate_callee (f := 13) rfl ?_); refine goesL_ (some 79) rfl rfl Try.func13 (by kernel_rfl) rfl #[.slice Ao19 y112.length co19] rfl (by (try simp only [List.map_toArray, List.map_cons, List.map_nil]); first | done | rfl | (simp only [List.length_drop, List.length_take]; rfl)) ?_; (with_reducible refine (stats_Cover.calls _ _ y112 t125 _ ?side1 ?side2 A53.out).mono ?_); (case side1 => repeat (first | exact (Kd.R_reads' HO_5.out).2.2 | (with_reducible refine Kd.C_alloc ?_ _) | (with_reducible refine Kd.C_drewN ?_ _) | (with_reducible refine Kd.C_drew ?_))); (case side2 => exact (Kd.R_reads' HO_5.out).2.1); rintro e w63 ⟨rfl, hb⟩; refine ⟨_, rfl, ?_⟩; have n0_ := Aside0.mk (Kd.R_below (by (with_reducible repeat (first | apply Kd.R_alloc | apply Kd.R_drewN | apply Kd.R_drew)); exact HO_5.out) hb); have n1_ := Aside0.mk (Kd.R_below (by (with_reducible repeat (first | apply Kd.R_alloc | apply Kd.R_drewN | apply Kd.R_drew)); exact HO_11.out) hb); have n2_ := Aside0.mk (blk_below (g := gb101) (o := .cells #[.int .i64 a1_0, .int .i64 a1_1] 26 (0, 0)) (by (with_reducible repeat (first | refine blk_drewN ?_ _ | refine blk_drew ?_ | refine blk_alloc ?_ _)); exact BK101.out) hb); have n3_ := Aside0.mk (below_step (by repeat (first | (with_reducible first | exact HB.out | apply below_alloc | apply pw_below_drewN | apply below_drew1 | refine below_set ?_ GE101.out) | exact HB.out)) hb); clear HO_5; clear HO_11; clear BK101; clear HB; have HO_5 := n0_; have HO_11 := n1_; have BK101 := n2_; have HB := n3_; clear n0_ n1_ n2_ n3_; (try clear hb); (try clear hb2); (try clear hk); (try clear hi)) | ((with_reducible refine gate_callee (f := 13) rfl ?_); refine goesL_ (some 81) rfl rfl Try.func13 (by kernel_rfl) rfl #[.slice A0 l0.length c0] rfl (by (try simp only [List.map_toArray, List.map_cons, List.map_nil]); first | done | rfl | (simp only [List.length_drop, List.length_take]; rfl)) ?_; (with_reducible refine (stats_Cover.calls _ _ l0 t126 _ ?side1 ?side2 A54.out).mono ?_); (case side1 => repeat (first | exact (Kd.C_below HR0.out HB.out) | (with_reducible refine Kd.C_alloc ?_ _) | (with_reducible refine Kd.C_drewN ?_ _) | (with_reducible refine Kd.C_drew ?_))); (case side2 => exact HC0.out); rintro e w64 ⟨rfl, hb⟩; refine ⟨_, rfl, ?_⟩; have n0_ := Aside0.mk (Kd.R_below (by (with_reducible repeat (first | apply Kd.R_alloc | apply Kd.R_drewN | apply Kd.R_drew)); exact HO_5.out) hb); have n1_ := Aside0.mk (Kd.R_below (by (with_reducible repeat (first | apply Kd.R_alloc | apply Kd.R_drewN | apply Kd.R_drew)); exact HO_11.out) hb); have n2_ := Aside0.mk (blk_below (g := gb101) (o := .cells #[.int .i64 a1_0, .int .i64 a1_1] 26 (0, 0)) (by (with_reducible repeat (first | refine blk_drewN ?_ _ | refine blk_drew ?_ | refine blk_alloc ?_ _)); exact BK101.out) hb); have n3_ := Aside0.mk (below_step (by repeat (first | (with_reducible first | exact HB.out | apply below_alloc | apply pw_below_drewN | apply below_drew1 | refine below_set ?_ GE101.out) | exact HB.out)) hb); clear HO_5; clear HO_11; clear BK101; clear HB; have HO_5 := n0_; have HO_11 := n1_; have BK101 := n2_; have HB := n3_; clear n0_ n1_ n2_ n3_; (try clear hb); (try clear hb2); (try clear hk); (try clear hi)) | ((with_reducible refine gate_callee (f := 12) rfl ?_); refine goesL_ (some 82) rfl rfl Try.func12 (by kernel_rfl) rfl #[] rfl (by (try simp only [List.map_toArray, List.map_cons, List.map_nil]); first | done | rfl | (simp only [List.length_drop, List.length_take]; rfl)) ?_; (with_reducible refine (merkhetlaw27_fixed.calls k2  true _ A55.out).mono ?_); rintro e w65 ⟨rfl, hb⟩; refine ⟨_, rfl, ?_⟩; have n0_ := Aside0.mk (Kd.R_below (by (with_reducible repeat (first | apply Kd.R_alloc | apply Kd.R_drewN | apply Kd.R_drew)); exact HO_5.out) hb); have n1_ := Aside0.mk (Kd.R_below (by (with_reducible repeat (first | apply Kd.R_alloc | apply Kd.R_drewN | apply Kd.R_drew)); exact HO_11.out) hb); have n2_ := Aside0.mk (blk_below (g := gb101) (o := .cells #[.int .i64 a1_0, .int .i64 a1_1] 26 (0, 0)) (by (with_reducible repeat (first | refine blk_drewN ?_ _ | refine blk_drew ?_ | refine blk_alloc ?_ _)); exact BK101.out) hb); have n3_ := Aside0.mk (below_step (by repeat (first | (with_reducible first | exact HB.out | apply below_alloc | apply pw_below_drewN | apply below_drew1 | refine below_set ?_ GE101.out) | exact HB.out)) hb); clear HO_5; clear HO_11; clear BK101; clear HB; have HO_5 := n0_; have HO_11 := n1_; have BK101 := n2_; have HB := n3_; clear n0_ n1_ n2_ n3_; (try clear hb); (try clear hb2); (try clear hk); (try clear hi); obtain ⟨Ao66, co66, eo66⟩ := Kd.R_slice HO_11.out; subst eo66) | (go_at_call 13; (with_reducible refine (stats_Cover.calls _ _ x11_2 t128 _ ?side1 ?side2 A57.out).mono ?_); (case side1 => repeat (first | exact (Kd.R_reads' HO_11.out).2.2 | (with_reducible refine Kd.C_alloc ?_ _) | (with_reducible refine Kd.C_drewN ?_ _) | (with_reducible refine Kd.C_drew ?_))); (case side2 => exact (Kd.R_reads' HO_11.out).2.1); rintro e w67 ⟨rfl, hb⟩; have n0_ := Aside0.mk (Kd.R_below (by (with_reducible repeat (first | apply Kd.R_alloc | apply Kd.R_drewN | apply Kd.R_drew)); exact HO_5.out) hb); have n1_ := Aside0.mk (Kd.R_below (by (with_reducible repeat (first | apply Kd.R_alloc | apply Kd.R_drewN | apply Kd.R_drew)); exact HO_11.out) hb); have n2_ := Aside0.mk (blk_below (g := gb101) (o := .cells #[.int .i64 a1_0, .int .i64 a1_1] 26 (0, 0)) (by (with_reducible repeat (first | refine blk_drewN ?_ _ | refine blk_drew ?_ | refine blk_alloc ?_ _)); exact BK101.out) hb); have n3_ := Aside0.mk (below_step (by repeat (first | (with_reducible first | exact HB.out | apply below_alloc | apply pw_below_drewN | apply below_drew1 | refine below_set ?_ GE101.out) | exact HB.out)) hb); clear HO_5; clear HO_11; clear BK101; clear HB; have HO_5 := n0_; have HO_11 := n1_; have BK101 := n2_; have HB := n3_; clear n0_ n1_ n2_ n3_; (try clear hb); (try clear hb2); (try clear hk); (try clear hi); have hcz68_0 : w67.cell? ⟨gb101, 0, none⟩ = some (.int .i64 a1_0) := (blk_cell BK101.out 0).trans rfl; have hcz68_1 : w67.cell? ⟨gb101, 1, none⟩ = some (.int .i64 a1_1) := (blk_cell BK101.out 1).trans rfl; have hfz68_0 := blk_frozen BK101.out 0; have hfz68_1 := blk_frozen BK101.out 1))
                              go_ret
                              exact ⟨by first | rfl | (simp [errW_none, errW_some] <;> rfl) | (simp only [← hji62]; first | rfl | (simp [errW_none, errW_some] <;> rfl)) | (simp [*, errW_none, errW_some] <;> rfl), by repeat (first | (with_reducible first | exact HB.out | apply below_alloc | apply pw_below_drewN | apply below_drew1 | refine below_set ?_ GE101.out) | exact HB.out)⟩
                            · rw [if_neg c61] at H
                              have c61b0 : decide (t126 ≤ t125) = false := decide_eq_false c61
                              clear c61
                              obtain rfl := Option.some.inj H
                              go_wp2_with (first | ((with_reducible refine gate_callee (f := 13) rfl ?_); refine goesL_ (some 79) rfl rfl Try.func13 (by kernel_rfl) rfl #[.slice Ao19 y112.length co19] rfl (by (try simp only [List.map_toArray, List.map_cons, List.map_nil]); first | done | rfl | (simp only [List.length_drop, List.length_take]; rfl)) ?_; (with_reducible refine (stats_Cover.calls _ _ y112 t125 _ ?side1 ?side2 A53.out).mono ?_); (case side1 => repeat (first | exact (Kd.R_reads' HO_5.out).2.2 | (with_reducible refine Kd.C_alloc ?_ _) | (with_reducible refine Kd.C_drewN ?_ _) | (with_reducible refine Kd.C_drew ?_))); (case side2 => exact (Kd.R_reads' HO_5.out).2.1); rintro e w69 ⟨rfl, hb⟩; refine ⟨_, rfl, ?_⟩; have n0_ := Aside0.mk (Kd.R_below (by (with_reducible repeat (first | apply Kd.R_alloc | apply Kd.R_drewN | apply Kd.R_drew)); exact HO_5.out) hb); have n1_ := Aside0.mk (Kd.R_below (by (with_reducible repeat (first | apply Kd.R_alloc | apply Kd.R_drewN | apply Kd.R_drew)); exact HO_11.out) hb); have n2_ := Aside0.mk (blk_below (g := gb101) (o := .cells #[.int .i64 a1_0, .int .i64 a1_1] 26 (0, 0)) (by (with_reducible repeat (first | refine blk_drewN ?_ _ | refine blk_drew ?_ | refine blk_alloc ?_ _)); exact BK101.out) hb); have n3_ := Aside0.mk (below_step (by repeat (first | (with_reducible first | exact HB.out | apply below_alloc | apply pw_below_drewN | apply below_drew1 | refine below_set ?_ GE101.out) | exact HB.out)) hb); clear HO_5; clear HO_11; clear BK101; clear HB; have HO_5 := n0_; have HO_11 := n1_; have BK101 := n2_; have HB := n3_; clear n0_ n1_ n2_ n3_; (try clear hb); (try clear hb2); (try clear hk); (try clear hi)) | ((with_reducible refine gate_callee (f := 13) rfl ?_); refine goesL_ (some 81) rfl rfl Try.func13 (by kernel_rfl) rfl #[.slice A0 l0.length c0] rfl (by (try simp only [List.map_toArray, List.map_cons, List.map_nil]); first | done | rfl | (simp only [List.length_drop, List.length_take]; rfl)) ?_; (with_reducible refine (stats_Cover.calls _ _ l0 t126 _ ?side1 ?side2 A54.out).mono ?_); (case side1 => repeat (first | exact (Kd.C_below HR0.out HB.out) | (with_reducible refine Kd.C_alloc ?_ _) | (with_reducible refine Kd.C_drewN ?_ _) | (with_reducible refine Kd.C_drew ?_))); (case side2 => exact HC0.out); rintro e w70 ⟨rfl, hb⟩; refine ⟨_, rfl, ?_⟩; have n0_ := Aside0.mk (Kd.R_below (by (with_reducible repeat (first | apply Kd.R_alloc | apply Kd.R_drewN | apply Kd.R_drew)); exact HO_5.out) hb); have n1_ := Aside0.mk (Kd.R_below (by (with_reducible repeat (first | apply Kd.R_alloc | apply Kd.R_drewN | apply Kd.R_drew)); exact HO_11.out) hb); have n2_ := Aside0.mk (blk_below (g := gb101) (o := .cells #[.int .i64 a1_0, .int .i64 a1_1] 26 (0, 0)) (by (with_reducible repeat (first | refine blk_drewN ?_ _ | refine blk_drew ?_ | refine blk_alloc ?_ _)); exact BK101.out) hb); have n3_ := Aside0.mk (below_step (by repeat (first | (with_reducible first | exact HB.out | apply below_alloc | apply pw_below_drewN | apply below_drew1 | refine below_set ?_ GE101.out) | exact HB.out)) hb); clear HO_5; clear HO_11; clear BK101; clear HB; have HO_5 := n0_; have HO_11 := n1_; have BK101 := n2_; have HB := n3_; clear n0_ n1_ n2_ n3_; (try clear hb); (try clear hb2); (try clear hk); (try clear hi)) | ((with_reducible refine gate_callee (f := 12) rfl ?_); refine goesL_ (some 82) rfl rfl Try.func12 (by kernel_rfl) rfl #[] rfl (by (try simp only [List.map_toArray, List.map_cons, List.map_nil]); first | done | rfl | (simp only [List.length_drop, List.length_take]; rfl)) ?_; (with_reducible refine (merkhetlaw27_fixed.calls k2  true _ A55.out).mono ?_); rintro e w71 ⟨rfl, hb⟩; refine ⟨_, rfl, ?_⟩; have n0_ := Aside0.mk (Kd.R_below (by (with_reducible repeat (first | apply Kd.R_alloc | apply Kd.R_drewN | apply Kd.R_drew)); exact HO_5.out) hb); have n1_ := Aside0.mk (Kd.R_below (by (with_reducible repeat (first | apply Kd.R_alloc | apply Kd.R_drewN | apply Kd.R_drew)); exact HO_11.out) hb); have n2_ := Aside0.mk (blk_below (g := gb101) (o := .cells #[.int .i64 a1_0, .int .i64 a1_1] 26 (0, 0)) (by (with_reducible repeat (first | refine blk_drewN ?_ _ | refine blk_drew ?_ | refine blk_alloc ?_ _)); exact BK101.out) hb); have n3_ := Aside0.mk (below_step (by repeat (first | (with_reducible first | exact HB.out | apply below_alloc | apply pw_below_drewN | apply below_drew1 | refine below_set ?_ GE101.out) | exact HB.out)) hb); clear HO_5; clear HO_11; clear BK101; clear HB; have HO_5 := n0_; have HO_11 := n1_; have BK101 := n2_; have HB := n3_; clear n0_ n1_ n2_ n3_; (try clear hb); (try clear hb2); (try clear hk); (try clear hi); obtain ⟨Ao72, co72, eo72⟩ := Kd.R_slice HO_11.out; subst eo72) | (go_at_call 13; (with_reducible refine (stats_Cover.calls _ _ x11_2 t128 _ ?side1 ?side2 A57.out).mono ?_); (case side1 => repeat (first | exact (Kd.R_reads' HO_11.out).2.2 | (with_reducible refine Kd.C_alloc ?_ _) | (with_reducible refine Kd.C_drewN ?_ _) | (with_reducible refine Kd.C_drew ?_))); (case side2 => exact (Kd.R_reads' HO_11.out).2.1); rintro e w73 ⟨rfl, hb⟩; have n0_ := Aside0.mk (Kd.R_below (by (with_reducible repeat (first | apply Kd.R_alloc | apply Kd.R_drewN | apply Kd.R_drew)); exact HO_5.out) hb); have n1_ := Aside0.mk (Kd.R_below (by (with_reducible repeat (first | apply Kd.R_alloc | apply Kd.R_drewN | apply Kd.R_drew)); exact HO_11.out) hb); have n2_ := Aside0.mk (blk_below (g := gb101) (o := .cells #[.int .i64 a1_0, .int .i64 a1_1] 26 (0, 0)) (by (with_reducible repeat (first | refine blk_drewN ?_ _ | refine blk_drew ?_ | refine blk_alloc ?_ _)); exact BK101.out) hb); have n3_ := Aside0.mk (below_step (by repeat (first | (with_reducible first | exact HB.out | apply below_alloc | apply pw_below_drewN | apply below_drew1 | refine below_set ?_ GE101.out) | exact HB.out)) hb); clear HO_5; clear HO_11; clear BK101; clear HB; have HO_5 := n0_; have HO_11 := n1_; have BK101 := n2_; have HB := n3_; clear n0_ n1_ n2_ n3_; (try clear hb); (try clear hb2); (try clear hk); (try clear hi)))
                              go_ret
                              exact ⟨by first | rfl | (simp [errW_none, errW_some] <;> rfl) | (simp [*, errW_none, errW_some] <;> rfl), by repeat (first | (with_reducible first | exact HB.out | apply below_alloc | apply pw_below_drewN | apply below_drew1 | refine below_set ?_ GE101.out) | exact HB.out)⟩
                          · rw [if_neg c60] at H
                            have c60b0 : decide (x7_1 ≤ t125) = false := decide_eq_false c60
                            clear c60
                            obtain rfl := Option.some.inj H
                            go_wp2_with (first | ((with_reducible refine gate_callee (f := 13) rfl ?_); refine goesL_ (some 79) rfl rfl Try.func13 (by kernel_rfl) rfl #[.slice Ao19 y112.length co19] rfl (by (try simp only [List.map_toArray, List.map_cons, List.map_nil]); first | done | rfl | (simp only [List.length_drop, List.length_take]; rfl)) ?_; (with_reducible refine (stats_Cover.calls _ _ y112 t125 _ ?side1 ?side2 A53.out).mono ?_); (case side1 => repeat (first | exact (Kd.R_reads' HO_5.out).2.2 | (with_reducible refine Kd.C_alloc ?_ _) | (with_reducible refine Kd.C_drewN ?_ _) | (with_reducible refine Kd.C_drew ?_))); (case side2 => exact (Kd.R_reads' HO_5.out).2.1); rintro e w74 ⟨rfl, hb⟩; refine ⟨_, rfl, ?_⟩; have n0_ := Aside0.mk (Kd.R_below (by (with_reducible repeat (first | apply Kd.R_alloc | apply Kd.R_drewN | apply Kd.R_drew)); exact HO_5.out) hb); have n1_ := Aside0.mk (Kd.R_below (by (with_reducible repeat (first | apply Kd.R_alloc | apply Kd.R_drewN | apply Kd.R_drew)); exact HO_11.out) hb); have n2_ := Aside0.mk (blk_below (g := gb101) (o := .cells #[.int .i64 a1_0, .int .i64 a1_1] 26 (0, 0)) (by (with_reducible repeat (first | refine blk_drewN ?_ _ | refine blk_drew ?_ | refine blk_alloc ?_ _)); exact BK101.out) hb); have n3_ := Aside0.mk (below_step (by repeat (first | (with_reducible first | exact HB.out | apply below_alloc | apply pw_below_drewN | apply below_drew1 | refine below_set ?_ GE101.out) | exact HB.out)) hb); clear HO_5; clear HO_11; clear BK101; clear HB; have HO_5 := n0_; have HO_11 := n1_; have BK101 := n2_; have HB := n3_; clear n0_ n1_ n2_ n3_; (try clear hb); (try clear hb2); (try clear hk); (try clear hi)) | ((with_reducible refine gate_callee (f := 13) rfl ?_); refine goesL_ (some 81) rfl rfl Try.func13 (by kernel_rfl) rfl #[.slice A0 l0.length c0] rfl (by (try simp only [List.map_toArray, List.map_cons, List.map_nil]); first | done | rfl | (simp only [List.length_drop, List.length_take]; rfl)) ?_; (with_reducible refine (stats_Cover.calls _ _ l0 t126 _ ?side1 ?side2 A54.out).mono ?_); (case side1 => repeat (first | exact (Kd.C_below HR0.out HB.out) | (with_reducible refine Kd.C_alloc ?_ _) | (with_reducible refine Kd.C_drewN ?_ _) | (with_reducible refine Kd.C_drew ?_))); (case side2 => exact HC0.out); rintro e w75 ⟨rfl, hb⟩; refine ⟨_, rfl, ?_⟩; have n0_ := Aside0.mk (Kd.R_below (by (with_reducible repeat (first | apply Kd.R_alloc | apply Kd.R_drewN | apply Kd.R_drew)); exact HO_5.out) hb); have n1_ := Aside0.mk (Kd.R_below (by (with_reducible repeat (first | apply Kd.R_alloc | apply Kd.R_drewN | apply Kd.R_drew)); exact HO_11.out) hb); have n2_ := Aside0.mk (blk_below (g := gb101) (o := .cells #[.int .i64 a1_0, .int .i64 a1_1] 26 (0, 0)) (by (with_reducible repeat (first | refine blk_drewN ?_ _ | refine blk_drew ?_ | refine blk_alloc ?_ _)); exact BK101.out) hb); have n3_ := Aside0.mk (below_step (by repeat (first | (with_reducible first | exact HB.out | apply below_alloc | apply pw_below_drewN | apply below_drew1 | refine below_set ?_ GE101.out) | exact HB.out)) hb); clear HO_5; clear HO_11; clear BK101; clear HB; have HO_5 := n0_; have HO_11 := n1_; have BK101 := n2_; have HB := n3_; clear n0_ n1_ n2_ n3_; (try clear hb); (try clear hb2); (try clear hk); (try clear hi)) | ((with_reducible refine gate_callee (f := 12) rfl ?_); refine goesL_ (some 82) rfl rfl Try.func12 (by kernel_rfl) rfl #[] rfl (by (try simp only [List.map_toArray, List.map_cons, List.map_nil]); first | done | rfl | (simp only [List.length_drop, List.length_take]; rfl)) ?_; (with_reducible refine (merkhetlaw27_fixed.calls k2  true _ A55.out).mono ?_); rintro e w76 ⟨rfl, hb⟩; refine ⟨_, rfl, ?_⟩; have n0_ := Aside0.mk (Kd.R_below (by (with_reducible repeat (first | apply Kd.R_alloc | apply Kd.R_drewN | apply Kd.R_drew)); exact HO_5.out) hb); have n1_ := Aside0.mk (Kd.R_below (by (with_reducible repeat (first | apply Kd.R_alloc | apply Kd.R_drewN | apply Kd.R_drew)); exact HO_11.out) hb); have n2_ := Aside0.mk (blk_below (g := gb101) (o := .cells #[.int .i64 a1_0, .int .i64 a1_1] 26 (0, 0)) (by (with_reducible repeat (first | refine blk_drewN ?_ _ | refine blk_drew ?_ | refine blk_alloc ?_ _)); exact BK101.out) hb); have n3_ := Aside0.mk (below_step (by repeat (first | (with_reducible first | exact HB.out | apply below_alloc | apply pw_below_drewN | apply below_drew1 | refine below_set ?_ GE101.out) | exact HB.out)) hb); clear HO_5; clear HO_11; clear BK101; clear HB; have HO_5 := n0_; have HO_11 := n1_; have BK101 := n2_; have HB := n3_; clear n0_ n1_ n2_ n3_; (try clear hb); (try clear hb2); (try clear hk); (try clear hi); obtain ⟨Ao77, co77, eo77⟩ := Kd.R_slice HO_11.out; subst eo77) | (go_at_call 13; (with_reducible refine (stats_Cover.calls _ _ x11_2 t128 _ ?side1 ?side2 A57.out).mono ?_); (case side1 => repeat (first | exact (Kd.R_reads' HO_11.out).2.2 | (with_reducible refine Kd.C_alloc ?_ _) | (with_reducible refine Kd.C_drewN ?_ _) | (with_reducible refine Kd.C_drew ?_))); (case side2 => exact (Kd.R_reads' HO_11.out).2.1); rintro e w78 ⟨rfl, hb⟩; have n0_ := Aside0.mk (Kd.R_below (by (with_reducible repeat (first | apply Kd.R_alloc | apply Kd.R_drewN | apply Kd.R_drew)); exact HO_5.out) hb); have n1_ := Aside0.mk (Kd.R_below (by (with_reducible repeat (first | apply Kd.R_alloc | apply Kd.R_drewN | apply Kd.R_drew)); exact HO_11.out) hb); have n2_ := Aside0.mk (blk_below (g := gb101) (o := .cells #[.int .i64 a1_0, .int .i64 a1_1] 26 (0, 0)) (by (with_reducible repeat (first | refine blk_drewN ?_ _ | refine blk_drew ?_ | refine blk_alloc ?_ _)); exact BK101.out) hb); have n3_ := Aside0.mk (below_step (by repeat (first | (with_reducible first | exact HB.out | apply below_alloc | apply pw_below_drewN | apply below_drew1 | refine below_set ?_ GE101.out) | exact HB.out)) hb); clear HO_5; clear HO_11; clear BK101; clear HB; have HO_5 := n0_; have HO_11 := n1_; have BK101 := n2_; have HB := n3_; clear n0_ n1_ n2_ n3_; (try clear hb); (try clear hb2); (try clear hk); (try clear hi)))
                            go_ret
                            exact ⟨by first | rfl | (simp [errW_none, errW_some] <;> rfl) | (simp [*, errW_none, errW_some] <;> rfl), by repeat (first | (with_reducible first | exact HB.out | apply below_alloc | apply pw_below_drewN | apply below_drew1 | refine below_set ?_ GE101.out) | exact HB.out)⟩
                        · rw [if_neg c59] at H
                          have c59b0 : decide (t125 ≤ x6_1) = false := decide_eq_false c59
                          clear c59
                          obtain rfl := Option.some.inj H
                          go_wp2_with (first | ((with_reducible refine gate_callee (f := 13) rfl ?_); refine goesL_ (some 79) rfl rfl Try.func13 (by kernel_rfl) rfl #[.slice Ao19 y112.length co19] rfl (by (try simp only [List.map_toArray, List.map_cons, List.map_nil]); first | done | rfl | (simp only [List.length_drop, List.length_take]; rfl)) ?_; (with_reducible refine (stats_Cover.calls _ _ y112 t125 _ ?side1 ?side2 A53.out).mono ?_); (case side1 => repeat (first | exact (Kd.R_reads' HO_5.out).2.2 | (with_reducible refine Kd.C_alloc ?_ _) | (with_reducible refine Kd.C_drewN ?_ _) | (with_reducible refine Kd.C_drew ?_))); (case side2 => exact (Kd.R_reads' HO_5.out).2.1); rintro e w79 ⟨rfl, hb⟩; refine ⟨_, rfl, ?_⟩; have n0_ := Aside0.mk (Kd.R_below (by (with_reducible repeat (first | apply Kd.R_alloc | apply Kd.R_drewN | apply Kd.R_drew)); exact HO_5.out) hb); have n1_ := Aside0.mk (Kd.R_below (by (with_reducible repeat (first | apply Kd.R_alloc | apply Kd.R_drewN | apply Kd.R_drew)); exact HO_11.out) hb); have n2_ := Aside0.mk (blk_below (g := gb101) (o := .cells #[.int .i64 a1_0, .int .i64 a1_1] 26 (0, 0)) (by (with_reducible repeat (first | refine blk_drewN ?_ _ | refine blk_drew ?_ | refine blk_alloc ?_ _)); exact BK101.out) hb); have n3_ := Aside0.mk (below_step (by repeat (first | (with_reducible first | exact HB.out | apply below_alloc | apply pw_below_drewN | apply below_drew1 | refine below_set ?_ GE101.out) | exact HB.out)) hb); clear HO_5; clear HO_11; clear BK101; clear HB; have HO_5 := n0_; have HO_11 := n1_; have BK101 := n2_; have HB := n3_; clear n0_ n1_ n2_ n3_; (try clear hb); (try clear hb2); (try clear hk); (try clear hi)) | ((with_reducible refine gate_callee (f := 13) rfl ?_); refine goesL_ (some 81) rfl rfl Try.func13 (by kernel_rfl) rfl #[.slice A0 l0.length c0] rfl (by (try simp only [List.map_toArray, List.map_cons, List.map_nil]); first | done | rfl | (simp only [List.length_drop, List.length_take]; rfl)) ?_; (with_reducible refine (stats_Cover.calls _ _ l0 t126 _ ?side1 ?side2 A54.out).mono ?_); (case side1 => repeat (first | exact (Kd.C_below HR0.out HB.out) | (with_reducible refine Kd.C_alloc ?_ _) | (with_reducible refine Kd.C_drewN ?_ _) | (with_reducible refine Kd.C_drew ?_))); (case side2 => exact HC0.out); rintro e w80 ⟨rfl, hb⟩; refine ⟨_, rfl, ?_⟩; have n0_ := Aside0.mk (Kd.R_below (by (with_reducible repeat (first | apply Kd.R_alloc | apply Kd.R_drewN | apply Kd.R_drew)); exact HO_5.out) hb); have n1_ := Aside0.mk (Kd.R_below (by (with_reducible repeat (first | apply Kd.R_alloc | apply Kd.R_drewN | apply Kd.R_drew)); exact HO_11.out) hb); have n2_ := Aside0.mk (blk_below (g := gb101) (o := .cells #[.int .i64 a1_0, .int .i64 a1_1] 26 (0, 0)) (by (with_reducible repeat (first | refine blk_drewN ?_ _ | refine blk_drew ?_ | refine blk_alloc ?_ _)); exact BK101.out) hb); have n3_ := Aside0.mk (below_step (by repeat (first | (with_reducible first | exact HB.out | apply below_alloc | apply pw_below_drewN | apply below_drew1 | refine below_set ?_ GE101.out) | exact HB.out)) hb); clear HO_5; clear HO_11; clear BK101; clear HB; have HO_5 := n0_; have HO_11 := n1_; have BK101 := n2_; have HB := n3_; clear n0_ n1_ n2_ n3_; (try clear hb); (try clear hb2); (try clear hk); (try clear hi)) | ((with_reducible refine gate_callee (f := 12) rfl ?_); refine goesL_ (some 82) rfl rfl Try.func12 (by kernel_rfl) rfl #[] rfl (by (try simp only [List.map_toArray, List.map_cons, List.map_nil]); first | done | rfl | (simp only [List.length_drop, List.length_take]; rfl)) ?_; (with_reducible refine (merkhetlaw27_fixed.calls k2  true _ A55.out).mono ?_); rintro e w81 ⟨rfl, hb⟩; refine ⟨_, rfl, ?_⟩; have n0_ := Aside0.mk (Kd.R_below (by (with_reducible repeat (first | apply Kd.R_alloc | apply Kd.R_drewN | apply Kd.R_drew)); exact HO_5.out) hb); have n1_ := Aside0.mk (Kd.R_below (by (with_reducible repeat (first | apply Kd.R_alloc | apply Kd.R_drewN | apply Kd.R_drew)); exact HO_11.out) hb); have n2_ := Aside0.mk (blk_below (g := gb101) (o := .cells #[.int .i64 a1_0, .int .i64 a1_1] 26 (0, 0)) (by (with_reducible repeat (first | refine blk_drewN ?_ _ | refine blk_drew ?_ | refine blk_alloc ?_ _)); exact BK101.out) hb); have n3_ := Aside0.mk (below_step (by repeat (first | (with_reducible first | exact HB.out | apply below_alloc | apply pw_below_drewN | apply below_drew1 | refine below_set ?_ GE101.out) | exact HB.out)) hb); clear HO_5; clear HO_11; clear BK101; clear HB; have HO_5 := n0_; have HO_11 := n1_; have BK101 := n2_; have HB := n3_; clear n0_ n1_ n2_ n3_; (try clear hb); (try clear hb2); (try clear hk); (try clear hi); obtain ⟨Ao82, co82, eo82⟩ := Kd.R_slice HO_11.out; subst eo82) | (go_at_call 13; (with_reducible refine (stats_Cover.calls _ _ x11_2 t128 _ ?side1 ?side2 A57.out).mono ?_); (case side1 => repeat (first | exact (Kd.R_reads' HO_11.out).2.2 | (with_reducible refine Kd.C_alloc ?_ _) | (with_reducible refine Kd.C_drewN ?_ _) | (with_reducible refine Kd.C_drew ?_))); (case side2 => exact (Kd.R_reads' HO_11.out).2.1); rintro e w83 ⟨rfl, hb⟩; have n0_ := Aside0.mk (Kd.R_below (by (with_reducible repeat (first | apply Kd.R_alloc | apply Kd.R_drewN | apply Kd.R_drew)); exact HO_5.out) hb); have n1_ := Aside0.mk (Kd.R_below (by (with_reducible repeat (first | apply Kd.R_alloc | apply Kd.R_drewN | apply Kd.R_drew)); exact HO_11.out) hb); have n2_ := Aside0.mk (blk_below (g := gb101) (o := .cells #[.int .i64 a1_0, .int .i64 a1_1] 26 (0, 0)) (by (with_reducible repeat (first | refine blk_drewN ?_ _ | refine blk_drew ?_ | refine blk_alloc ?_ _)); exact BK101.out) hb); have n3_ := Aside0.mk (below_step (by repeat (first | (with_reducible first | exact HB.out | apply below_alloc | apply pw_below_drewN | apply below_drew1 | refine below_set ?_ GE101.out) | exact HB.out)) hb); clear HO_5; clear HO_11; clear BK101; clear HB; have HO_5 := n0_; have HO_11 := n1_; have BK101 := n2_; have HB := n3_; clear n0_ n1_ n2_ n3_; (try clear hb); (try clear hb2); (try clear hk); (try clear hi)))
                          go_ret
                          exact ⟨by first | rfl | (simp [errW_none, errW_some] <;> rfl) | (simp [*, errW_none, errW_some] <;> rfl), by repeat (first | (with_reducible first | exact HB.out | apply below_alloc | apply pw_below_drewN | apply below_drew1 | refine below_set ?_ GE101.out) | exact HB.out)⟩
                      · rw [if_neg c58] at H
                        have c58b0 : (t125 == t128) = false := beq_eq_false_iff_ne.mpr c58
                        have c58b1 : (t125 != t128) = true := bne_iff_ne.mpr c58
                        obtain rfl := Option.some.inj H
                        go_wp2_with (first | ((with_reducible refine gate_callee (f := 13) rfl ?_); refine goesL_ (some 79) rfl rfl Try.func13 (by kernel_rfl) rfl #[.slice Ao19 y112.length co19] rfl (by (try simp only [List.map_toArray, List.map_cons, List.map_nil]); first | done | rfl | (simp only [List.length_drop, List.length_take]; rfl)) ?_; (with_reducible refine (stats_Cover.calls _ _ y112 t125 _ ?side1 ?side2 A53.out).mono ?_); (case side1 => repeat (first | exact (Kd.R_reads' HO_5.out).2.2 | (with_reducible refine Kd.C_alloc ?_ _) | (with_reducible refine Kd.C_drewN ?_ _) | (with_reducible refine Kd.C_drew ?_))); (case side2 => exact (Kd.R_reads' HO_5.out).2.1); rintro e w84 ⟨rfl, hb⟩; refine ⟨_, rfl, ?_⟩; have n0_ := Aside0.mk (Kd.R_below (by (with_reducible repeat (first | apply Kd.R_alloc | apply Kd.R_drewN | apply Kd.R_drew)); exact HO_5.out) hb); have n1_ := Aside0.mk (Kd.R_below (by (with_reducible repeat (first | apply Kd.R_alloc | apply Kd.R_drewN | apply Kd.R_drew)); exact HO_11.out) hb); have n2_ := Aside0.mk (blk_below (g := gb101) (o := .cells #[.int .i64 a1_0, .int .i64 a1_1] 26 (0, 0)) (by (with_reducible repeat (first | refine blk_drewN ?_ _ | refine blk_drew ?_ | refine blk_alloc ?_ _)); exact BK101.out) hb); have n3_ := Aside0.mk (below_step (by repeat (first | (with_reducible first | exact HB.out | apply below_alloc | apply pw_below_drewN | apply below_drew1 | refine below_set ?_ GE101.out) | exact HB.out)) hb); clear HO_5; clear HO_11; clear BK101; clear HB; have HO_5 := n0_; have HO_11 := n1_; have BK101 := n2_; have HB := n3_; clear n0_ n1_ n2_ n3_; (try clear hb); (try clear hb2); (try clear hk); (try clear hi)) | ((with_reducible refine gate_callee (f := 13) rfl ?_); refine goesL_ (some 81) rfl rfl Try.func13 (by kernel_rfl) rfl #[.slice A0 l0.length c0] rfl (by (try simp only [List.map_toArray, List.map_cons, List.map_nil]); first | done | rfl | (simp only [List.length_drop, List.length_take]; rfl)) ?_; (with_reducible refine (stats_Cover.calls _ _ l0 t126 _ ?side1 ?side2 A54.out).mono ?_); (case side1 => repeat (first | exact (Kd.C_below HR0.out HB.out) | (with_reducible refine Kd.C_alloc ?_ _) | (with_reducible refine Kd.C_drewN ?_ _) | (with_reducible refine Kd.C_drew ?_))); (case side2 => exact HC0.out); rintro e w85 ⟨rfl, hb⟩; refine ⟨_, rfl, ?_⟩; have n0_ := Aside0.mk (Kd.R_below (by (with_reducible repeat (first | apply Kd.R_alloc | apply Kd.R_drewN | apply Kd.R_drew)); exact HO_5.out) hb); have n1_ := Aside0.mk (Kd.R_below (by (with_reducible repeat (first | apply Kd.R_alloc | apply Kd.R_drewN | apply Kd.R_drew)); exact HO_11.out) hb); have n2_ := Aside0.mk (blk_below (g := gb101) (o := .cells #[.int .i64 a1_0, .int .i64 a1_1] 26 (0, 0)) (by (with_reducible repeat (first | refine blk_drewN ?_ _ | refine blk_drew ?_ | refine blk_alloc ?_ _)); exact BK101.out) hb); have n3_ := Aside0.mk (below_step (by repeat (first | (with_reducible first | exact HB.out | apply below_alloc | apply pw_below_drewN | apply below_drew1 | refine below_set ?_ GE101.out) | exact HB.out)) hb); clear HO_5; clear HO_11; clear BK101; clear HB; have HO_5 := n0_; have HO_11 := n1_; have BK101 := n2_; have HB := n3_; clear n0_ n1_ n2_ n3_; (try clear hb); (try clear hb2); (try clear hk); (try clear hi)) | ((with_reducible refine gate_callee (f := 12) rfl ?_); refine goesL_ (some 82) rfl rfl Try.func12 (by kernel_rfl) rfl #[] rfl (by (try simp only [List.map_toArray, List.map_cons, List.map_nil]); first | done | rfl | (simp only [List.length_drop, List.length_take]; rfl)) ?_; (with_reducible refine (merkhetlaw27_fixed.calls k2  true _ A55.out).mono ?_); rintro e w86 ⟨rfl, hb⟩; refine ⟨_, rfl, ?_⟩; have n0_ := Aside0.mk (Kd.R_below (by (with_reducible repeat (first | apply Kd.R_alloc | apply Kd.R_drewN | apply Kd.R_drew)); exact HO_5.out) hb); have n1_ := Aside0.mk (Kd.R_below (by (with_reducible repeat (first | apply Kd.R_alloc | apply Kd.R_drewN | apply Kd.R_drew)); exact HO_11.out) hb); have n2_ := Aside0.mk (blk_below (g := gb101) (o := .cells #[.int .i64 a1_0, .int .i64 a1_1] 26 (0, 0)) (by (with_reducible repeat (first | refine blk_drewN ?_ _ | refine blk_drew ?_ | refine blk_alloc ?_ _)); exact BK101.out) hb); have n3_ := Aside0.mk (below_step (by repeat (first | (with_reducible first | exact HB.out | apply below_alloc | apply pw_below_drewN | apply below_drew1 | refine below_set ?_ GE101.out) | exact HB.out)) hb); clear HO_5; clear HO_11; clear BK101; clear HB; have HO_5 := n0_; have HO_11 := n1_; have BK101 := n2_; have HB := n3_; clear n0_ n1_ n2_ n3_; (try clear hb); (try clear hb2); (try clear hk); (try clear hi); obtain ⟨Ao87, co87, eo87⟩ := Kd.R_slice HO_11.out; subst eo87) | (go_at_call 13; (with_reducible refine (stats_Cover.calls _ _ x11_2 t128 _ ?side1 ?side2 A57.out).mono ?_); (case side1 => repeat (first | exact (Kd.R_reads' HO_11.out).2.2 | (with_reducible refine Kd.C_alloc ?_ _) | (with_reducible refine Kd.C_drewN ?_ _) | (with_reducible refine Kd.C_drew ?_))); (case side2 => exact (Kd.R_reads' HO_11.out).2.1); rintro e w88 ⟨rfl, hb⟩; have n0_ := Aside0.mk (Kd.R_below (by (with_reducible repeat (first | apply Kd.R_alloc | apply Kd.R_drewN | apply Kd.R_drew)); exact HO_5.out) hb); have n1_ := Aside0.mk (Kd.R_below (by (with_reducible repeat (first | apply Kd.R_alloc | apply Kd.R_drewN | apply Kd.R_drew)); exact HO_11.out) hb); have n2_ := Aside0.mk (blk_below (g := gb101) (o := .cells #[.int .i64 a1_0, .int .i64 a1_1] 26 (0, 0)) (by (with_reducible repeat (first | refine blk_drewN ?_ _ | refine blk_drew ?_ | refine blk_alloc ?_ _)); exact BK101.out) hb); have n3_ := Aside0.mk (below_step (by repeat (first | (with_reducible first | exact HB.out | apply below_alloc | apply pw_below_drewN | apply below_drew1 | refine below_set ?_ GE101.out) | exact HB.out)) hb); clear HO_5; clear HO_11; clear BK101; clear HB; have HO_5 := n0_; have HO_11 := n1_; have BK101 := n2_; have HB := n3_; clear n0_ n1_ n2_ n3_; (try clear hb); (try clear hb2); (try clear hk); (try clear hi)))
                        go_ret
                        exact ⟨by first | rfl | (simp [errW_none, errW_some] <;> rfl) | (simp [*, errW_none, errW_some] <;> rfl), by repeat (first | (with_reducible first | exact HB.out | apply below_alloc | apply pw_below_drewN | apply below_drew1 | refine below_set ?_ GE101.out) | exact HB.out)⟩
                    · replace c56 := Bool.eq_false_iff.mpr c56
                      subst c56
                      have H1 : (some false) = some r := by rw [if_neg (show ¬ (false = true) by decide)] at H; exact H
                      clear H
                      have H := H1
                      clear H1
                      obtain rfl := Option.some.inj H
                      go_wp2_with (first | ((with_reducible refine gate_callee (f := 13) rfl ?_); refine goesL_ (some 79) rfl rfl Try.func13 (by kernel_rfl) rfl #[.slice Ao19 y112.length co19] rfl (by (try simp only [List.map_toArray, List.map_cons, List.map_nil]); first | done | rfl | (simp only [List.length_drop, List.length_take]; rfl)) ?_; (with_reducible refine (stats_Cover.calls _ _ y112 t125 _ ?side1 ?side2 A53.out).mono ?_); (case side1 => repeat (first | exact (Kd.R_reads' HO_5.out).2.2 | (with_reducible refine Kd.C_alloc ?_ _) | (with_reducible refine Kd.C_drewN ?_ _) | (with_reducible refine Kd.C_drew ?_))); (case side2 => exact (Kd.R_reads' HO_5.out).2.1); rintro e w89 ⟨rfl, hb⟩; refine ⟨_, rfl, ?_⟩; have n0_ := Aside0.mk (Kd.R_below (by (with_reducible repeat (first | apply Kd.R_alloc | apply Kd.R_drewN | apply Kd.R_drew)); exact HO_5.out) hb); have n1_ := Aside0.mk (Kd.R_below (by (with_reducible repeat (first | apply Kd.R_alloc | apply Kd.R_drewN | apply Kd.R_drew)); exact HO_11.out) hb); have n2_ := Aside0.mk (blk_below (g := gb101) (o := .cells #[.int .i64 a1_0, .int .i64 a1_1] 26 (0, 0)) (by (with_reducible repeat (first | refine blk_drewN ?_ _ | refine blk_drew ?_ | refine blk_alloc ?_ _)); exact BK101.out) hb); have n3_ := Aside0.mk (below_step (by repeat (first | (with_reducible first | exact HB.out | apply below_alloc | apply pw_below_drewN | apply below_drew1 | refine below_set ?_ GE101.out) | exact HB.out)) hb); clear HO_5; clear HO_11; clear BK101; clear HB; have HO_5 := n0_; have HO_11 := n1_; have BK101 := n2_; have HB := n3_; clear n0_ n1_ n2_ n3_; (try clear hb); (try clear hb2); (try clear hk); (try clear hi)) | ((with_reducible refine gate_callee (f := 13) rfl ?_); refine goesL_ (some 81) rfl rfl Try.func13 (by kernel_rfl) rfl #[.slice A0 l0.length c0] rfl (by (try simp only [List.map_toArray, List.map_cons, List.map_nil]); first | done | rfl | (simp only [List.length_drop, List.length_take]; rfl)) ?_; (with_reducible refine (stats_Cover.calls _ _ l0 t126 _ ?side1 ?side2 A54.out).mono ?_); (case side1 => repeat (first | exact (Kd.C_below HR0.out HB.out) | (with_reducible refine Kd.C_alloc ?_ _) | (with_reducible refine Kd.C_drewN ?_ _) | (with_reducible refine Kd.C_drew ?_))); (case side2 => exact HC0.out); rintro e w90 ⟨rfl, hb⟩; refine ⟨_, rfl, ?_⟩; have n0_ := Aside0.mk (Kd.R_below (by (with_reducible repeat (first | apply Kd.R_alloc | apply Kd.R_drewN | apply Kd.R_drew)); exact HO_5.out) hb); have n1_ := Aside0.mk (Kd.R_below (by (with_reducible repeat (first | apply Kd.R_alloc | apply Kd.R_drewN | apply Kd.R_drew)); exact HO_11.out) hb); have n2_ := Aside0.mk (blk_below (g := gb101) (o := .cells #[.int .i64 a1_0, .int .i64 a1_1] 26 (0, 0)) (by (with_reducible repeat (first | refine blk_drewN ?_ _ | refine blk_drew ?_ | refine blk_alloc ?_ _)); exact BK101.out) hb); have n3_ := Aside0.mk (below_step (by repeat (first | (with_reducible first | exact HB.out | apply below_alloc | apply pw_below_drewN | apply below_drew1 | refine below_set ?_ GE101.out) | exact HB.out)) hb); clear HO_5; clear HO_11; clear BK101; clear HB; have HO_5 := n0_; have HO_11 := n1_; have BK101 := n2_; have HB := n3_; clear n0_ n1_ n2_ n3_; (try clear hb); (try clear hb2); (try clear hk); (try clear hi)) | ((with_reducible refine gate_callee (f := 12) rfl ?_); refine goesL_ (some 82) rfl rfl Try.func12 (by kernel_rfl) rfl #[] rfl (by (try simp only [List.map_toArray, List.map_cons, List.map_nil]); first | done | rfl | (simp only [List.length_drop, List.length_take]; rfl)) ?_; (with_reducible refine (merkhetlaw27_fixed.calls k2  false _ A55.out).mono ?_); rintro e w91 ⟨rfl, hb⟩; refine ⟨_, rfl, ?_⟩; have n0_ := Aside0.mk (Kd.R_below (by (with_reducible repeat (first | apply Kd.R_alloc | apply Kd.R_drewN | apply Kd.R_drew)); exact HO_5.out) hb); have n1_ := Aside0.mk (Kd.R_below (by (with_reducible repeat (first | apply Kd.R_alloc | apply Kd.R_drewN | apply Kd.R_drew)); exact HO_11.out) hb); have n2_ := Aside0.mk (blk_below (g := gb101) (o := .cells #[.int .i64 a1_0, .int .i64 a1_1] 26 (0, 0)) (by (with_reducible repeat (first | refine blk_drewN ?_ _ | refine blk_drew ?_ | refine blk_alloc ?_ _)); exact BK101.out) hb); have n3_ := Aside0.mk (below_step (by repeat (first | (with_reducible first | exact HB.out | apply below_alloc | apply pw_below_drewN | apply below_drew1 | refine below_set ?_ GE101.out) | exact HB.out)) hb); clear HO_5; clear HO_11; clear BK101; clear HB; have HO_5 := n0_; have HO_11 := n1_; have BK101 := n2_; have HB := n3_; clear n0_ n1_ n2_ n3_; (try clear hb); (try clear hb2); (try clear hk); (try clear hi)))
                      go_ret
                      exact ⟨by first | rfl | (simp [errW_none, errW_some] <;> rfl) | (simp [*, errW_none, errW_some] <;> rfl), by repeat (first | (with_reducible first | exact HB.out | apply below_alloc | apply pw_below_drewN | apply below_drew1 | refine below_set ?_ GE101.out) | exact HB.out)⟩
      · rw [if_neg c8] at H
        exact absurd H (by simp)
    · rw [if_neg c7] at H
      exact absurd H (by simp)

end Go.Proofs.Ytmfdhcgdibefiaa.M

/- How an array of two is read. -/
namespace Go.Proofs.YtmfdhcgdibefiaaW.Open
open Go.RowKit Go.Proofs.YtmfdhcgdibefiaaW.PrintWords Go.ChangeShapes Go.WideShapes
set_option linter.unusedVariables false
theorem okWide_array {P : Program} {w : World} {r : Reach} {base : Nat} {t : TypeId} {v : Value} {n : Nat} {e : TypeId} (ht : P.underlying t = some (.array n e)) (h : Value.okWide P w r base t v) : ∃ cs, v = .agg cs ∧ cs.size = P.cellsOf t := by
  simp only [Value.okWide, ht] at h
  obtain ⟨cs, h1, h2, _⟩ := h
  exact ⟨cs, h1, h2⟩
theorem Opens.array2 {P : Program} {t e : TypeId} {α : Type} {k : Kd α} {wf : α → Prop} (ht : P.underlying t = some (.array 2 e)) (hc : P.cellsOf t = k.sz + k.sz) (h : Opens P e k wf) : Opens P t (Kd.pair k k) (fun x => wf x.1 ∧ wf x.2) := by
  refine ⟨hc, ?_⟩
  intro H enc W base spare held fuel cs d ps h1 hs
  obtain ⟨xs, m, _, hx, hl, hlen, hf⟩ := DataW.trod_array ht h1
  obtain ⟨rfl, rfl⟩ := Prod.mk.inj hx
  match xs, hlen with
  | [y, z], _ =>
    have f0 := hf 0 (by omega)
    have f1 := hf 1 (by omega)
    rw [h.sz] at f0 f1
    rw [Nat.zero_mul, List.drop_zero] at f0
    rw [Nat.one_mul, List.take_of_length_le (by rw [List.length_drop]; omega)] at f1
    have hw : ∀ n ∈ DataW.weightsAll P e [y.1, z.1], n ≤ reachBytes := fun n hn => hs n (by simpa [DataW.weights, ht] using hn)
    obtain ⟨a, ka, wa⟩ := h.K (d := y.1) (ps := y.2) f0 (fun n hn => hw n (by simp [DataW.weightsAll, hn]))
    obtain ⟨b, kb, wb⟩ := h.K (d := z.1) (ps := z.2) f1 (fun n hn => hw n (by simp [DataW.weightsAll, hn]))
    exact ⟨(a, b), ⟨cs.take k.sz, cs.drop k.sz, (List.take_append_drop _ _).symm, ka, kb⟩, wa, wb⟩
end Go.Proofs.YtmfdhcgdibefiaaW.Open

-- Written by wip/tools/row.py, a program of this session. Lean checks it.
namespace Go.Proofs.Ytmfdhcgdibefiaa.R
open Go.RowKit Go.Proofs.YtmfdhcgdibefiaaW.PrintWords Go.Proofs.YtmfdhcgdibefiaaW.Open Go.Proofs.Ytmfdhcgdibefiaa.Q
set_option linter.unusedVariables false
def wf26 (x : S26) : Prop := ((Lit.int .i64 x.f0).wf = true) ∧ ((Lit.int .i64 x.f1).wf = true)
theorem opens26 : Opens Try.prog 26 k26 wf26 := by
  refine (Opens.iso _ (fun x => (⟨x.1, x.2⟩ : S26)) (fun _ => rfl) (Opens.array2 Try.underlying26 (by kernel_rfl) (Opens.int Try.underlying2 (by kernel_rfl)))).imp ?_
  exact fun _ h => h
end Go.Proofs.Ytmfdhcgdibefiaa.R

-- Written by wip/tools/row.py, a program of this session. Lean checks it.
namespace Go.Proofs.Ytmfdhcgdibefiaa.M
open Go.RowKit Go.Proofs.YtmfdhcgdibefiaaW.PrintWords Go.Proofs.YtmfdhcgdibefiaaW.Open Go.Proofs.Ytmfdhcgdibefiaa.Q Go.Proofs.Ytmfdhcgdibefiaa.R
set_option linter.unusedVariables false

end Go.Proofs.Ytmfdhcgdibefiaa.M

/- forest.Kids: plain. -/
namespace Go.Proofs.Ytmfdhcgdibefiaa.L
open Go.RowKit Go.Proofs.Ytmfdhcgdibefiaa.Q Go.Proofs.YtmfdhcgdibefiaaW.PrintWords Go.Proofs.YtmfdhcgdibefiaaW.Lib
set_option linter.unusedVariables false

/-- Those of the first k places whose parent a place is. -/
def kidsL (ps : List Int) (x : Int) : Nat → List Int
  | 0 => []
  | k + 1 => if rd ps (k : Int) = x then kidsL ps x k ++ [(k : Int)] else kidsL ps x k
theorem kidsL_len (ps : List Int) (x : Int) : ∀ k, (kidsL ps x k).length ≤ k
  | 0 => Nat.le_refl _
  | k + 1 => by
    have := kidsL_len ps x k
    unfold kidsL
    split
    · rw [List.length_append, List.length_singleton]; omega
    · omega
theorem kidsL_mem (ps : List Int) (x y : Int) : ∀ k, y ∈ kidsL ps x k ↔ 0 ≤ y ∧ y < k ∧ rd ps y = x
  | 0 => by simp only [kidsL, List.not_mem_nil, false_iff]; omega
  | k + 1 => by
    have ih := kidsL_mem ps x y k
    unfold kidsL
    split
    · rename_i c
      rw [List.mem_append, List.mem_singleton, ih]
      constructor
      · rintro (h | h)
        · exact ⟨h.1, by omega, h.2.2⟩
        · rw [h]; exact ⟨by omega, by omega, c⟩
      · rintro ⟨h0, h1, h2⟩
        by_cases e : y = (k : Int)
        · exact .inr e
        · exact .inl ⟨h0, by omega, h2⟩
    · rename_i c
      rw [ih]
      constructor
      · rintro h
        exact ⟨h.1, by omega, h.2.2⟩
      · rintro ⟨h0, h1, h2⟩
        refine ⟨h0, ?_, h2⟩
        by_cases e : y = (k : Int)
        · rw [e] at h2; exact absurd h2 c
        · omega
theorem kids_ev (ps : List Int) (x : Int) (hl : ps.length ≤ 1000000) : Ev (fun k => forest_Kids.f k ps x) (kidsL ps x ps.length) := by
  unfold forest_Kids.f
  have key : ∀ (d i : Nat), ps.length - i = d → i ≤ ps.length → Ev (fun k => forest_Kids.l0 k x (kidsL ps x i) ps (ps.length : Int) (i : Int)) (kidsL ps x ps.length) := by
    intro d
    induction d with
    | zero =>
      intro i hd hi
      obtain rfl : i = ps.length := by omega
      refine Ev.succ ?_
      simp only [forest_Kids.l0]
      exact Ev.neg (by omega) (Ev.now _)
    | succ d ih =>
      intro i hd hi
      have hn := ih (i + 1) (by omega) (by omega)
      have hk := kidsL_len ps x i
      rw [show kidsL ps x (i + 1) = if rd ps (i : Int) = x then kidsL ps x i ++ [(i : Int)] else kidsL ps x i from rfl] at hn
      refine Ev.succ ?_
      simp only [forest_Kids.l0]
      rw [wrap_id (by omega) (by omega)]
      refine Ev.pos (by omega) (Ev.pos (by omega) (Ev.pos (by omega) (Ev.ite (fun c => Ev.pos (by omega) ?_) (fun c => ?_))))
      · rw [if_pos c] at hn
        exact hn
      · rw [if_neg c] at hn
        exact hn
  exact key ps.length 0 (by omega) (by omega)
end Go.Proofs.Ytmfdhcgdibefiaa.L

/- The document's May of many spans, plain. -/
namespace Go.Proofs.Ytmfdhcgdibefiaa.L
open Go.RowKit Go.Proofs.Ytmfdhcgdibefiaa.Q Go.Proofs.YtmfdhcgdibefiaaW.PrintWords Go.Proofs.YtmfdhcgdibefiaaW.PrintLast Go.Proofs.YtmfdhcgdibefiaaW.PrintMore Go.Proofs.YtmfdhcgdibefiaaW.Lib
set_option linter.unusedVariables false
end Go.Proofs.Ytmfdhcgdibefiaa.L

/- The document's Same of whole numbers, plain. -/
namespace Go.Proofs.Ytmfdhcgdibefiaa.L
open Go.RowKit Go.Proofs.Ytmfdhcgdibefiaa.Q Go.Proofs.YtmfdhcgdibefiaaW.PrintWords Go.Proofs.YtmfdhcgdibefiaaW.PrintLast Go.Proofs.YtmfdhcgdibefiaaW.PrintMore Go.Proofs.YtmfdhcgdibefiaaW.Lib
set_option linter.unusedVariables false

theorem same15_ev (a b : List Int) (ha : a.length ≤ 1000000000) : ∃ r, Ev (fun k => merkhetref15_Same.f k a b) r ∧ (r = true ↔ a = b) := by
  unfold merkhetref15_Same.f
  by_cases h : (a.length : Int) = (b.length : Int)
  · have key : ∀ (d i : Nat), a.length - i = d → i ≤ a.length → ∃ r, Ev (fun k => merkhetref15_Same.l0 k a b (i : Int)) r ∧ (r = true ↔ a.drop i = b.drop i) := by
      intro d
      induction d with
      | zero =>
        intro i hd hi
        refine ⟨true, Ev.succ ?_, ?_⟩
        · simp only [merkhetref15_Same.l0]
          exact Ev.neg (by omega) (Ev.now _)
        · rw [List.drop_of_length_le (by omega), List.drop_of_length_le (by omega)]
          simp
      | succ d ih =>
        intro i hd hi
        have hil : i < a.length := by omega
        have hib : i < b.length := by omega
        have hr : rd a (i : Int) = a[i] := by simp [rd, List.getD, hil]
        have hr2 : rd b (i : Int) = b[i] := by simp [rd, List.getD, hib]
        obtain ⟨r, h1, h2⟩ := ih (i + 1) (by omega) (by omega)
        have ea := List.drop_eq_getElem_cons hil
        have eb := List.drop_eq_getElem_cons hib
        by_cases e : a[i] = b[i]
        · refine ⟨r, Ev.succ ?_, ?_⟩
          · simp only [merkhetref15_Same.l0, hr, hr2]
            refine Ev.pos (by omega) (Ev.pos (by omega) (Ev.pos (by omega) (Ev.pos e ?_)))
            rw [wrap_id (by omega) (by omega)]
            exact h1
          · rw [h2, ea, eb, List.cons.injEq]
            exact ⟨fun h => ⟨e, h⟩, fun h => h.2⟩
        · refine ⟨false, Ev.succ ?_, ?_⟩
          · simp only [merkhetref15_Same.l0, hr, hr2]
            exact Ev.pos (by omega) (Ev.pos (by omega) (Ev.pos (by omega) (Ev.neg e (Ev.now _))))
          · rw [ea, eb, List.cons.injEq]
            exact ⟨fun h => absurd h (by simp), fun h => absurd h.1 e⟩
    obtain ⟨r, h1, h2⟩ := key a.length 0 (by omega) (by omega)
    exact ⟨r, Ev.pos h h1, by simpa using h2⟩
  · refine ⟨false, Ev.neg h (Ev.now _), ⟨by simp, ?_⟩⟩
    rintro rfl
    exact absurd rfl h
theorem same15_self (a : List Int) (ha : a.length ≤ 1000000000) : Ev (fun k => merkhetref15_Same.f k a a) true := by
  obtain ⟨r, h1, h2⟩ := same15_ev a a ha
  exact Ev.cast h1 (h2.2 rfl)
end Go.Proofs.Ytmfdhcgdibefiaa.L

-- Written by wip/tools/gp.py, a program of this session round the kit's printer. Lean checks it.
namespace Go.Proofs.Ytmfdhcgdibefiaa.R
open Go.RowKit Go.Proofs.Ytmfdhcgdibefiaa.Q Go.Proofs.YtmfdhcgdibefiaaW.PrintWords Go.Proofs.YtmfdhcgdibefiaaW.PrintLast Go.Proofs.YtmfdhcgdibefiaaW.PrintMore
attribute [local go_sem] max2_int min2_int max_two min_two max_three min_three max_four min_four   -- for this text's walks alone
set_option linter.unusedVariables false
set_option linter.unusedSimpArgs false
end Go.Proofs.Ytmfdhcgdibefiaa.R

-- Written by wip/tools/gp.py, a program of this session round the kit's printer. Lean checks it.
namespace Go.Proofs.Ytmfdhcgdibefiaa.R
open Go.RowKit Go.Proofs.Ytmfdhcgdibefiaa.Q Go.Proofs.YtmfdhcgdibefiaaW.PrintWords Go.Proofs.YtmfdhcgdibefiaaW.PrintLast Go.Proofs.YtmfdhcgdibefiaaW.PrintMore
attribute [local go_sem] max2_int min2_int max_two min_two max_three min_three max_four min_four   -- for this text's walks alone
set_option linter.unusedVariables false
set_option linter.unusedSimpArgs false
end Go.Proofs.Ytmfdhcgdibefiaa.R

/- Spans' own times, plain: the code's, and the document's. -/
namespace Go.Proofs.Ytmfdhcgdibefiaa.L
open Go.RowKit Go.Proofs.Ytmfdhcgdibefiaa.Q Go.Proofs.Ytmfdhcgdibefiaa.R Go.Proofs.YtmfdhcgdibefiaaW.PrintWords Go.Proofs.YtmfdhcgdibefiaaW.PrintLast Go.Proofs.YtmfdhcgdibefiaaW.PrintMore Go.Proofs.YtmfdhcgdibefiaaW.Lib
set_option linter.unusedVariables false

abbrev SpD := S37
abbrev StD := S26
def prS (s : StD) : Int × Int := (s.f0, s.f1)
/-- A kid's stretch within its parent's. -/
def kidS (l : List SpD) (i k : Int) : StD := ⟨mx (rd_T37 l k).f6 (rd_T37 l i).f6, mn (wrap64 ((rd_T37 l k).f6 + (rd_T37 l k).f7)) (wrap64 ((rd_T37 l i).f6 + (rd_T37 l i).f7))⟩
def kidsP (l : List SpD) (ps : List Int) (i : Int) : List StD := (kidsL ps i ps.length).map (kidS l i)
def ownAt (l : List SpD) (ps : List Int) (i : Int) : Int := wrap64 ((rd_T37 l i).f7 - wrap64 (coverN ((kidsP l ps i).map prS) : Int))
def ownR (l : List SpD) (ps : List Int) : List Int := (List.range l.length).map (fun i : Nat => ownAt l ps i)
def ownL (l : List SpD) (ps : List Int) : List Int × Bool := if l.length = ps.length ∧ rightB ps = true ∧ mayA l = true then (ownR l ps, true) else ([], false)
theorem ownR_len (l : List SpD) (ps : List Int) : (ownR l ps).length = l.length := by simp [ownR]
theorem ownR_next (l : List SpD) (ps : List Int) (i : Nat) (hi : i < l.length) : (ownR l ps).take (i + 1) = (ownR l ps).take i ++ [ownAt l ps i] := by
  rw [List.take_succ_eq_append_getElem (by rw [ownR_len]; exact hi)]
  simp [ownR]
theorem ownL_no {l : List SpD} {ps : List Int} (h : ¬ (l.length = ps.length ∧ rightB ps = true ∧ mayA l = true)) : ownL l ps = ([], false) := by unfold ownL; rw [if_neg h]
theorem not_anyM (l : List SpD) : l.any (fun s => !mayS s) = !mayA l := by
  unfold mayA
  induction l with
  | nil => rfl
  | cons x l ih => rw [List.any_cons, List.all_cons, ih, Bool.not_and]
theorem mayA_at {l : List SpD} (h : mayA l = true) {i : Int} (h0 : 0 ≤ i) (h1 : i < l.length) : 0 ≤ (rd_T37 l i).f6 ∧ (rd_T37 l i).f6 < 1125899906842624 ∧ 0 ≤ (rd_T37 l i).f7 ∧ (rd_T37 l i).f7 ≤ 1125899906842624 := by
  have hx : i.toNat < l.length := by omega
  have e : rd_T37 l i = l[i.toNat] := by simp [rd_T37, List.getD, hx]
  rw [e]
  exact mayB_le (List.all_eq_true.1 h _ (List.getElem_mem hx))
theorem kidS_in {l : List SpD} (h : mayA l = true) {i k : Int} (h0 : 0 ≤ i) (h1 : i < l.length) (h2 : 0 ≤ k) (h3 : k < l.length) : inI ((kidS l i k).f0, (kidS l i k).f1) ∧ (rd_T37 l i).f6 ≤ (kidS l i k).f0 ∧ (kidS l i k).f1 ≤ (rd_T37 l i).f6 + (rd_T37 l i).f7 := by
  have a := mayA_at h h0 h1
  have b := mayA_at h h2 h3
  unfold kidS inI loI hiI mx mn
  dsimp only
  rw [wrap_id (by omega) (by omega), wrap_id (by omega) (by omega)]
  split <;> split <;> omega
theorem kidsP_mem {l : List SpD} (h : mayA l = true) {ps : List Int} (hl : l.length = ps.length) {i : Int} (h0 : 0 ≤ i) (h1 : i < l.length) : ∀ s ∈ kidsP l ps i, inI (s.f0, s.f1) ∧ (rd_T37 l i).f6 ≤ s.f0 ∧ s.f1 ≤ (rd_T37 l i).f6 + (rd_T37 l i).f7 := by
  intro s hs
  obtain ⟨k, hk, rfl⟩ := List.mem_map.1 hs
  obtain ⟨k0, k1, _⟩ := (kidsL_mem ps i k ps.length).1 hk
  exact kidS_in h h0 h1 k0 (by omega)
set_option maxHeartbeats 1000000 in
theorem own_ev (l : List SpD) (ps : List Int) (hl : l.length ≤ 1000000) (hps : ps.length ≤ 1000000) (hf : ∀ s ∈ l, fitS s) : Ev (fun k => stats_Own.f k l ps) (ownL l ps) := by
  unfold stats_Own.f
  have skip : ownL l ps = ([], false) → Ev (fun k => stats_Own.j0 k l ps true) (ownL l ps) := by
    intro h
    rw [h]
    refine Ev.succ ?_
    simp only [stats_Own.j0]
    exact Ev.pos trivial (Ev.now _)
  refine Ev.ite (fun he => ?_) (fun he => skip (ownL_no (fun h => he (by omega))))
  refine Ev.bind (a := rightB ps) (Ev.const (by unfold parent_Right.f; rw [if_pos hps])) (Ev.ite (fun hr => ?_) (fun hr => skip (ownL_no (fun h => hr h.2.1))))
  refine Ev.bind (a := !mayA l) (Ev.const (by unfold stats_Own_1.f; rw [if_pos ⟨by omega, hf⟩, not_anyM])) ?_
  cases hm : mayA l with
  | false => exact skip (ownL_no (fun h => by rw [hm] at h; exact absurd h.2.2 (by simp)))
  | true =>
    have hlen : l.length = ps.length := by omega
    have hres : ownL l ps = (ownR l ps, true) := by unfold ownL; rw [if_pos ⟨hlen, hr, hm⟩]
    rw [hres]
    refine Ev.succ ?_
    simp only [stats_Own.j0, Bool.not_true]
    refine Ev.neg (by simp) ?_
    have outer : ∀ (d i : Nat), l.length - i = d → i ≤ l.length → Ev (fun k => stats_Own.l0 k l ps ((ownR l ps).take i) l (l.length : Int) (i : Int)) (ownR l ps, true) := by
      intro d
      induction d with
      | zero =>
        intro i hd hi
        refine Ev.succ ?_
        simp only [stats_Own.l0]
        refine Ev.neg (by omega) (Ev.cast (Ev.now _) ?_)
        rw [List.take_of_length_le (by rw [ownR_len]; omega)]
      | succ d ih =>
        intro i hd hi
        have hlt : i < l.length := by omega
        have hn := ih (i + 1) (by omega) (by omega)
        rw [ownR_next l ps i hlt] at hn
        have htl : ((ownR l ps).take i).length ≤ l.length := by rw [List.length_take, ownR_len]; omega
        have hkl := kidsL_len ps (i : Int) ps.length
        have hpl : (kidsP l ps (i : Int)).length = (kidsL ps (i : Int) ps.length).length := by simp [kidsP]
        have hkm := kidsP_mem hm hlen (i := (i : Int)) (by omega) (by omega)
        generalize hsp : rd_T37 l (i : Int) = s at *
        have inner : ∀ (e j : Nat), (kidsL ps (i : Int) ps.length).length - j = e → j ≤ (kidsL ps (i : Int) ps.length).length → Ev (fun k => stats_Own.l1 k l ps ((ownR l ps).take i) ((kidsP l ps (i : Int)).take j) l (l.length : Int) (i : Int) (kidsL ps (i : Int) ps.length) ((kidsL ps (i : Int) ps.length).length : Int) (j : Int) s.f0 s.f1 s.f2 s.f3 s.f4 s.f5 s.f6 s.f7) (ownR l ps, true) := by
          intro e
          induction e with
          | zero =>
            intro j hj1 hj2
            refine Ev.succ ?_
            simp only [stats_Own.l1]
            refine Ev.neg (by omega) ?_
            rw [List.take_of_length_le (show (kidsP l ps (i : Int)).length ≤ j by omega)]
            refine Ev.bind (a := (coverN ((kidsP l ps (i : Int)).map prS) : Int)) (Ev.const (by unfold stats_Cover.f; rw [if_pos ⟨by omega, fun t ht => (hkm t ht).1⟩]; rfl)) (Ev.pos (by omega) ?_)
            rw [wrap_id (i := (i : Int) + 1) (by omega) (by omega)]
            have hoa : ownAt l ps (i : Int) = wrap64 (s.f7 - wrap64 (coverN ((kidsP l ps (i : Int)).map prS) : Int)) := by unfold ownAt; rw [hsp]
            rw [← hoa]
            exact hn
          | succ e ihe =>
            intro j hj1 hj2
            have hjl : j < (kidsL ps (i : Int) ps.length).length := by omega
            have hn2 := ihe (j + 1) (by omega) (by omega)
            have hr2 : rd (kidsL ps (i : Int) ps.length) (j : Int) = (kidsL ps (i : Int) ps.length)[j] := by simp [rd, List.getD, hjl]
            obtain ⟨k0, k1, _⟩ := (kidsL_mem ps (i : Int) _ ps.length).1 (List.getElem_mem hjl)
            have htk : (kidsP l ps (i : Int)).take (j + 1) = (kidsP l ps (i : Int)).take j ++ [kidS l (i : Int) (kidsL ps (i : Int) ps.length)[j]] := by
              rw [List.take_succ_eq_append_getElem (by omega)]
              simp [kidsP]
            have hks : kidS l (i : Int) (kidsL ps (i : Int) ps.length)[j] = ⟨mx (rd_T37 l (kidsL ps (i : Int) ps.length)[j]).f6 s.f6, mn (wrap64 ((rd_T37 l (kidsL ps (i : Int) ps.length)[j]).f6 + (rd_T37 l (kidsL ps (i : Int) ps.length)[j]).f7)) (wrap64 (s.f6 + s.f7))⟩ := by unfold kidS; rw [hsp]
            rw [htk, hks] at hn2
            have hl9 : ((kidsP l ps (i : Int)).take j).length ≤ ps.length := by rw [List.length_take]; omega
            refine Ev.succ ?_
            simp only [stats_Own.l1, hr2]
            refine Ev.pos (by omega) (Ev.pos (by omega) (Ev.pos (by omega) (Ev.pos k0 (Ev.pos (by omega) (Ev.pos (by omega) ?_)))))
            rw [wrap_id (i := (j : Int) + 1) (by omega) (by omega)]
            exact hn2
        refine Ev.succ ?_
        simp only [stats_Own.l0, hsp]
        exact Ev.pos (by omega) (Ev.pos (by omega) (Ev.pos (by omega) (Ev.bind (kids_ev ps (i : Int) hps) (inner _ 0 rfl (by omega)))))
    exact outer l.length 0 (by omega) (by omega)
end Go.Proofs.Ytmfdhcgdibefiaa.L

/- Spans' rows, read at a place. -/
namespace Go.Proofs.Ytmfdhcgdibefiaa.L
open Go.RowKit Go.Proofs.Ytmfdhcgdibefiaa.Q Go.Proofs.YtmfdhcgdibefiaaW.PrintWords
set_option linter.unusedVariables false
end Go.Proofs.Ytmfdhcgdibefiaa.L

/- The guard of layer 4, as plain lists. -/
namespace Go.Proofs.Ytmfdhcgdibefiaa.L
open Go.RowKit Go.Proofs.Ytmfdhcgdibefiaa.Q Go.Proofs.YtmfdhcgdibefiaaW.PrintWords Go.Proofs.YtmfdhcgdibefiaaW.PrintLast Go.Proofs.YtmfdhcgdibefiaaW.PrintMore Go.Proofs.YtmfdhcgdibefiaaW.Lib
set_option linter.unusedVariables false
end Go.Proofs.Ytmfdhcgdibefiaa.L

/- The document's own times, plain; the chapter's example. -/
namespace Go.Proofs.Ytmfdhcgdibefiaa.L
open Go.RowKit Go.Proofs.Ytmfdhcgdibefiaa.Q Go.Proofs.Ytmfdhcgdibefiaa.R Go.Proofs.YtmfdhcgdibefiaaW.PrintWords Go.Proofs.YtmfdhcgdibefiaaW.PrintLast Go.Proofs.YtmfdhcgdibefiaaW.PrintMore Go.Proofs.YtmfdhcgdibefiaaW.Lib
set_option linter.unusedVariables false
def exO : List SpD := [⟨1, 1, 0, 0, ⟨#[97]⟩, ⟨#[98]⟩, 0, 10⟩, ⟨1, 2, 0, 0, ⟨#[97]⟩, ⟨#[98]⟩, 2, 2⟩, ⟨1, 3, 0, 0, ⟨#[97]⟩, ⟨#[98]⟩, 3, 9⟩]
theorem cover_ex {l : List (Int × Int)} (hi : ∀ s ∈ l, inI s) (hp : l.Pairwise (fun a b => a.1 ≤ b.1)) {n : Int} (h : (l.foldl covStep (0, loI)).1 = n) : (coverN l : Int) = n := (fold_cover hi hp).symm.trans h
theorem exO_own : ownL exO [-1, 0, 0] = ([2, 2, 9], true) := by
  unfold ownL
  rw [if_pos ⟨rfl, by decide, by decide⟩]
  have k0 : (kidsP exO [-1, 0, 0] 0).map prS = [(2, 4), (3, 10)] := by kernel_rfl
  have k1 : (kidsP exO [-1, 0, 0] 1).map prS = [] := by kernel_rfl
  have k2 : (kidsP exO [-1, 0, 0] 2).map prS = [] := by kernel_rfl
  have c0 : (coverN [(2, 4), (3, 10)] : Int) = 8 := cover_ex (by decide) (by decide) (by decide)
  have c1 : (coverN [] : Int) = 0 := cover_ex (by decide) (by decide) (by decide)
  have e : ownR exO [-1, 0, 0] = [ownAt exO [-1, 0, 0] 0, ownAt exO [-1, 0, 0] 1, ownAt exO [-1, 0, 0] 2] := rfl
  rw [e]
  unfold ownAt
  rw [k0, k1, k2, c0, c1, show (rd_T37 exO 0).f7 = 10 from rfl, show (rd_T37 exO 1).f7 = 2 from rfl, show (rd_T37 exO 2).f7 = 9 from rfl]
  rw [show wrap64 (10 - wrap64 8) = 2 by unfold wrap64; omega, show wrap64 (2 - wrap64 0) = 2 by unfold wrap64; omega, show wrap64 (9 - wrap64 0) = 9 by unfold wrap64; omega]
theorem fixed27 : Ev (fun k => merkhetlaw27_fixed.f k) true := by
  unfold merkhetlaw27_fixed.f merkhetlaw27_fixed_1.f
  refine Ev.bind (Ev.now _) (Ev.bind (Ev.now _) (Ev.bind (Ev.now _) ?_))
  refine Ev.bind (a := ownL exO [-1, 0, 0]) (own_ev exO [-1, 0, 0] (by decide) (by decide) (by decide)) ?_
  rw [exO_own]
  have c : (coverN [(1, 5), (3, 8)] : Int) = 7 := cover_ex (by decide) (by decide) (by decide)
  refine Ev.bind (a := 7) (Ev.const (by unfold stats_Cover.f; rw [if_pos ⟨by decide, by decide⟩]; exact congrArg some c)) (Ev.pos rfl (Ev.pos rfl (Ev.bind (same15_self _ (by decide)) (Ev.now _))))
end Go.Proofs.Ytmfdhcgdibefiaa.L

/- StatsMore, the plain part: what stretches cover, turned round, and with one more. -/
namespace Go.Proofs.Ytmfdhcgdibefiaa.Pure
set_option linter.unusedVariables false
open Go.RowKit Go.Proofs.Ytmfdhcgdibefiaa.Q Go.Proofs.Ytmfdhcgdibefiaa.R Go.Proofs.Ytmfdhcgdibefiaa.M Go.Proofs.YtmfdhcgdibefiaaW.PrintWords Go.Proofs.YtmfdhcgdibefiaaW.PrintLast Go.Proofs.YtmfdhcgdibefiaaW.PrintMore Go.Proofs.YtmfdhcgdibefiaaW.Lib Go.Proofs.Ytmfdhcgdibefiaa.L

theorem st_in {s : StD} (h : wf26 s) : inI (s.f0, s.f1) := by
  have a := wf_i64 h.1
  have b := wf_i64 h.2
  unfold inI loI hiI
  dsimp only
  omega
theorem rd_at {l : List StD} {i : Nat} (h : i < l.length) : rd_T26 l (i : Int) = l[i] := by simp [rd_T26, List.getD, h]
/-- Within 2^56. -/
def near (s : StD) : Prop := -72057594037927936 ≤ s.f0 ∧ s.f0 ≤ 72057594037927936 ∧ -72057594037927936 ≤ s.f1 ∧ s.f1 ≤ 72057594037927936
/-- A stretch's length. -/
def lenS (s : StD) : Nat := (s.f1 - s.f0).toNat
def sumS (l : List StD) : Nat := (l.map lenS).sum
def maxS (l : List StD) : Nat := l.foldl (fun m s => max m (lenS s)) 0
theorem len_wrap {a b : Int} (h0 : -72057594037927936 ≤ a) (h1 : a ≤ 72057594037927936) (h2 : -72057594037927936 ≤ b) (h3 : b ≤ 72057594037927936) : IntKind.u64.wrap (mx (wrap64 (b - a)) 0) = ((b - a).toNat : Int) ∧ ((b - a).toNat : Int) ≤ 144115188075855872 := by
  rw [wrap_id (by omega) (by omega)]
  have hw : ∀ x : Int, IntKind.u64.wrap x = x % 18446744073709551616 := fun x => by simp [IntKind.wrap, IntKind.signed, IntKind.bits]
  rw [hw]
  unfold mx
  split <;> omega
theorem sumS_snoc (l : List StD) (s : StD) : sumS (l ++ [s]) = sumS l + lenS s := by simp [sumS]
theorem maxS_snoc (l : List StD) (s : StD) : maxS (l ++ [s]) = max (maxS l) (lenS s) := by simp [maxS]
theorem sumS_le {l : List StD} (h : ∀ s ∈ l, near s) : sumS l ≤ l.length * 144115188075855872 := by
  induction l with
  | nil => simp [sumS]
  | cons s l ih =>
    have h1 := ih (fun t ht => h t (List.mem_cons_of_mem _ ht))
    have h2 := h s (List.mem_cons_self ..)
    have e : sumS (s :: l) = lenS s + sumS l := by simp [sumS]
    rw [e, List.length_cons, Nat.add_mul]
    unfold near at h2
    have : lenS s ≤ 144115188075855872 := by unfold lenS; omega
    omega
theorem maxS_mem : ∀ (l : List StD) (m : Nat), l.foldl (fun m s => max m (lenS s)) m = m ∨ ∃ s ∈ l, l.foldl (fun m s => max m (lenS s)) m = lenS s
  | [], m => .inl rfl
  | s :: l, m => by
    rw [List.foldl_cons]
    rcases maxS_mem l (max m (lenS s)) with h | ⟨t, ht, h⟩
    · by_cases c : m ≤ lenS s
      · exact .inr ⟨s, List.mem_cons_self .., by omega⟩
      · exact .inl (by omega)
    · exact .inr ⟨t, List.mem_cons_of_mem _ ht, h⟩
theorem StatsMore (l0 : List (S26)) (x1 : S26) (w0 : (l0.length ≤ maxLen ∧ l0.length * 16 ≤ reachBytes ∧ ∀ x ∈ l0, wf26 x)) (w1 : wf26 x1) : ∃ k, merkhetlaw27_StatsMore.f k l0 x1.f0 x1.f1 = some true := by
  obtain ⟨_, _, hw⟩ := w0
  have hin0 : ∀ s ∈ l0, inI (s.f0, s.f1) := fun s hs => st_in (hw s hs)
  have hin : ∀ s ∈ l0 ++ [x1], inI (s.f0, s.f1) := by
    intro s hs
    rcases List.mem_append.1 hs with h | h
    · exact hin0 s h
    · rw [List.mem_singleton.1 h]; exact st_in w1
  refine Ev.rounds (g := fun k => merkhetlaw27_StatsMore.f k l0 x1.f0 x1.f1) ?_
  unfold merkhetlaw27_StatsMore.f
  refine Ev.ite (fun h => Ev.bind fixed27 (Ev.now _)) (fun h => ?_)
  have hlen : l0.length ≤ 60 := by omega
  have hal : (l0 ++ [x1]).length = l0.length + 1 := by simp
  -- the end: all rounds behind
  have fin : ∀ tot lon : Int, (∀ s ∈ l0 ++ [x1], near s) → tot = (sumS (l0 ++ [x1]) : Int) → lon = (maxS (l0 ++ [x1]) : Int) → Ev (fun k => merkhetlaw27_StatsMore.l1 k l0 (l0 ++ [x1]) tot lon (l0 ++ [x1]).reverse (-1) x1.f0 x1.f1) true := by
    intro tot lon hnear ht hl
    have hr : ∀ s ∈ (l0 ++ [x1]).reverse, inI (s.f0, s.f1) := fun s hs => hin s (List.mem_reverse.1 hs)
    have e1 : coverN ((l0 ++ [x1]).reverse.map fun s => (s.f0, s.f1)) = coverN ((l0 ++ [x1]).map fun s => (s.f0, s.f1)) := coverN_congr (fun s => by rw [List.map_reverse, List.mem_reverse])
    have hin2 : ∀ s ∈ (l0 ++ [x1]).map (fun s => (s.f0, s.f1)), inI s := mapI hin
    have b1 : coverN ((l0 ++ [x1]).map fun s => (s.f0, s.f1)) ≤ sumS (l0 ++ [x1]) := by
      have h := coverN_total hin2
      rw [List.map_map] at h
      exact h
    have b2 : maxS (l0 ++ [x1]) ≤ coverN ((l0 ++ [x1]).map fun s => (s.f0, s.f1)) := by
      rcases maxS_mem (l0 ++ [x1]) 0 with h | ⟨s, hs, h⟩
      · unfold maxS; rw [h]; exact Nat.zero_le _
      · unfold maxS; rw [h]
        exact coverN_longest hin2 (s := (s.f0, s.f1)) (List.mem_map.2 ⟨s, hs, rfl⟩)
    have b3 : coverN (l0.map fun s => (s.f0, s.f1)) ≤ coverN ((l0 ++ [x1]).map fun s => (s.f0, s.f1)) := coverN_mono (fun s hs => by rw [List.map_append]; exact List.mem_append_left _ hs)
    have b4 : coverN ((l0 ++ [x1]).map fun s => (s.f0, s.f1)) ≤ coverN (l0.map fun s => (s.f0, s.f1)) + (x1.f1 - x1.f0).toNat := by
      rw [List.map_append]
      refine Nat.le_trans (coverN_append _ _) ?_
      have e1 : ([x1].map fun s : StD => (s.f0, s.f1)) = [(x1.f0, x1.f1)] := rfl
      have : coverN [(x1.f0, x1.f1)] = (x1.f1 - x1.f0).toNat := coverN_one (s := (x1.f0, x1.f1)) (st_in w1)
      rw [e1]
      omega
    have hn1 := hnear x1 (by simp)
    obtain ⟨hx1, hx2⟩ := len_wrap hn1.1 hn1.2.1 hn1.2.2.1 hn1.2.2.2
    have hlt := coverN_lt ((l0 ++ [x1]).map fun s => (s.f0, s.f1))
    have hs1 : stats_Cover.f (l0 ++ [x1]) = some (coverN ((l0 ++ [x1]).map fun s => (s.f0, s.f1)) : Int) := by unfold stats_Cover.f; rw [if_pos ⟨by omega, hin⟩]
    have hs0 : stats_Cover.f l0 = some (coverN (l0.map fun s => (s.f0, s.f1)) : Int) := by unfold stats_Cover.f; rw [if_pos ⟨by omega, hin0⟩]
    have hs2 : stats_Cover.f (l0 ++ [x1]).reverse = some (coverN ((l0 ++ [x1]).map fun s => (s.f0, s.f1)) : Int) := by unfold stats_Cover.f; rw [if_pos ⟨by rw [List.length_reverse]; omega, hr⟩, e1]
    generalize coverN ((l0 ++ [x1]).map fun s => (s.f0, s.f1)) = cA at *
    generalize coverN (l0.map fun s => (s.f0, s.f1)) = cB at *
    generalize sumS (l0 ++ [x1]) = sA at *
    generalize maxS (l0 ++ [x1]) = mA at *
    have hu : IntKind.u64.wrap ((cA : Int) - (cB : Int)) = (cA : Int) - (cB : Int) := by
      have hw : ∀ x : Int, IntKind.u64.wrap x = x % 18446744073709551616 := fun x => by simp [IntKind.wrap, IntKind.signed, IntKind.bits]
      rw [hw]
      omega
    refine Ev.succ ?_
    simp only [merkhetlaw27_StatsMore.l1]
    rw [hx1]
    refine Ev.neg (by omega) (Ev.bind (a := (cA : Int)) (Ev.const hs1) (Ev.bind (a := (cB : Int)) (Ev.const hs0) (Ev.bind fixed27 (Ev.pos rfl (Ev.bind (a := (cA : Int)) (Ev.const hs2) ?_)))))
    rw [hu]
    refine Ev.pos rfl (Ev.pos (by omega) (Ev.pos (by omega) (Ev.pos (by omega) (Ev.cast (Ev.now _) ?_))))
    exact decide_eq_true (by omega)
  -- the turn: from the last one on
  have turn : ∀ tot lon : Int, (∀ s ∈ l0 ++ [x1], near s) → tot = (sumS (l0 ++ [x1]) : Int) → lon = (maxS (l0 ++ [x1]) : Int) → ∀ (d : Nat), d ≤ (l0 ++ [x1]).length → Ev (fun k => merkhetlaw27_StatsMore.l1 k l0 (l0 ++ [x1]) tot lon ((l0 ++ [x1]).drop d).reverse ((d : Int) - 1) x1.f0 x1.f1) true := by
    intro tot lon hnear ht hl d
    induction d with
    | zero =>
      intro _
      rw [List.drop_zero]
      exact fin tot lon hnear ht hl
    | succ d ih =>
      intro hd
      have hlt : d < (l0 ++ [x1]).length := by omega
      have hr : rd_T26 (l0 ++ [x1]) (d : Int) = (l0 ++ [x1])[d] := rd_at hlt
      have hn := ih (by omega)
      have e : ((l0 ++ [x1]).drop d).reverse = ((l0 ++ [x1]).drop (d + 1)).reverse ++ [(l0 ++ [x1])[d]] := by
        rw [List.drop_eq_getElem_cons hlt, List.reverse_cons]
      rw [e] at hn
      have hx : (((d + 1 : Nat) : Int) - 1) = (d : Int) := by omega
      rw [hx]
      have hdl : ((l0 ++ [x1]).drop (d + 1)).reverse.length ≤ 61 := by rw [List.length_reverse, List.length_drop]; omega
      refine Ev.succ ?_
      simp only [merkhetlaw27_StatsMore.l1, hr]
      refine Ev.pos (by omega) (Ev.pos (by omega) (Ev.pos (by omega) (Ev.bind (Ev.now _) (Ev.pos (by rw [List.length_singleton]; omega) ?_))))
      rw [wrap_id (by omega) (by omega)]
      exact hn
  -- the sums
  have sums : ∀ (d j : Nat), (l0 ++ [x1]).length - j = d → j ≤ (l0 ++ [x1]).length → (∀ s ∈ (l0 ++ [x1]).take j, near s) → Ev (fun k => merkhetlaw27_StatsMore.l0 k l0 (l0 ++ [x1]) (sumS ((l0 ++ [x1]).take j) : Int) (maxS ((l0 ++ [x1]).take j) : Int) (l0 ++ [x1]) ((l0 ++ [x1]).length : Int) (j : Int) x1.f0 x1.f1) true := by
    intro d
    induction d with
    | zero =>
      intro j hd hj hnear
      rw [List.take_of_length_le (show (l0 ++ [x1]).length ≤ j by omega)] at hnear ⊢
      refine Ev.succ ?_
      simp only [merkhetlaw27_StatsMore.l0]
      refine Ev.neg (by omega) ?_
      rw [wrap_id (by omega) (by omega)]
      have h := turn _ _ hnear rfl rfl (l0 ++ [x1]).length (Nat.le_refl _)
      rw [List.drop_of_length_le (Nat.le_refl _)] at h
      exact h
    | succ d ih =>
      intro j hd hj hnear
      have hlt : j < (l0 ++ [x1]).length := by omega
      have hr : rd_T26 (l0 ++ [x1]) (j : Int) = (l0 ++ [x1])[j] := rd_at hlt
      generalize hs : (l0 ++ [x1])[j] = s at *
      have out : ∀ (t6 t7 : Int), Ev (fun k => merkhetlaw27_StatsMore.j1 k l0 (l0 ++ [x1]) t6 t7 (l0 ++ [x1]) ((l0 ++ [x1]).length : Int) (j : Int) true x1.f0 x1.f1 s.f0 s.f1) true := by
        intro t6 t7
        refine Ev.succ ?_
        simp only [merkhetlaw27_StatsMore.j1]
        exact Ev.pos trivial (Ev.bind fixed27 (Ev.now _))
      refine Ev.succ ?_
      simp only [merkhetlaw27_StatsMore.l0, hr]
      refine Ev.pos (by omega) (Ev.pos (by omega) (Ev.pos (by omega) (Ev.ite (fun g => out _ _) (fun g1 => Ev.ite (fun g => out _ _) (fun g2 => Ev.ite (fun g => out _ _) (fun g3 => ?_))))))
      by_cases g4 : s.f1 < -72057594037927936
      · rw [decide_eq_true g4]; exact out _ _
      · rw [decide_eq_false g4]
        have hns : near s := ⟨by omega, by omega, by omega, by omega⟩
        obtain ⟨hx1, hx2⟩ := len_wrap hns.1 hns.2.1 hns.2.2.1 hns.2.2.2
        have hn := ih (j + 1) (by omega) (by omega) (by
          intro t ht
          rw [List.take_succ_eq_append_getElem hlt, hs] at ht
          rcases List.mem_append.1 ht with h | h
          · exact hnear t h
          · rw [List.mem_singleton.1 h]; exact hns)
        rw [List.take_succ_eq_append_getElem hlt, hs, sumS_snoc, maxS_snoc] at hn
        have hsum := sumS_le hnear
        have hjl : ((l0 ++ [x1]).take j).length ≤ 61 := by rw [List.length_take]; omega
        have hle : lenS s = (s.f1 - s.f0).toNat := rfl
        have hw : ∀ x : Int, IntKind.u64.wrap x = x % 18446744073709551616 := fun x => by simp [IntKind.wrap, IntKind.signed, IntKind.bits]
        have hs6 : IntKind.u64.wrap ((sumS ((l0 ++ [x1]).take j) : Int) + ((s.f1 - s.f0).toNat : Int)) = ((sumS ((l0 ++ [x1]).take j) + lenS s : Nat) : Int) := by
          rw [hw, hle]
          have : sumS ((l0 ++ [x1]).take j) ≤ 61 * 144115188075855872 := Nat.le_trans hsum (Nat.mul_le_mul_right _ hjl)
          omega
        have hs7 : mx (maxS ((l0 ++ [x1]).take j) : Int) ((s.f1 - s.f0).toNat : Int) = ((max (maxS ((l0 ++ [x1]).take j)) (lenS s) : Nat) : Int) := by
          rw [hle]
          unfold mx
          split <;> omega
        refine Ev.succ ?_
        simp only [merkhetlaw27_StatsMore.j1]
        refine Ev.neg (by simp) ?_
        rw [hx1, hs6, hs7, wrap_id (i := (j : Int) + 1) (by omega) (by omega)]
        exact hn
  refine Ev.bind (Ev.now _) (Ev.pos (by have e_ : ([] : List StD).length = 0 := rfl; omega) (Ev.bind (Ev.now _) (Ev.bind (Ev.now _) (Ev.pos (by rw [List.nil_append, List.length_singleton]; omega) (Ev.bind (Ev.now _) ?_)))))
  exact sums (l0 ++ [x1]).length 0 (by omega) (by omega) (fun s hs => by simp at hs)
end Go.Proofs.Ytmfdhcgdibefiaa.Pure

