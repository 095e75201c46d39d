/- Texts joined by wip/tools/merge.py: Ox1 Arr2 ROpens OOpens KidR May18 Ref15 OwnL SpanN RefG OwnM ParR PureStatsOwn. -/
import Derived.Test.YtmfdhcgdibefiaaJStatsOwn25
import Derived.Test.YtmfdhcgdibefiaaJStatsOwn24
import Derived.Test.YtmfdhcgdibefiaaJStatsOwn26
import Derived.Test.YtmfdhcgdibefiaaJStatsOwn27
import Derived.KernelRfl
import Derived.Test.YtmfdhcgdibefiaaJStatsOwn22
-- Written by wip/tools/gp.py, a program of this session round the kit's printer. Lean checks it.
namespace Go.Proofs.Ytmfdhcgdibefiaa.O
open Go.RowKit Go.Proofs.Ytmfdhcgdibefiaa.Q Go.Proofs.Ytmfdhcgdibefiaa.R Go.Proofs.YtmfdhcgdibefiaaW.PrintWords Go.Proofs.YtmfdhcgdibefiaaW.PrintLast Go.Proofs.YtmfdhcgdibefiaaW.PrintMore
attribute [local go_sem] max2_int min2_int max_two min_two max_three min_three max_four min_four   -- for this text's walks alone
set_option linter.unusedVariables false
set_option linter.unusedSimpArgs false

/-! ### merkhetlaw27_StatsOwn: function 4 -/
mutual
def merkhetlaw27_StatsOwn.j0 : Nat → List (S37) → List Int → Bool → Option (Bool)
  | 0, _, _, _ => none
  | k + 1, x0, x1, x21 => if x21 = true then ((merkhetlaw27_fixed.f k).bind fun t102 => (some t102)) else ((stats_Own.f k x0 x1).bind fun bt103 => ((merkhetref27_Own.f k x0 x1).bind fun bt107 => ((merkhetref10_Of.f k x0).bind fun t111 => ((stats_Own.f k x0 t111).bind fun bt114 => ((merkhetref10_Of.f k x0).bind fun t118 => ((merkhetref27_Own.f k x0 t118).bind fun bt121 => ((merkhetref15_Same.f k bt103.1 bt107.1).bind fun t125 => (if t125 = true then (if (bt103.2 != bt107.2) = true then (merkhetlaw27_StatsOwn.j1 k x0 bt103.1 true) else ((merkhetref15_Same.f k bt114.1 bt121.1).bind fun t126 => (if t126 = true then (merkhetlaw27_StatsOwn.j1 k x0 bt103.1 (bt114.2 != bt121.2)) else (merkhetlaw27_StatsOwn.j1 k x0 bt103.1 true)))) else (merkhetlaw27_StatsOwn.j1 k x0 bt103.1 true)))))))))
def merkhetlaw27_StatsOwn.j1 : Nat → List (S37) → List Int → Bool → Option (Bool)
  | 0, _, _, _ => none
  | k + 1, x0, x5, x68 => if x68 = true then (some false) else (merkhetlaw27_StatsOwn.l0 k x0 x5 (x5.length : Int) 0)
def merkhetlaw27_StatsOwn.l0 : Nat → List (S37) → List Int → Int → Int → Option (Bool)
  | 0, _, _, _, _ => none
  | k + 1, x0, x69, x70, x71 => if x71 < x70 then (if 0 ≤ x71 then (if x71 < (x69.length : Int) then (if (rd x69 x71) < 0 then (some false) else (if x71 < (x0.length : Int) then (if (rd x69 x71) > ((rd_T37 x0 x71).f7) then (some false) else (merkhetlaw27_StatsOwn.l0 k x0 x69 x70 (wrap64 (x71 + 1)))) else (none))) else (none)) else (none)) else ((merkhetlaw27_fixed.f k).bind fun t127 => (some t127))
end
def merkhetlaw27_StatsOwn.f (k : Nat) (l0 : List (S37)) (l1 : List Int) : Option (Bool) := (merkhetlaw04_Great.f k l0).bind fun t101 => (if t101 = true then (merkhetlaw27_StatsOwn.j0 k l0 l1 true) else (merkhetlaw27_StatsOwn.j0 k l0 l1 (decide ((l1.length : Int) > 60))))
theorem merkhetlaw27_StatsOwn.mono_l : ∀ k, (∀ y0 y1 y2, LeO (merkhetlaw27_StatsOwn.j0 k y0 y1 y2) (merkhetlaw27_StatsOwn.j0 (k + 1) y0 y1 y2)) ∧ (∀ y0 y1 y2, LeO (merkhetlaw27_StatsOwn.j1 k y0 y1 y2) (merkhetlaw27_StatsOwn.j1 (k + 1) y0 y1 y2)) ∧ (∀ y0 y1 y2 y3, LeO (merkhetlaw27_StatsOwn.l0 k y0 y1 y2 y3) (merkhetlaw27_StatsOwn.l0 (k + 1) y0 y1 y2 y3))
  | 0 => ⟨fun _ _ _ r h => by simp [merkhetlaw27_StatsOwn.j0] at h, fun _ _ _ r h => by simp [merkhetlaw27_StatsOwn.j1] at h, fun _ _ _ _ r h => by simp [merkhetlaw27_StatsOwn.l0] at h⟩
  | k + 1 => by
    obtain ⟨ih0, ih1, ih2⟩ := merkhetlaw27_StatsOwn.mono_l k
    refine ⟨?_, ?_, ?_⟩
    · intro y0 y1 y2
      unfold merkhetlaw27_StatsOwn.j0
      repeat' first
      | (with_reducible exact ih0 _ _ _)
      | (with_reducible exact ih1 _ _ _)
      | (with_reducible exact ih2 _ _ _ _)
      | (with_reducible exact merkhetlaw04_Great.mono _ _)
      | (with_reducible exact merkhetlaw27_fixed.mono _)
      | (with_reducible exact merkhetref10_Of.mono _ _)
      | (with_reducible exact merkhetref15_Same.mono _ _ _)
      | (with_reducible exact merkhetref27_Own.mono _ _ _)
      | (with_reducible exact stats_Own.mono _ _ _)
      | (with_reducible exact LeO.refl _)
      | (with_reducible exact LeO.none _)
      | (with_reducible refine LeO.ite ?_ ?_)
      | (with_reducible refine LeO.bind ?_ (fun _ => ?_))
      | exact ih0 _ _ _
      | exact ih1 _ _ _
      | exact ih2 _ _ _ _
      | exact merkhetlaw04_Great.mono _ _
      | exact merkhetlaw27_fixed.mono _
      | exact merkhetref10_Of.mono _ _
      | exact merkhetref15_Same.mono _ _ _
      | exact merkhetref27_Own.mono _ _ _
      | exact stats_Own.mono _ _ _
      | exact LeO.none _
      | refine LeO.ite ?_ ?_
      | refine LeO.bind ?_ (fun _ => ?_)
    · intro y0 y1 y2
      unfold merkhetlaw27_StatsOwn.j1
      repeat' first
      | (with_reducible exact ih0 _ _ _)
      | (with_reducible exact ih1 _ _ _)
      | (with_reducible exact ih2 _ _ _ _)
      | (with_reducible exact merkhetlaw04_Great.mono _ _)
      | (with_reducible exact merkhetlaw27_fixed.mono _)
      | (with_reducible exact merkhetref10_Of.mono _ _)
      | (with_reducible exact merkhetref15_Same.mono _ _ _)
      | (with_reducible exact merkhetref27_Own.mono _ _ _)
      | (with_reducible exact stats_Own.mono _ _ _)
      | (with_reducible exact LeO.refl _)
      | (with_reducible exact LeO.none _)
      | (with_reducible refine LeO.ite ?_ ?_)
      | (with_reducible refine LeO.bind ?_ (fun _ => ?_))
      | exact ih0 _ _ _
      | exact ih1 _ _ _
      | exact ih2 _ _ _ _
      | exact merkhetlaw04_Great.mono _ _
      | exact merkhetlaw27_fixed.mono _
      | exact merkhetref10_Of.mono _ _
      | exact merkhetref15_Same.mono _ _ _
      | exact merkhetref27_Own.mono _ _ _
      | exact stats_Own.mono _ _ _
      | exact LeO.none _
      | refine LeO.ite ?_ ?_
      | refine LeO.bind ?_ (fun _ => ?_)
    · intro y0 y1 y2 y3
      unfold merkhetlaw27_StatsOwn.l0
      repeat' first
      | (with_reducible exact ih0 _ _ _)
      | (with_reducible exact ih1 _ _ _)
      | (with_reducible exact ih2 _ _ _ _)
      | (with_reducible exact merkhetlaw04_Great.mono _ _)
      | (with_reducible exact merkhetlaw27_fixed.mono _)
      | (with_reducible exact merkhetref10_Of.mono _ _)
      | (with_reducible exact merkhetref15_Same.mono _ _ _)
      | (with_reducible exact merkhetref27_Own.mono _ _ _)
      | (with_reducible exact stats_Own.mono _ _ _)
      | (with_reducible exact LeO.refl _)
      | (with_reducible exact LeO.none _)
      | (with_reducible refine LeO.ite ?_ ?_)
      | (with_reducible refine LeO.bind ?_ (fun _ => ?_))
      | exact ih0 _ _ _
      | exact ih1 _ _ _
      | exact ih2 _ _ _ _
      | exact merkhetlaw04_Great.mono _ _
      | exact merkhetlaw27_fixed.mono _
      | exact merkhetref10_Of.mono _ _
      | exact merkhetref15_Same.mono _ _ _
      | exact merkhetref27_Own.mono _ _ _
      | exact stats_Own.mono _ _ _
      | exact LeO.none _
      | refine LeO.ite ?_ ?_
      | refine LeO.bind ?_ (fun _ => ?_)
theorem merkhetlaw27_StatsOwn.mono : ∀ a0 a1 k, LeO (merkhetlaw27_StatsOwn.f k a0 a1) (merkhetlaw27_StatsOwn.f (k + 1) a0 a1) := by
  intro a0 a1 k
  obtain ⟨ih0, ih1, ih2⟩ := merkhetlaw27_StatsOwn.mono_l k
  unfold merkhetlaw27_StatsOwn.f
  repeat' first
      | (with_reducible exact ih0 _ _ _)
      | (with_reducible exact ih1 _ _ _)
      | (with_reducible exact ih2 _ _ _ _)
      | (with_reducible exact merkhetlaw04_Great.mono _ _)
      | (with_reducible exact merkhetlaw27_fixed.mono _)
      | (with_reducible exact merkhetref10_Of.mono _ _)
      | (with_reducible exact merkhetref15_Same.mono _ _ _)
      | (with_reducible exact merkhetref27_Own.mono _ _ _)
      | (with_reducible exact stats_Own.mono _ _ _)
      | (with_reducible exact LeO.refl _)
      | (with_reducible exact LeO.none _)
      | (with_reducible refine LeO.ite ?_ ?_)
      | (with_reducible refine LeO.bind ?_ (fun _ => ?_))
      | exact ih0 _ _ _
      | exact ih1 _ _ _
      | exact ih2 _ _ _ _
      | exact merkhetlaw04_Great.mono _ _
      | exact merkhetlaw27_fixed.mono _
      | exact merkhetref10_Of.mono _ _
      | exact merkhetref15_Same.mono _ _ _
      | exact merkhetref27_Own.mono _ _ _
      | exact stats_Own.mono _ _ _
      | exact LeO.none _
      | refine LeO.ite ?_ ?_
      | refine LeO.bind ?_ (fun _ => ?_)
set_option maxHeartbeats 8000000 in
set_option maxRecDepth 100000 in
theorem merkhetlaw27_StatsOwn.calls (k : Nat) (A0 : Option Addr) (c0 : Nat) (l0 : List (S37)) (A1 : Option Addr) (c1 : Nat) (l1 : List Int) (r : Bool) (w : World) (hr0 : Kd.C k37 w A0 l0.length l0) (hc0 : l0.length ≤ c0) (hr1 : Kd.C (Kd.int .i64) w A1 l1.length l1) (hc1 : l1.length ≤ c1) (h : merkhetlaw27_StatsOwn.f k l0 l1 = some r) :
    Calls Try.prog 4 #[.slice A0 l0.length c0, .slice A1 l1.length c1] w fun e w' => e = .returned (.bool r) ∧ Below w.heap.size w w' := by
  have HR0 := Aside0.mk hr0
  have HC0 := Aside0.mk hc0
  clear hr0 hc0
  have HR1 := Aside0.mk hr1
  have HC1 := Aside0.mk hc1
  clear hr1 hc1
  have HB := Aside0.mk (Below.refl w.heap.size w)
  have H : ((merkhetlaw04_Great.f k l0).bind fun t101 => (if t101 = true then (merkhetlaw27_StatsOwn.j0 k l0 l1 true) else (merkhetlaw27_StatsOwn.j0 k l0 l1 (decide ((l1.length : Int) > 60))))) = some r := h
  clear h
  have HC3 := Aside0.mk H
  clear H
  go_enter Try.func4, Try.ntmps4
  go_upto_region 1 with (fail)
  go_cut [21] (fun v21 wc => ∃ (kq : Nat) (x21_2 : Bool), v21 = .bool x21_2 ∧ Aside0 (merkhetlaw27_StatsOwn.j0 kq l0 l1 x21_2 = some r) ∧ Aside0 (kq ≤ k) ∧ Aside0 (Below w.heap.size w wc))
  case first =>
    have H := HC3.out
    clear HC3
    replace H := Option.bind_eq_some_iff.mp H
    obtain ⟨t101, A40, H⟩ := H
    replace H : (if t101 = true then (merkhetlaw27_StatsOwn.j0 k l0 l1 true) else (merkhetlaw27_StatsOwn.j0 k l0 l1 (decide ((l1.length : Int) > 60)))) = some r := H
    have A4 := Aside0.mk A40
    clear A40
    by_cases c5 : t101 = true
    · subst c5
      have H1 : (merkhetlaw27_StatsOwn.j0 k l0 l1 true) = some r := by rw [if_pos rfl] at H; exact H
      clear H
      have H := H1
      clear H1
      have H' := Aside0.mk H
      clear H
      go_wp2_with (first | ((with_reducible refine gate_callee (f := 15) rfl ?_); refine goesL_ (some 16) rfl rfl Try.func15 (by kernel_rfl) rfl #[.slice A0 l0.length c0] rfl (by (try simp only [List.map_toArray, List.map_cons, List.map_nil]); first | done | rfl | (simp only [List.length_drop, List.length_take]; rfl)) ?_; (with_reducible refine (merkhetlaw04_Great.calls k _ _ l0 true _ ?side1 ?side2 A4.out).mono ?_); (case side1 => repeat (first | exact (Kd.C_below HR0.out HB.out) | (with_reducible refine Kd.C_alloc ?_ _) | (with_reducible refine Kd.C_drewN ?_ _) | (with_reducible refine Kd.C_drew ?_))); (case side2 => exact HC0.out); rintro e w6 ⟨rfl, hb⟩; refine ⟨_, rfl, ?_⟩; have n0_ := Aside0.mk (below_step (by repeat (first | (with_reducible first | exact HB.out | apply below_alloc | apply pw_below_drewN | apply below_drew1) | exact HB.out)) hb); clear HB; have HB := n0_; clear n0_; (try clear hb); (try clear hb2); (try clear hk); (try clear hi)))
      go_meet
      case rel => exact ⟨_, (true), (by first | rfl | (simp; done) | (simp [*]; done)), H', ⟨by first | omega | exact Nat.le_refl _⟩, ⟨by repeat (first | (with_reducible first | exact HB.out | apply below_alloc | apply pw_below_drewN | apply below_drew1) | exact HB.out)⟩⟩
    · replace c5 := Bool.eq_false_iff.mpr c5
      subst c5
      have H1 : (merkhetlaw27_StatsOwn.j0 k l0 l1 (decide ((l1.length : Int) > 60))) = some r := by rw [if_neg (show ¬ (false = true) by decide)] at H; exact H
      clear H
      have H := H1
      clear H1
      have H' := Aside0.mk H
      clear H
      go_wp2_with (first | ((with_reducible refine gate_callee (f := 15) rfl ?_); refine goesL_ (some 16) rfl rfl Try.func15 (by kernel_rfl) rfl #[.slice A0 l0.length c0] rfl (by (try simp only [List.map_toArray, List.map_cons, List.map_nil]); first | done | rfl | (simp only [List.length_drop, List.length_take]; rfl)) ?_; (with_reducible refine (merkhetlaw04_Great.calls k _ _ l0 false _ ?side1 ?side2 A4.out).mono ?_); (case side1 => repeat (first | exact (Kd.C_below HR0.out HB.out) | (with_reducible refine Kd.C_alloc ?_ _) | (with_reducible refine Kd.C_drewN ?_ _) | (with_reducible refine Kd.C_drew ?_))); (case side2 => exact HC0.out); rintro e w7 ⟨rfl, hb⟩; refine ⟨_, rfl, ?_⟩; have n0_ := Aside0.mk (below_step (by repeat (first | (with_reducible first | exact HB.out | apply below_alloc | apply pw_below_drewN | apply below_drew1) | exact HB.out)) hb); clear HB; have HB := n0_; clear n0_; (try clear hb); (try clear hb2); (try clear hk); (try clear hi)))
      go_meet
      case rel => exact ⟨_, (decide ((l1.length : Int) > 60)), (by first | rfl | (simp; done) | (simp [*]; done)), H', ⟨by first | omega | exact Nat.le_refl _⟩, ⟨by repeat (first | (with_reducible first | exact HB.out | apply below_alloc | apply pw_below_drewN | apply below_drew1) | exact HB.out)⟩⟩
  case rest =>
    clear HC3
    (try clear c1); (try clear p2); (try clear c4); (try clear c5)
    obtain ⟨kq, x21_2, rfl, HA, HJ2, HB⟩ := hcut
    cases kq with
    | zero => exact absurd HA.out (by simp [merkhetlaw27_StatsOwn.j0])
    | succ kj2 =>
      have H := HA.out
      clear HA
      simp only [merkhetlaw27_StatsOwn.j0] at H
      by_cases c8 : x21_2 = true
      · subst c8
        have H1 : ((merkhetlaw27_fixed.f kj2).bind fun t102 => (some t102)) = some r := by rw [if_pos rfl] at H; exact H
        clear H
        have H := H1
        clear H1
        replace H := Option.bind_eq_some_iff.mp H
        obtain ⟨t102, A90, H⟩ := H
        replace H : (some t102) = some r := H
        have A9 := Aside0.mk A90
        clear A90
        obtain rfl := Option.some.inj H
        go_wp2_with (first | ((with_reducible refine gate_callee (f := 12) rfl ?_); refine goesL_ (some 22) rfl rfl Try.func12 (by kernel_rfl) rfl #[] rfl (by (try simp only [List.map_toArray, List.map_cons, List.map_nil]); first | done | rfl | (simp only [List.length_drop, List.length_take]; rfl)) ?_; (with_reducible refine (merkhetlaw27_fixed.calls kj2  t102 _ A9.out).mono ?_); rintro e w10 ⟨rfl, hb⟩; refine ⟨_, rfl, ?_⟩; have n0_ := Aside0.mk (below_step (by repeat (first | (with_reducible first | exact HB.out | apply below_alloc | apply pw_below_drewN | apply below_drew1) | exact HB.out)) hb); clear HB; have HB := n0_; clear n0_; (try clear hb); (try clear hb2); (try clear hk); (try clear hi)))
        go_ret
        exact ⟨by first | rfl | (simp [errW_none, errW_some] <;> rfl) | (simp [*, errW_none, errW_some] <;> rfl), by repeat (first | (with_reducible first | exact HB.out | apply below_alloc | apply pw_below_drewN | apply below_drew1) | exact HB.out)⟩
      · replace c8 := Bool.eq_false_iff.mpr c8
        subst c8
        have H1 : ((stats_Own.f kj2 l0 l1).bind fun bt103 => ((merkhetref27_Own.f kj2 l0 l1).bind fun bt107 => ((merkhetref10_Of.f kj2 l0).bind fun t111 => ((stats_Own.f kj2 l0 t111).bind fun bt114 => ((merkhetref10_Of.f kj2 l0).bind fun t118 => ((merkhetref27_Own.f kj2 l0 t118).bind fun bt121 => ((merkhetref15_Same.f kj2 bt103.1 bt107.1).bind fun t125 => (if t125 = true then (if (bt103.2 != bt107.2) = true then (merkhetlaw27_StatsOwn.j1 kj2 l0 bt103.1 true) else ((merkhetref15_Same.f kj2 bt114.1 bt121.1).bind fun t126 => (if t126 = true then (merkhetlaw27_StatsOwn.j1 kj2 l0 bt103.1 (bt114.2 != bt121.2)) else (merkhetlaw27_StatsOwn.j1 kj2 l0 bt103.1 true)))) else (merkhetlaw27_StatsOwn.j1 kj2 l0 bt103.1 true))))))))) = some r := by rw [if_neg (show ¬ (false = true) by decide)] at H; exact H
        clear H
        have H := H1
        clear H1
        replace H := Option.bind_eq_some_iff.mp H
        obtain ⟨⟨t103, t104⟩, A110, H⟩ := H
        replace H : ((merkhetref27_Own.f kj2 l0 l1).bind fun bt107 => ((merkhetref10_Of.f kj2 l0).bind fun t111 => ((stats_Own.f kj2 l0 t111).bind fun bt114 => ((merkhetref10_Of.f kj2 l0).bind fun t118 => ((merkhetref27_Own.f kj2 l0 t118).bind fun bt121 => ((merkhetref15_Same.f kj2 t103 bt107.1).bind fun t125 => (if t125 = true then (if (t104 != bt107.2) = true then (merkhetlaw27_StatsOwn.j1 kj2 l0 t103 true) else ((merkhetref15_Same.f kj2 bt114.1 bt121.1).bind fun t126 => (if t126 = true then (merkhetlaw27_StatsOwn.j1 kj2 l0 t103 (bt114.2 != bt121.2)) else (merkhetlaw27_StatsOwn.j1 kj2 l0 t103 true)))) else (merkhetlaw27_StatsOwn.j1 kj2 l0 t103 true)))))))) = some r := H
        have A11 := Aside0.mk A110
        clear A110
        replace H := Option.bind_eq_some_iff.mp H
        obtain ⟨⟨t107, t108⟩, A120, H⟩ := H
        replace H : ((merkhetref10_Of.f kj2 l0).bind fun t111 => ((stats_Own.f kj2 l0 t111).bind fun bt114 => ((merkhetref10_Of.f kj2 l0).bind fun t118 => ((merkhetref27_Own.f kj2 l0 t118).bind fun bt121 => ((merkhetref15_Same.f kj2 t103 t107).bind fun t125 => (if t125 = true then (if (t104 != t108) = true then (merkhetlaw27_StatsOwn.j1 kj2 l0 t103 true) else ((merkhetref15_Same.f kj2 bt114.1 bt121.1).bind fun t126 => (if t126 = true then (merkhetlaw27_StatsOwn.j1 kj2 l0 t103 (bt114.2 != bt121.2)) else (merkhetlaw27_StatsOwn.j1 kj2 l0 t103 true)))) else (merkhetlaw27_StatsOwn.j1 kj2 l0 t103 true))))))) = some r := H
        have A12 := Aside0.mk A120
        clear A120
        replace H := Option.bind_eq_some_iff.mp H
        obtain ⟨t111, A130, H⟩ := H
        replace H : ((stats_Own.f kj2 l0 t111).bind fun bt114 => ((merkhetref10_Of.f kj2 l0).bind fun t118 => ((merkhetref27_Own.f kj2 l0 t118).bind fun bt121 => ((merkhetref15_Same.f kj2 t103 t107).bind fun t125 => (if t125 = true then (if (t104 != t108) = true then (merkhetlaw27_StatsOwn.j1 kj2 l0 t103 true) else ((merkhetref15_Same.f kj2 bt114.1 bt121.1).bind fun t126 => (if t126 = true then (merkhetlaw27_StatsOwn.j1 kj2 l0 t103 (bt114.2 != bt121.2)) else (merkhetlaw27_StatsOwn.j1 kj2 l0 t103 true)))) else (merkhetlaw27_StatsOwn.j1 kj2 l0 t103 true)))))) = some r := H
        have A13 := Aside0.mk A130
        clear A130
        replace H := Option.bind_eq_some_iff.mp H
        obtain ⟨⟨t114, t115⟩, A140, H⟩ := H
        replace H : ((merkhetref10_Of.f kj2 l0).bind fun t118 => ((merkhetref27_Own.f kj2 l0 t118).bind fun bt121 => ((merkhetref15_Same.f kj2 t103 t107).bind fun t125 => (if t125 = true then (if (t104 != t108) = true then (merkhetlaw27_StatsOwn.j1 kj2 l0 t103 true) else ((merkhetref15_Same.f kj2 t114 bt121.1).bind fun t126 => (if t126 = true then (merkhetlaw27_StatsOwn.j1 kj2 l0 t103 (t115 != bt121.2)) else (merkhetlaw27_StatsOwn.j1 kj2 l0 t103 true)))) else (merkhetlaw27_StatsOwn.j1 kj2 l0 t103 true))))) = some r := H
        have A14 := Aside0.mk A140
        clear A140
        replace H := Option.bind_eq_some_iff.mp H
        obtain ⟨t118, A150, H⟩ := H
        replace H : ((merkhetref27_Own.f kj2 l0 t118).bind fun bt121 => ((merkhetref15_Same.f kj2 t103 t107).bind fun t125 => (if t125 = true then (if (t104 != t108) = true then (merkhetlaw27_StatsOwn.j1 kj2 l0 t103 true) else ((merkhetref15_Same.f kj2 t114 bt121.1).bind fun t126 => (if t126 = true then (merkhetlaw27_StatsOwn.j1 kj2 l0 t103 (t115 != bt121.2)) else (merkhetlaw27_StatsOwn.j1 kj2 l0 t103 true)))) else (merkhetlaw27_StatsOwn.j1 kj2 l0 t103 true)))) = some r := H
        have A15 := Aside0.mk A150
        clear A150
        replace H := Option.bind_eq_some_iff.mp H
        obtain ⟨⟨t121, t122⟩, A160, H⟩ := H
        replace H : ((merkhetref15_Same.f kj2 t103 t107).bind fun t125 => (if t125 = true then (if (t104 != t108) = true then (merkhetlaw27_StatsOwn.j1 kj2 l0 t103 true) else ((merkhetref15_Same.f kj2 t114 t121).bind fun t126 => (if t126 = true then (merkhetlaw27_StatsOwn.j1 kj2 l0 t103 (t115 != t122)) else (merkhetlaw27_StatsOwn.j1 kj2 l0 t103 true)))) else (merkhetlaw27_StatsOwn.j1 kj2 l0 t103 true))) = some r := H
        have A16 := Aside0.mk A160
        clear A160
        have HC17 := Aside0.mk H
        clear H
        go_upto_region 7 with (first | ((with_reducible refine gate_callee (f := 16) rfl ?_); refine goesL_ (some 26) rfl rfl Try.func16 (by kernel_rfl) rfl #[.slice A0 l0.length c0, .slice A1 l1.length c1] rfl (by (try simp only [List.map_toArray, List.map_cons, List.map_nil]); first | done | rfl | (simp only [List.length_drop, List.length_take]; rfl)) ?_; (with_reducible refine (stats_Own.calls kj2 _ _ l0 _ _ l1 t103 t104 _ ?side1 ?side2 ?side3 ?side4 A11.out).mono ?_); (case side1 => repeat (first | exact (Kd.C_below HR0.out HB.out) | (with_reducible refine Kd.C_alloc ?_ _) | (with_reducible refine Kd.C_drewN ?_ _) | (with_reducible refine Kd.C_drew ?_))); (case side2 => exact HC0.out); (case side3 => repeat (first | exact (Kd.C_below HR1.out HB.out) | (with_reducible refine Kd.C_alloc ?_ _) | (with_reducible refine Kd.C_drewN ?_ _) | (with_reducible refine Kd.C_drew ?_))); (case side4 => exact HC1.out); rintro e w18 ⟨v105, rfl, ho0, hb⟩; refine ⟨_, rfl, ?_⟩; have n0_ := Aside0.mk (Kd.R_lower ho0 (below_size (by repeat (first | (with_reducible first | exact HB.out | apply below_alloc | apply pw_below_drewN | apply below_drew1) | exact HB.out)))); have n1_ := Aside0.mk (below_step (by repeat (first | (with_reducible first | exact HB.out | apply below_alloc | apply pw_below_drewN | apply below_drew1) | exact HB.out)) hb); clear HB; have HO106 := n0_; have HB := n1_; clear n0_ n1_; (try clear hb); (try clear hb2); (try clear hk); (try clear hi); (try clear ho0)) | ((with_reducible refine gate_callee (f := 17) rfl ?_); refine goesL_ (some 32) rfl rfl Try.func17 (by kernel_rfl) rfl #[.slice A0 l0.length c0, .slice A1 l1.length c1] rfl (by (try simp only [List.map_toArray, List.map_cons, List.map_nil]); first | done | rfl | (simp only [List.length_drop, List.length_take]; rfl)) ?_; (with_reducible refine (merkhetref27_Own.calls kj2 _ _ l0 _ _ l1 t107 t108 _ ?side1 ?side2 ?side3 ?side4 A12.out).mono ?_); (case side1 => repeat (first | exact (Kd.C_below HR0.out HB.out) | (with_reducible refine Kd.C_alloc ?_ _) | (with_reducible refine Kd.C_drewN ?_ _) | (with_reducible refine Kd.C_drew ?_))); (case side2 => exact HC0.out); (case side3 => repeat (first | exact (Kd.C_below HR1.out HB.out) | (with_reducible refine Kd.C_alloc ?_ _) | (with_reducible refine Kd.C_drewN ?_ _) | (with_reducible refine Kd.C_drew ?_))); (case side4 => exact HC1.out); rintro e w19 ⟨v109, rfl, ho0, hb⟩; refine ⟨_, rfl, ?_⟩; have n0_ := Aside0.mk (Kd.R_elder' (by (with_reducible repeat (first | apply Kd.R_alloc | apply Kd.R_drewN | apply Kd.R_drew)); exact HO106.out) (Kd.R_base ho0) hb); have n1_ := Aside0.mk (Kd.R_lower (Kd.R_new' ho0 (Kd.R_lt (by (with_reducible repeat (first | apply Kd.R_alloc | apply Kd.R_drewN | apply Kd.R_drew)); exact HO106.out))) (below_size (by repeat (first | (with_reducible first | exact HB.out | apply below_alloc | apply pw_below_drewN | apply below_drew1) | exact HB.out)))); have n2_ := Aside0.mk (below_step (by repeat (first | (with_reducible first | exact HB.out | apply below_alloc | apply pw_below_drewN | apply below_drew1) | exact HB.out)) hb); clear HO106; clear HB; have HO106 := n0_; have HO110 := n1_; have HB := n2_; clear n0_ n1_ n2_; (try clear hb); (try clear hb2); (try clear hk); (try clear hi); (try clear ho0)) | ((with_reducible refine gate_callee (f := 18) rfl ?_); refine goesL_ (some 38) rfl rfl Try.func18 (by kernel_rfl) rfl #[.slice A0 l0.length c0] rfl (by (try simp only [List.map_toArray, List.map_cons, List.map_nil]); first | done | rfl | (simp only [List.length_drop, List.length_take]; rfl)) ?_; (with_reducible refine (merkhetref10_Of.calls kj2 _ _ l0 t111 _ ?side1 ?side2 A13.out).mono ?_); (case side1 => repeat (first | exact (Kd.C_below HR0.out HB.out) | (with_reducible refine Kd.C_alloc ?_ _) | (with_reducible refine Kd.C_drewN ?_ _) | (with_reducible refine Kd.C_drew ?_))); (case side2 => exact HC0.out); rintro e w20 ⟨v112, rfl, ho0, hb⟩; refine ⟨_, rfl, ?_⟩; have n0_ := Aside0.mk (Kd.R_below (by (with_reducible repeat (first | apply Kd.R_alloc | apply Kd.R_drewN | apply Kd.R_drew)); exact HO106.out) hb); have n1_ := Aside0.mk (Kd.R_below (by (with_reducible repeat (first | apply Kd.R_alloc | apply Kd.R_drewN | apply Kd.R_drew)); exact HO110.out) hb); have n2_ := Aside0.mk (Kd.R_lower ho0 (below_size (by repeat (first | (with_reducible first | exact HB.out | apply below_alloc | apply pw_below_drewN | apply below_drew1) | exact HB.out)))); have n3_ := Aside0.mk (below_step (by repeat (first | (with_reducible first | exact HB.out | apply below_alloc | apply pw_below_drewN | apply below_drew1) | exact HB.out)) hb); clear HO106; clear HO110; clear HB; have HO106 := n0_; have HO110 := n1_; have HO113 := n2_; have HB := n3_; clear n0_ n1_ n2_ n3_; (try clear hb); (try clear hb2); (try clear hk); (try clear hi); (try clear ho0); obtain ⟨Ao21, co21, eo21⟩ := Kd.R_slice HO113.out; subst eo21) | ((with_reducible refine gate_callee (f := 16) rfl ?_); refine goesL_ (some 39) rfl rfl Try.func16 (by kernel_rfl) rfl #[.slice A0 l0.length c0, .slice Ao21 t111.length co21] rfl (by (try simp only [List.map_toArray, List.map_cons, List.map_nil]); first | done | rfl | (simp only [List.length_drop, List.length_take]; rfl)) ?_; (with_reducible refine (stats_Own.calls kj2 _ _ l0 _ _ t111 t114 t115 _ ?side1 ?side2 ?side3 ?side4 A14.out).mono ?_); (case side1 => repeat (first | exact (Kd.C_below HR0.out HB.out) | (with_reducible refine Kd.C_alloc ?_ _) | (with_reducible refine Kd.C_drewN ?_ _) | (with_reducible refine Kd.C_drew ?_))); (case side2 => exact HC0.out); (case side3 => repeat (first | exact (Kd.R_reads' HO113.out).2.2 | (with_reducible refine Kd.C_alloc ?_ _) | (with_reducible refine Kd.C_drewN ?_ _) | (with_reducible refine Kd.C_drew ?_))); (case side4 => exact (Kd.R_reads' HO113.out).2.1); rintro e w22 ⟨v116, rfl, ho0, hb⟩; refine ⟨_, rfl, ?_⟩; have n0_ := Aside0.mk (Kd.R_elder' (by (with_reducible repeat (first | apply Kd.R_alloc | apply Kd.R_drewN | apply Kd.R_drew)); exact HO106.out) (Kd.R_base ho0) hb); have n1_ := Aside0.mk (Kd.R_elder' (by (with_reducible repeat (first | apply Kd.R_alloc | apply Kd.R_drewN | apply Kd.R_drew)); exact HO110.out) (Kd.R_base ho0) hb); have n2_ := Aside0.mk (Kd.R_below (by (with_reducible repeat (first | apply Kd.R_alloc | apply Kd.R_drewN | apply Kd.R_drew)); exact HO113.out) hb); have n3_ := Aside0.mk (Kd.R_lower (Kd.R_new' (Kd.R_new' ho0 (Kd.R_lt (by (with_reducible repeat (first | apply Kd.R_alloc | apply Kd.R_drewN | apply Kd.R_drew)); exact HO106.out))) (Kd.R_lt (by (with_reducible repeat (first | apply Kd.R_alloc | apply Kd.R_drewN | apply Kd.R_drew)); exact HO110.out))) (below_size (by repeat (first | (with_reducible first | exact HB.out | apply below_alloc | apply pw_below_drewN | apply below_drew1) | exact HB.out)))); have n4_ := Aside0.mk (below_step (by repeat (first | (with_reducible first | exact HB.out | apply below_alloc | apply pw_below_drewN | apply below_drew1) | exact HB.out)) hb); clear HO106; clear HO110; clear HO113; clear HB; have HO106 := n0_; have HO110 := n1_; have HO113 := n2_; have HO117 := n3_; have HB := n4_; clear n0_ n1_ n2_ n3_ n4_; (try clear hb); (try clear hb2); (try clear hk); (try clear hi); (try clear ho0)) | ((with_reducible refine gate_callee (f := 18) rfl ?_); refine goesL_ (some 45) rfl rfl Try.func18 (by kernel_rfl) rfl #[.slice A0 l0.length c0] rfl (by (try simp only [List.map_toArray, List.map_cons, List.map_nil]); first | done | rfl | (simp only [List.length_drop, List.length_take]; rfl)) ?_; (with_reducible refine (merkhetref10_Of.calls kj2 _ _ l0 t118 _ ?side1 ?side2 A15.out).mono ?_); (case side1 => repeat (first | exact (Kd.C_below HR0.out HB.out) | (with_reducible refine Kd.C_alloc ?_ _) | (with_reducible refine Kd.C_drewN ?_ _) | (with_reducible refine Kd.C_drew ?_))); (case side2 => exact HC0.out); rintro e w23 ⟨v119, rfl, ho0, hb⟩; refine ⟨_, rfl, ?_⟩; have n0_ := Aside0.mk (Kd.R_below (by (with_reducible repeat (first | apply Kd.R_alloc | apply Kd.R_drewN | apply Kd.R_drew)); exact HO106.out) hb); have n1_ := Aside0.mk (Kd.R_below (by (with_reducible repeat (first | apply Kd.R_alloc | apply Kd.R_drewN | apply Kd.R_drew)); exact HO110.out) hb); have n2_ := Aside0.mk (Kd.R_elder' (by (with_reducible repeat (first | apply Kd.R_alloc | apply Kd.R_drewN | apply Kd.R_drew)); exact HO113.out) (Kd.R_base ho0) hb); have n3_ := Aside0.mk (Kd.R_below (by (with_reducible repeat (first | apply Kd.R_alloc | apply Kd.R_drewN | apply Kd.R_drew)); exact HO117.out) hb); have n4_ := Aside0.mk (Kd.R_lower (Kd.R_new' ho0 (Kd.R_lt (by (with_reducible repeat (first | apply Kd.R_alloc | apply Kd.R_drewN | apply Kd.R_drew)); exact HO113.out))) (below_size (by repeat (first | (with_reducible first | exact HB.out | apply below_alloc | apply pw_below_drewN | apply below_drew1) | exact HB.out)))); have n5_ := Aside0.mk (below_step (by repeat (first | (with_reducible first | exact HB.out | apply below_alloc | apply pw_below_drewN | apply below_drew1) | exact HB.out)) hb); clear HO106; clear HO110; clear HO113; clear HO117; clear HB; have HO106 := n0_; have HO110 := n1_; have HO113 := n2_; have HO117 := n3_; have HO120 := n4_; have HB := n5_; clear n0_ n1_ n2_ n3_ n4_ n5_; (try clear hb); (try clear hb2); (try clear hk); (try clear hi); (try clear ho0); obtain ⟨Ao24, co24, eo24⟩ := Kd.R_slice HO120.out; subst eo24) | ((with_reducible refine gate_callee (f := 17) rfl ?_); refine goesL_ (some 46) rfl rfl Try.func17 (by kernel_rfl) rfl #[.slice A0 l0.length c0, .slice Ao24 t118.length co24] rfl (by (try simp only [List.map_toArray, List.map_cons, List.map_nil]); first | done | rfl | (simp only [List.length_drop, List.length_take]; rfl)) ?_; (with_reducible refine (merkhetref27_Own.calls kj2 _ _ l0 _ _ t118 t121 t122 _ ?side1 ?side2 ?side3 ?side4 A16.out).mono ?_); (case side1 => repeat (first | exact (Kd.C_below HR0.out HB.out) | (with_reducible refine Kd.C_alloc ?_ _) | (with_reducible refine Kd.C_drewN ?_ _) | (with_reducible refine Kd.C_drew ?_))); (case side2 => exact HC0.out); (case side3 => repeat (first | exact (Kd.R_reads' HO120.out).2.2 | (with_reducible refine Kd.C_alloc ?_ _) | (with_reducible refine Kd.C_drewN ?_ _) | (with_reducible refine Kd.C_drew ?_))); (case side4 => exact (Kd.R_reads' HO120.out).2.1); rintro e w25 ⟨v123, rfl, ho0, hb⟩; refine ⟨_, rfl, ?_⟩; have n0_ := Aside0.mk (Kd.R_elder' (by (with_reducible repeat (first | apply Kd.R_alloc | apply Kd.R_drewN | apply Kd.R_drew)); exact HO106.out) (Kd.R_base ho0) hb); have n1_ := Aside0.mk (Kd.R_elder' (by (with_reducible repeat (first | apply Kd.R_alloc | apply Kd.R_drewN | apply Kd.R_drew)); exact HO110.out) (Kd.R_base ho0) hb); have n2_ := Aside0.mk (Kd.R_below (by (with_reducible repeat (first | apply Kd.R_alloc | apply Kd.R_drewN | apply Kd.R_drew)); exact HO113.out) hb); have n3_ := Aside0.mk (Kd.R_elder' (by (with_reducible repeat (first | apply Kd.R_alloc | apply Kd.R_drewN | apply Kd.R_drew)); exact HO117.out) (Kd.R_base ho0) hb); have n4_ := Aside0.mk (Kd.R_below (by (with_reducible repeat (first | apply Kd.R_alloc | apply Kd.R_drewN | apply Kd.R_drew)); exact HO120.out) hb); have n5_ := Aside0.mk (Kd.R_lower (Kd.R_new' (Kd.R_new' (Kd.R_new' ho0 (Kd.R_lt (by (with_reducible repeat (first | apply Kd.R_alloc | apply Kd.R_drewN | apply Kd.R_drew)); exact HO106.out))) (Kd.R_lt (by (with_reducible repeat (first | apply Kd.R_alloc | apply Kd.R_drewN | apply Kd.R_drew)); exact HO110.out))) (Kd.R_lt (by (with_reducible repeat (first | apply Kd.R_alloc | apply Kd.R_drewN | apply Kd.R_drew)); exact HO117.out))) (below_size (by repeat (first | (with_reducible first | exact HB.out | apply below_alloc | apply pw_below_drewN | apply below_drew1) | exact HB.out)))); have n6_ := Aside0.mk (below_step (by repeat (first | (with_reducible first | exact HB.out | apply below_alloc | apply pw_below_drewN | apply below_drew1) | exact HB.out)) hb); clear HO106; clear HO110; clear HO113; clear HO117; clear HO120; clear HB; have HO106 := n0_; have HO110 := n1_; have HO113 := n2_; have HO117 := n3_; have HO120 := n4_; have HO124 := n5_; have HB := n6_; clear n0_ n1_ n2_ n3_ n4_ n5_ n6_; (try clear hb); (try clear hb2); (try clear hk); (try clear hi); (try clear ho0)))
        (try simp only [Act.put, List.setIfInBounds_toArray, List.set_cons_zero, List.set_cons_succ])
        go_cut [68] (fun v68 wc => ∃ (kq : Nat) (x68_16 : Bool), v68 = .bool x68_16 ∧ Aside0 (merkhetlaw27_StatsOwn.j1 kq l0 t103 x68_16 = some r) ∧ Aside0 (kq ≤ kj2) ∧ Aside0 (Kd.R (Kd.int .i64) 2 wc w.heap.size (fun _ => True) v105 t103) ∧ Aside0 (Below w.heap.size w wc))
        case first =>
          have H := HC17.out
          clear HC17
          replace H := Option.bind_eq_some_iff.mp H
          obtain ⟨t125, A260, H⟩ := H
          replace H : (if t125 = true then (if (t104 != t108) = true then (merkhetlaw27_StatsOwn.j1 kj2 l0 t103 true) else ((merkhetref15_Same.f kj2 t114 t121).bind fun t126 => (if t126 = true then (merkhetlaw27_StatsOwn.j1 kj2 l0 t103 (t115 != t122)) else (merkhetlaw27_StatsOwn.j1 kj2 l0 t103 true)))) else (merkhetlaw27_StatsOwn.j1 kj2 l0 t103 true)) = some r := H
          have A26 := Aside0.mk A260
          clear A260
          by_cases c27 : t125 = true
          · subst c27
            have H1 : (if (t104 != t108) = true then (merkhetlaw27_StatsOwn.j1 kj2 l0 t103 true) else ((merkhetref15_Same.f kj2 t114 t121).bind fun t126 => (if t126 = true then (merkhetlaw27_StatsOwn.j1 kj2 l0 t103 (t115 != t122)) else (merkhetlaw27_StatsOwn.j1 kj2 l0 t103 true)))) = some r := by rw [if_pos rfl] at H; exact H
            clear H
            have H := H1
            clear H1
            by_cases c28 : (t104 != t108) = true
            · rw [if_pos c28] at H
              have c28b0 : (t104 != t108) = true := c28
              (try (have c28b1 : decide (t104 = t108) = false := by simpa using c28))
              (try (have c28b2 : (t104 == t108) = false := by simpa using c28))
              (try (have c28b3 : ¬ (t104 = t108) := by simpa using c28))
              clear c28
              (first | rw [c28b0] | (simp only [i64_w, i32_w]; rw [c28b0]) | skip)
              have H' := Aside0.mk H
              clear H
              obtain ⟨Ao29, co29, eo29⟩ := Kd.R_slice HO106.out
              subst eo29
              obtain ⟨Ao30, co30, eo30⟩ := Kd.R_slice HO110.out
              subst eo30
              go_wp2_with (first | ((with_reducible refine gate_callee (f := 19) rfl ?_); refine goesL_ (some 51) rfl rfl Try.func19 (by kernel_rfl) rfl #[.slice Ao29 t103.length co29, .slice Ao30 t107.length co30] rfl (by (try simp only [List.map_toArray, List.map_cons, List.map_nil]); first | done | rfl | (simp only [List.length_drop, List.length_take]; rfl)) ?_; (with_reducible refine (merkhetref15_Same.calls kj2 _ _ t103 _ _ t107 true _ ?side1 ?side2 ?side3 ?side4 A26.out).mono ?_); (case side1 => repeat (first | exact (Kd.R_reads' HO106.out).2.2 | (with_reducible refine Kd.C_alloc ?_ _) | (with_reducible refine Kd.C_drewN ?_ _) | (with_reducible refine Kd.C_drew ?_))); (case side2 => exact (Kd.R_reads' HO106.out).2.1); (case side3 => repeat (first | exact (Kd.R_reads' HO110.out).2.2 | (with_reducible refine Kd.C_alloc ?_ _) | (with_reducible refine Kd.C_drewN ?_ _) | (with_reducible refine Kd.C_drew ?_))); (case side4 => exact (Kd.R_reads' HO110.out).2.1); rintro e w' ⟨rfl, ⟨nd, rfl⟩⟩; refine ⟨_, rfl, ?_⟩))
              go_meet
              case rel => exact ⟨_, (true), (by first | rfl | (simp; done) | (simp [*]; done)), H', ⟨by have := HJ2.out; first | omega | exact Nat.le_refl _⟩, ⟨by (with_reducible repeat (first | apply Kd.R_alloc | apply Kd.R_drewN | apply Kd.R_drew)); exact Kd.R_mono HO106.out (fun _ hk => trivial)⟩, ⟨by repeat (first | (with_reducible first | exact HB.out | apply below_alloc | apply pw_below_drewN | apply below_drew1) | exact HB.out)⟩⟩
            · rw [if_neg c28] at H
              have c28b0 : (t104 != t108) = false := by simpa using c28
              (try (have c28b1 : decide (t104 = t108) = true := by simpa using c28))
              (try (have c28b2 : (t104 == t108) = true := by simpa using c28))
              clear c28
              (first | rw [c28b0] | (simp only [i64_w, i32_w]; rw [c28b0]) | skip)
              replace H := Option.bind_eq_some_iff.mp H
              obtain ⟨t126, A310, H⟩ := H
              replace H : (if t126 = true then (merkhetlaw27_StatsOwn.j1 kj2 l0 t103 (t115 != t122)) else (merkhetlaw27_StatsOwn.j1 kj2 l0 t103 true)) = some r := H
              have A31 := Aside0.mk A310
              clear A310
              by_cases c32 : t126 = true
              · subst c32
                have H1 : (merkhetlaw27_StatsOwn.j1 kj2 l0 t103 (t115 != t122)) = some r := by rw [if_pos rfl] at H; exact H
                clear H
                have H := H1
                clear H1
                have H' := Aside0.mk H
                clear H
                obtain ⟨Ao33, co33, eo33⟩ := Kd.R_slice HO106.out
                subst eo33
                obtain ⟨Ao34, co34, eo34⟩ := Kd.R_slice HO110.out
                subst eo34
                go_wp2_with (first | ((with_reducible refine gate_callee (f := 19) rfl ?_); refine goesL_ (some 51) rfl rfl Try.func19 (by kernel_rfl) rfl #[.slice Ao33 t103.length co33, .slice Ao34 t107.length co34] rfl (by (try simp only [List.map_toArray, List.map_cons, List.map_nil]); first | done | rfl | (simp only [List.length_drop, List.length_take]; rfl)) ?_; (with_reducible refine (merkhetref15_Same.calls kj2 _ _ t103 _ _ t107 true _ ?side1 ?side2 ?side3 ?side4 A26.out).mono ?_); (case side1 => repeat (first | exact (Kd.R_reads' HO106.out).2.2 | (with_reducible refine Kd.C_alloc ?_ _) | (with_reducible refine Kd.C_drewN ?_ _) | (with_reducible refine Kd.C_drew ?_))); (case side2 => exact (Kd.R_reads' HO106.out).2.1); (case side3 => repeat (first | exact (Kd.R_reads' HO110.out).2.2 | (with_reducible refine Kd.C_alloc ?_ _) | (with_reducible refine Kd.C_drewN ?_ _) | (with_reducible refine Kd.C_drew ?_))); (case side4 => exact (Kd.R_reads' HO110.out).2.1); rintro e w' ⟨rfl, ⟨nd, rfl⟩⟩; refine ⟨_, rfl, ?_⟩; obtain ⟨Ao35, co35, eo35⟩ := Kd.R_slice HO117.out; subst eo35; obtain ⟨Ao36, co36, eo36⟩ := Kd.R_slice HO124.out; subst eo36) | (go_at_call 19; (with_reducible refine (merkhetref15_Same.calls kj2 _ _ t114 _ _ t121 true _ ?side1 ?side2 ?side3 ?side4 A31.out).mono ?_); (case side1 => repeat (first | exact (Kd.R_reads' HO117.out).2.2 | (with_reducible refine Kd.C_alloc ?_ _) | (with_reducible refine Kd.C_drewN ?_ _) | (with_reducible refine Kd.C_drew ?_))); (case side2 => exact (Kd.R_reads' HO117.out).2.1); (case side3 => repeat (first | exact (Kd.R_reads' HO124.out).2.2 | (with_reducible refine Kd.C_alloc ?_ _) | (with_reducible refine Kd.C_drewN ?_ _) | (with_reducible refine Kd.C_drew ?_))); (case side4 => exact (Kd.R_reads' HO124.out).2.1); rintro e w' ⟨rfl, ⟨nd, rfl⟩⟩))
                go_meet
                case rel => exact ⟨_, ((t115 != t122)), (by first | rfl | (simp; done) | (simp [*]; done)), H', ⟨by have := HJ2.out; first | omega | exact Nat.le_refl _⟩, ⟨by (with_reducible repeat (first | apply Kd.R_alloc | apply Kd.R_drewN | apply Kd.R_drew)); exact Kd.R_mono HO106.out (fun _ hk => trivial)⟩, ⟨by repeat (first | (with_reducible first | exact HB.out | apply below_alloc | apply pw_below_drewN | apply below_drew1) | exact HB.out)⟩⟩
              · replace c32 := Bool.eq_false_iff.mpr c32
                subst c32
                have H1 : (merkhetlaw27_StatsOwn.j1 kj2 l0 t103 true) = some r := by rw [if_neg (show ¬ (false = true) by decide)] at H; exact H
                clear H
                have H := H1
                clear H1
                have H' := Aside0.mk H
                clear H
                obtain ⟨Ao37, co37, eo37⟩ := Kd.R_slice HO106.out
                subst eo37
                obtain ⟨Ao38, co38, eo38⟩ := Kd.R_slice HO110.out
                subst eo38
                go_wp2_with (first | ((with_reducible refine gate_callee (f := 19) rfl ?_); refine goesL_ (some 51) rfl rfl Try.func19 (by kernel_rfl) rfl #[.slice Ao37 t103.length co37, .slice Ao38 t107.length co38] rfl (by (try simp only [List.map_toArray, List.map_cons, List.map_nil]); first | done | rfl | (simp only [List.length_drop, List.length_take]; rfl)) ?_; (with_reducible refine (merkhetref15_Same.calls kj2 _ _ t103 _ _ t107 true _ ?side1 ?side2 ?side3 ?side4 A26.out).mono ?_); (case side1 => repeat (first | exact (Kd.R_reads' HO106.out).2.2 | (with_reducible refine Kd.C_alloc ?_ _) | (with_reducible refine Kd.C_drewN ?_ _) | (with_reducible refine Kd.C_drew ?_))); (case side2 => exact (Kd.R_reads' HO106.out).2.1); (case side3 => repeat (first | exact (Kd.R_reads' HO110.out).2.2 | (with_reducible refine Kd.C_alloc ?_ _) | (with_reducible refine Kd.C_drewN ?_ _) | (with_reducible refine Kd.C_drew ?_))); (case side4 => exact (Kd.R_reads' HO110.out).2.1); rintro e w' ⟨rfl, ⟨nd, rfl⟩⟩; refine ⟨_, rfl, ?_⟩; obtain ⟨Ao39, co39, eo39⟩ := Kd.R_slice HO117.out; subst eo39; obtain ⟨Ao40, co40, eo40⟩ := Kd.R_slice HO124.out; subst eo40) | (go_at_call 19; (with_reducible refine (merkhetref15_Same.calls kj2 _ _ t114 _ _ t121 false _ ?side1 ?side2 ?side3 ?side4 A31.out).mono ?_); (case side1 => repeat (first | exact (Kd.R_reads' HO117.out).2.2 | (with_reducible refine Kd.C_alloc ?_ _) | (with_reducible refine Kd.C_drewN ?_ _) | (with_reducible refine Kd.C_drew ?_))); (case side2 => exact (Kd.R_reads' HO117.out).2.1); (case side3 => repeat (first | exact (Kd.R_reads' HO124.out).2.2 | (with_reducible refine Kd.C_alloc ?_ _) | (with_reducible refine Kd.C_drewN ?_ _) | (with_reducible refine Kd.C_drew ?_))); (case side4 => exact (Kd.R_reads' HO124.out).2.1); rintro e w' ⟨rfl, ⟨nd, rfl⟩⟩))
                go_meet
                case rel => exact ⟨_, (true), (by first | rfl | (simp; done) | (simp [*]; done)), H', ⟨by have := HJ2.out; first | omega | exact Nat.le_refl _⟩, ⟨by (with_reducible repeat (first | apply Kd.R_alloc | apply Kd.R_drewN | apply Kd.R_drew)); exact Kd.R_mono HO106.out (fun _ hk => trivial)⟩, ⟨by repeat (first | (with_reducible first | exact HB.out | apply below_alloc | apply pw_below_drewN | apply below_drew1) | exact HB.out)⟩⟩
          · replace c27 := Bool.eq_false_iff.mpr c27
            subst c27
            have H1 : (merkhetlaw27_StatsOwn.j1 kj2 l0 t103 true) = some r := by rw [if_neg (show ¬ (false = true) by decide)] at H; exact H
            clear H
            have H := H1
            clear H1
            have H' := Aside0.mk H
            clear H
            obtain ⟨Ao41, co41, eo41⟩ := Kd.R_slice HO106.out
            subst eo41
            obtain ⟨Ao42, co42, eo42⟩ := Kd.R_slice HO110.out
            subst eo42
            go_wp2_with (first | ((with_reducible refine gate_callee (f := 19) rfl ?_); refine goesL_ (some 51) rfl rfl Try.func19 (by kernel_rfl) rfl #[.slice Ao41 t103.length co41, .slice Ao42 t107.length co42] rfl (by (try simp only [List.map_toArray, List.map_cons, List.map_nil]); first | done | rfl | (simp only [List.length_drop, List.length_take]; rfl)) ?_; (with_reducible refine (merkhetref15_Same.calls kj2 _ _ t103 _ _ t107 false _ ?side1 ?side2 ?side3 ?side4 A26.out).mono ?_); (case side1 => repeat (first | exact (Kd.R_reads' HO106.out).2.2 | (with_reducible refine Kd.C_alloc ?_ _) | (with_reducible refine Kd.C_drewN ?_ _) | (with_reducible refine Kd.C_drew ?_))); (case side2 => exact (Kd.R_reads' HO106.out).2.1); (case side3 => repeat (first | exact (Kd.R_reads' HO110.out).2.2 | (with_reducible refine Kd.C_alloc ?_ _) | (with_reducible refine Kd.C_drewN ?_ _) | (with_reducible refine Kd.C_drew ?_))); (case side4 => exact (Kd.R_reads' HO110.out).2.1); rintro e w' ⟨rfl, ⟨nd, rfl⟩⟩; refine ⟨_, rfl, ?_⟩))
            go_meet
            case rel => exact ⟨_, (true), (by first | rfl | (simp; done) | (simp [*]; done)), H', ⟨by have := HJ2.out; first | omega | exact Nat.le_refl _⟩, ⟨by (with_reducible repeat (first | apply Kd.R_alloc | apply Kd.R_drewN | apply Kd.R_drew)); exact Kd.R_mono HO106.out (fun _ hk => trivial)⟩, ⟨by repeat (first | (with_reducible first | exact HB.out | apply below_alloc | apply pw_below_drewN | apply below_drew1) | exact HB.out)⟩⟩
        case rest =>
          clear HC17
          (try clear c1); (try clear c2); (try clear p2); (try clear c3); (try clear c4); (try clear c5); (try clear c8); (try clear c12); (try clear c15); (try clear c16); (try clear c17); (try clear c18); (try clear c19); (try clear c27); (try clear c28); (try clear c28b0); (try clear c28b1); (try clear c28b2); (try clear c32); (try clear p2)
          obtain ⟨kq, x68_16, rfl, HA, HJ16, HO_5, HB⟩ := hcut
          cases kq with
          | zero => exact absurd HA.out (by simp [merkhetlaw27_StatsOwn.j1])
          | succ kj16 =>
            have H := HA.out
            clear HA
            simp only [merkhetlaw27_StatsOwn.j1] at H
            by_cases c43 : x68_16 = true
            · subst c43
              have H1 : (some false) = some r := by rw [if_pos rfl] at H; exact H
              clear H
              have H := H1
              clear H1
              obtain rfl := Option.some.inj H
              go_wp2
              go_ret
              exact ⟨by first | rfl | (simp [errW_none, errW_some] <;> rfl) | (simp [*, errW_none, errW_some] <;> rfl), by repeat (first | (with_reducible first | exact HB.out | apply below_alloc | apply pw_below_drewN | apply below_drew1) | exact HB.out)⟩
            · replace c43 := Bool.eq_false_iff.mpr c43
              subst c43
              have H1 : (merkhetlaw27_StatsOwn.l0 kj16 l0 t103 (t103.length : Int) 0) = some r := by rw [if_neg (show ¬ (false = true) by decide)] at H; exact H
              clear H
              have H := H1
              clear H1
              have H' := Aside0.mk H
              clear H
              obtain ⟨Ao44, co44, eo44⟩ := Kd.R_slice HO_5.out
              subst eo44
              go_wp2
              go_loopg [71] kj16 (fun kq v71 w' => ∃ (x71_3 : Int), v71 = .int .i64 x71_3 ∧ Aside0 (merkhetlaw27_StatsOwn.l0 kq l0 t103 (t103.length : Int) x71_3 = some r) ∧ Aside0 (kq ≤ kj16) ∧ Aside0 (Kd.R (Kd.int .i64) 2 w' w.heap.size (fun _ => True) (.slice Ao44 t103.length co44) t103) ∧ Aside0 (Below w.heap.size w w'))
              case atStart => exact ⟨(0), (by first | rfl | (simp; done) | (simp [*]; done)), H', ⟨Nat.le_refl _⟩, ⟨by (with_reducible repeat (first | apply Kd.R_alloc | apply Kd.R_drewN | apply Kd.R_drew)); exact HO_5.out⟩, ⟨by repeat (first | (with_reducible first | exact HB.out | apply below_alloc | apply pw_below_drewN | apply below_drew1) | exact HB.out)⟩⟩
              case round =>
                clear H'
                (try clear c1); (try clear c2); (try clear p2); (try clear c3); (try clear c4); (try clear c5); (try clear c8); (try clear c12); (try clear c15); (try clear c16); (try clear c17); (try clear c18); (try clear c19); (try clear c27); (try clear c28); (try clear c28b0); (try clear c28b1); (try clear c28b2); (try clear c32); (try clear c43); (try clear p2)
                obtain ⟨x71_3, rfl, HA, HK3, HO_69, HB⟩ := hrel
                cases gk with
                | zero => exact absurd HA.out (by simp [merkhetlaw27_StatsOwn.l0])
                | succ k3 =>
                  have H := HA.out
                  clear HA
                  simp only [merkhetlaw27_StatsOwn.l0] at H
                  by_cases c45 : x71_3 < (t103.length : Int)
                  · rw [if_pos c45] at H
                    have c45b0 : decide (x71_3 < (t103.length : Int)) = true := decide_eq_true c45
                    clear c45
                    by_cases c46 : 0 ≤ x71_3
                    · rw [if_pos c46] at H
                      have c46b0 : decide (0 ≤ x71_3) = true := decide_eq_true c46
                      clear c46
                      by_cases c47 : x71_3 < (t103.length : Int)
                      · rw [if_pos c47] at H
                        have c47b0 : decide (x71_3 < (t103.length : Int)) = true := decide_eq_true c47
                        clear c47
                        by_cases c48 : (rd t103 x71_3) < 0
                        · rw [if_pos c48] at H
                          have c48b0 : decide ((rd t103 x71_3) < 0) = true := decide_eq_true c48
                          clear c48
                          obtain rfl := Option.some.inj H
                          have p128 : 0 ≤ (x71_3 : Int) := of_decide_eq_true (by first | (with_reducible assumption) | assumption)
                          have q128 : x71_3 < (t103.length : Int) := of_decide_eq_true (by first | (with_reducible assumption) | assumption)
                          obtain ⟨ad128, e128, hx128_0⟩ := Kd.at_int (Kd.R_reads' HO_69.out).2.2 x71_3 p128 q128
                          cases e128
                          replace p128 := eq_true p128
                          replace q128 := eq_true q128
                          go_wp2
                          go_ret
                          exact ⟨by first | rfl | (simp [errW_none, errW_some] <;> rfl) | (simp [*, errW_none, errW_some] <;> rfl), by repeat (first | (with_reducible first | exact HB.out | apply below_alloc | apply pw_below_drewN | apply below_drew1) | exact HB.out)⟩
                        · rw [if_neg c48] at H
                          have c48b0 : decide ((rd t103 x71_3) < 0) = false := decide_eq_false c48
                          clear c48
                          by_cases c49 : x71_3 < (l0.length : Int)
                          · rw [if_pos c49] at H
                            have c49b0 : decide (x71_3 < (l0.length : Int)) = true := decide_eq_true c49
                            clear c49
                            by_cases c50 : (rd t103 x71_3) > ((rd_T37 l0 x71_3).f7)
                            · rw [if_pos c50] at H
                              have c50b0 : decide (((rd_T37 l0 x71_3).f7) < (rd t103 x71_3)) = true := decide_eq_true c50
                              clear c50
                              obtain rfl := Option.some.inj H
                              have p128 : 0 ≤ (x71_3 : Int) := of_decide_eq_true (by first | (with_reducible assumption) | assumption)
                              have q128 : x71_3 < (t103.length : Int) := of_decide_eq_true (by first | (with_reducible assumption) | assumption)
                              obtain ⟨ad128, e128, hx128_0⟩ := Kd.at_int (Kd.R_reads' HO_69.out).2.2 x71_3 p128 q128
                              cases e128
                              replace p128 := eq_true p128
                              replace q128 := eq_true q128
                              have p129 : 0 ≤ (x71_3 : Int) := of_decide_eq_true (by first | (with_reducible assumption) | assumption)
                              have q129 : x71_3 < (l0.length : Int) := of_decide_eq_true (by first | (with_reducible assumption) | assumption)
                              obtain ⟨ad129, e129, hx129_0, hx129_1, hx129_2, hx129_3, hx129_4, hx129_5, hx129_6, hx129_7⟩ := at_T37 HR0.out x71_3 p129 q129
                              cases e129
                              replace hx129_0 := (HB.out.cell (World.block_lt_of_cell? w _ hx129_0)).trans hx129_0
                              replace hx129_1 := (HB.out.cell (World.block_lt_of_cell? w _ hx129_1)).trans hx129_1
                              replace hx129_2 := (HB.out.cell (World.block_lt_of_cell? w _ hx129_2)).trans hx129_2
                              replace hx129_3 := (HB.out.cell (World.block_lt_of_cell? w _ hx129_3)).trans hx129_3
                              replace hx129_4 := (HB.out.cell (World.block_lt_of_cell? w _ hx129_4)).trans hx129_4
                              replace hx129_5 := (HB.out.cell (World.block_lt_of_cell? w _ hx129_5)).trans hx129_5
                              replace hx129_6 := (HB.out.cell (World.block_lt_of_cell? w _ hx129_6)).trans hx129_6
                              replace hx129_7 := (HB.out.cell (World.block_lt_of_cell? w _ hx129_7)).trans hx129_7
                              replace p129 := eq_true p129
                              replace q129 := eq_true q129
                              go_wp2
                              go_ret
                              exact ⟨by first | rfl | (simp [errW_none, errW_some] <;> rfl) | (simp [*, errW_none, errW_some] <;> rfl), by repeat (first | (with_reducible first | exact HB.out | apply below_alloc | apply pw_below_drewN | apply below_drew1) | exact HB.out)⟩
                            · rw [if_neg c50] at H
                              have c50b0 : decide (((rd_T37 l0 x71_3).f7) < (rd t103 x71_3)) = false := decide_eq_false c50
                              clear c50
                              have H' := Aside0.mk H
                              clear H
                              have p128 : 0 ≤ (x71_3 : Int) := of_decide_eq_true (by first | (with_reducible assumption) | assumption)
                              have q128 : x71_3 < (t103.length : Int) := of_decide_eq_true (by first | (with_reducible assumption) | assumption)
                              obtain ⟨ad128, e128, hx128_0⟩ := Kd.at_int (Kd.R_reads' HO_69.out).2.2 x71_3 p128 q128
                              cases e128
                              replace p128 := eq_true p128
                              replace q128 := eq_true q128
                              have p129 : 0 ≤ (x71_3 : Int) := of_decide_eq_true (by first | (with_reducible assumption) | assumption)
                              have q129 : x71_3 < (l0.length : Int) := of_decide_eq_true (by first | (with_reducible assumption) | assumption)
                              obtain ⟨ad129, e129, hx129_0, hx129_1, hx129_2, hx129_3, hx129_4, hx129_5, hx129_6, hx129_7⟩ := at_T37 HR0.out x71_3 p129 q129
                              cases e129
                              replace hx129_0 := (HB.out.cell (World.block_lt_of_cell? w _ hx129_0)).trans hx129_0
                              replace hx129_1 := (HB.out.cell (World.block_lt_of_cell? w _ hx129_1)).trans hx129_1
                              replace hx129_2 := (HB.out.cell (World.block_lt_of_cell? w _ hx129_2)).trans hx129_2
                              replace hx129_3 := (HB.out.cell (World.block_lt_of_cell? w _ hx129_3)).trans hx129_3
                              replace hx129_4 := (HB.out.cell (World.block_lt_of_cell? w _ hx129_4)).trans hx129_4
                              replace hx129_5 := (HB.out.cell (World.block_lt_of_cell? w _ hx129_5)).trans hx129_5
                              replace hx129_6 := (HB.out.cell (World.block_lt_of_cell? w _ hx129_6)).trans hx129_6
                              replace hx129_7 := (HB.out.cell (World.block_lt_of_cell? w _ hx129_7)).trans hx129_7
                              replace p129 := eq_true p129
                              replace q129 := eq_true q129
                              go_wp2
                              go_roundg k3
                              case measure => have := HJ2.out; have := HJ16.out; have := HK3.out; omega
                              case rel => exact ⟨(wrap64 (x71_3 + 1)), (by first | rfl | (simp; done) | (simp [*]; done)), H', ⟨by have := HJ2.out; have := HJ16.out; have := HK3.out; omega⟩, ⟨by (with_reducible repeat (first | apply Kd.R_alloc | apply Kd.R_drewN | apply Kd.R_drew)); exact HO_69.out⟩, ⟨by repeat (first | (with_reducible first | exact HB.out | apply below_alloc | apply pw_below_drewN | apply below_drew1) | exact HB.out)⟩⟩
                          · rw [if_neg c49] at H
                            exact absurd H (by simp)
                      · rw [if_neg c47] at H
                        exact absurd H (by simp)
                    · rw [if_neg c46] at H
                      exact absurd H (by simp)
                  · rw [if_neg c45] at H
                    have c45b0 : decide (x71_3 < (t103.length : Int)) = false := decide_eq_false c45
                    clear c45
                    replace H := Option.bind_eq_some_iff.mp H
                    obtain ⟨t127, A510, H⟩ := H
                    replace H : (some t127) = some r := H
                    have A51 := Aside0.mk A510
                    clear A510
                    obtain rfl := Option.some.inj H
                    go_wp2_with (first | ((with_reducible refine gate_callee (f := 12) rfl ?_); refine goesL_ (some 88) rfl rfl Try.func12 (by kernel_rfl) rfl #[] rfl (by (try simp only [List.map_toArray, List.map_cons, List.map_nil]); first | done | rfl | (simp only [List.length_drop, List.length_take]; rfl)) ?_; (with_reducible refine (merkhetlaw27_fixed.calls k3  t127 _ A51.out).mono ?_); rintro e w52 ⟨rfl, hb⟩; refine ⟨_, rfl, ?_⟩; have n0_ := Aside0.mk (Kd.R_below (by (with_reducible repeat (first | apply Kd.R_alloc | apply Kd.R_drewN | apply Kd.R_drew)); exact HO_69.out) hb); have n1_ := Aside0.mk (below_step (by repeat (first | (with_reducible first | exact HB.out | apply below_alloc | apply pw_below_drewN | apply below_drew1) | exact HB.out)) hb); clear HO_69; clear HB; have HO_69 := n0_; have HB := n1_; clear n0_ n1_; (try clear hb); (try clear hb2); (try clear hk); (try clear hi)))
                    go_ret
                    exact ⟨by first | rfl | (simp [errW_none, errW_some] <;> rfl) | (simp [*, errW_none, errW_some] <;> rfl), by repeat (first | (with_reducible first | exact HB.out | apply below_alloc | apply pw_below_drewN | apply below_drew1) | exact HB.out)⟩

end Go.Proofs.Ytmfdhcgdibefiaa.O

/- How an array of two is read. -/
namespace Go.Proofs.YtmfdhcgdibefiaaW.Open
open Go.RowKit Go.Proofs.YtmfdhcgdibefiaaW.PrintWords Go.ChangeShapes Go.WideShapes
set_option linter.unusedVariables false
end Go.Proofs.YtmfdhcgdibefiaaW.Open

-- Written by wip/tools/row.py, a program of this session. Lean checks it.
namespace Go.Proofs.Ytmfdhcgdibefiaa.R
open Go.RowKit Go.Proofs.YtmfdhcgdibefiaaW.PrintWords Go.Proofs.YtmfdhcgdibefiaaW.Open Go.Proofs.Ytmfdhcgdibefiaa.Q
set_option linter.unusedVariables false
end Go.Proofs.Ytmfdhcgdibefiaa.R

-- Written by wip/tools/row.py, a program of this session. Lean checks it.
namespace Go.Proofs.Ytmfdhcgdibefiaa.O
open Go.RowKit Go.Proofs.YtmfdhcgdibefiaaW.PrintWords Go.Proofs.YtmfdhcgdibefiaaW.Open Go.Proofs.Ytmfdhcgdibefiaa.Q Go.Proofs.Ytmfdhcgdibefiaa.R
set_option linter.unusedVariables false

end Go.Proofs.Ytmfdhcgdibefiaa.O

/- forest.Kids: plain. -/
namespace Go.Proofs.Ytmfdhcgdibefiaa.L
open Go.RowKit Go.Proofs.Ytmfdhcgdibefiaa.Q Go.Proofs.YtmfdhcgdibefiaaW.PrintWords Go.Proofs.YtmfdhcgdibefiaaW.Lib
set_option linter.unusedVariables false

/-- Those of the first k places whose parent a place is. -/
def kidsL (ps : List Int) (x : Int) : Nat → List Int
  | 0 => []
  | k + 1 => if rd ps (k : Int) = x then kidsL ps x k ++ [(k : Int)] else kidsL ps x k
theorem kidsL_len (ps : List Int) (x : Int) : ∀ k, (kidsL ps x k).length ≤ k
  | 0 => Nat.le_refl _
  | k + 1 => by
    have := kidsL_len ps x k
    unfold kidsL
    split
    · rw [List.length_append, List.length_singleton]; omega
    · omega
theorem kidsL_mem (ps : List Int) (x y : Int) : ∀ k, y ∈ kidsL ps x k ↔ 0 ≤ y ∧ y < k ∧ rd ps y = x
  | 0 => by simp only [kidsL, List.not_mem_nil, false_iff]; omega
  | k + 1 => by
    have ih := kidsL_mem ps x y k
    unfold kidsL
    split
    · rename_i c
      rw [List.mem_append, List.mem_singleton, ih]
      constructor
      · rintro (h | h)
        · exact ⟨h.1, by omega, h.2.2⟩
        · rw [h]; exact ⟨by omega, by omega, c⟩
      · rintro ⟨h0, h1, h2⟩
        by_cases e : y = (k : Int)
        · exact .inr e
        · exact .inl ⟨h0, by omega, h2⟩
    · rename_i c
      rw [ih]
      constructor
      · rintro h
        exact ⟨h.1, by omega, h.2.2⟩
      · rintro ⟨h0, h1, h2⟩
        refine ⟨h0, ?_, h2⟩
        by_cases e : y = (k : Int)
        · rw [e] at h2; exact absurd h2 c
        · omega
theorem kids_ev (ps : List Int) (x : Int) (hl : ps.length ≤ 1000000) : Ev (fun k => forest_Kids.f k ps x) (kidsL ps x ps.length) := by
  unfold forest_Kids.f
  have key : ∀ (d i : Nat), ps.length - i = d → i ≤ ps.length → Ev (fun k => forest_Kids.l0 k x (kidsL ps x i) ps (ps.length : Int) (i : Int)) (kidsL ps x ps.length) := by
    intro d
    induction d with
    | zero =>
      intro i hd hi
      obtain rfl : i = ps.length := by omega
      refine Ev.succ ?_
      simp only [forest_Kids.l0]
      exact Ev.neg (by omega) (Ev.now _)
    | succ d ih =>
      intro i hd hi
      have hn := ih (i + 1) (by omega) (by omega)
      have hk := kidsL_len ps x i
      rw [show kidsL ps x (i + 1) = if rd ps (i : Int) = x then kidsL ps x i ++ [(i : Int)] else kidsL ps x i from rfl] at hn
      refine Ev.succ ?_
      simp only [forest_Kids.l0]
      rw [wrap_id (by omega) (by omega)]
      refine Ev.pos (by omega) (Ev.pos (by omega) (Ev.pos (by omega) (Ev.ite (fun c => Ev.pos (by omega) ?_) (fun c => ?_))))
      · rw [if_pos c] at hn
        exact hn
      · rw [if_neg c] at hn
        exact hn
  exact key ps.length 0 (by omega) (by omega)
end Go.Proofs.Ytmfdhcgdibefiaa.L

/- The document's May of many spans, plain. -/
namespace Go.Proofs.Ytmfdhcgdibefiaa.L
open Go.RowKit Go.Proofs.Ytmfdhcgdibefiaa.Q Go.Proofs.YtmfdhcgdibefiaaW.PrintWords Go.Proofs.YtmfdhcgdibefiaaW.PrintLast Go.Proofs.YtmfdhcgdibefiaaW.PrintMore Go.Proofs.YtmfdhcgdibefiaaW.Lib
set_option linter.unusedVariables false

theorem rmay18_ev (l : List S37) (hl : l.length ≤ 1000000000) (hf : ∀ s ∈ l, fitR s) : Ev (fun k => merkhetref18_May.f k l) (mayA l) := by
  unfold merkhetref18_May.f
  have key : ∀ (d i : Nat), l.length - i = d → i ≤ l.length → Ev (fun k => merkhetref18_May.l0 k l (i : Int)) ((l.drop i).all mayS) := by
    intro d
    induction d with
    | zero =>
      intro i hd hi
      refine Ev.succ ?_
      simp only [merkhetref18_May.l0]
      rw [List.drop_of_length_le (by omega)]
      exact Ev.neg (by omega) (Ev.now _)
    | succ d ih =>
      intro i hd hi
      have hlt : i < l.length := by omega
      have hr : rd_T37 l (i : Int) = l[i] := by simp [rd_T37, List.getD, hlt]
      have h1 := ih (i + 1) (by omega) (by omega)
      have h2 := rmayS_ev l[i] (hf _ (List.getElem_mem hlt))
      refine Ev.succ ?_
      simp only [merkhetref18_May.l0, hr]
      rw [List.drop_eq_getElem_cons hlt, List.all_cons]
      refine Ev.pos (by omega) (Ev.pos (by omega) (Ev.bind h2 (Ev.ite (fun h => ?_) (fun h => ?_))))
      · rw [wrap_id (by omega) (by omega)]
        refine Ev.cast h1 ?_
        rw [h]; simp
      · refine Ev.cast (Ev.now _) ?_
        rw [Bool.eq_false_iff.2 h]; simp
  exact key l.length 0 (by omega) (by omega)
end Go.Proofs.Ytmfdhcgdibefiaa.L

/- The document's Same of whole numbers, plain. -/
namespace Go.Proofs.Ytmfdhcgdibefiaa.L
open Go.RowKit Go.Proofs.Ytmfdhcgdibefiaa.Q Go.Proofs.YtmfdhcgdibefiaaW.PrintWords Go.Proofs.YtmfdhcgdibefiaaW.PrintLast Go.Proofs.YtmfdhcgdibefiaaW.PrintMore Go.Proofs.YtmfdhcgdibefiaaW.Lib
set_option linter.unusedVariables false

theorem same15_ev (a b : List Int) (ha : a.length ≤ 1000000000) : ∃ r, Ev (fun k => merkhetref15_Same.f k a b) r ∧ (r = true ↔ a = b) := by
  unfold merkhetref15_Same.f
  by_cases h : (a.length : Int) = (b.length : Int)
  · have key : ∀ (d i : Nat), a.length - i = d → i ≤ a.length → ∃ r, Ev (fun k => merkhetref15_Same.l0 k a b (i : Int)) r ∧ (r = true ↔ a.drop i = b.drop i) := by
      intro d
      induction d with
      | zero =>
        intro i hd hi
        refine ⟨true, Ev.succ ?_, ?_⟩
        · simp only [merkhetref15_Same.l0]
          exact Ev.neg (by omega) (Ev.now _)
        · rw [List.drop_of_length_le (by omega), List.drop_of_length_le (by omega)]
          simp
      | succ d ih =>
        intro i hd hi
        have hil : i < a.length := by omega
        have hib : i < b.length := by omega
        have hr : rd a (i : Int) = a[i] := by simp [rd, List.getD, hil]
        have hr2 : rd b (i : Int) = b[i] := by simp [rd, List.getD, hib]
        obtain ⟨r, h1, h2⟩ := ih (i + 1) (by omega) (by omega)
        have ea := List.drop_eq_getElem_cons hil
        have eb := List.drop_eq_getElem_cons hib
        by_cases e : a[i] = b[i]
        · refine ⟨r, Ev.succ ?_, ?_⟩
          · simp only [merkhetref15_Same.l0, hr, hr2]
            refine Ev.pos (by omega) (Ev.pos (by omega) (Ev.pos (by omega) (Ev.pos e ?_)))
            rw [wrap_id (by omega) (by omega)]
            exact h1
          · rw [h2, ea, eb, List.cons.injEq]
            exact ⟨fun h => ⟨e, h⟩, fun h => h.2⟩
        · refine ⟨false, Ev.succ ?_, ?_⟩
          · simp only [merkhetref15_Same.l0, hr, hr2]
            exact Ev.pos (by omega) (Ev.pos (by omega) (Ev.pos (by omega) (Ev.neg e (Ev.now _))))
          · rw [ea, eb, List.cons.injEq]
            exact ⟨fun h => absurd h (by simp), fun h => absurd h.1 e⟩
    obtain ⟨r, h1, h2⟩ := key a.length 0 (by omega) (by omega)
    exact ⟨r, Ev.pos h h1, by simpa using h2⟩
  · refine ⟨false, Ev.neg h (Ev.now _), ⟨by simp, ?_⟩⟩
    rintro rfl
    exact absurd rfl h
theorem same15_self (a : List Int) (ha : a.length ≤ 1000000000) : Ev (fun k => merkhetref15_Same.f k a a) true := by
  obtain ⟨r, h1, h2⟩ := same15_ev a a ha
  exact Ev.cast h1 (h2.2 rfl)
end Go.Proofs.Ytmfdhcgdibefiaa.L

/- Spans' own times, plain: the code's, and the document's. -/
namespace Go.Proofs.Ytmfdhcgdibefiaa.L
open Go.RowKit Go.Proofs.Ytmfdhcgdibefiaa.Q Go.Proofs.Ytmfdhcgdibefiaa.R Go.Proofs.YtmfdhcgdibefiaaW.PrintWords Go.Proofs.YtmfdhcgdibefiaaW.PrintLast Go.Proofs.YtmfdhcgdibefiaaW.PrintMore Go.Proofs.YtmfdhcgdibefiaaW.Lib
set_option linter.unusedVariables false

abbrev SpD := S37
abbrev StD := S26
def prS (s : StD) : Int × Int := (s.f0, s.f1)
/-- A kid's stretch within its parent's. -/
def kidS (l : List SpD) (i k : Int) : StD := ⟨mx (rd_T37 l k).f6 (rd_T37 l i).f6, mn (wrap64 ((rd_T37 l k).f6 + (rd_T37 l k).f7)) (wrap64 ((rd_T37 l i).f6 + (rd_T37 l i).f7))⟩
def kidsP (l : List SpD) (ps : List Int) (i : Int) : List StD := (kidsL ps i ps.length).map (kidS l i)
def ownAt (l : List SpD) (ps : List Int) (i : Int) : Int := wrap64 ((rd_T37 l i).f7 - wrap64 (coverN ((kidsP l ps i).map prS) : Int))
def ownR (l : List SpD) (ps : List Int) : List Int := (List.range l.length).map (fun i : Nat => ownAt l ps i)
def ownL (l : List SpD) (ps : List Int) : List Int × Bool := if l.length = ps.length ∧ rightB ps = true ∧ mayA l = true then (ownR l ps, true) else ([], false)
theorem ownR_len (l : List SpD) (ps : List Int) : (ownR l ps).length = l.length := by simp [ownR]
theorem ownR_next (l : List SpD) (ps : List Int) (i : Nat) (hi : i < l.length) : (ownR l ps).take (i + 1) = (ownR l ps).take i ++ [ownAt l ps i] := by
  rw [List.take_succ_eq_append_getElem (by rw [ownR_len]; exact hi)]
  simp [ownR]
theorem ownL_no {l : List SpD} {ps : List Int} (h : ¬ (l.length = ps.length ∧ rightB ps = true ∧ mayA l = true)) : ownL l ps = ([], false) := by unfold ownL; rw [if_neg h]
theorem not_anyM (l : List SpD) : l.any (fun s => !mayS s) = !mayA l := by
  unfold mayA
  induction l with
  | nil => rfl
  | cons x l ih => rw [List.any_cons, List.all_cons, ih, Bool.not_and]
theorem mayA_at {l : List SpD} (h : mayA l = true) {i : Int} (h0 : 0 ≤ i) (h1 : i < l.length) : 0 ≤ (rd_T37 l i).f6 ∧ (rd_T37 l i).f6 < 1125899906842624 ∧ 0 ≤ (rd_T37 l i).f7 ∧ (rd_T37 l i).f7 ≤ 1125899906842624 := by
  have hx : i.toNat < l.length := by omega
  have e : rd_T37 l i = l[i.toNat] := by simp [rd_T37, List.getD, hx]
  rw [e]
  exact mayB_le (List.all_eq_true.1 h _ (List.getElem_mem hx))
theorem kidS_in {l : List SpD} (h : mayA l = true) {i k : Int} (h0 : 0 ≤ i) (h1 : i < l.length) (h2 : 0 ≤ k) (h3 : k < l.length) : inI ((kidS l i k).f0, (kidS l i k).f1) ∧ (rd_T37 l i).f6 ≤ (kidS l i k).f0 ∧ (kidS l i k).f1 ≤ (rd_T37 l i).f6 + (rd_T37 l i).f7 := by
  have a := mayA_at h h0 h1
  have b := mayA_at h h2 h3
  unfold kidS inI loI hiI mx mn
  dsimp only
  rw [wrap_id (by omega) (by omega), wrap_id (by omega) (by omega)]
  split <;> split <;> omega
theorem kidsP_mem {l : List SpD} (h : mayA l = true) {ps : List Int} (hl : l.length = ps.length) {i : Int} (h0 : 0 ≤ i) (h1 : i < l.length) : ∀ s ∈ kidsP l ps i, inI (s.f0, s.f1) ∧ (rd_T37 l i).f6 ≤ s.f0 ∧ s.f1 ≤ (rd_T37 l i).f6 + (rd_T37 l i).f7 := by
  intro s hs
  obtain ⟨k, hk, rfl⟩ := List.mem_map.1 hs
  obtain ⟨k0, k1, _⟩ := (kidsL_mem ps i k ps.length).1 hk
  exact kidS_in h h0 h1 k0 (by omega)
theorem cover_within {l : List (Int × Int)} {a b : Int} (hab : loI ≤ a ∧ a ≤ hiI ∧ loI ≤ b ∧ b ≤ hiI) (h : ∀ s ∈ l, a ≤ s.1 ∧ s.2 ≤ b) : coverN l ≤ (b - a).toNat := by
  rw [← coverN_one (s := (a, b)) hab]
  refine cnt_le fun x hx => ?_
  obtain ⟨s, hs, c1, c2⟩ := covB_iff.1 hx
  have := h s hs
  exact covB_iff.2 ⟨(a, b), List.mem_singleton.2 rfl, by dsimp only; omega, by dsimp only; omega⟩
/-- A span's own time: from 0 to Dur. -/
theorem ownAt_in {l : List SpD} (h : mayA l = true) {ps : List Int} (hl : l.length = ps.length) {i : Int} (h0 : 0 ≤ i) (h1 : i < l.length) : 0 ≤ ownAt l ps i ∧ ownAt l ps i ≤ (rd_T37 l i).f7 := by
  have a := mayA_at h h0 h1
  have hc : coverN ((kidsP l ps i).map prS) ≤ ((rd_T37 l i).f6 + (rd_T37 l i).f7 - (rd_T37 l i).f6).toNat := by
    refine cover_within (by unfold loI hiI; omega) ?_
    intro s hs
    obtain ⟨t, ht, rfl⟩ := List.mem_map.1 hs
    exact (kidsP_mem h hl h0 h1 t ht).2
  unfold ownAt
  rw [wrap_id (i := (coverN _ : Int)) (by omega) (by omega), wrap_id (by omega) (by omega)]
  omega
set_option maxHeartbeats 1000000 in
theorem own_ev (l : List SpD) (ps : List Int) (hl : l.length ≤ 1000000) (hps : ps.length ≤ 1000000) (hf : ∀ s ∈ l, fitS s) : Ev (fun k => stats_Own.f k l ps) (ownL l ps) := by
  unfold stats_Own.f
  have skip : ownL l ps = ([], false) → Ev (fun k => stats_Own.j0 k l ps true) (ownL l ps) := by
    intro h
    rw [h]
    refine Ev.succ ?_
    simp only [stats_Own.j0]
    exact Ev.pos trivial (Ev.now _)
  refine Ev.ite (fun he => ?_) (fun he => skip (ownL_no (fun h => he (by omega))))
  refine Ev.bind (a := rightB ps) (Ev.const (by unfold parent_Right.f; rw [if_pos hps])) (Ev.ite (fun hr => ?_) (fun hr => skip (ownL_no (fun h => hr h.2.1))))
  refine Ev.bind (a := !mayA l) (Ev.const (by unfold stats_Own_1.f; rw [if_pos ⟨by omega, hf⟩, not_anyM])) ?_
  cases hm : mayA l with
  | false => exact skip (ownL_no (fun h => by rw [hm] at h; exact absurd h.2.2 (by simp)))
  | true =>
    have hlen : l.length = ps.length := by omega
    have hres : ownL l ps = (ownR l ps, true) := by unfold ownL; rw [if_pos ⟨hlen, hr, hm⟩]
    rw [hres]
    refine Ev.succ ?_
    simp only [stats_Own.j0, Bool.not_true]
    refine Ev.neg (by simp) ?_
    have outer : ∀ (d i : Nat), l.length - i = d → i ≤ l.length → Ev (fun k => stats_Own.l0 k l ps ((ownR l ps).take i) l (l.length : Int) (i : Int)) (ownR l ps, true) := by
      intro d
      induction d with
      | zero =>
        intro i hd hi
        refine Ev.succ ?_
        simp only [stats_Own.l0]
        refine Ev.neg (by omega) (Ev.cast (Ev.now _) ?_)
        rw [List.take_of_length_le (by rw [ownR_len]; omega)]
      | succ d ih =>
        intro i hd hi
        have hlt : i < l.length := by omega
        have hn := ih (i + 1) (by omega) (by omega)
        rw [ownR_next l ps i hlt] at hn
        have htl : ((ownR l ps).take i).length ≤ l.length := by rw [List.length_take, ownR_len]; omega
        have hkl := kidsL_len ps (i : Int) ps.length
        have hpl : (kidsP l ps (i : Int)).length = (kidsL ps (i : Int) ps.length).length := by simp [kidsP]
        have hkm := kidsP_mem hm hlen (i := (i : Int)) (by omega) (by omega)
        generalize hsp : rd_T37 l (i : Int) = s at *
        have inner : ∀ (e j : Nat), (kidsL ps (i : Int) ps.length).length - j = e → j ≤ (kidsL ps (i : Int) ps.length).length → Ev (fun k => stats_Own.l1 k l ps ((ownR l ps).take i) ((kidsP l ps (i : Int)).take j) l (l.length : Int) (i : Int) (kidsL ps (i : Int) ps.length) ((kidsL ps (i : Int) ps.length).length : Int) (j : Int) s.f0 s.f1 s.f2 s.f3 s.f4 s.f5 s.f6 s.f7) (ownR l ps, true) := by
          intro e
          induction e with
          | zero =>
            intro j hj1 hj2
            refine Ev.succ ?_
            simp only [stats_Own.l1]
            refine Ev.neg (by omega) ?_
            rw [List.take_of_length_le (show (kidsP l ps (i : Int)).length ≤ j by omega)]
            refine Ev.bind (a := (coverN ((kidsP l ps (i : Int)).map prS) : Int)) (Ev.const (by unfold stats_Cover.f; rw [if_pos ⟨by omega, fun t ht => (hkm t ht).1⟩]; rfl)) (Ev.pos (by omega) ?_)
            rw [wrap_id (i := (i : Int) + 1) (by omega) (by omega)]
            have hoa : ownAt l ps (i : Int) = wrap64 (s.f7 - wrap64 (coverN ((kidsP l ps (i : Int)).map prS) : Int)) := by unfold ownAt; rw [hsp]
            rw [← hoa]
            exact hn
          | succ e ihe =>
            intro j hj1 hj2
            have hjl : j < (kidsL ps (i : Int) ps.length).length := by omega
            have hn2 := ihe (j + 1) (by omega) (by omega)
            have hr2 : rd (kidsL ps (i : Int) ps.length) (j : Int) = (kidsL ps (i : Int) ps.length)[j] := by simp [rd, List.getD, hjl]
            obtain ⟨k0, k1, _⟩ := (kidsL_mem ps (i : Int) _ ps.length).1 (List.getElem_mem hjl)
            have htk : (kidsP l ps (i : Int)).take (j + 1) = (kidsP l ps (i : Int)).take j ++ [kidS l (i : Int) (kidsL ps (i : Int) ps.length)[j]] := by
              rw [List.take_succ_eq_append_getElem (by omega)]
              simp [kidsP]
            have hks : kidS l (i : Int) (kidsL ps (i : Int) ps.length)[j] = ⟨mx (rd_T37 l (kidsL ps (i : Int) ps.length)[j]).f6 s.f6, mn (wrap64 ((rd_T37 l (kidsL ps (i : Int) ps.length)[j]).f6 + (rd_T37 l (kidsL ps (i : Int) ps.length)[j]).f7)) (wrap64 (s.f6 + s.f7))⟩ := by unfold kidS; rw [hsp]
            rw [htk, hks] at hn2
            have hl9 : ((kidsP l ps (i : Int)).take j).length ≤ ps.length := by rw [List.length_take]; omega
            refine Ev.succ ?_
            simp only [stats_Own.l1, hr2]
            refine Ev.pos (by omega) (Ev.pos (by omega) (Ev.pos (by omega) (Ev.pos k0 (Ev.pos (by omega) (Ev.pos (by omega) ?_)))))
            rw [wrap_id (i := (j : Int) + 1) (by omega) (by omega)]
            exact hn2
        refine Ev.succ ?_
        simp only [stats_Own.l0, hsp]
        exact Ev.pos (by omega) (Ev.pos (by omega) (Ev.pos (by omega) (Ev.bind (kids_ev ps (i : Int) hps) (inner _ 0 rfl (by omega)))))
    exact outer l.length 0 (by omega) (by omega)
end Go.Proofs.Ytmfdhcgdibefiaa.L

/- Spans' rows, read at a place. -/
namespace Go.Proofs.Ytmfdhcgdibefiaa.L
open Go.RowKit Go.Proofs.Ytmfdhcgdibefiaa.Q Go.Proofs.YtmfdhcgdibefiaaW.PrintWords
set_option linter.unusedVariables false

abbrev Span := S37
theorem rdS_nat (l : List Span) (i : Nat) (h : i < l.length) : rd_T37 l (i : Int) = l[i] := by simp [rd_T37, List.getD, h]
end Go.Proofs.Ytmfdhcgdibefiaa.L

/- The guard of layer 4, as plain lists. -/
namespace Go.Proofs.Ytmfdhcgdibefiaa.L
open Go.RowKit Go.Proofs.Ytmfdhcgdibefiaa.Q Go.Proofs.YtmfdhcgdibefiaaW.PrintWords Go.Proofs.YtmfdhcgdibefiaaW.PrintLast Go.Proofs.YtmfdhcgdibefiaaW.PrintMore Go.Proofs.YtmfdhcgdibefiaaW.Lib
set_option linter.unusedVariables false

theorem great_ev (l : List Span) : ∃ b, Ev (fun k => merkhetlaw04_Great.f k l) b ∧ (b = false → l.length ≤ 60 ∧ ∀ x ∈ l, x.f4.size ≤ 100 ∧ x.f5.size ≤ 100) := by
  unfold merkhetlaw04_Great.f
  by_cases h : (l.length : Int) > 60
  · exact ⟨true, Ev.pos h (Ev.now _), by simp⟩
  · have key : ∀ (d i : Nat), l.length - i = d → i ≤ l.length → ∃ b, Ev (fun k => merkhetlaw04_Great.l0 k l (l.length : Int) (i : Int)) b ∧ (b = false → ∀ x ∈ l.drop i, x.f4.size ≤ 100 ∧ x.f5.size ≤ 100) := by
      intro d
      induction d with
      | zero =>
        intro i hd hi
        refine ⟨false, Ev.succ ?_, fun _ x hx => ?_⟩
        · simp only [merkhetlaw04_Great.l0]
          exact Ev.neg (by omega) (Ev.now _)
        · rw [List.drop_of_length_le (by omega)] at hx; cases hx
      | succ d ih =>
        intro i hd hi
        have hil : i < l.length := by omega
        obtain ⟨b, hb, hb2⟩ := ih (i + 1) (by omega) (by omega)
        by_cases h4 : ((l[i].f4.size : Nat) : Int) > 100
        · refine ⟨true, Ev.succ ?_, by simp⟩
          simp only [merkhetlaw04_Great.l0, rdS_nat l i hil]
          exact Ev.pos (by omega) (Ev.pos (by omega) (Ev.pos (by omega) (Ev.pos h4 (Ev.now _))))
        · by_cases h5 : ((l[i].f5.size : Nat) : Int) > 100
          · refine ⟨true, Ev.succ ?_, by simp⟩
            simp only [merkhetlaw04_Great.l0, rdS_nat l i hil]
            exact Ev.pos (by omega) (Ev.pos (by omega) (Ev.pos (by omega) (Ev.neg h4 (Ev.pos h5 (Ev.now _)))))
          · refine ⟨b, Ev.succ ?_, fun e x hx => ?_⟩
            · simp only [merkhetlaw04_Great.l0, rdS_nat l i hil]
              refine Ev.pos (by omega) (Ev.pos (by omega) (Ev.pos (by omega) (Ev.neg h4 (Ev.neg h5 ?_))))
              rw [wrap_id (by omega) (by omega)]
              exact hb
            · rw [List.drop_eq_getElem_cons hil] at hx
              rcases List.mem_cons.1 hx with rfl | hx
              · omega
              · exact hb2 e x hx
    obtain ⟨b, hb, hb2⟩ := key l.length 0 (by omega) (by omega)
    refine ⟨b, Ev.neg h hb, fun e => ⟨by omega, fun x hx => hb2 e x (by simpa using hx)⟩⟩

end Go.Proofs.Ytmfdhcgdibefiaa.L

/- The document's own times, plain; the chapter's example. -/
namespace Go.Proofs.Ytmfdhcgdibefiaa.L
open Go.RowKit Go.Proofs.Ytmfdhcgdibefiaa.Q Go.Proofs.Ytmfdhcgdibefiaa.R Go.Proofs.YtmfdhcgdibefiaaW.PrintWords Go.Proofs.YtmfdhcgdibefiaaW.PrintLast Go.Proofs.YtmfdhcgdibefiaaW.PrintMore Go.Proofs.YtmfdhcgdibefiaaW.Lib
set_option linter.unusedVariables false

theorem mn_pos {a b : Int} (h : b < a) : mn a b = b := if_pos h
theorem mn_neg {a b : Int} (h : ¬ b < a) : mn a b = a := if_neg h
theorem mx_pos {a b : Int} (h : a < b) : mx a b = b := if_pos h
theorem mx_neg {a b : Int} (h : ¬ a < b) : mx a b = a := if_neg h
theorem rright19_ev (l : List SpD) (ps : List Int) (hl : l.length ≤ 1000000) (hps : ps.length ≤ 1000000) (hf : ∀ s ∈ l, fitR s) : Ev (fun k => merkhetref19_Right.f k l ps) (decide (l.length = ps.length) && rightB ps && mayA l) := by
  unfold merkhetref19_Right.f
  refine Ev.ite (fun he => ?_) (fun he => Ev.cast (Ev.now _) (by rw [decide_eq_false (fun h => he (by omega))]; rfl))
  rw [decide_eq_true (show l.length = ps.length by omega), Bool.true_and]
  refine Ev.bind (rright_ev ps (by omega)) (Ev.ite (fun hr => ?_) (fun hr => Ev.cast (Ev.now _) (by rw [Bool.eq_false_iff.2 hr]; rfl)))
  rw [hr, Bool.true_and]
  exact Ev.cast (Ev.bind (rmay18_ev l (by omega) hf) (Ev.now _)) rfl
set_option maxHeartbeats 1000000 in
theorem rown_ev (l : List SpD) (ps : List Int) (hl : l.length ≤ 1000000) (hps : ps.length ≤ 1000000) (hf : ∀ s ∈ l, fitR s) : Ev (fun k => merkhetref27_Own.f k l ps) (ownL l ps) := by
  unfold merkhetref27_Own.f
  refine Ev.bind (rright19_ev l ps hl hps hf) ?_
  by_cases hall : l.length = ps.length ∧ rightB ps = true ∧ mayA l = true
  rotate_left
  · have e : (decide (l.length = ps.length) && rightB ps && mayA l) = false := by
      rw [Bool.eq_false_iff]
      intro h
      rw [Bool.and_eq_true, Bool.and_eq_true, decide_eq_true_eq] at h
      exact hall ⟨h.1.1, h.1.2, h.2⟩
    rw [e, ownL_no hall]
    exact Ev.neg (by simp) (Ev.now _)
  have hres : ownL l ps = (ownR l ps, true) := by unfold ownL; rw [if_pos hall]
  obtain ⟨hlen, hr, hm⟩ := hall
  rw [hr, hm, decide_eq_true hlen, hres]
  refine Ev.pos rfl ?_
  have outer : ∀ (d i : Nat), l.length - i = d → i ≤ l.length → Ev (fun k => merkhetref27_Own.l0 k l ps ((ownR l ps).take i) (i : Int)) (ownR l ps, true) := by
    intro d
    induction d with
    | zero =>
      intro i hd hi
      refine Ev.succ ?_
      simp only [merkhetref27_Own.l0]
      refine Ev.neg (by omega) (Ev.cast (Ev.now _) ?_)
      rw [List.take_of_length_le (by rw [ownR_len]; omega)]
    | succ d ih =>
      intro i hd hi
      have hlt : i < l.length := by omega
      have hn := ih (i + 1) (by omega) (by omega)
      rw [ownR_next l ps i hlt] at hn
      have htl : ((ownR l ps).take i).length ≤ l.length := by rw [List.length_take, ownR_len]; omega
      have hkl := kidsL_len ps (i : Int) ps.length
      have hpl : (kidsP l ps (i : Int)).length = (kidsL ps (i : Int) ps.length).length := by simp [kidsP]
      have hkm := kidsP_mem hm hlen (i := (i : Int)) (by omega) (by omega)
      generalize hsp : rd_T37 l (i : Int) = s at *
      have inner : ∀ (e j : Nat), l.length - j = e → j ≤ l.length → Ev (fun k => merkhetref27_Own.l1 k l ps ((ownR l ps).take i) (i : Int) ((kidsL ps (i : Int) j).map (kidS l (i : Int))) (j : Int)) (ownR l ps, true) := by
        intro e
        induction e with
        | zero =>
          intro j hj1 hj2
          obtain rfl : j = ps.length := by omega
          refine Ev.succ ?_
          simp only [merkhetref27_Own.l1, hsp]
          refine Ev.neg (by omega) (Ev.pos (by omega) (Ev.pos (by omega) ?_))
          refine Ev.bind (a := (coverN ((kidsP l ps (i : Int)).map prS) : Int)) (Ev.const (by unfold merkhetref27_Cover.f; rw [if_pos ⟨by rw [List.length_map]; omega, fun t ht => (hkm t ht).1⟩]; rfl)) (Ev.pos (by omega) ?_)
          rw [wrap_id (i := (i : Int) + 1) (by omega) (by omega)]
          have hoa : ownAt l ps (i : Int) = wrap64 (s.f7 - wrap64 (coverN ((kidsP l ps (i : Int)).map prS) : Int)) := by unfold ownAt; rw [hsp]
          rw [← hoa]
          exact hn
        | succ e ihe =>
          intro j hj1 hj2
          have hjl : j < l.length := by omega
          have hn2 := ihe (j + 1) (by omega) (by omega)
          have hkj := kidsL_len ps (i : Int) j
          have HW := Aside0.mk (show wrap64 ((j : Int) + 1) = ((j + 1 : Nat) : Int) from by rw [wrap_id (by omega) (by omega)]; rfl)
          have hks : kidS l (i : Int) (j : Int) = ⟨mx (rd_T37 l (j : Int)).f6 s.f6, mn (wrap64 ((rd_T37 l (j : Int)).f6 + (rd_T37 l (j : Int)).f7)) (wrap64 (s.f6 + s.f7))⟩ := by unfold kidS; rw [hsp]
          by_cases c : rd ps (j : Int) = (i : Int)
          · have e1 : kidsL ps (i : Int) (j + 1) = kidsL ps (i : Int) j ++ [(j : Int)] := by
              show (if _ then _ else _) = _
              rw [if_pos c]
            rw [e1, List.map_append, List.map_singleton, hks] at hn2
            have hl8 : ((kidsL ps (i : Int) j).map (kidS l (i : Int))).length < 8796093022208 := by rw [List.length_map]; omega
            have fin : ∀ (x10 : Int), x10 = mx (rd_T37 l (j : Int)).f6 s.f6 → Ev (fun k => merkhetref27_Own.j2 k l ps ((ownR l ps).take i) (i : Int) ((kidsL ps (i : Int) j).map (kidS l (i : Int))) (j : Int) x10 (wrap64 ((rd_T37 l (j : Int)).f6 + (rd_T37 l (j : Int)).f7))) (ownR l ps, true) := by
              intro x10 h10
              rw [h10]
              clear h10 x10
              refine Ev.succ ?_
              simp only [merkhetref27_Own.j2, hsp]
              refine Ev.pos (by omega) (Ev.pos (by omega) (Ev.ite (fun g => ?_) (fun g => ?_)))
              · rw [mn_pos g] at hn2
                refine Ev.pos hl8 ?_
                rw [HW.out]
                exact hn2
              · rw [mn_neg g] at hn2
                refine Ev.pos hl8 ?_
                rw [HW.out]
                exact hn2
            refine Ev.succ ?_
            simp only [merkhetref27_Own.l1, hsp]
            refine Ev.pos (by omega) (Ev.pos (by omega) (Ev.pos (by omega) (Ev.pos c (Ev.pos (by omega) (Ev.pos (by omega) (Ev.ite (fun g => ?_) (fun g => ?_)))))))
            · exact fin _ (mx_pos g).symm
            · exact fin _ (mx_neg g).symm
          · have e1 : kidsL ps (i : Int) (j + 1) = kidsL ps (i : Int) j := by
              show (if _ then _ else _) = _
              rw [if_neg c]
            rw [e1] at hn2
            refine Ev.succ ?_
            simp only [merkhetref27_Own.l1]
            refine Ev.pos (by omega) (Ev.pos (by omega) (Ev.pos (by omega) (Ev.neg c ?_)))
            rw [HW.out]
            exact hn2
      refine Ev.succ ?_
      simp only [merkhetref27_Own.l0]
      exact Ev.pos (by omega) (inner _ 0 rfl (by omega))
  exact outer l.length 0 (by omega) (by omega)
def exO : List SpD := [⟨1, 1, 0, 0, ⟨#[97]⟩, ⟨#[98]⟩, 0, 10⟩, ⟨1, 2, 0, 0, ⟨#[97]⟩, ⟨#[98]⟩, 2, 2⟩, ⟨1, 3, 0, 0, ⟨#[97]⟩, ⟨#[98]⟩, 3, 9⟩]
theorem cover_ex {l : List (Int × Int)} (hi : ∀ s ∈ l, inI s) (hp : l.Pairwise (fun a b => a.1 ≤ b.1)) {n : Int} (h : (l.foldl covStep (0, loI)).1 = n) : (coverN l : Int) = n := (fold_cover hi hp).symm.trans h
theorem exO_own : ownL exO [-1, 0, 0] = ([2, 2, 9], true) := by
  unfold ownL
  rw [if_pos ⟨rfl, by decide, by decide⟩]
  have k0 : (kidsP exO [-1, 0, 0] 0).map prS = [(2, 4), (3, 10)] := by kernel_rfl
  have k1 : (kidsP exO [-1, 0, 0] 1).map prS = [] := by kernel_rfl
  have k2 : (kidsP exO [-1, 0, 0] 2).map prS = [] := by kernel_rfl
  have c0 : (coverN [(2, 4), (3, 10)] : Int) = 8 := cover_ex (by decide) (by decide) (by decide)
  have c1 : (coverN [] : Int) = 0 := cover_ex (by decide) (by decide) (by decide)
  have e : ownR exO [-1, 0, 0] = [ownAt exO [-1, 0, 0] 0, ownAt exO [-1, 0, 0] 1, ownAt exO [-1, 0, 0] 2] := rfl
  rw [e]
  unfold ownAt
  rw [k0, k1, k2, c0, c1, show (rd_T37 exO 0).f7 = 10 from rfl, show (rd_T37 exO 1).f7 = 2 from rfl, show (rd_T37 exO 2).f7 = 9 from rfl]
  rw [show wrap64 (10 - wrap64 8) = 2 by unfold wrap64; omega, show wrap64 (2 - wrap64 0) = 2 by unfold wrap64; omega, show wrap64 (9 - wrap64 0) = 9 by unfold wrap64; omega]
theorem fixed27 : Ev (fun k => merkhetlaw27_fixed.f k) true := by
  unfold merkhetlaw27_fixed.f merkhetlaw27_fixed_1.f
  refine Ev.bind (Ev.now _) (Ev.bind (Ev.now _) (Ev.bind (Ev.now _) ?_))
  refine Ev.bind (a := ownL exO [-1, 0, 0]) (own_ev exO [-1, 0, 0] (by decide) (by decide) (by decide)) ?_
  rw [exO_own]
  have c : (coverN [(1, 5), (3, 8)] : Int) = 7 := cover_ex (by decide) (by decide) (by decide)
  refine Ev.bind (a := 7) (Ev.const (by unfold stats_Cover.f; rw [if_pos ⟨by decide, by decide⟩]; exact congrArg some c)) (Ev.pos rfl (Ev.pos rfl (Ev.bind (same15_self _ (by decide)) (Ev.now _))))
end Go.Proofs.Ytmfdhcgdibefiaa.L

/- The document's parents, as a plain list. -/
namespace Go.Proofs.Ytmfdhcgdibefiaa.L
open Go.RowKit Go.Proofs.Ytmfdhcgdibefiaa.Q Go.Proofs.YtmfdhcgdibefiaaW.PrintWords Go.Proofs.YtmfdhcgdibefiaaW.PrintLast Go.Proofs.YtmfdhcgdibefiaaW.PrintMore Go.Proofs.YtmfdhcgdibefiaaW.Lib
set_option linter.unusedVariables false

/-- So many parents up. -/
def upP (ps : List Int) (at_ : Int) : Nat → Int
  | 0 => at_
  | n + 1 => if at_ ≥ 0 then upP ps (rd ps at_) n else at_
def inP (n : Nat) (ps : List Int) : Prop := ∀ x ∈ ps, -1 ≤ x ∧ x < n
theorem inP_rd {ps : List Int} (h : inP ps.length ps) (x : Int) (h0 : 0 ≤ x) (h1 : x < ps.length) : -1 ≤ rd ps x ∧ rd ps x < ps.length := by
  have hx : x.toNat < ps.length := by omega
  have e : rd ps x = ps[x.toNat] := by simp [rd, List.getD, hx]
  rw [e]
  exact h _ (List.getElem_mem hx)
theorem up_ev (ps : List Int) (hp : inP ps.length ps) (n : Nat) (hn : n ≤ 1000000000) : ∀ (d i : Nat) (a : Int), n - i = d → i ≤ n → -1 ≤ a → a < ps.length → Ev (fun k => merkhetref10_up.l0 k ps a (n : Int) (i : Int)) (upP ps a d) := by
  intro d
  induction d with
  | zero =>
    intro i a hd hi h0 h1
    refine Ev.succ ?_
    simp only [merkhetref10_up.l0]
    exact Ev.neg (by omega) (Ev.now _)
  | succ d ih =>
    intro i a hd hi h0 h1
    refine Ev.succ ?_
    simp only [merkhetref10_up.l0]
    refine Ev.pos (by omega) ?_
    by_cases h : a ≥ 0
    · have hr := inP_rd hp a h h1
      have h2 := ih (i + 1) (rd ps a) (by omega) (by omega) hr.1 hr.2
      refine Ev.pos h (Ev.pos h (Ev.pos h1 ?_))
      rw [wrap_id (by omega) (by omega)]
      exact Ev.cast h2 (by simp only [upP]; rw [if_pos h])
    · exact Ev.neg h (Ev.cast (Ev.now _) (by simp only [upP]; rw [if_neg h]))
theorem upf_ev (ps : List Int) (hp : inP ps.length ps) (n : Nat) (hn : n ≤ 1000000000) (a : Int) (h0 : -1 ≤ a) (h1 : a < ps.length) : Ev (fun k => merkhetref10_up.f k ps a (n : Int)) (upP ps a n) := up_ev ps hp n hn n 0 a (by omega) (by omega) h0 h1
/-- Is a place on a cycle? -/
def onP (ps : List Int) (a : Int) : Bool := (List.range ps.length).any (fun n => decide (upP ps a (n + 1) = a))
theorem on_ev (ps : List Int) (hl : ps.length ≤ 1000000) (hp : inP ps.length ps) (a : Int) (h0 : -1 ≤ a) (h1 : a < ps.length) : Ev (fun k => merkhetref10_on.f k ps a) (onP ps a) := by
  unfold merkhetref10_on.f
  have key : ∀ (d i : Nat), ps.length - i = d → i ≤ ps.length → Ev (fun k => merkhetref10_on.l0 k ps a ((i : Int) + 1)) ((List.range' i d).any (fun n => decide (upP ps a (n + 1) = a))) := by
    intro d
    induction d with
    | zero =>
      intro i hd hi
      refine Ev.succ ?_
      simp only [merkhetref10_on.l0]
      exact Ev.neg (by omega) (Ev.now _)
    | succ d ih =>
      intro i hd hi
      have h2 := ih (i + 1) (by omega) (by omega)
      have h3 := upf_ev ps hp (i + 1) (by omega) a h0 h1
      refine Ev.succ ?_
      simp only [merkhetref10_on.l0]
      refine Ev.pos (by omega) (Ev.bind h3 (Ev.ite (fun h => ?_) (fun h => ?_)))
      · refine Ev.cast (Ev.now _) ?_
        rw [List.range'_succ, List.any_cons, decide_eq_true h]; rfl
      · rw [wrap_id (by omega) (by omega)]
        refine Ev.cast h2 ?_
        rw [List.range'_succ, List.any_cons, decide_eq_false h]; rfl
  have := key ps.length 0 (by omega) (by omega)
  refine Ev.cast this ?_
  unfold onP
  rw [List.range_eq_range']
/-- The least place, from so many down, whose ID it is. -/
def scanD (l : List S37) (id : Int) : Nat → Int → Int
  | 0, p => p
  | j + 1, p => scanD l id j (if id ≠ 0 ∧ (rd_T37 l j).f1 = id then (j : Int) else p)
theorem scanD_in (l : List S37) (id : Int) : ∀ (j : Nat) (p : Int), j ≤ l.length → -1 ≤ p → p < l.length → -1 ≤ scanD l id j p ∧ scanD l id j p < l.length
  | 0, p, _, h0, h1 => ⟨h0, h1⟩
  | j + 1, p, hj, h0, h1 => by
    simp only [scanD]
    split
    · exact scanD_in l id j _ (by omega) (by omega) (by omega)
    · exact scanD_in l id j _ (by omega) h0 h1
def rawL (l : List S37) : List Int := l.map (fun s => scanD l s.f2 l.length (-1))
theorem rawL_length (l : List S37) : (rawL l).length = l.length := by simp [rawL]
theorem rawL_in (l : List S37) (h : 0 < l.length ∨ l.length = 0) : inP l.length (rawL l) := by
  intro x hx
  obtain ⟨s, hs, rfl⟩ := List.mem_map.1 hx
  exact scanD_in l s.f2 l.length (-1) (by omega) (by omega) (by omega)
/-- Is a place the least of its cycle? From a place on, so many steps. -/
def loL (ps : List Int) (i : Int) : Nat → Int → Bool
  | 0, _ => true
  | f + 1, a => if rd ps a = i then true else if rd ps a < i then false else loL ps i f (rd ps a)
def parAt (ps : List Int) (i : Int) : Int := if (onP ps i && loL ps i ps.length i) = true then -1 else rd ps i
def parL (l : List S37) : List Int := (List.range l.length).map (fun i : Nat => parAt (rawL l) i)
theorem parL_length (l : List S37) : (parL l).length = l.length := by simp [parL]
theorem par_ev (l : List S37) (hl : l.length ≤ 1000000) : Ev (fun k => merkhetref10_Of.f k l) (parL l) := by
  have hpl := rawL_length l
  have hpi : inP (rawL l).length (rawL l) := by rw [hpl]; exact rawL_in l (by omega)
  unfold merkhetref10_Of.f
  have two : ∀ (d i : Nat), l.length - i = d → i ≤ l.length → Ev (fun k => merkhetref10_Of.l2 k l (rawL l) ((parL l).take i) (i : Int)) (parL l) := by
    intro d
    induction d with
    | zero =>
      intro i hd hi
      refine Ev.succ ?_
      simp only [merkhetref10_Of.l2]
      refine Ev.neg (by omega) (Ev.cast (Ev.now _) ?_)
      rw [List.take_of_length_le (by rw [parL_length]; omega)]
    | succ d ih =>
      intro i hd hi
      have hlt : i < l.length := by omega
      have h2 := ih (i + 1) (by omega) (by omega)
      have hnext : (parL l).take (i + 1) = (parL l).take i ++ [parAt (rawL l) i] := by
        rw [List.take_succ_eq_append_getElem (by rw [parL_length]; omega)]
        simp [parL]
      have ho := on_ev (rawL l) (by omega) hpi i (by omega) (by omega)
      have htl : ((parL l).take i).length ≤ l.length := by rw [List.length_take, parL_length]; omega
      have done0 : ∀ (b : Bool) (a : Int), (if b = true then (-1 : Int) else rd (rawL l) i) = parAt (rawL l) i → Ev (fun k => merkhetref10_Of.j4 k l (rawL l) ((parL l).take i) (i : Int) b a false) (parL l) := by
        intro b a hb
        refine Ev.succ ?_
        simp only [merkhetref10_Of.j4]
        refine Ev.neg (by simp) ?_
        rw [wrap_id (by omega) (by omega)]
        cases b with
        | true =>
          refine Ev.pos rfl (Ev.pos (by omega) ?_)
          rw [if_pos rfl] at hb
          rw [hb, ← hnext]; exact h2
        | false =>
          refine Ev.neg (by simp) (Ev.pos (by omega) (Ev.pos (by omega) (Ev.pos (by omega) ?_)))
          rw [if_neg (by simp)] at hb
          rw [hb, ← hnext]; exact h2
      have off : parAt (rawL l) i = rd (rawL l) i → ∀ a, Ev (fun k => merkhetref10_Of.l3 k l (rawL l) ((parL l).take i) (i : Int) false a) (parL l) := by
        intro hb a
        refine Ev.succ ?_
        simp only [merkhetref10_Of.l3]
        exact Ev.neg (by simp) (done0 false a (by rw [if_neg (by simp), hb]))
      refine Ev.succ ?_
      simp only [merkhetref10_Of.l2]
      refine Ev.pos (by omega) (Ev.bind ho ?_)
      cases hon : onP (rawL l) i with
      | false =>
        refine off ?_ _
        unfold parAt; rw [hon]; simp
      | true =>
        -- the walk round the cycle
        have round : ∀ (n : Nat) (f : Nat) (a : Int), n < f → 0 ≤ a → a < (rawL l).length → upP (rawL l) a (n + 1) = i → (onP (rawL l) i && loL (rawL l) i (rawL l).length i) = loL (rawL l) i f a → Ev (fun k => merkhetref10_Of.l3 k l (rawL l) ((parL l).take i) (i : Int) true a) (parL l) := by
          intro n
          induction n with
          | zero =>
            intro f a hf h0 h1 hu he
            obtain ⟨f, rfl⟩ : ∃ g, f = g + 1 := ⟨f - 1, by omega⟩
            have hu2 : rd (rawL l) a = i := by simp only [upP] at hu; rw [if_pos h0] at hu; exact hu
            have hv : parAt (rawL l) i = -1 := by
              have hL : loL (rawL l) (i : Int) (f + 1) a = true := by simp only [loL]; rw [if_pos hu2]
              unfold parAt; rw [he, hL]; rfl
            refine Ev.succ ?_
            simp only [merkhetref10_Of.l3]
            refine Ev.pos trivial (Ev.pos h0 (Ev.pos h1 ?_))
            rw [hu2, bne_self_eq_false]
            exact done0 true a (by rw [if_pos rfl, hv])
          | succ n ihn =>
            intro f a hf h0 h1 hu he
            obtain ⟨f, rfl⟩ : ∃ g, f = g + 1 := ⟨f - 1, by omega⟩
            by_cases hu2 : rd (rawL l) a = i
            · have hv : parAt (rawL l) i = -1 := by
                have hL : loL (rawL l) (i : Int) (f + 1) a = true := by simp only [loL]; rw [if_pos hu2]
                unfold parAt; rw [he, hL]; rfl
              refine Ev.succ ?_
              simp only [merkhetref10_Of.l3]
              refine Ev.pos trivial (Ev.pos h0 (Ev.pos h1 ?_))
              rw [hu2, bne_self_eq_false]
              exact done0 true a (by rw [if_pos rfl, hv])
            · refine Ev.succ ?_
              simp only [merkhetref10_Of.l3]
              refine Ev.pos trivial (Ev.pos h0 (Ev.pos h1 ?_))
              rw [show (rd (rawL l) a != (i : Int)) = true from by simp [hu2]]
              refine Ev.succ ?_
              simp only [merkhetref10_Of.j4]
              refine Ev.pos trivial (Ev.pos h0 (Ev.pos h1 (Ev.ite (fun h => ?_) (fun h => ?_))))
              · refine off ?_ _
                have hL : loL (rawL l) (i : Int) (f + 1) a = false := by simp only [loL]; rw [if_neg hu2, if_pos h]
                unfold parAt; rw [he, hL]; rfl
              · have hb := inP_rd hpi a h0 h1
                refine ihn f (rd (rawL l) a) (by omega) (by omega) hb.2 ?_ ?_
                · rw [← hu]; rw [show upP (rawL l) a (n + 1 + 1) = if a ≥ 0 then upP (rawL l) (rd (rawL l) a) (n + 1) else a from rfl, if_pos h0]
                · rw [he]; simp only [loL]; rw [if_neg hu2, if_neg h]
        have hon2 := hon
        unfold onP at hon2
        obtain ⟨n, hn, hn2⟩ := List.any_eq_true.1 hon2
        exact round n (rawL l).length i (List.mem_range.1 hn) (by omega) (by omega) (of_decide_eq_true hn2) (by rw [hon]; rfl)
  have one : ∀ (d i : Nat), l.length - i = d → i ≤ l.length → Ev (fun k => merkhetref10_Of.l0 k l ((rawL l).take i) (i : Int)) (parL l) := by
    intro d
    induction d with
    | zero =>
      intro i hd hi
      refine Ev.succ ?_
      simp only [merkhetref10_Of.l0]
      rw [List.take_of_length_le (by omega)]
      exact Ev.neg (by omega) (two l.length 0 (by omega) (by omega))
    | succ d ih =>
      intro i hd hi
      have hlt : i < l.length := by omega
      have h2 := ih (i + 1) (by omega) (by omega)
      have hr : rd_T37 l (i : Int) = l[i] := by simp [rd_T37, List.getD, hlt]
      have hnext : (rawL l).take (i + 1) = (rawL l).take i ++ [scanD l (rd_T37 l (i : Int)).f2 l.length (-1)] := by
        rw [List.take_succ_eq_append_getElem (by omega), hr]
        simp [rawL]
      have scan : ∀ (j : Nat) (p : Int), j ≤ l.length → scanD l (rd_T37 l (i : Int)).f2 j p = scanD l (rd_T37 l (i : Int)).f2 l.length (-1) → Ev (fun k => merkhetref10_Of.l1 k l ((rawL l).take i) (i : Int) p ((j : Int) - 1)) (parL l) := by
        intro j
        induction j with
        | zero =>
          intro p hj he
          simp only [scanD] at he
          refine Ev.succ ?_
          simp only [merkhetref10_Of.l1]
          refine Ev.neg (by omega) (Ev.pos ?_ ?_)
          · rw [List.length_take]; omega
          · rw [he, wrap_id (by omega) (by omega), ← hnext]; exact h2
        | succ j ihj =>
          intro p hj he
          have e1 : ((j + 1 : Nat) : Int) - 1 = (j : Int) := by omega
          rw [e1]
          refine Ev.succ ?_
          simp only [merkhetref10_Of.l1]
          refine Ev.pos (by omega) (Ev.pos (by omega) (Ev.pos (by omega) ?_))
          rw [wrap_id (i := (j : Int) - 1) (by omega) (by omega)]
          simp only [scanD] at he
          by_cases hz : (rd_T37 l (i : Int)).f2 = 0
          · rw [if_neg (fun h => h.1 hz)] at he
            exact Ev.pos hz (ihj p (by omega) he)
          · refine Ev.neg hz (Ev.pos (by omega) (Ev.pos (by omega) (Ev.ite (fun h => ?_) (fun h => ?_))))
            · rw [if_pos ⟨hz, h⟩] at he
              exact ihj _ (by omega) he
            · rw [if_neg (fun h' => h h'.2)] at he
              exact ihj _ (by omega) he
      refine Ev.succ ?_
      simp only [merkhetref10_Of.l0]
      refine Ev.pos (by omega) ?_
      rw [wrap_id (by omega) (by omega)]
      exact scan l.length (-1) (by omega) rfl
  exact one l.length 0 (by omega) (by omega)
end Go.Proofs.Ytmfdhcgdibefiaa.L

/- StatsOwn, the plain part: own times are the document's, and from 0 to Dur. -/
namespace Go.Proofs.Ytmfdhcgdibefiaa.Pure
set_option linter.unusedVariables false
open Go.RowKit Go.Proofs.Ytmfdhcgdibefiaa.Q Go.Proofs.Ytmfdhcgdibefiaa.R Go.Proofs.Ytmfdhcgdibefiaa.O Go.Proofs.YtmfdhcgdibefiaaW.PrintWords Go.Proofs.YtmfdhcgdibefiaaW.PrintLast Go.Proofs.YtmfdhcgdibefiaaW.PrintMore Go.Proofs.YtmfdhcgdibefiaaW.Lib Go.Proofs.Ytmfdhcgdibefiaa.L

theorem fit_wf {s : S37} (h : wf37 s) : fitR s := by
  refine ⟨⟨h.2.1, h.2.2.2.2.1, h.2.2.2.2.2.1⟩, ?_⟩
  have := h.2.2.2.1
  simp [Lit.wf, IntKind.min, IntKind.max, IntKind.signed, IntKind.bits] at this
  exact this.1
theorem ownL_fst_len (l : List SpD) (ps : List Int) : (ownL l ps).1.length ≤ l.length := by
  unfold ownL
  split
  · simp [ownR_len]
  · simp
theorem ownL_fst {l : List SpD} {ps : List Int} {j : Nat} (hj : j < (ownL l ps).1.length) : j < l.length ∧ 0 ≤ rd (ownL l ps).1 (j : Int) ∧ rd (ownL l ps).1 (j : Int) ≤ (rd_T37 l (j : Int)).f7 := by
  by_cases h : l.length = ps.length ∧ rightB ps = true ∧ mayA l = true
  · have e : ownL l ps = (ownR l ps, true) := by unfold ownL; rw [if_pos h]
    rw [e] at hj ⊢
    dsimp only at hj ⊢
    have hl : j < l.length := by rw [ownR_len] at hj; exact hj
    have hr : rd (ownR l ps) (j : Int) = ownAt l ps (j : Int) := by simp [rd, List.getD, ownR, hl]
    rw [hr]
    exact ⟨hl, ownAt_in h.2.2 h.1 (by omega) (by omega)⟩
  · rw [ownL_no h] at hj
    simp at hj
theorem StatsOwn (l0 : List (S37)) (l1 : List (Int)) (w0 : (l0.length ≤ maxLen ∧ l0.length * 80 ≤ reachBytes ∧ ∀ x ∈ l0, wf37 x)) (w1 : (l1.length ≤ maxLen ∧ l1.length * 8 ≤ reachBytes ∧ ∀ x ∈ l1, (Lit.int .i64 x).wf = true)) : ∃ k, merkhetlaw27_StatsOwn.f k l0 l1 = some true := by
  obtain ⟨_, _, hw⟩ := w0
  refine Ev.rounds (g := fun k => merkhetlaw27_StatsOwn.f k l0 l1) ?_
  unfold merkhetlaw27_StatsOwn.f
  have hfr : ∀ s ∈ l0, fitR s := fun s hs => fit_wf (hw s hs)
  have hf : ∀ s ∈ l0, fitS s := fun s hs => (hfr s hs).1
  have skip : Ev (fun k => merkhetlaw27_StatsOwn.j0 k l0 l1 true) true := by
    refine Ev.succ ?_
    simp only [merkhetlaw27_StatsOwn.j0]
    exact Ev.pos trivial (Ev.bind fixed27 (Ev.now _))
  obtain ⟨b, hb, hb2⟩ := great_ev l0
  refine Ev.bind hb (Ev.ite (fun h => skip) (fun h => ?_))
  obtain ⟨h60, _⟩ := hb2 (by simpa using h)
  by_cases h2 : (l1.length : Int) > 60
  · rw [decide_eq_true h2]; exact skip
  rw [decide_eq_false h2]
  refine Ev.succ ?_
  simp only [merkhetlaw27_StatsOwn.j0]
  have hpl := parL_length l0
  have hl1 := ownL_fst_len l0 l1
  have hl2 := ownL_fst_len l0 (parL l0)
  have loop : ∀ (d j : Nat), (ownL l0 l1).1.length - j = d → j ≤ (ownL l0 l1).1.length → Ev (fun k => merkhetlaw27_StatsOwn.l0 k l0 (ownL l0 l1).1 ((ownL l0 l1).1.length : Int) (j : Int)) true := by
    intro d
    induction d with
    | zero =>
      intro j hd hj
      refine Ev.succ ?_
      simp only [merkhetlaw27_StatsOwn.l0]
      exact Ev.neg (by omega) (Ev.bind fixed27 (Ev.now _))
    | succ d ih =>
      intro j hd hj
      have hlt : j < (ownL l0 l1).1.length := by omega
      obtain ⟨g0, g1, g2⟩ := ownL_fst hlt
      have hn := ih (j + 1) (by omega) (by omega)
      refine Ev.succ ?_
      simp only [merkhetlaw27_StatsOwn.l0]
      refine Ev.pos (by omega) (Ev.pos (by omega) (Ev.pos (by omega) (Ev.neg (by omega) (Ev.pos (by omega) (Ev.neg (by omega) ?_)))))
      rw [wrap_id (by omega) (by omega)]
      exact hn
  refine Ev.neg (by simp) (Ev.bind (own_ev l0 l1 (by omega) (by omega) hf) (Ev.bind (rown_ev l0 l1 (by omega) (by omega) hfr) (Ev.bind (par_ev l0 (by omega)) (Ev.bind (own_ev l0 (parL l0) (by omega) (by omega) hf) (Ev.bind (par_ev l0 (by omega)) (Ev.bind (rown_ev l0 (parL l0) (by omega) (by omega) hfr) (Ev.bind (same15_self _ (by omega)) (Ev.pos rfl (Ev.neg (by simp) (Ev.bind (same15_self _ (by omega)) (Ev.pos rfl ?_)))))))))))
  rw [show ((ownL l0 (parL l0)).2 != (ownL l0 (parL l0)).2) = false from by simp]
  refine Ev.succ ?_
  simp only [merkhetlaw27_StatsOwn.j1]
  exact Ev.neg (by simp) (loop _ 0 rfl (by omega))
end Go.Proofs.Ytmfdhcgdibefiaa.Pure

