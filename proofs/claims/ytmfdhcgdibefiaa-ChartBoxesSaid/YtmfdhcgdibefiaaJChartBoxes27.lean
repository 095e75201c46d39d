/- Texts joined by wip/tools/merge.py: Hx1 AOpens BOpens KOpens COpens HOpens SpanN RefG GreT May18 PureChartBoxes. -/
import Derived.Test.YtmfdhcgdibefiaaJChartBoxes25
import Derived.Test.YtmfdhcgdibefiaaJChartBoxes26
import Derived.Test.YtmfdhcgdibefiaaJChartBoxes24
import Derived.Test.YtmfdhcgdibefiaaJChartBoxes22
import Derived.KernelRfl
import Derived.Test.YtmfdhcgdibefiaaJChartBoxes12
-- Written by wip/tools/gp.py, a program of this session round the kit's printer. Lean checks it.
namespace Go.Proofs.Ytmfdhcgdibefiaa.H
open Go.RowKit Go.Proofs.Ytmfdhcgdibefiaa.Q Go.Proofs.Ytmfdhcgdibefiaa.A Go.Proofs.Ytmfdhcgdibefiaa.B Go.Proofs.Ytmfdhcgdibefiaa.K Go.Proofs.Ytmfdhcgdibefiaa.C Go.Proofs.YtmfdhcgdibefiaaW.PrintWords Go.Proofs.YtmfdhcgdibefiaaW.PrintLast Go.Proofs.YtmfdhcgdibefiaaW.PrintMore
attribute [local go_sem] max2_int min2_int max_two min_two max_three min_three max_four min_four   -- for this text's walks alone
set_option linter.unusedVariables false
set_option linter.unusedSimpArgs false

/-! ### merkhetlaw26_fixed: function 24 (given) -/
def merkhetlaw26_fixed.f : Option (Bool) := some true
theorem merkhetlaw26_fixed.calls (r : Bool) (w : World) (h : merkhetlaw26_fixed.f = some r) :
    Calls Try.prog 24 #[] w fun e w' => e = .returned (.bool r) ∧ Below w.heap.size w w' := by
  obtain rfl := Option.some.inj h
  exact L.fixed26_calls w

/-! ### chart_Boxes: function 25 (given) -/
def chart_Boxes.f (a0_0 : Int) (l0_1 : List (S37)) (l0_2 : List Int) (l0_3 : List ByteArray) (l0_4 : List Int) (l0_5 : List (S126)) (a1 : Int) : Option (List (S68) × Int) := if L.okCb l0_1 l0_2 then some (L.cbV l0_1 l0_2 a1) else none
theorem chart_Boxes.calls (a0_0 : Int) (A0_1 : Option Addr) (c0_1 : Nat) (l0_1 : List (S37)) (A0_2 : Option Addr) (c0_2 : Nat) (l0_2 : List Int) (A0_3 : Option Addr) (c0_3 : Nat) (l0_3 : List ByteArray) (A0_4 : Option Addr) (c0_4 : Nat) (l0_4 : List Int) (A0_5 : Option Addr) (c0_5 : Nat) (l0_5 : List (S126)) (a1 : Int) (r1 : List (S68)) (r2 : Int) (w : World) (hr0_1 : Kd.C k37 w A0_1 l0_1.length l0_1) (hc0_1 : l0_1.length ≤ c0_1) (hr0_2 : Kd.C (Kd.int .i64) w A0_2 l0_2.length l0_2) (hc0_2 : l0_2.length ≤ c0_2) (hr0_3 : Kd.C Kd.string w A0_3 l0_3.length l0_3) (hc0_3 : l0_3.length ≤ c0_3) (hr0_4 : Kd.C (Kd.int .i64) w A0_4 l0_4.length l0_4) (hc0_4 : l0_4.length ≤ c0_4) (hr0_5 : Kd.C k126 w A0_5 l0_5.length l0_5) (hc0_5 : l0_5.length ≤ c0_5) (h : chart_Boxes.f a0_0 l0_1 l0_2 l0_3 l0_4 l0_5 a1 = some (r1, r2)) :
    Calls Try.prog 25 #[.agg #[.int .i64 a0_0, .slice A0_1 l0_1.length c0_1, .slice A0_2 l0_2.length c0_2, .slice A0_3 l0_3.length c0_3, .slice A0_4 l0_4.length c0_4, .slice A0_5 l0_5.length c0_5], .int .i64 a1] w fun e w' => ∃ v0_ : Value, e = .returned (.tuple #[v0_, .int .i64 r2]) ∧ Kd.R k68 68 w' w.heap.size (fun _ => True) v0_ r1 ∧ Below w.heap.size w w' := by
  unfold chart_Boxes.f at h
  split at h
  · rename_i hl
    have e := Option.some.inj h
    have q := L.cbV_calls a0_0 a1 l0_1 l0_2 l0_3 l0_4 l0_5 A0_1 A0_2 A0_3 A0_4 A0_5 c0_1 c0_2 c0_3 c0_4 c0_5 w hl hr0_1 hc0_1 hr0_2 hc0_2 hr0_3 hc0_3 hr0_4 hc0_4 hr0_5 hc0_5
    rw [e] at q
    exact q
  · cases h

/-! ### merkhetlaw26_ChartBoxes: function 8 -/
def merkhetlaw26_ChartBoxes.f (k : Nat) (a0_0 : Int) (l0_1 : List (S37)) (l0_2 : List Int) (l0_3 : List ByteArray) (l0_4 : List Int) (l0_5 : List (S126)) (a1 : Int) : Option (Bool) := (merkhetlaw21_Great.f k a0_0 l0_1 l0_2 l0_3 l0_4 l0_5).bind fun t102 => (if t102 = true then ((merkhetlaw26_fixed.f).bind fun t103 => (some t103)) else ((chart_Boxes.f a0_0 l0_1 l0_2 l0_3 l0_4 l0_5 a1).bind fun bt104 => ((merkhetref26_Boxes.f k a0_0 l0_1 l0_2 l0_3 l0_4 l0_5 a1).bind fun bt108 => ((merkhetlaw26_fixed.f).bind fun t112 => (if t112 = true then ((merkhetref26_Same.f k bt104.1 bt108.1).bind fun t113 => (if t113 = true then (some (bt104.2 == bt108.2)) else (some false))) else (some false))))))
theorem merkhetlaw26_ChartBoxes.mono : ∀ a0 a1 a2 a3 a4 a5 a6 k, LeO (merkhetlaw26_ChartBoxes.f k a0 a1 a2 a3 a4 a5 a6) (merkhetlaw26_ChartBoxes.f (k + 1) a0 a1 a2 a3 a4 a5 a6) := by
  intro a0 a1 a2 a3 a4 a5 a6 k
  unfold merkhetlaw26_ChartBoxes.f
  repeat' first
      | (with_reducible exact merkhetlaw21_Great.mono _ _ _ _ _ _ _)
      | (with_reducible exact merkhetref26_Boxes.mono _ _ _ _ _ _ _ _)
      | (with_reducible exact merkhetref26_Same.mono _ _ _)
      | (with_reducible exact LeO.refl _)
      | (with_reducible exact LeO.none _)
      | (with_reducible refine LeO.ite ?_ ?_)
      | (with_reducible refine LeO.bind ?_ (fun _ => ?_))
      | exact merkhetlaw21_Great.mono _ _ _ _ _ _ _
      | exact merkhetref26_Boxes.mono _ _ _ _ _ _ _ _
      | exact merkhetref26_Same.mono _ _ _
      | exact LeO.none _
      | refine LeO.ite ?_ ?_
      | refine LeO.bind ?_ (fun _ => ?_)
set_option maxHeartbeats 8000000 in
set_option maxRecDepth 100000 in
theorem merkhetlaw26_ChartBoxes.calls (k : Nat) (a0_0 : Int) (A0_1 : Option Addr) (c0_1 : Nat) (l0_1 : List (S37)) (A0_2 : Option Addr) (c0_2 : Nat) (l0_2 : List Int) (A0_3 : Option Addr) (c0_3 : Nat) (l0_3 : List ByteArray) (A0_4 : Option Addr) (c0_4 : Nat) (l0_4 : List Int) (A0_5 : Option Addr) (c0_5 : Nat) (l0_5 : List (S126)) (a1 : Int) (r : Bool) (w : World) (hr0_1 : Kd.C k37 w A0_1 l0_1.length l0_1) (hc0_1 : l0_1.length ≤ c0_1) (hr0_2 : Kd.C (Kd.int .i64) w A0_2 l0_2.length l0_2) (hc0_2 : l0_2.length ≤ c0_2) (hr0_3 : Kd.C Kd.string w A0_3 l0_3.length l0_3) (hc0_3 : l0_3.length ≤ c0_3) (hr0_4 : Kd.C (Kd.int .i64) w A0_4 l0_4.length l0_4) (hc0_4 : l0_4.length ≤ c0_4) (hr0_5 : Kd.C k126 w A0_5 l0_5.length l0_5) (hc0_5 : l0_5.length ≤ c0_5) (h : merkhetlaw26_ChartBoxes.f k a0_0 l0_1 l0_2 l0_3 l0_4 l0_5 a1 = some r) :
    Calls Try.prog 8 #[.agg #[.int .i64 a0_0, .slice A0_1 l0_1.length c0_1, .slice A0_2 l0_2.length c0_2, .slice A0_3 l0_3.length c0_3, .slice A0_4 l0_4.length c0_4, .slice A0_5 l0_5.length c0_5], .int .i64 a1] w fun e w' => e = .returned (.bool r) ∧ Below w.heap.size w w' := by
  have hu48 := Try.underlying48
  have HR0_1 := Aside0.mk hr0_1
  have HC0_1 := Aside0.mk hc0_1
  clear hr0_1 hc0_1
  have HR0_2 := Aside0.mk hr0_2
  have HC0_2 := Aside0.mk hc0_2
  clear hr0_2 hc0_2
  have HR0_3 := Aside0.mk hr0_3
  have HC0_3 := Aside0.mk hc0_3
  clear hr0_3 hc0_3
  have HR0_4 := Aside0.mk hr0_4
  have HC0_4 := Aside0.mk hc0_4
  clear hr0_4 hc0_4
  have HR0_5 := Aside0.mk hr0_5
  have HC0_5 := Aside0.mk hc0_5
  clear hr0_5 hc0_5
  have HB := Aside0.mk (Below.refl w.heap.size w)
  have H : ((merkhetlaw21_Great.f k a0_0 l0_1 l0_2 l0_3 l0_4 l0_5).bind fun t102 => (if t102 = true then ((merkhetlaw26_fixed.f).bind fun t103 => (some t103)) else ((chart_Boxes.f a0_0 l0_1 l0_2 l0_3 l0_4 l0_5 a1).bind fun bt104 => ((merkhetref26_Boxes.f k a0_0 l0_1 l0_2 l0_3 l0_4 l0_5 a1).bind fun bt108 => ((merkhetlaw26_fixed.f).bind fun t112 => (if t112 = true then ((merkhetref26_Same.f k bt104.1 bt108.1).bind fun t113 => (if t113 = true then (some (bt104.2 == bt108.2)) else (some false))) else (some false))))))) = some r := h
  clear h
  replace H := Option.bind_eq_some_iff.mp H
  obtain ⟨t102, A30, H⟩ := H
  replace H : (if t102 = true then ((merkhetlaw26_fixed.f).bind fun t103 => (some t103)) else ((chart_Boxes.f a0_0 l0_1 l0_2 l0_3 l0_4 l0_5 a1).bind fun bt104 => ((merkhetref26_Boxes.f k a0_0 l0_1 l0_2 l0_3 l0_4 l0_5 a1).bind fun bt108 => ((merkhetlaw26_fixed.f).bind fun t112 => (if t112 = true then ((merkhetref26_Same.f k bt104.1 bt108.1).bind fun t113 => (if t113 = true then (some (bt104.2 == bt108.2)) else (some false))) else (some false)))))) = some r := H
  have A3 := Aside0.mk A30
  clear A30
  by_cases c4 : t102 = true
  · subst c4
    have H1 : ((merkhetlaw26_fixed.f).bind fun t103 => (some t103)) = some r := by rw [if_pos rfl] at H; exact H
    clear H
    have H := H1
    clear H1
    replace H := Option.bind_eq_some_iff.mp H
    obtain ⟨t103, A50, H⟩ := H
    replace H : (some t103) = some r := H
    have A5 := Aside0.mk A50
    clear A50
    obtain rfl := Option.some.inj H
    go_enter Try.func8, Try.ntmps8
    go_wp2_with (first | ((with_reducible refine gate_dst (N := 2) rfl ?_); refine box_event ?hg (N := 2) ?hd (cs := #[.int .i64 a0_0, .slice A0_1 l0_1.length c0_1, .slice A0_2 l0_2.length c0_2, .slice A0_3 l0_3.length c0_3, .slice A0_4 l0_4.length c0_4, .slice A0_5 l0_5.length c0_5]) (t := 48) ?hr ?_; (case hd => rfl); (case hg => rfl); (case hr => first | (go_simp; done) | (go_simp; rfl)); intro gb101 hg w6 hbox hb; have n0_ := Aside0.mk (below_step (by repeat (first | (with_reducible first | exact HB.out | apply below_alloc | apply pw_below_drewN | apply below_drew1) | exact HB.out)) hb); have n1_ := Aside0.mk (hbox); have n2_ := Aside0.mk ((by rw [hg]; exact (below_size (by repeat (first | (with_reducible first | exact HB.out | apply below_alloc | apply pw_below_drewN | apply below_drew1) | exact HB.out))) : w.heap.size ≤ gb101)); have n3_ := Aside0.mk ((by rw [hg]; exact (below_size (by repeat (first | (with_reducible first | exact HB.out | apply below_alloc | apply pw_below_drewN | apply below_drew1) | exact HB.out))) : w.heap.size ≤ gb101)); clear HB; have HB := n0_; have BK101 := n1_; have GW101 := n2_; have GE101 := n3_; clear n0_ n1_ n2_ n3_; clear hb hbox hg; have hcz7_0 : w6.cell? ⟨gb101, 0, none⟩ = some (.int .i64 a0_0) := (blk_cell BK101.out 0).trans rfl; have hcz7_1 : w6.cell? ⟨gb101, 1, none⟩ = some (.slice A0_1 l0_1.length c0_1) := (blk_cell BK101.out 1).trans rfl; have hcz7_2 : w6.cell? ⟨gb101, 2, none⟩ = some (.slice A0_2 l0_2.length c0_2) := (blk_cell BK101.out 2).trans rfl; have hcz7_3 : w6.cell? ⟨gb101, 3, none⟩ = some (.slice A0_3 l0_3.length c0_3) := (blk_cell BK101.out 3).trans rfl; have hcz7_4 : w6.cell? ⟨gb101, 4, none⟩ = some (.slice A0_4 l0_4.length c0_4) := (blk_cell BK101.out 4).trans rfl; have hcz7_5 : w6.cell? ⟨gb101, 5, none⟩ = some (.slice A0_5 l0_5.length c0_5) := (blk_cell BK101.out 5).trans rfl; have hfz7_0 := blk_frozen BK101.out 0; have hfz7_1 := blk_frozen BK101.out 1; have hfz7_2 := blk_frozen BK101.out 2; have hfz7_3 := blk_frozen BK101.out 3; have hfz7_4 := blk_frozen BK101.out 4; have hfz7_5 := blk_frozen BK101.out 5) | ((with_reducible refine gate_callee (f := 23) rfl ?_); refine goesL_ (some 10) rfl rfl Try.func23 (by kernel_rfl) rfl #[.agg #[.int .i64 a0_0, .slice A0_1 l0_1.length c0_1, .slice A0_2 l0_2.length c0_2, .slice A0_3 l0_3.length c0_3, .slice A0_4 l0_4.length c0_4, .slice A0_5 l0_5.length c0_5]] rfl (by (try simp only [List.map_toArray, List.map_cons, List.map_nil]); first | done | rfl | (simp only [List.length_drop, List.length_take]; rfl)) ?_; (with_reducible refine (merkhetlaw21_Great.calls k a0_0 _ _ l0_1 _ _ l0_2 _ _ l0_3 _ _ l0_4 _ _ l0_5 true _ ?side1 ?side2 ?side3 ?side4 ?side5 ?side6 ?side7 ?side8 ?side9 ?side10 A3.out).mono ?_); (case side1 => repeat (first | exact (Kd.C_below HR0_1.out HB.out) | (with_reducible refine Kd.C_alloc ?_ _) | (with_reducible refine Kd.C_drewN ?_ _) | (with_reducible refine Kd.C_drew ?_))); (case side2 => exact HC0_1.out); (case side3 => repeat (first | exact (Kd.C_below HR0_2.out HB.out) | (with_reducible refine Kd.C_alloc ?_ _) | (with_reducible refine Kd.C_drewN ?_ _) | (with_reducible refine Kd.C_drew ?_))); (case side4 => exact HC0_2.out); (case side5 => repeat (first | exact (Kd.C_below HR0_3.out HB.out) | (with_reducible refine Kd.C_alloc ?_ _) | (with_reducible refine Kd.C_drewN ?_ _) | (with_reducible refine Kd.C_drew ?_))); (case side6 => exact HC0_3.out); (case side7 => repeat (first | exact (Kd.C_below HR0_4.out HB.out) | (with_reducible refine Kd.C_alloc ?_ _) | (with_reducible refine Kd.C_drewN ?_ _) | (with_reducible refine Kd.C_drew ?_))); (case side8 => exact HC0_4.out); (case side9 => repeat (first | exact (Kd.C_below HR0_5.out HB.out) | (with_reducible refine Kd.C_alloc ?_ _) | (with_reducible refine Kd.C_drewN ?_ _) | (with_reducible refine Kd.C_drew ?_))); (case side10 => exact HC0_5.out); rintro e w8 ⟨rfl, hb⟩; refine ⟨_, rfl, ?_⟩; have n0_ := Aside0.mk (blk_below (g := gb101) (o := .cells #[.int .i64 a0_0, .slice A0_1 l0_1.length c0_1, .slice A0_2 l0_2.length c0_2, .slice A0_3 l0_3.length c0_3, .slice A0_4 l0_4.length c0_4, .slice A0_5 l0_5.length c0_5] 48 (0, 0)) (by (with_reducible repeat (first | refine blk_drewN ?_ _ | refine blk_drew ?_ | refine blk_alloc ?_ _)); exact BK101.out) hb); have n1_ := Aside0.mk (below_step (by repeat (first | (with_reducible first | exact HB.out | apply below_alloc | apply pw_below_drewN | apply below_drew1 | refine below_set ?_ GE101.out) | exact HB.out)) hb); clear BK101; clear HB; have BK101 := n0_; have HB := n1_; clear n0_ n1_; (try clear hb); (try clear hb2); (try clear hk); (try clear hi)) | ((with_reducible refine gate_callee (f := 24) rfl ?_); refine goesL_ (some 11) rfl rfl Try.func24 (by kernel_rfl) rfl #[] rfl (by (try simp only [List.map_toArray, List.map_cons, List.map_nil]); first | done | rfl | (simp only [List.length_drop, List.length_take]; rfl)) ?_; (with_reducible refine (merkhetlaw26_fixed.calls  t103 _ A5.out).mono ?_); rintro e w9 ⟨rfl, hb⟩; refine ⟨_, rfl, ?_⟩; have n0_ := Aside0.mk (blk_below (g := gb101) (o := .cells #[.int .i64 a0_0, .slice A0_1 l0_1.length c0_1, .slice A0_2 l0_2.length c0_2, .slice A0_3 l0_3.length c0_3, .slice A0_4 l0_4.length c0_4, .slice A0_5 l0_5.length c0_5] 48 (0, 0)) (by (with_reducible repeat (first | refine blk_drewN ?_ _ | refine blk_drew ?_ | refine blk_alloc ?_ _)); exact BK101.out) hb); have n1_ := Aside0.mk (below_step (by repeat (first | (with_reducible first | exact HB.out | apply below_alloc | apply pw_below_drewN | apply below_drew1 | refine below_set ?_ GE101.out) | exact HB.out)) hb); clear BK101; clear HB; have BK101 := n0_; have HB := n1_; clear n0_ n1_; (try clear hb); (try clear hb2); (try clear hk); (try clear hi)))
    go_ret
    exact ⟨by first | rfl | (simp [errW_none, errW_some] <;> rfl) | (simp [*, errW_none, errW_some] <;> rfl), by repeat (first | (with_reducible first | exact HB.out | apply below_alloc | apply pw_below_drewN | apply below_drew1 | refine below_set ?_ GE101.out) | exact HB.out)⟩
  · replace c4 := Bool.eq_false_iff.mpr c4
    subst c4
    have H1 : ((chart_Boxes.f a0_0 l0_1 l0_2 l0_3 l0_4 l0_5 a1).bind fun bt104 => ((merkhetref26_Boxes.f k a0_0 l0_1 l0_2 l0_3 l0_4 l0_5 a1).bind fun bt108 => ((merkhetlaw26_fixed.f).bind fun t112 => (if t112 = true then ((merkhetref26_Same.f k bt104.1 bt108.1).bind fun t113 => (if t113 = true then (some (bt104.2 == bt108.2)) else (some false))) else (some false))))) = some r := by rw [if_neg (show ¬ (false = true) by decide)] at H; exact H
    clear H
    have H := H1
    clear H1
    replace H := Option.bind_eq_some_iff.mp H
    obtain ⟨⟨t104, t107⟩, A100, H⟩ := H
    replace H : ((merkhetref26_Boxes.f k a0_0 l0_1 l0_2 l0_3 l0_4 l0_5 a1).bind fun bt108 => ((merkhetlaw26_fixed.f).bind fun t112 => (if t112 = true then ((merkhetref26_Same.f k t104 bt108.1).bind fun t113 => (if t113 = true then (some (t107 == bt108.2)) else (some false))) else (some false)))) = some r := H
    have A10 := Aside0.mk A100
    clear A100
    replace H := Option.bind_eq_some_iff.mp H
    obtain ⟨⟨t108, t111⟩, A110, H⟩ := H
    replace H : ((merkhetlaw26_fixed.f).bind fun t112 => (if t112 = true then ((merkhetref26_Same.f k t104 t108).bind fun t113 => (if t113 = true then (some (t107 == t111)) else (some false))) else (some false))) = some r := H
    have A11 := Aside0.mk A110
    clear A110
    replace H := Option.bind_eq_some_iff.mp H
    obtain ⟨t112, A120, H⟩ := H
    replace H : (if t112 = true then ((merkhetref26_Same.f k t104 t108).bind fun t113 => (if t113 = true then (some (t107 == t111)) else (some false))) else (some false)) = some r := H
    have A12 := Aside0.mk A120
    clear A120
    by_cases c13 : t112 = true
    · subst c13
      have H1 : ((merkhetref26_Same.f k t104 t108).bind fun t113 => (if t113 = true then (some (t107 == t111)) else (some false))) = some r := by rw [if_pos rfl] at H; exact H
      clear H
      have H := H1
      clear H1
      replace H := Option.bind_eq_some_iff.mp H
      obtain ⟨t113, A140, H⟩ := H
      replace H : (if t113 = true then (some (t107 == t111)) else (some false)) = some r := H
      have A14 := Aside0.mk A140
      clear A140
      by_cases c15 : t113 = true
      · subst c15
        have H1 : (some (t107 == t111)) = some r := by rw [if_pos rfl] at H; exact H
        clear H
        have H := H1
        clear H1
        obtain rfl := Option.some.inj H
        go_enter Try.func8, Try.ntmps8
        go_wp2_with (first | ((with_reducible refine gate_dst (N := 2) rfl ?_); refine box_event ?hg (N := 2) ?hd (cs := #[.int .i64 a0_0, .slice A0_1 l0_1.length c0_1, .slice A0_2 l0_2.length c0_2, .slice A0_3 l0_3.length c0_3, .slice A0_4 l0_4.length c0_4, .slice A0_5 l0_5.length c0_5]) (t := 48) ?hr ?_; (case hd => rfl); (case hg => rfl); (case hr => first | (go_simp; done) | (go_simp; rfl)); intro gb101 hg w16 hbox hb; have n0_ := Aside0.mk (below_step (by repeat (first | (with_reducible first | exact HB.out | apply below_alloc | apply pw_below_drewN | apply below_drew1) | exact HB.out)) hb); have n1_ := Aside0.mk (hbox); have n2_ := Aside0.mk ((by rw [hg]; exact (below_size (by repeat (first | (with_reducible first | exact HB.out | apply below_alloc | apply pw_below_drewN | apply below_drew1) | exact HB.out))) : w.heap.size ≤ gb101)); have n3_ := Aside0.mk ((by rw [hg]; exact (below_size (by repeat (first | (with_reducible first | exact HB.out | apply below_alloc | apply pw_below_drewN | apply below_drew1) | exact HB.out))) : w.heap.size ≤ gb101)); clear HB; have HB := n0_; have BK101 := n1_; have GW101 := n2_; have GE101 := n3_; clear n0_ n1_ n2_ n3_; clear hb hbox hg; have hcz17_0 : w16.cell? ⟨gb101, 0, none⟩ = some (.int .i64 a0_0) := (blk_cell BK101.out 0).trans rfl; have hcz17_1 : w16.cell? ⟨gb101, 1, none⟩ = some (.slice A0_1 l0_1.length c0_1) := (blk_cell BK101.out 1).trans rfl; have hcz17_2 : w16.cell? ⟨gb101, 2, none⟩ = some (.slice A0_2 l0_2.length c0_2) := (blk_cell BK101.out 2).trans rfl; have hcz17_3 : w16.cell? ⟨gb101, 3, none⟩ = some (.slice A0_3 l0_3.length c0_3) := (blk_cell BK101.out 3).trans rfl; have hcz17_4 : w16.cell? ⟨gb101, 4, none⟩ = some (.slice A0_4 l0_4.length c0_4) := (blk_cell BK101.out 4).trans rfl; have hcz17_5 : w16.cell? ⟨gb101, 5, none⟩ = some (.slice A0_5 l0_5.length c0_5) := (blk_cell BK101.out 5).trans rfl; have hfz17_0 := blk_frozen BK101.out 0; have hfz17_1 := blk_frozen BK101.out 1; have hfz17_2 := blk_frozen BK101.out 2; have hfz17_3 := blk_frozen BK101.out 3; have hfz17_4 := blk_frozen BK101.out 4; have hfz17_5 := blk_frozen BK101.out 5) | ((with_reducible refine gate_callee (f := 23) rfl ?_); refine goesL_ (some 10) rfl rfl Try.func23 (by kernel_rfl) rfl #[.agg #[.int .i64 a0_0, .slice A0_1 l0_1.length c0_1, .slice A0_2 l0_2.length c0_2, .slice A0_3 l0_3.length c0_3, .slice A0_4 l0_4.length c0_4, .slice A0_5 l0_5.length c0_5]] rfl (by (try simp only [List.map_toArray, List.map_cons, List.map_nil]); first | done | rfl | (simp only [List.length_drop, List.length_take]; rfl)) ?_; (with_reducible refine (merkhetlaw21_Great.calls k a0_0 _ _ l0_1 _ _ l0_2 _ _ l0_3 _ _ l0_4 _ _ l0_5 false _ ?side1 ?side2 ?side3 ?side4 ?side5 ?side6 ?side7 ?side8 ?side9 ?side10 A3.out).mono ?_); (case side1 => repeat (first | exact (Kd.C_below HR0_1.out HB.out) | (with_reducible refine Kd.C_alloc ?_ _) | (with_reducible refine Kd.C_drewN ?_ _) | (with_reducible refine Kd.C_drew ?_))); (case side2 => exact HC0_1.out); (case side3 => repeat (first | exact (Kd.C_below HR0_2.out HB.out) | (with_reducible refine Kd.C_alloc ?_ _) | (with_reducible refine Kd.C_drewN ?_ _) | (with_reducible refine Kd.C_drew ?_))); (case side4 => exact HC0_2.out); (case side5 => repeat (first | exact (Kd.C_below HR0_3.out HB.out) | (with_reducible refine Kd.C_alloc ?_ _) | (with_reducible refine Kd.C_drewN ?_ _) | (with_reducible refine Kd.C_drew ?_))); (case side6 => exact HC0_3.out); (case side7 => repeat (first | exact (Kd.C_below HR0_4.out HB.out) | (with_reducible refine Kd.C_alloc ?_ _) | (with_reducible refine Kd.C_drewN ?_ _) | (with_reducible refine Kd.C_drew ?_))); (case side8 => exact HC0_4.out); (case side9 => repeat (first | exact (Kd.C_below HR0_5.out HB.out) | (with_reducible refine Kd.C_alloc ?_ _) | (with_reducible refine Kd.C_drewN ?_ _) | (with_reducible refine Kd.C_drew ?_))); (case side10 => exact HC0_5.out); rintro e w18 ⟨rfl, hb⟩; refine ⟨_, rfl, ?_⟩; have n0_ := Aside0.mk (blk_below (g := gb101) (o := .cells #[.int .i64 a0_0, .slice A0_1 l0_1.length c0_1, .slice A0_2 l0_2.length c0_2, .slice A0_3 l0_3.length c0_3, .slice A0_4 l0_4.length c0_4, .slice A0_5 l0_5.length c0_5] 48 (0, 0)) (by (with_reducible repeat (first | refine blk_drewN ?_ _ | refine blk_drew ?_ | refine blk_alloc ?_ _)); exact BK101.out) hb); have n1_ := Aside0.mk (below_step (by repeat (first | (with_reducible first | exact HB.out | apply below_alloc | apply pw_below_drewN | apply below_drew1 | refine below_set ?_ GE101.out) | exact HB.out)) hb); clear BK101; clear HB; have BK101 := n0_; have HB := n1_; clear n0_ n1_; (try clear hb); (try clear hb2); (try clear hk); (try clear hi); have hcz19_0 : w18.cell? ⟨gb101, 0, none⟩ = some (.int .i64 a0_0) := (blk_cell BK101.out 0).trans rfl; have hcz19_1 : w18.cell? ⟨gb101, 1, none⟩ = some (.slice A0_1 l0_1.length c0_1) := (blk_cell BK101.out 1).trans rfl; have hcz19_2 : w18.cell? ⟨gb101, 2, none⟩ = some (.slice A0_2 l0_2.length c0_2) := (blk_cell BK101.out 2).trans rfl; have hcz19_3 : w18.cell? ⟨gb101, 3, none⟩ = some (.slice A0_3 l0_3.length c0_3) := (blk_cell BK101.out 3).trans rfl; have hcz19_4 : w18.cell? ⟨gb101, 4, none⟩ = some (.slice A0_4 l0_4.length c0_4) := (blk_cell BK101.out 4).trans rfl; have hcz19_5 : w18.cell? ⟨gb101, 5, none⟩ = some (.slice A0_5 l0_5.length c0_5) := (blk_cell BK101.out 5).trans rfl; have hfz19_0 := blk_frozen BK101.out 0; have hfz19_1 := blk_frozen BK101.out 1; have hfz19_2 := blk_frozen BK101.out 2; have hfz19_3 := blk_frozen BK101.out 3; have hfz19_4 := blk_frozen BK101.out 4; have hfz19_5 := blk_frozen BK101.out 5) | ((with_reducible refine gate_callee (f := 25) rfl ?_); refine goesL_ (some 15) rfl rfl Try.func25 (by kernel_rfl) rfl #[.agg #[.int .i64 a0_0, .slice A0_1 l0_1.length c0_1, .slice A0_2 l0_2.length c0_2, .slice A0_3 l0_3.length c0_3, .slice A0_4 l0_4.length c0_4, .slice A0_5 l0_5.length c0_5], .int .i64 a1] rfl (by (try simp only [List.map_toArray, List.map_cons, List.map_nil]); first | done | rfl | (simp only [List.length_drop, List.length_take]; rfl)) ?_; (with_reducible refine (chart_Boxes.calls a0_0 _ _ l0_1 _ _ l0_2 _ _ l0_3 _ _ l0_4 _ _ l0_5 a1 t104 t107 _ ?side1 ?side2 ?side3 ?side4 ?side5 ?side6 ?side7 ?side8 ?side9 ?side10 A10.out).mono ?_); (case side1 => repeat (first | exact (Kd.C_below HR0_1.out HB.out) | (with_reducible refine Kd.C_alloc ?_ _) | (with_reducible refine Kd.C_drewN ?_ _) | (with_reducible refine Kd.C_drew ?_))); (case side2 => exact HC0_1.out); (case side3 => repeat (first | exact (Kd.C_below HR0_2.out HB.out) | (with_reducible refine Kd.C_alloc ?_ _) | (with_reducible refine Kd.C_drewN ?_ _) | (with_reducible refine Kd.C_drew ?_))); (case side4 => exact HC0_2.out); (case side5 => repeat (first | exact (Kd.C_below HR0_3.out HB.out) | (with_reducible refine Kd.C_alloc ?_ _) | (with_reducible refine Kd.C_drewN ?_ _) | (with_reducible refine Kd.C_drew ?_))); (case side6 => exact HC0_3.out); (case side7 => repeat (first | exact (Kd.C_below HR0_4.out HB.out) | (with_reducible refine Kd.C_alloc ?_ _) | (with_reducible refine Kd.C_drewN ?_ _) | (with_reducible refine Kd.C_drew ?_))); (case side8 => exact HC0_4.out); (case side9 => repeat (first | exact (Kd.C_below HR0_5.out HB.out) | (with_reducible refine Kd.C_alloc ?_ _) | (with_reducible refine Kd.C_drewN ?_ _) | (with_reducible refine Kd.C_drew ?_))); (case side10 => exact HC0_5.out); rintro e w20 ⟨v105, rfl, ho0, hb⟩; refine ⟨_, rfl, ?_⟩; have n0_ := Aside0.mk (Kd.R_lower ho0 (below_size (by repeat (first | (with_reducible first | exact HB.out | apply below_alloc | apply pw_below_drewN | apply below_drew1 | refine below_set ?_ GE101.out) | exact HB.out)))); have n1_ := Aside0.mk (blk_below (g := gb101) (o := .cells #[.int .i64 a0_0, .slice A0_1 l0_1.length c0_1, .slice A0_2 l0_2.length c0_2, .slice A0_3 l0_3.length c0_3, .slice A0_4 l0_4.length c0_4, .slice A0_5 l0_5.length c0_5] 48 (0, 0)) (by (with_reducible repeat (first | refine blk_drewN ?_ _ | refine blk_drew ?_ | refine blk_alloc ?_ _)); exact BK101.out) hb); have n2_ := Aside0.mk (below_step (by repeat (first | (with_reducible first | exact HB.out | apply below_alloc | apply pw_below_drewN | apply below_drew1 | refine below_set ?_ GE101.out) | exact HB.out)) hb); clear BK101; clear HB; have HO106 := n0_; have BK101 := n1_; have HB := n2_; clear n0_ n1_ n2_; (try clear hb); (try clear hb2); (try clear hk); (try clear hi); (try clear ho0); have hcz21_0 : w20.cell? ⟨gb101, 0, none⟩ = some (.int .i64 a0_0) := (blk_cell BK101.out 0).trans rfl; have hcz21_1 : w20.cell? ⟨gb101, 1, none⟩ = some (.slice A0_1 l0_1.length c0_1) := (blk_cell BK101.out 1).trans rfl; have hcz21_2 : w20.cell? ⟨gb101, 2, none⟩ = some (.slice A0_2 l0_2.length c0_2) := (blk_cell BK101.out 2).trans rfl; have hcz21_3 : w20.cell? ⟨gb101, 3, none⟩ = some (.slice A0_3 l0_3.length c0_3) := (blk_cell BK101.out 3).trans rfl; have hcz21_4 : w20.cell? ⟨gb101, 4, none⟩ = some (.slice A0_4 l0_4.length c0_4) := (blk_cell BK101.out 4).trans rfl; have hcz21_5 : w20.cell? ⟨gb101, 5, none⟩ = some (.slice A0_5 l0_5.length c0_5) := (blk_cell BK101.out 5).trans rfl; have hfz21_0 := blk_frozen BK101.out 0; have hfz21_1 := blk_frozen BK101.out 1; have hfz21_2 := blk_frozen BK101.out 2; have hfz21_3 := blk_frozen BK101.out 3; have hfz21_4 := blk_frozen BK101.out 4; have hfz21_5 := blk_frozen BK101.out 5) | ((with_reducible refine gate_callee (f := 26) rfl ?_); refine goesL_ (some 21) rfl rfl Try.func26 (by kernel_rfl) rfl #[.agg #[.int .i64 a0_0, .slice A0_1 l0_1.length c0_1, .slice A0_2 l0_2.length c0_2, .slice A0_3 l0_3.length c0_3, .slice A0_4 l0_4.length c0_4, .slice A0_5 l0_5.length c0_5], .int .i64 a1] rfl (by (try simp only [List.map_toArray, List.map_cons, List.map_nil]); first | done | rfl | (simp only [List.length_drop, List.length_take]; rfl)) ?_; (with_reducible refine (merkhetref26_Boxes.calls k a0_0 _ _ l0_1 _ _ l0_2 _ _ l0_3 _ _ l0_4 _ _ l0_5 a1 t108 t111 _ ?side1 ?side2 ?side3 ?side4 ?side5 ?side6 ?side7 ?side8 ?side9 ?side10 A11.out).mono ?_); (case side1 => repeat (first | exact (Kd.C_below HR0_1.out HB.out) | (with_reducible refine Kd.C_alloc ?_ _) | (with_reducible refine Kd.C_drewN ?_ _) | (with_reducible refine Kd.C_drew ?_))); (case side2 => exact HC0_1.out); (case side3 => repeat (first | exact (Kd.C_below HR0_2.out HB.out) | (with_reducible refine Kd.C_alloc ?_ _) | (with_reducible refine Kd.C_drewN ?_ _) | (with_reducible refine Kd.C_drew ?_))); (case side4 => exact HC0_2.out); (case side5 => repeat (first | exact (Kd.C_below HR0_3.out HB.out) | (with_reducible refine Kd.C_alloc ?_ _) | (with_reducible refine Kd.C_drewN ?_ _) | (with_reducible refine Kd.C_drew ?_))); (case side6 => exact HC0_3.out); (case side7 => repeat (first | exact (Kd.C_below HR0_4.out HB.out) | (with_reducible refine Kd.C_alloc ?_ _) | (with_reducible refine Kd.C_drewN ?_ _) | (with_reducible refine Kd.C_drew ?_))); (case side8 => exact HC0_4.out); (case side9 => repeat (first | exact (Kd.C_below HR0_5.out HB.out) | (with_reducible refine Kd.C_alloc ?_ _) | (with_reducible refine Kd.C_drewN ?_ _) | (with_reducible refine Kd.C_drew ?_))); (case side10 => exact HC0_5.out); rintro e w22 ⟨v109, rfl, ho0, hb⟩; refine ⟨_, rfl, ?_⟩; have n0_ := Aside0.mk (Kd.R_below (by (with_reducible repeat (first | apply Kd.R_alloc | apply Kd.R_drewN | apply Kd.R_drew)); exact HO106.out) hb); have n1_ := Aside0.mk (Kd.R_lower ho0 (below_size (by repeat (first | (with_reducible first | exact HB.out | apply below_alloc | apply pw_below_drewN | apply below_drew1 | refine below_set ?_ GE101.out) | exact HB.out)))); have n2_ := Aside0.mk (blk_below (g := gb101) (o := .cells #[.int .i64 a0_0, .slice A0_1 l0_1.length c0_1, .slice A0_2 l0_2.length c0_2, .slice A0_3 l0_3.length c0_3, .slice A0_4 l0_4.length c0_4, .slice A0_5 l0_5.length c0_5] 48 (0, 0)) (by (with_reducible repeat (first | refine blk_drewN ?_ _ | refine blk_drew ?_ | refine blk_alloc ?_ _)); exact BK101.out) hb); have n3_ := Aside0.mk (below_step (by repeat (first | (with_reducible first | exact HB.out | apply below_alloc | apply pw_below_drewN | apply below_drew1 | refine below_set ?_ GE101.out) | exact HB.out)) hb); clear HO106; clear BK101; clear HB; have HO106 := n0_; have HO110 := n1_; have BK101 := n2_; have HB := n3_; clear n0_ n1_ n2_ n3_; (try clear hb); (try clear hb2); (try clear hk); (try clear hi); (try clear ho0)) | ((with_reducible refine gate_callee (f := 24) rfl ?_); refine goesL_ (some 24) rfl rfl Try.func24 (by kernel_rfl) rfl #[] rfl (by (try simp only [List.map_toArray, List.map_cons, List.map_nil]); first | done | rfl | (simp only [List.length_drop, List.length_take]; rfl)) ?_; (with_reducible refine (merkhetlaw26_fixed.calls  true _ A12.out).mono ?_); rintro e w23 ⟨rfl, hb⟩; refine ⟨_, rfl, ?_⟩; have n0_ := Aside0.mk (Kd.R_below (by (with_reducible repeat (first | apply Kd.R_alloc | apply Kd.R_drewN | apply Kd.R_drew)); exact HO106.out) hb); have n1_ := Aside0.mk (Kd.R_below (by (with_reducible repeat (first | apply Kd.R_alloc | apply Kd.R_drewN | apply Kd.R_drew)); exact HO110.out) hb); have n2_ := Aside0.mk (blk_below (g := gb101) (o := .cells #[.int .i64 a0_0, .slice A0_1 l0_1.length c0_1, .slice A0_2 l0_2.length c0_2, .slice A0_3 l0_3.length c0_3, .slice A0_4 l0_4.length c0_4, .slice A0_5 l0_5.length c0_5] 48 (0, 0)) (by (with_reducible repeat (first | refine blk_drewN ?_ _ | refine blk_drew ?_ | refine blk_alloc ?_ _)); exact BK101.out) hb); have n3_ := Aside0.mk (below_step (by repeat (first | (with_reducible first | exact HB.out | apply below_alloc | apply pw_below_drewN | apply below_drew1 | refine below_set ?_ GE101.out) | exact HB.out)) hb); clear HO106; clear HO110; clear BK101; clear HB; have HO106 := n0_; have HO110 := n1_; have BK101 := n2_; have HB := n3_; clear n0_ n1_ n2_ n3_; (try clear hb); (try clear hb2); (try clear hk); (try clear hi); obtain ⟨Ao24, co24, eo24⟩ := Kd.R_slice HO106.out; subst eo24; obtain ⟨Ao25, co25, eo25⟩ := Kd.R_slice HO110.out; subst eo25) | (go_at_call 27; (with_reducible refine (merkhetref26_Same.calls k _ _ t104 _ _ t108 true _ ?side1 ?side2 ?side3 ?side4 A14.out).mono ?_); (case side1 => repeat (first | exact (Kd.R_reads' HO106.out).2.2 | (with_reducible refine Kd.C_alloc ?_ _) | (with_reducible refine Kd.C_drewN ?_ _) | (with_reducible refine Kd.C_drew ?_))); (case side2 => exact (Kd.R_reads' HO106.out).2.1); (case side3 => repeat (first | exact (Kd.R_reads' HO110.out).2.2 | (with_reducible refine Kd.C_alloc ?_ _) | (with_reducible refine Kd.C_drewN ?_ _) | (with_reducible refine Kd.C_drew ?_))); (case side4 => exact (Kd.R_reads' HO110.out).2.1); rintro e w26 ⟨rfl, hb⟩; have n0_ := Aside0.mk (Kd.R_below (by (with_reducible repeat (first | apply Kd.R_alloc | apply Kd.R_drewN | apply Kd.R_drew)); exact HO106.out) hb); have n1_ := Aside0.mk (Kd.R_below (by (with_reducible repeat (first | apply Kd.R_alloc | apply Kd.R_drewN | apply Kd.R_drew)); exact HO110.out) hb); have n2_ := Aside0.mk (blk_below (g := gb101) (o := .cells #[.int .i64 a0_0, .slice A0_1 l0_1.length c0_1, .slice A0_2 l0_2.length c0_2, .slice A0_3 l0_3.length c0_3, .slice A0_4 l0_4.length c0_4, .slice A0_5 l0_5.length c0_5] 48 (0, 0)) (by (with_reducible repeat (first | refine blk_drewN ?_ _ | refine blk_drew ?_ | refine blk_alloc ?_ _)); exact BK101.out) hb); have n3_ := Aside0.mk (below_step (by repeat (first | (with_reducible first | exact HB.out | apply below_alloc | apply pw_below_drewN | apply below_drew1 | refine below_set ?_ GE101.out) | exact HB.out)) hb); clear HO106; clear HO110; clear BK101; clear HB; have HO106 := n0_; have HO110 := n1_; have BK101 := n2_; have HB := n3_; clear n0_ n1_ n2_ n3_; (try clear hb); (try clear hb2); (try clear hk); (try clear hi)))
        go_ret
        exact ⟨by first | rfl | (simp [errW_none, errW_some] <;> rfl) | (simp [*, errW_none, errW_some] <;> rfl), by repeat (first | (with_reducible first | exact HB.out | apply below_alloc | apply pw_below_drewN | apply below_drew1 | refine below_set ?_ GE101.out) | exact HB.out)⟩
      · replace c15 := Bool.eq_false_iff.mpr c15
        subst c15
        have H1 : (some false) = some r := by rw [if_neg (show ¬ (false = true) by decide)] at H; exact H
        clear H
        have H := H1
        clear H1
        obtain rfl := Option.some.inj H
        go_enter Try.func8, Try.ntmps8
        go_wp2_with (first | ((with_reducible refine gate_dst (N := 2) rfl ?_); refine box_event ?hg (N := 2) ?hd (cs := #[.int .i64 a0_0, .slice A0_1 l0_1.length c0_1, .slice A0_2 l0_2.length c0_2, .slice A0_3 l0_3.length c0_3, .slice A0_4 l0_4.length c0_4, .slice A0_5 l0_5.length c0_5]) (t := 48) ?hr ?_; (case hd => rfl); (case hg => rfl); (case hr => first | (go_simp; done) | (go_simp; rfl)); intro gb101 hg w27 hbox hb; have n0_ := Aside0.mk (below_step (by repeat (first | (with_reducible first | exact HB.out | apply below_alloc | apply pw_below_drewN | apply below_drew1) | exact HB.out)) hb); have n1_ := Aside0.mk (hbox); have n2_ := Aside0.mk ((by rw [hg]; exact (below_size (by repeat (first | (with_reducible first | exact HB.out | apply below_alloc | apply pw_below_drewN | apply below_drew1) | exact HB.out))) : w.heap.size ≤ gb101)); have n3_ := Aside0.mk ((by rw [hg]; exact (below_size (by repeat (first | (with_reducible first | exact HB.out | apply below_alloc | apply pw_below_drewN | apply below_drew1) | exact HB.out))) : w.heap.size ≤ gb101)); clear HB; have HB := n0_; have BK101 := n1_; have GW101 := n2_; have GE101 := n3_; clear n0_ n1_ n2_ n3_; clear hb hbox hg; have hcz28_0 : w27.cell? ⟨gb101, 0, none⟩ = some (.int .i64 a0_0) := (blk_cell BK101.out 0).trans rfl; have hcz28_1 : w27.cell? ⟨gb101, 1, none⟩ = some (.slice A0_1 l0_1.length c0_1) := (blk_cell BK101.out 1).trans rfl; have hcz28_2 : w27.cell? ⟨gb101, 2, none⟩ = some (.slice A0_2 l0_2.length c0_2) := (blk_cell BK101.out 2).trans rfl; have hcz28_3 : w27.cell? ⟨gb101, 3, none⟩ = some (.slice A0_3 l0_3.length c0_3) := (blk_cell BK101.out 3).trans rfl; have hcz28_4 : w27.cell? ⟨gb101, 4, none⟩ = some (.slice A0_4 l0_4.length c0_4) := (blk_cell BK101.out 4).trans rfl; have hcz28_5 : w27.cell? ⟨gb101, 5, none⟩ = some (.slice A0_5 l0_5.length c0_5) := (blk_cell BK101.out 5).trans rfl; have hfz28_0 := blk_frozen BK101.out 0; have hfz28_1 := blk_frozen BK101.out 1; have hfz28_2 := blk_frozen BK101.out 2; have hfz28_3 := blk_frozen BK101.out 3; have hfz28_4 := blk_frozen BK101.out 4; have hfz28_5 := blk_frozen BK101.out 5) | ((with_reducible refine gate_callee (f := 23) rfl ?_); refine goesL_ (some 10) rfl rfl Try.func23 (by kernel_rfl) rfl #[.agg #[.int .i64 a0_0, .slice A0_1 l0_1.length c0_1, .slice A0_2 l0_2.length c0_2, .slice A0_3 l0_3.length c0_3, .slice A0_4 l0_4.length c0_4, .slice A0_5 l0_5.length c0_5]] rfl (by (try simp only [List.map_toArray, List.map_cons, List.map_nil]); first | done | rfl | (simp only [List.length_drop, List.length_take]; rfl)) ?_; (with_reducible refine (merkhetlaw21_Great.calls k a0_0 _ _ l0_1 _ _ l0_2 _ _ l0_3 _ _ l0_4 _ _ l0_5 false _ ?side1 ?side2 ?side3 ?side4 ?side5 ?side6 ?side7 ?side8 ?side9 ?side10 A3.out).mono ?_); (case side1 => repeat (first | exact (Kd.C_below HR0_1.out HB.out) | (with_reducible refine Kd.C_alloc ?_ _) | (with_reducible refine Kd.C_drewN ?_ _) | (with_reducible refine Kd.C_drew ?_))); (case side2 => exact HC0_1.out); (case side3 => repeat (first | exact (Kd.C_below HR0_2.out HB.out) | (with_reducible refine Kd.C_alloc ?_ _) | (with_reducible refine Kd.C_drewN ?_ _) | (with_reducible refine Kd.C_drew ?_))); (case side4 => exact HC0_2.out); (case side5 => repeat (first | exact (Kd.C_below HR0_3.out HB.out) | (with_reducible refine Kd.C_alloc ?_ _) | (with_reducible refine Kd.C_drewN ?_ _) | (with_reducible refine Kd.C_drew ?_))); (case side6 => exact HC0_3.out); (case side7 => repeat (first | exact (Kd.C_below HR0_4.out HB.out) | (with_reducible refine Kd.C_alloc ?_ _) | (with_reducible refine Kd.C_drewN ?_ _) | (with_reducible refine Kd.C_drew ?_))); (case side8 => exact HC0_4.out); (case side9 => repeat (first | exact (Kd.C_below HR0_5.out HB.out) | (with_reducible refine Kd.C_alloc ?_ _) | (with_reducible refine Kd.C_drewN ?_ _) | (with_reducible refine Kd.C_drew ?_))); (case side10 => exact HC0_5.out); rintro e w29 ⟨rfl, hb⟩; refine ⟨_, rfl, ?_⟩; have n0_ := Aside0.mk (blk_below (g := gb101) (o := .cells #[.int .i64 a0_0, .slice A0_1 l0_1.length c0_1, .slice A0_2 l0_2.length c0_2, .slice A0_3 l0_3.length c0_3, .slice A0_4 l0_4.length c0_4, .slice A0_5 l0_5.length c0_5] 48 (0, 0)) (by (with_reducible repeat (first | refine blk_drewN ?_ _ | refine blk_drew ?_ | refine blk_alloc ?_ _)); exact BK101.out) hb); have n1_ := Aside0.mk (below_step (by repeat (first | (with_reducible first | exact HB.out | apply below_alloc | apply pw_below_drewN | apply below_drew1 | refine below_set ?_ GE101.out) | exact HB.out)) hb); clear BK101; clear HB; have BK101 := n0_; have HB := n1_; clear n0_ n1_; (try clear hb); (try clear hb2); (try clear hk); (try clear hi); have hcz30_0 : w29.cell? ⟨gb101, 0, none⟩ = some (.int .i64 a0_0) := (blk_cell BK101.out 0).trans rfl; have hcz30_1 : w29.cell? ⟨gb101, 1, none⟩ = some (.slice A0_1 l0_1.length c0_1) := (blk_cell BK101.out 1).trans rfl; have hcz30_2 : w29.cell? ⟨gb101, 2, none⟩ = some (.slice A0_2 l0_2.length c0_2) := (blk_cell BK101.out 2).trans rfl; have hcz30_3 : w29.cell? ⟨gb101, 3, none⟩ = some (.slice A0_3 l0_3.length c0_3) := (blk_cell BK101.out 3).trans rfl; have hcz30_4 : w29.cell? ⟨gb101, 4, none⟩ = some (.slice A0_4 l0_4.length c0_4) := (blk_cell BK101.out 4).trans rfl; have hcz30_5 : w29.cell? ⟨gb101, 5, none⟩ = some (.slice A0_5 l0_5.length c0_5) := (blk_cell BK101.out 5).trans rfl; have hfz30_0 := blk_frozen BK101.out 0; have hfz30_1 := blk_frozen BK101.out 1; have hfz30_2 := blk_frozen BK101.out 2; have hfz30_3 := blk_frozen BK101.out 3; have hfz30_4 := blk_frozen BK101.out 4; have hfz30_5 := blk_frozen BK101.out 5) | ((with_reducible refine gate_callee (f := 25) rfl ?_); refine goesL_ (some 15) rfl rfl Try.func25 (by kernel_rfl) rfl #[.agg #[.int .i64 a0_0, .slice A0_1 l0_1.length c0_1, .slice A0_2 l0_2.length c0_2, .slice A0_3 l0_3.length c0_3, .slice A0_4 l0_4.length c0_4, .slice A0_5 l0_5.length c0_5], .int .i64 a1] rfl (by (try simp only [List.map_toArray, List.map_cons, List.map_nil]); first | done | rfl | (simp only [List.length_drop, List.length_take]; rfl)) ?_; (with_reducible refine (chart_Boxes.calls a0_0 _ _ l0_1 _ _ l0_2 _ _ l0_3 _ _ l0_4 _ _ l0_5 a1 t104 t107 _ ?side1 ?side2 ?side3 ?side4 ?side5 ?side6 ?side7 ?side8 ?side9 ?side10 A10.out).mono ?_); (case side1 => repeat (first | exact (Kd.C_below HR0_1.out HB.out) | (with_reducible refine Kd.C_alloc ?_ _) | (with_reducible refine Kd.C_drewN ?_ _) | (with_reducible refine Kd.C_drew ?_))); (case side2 => exact HC0_1.out); (case side3 => repeat (first | exact (Kd.C_below HR0_2.out HB.out) | (with_reducible refine Kd.C_alloc ?_ _) | (with_reducible refine Kd.C_drewN ?_ _) | (with_reducible refine Kd.C_drew ?_))); (case side4 => exact HC0_2.out); (case side5 => repeat (first | exact (Kd.C_below HR0_3.out HB.out) | (with_reducible refine Kd.C_alloc ?_ _) | (with_reducible refine Kd.C_drewN ?_ _) | (with_reducible refine Kd.C_drew ?_))); (case side6 => exact HC0_3.out); (case side7 => repeat (first | exact (Kd.C_below HR0_4.out HB.out) | (with_reducible refine Kd.C_alloc ?_ _) | (with_reducible refine Kd.C_drewN ?_ _) | (with_reducible refine Kd.C_drew ?_))); (case side8 => exact HC0_4.out); (case side9 => repeat (first | exact (Kd.C_below HR0_5.out HB.out) | (with_reducible refine Kd.C_alloc ?_ _) | (with_reducible refine Kd.C_drewN ?_ _) | (with_reducible refine Kd.C_drew ?_))); (case side10 => exact HC0_5.out); rintro e w31 ⟨v105, rfl, ho0, hb⟩; refine ⟨_, rfl, ?_⟩; have n0_ := Aside0.mk (Kd.R_lower ho0 (below_size (by repeat (first | (with_reducible first | exact HB.out | apply below_alloc | apply pw_below_drewN | apply below_drew1 | refine below_set ?_ GE101.out) | exact HB.out)))); have n1_ := Aside0.mk (blk_below (g := gb101) (o := .cells #[.int .i64 a0_0, .slice A0_1 l0_1.length c0_1, .slice A0_2 l0_2.length c0_2, .slice A0_3 l0_3.length c0_3, .slice A0_4 l0_4.length c0_4, .slice A0_5 l0_5.length c0_5] 48 (0, 0)) (by (with_reducible repeat (first | refine blk_drewN ?_ _ | refine blk_drew ?_ | refine blk_alloc ?_ _)); exact BK101.out) hb); have n2_ := Aside0.mk (below_step (by repeat (first | (with_reducible first | exact HB.out | apply below_alloc | apply pw_below_drewN | apply below_drew1 | refine below_set ?_ GE101.out) | exact HB.out)) hb); clear BK101; clear HB; have HO106 := n0_; have BK101 := n1_; have HB := n2_; clear n0_ n1_ n2_; (try clear hb); (try clear hb2); (try clear hk); (try clear hi); (try clear ho0); have hcz32_0 : w31.cell? ⟨gb101, 0, none⟩ = some (.int .i64 a0_0) := (blk_cell BK101.out 0).trans rfl; have hcz32_1 : w31.cell? ⟨gb101, 1, none⟩ = some (.slice A0_1 l0_1.length c0_1) := (blk_cell BK101.out 1).trans rfl; have hcz32_2 : w31.cell? ⟨gb101, 2, none⟩ = some (.slice A0_2 l0_2.length c0_2) := (blk_cell BK101.out 2).trans rfl; have hcz32_3 : w31.cell? ⟨gb101, 3, none⟩ = some (.slice A0_3 l0_3.length c0_3) := (blk_cell BK101.out 3).trans rfl; have hcz32_4 : w31.cell? ⟨gb101, 4, none⟩ = some (.slice A0_4 l0_4.length c0_4) := (blk_cell BK101.out 4).trans rfl; have hcz32_5 : w31.cell? ⟨gb101, 5, none⟩ = some (.slice A0_5 l0_5.length c0_5) := (blk_cell BK101.out 5).trans rfl; have hfz32_0 := blk_frozen BK101.out 0; have hfz32_1 := blk_frozen BK101.out 1; have hfz32_2 := blk_frozen BK101.out 2; have hfz32_3 := blk_frozen BK101.out 3; have hfz32_4 := blk_frozen BK101.out 4; have hfz32_5 := blk_frozen BK101.out 5) | ((with_reducible refine gate_callee (f := 26) rfl ?_); refine goesL_ (some 21) rfl rfl Try.func26 (by kernel_rfl) rfl #[.agg #[.int .i64 a0_0, .slice A0_1 l0_1.length c0_1, .slice A0_2 l0_2.length c0_2, .slice A0_3 l0_3.length c0_3, .slice A0_4 l0_4.length c0_4, .slice A0_5 l0_5.length c0_5], .int .i64 a1] rfl (by (try simp only [List.map_toArray, List.map_cons, List.map_nil]); first | done | rfl | (simp only [List.length_drop, List.length_take]; rfl)) ?_; (with_reducible refine (merkhetref26_Boxes.calls k a0_0 _ _ l0_1 _ _ l0_2 _ _ l0_3 _ _ l0_4 _ _ l0_5 a1 t108 t111 _ ?side1 ?side2 ?side3 ?side4 ?side5 ?side6 ?side7 ?side8 ?side9 ?side10 A11.out).mono ?_); (case side1 => repeat (first | exact (Kd.C_below HR0_1.out HB.out) | (with_reducible refine Kd.C_alloc ?_ _) | (with_reducible refine Kd.C_drewN ?_ _) | (with_reducible refine Kd.C_drew ?_))); (case side2 => exact HC0_1.out); (case side3 => repeat (first | exact (Kd.C_below HR0_2.out HB.out) | (with_reducible refine Kd.C_alloc ?_ _) | (with_reducible refine Kd.C_drewN ?_ _) | (with_reducible refine Kd.C_drew ?_))); (case side4 => exact HC0_2.out); (case side5 => repeat (first | exact (Kd.C_below HR0_3.out HB.out) | (with_reducible refine Kd.C_alloc ?_ _) | (with_reducible refine Kd.C_drewN ?_ _) | (with_reducible refine Kd.C_drew ?_))); (case side6 => exact HC0_3.out); (case side7 => repeat (first | exact (Kd.C_below HR0_4.out HB.out) | (with_reducible refine Kd.C_alloc ?_ _) | (with_reducible refine Kd.C_drewN ?_ _) | (with_reducible refine Kd.C_drew ?_))); (case side8 => exact HC0_4.out); (case side9 => repeat (first | exact (Kd.C_below HR0_5.out HB.out) | (with_reducible refine Kd.C_alloc ?_ _) | (with_reducible refine Kd.C_drewN ?_ _) | (with_reducible refine Kd.C_drew ?_))); (case side10 => exact HC0_5.out); rintro e w33 ⟨v109, rfl, ho0, hb⟩; refine ⟨_, rfl, ?_⟩; have n0_ := Aside0.mk (Kd.R_below (by (with_reducible repeat (first | apply Kd.R_alloc | apply Kd.R_drewN | apply Kd.R_drew)); exact HO106.out) hb); have n1_ := Aside0.mk (Kd.R_lower ho0 (below_size (by repeat (first | (with_reducible first | exact HB.out | apply below_alloc | apply pw_below_drewN | apply below_drew1 | refine below_set ?_ GE101.out) | exact HB.out)))); have n2_ := Aside0.mk (blk_below (g := gb101) (o := .cells #[.int .i64 a0_0, .slice A0_1 l0_1.length c0_1, .slice A0_2 l0_2.length c0_2, .slice A0_3 l0_3.length c0_3, .slice A0_4 l0_4.length c0_4, .slice A0_5 l0_5.length c0_5] 48 (0, 0)) (by (with_reducible repeat (first | refine blk_drewN ?_ _ | refine blk_drew ?_ | refine blk_alloc ?_ _)); exact BK101.out) hb); have n3_ := Aside0.mk (below_step (by repeat (first | (with_reducible first | exact HB.out | apply below_alloc | apply pw_below_drewN | apply below_drew1 | refine below_set ?_ GE101.out) | exact HB.out)) hb); clear HO106; clear BK101; clear HB; have HO106 := n0_; have HO110 := n1_; have BK101 := n2_; have HB := n3_; clear n0_ n1_ n2_ n3_; (try clear hb); (try clear hb2); (try clear hk); (try clear hi); (try clear ho0)) | ((with_reducible refine gate_callee (f := 24) rfl ?_); refine goesL_ (some 24) rfl rfl Try.func24 (by kernel_rfl) rfl #[] rfl (by (try simp only [List.map_toArray, List.map_cons, List.map_nil]); first | done | rfl | (simp only [List.length_drop, List.length_take]; rfl)) ?_; (with_reducible refine (merkhetlaw26_fixed.calls  true _ A12.out).mono ?_); rintro e w34 ⟨rfl, hb⟩; refine ⟨_, rfl, ?_⟩; have n0_ := Aside0.mk (Kd.R_below (by (with_reducible repeat (first | apply Kd.R_alloc | apply Kd.R_drewN | apply Kd.R_drew)); exact HO106.out) hb); have n1_ := Aside0.mk (Kd.R_below (by (with_reducible repeat (first | apply Kd.R_alloc | apply Kd.R_drewN | apply Kd.R_drew)); exact HO110.out) hb); have n2_ := Aside0.mk (blk_below (g := gb101) (o := .cells #[.int .i64 a0_0, .slice A0_1 l0_1.length c0_1, .slice A0_2 l0_2.length c0_2, .slice A0_3 l0_3.length c0_3, .slice A0_4 l0_4.length c0_4, .slice A0_5 l0_5.length c0_5] 48 (0, 0)) (by (with_reducible repeat (first | refine blk_drewN ?_ _ | refine blk_drew ?_ | refine blk_alloc ?_ _)); exact BK101.out) hb); have n3_ := Aside0.mk (below_step (by repeat (first | (with_reducible first | exact HB.out | apply below_alloc | apply pw_below_drewN | apply below_drew1 | refine below_set ?_ GE101.out) | exact HB.out)) hb); clear HO106; clear HO110; clear BK101; clear HB; have HO106 := n0_; have HO110 := n1_; have BK101 := n2_; have HB := n3_; clear n0_ n1_ n2_ n3_; (try clear hb); (try clear hb2); (try clear hk); (try clear hi); obtain ⟨Ao35, co35, eo35⟩ := Kd.R_slice HO106.out; subst eo35; obtain ⟨Ao36, co36, eo36⟩ := Kd.R_slice HO110.out; subst eo36) | (go_at_call 27; (with_reducible refine (merkhetref26_Same.calls k _ _ t104 _ _ t108 false _ ?side1 ?side2 ?side3 ?side4 A14.out).mono ?_); (case side1 => repeat (first | exact (Kd.R_reads' HO106.out).2.2 | (with_reducible refine Kd.C_alloc ?_ _) | (with_reducible refine Kd.C_drewN ?_ _) | (with_reducible refine Kd.C_drew ?_))); (case side2 => exact (Kd.R_reads' HO106.out).2.1); (case side3 => repeat (first | exact (Kd.R_reads' HO110.out).2.2 | (with_reducible refine Kd.C_alloc ?_ _) | (with_reducible refine Kd.C_drewN ?_ _) | (with_reducible refine Kd.C_drew ?_))); (case side4 => exact (Kd.R_reads' HO110.out).2.1); rintro e w37 ⟨rfl, hb⟩; have n0_ := Aside0.mk (Kd.R_below (by (with_reducible repeat (first | apply Kd.R_alloc | apply Kd.R_drewN | apply Kd.R_drew)); exact HO106.out) hb); have n1_ := Aside0.mk (Kd.R_below (by (with_reducible repeat (first | apply Kd.R_alloc | apply Kd.R_drewN | apply Kd.R_drew)); exact HO110.out) hb); have n2_ := Aside0.mk (blk_below (g := gb101) (o := .cells #[.int .i64 a0_0, .slice A0_1 l0_1.length c0_1, .slice A0_2 l0_2.length c0_2, .slice A0_3 l0_3.length c0_3, .slice A0_4 l0_4.length c0_4, .slice A0_5 l0_5.length c0_5] 48 (0, 0)) (by (with_reducible repeat (first | refine blk_drewN ?_ _ | refine blk_drew ?_ | refine blk_alloc ?_ _)); exact BK101.out) hb); have n3_ := Aside0.mk (below_step (by repeat (first | (with_reducible first | exact HB.out | apply below_alloc | apply pw_below_drewN | apply below_drew1 | refine below_set ?_ GE101.out) | exact HB.out)) hb); clear HO106; clear HO110; clear BK101; clear HB; have HO106 := n0_; have HO110 := n1_; have BK101 := n2_; have HB := n3_; clear n0_ n1_ n2_ n3_; (try clear hb); (try clear hb2); (try clear hk); (try clear hi)))
        go_ret
        exact ⟨by first | rfl | (simp [errW_none, errW_some] <;> rfl) | (simp [*, errW_none, errW_some] <;> rfl), by repeat (first | (with_reducible first | exact HB.out | apply below_alloc | apply pw_below_drewN | apply below_drew1 | refine below_set ?_ GE101.out) | exact HB.out)⟩
    · replace c13 := Bool.eq_false_iff.mpr c13
      subst c13
      have H1 : (some false) = some r := by rw [if_neg (show ¬ (false = true) by decide)] at H; exact H
      clear H
      have H := H1
      clear H1
      obtain rfl := Option.some.inj H
      go_enter Try.func8, Try.ntmps8
      go_wp2_with (first | ((with_reducible refine gate_dst (N := 2) rfl ?_); refine box_event ?hg (N := 2) ?hd (cs := #[.int .i64 a0_0, .slice A0_1 l0_1.length c0_1, .slice A0_2 l0_2.length c0_2, .slice A0_3 l0_3.length c0_3, .slice A0_4 l0_4.length c0_4, .slice A0_5 l0_5.length c0_5]) (t := 48) ?hr ?_; (case hd => rfl); (case hg => rfl); (case hr => first | (go_simp; done) | (go_simp; rfl)); intro gb101 hg w38 hbox hb; have n0_ := Aside0.mk (below_step (by repeat (first | (with_reducible first | exact HB.out | apply below_alloc | apply pw_below_drewN | apply below_drew1) | exact HB.out)) hb); have n1_ := Aside0.mk (hbox); have n2_ := Aside0.mk ((by rw [hg]; exact (below_size (by repeat (first | (with_reducible first | exact HB.out | apply below_alloc | apply pw_below_drewN | apply below_drew1) | exact HB.out))) : w.heap.size ≤ gb101)); have n3_ := Aside0.mk ((by rw [hg]; exact (below_size (by repeat (first | (with_reducible first | exact HB.out | apply below_alloc | apply pw_below_drewN | apply below_drew1) | exact HB.out))) : w.heap.size ≤ gb101)); clear HB; have HB := n0_; have BK101 := n1_; have GW101 := n2_; have GE101 := n3_; clear n0_ n1_ n2_ n3_; clear hb hbox hg; have hcz39_0 : w38.cell? ⟨gb101, 0, none⟩ = some (.int .i64 a0_0) := (blk_cell BK101.out 0).trans rfl; have hcz39_1 : w38.cell? ⟨gb101, 1, none⟩ = some (.slice A0_1 l0_1.length c0_1) := (blk_cell BK101.out 1).trans rfl; have hcz39_2 : w38.cell? ⟨gb101, 2, none⟩ = some (.slice A0_2 l0_2.length c0_2) := (blk_cell BK101.out 2).trans rfl; have hcz39_3 : w38.cell? ⟨gb101, 3, none⟩ = some (.slice A0_3 l0_3.length c0_3) := (blk_cell BK101.out 3).trans rfl; have hcz39_4 : w38.cell? ⟨gb101, 4, none⟩ = some (.slice A0_4 l0_4.length c0_4) := (blk_cell BK101.out 4).trans rfl; have hcz39_5 : w38.cell? ⟨gb101, 5, none⟩ = some (.slice A0_5 l0_5.length c0_5) := (blk_cell BK101.out 5).trans rfl; have hfz39_0 := blk_frozen BK101.out 0; have hfz39_1 := blk_frozen BK101.out 1; have hfz39_2 := blk_frozen BK101.out 2; have hfz39_3 := blk_frozen BK101.out 3; have hfz39_4 := blk_frozen BK101.out 4; have hfz39_5 := blk_frozen BK101.out 5) | ((with_reducible refine gate_callee (f := 23) rfl ?_); refine goesL_ (some 10) rfl rfl Try.func23 (by kernel_rfl) rfl #[.agg #[.int .i64 a0_0, .slice A0_1 l0_1.length c0_1, .slice A0_2 l0_2.length c0_2, .slice A0_3 l0_3.length c0_3, .slice A0_4 l0_4.length c0_4, .slice A0_5 l0_5.length c0_5]] rfl (by (try simp only [List.map_toArray, List.map_cons, List.map_nil]); first | done | rfl | (simp only [List.length_drop, List.length_take]; rfl)) ?_; (with_reducible refine (merkhetlaw21_Great.calls k a0_0 _ _ l0_1 _ _ l0_2 _ _ l0_3 _ _ l0_4 _ _ l0_5 false _ ?side1 ?side2 ?side3 ?side4 ?side5 ?side6 ?side7 ?side8 ?side9 ?side10 A3.out).mono ?_); (case side1 => repeat (first | exact (Kd.C_below HR0_1.out HB.out) | (with_reducible refine Kd.C_alloc ?_ _) | (with_reducible refine Kd.C_drewN ?_ _) | (with_reducible refine Kd.C_drew ?_))); (case side2 => exact HC0_1.out); (case side3 => repeat (first | exact (Kd.C_below HR0_2.out HB.out) | (with_reducible refine Kd.C_alloc ?_ _) | (with_reducible refine Kd.C_drewN ?_ _) | (with_reducible refine Kd.C_drew ?_))); (case side4 => exact HC0_2.out); (case side5 => repeat (first | exact (Kd.C_below HR0_3.out HB.out) | (with_reducible refine Kd.C_alloc ?_ _) | (with_reducible refine Kd.C_drewN ?_ _) | (with_reducible refine Kd.C_drew ?_))); (case side6 => exact HC0_3.out); (case side7 => repeat (first | exact (Kd.C_below HR0_4.out HB.out) | (with_reducible refine Kd.C_alloc ?_ _) | (with_reducible refine Kd.C_drewN ?_ _) | (with_reducible refine Kd.C_drew ?_))); (case side8 => exact HC0_4.out); (case side9 => repeat (first | exact (Kd.C_below HR0_5.out HB.out) | (with_reducible refine Kd.C_alloc ?_ _) | (with_reducible refine Kd.C_drewN ?_ _) | (with_reducible refine Kd.C_drew ?_))); (case side10 => exact HC0_5.out); rintro e w40 ⟨rfl, hb⟩; refine ⟨_, rfl, ?_⟩; have n0_ := Aside0.mk (blk_below (g := gb101) (o := .cells #[.int .i64 a0_0, .slice A0_1 l0_1.length c0_1, .slice A0_2 l0_2.length c0_2, .slice A0_3 l0_3.length c0_3, .slice A0_4 l0_4.length c0_4, .slice A0_5 l0_5.length c0_5] 48 (0, 0)) (by (with_reducible repeat (first | refine blk_drewN ?_ _ | refine blk_drew ?_ | refine blk_alloc ?_ _)); exact BK101.out) hb); have n1_ := Aside0.mk (below_step (by repeat (first | (with_reducible first | exact HB.out | apply below_alloc | apply pw_below_drewN | apply below_drew1 | refine below_set ?_ GE101.out) | exact HB.out)) hb); clear BK101; clear HB; have BK101 := n0_; have HB := n1_; clear n0_ n1_; (try clear hb); (try clear hb2); (try clear hk); (try clear hi); have hcz41_0 : w40.cell? ⟨gb101, 0, none⟩ = some (.int .i64 a0_0) := (blk_cell BK101.out 0).trans rfl; have hcz41_1 : w40.cell? ⟨gb101, 1, none⟩ = some (.slice A0_1 l0_1.length c0_1) := (blk_cell BK101.out 1).trans rfl; have hcz41_2 : w40.cell? ⟨gb101, 2, none⟩ = some (.slice A0_2 l0_2.length c0_2) := (blk_cell BK101.out 2).trans rfl; have hcz41_3 : w40.cell? ⟨gb101, 3, none⟩ = some (.slice A0_3 l0_3.length c0_3) := (blk_cell BK101.out 3).trans rfl; have hcz41_4 : w40.cell? ⟨gb101, 4, none⟩ = some (.slice A0_4 l0_4.length c0_4) := (blk_cell BK101.out 4).trans rfl; have hcz41_5 : w40.cell? ⟨gb101, 5, none⟩ = some (.slice A0_5 l0_5.length c0_5) := (blk_cell BK101.out 5).trans rfl; have hfz41_0 := blk_frozen BK101.out 0; have hfz41_1 := blk_frozen BK101.out 1; have hfz41_2 := blk_frozen BK101.out 2; have hfz41_3 := blk_frozen BK101.out 3; have hfz41_4 := blk_frozen BK101.out 4; have hfz41_5 := blk_frozen BK101.out 5) | ((with_reducible refine gate_callee (f := 25) rfl ?_); refine goesL_ (some 15) rfl rfl Try.func25 (by kernel_rfl) rfl #[.agg #[.int .i64 a0_0, .slice A0_1 l0_1.length c0_1, .slice A0_2 l0_2.length c0_2, .slice A0_3 l0_3.length c0_3, .slice A0_4 l0_4.length c0_4, .slice A0_5 l0_5.length c0_5], .int .i64 a1] rfl (by (try simp only [List.map_toArray, List.map_cons, List.map_nil]); first | done | rfl | (simp only [List.length_drop, List.length_take]; rfl)) ?_; (with_reducible refine (chart_Boxes.calls a0_0 _ _ l0_1 _ _ l0_2 _ _ l0_3 _ _ l0_4 _ _ l0_5 a1 t104 t107 _ ?side1 ?side2 ?side3 ?side4 ?side5 ?side6 ?side7 ?side8 ?side9 ?side10 A10.out).mono ?_); (case side1 => repeat (first | exact (Kd.C_below HR0_1.out HB.out) | (with_reducible refine Kd.C_alloc ?_ _) | (with_reducible refine Kd.C_drewN ?_ _) | (with_reducible refine Kd.C_drew ?_))); (case side2 => exact HC0_1.out); (case side3 => repeat (first | exact (Kd.C_below HR0_2.out HB.out) | (with_reducible refine Kd.C_alloc ?_ _) | (with_reducible refine Kd.C_drewN ?_ _) | (with_reducible refine Kd.C_drew ?_))); (case side4 => exact HC0_2.out); (case side5 => repeat (first | exact (Kd.C_below HR0_3.out HB.out) | (with_reducible refine Kd.C_alloc ?_ _) | (with_reducible refine Kd.C_drewN ?_ _) | (with_reducible refine Kd.C_drew ?_))); (case side6 => exact HC0_3.out); (case side7 => repeat (first | exact (Kd.C_below HR0_4.out HB.out) | (with_reducible refine Kd.C_alloc ?_ _) | (with_reducible refine Kd.C_drewN ?_ _) | (with_reducible refine Kd.C_drew ?_))); (case side8 => exact HC0_4.out); (case side9 => repeat (first | exact (Kd.C_below HR0_5.out HB.out) | (with_reducible refine Kd.C_alloc ?_ _) | (with_reducible refine Kd.C_drewN ?_ _) | (with_reducible refine Kd.C_drew ?_))); (case side10 => exact HC0_5.out); rintro e w42 ⟨v105, rfl, ho0, hb⟩; refine ⟨_, rfl, ?_⟩; have n0_ := Aside0.mk (Kd.R_lower ho0 (below_size (by repeat (first | (with_reducible first | exact HB.out | apply below_alloc | apply pw_below_drewN | apply below_drew1 | refine below_set ?_ GE101.out) | exact HB.out)))); have n1_ := Aside0.mk (blk_below (g := gb101) (o := .cells #[.int .i64 a0_0, .slice A0_1 l0_1.length c0_1, .slice A0_2 l0_2.length c0_2, .slice A0_3 l0_3.length c0_3, .slice A0_4 l0_4.length c0_4, .slice A0_5 l0_5.length c0_5] 48 (0, 0)) (by (with_reducible repeat (first | refine blk_drewN ?_ _ | refine blk_drew ?_ | refine blk_alloc ?_ _)); exact BK101.out) hb); have n2_ := Aside0.mk (below_step (by repeat (first | (with_reducible first | exact HB.out | apply below_alloc | apply pw_below_drewN | apply below_drew1 | refine below_set ?_ GE101.out) | exact HB.out)) hb); clear BK101; clear HB; have HO106 := n0_; have BK101 := n1_; have HB := n2_; clear n0_ n1_ n2_; (try clear hb); (try clear hb2); (try clear hk); (try clear hi); (try clear ho0); have hcz43_0 : w42.cell? ⟨gb101, 0, none⟩ = some (.int .i64 a0_0) := (blk_cell BK101.out 0).trans rfl; have hcz43_1 : w42.cell? ⟨gb101, 1, none⟩ = some (.slice A0_1 l0_1.length c0_1) := (blk_cell BK101.out 1).trans rfl; have hcz43_2 : w42.cell? ⟨gb101, 2, none⟩ = some (.slice A0_2 l0_2.length c0_2) := (blk_cell BK101.out 2).trans rfl; have hcz43_3 : w42.cell? ⟨gb101, 3, none⟩ = some (.slice A0_3 l0_3.length c0_3) := (blk_cell BK101.out 3).trans rfl; have hcz43_4 : w42.cell? ⟨gb101, 4, none⟩ = some (.slice A0_4 l0_4.length c0_4) := (blk_cell BK101.out 4).trans rfl; have hcz43_5 : w42.cell? ⟨gb101, 5, none⟩ = some (.slice A0_5 l0_5.length c0_5) := (blk_cell BK101.out 5).trans rfl; have hfz43_0 := blk_frozen BK101.out 0; have hfz43_1 := blk_frozen BK101.out 1; have hfz43_2 := blk_frozen BK101.out 2; have hfz43_3 := blk_frozen BK101.out 3; have hfz43_4 := blk_frozen BK101.out 4; have hfz43_5 := blk_frozen BK101.out 5) | ((with_reducible refine gate_callee (f := 26) rfl ?_); refine goesL_ (some 21) rfl rfl Try.func26 (by kernel_rfl) rfl #[.agg #[.int .i64 a0_0, .slice A0_1 l0_1.length c0_1, .slice A0_2 l0_2.length c0_2, .slice A0_3 l0_3.length c0_3, .slice A0_4 l0_4.length c0_4, .slice A0_5 l0_5.length c0_5], .int .i64 a1] rfl (by (try simp only [List.map_toArray, List.map_cons, List.map_nil]); first | done | rfl | (simp only [List.length_drop, List.length_take]; rfl)) ?_; (with_reducible refine (merkhetref26_Boxes.calls k a0_0 _ _ l0_1 _ _ l0_2 _ _ l0_3 _ _ l0_4 _ _ l0_5 a1 t108 t111 _ ?side1 ?side2 ?side3 ?side4 ?side5 ?side6 ?side7 ?side8 ?side9 ?side10 A11.out).mono ?_); (case side1 => repeat (first | exact (Kd.C_below HR0_1.out HB.out) | (with_reducible refine Kd.C_alloc ?_ _) | (with_reducible refine Kd.C_drewN ?_ _) | (with_reducible refine Kd.C_drew ?_))); (case side2 => exact HC0_1.out); (case side3 => repeat (first | exact (Kd.C_below HR0_2.out HB.out) | (with_reducible refine Kd.C_alloc ?_ _) | (with_reducible refine Kd.C_drewN ?_ _) | (with_reducible refine Kd.C_drew ?_))); (case side4 => exact HC0_2.out); (case side5 => repeat (first | exact (Kd.C_below HR0_3.out HB.out) | (with_reducible refine Kd.C_alloc ?_ _) | (with_reducible refine Kd.C_drewN ?_ _) | (with_reducible refine Kd.C_drew ?_))); (case side6 => exact HC0_3.out); (case side7 => repeat (first | exact (Kd.C_below HR0_4.out HB.out) | (with_reducible refine Kd.C_alloc ?_ _) | (with_reducible refine Kd.C_drewN ?_ _) | (with_reducible refine Kd.C_drew ?_))); (case side8 => exact HC0_4.out); (case side9 => repeat (first | exact (Kd.C_below HR0_5.out HB.out) | (with_reducible refine Kd.C_alloc ?_ _) | (with_reducible refine Kd.C_drewN ?_ _) | (with_reducible refine Kd.C_drew ?_))); (case side10 => exact HC0_5.out); rintro e w44 ⟨v109, rfl, ho0, hb⟩; refine ⟨_, rfl, ?_⟩; have n0_ := Aside0.mk (Kd.R_below (by (with_reducible repeat (first | apply Kd.R_alloc | apply Kd.R_drewN | apply Kd.R_drew)); exact HO106.out) hb); have n1_ := Aside0.mk (Kd.R_lower ho0 (below_size (by repeat (first | (with_reducible first | exact HB.out | apply below_alloc | apply pw_below_drewN | apply below_drew1 | refine below_set ?_ GE101.out) | exact HB.out)))); have n2_ := Aside0.mk (blk_below (g := gb101) (o := .cells #[.int .i64 a0_0, .slice A0_1 l0_1.length c0_1, .slice A0_2 l0_2.length c0_2, .slice A0_3 l0_3.length c0_3, .slice A0_4 l0_4.length c0_4, .slice A0_5 l0_5.length c0_5] 48 (0, 0)) (by (with_reducible repeat (first | refine blk_drewN ?_ _ | refine blk_drew ?_ | refine blk_alloc ?_ _)); exact BK101.out) hb); have n3_ := Aside0.mk (below_step (by repeat (first | (with_reducible first | exact HB.out | apply below_alloc | apply pw_below_drewN | apply below_drew1 | refine below_set ?_ GE101.out) | exact HB.out)) hb); clear HO106; clear BK101; clear HB; have HO106 := n0_; have HO110 := n1_; have BK101 := n2_; have HB := n3_; clear n0_ n1_ n2_ n3_; (try clear hb); (try clear hb2); (try clear hk); (try clear hi); (try clear ho0)) | ((with_reducible refine gate_callee (f := 24) rfl ?_); refine goesL_ (some 24) rfl rfl Try.func24 (by kernel_rfl) rfl #[] rfl (by (try simp only [List.map_toArray, List.map_cons, List.map_nil]); first | done | rfl | (simp only [List.length_drop, List.length_take]; rfl)) ?_; (with_reducible refine (merkhetlaw26_fixed.calls  false _ A12.out).mono ?_); rintro e w45 ⟨rfl, hb⟩; refine ⟨_, rfl, ?_⟩; have n0_ := Aside0.mk (Kd.R_below (by (with_reducible repeat (first | apply Kd.R_alloc | apply Kd.R_drewN | apply Kd.R_drew)); exact HO106.out) hb); have n1_ := Aside0.mk (Kd.R_below (by (with_reducible repeat (first | apply Kd.R_alloc | apply Kd.R_drewN | apply Kd.R_drew)); exact HO110.out) hb); have n2_ := Aside0.mk (blk_below (g := gb101) (o := .cells #[.int .i64 a0_0, .slice A0_1 l0_1.length c0_1, .slice A0_2 l0_2.length c0_2, .slice A0_3 l0_3.length c0_3, .slice A0_4 l0_4.length c0_4, .slice A0_5 l0_5.length c0_5] 48 (0, 0)) (by (with_reducible repeat (first | refine blk_drewN ?_ _ | refine blk_drew ?_ | refine blk_alloc ?_ _)); exact BK101.out) hb); have n3_ := Aside0.mk (below_step (by repeat (first | (with_reducible first | exact HB.out | apply below_alloc | apply pw_below_drewN | apply below_drew1 | refine below_set ?_ GE101.out) | exact HB.out)) hb); clear HO106; clear HO110; clear BK101; clear HB; have HO106 := n0_; have HO110 := n1_; have BK101 := n2_; have HB := n3_; clear n0_ n1_ n2_ n3_; (try clear hb); (try clear hb2); (try clear hk); (try clear hi)))
      go_ret
      exact ⟨by first | rfl | (simp [errW_none, errW_some] <;> rfl) | (simp [*, errW_none, errW_some] <;> rfl), by repeat (first | (with_reducible first | exact HB.out | apply below_alloc | apply pw_below_drewN | apply below_drew1 | refine below_set ?_ GE101.out) | exact HB.out)⟩

end Go.Proofs.Ytmfdhcgdibefiaa.H

-- Written by wip/tools/row.py, a program of this session. Lean checks it.
namespace Go.Proofs.Ytmfdhcgdibefiaa.A
open Go.RowKit Go.Proofs.YtmfdhcgdibefiaaW.PrintWords Go.Proofs.YtmfdhcgdibefiaaW.Open Go.Proofs.Ytmfdhcgdibefiaa.Q
set_option linter.unusedVariables false

end Go.Proofs.Ytmfdhcgdibefiaa.A

-- Written by wip/tools/row.py, a program of this session. Lean checks it.
namespace Go.Proofs.Ytmfdhcgdibefiaa.B
open Go.RowKit Go.Proofs.YtmfdhcgdibefiaaW.PrintWords Go.Proofs.YtmfdhcgdibefiaaW.Open Go.Proofs.Ytmfdhcgdibefiaa.Q Go.Proofs.Ytmfdhcgdibefiaa.A
set_option linter.unusedVariables false

end Go.Proofs.Ytmfdhcgdibefiaa.B

-- Written by wip/tools/row.py, a program of this session. Lean checks it.
namespace Go.Proofs.Ytmfdhcgdibefiaa.K
open Go.RowKit Go.Proofs.YtmfdhcgdibefiaaW.PrintWords Go.Proofs.YtmfdhcgdibefiaaW.Open Go.Proofs.Ytmfdhcgdibefiaa.Q Go.Proofs.Ytmfdhcgdibefiaa.A Go.Proofs.Ytmfdhcgdibefiaa.B
set_option linter.unusedVariables false
end Go.Proofs.Ytmfdhcgdibefiaa.K

-- Written by wip/tools/row.py, a program of this session. Lean checks it.
namespace Go.Proofs.Ytmfdhcgdibefiaa.C
open Go.RowKit Go.Proofs.YtmfdhcgdibefiaaW.PrintWords Go.Proofs.YtmfdhcgdibefiaaW.Open Go.Proofs.Ytmfdhcgdibefiaa.Q Go.Proofs.Ytmfdhcgdibefiaa.A Go.Proofs.Ytmfdhcgdibefiaa.B Go.Proofs.Ytmfdhcgdibefiaa.K
set_option linter.unusedVariables false

end Go.Proofs.Ytmfdhcgdibefiaa.C

-- Written by wip/tools/row.py, a program of this session. Lean checks it.
namespace Go.Proofs.Ytmfdhcgdibefiaa.H
open Go.RowKit Go.Proofs.YtmfdhcgdibefiaaW.PrintWords Go.Proofs.YtmfdhcgdibefiaaW.Open Go.Proofs.Ytmfdhcgdibefiaa.Q Go.Proofs.Ytmfdhcgdibefiaa.A Go.Proofs.Ytmfdhcgdibefiaa.B Go.Proofs.Ytmfdhcgdibefiaa.K Go.Proofs.Ytmfdhcgdibefiaa.C
set_option linter.unusedVariables false
def wf48 (x : S48) : Prop := ((Lit.int .i64 x.f0).wf = true) ∧ ((x.f1.length ≤ maxLen ∧ x.f1.length * 80 ≤ reachBytes ∧ ∀ y ∈ x.f1, wf37 y)) ∧ ((x.f2.length ≤ maxLen ∧ x.f2.length * 8 ≤ reachBytes ∧ ∀ y ∈ x.f2, (Lit.int .i64 y).wf = true)) ∧ ((x.f3.length ≤ maxLen ∧ x.f3.length * 16 ≤ reachBytes ∧ ∀ y ∈ x.f3, y.size ≤ reachBytes)) ∧ ((x.f4.length ≤ maxLen ∧ x.f4.length * 8 ≤ reachBytes ∧ ∀ y ∈ x.f4, (Lit.int .i64 y).wf = true)) ∧ ((x.f5.length ≤ maxLen ∧ x.f5.length * 48 ≤ reachBytes ∧ ∀ y ∈ x.f5, wf126 y))
set_option maxRecDepth 100000 in
theorem opens48 : Opens Try.prog 48 k48 wf48 := by
  refine (Opens.iso _ (fun x => (⟨x.1, x.2.1, x.2.2.1, x.2.2.2.1, x.2.2.2.2.1, x.2.2.2.2.2⟩ : S48)) (fun _ => rfl) (Opens.struct Try.underlying48 (by kernel_rfl) (OpensF.cons rfl rfl (Opens.int Try.underlying3 (by kernel_rfl)) (OpensF.cons rfl rfl (Opens.slice (B := 80) Try.underlying28 (by kernel_rfl) (by kernel_rfl) opens37) (OpensF.cons rfl rfl (Opens.slice (B := 8) Try.underlying31 (by kernel_rfl) (by kernel_rfl) (Opens.int Try.underlying2 (by kernel_rfl))) (OpensF.cons rfl rfl (Opens.slice (B := 16) Try.underlying45 (by kernel_rfl) (by kernel_rfl) (Opens.string Try.underlying9 (by kernel_rfl))) (OpensF.cons rfl rfl (Opens.slice (B := 8) Try.underlying31 (by kernel_rfl) (by kernel_rfl) (Opens.int Try.underlying2 (by kernel_rfl))) (OpensF.one rfl (Opens.slice (B := 48) Try.underlying46 (by kernel_rfl) (by kernel_rfl) opens126))))))))).imp ?_
  exact fun _ h => h
end Go.Proofs.Ytmfdhcgdibefiaa.H

/- Spans' rows, read at a place. -/
namespace Go.Proofs.Ytmfdhcgdibefiaa.L
open Go.RowKit Go.Proofs.Ytmfdhcgdibefiaa.Q Go.Proofs.YtmfdhcgdibefiaaW.PrintWords
set_option linter.unusedVariables false

abbrev Span := S37
theorem rdS_nat (l : List Span) (i : Nat) (h : i < l.length) : rd_T37 l (i : Int) = l[i] := by simp [rd_T37, List.getD, h]
end Go.Proofs.Ytmfdhcgdibefiaa.L

/- The guard of layer 4, as plain lists. -/
namespace Go.Proofs.Ytmfdhcgdibefiaa.L
open Go.RowKit Go.Proofs.Ytmfdhcgdibefiaa.Q Go.Proofs.YtmfdhcgdibefiaaW.PrintWords Go.Proofs.YtmfdhcgdibefiaaW.PrintLast Go.Proofs.YtmfdhcgdibefiaaW.PrintMore Go.Proofs.YtmfdhcgdibefiaaW.Lib
set_option linter.unusedVariables false

theorem great_ev (l : List Span) : ∃ b, Ev (fun k => merkhetlaw04_Great.f k l) b ∧ (b = false → l.length ≤ 60 ∧ ∀ x ∈ l, x.f4.size ≤ 100 ∧ x.f5.size ≤ 100) := by
  unfold merkhetlaw04_Great.f
  by_cases h : (l.length : Int) > 60
  · exact ⟨true, Ev.pos h (Ev.now _), by simp⟩
  · have key : ∀ (d i : Nat), l.length - i = d → i ≤ l.length → ∃ b, Ev (fun k => merkhetlaw04_Great.l0 k l (l.length : Int) (i : Int)) b ∧ (b = false → ∀ x ∈ l.drop i, x.f4.size ≤ 100 ∧ x.f5.size ≤ 100) := by
      intro d
      induction d with
      | zero =>
        intro i hd hi
        refine ⟨false, Ev.succ ?_, fun _ x hx => ?_⟩
        · simp only [merkhetlaw04_Great.l0]
          exact Ev.neg (by omega) (Ev.now _)
        · rw [List.drop_of_length_le (by omega)] at hx; cases hx
      | succ d ih =>
        intro i hd hi
        have hil : i < l.length := by omega
        obtain ⟨b, hb, hb2⟩ := ih (i + 1) (by omega) (by omega)
        by_cases h4 : ((l[i].f4.size : Nat) : Int) > 100
        · refine ⟨true, Ev.succ ?_, by simp⟩
          simp only [merkhetlaw04_Great.l0, rdS_nat l i hil]
          exact Ev.pos (by omega) (Ev.pos (by omega) (Ev.pos (by omega) (Ev.pos h4 (Ev.now _))))
        · by_cases h5 : ((l[i].f5.size : Nat) : Int) > 100
          · refine ⟨true, Ev.succ ?_, by simp⟩
            simp only [merkhetlaw04_Great.l0, rdS_nat l i hil]
            exact Ev.pos (by omega) (Ev.pos (by omega) (Ev.pos (by omega) (Ev.neg h4 (Ev.pos h5 (Ev.now _)))))
          · refine ⟨b, Ev.succ ?_, fun e x hx => ?_⟩
            · simp only [merkhetlaw04_Great.l0, rdS_nat l i hil]
              refine Ev.pos (by omega) (Ev.pos (by omega) (Ev.pos (by omega) (Ev.neg h4 (Ev.neg h5 ?_))))
              rw [wrap_id (by omega) (by omega)]
              exact hb
            · rw [List.drop_eq_getElem_cons hil] at hx
              rcases List.mem_cons.1 hx with rfl | hx
              · omega
              · exact hb2 e x hx
    obtain ⟨b, hb, hb2⟩ := key l.length 0 (by omega) (by omega)
    refine ⟨b, Ev.neg h hb, fun e => ⟨by omega, fun x hx => hb2 e x (by simpa using hx)⟩⟩

end Go.Proofs.Ytmfdhcgdibefiaa.L

/- The document's bounds of an answer, plain. -/
namespace Go.Proofs.Ytmfdhcgdibefiaa.L
set_option linter.unusedVariables false
set_option linter.unusedSimpArgs false
open Go.RowKit Go.Proofs.Ytmfdhcgdibefiaa.Q Go.Proofs.YtmfdhcgdibefiaaW.PrintWords Go.Proofs.YtmfdhcgdibefiaaW.PrintLast Go.Proofs.YtmfdhcgdibefiaaW.PrintMore Go.Proofs.YtmfdhcgdibefiaaW.Lib
theorem rdTxG {l : List ByteArray} {i : Nat} (h : i < l.length) : rdOf ByteArray.empty l (i : Int) = l[i] := by simp [rdOf, List.getD, h]
theorem great21 (v : Int) (l1 : List S37) (l2 : List Int) (l3 : List ByteArray) (l4 : List Int) (l5 : List S126) : ∃ b, Ev (fun k => merkhetlaw21_Great.f k v l1 l2 l3 l4 l5) b ∧ (b = false → l1.length ≤ 60 ∧ (∀ x ∈ l1, x.f4.size ≤ 100 ∧ x.f5.size ≤ 100) ∧ l2.length ≤ 100 ∧ l3.length ≤ 60 ∧ (∀ x ∈ l3, x.size ≤ 100) ∧ l4.length ≤ 60 ∧ l5.length ≤ 60) := by
  unfold merkhetlaw21_Great.f
  obtain ⟨g, hg, hg2⟩ := great_ev l1
  have yes : Ev (fun k => merkhetlaw21_Great.j0 k true v l1 l2 l3 l4 l5) true := by
    refine Ev.succ ?_
    simp only [merkhetlaw21_Great.j0]
    exact Ev.pos trivial (Ev.now _)
  cases g with
  | true => exact ⟨true, Ev.bind hg (Ev.pos rfl yes), by simp⟩
  | false =>
    obtain ⟨h1, h1'⟩ := hg2 rfl
    by_cases h2 : (l2.length : Int) > 100
    · exact ⟨true, Ev.bind hg (Ev.neg (by simp) (Ev.pos h2 yes)), by simp⟩
    by_cases h3 : (l3.length : Int) > 60
    · exact ⟨true, Ev.bind hg (Ev.neg (by simp) (Ev.neg h2 (Ev.pos h3 yes))), by simp⟩
    by_cases h4 : (l4.length : Int) > 60
    · exact ⟨true, Ev.bind hg (Ev.neg (by simp) (Ev.neg h2 (Ev.neg h3 (Ev.pos h4 yes)))), by simp⟩
    by_cases h5 : (l5.length : Int) > 60
    · refine ⟨true, Ev.bind hg (Ev.neg (by simp) (Ev.neg h2 (Ev.neg h3 (Ev.neg h4 ?_)))), by simp⟩
      rw [decide_eq_true h5]; exact yes
    · have key : ∀ (d i : Nat), l3.length - i = d → i ≤ l3.length → ∃ b, Ev (fun k => merkhetlaw21_Great.l0 k l3 (l3.length : Int) (i : Int)) b ∧ (b = false → ∀ x ∈ l3.drop i, x.size ≤ 100) := by
        intro d
        induction d with
        | zero =>
          intro i hd hi
          refine ⟨false, Ev.succ ?_, fun _ x hx => ?_⟩
          · simp only [merkhetlaw21_Great.l0]; exact Ev.neg (by omega) (Ev.now _)
          · rw [List.drop_of_length_le (by omega)] at hx; cases hx
        | succ d ih =>
          intro i hd hi
          have hil : i < l3.length := by omega
          obtain ⟨b, hb, hb2⟩ := ih (i + 1) (by omega) (by omega)
          by_cases h6 : ((l3[i].size : Nat) : Int) > 100
          · refine ⟨true, Ev.succ ?_, by simp⟩
            simp only [merkhetlaw21_Great.l0]
            rw [rdTxG hil]
            exact Ev.pos (by omega) (Ev.pos (by omega) (Ev.pos (by omega) (Ev.pos h6 (Ev.now _))))
          · refine ⟨b, Ev.succ ?_, fun e x hx => ?_⟩
            · simp only [merkhetlaw21_Great.l0]
              rw [rdTxG hil, wrap_id (i := (i : Int) + 1) (by omega) (by omega)]
              exact Ev.pos (by omega) (Ev.pos (by omega) (Ev.pos (by omega) (Ev.neg h6 hb)))
            · rw [List.drop_eq_getElem_cons hil] at hx
              rcases List.mem_cons.1 hx with rfl | hx
              · omega
              · exact hb2 e x hx
      obtain ⟨b, hb, hb2⟩ := key l3.length 0 (by omega) (by omega)
      refine ⟨b, Ev.bind hg (Ev.neg (by simp) (Ev.neg h2 (Ev.neg h3 (Ev.neg h4 ?_)))), fun e => ⟨h1, h1', by omega, by omega, by simpa using hb2 e, by omega, by omega⟩⟩
      rw [decide_eq_false h5]
      refine Ev.succ ?_
      simp only [merkhetlaw21_Great.j0]
      exact Ev.neg (by simp) hb
end Go.Proofs.Ytmfdhcgdibefiaa.L

/- The document's May of many spans, plain. -/
namespace Go.Proofs.Ytmfdhcgdibefiaa.L
open Go.RowKit Go.Proofs.Ytmfdhcgdibefiaa.Q Go.Proofs.YtmfdhcgdibefiaaW.PrintWords Go.Proofs.YtmfdhcgdibefiaaW.PrintLast Go.Proofs.YtmfdhcgdibefiaaW.PrintMore Go.Proofs.YtmfdhcgdibefiaaW.Lib
set_option linter.unusedVariables false

theorem rmay18_ev (l : List S37) (hl : l.length ≤ 1000000000) (hf : ∀ s ∈ l, fitR s) : Ev (fun k => merkhetref18_May.f k l) (mayA l) := by
  unfold merkhetref18_May.f
  have key : ∀ (d i : Nat), l.length - i = d → i ≤ l.length → Ev (fun k => merkhetref18_May.l0 k l (i : Int)) ((l.drop i).all mayS) := by
    intro d
    induction d with
    | zero =>
      intro i hd hi
      refine Ev.succ ?_
      simp only [merkhetref18_May.l0]
      rw [List.drop_of_length_le (by omega)]
      exact Ev.neg (by omega) (Ev.now _)
    | succ d ih =>
      intro i hd hi
      have hlt : i < l.length := by omega
      have hr : rd_T37 l (i : Int) = l[i] := by simp [rd_T37, List.getD, hlt]
      have h1 := ih (i + 1) (by omega) (by omega)
      have h2 := rmayS_ev l[i] (hf _ (List.getElem_mem hlt))
      refine Ev.succ ?_
      simp only [merkhetref18_May.l0, hr]
      rw [List.drop_eq_getElem_cons hlt, List.all_cons]
      refine Ev.pos (by omega) (Ev.pos (by omega) (Ev.bind h2 (Ev.ite (fun h => ?_) (fun h => ?_))))
      · rw [wrap_id (by omega) (by omega)]
        refine Ev.cast h1 ?_
        rw [h]; simp
      · refine Ev.cast (Ev.now _) ?_
        rw [Bool.eq_false_iff.2 h]; simp
  exact key l.length 0 (by omega) (by omega)
end Go.Proofs.Ytmfdhcgdibefiaa.L

/- ChartBoxes, the plain part: the code's boxes and the document's are the same. -/
namespace Go.Proofs.Ytmfdhcgdibefiaa.Pure
set_option linter.unusedVariables false
set_option linter.unusedSimpArgs false
open Go.RowKit Go.Proofs.Ytmfdhcgdibefiaa.Q Go.Proofs.Ytmfdhcgdibefiaa.A Go.Proofs.Ytmfdhcgdibefiaa.B Go.Proofs.Ytmfdhcgdibefiaa.K Go.Proofs.Ytmfdhcgdibefiaa.C Go.Proofs.Ytmfdhcgdibefiaa.H Go.Proofs.YtmfdhcgdibefiaaW.PrintWords Go.Proofs.YtmfdhcgdibefiaaW.PrintLast Go.Proofs.YtmfdhcgdibefiaaW.PrintMore Go.Proofs.YtmfdhcgdibefiaaW.Lib Go.Proofs.Ytmfdhcgdibefiaa.L

theorem col_step {d s a : Int} (hd : 0 ≤ d) (hds : d < s) (ha : 0 ≤ a) :
    (a % s + d ≥ s → (a + d) % s = a % s + d - s ∧ (a + d) / s = a / s + 1) ∧ (a % s + d < s → (a + d) % s = a % s + d ∧ (a + d) / s = a / s) := by
  have h1 := Int.mul_ediv_add_emod a s
  have h2 := Int.emod_nonneg a (by omega : s ≠ 0)
  have h3 := Int.emod_lt_of_pos a (by omega : 0 < s)
  have g1 := Int.mul_ediv_add_emod (a + d) s
  rw [Int.mul_comm] at h1 g1
  constructor
  · intro h
    have e : (a + d) / s = a / s + 1 := quo_unique (by omega) (by rw [Int.add_mul]; omega) (by rw [Int.add_mul, Int.add_mul]; omega)
    refine ⟨?_, e⟩
    rw [e, Int.add_mul] at g1
    omega
  · intro h
    have e : (a + d) / s = a / s := quo_unique (by omega) (by omega) (by rw [Int.add_mul]; omega)
    refine ⟨?_, e⟩
    rw [e] at g1
    omega
theorem col_l0 (d s wide : Int) (hd : 0 ≤ d) (hds : d < s) (hs : s ≤ 4611686018427387904) (hw : wide ≤ 200) : ∀ (n i : Nat), (i : Int) + n = wide → Ev (fun k => merkhetref26_column.l0 k d s wide ((i : Int) * d % s) ((i : Int) * d / s) (i : Int)) (wide * d / s)
  | 0, i, h => by
    refine Ev.succ ?_
    simp only [merkhetref26_column.l0]
    refine Ev.neg (by omega) (Ev.cast (Ev.now _) ?_)
    rw [show (i : Int) = wide by omega]
  | n + 1, i, h => by
    have ha : 0 ≤ (i : Int) * d := Int.mul_nonneg (by omega) hd
    have h2 := Int.emod_nonneg ((i : Int) * d) (by omega : s ≠ 0)
    have h3 := Int.emod_lt_of_pos ((i : Int) * d) (by omega : 0 < s)
    have hst := col_step hd hds ha
    have hq0 : 0 ≤ (i : Int) * d / s := Int.ediv_nonneg ha (by omega)
    have hq1 : (i : Int) * d / s ≤ i := by
      refine Int.lt_add_one_iff.1 (Int.ediv_lt_of_lt_mul (by omega) ?_)
      have : (i : Int) * d ≤ (i : Int) * s := Int.mul_le_mul_of_nonneg_left (by omega) (by omega)
      rw [Int.add_mul]; omega
    have e : ((i + 1 : Nat) : Int) * d = (i : Int) * d + d := by rw [Int.natCast_add, Int.add_mul]; omega
    have ih := col_l0 d s wide hd hds hs hw n (i + 1) (by omega)
    rw [e] at ih
    refine Ev.succ ?_
    simp only [merkhetref26_column.l0]
    rw [wrap_id (i := (i : Int) * d % s + d) (by omega) (by omega), wrap_id (i := (i : Int) * d / s + 1) (by omega) (by omega), wrap_id (i := (i : Int) + 1) (by omega) (by omega), wrap_id (i := (i : Int) * d % s + d - s) (by omega) (by omega)]
    refine Ev.pos (by omega) ?_
    by_cases c : (i : Int) * d % s + d ≥ s
    · refine Ev.pos c ?_
      rw [← (hst.1 c).1, ← (hst.1 c).2]
      exact ih
    · refine Ev.neg c ?_
      have q := hst.2 (by omega)
      rw [q.1, q.2] at ih
      exact ih
theorem col_ev (d s wide : Int) (hd : 0 ≤ d) (hds : d < s) (hs : s ≤ 4611686018427387904) (hw0 : 0 ≤ wide) (hw : wide ≤ 200) : Ev (fun k => merkhetref26_column.f k d s wide) (d * wide / s) := by
  simp only [merkhetref26_column.f]
  have h := col_l0 d s wide hd hds hs hw wide.toNat 0 (by omega)
  simp only [Int.natCast_zero, Int.zero_mul, Int.zero_emod, Int.zero_ediv] at h
  rw [Int.mul_comm d wide]
  exact h
theorem any_not : ∀ l : List SpS, l.any (fun s => !mayS s) = !(mayA l)
  | [] => rfl
  | x :: t => by
    have ih := any_not t
    unfold mayA at ih ⊢
    rw [List.any_cons, List.all_cons, ih, Bool.not_and]
abbrev BoxR := S101
/-- A box, told by its bits. -/
def toldB (b : BoxS) : BoxR := ⟨⟨(b.f0.1 : Int), (b.f0.2 : Int)⟩, b.f1, b.f2⟩
section
variable (v wide : Int) (l : List SpS) (S : List Int) (H : List ByteArray) (O : List Int) (E : List S126)
def outS (S : List Int) (i : Nat) : Prop := rd S i > 1152921504606846976 ∨ rd S i < -1152921504606846976
instance (i : Nat) : Decidable (outS S i) := by unfold outS; infer_instance
theorem l0_step (hl : l.length ≤ 60) (hS : S.length = l.length) (i : Nat) (hi : i < l.length) (ho : ¬ outS S i) (x8 x9 : Int) (r : List BoxR × Int)
    (h : Ev (fun k => merkhetref26_Boxes.l0 k wide [] (l.length : Int) (if rd S i < x8 then rd S i else x8) (if wrap64 (rd S i + (rd_T37 l i).f7) > x9 then wrap64 (rd S i + (rd_T37 l i).f7) else x9) ((i + 1 : Nat) : Int) v l S H O E) r) :
    Ev (fun k => merkhetref26_Boxes.l0 k wide [] (l.length : Int) x8 x9 (i : Int) v l S H O E) r := by
  unfold outS at ho
  have hj : ∀ z, Ev (fun k => merkhetref26_Boxes.l0 k wide [] (l.length : Int) z (if wrap64 (rd S i + (rd_T37 l i).f7) > x9 then wrap64 (rd S i + (rd_T37 l i).f7) else x9) ((i + 1 : Nat) : Int) v l S H O E) r → Ev (fun k => merkhetref26_Boxes.j4 k wide [] (l.length : Int) z x9 (i : Int) v l S H O E) r := by
    intro z hz
    refine Ev.succ ?_
    simp only [merkhetref26_Boxes.j4]
    refine Ev.pos (by omega) (Ev.pos (by omega) (Ev.pos (by omega) ?_))
    rw [wrap_id (i := (i : Int) + 1) (by omega) (by omega)]
    by_cases c : wrap64 (rd S i + (rd_T37 l i).f7) > x9
    · rw [if_pos c] at hz
      exact Ev.pos c (by rw [show (i : Int) + 1 = ((i + 1 : Nat) : Int) by omega]; exact hz)
    · rw [if_neg c] at hz
      exact Ev.neg c (by rw [show (i : Int) + 1 = ((i + 1 : Nat) : Int) by omega]; exact hz)
  refine Ev.succ ?_
  simp only [merkhetref26_Boxes.l0]
  refine Ev.pos (by omega) (Ev.pos (by omega) (Ev.pos (by omega) (Ev.neg (by omega) (Ev.neg (by omega) ?_))))
  refine Ev.succ ?_
  simp only [merkhetref26_Boxes.j3]
  refine Ev.neg (by simp; omega) (Ev.pos (by omega) (Ev.pos (by omega) ?_))
  by_cases c : rd S i < x8
  · rw [if_pos c] at h
    exact Ev.pos c (hj _ h)
  · rw [if_neg c] at h
    exact Ev.neg c (hj _ h)
theorem l0_bad (hl : l.length ≤ 60) (hS : S.length = l.length) : ∀ (d i : Nat), i + d = l.length → (∃ j, i ≤ j ∧ j < l.length ∧ outS S j) → ∀ x8 x9, Ev (fun k => merkhetref26_Boxes.l0 k wide [] (l.length : Int) x8 x9 (i : Int) v l S H O E) ([], 4)
  | 0, i, h, ⟨j, h1, h2, _⟩, _, _ => by omega
  | d + 1, i, h, ⟨j, h1, h2, h3⟩, x8, x9 => by
    by_cases c : outS S i
    · unfold outS at c
      refine Ev.succ ?_
      simp only [merkhetref26_Boxes.l0]
      refine Ev.pos (by omega) (Ev.pos (by omega) (Ev.pos (by omega) ?_))
      have fin : Ev (fun k => merkhetref26_Boxes.j3 k wide [] (l.length : Int) x8 x9 (i : Int) true v l S H O E) ([], 4) := by
        refine Ev.succ ?_
        simp only [merkhetref26_Boxes.j3]
        exact Ev.pos (by first | rfl | trivial) (Ev.now _)
      by_cases c1 : rd S i > 1152921504606846976
      · exact Ev.pos c1 fin
      · exact Ev.neg c1 (Ev.pos (by omega) fin)
    · refine l0_step v wide l S H O E hl hS i (by omega) c x8 x9 _ ?_
      refine l0_bad hl hS d (i + 1) (by omega) ⟨j, ?_, h2, h3⟩ _ _
      rcases Nat.lt_or_ge i j with h4 | h4
      · omega
      · have : i = j := by omega
        subst this; exact absurd h3 c
theorem l0_good (hl : l.length ≤ 60) (hS : S.length = l.length) (hn : ∀ i, i < l.length → ¬ outS S i) (hf : ∀ i : Nat, i < l.length → 0 ≤ (rd_T37 l i).f7 ∧ (rd_T37 l i).f7 ≤ 1125899906842624) (r : List BoxR × Int)
    (h : Ev (fun k => merkhetref26_Boxes.l1 k wide [] (l.length : Int) (minN S l.length) (hiL S l (rd S 0) l.length) 0 v l S H O E) r) : ∀ (d i : Nat), i + d = l.length → Ev (fun k => merkhetref26_Boxes.l0 k wide [] (l.length : Int) (minN S i) (hiL S l (rd S 0) i) (i : Int) v l S H O E) r
  | 0, i, hi => by
    obtain rfl : i = l.length := by omega
    refine Ev.succ ?_
    simp only [merkhetref26_Boxes.l0]
    exact Ev.neg (by omega) h
  | d + 1, i, hi => by
    have ih := l0_good hl hS hn hf r h d (i + 1) (by omega)
    have ho := hn i (by omega)
    have hfi := hf i (by omega)
    refine l0_step v wide l S H O E hl hS i (by omega) ho _ _ r ?_
    have e1 : (if rd S i < minN S i then rd S i else minN S i) = minN S (i + 1) := by rw [minN]; split <;> omega
    have e2 : (if wrap64 (rd S i + (rd_T37 l i).f7) > hiL S l (rd S 0) i then wrap64 (rd S i + (rd_T37 l i).f7) else hiL S l (rd S 0) i) = hiL S l (rd S 0) (i + 1) := by
      unfold outS at ho
      rw [wrap_id (by omega) (by omega), hiL]; split <;> omega
    rw [e1, e2]
    exact ih
theorem hiL_same (m m' : Int) (h : m ≤ rd S 0 + (rd_T37 l 0).f7) (h' : m' ≤ rd S 0 + (rd_T37 l 0).f7) : ∀ n : Nat, 0 < n → hiL S l m n = hiL S l m' n
  | 1, _ => by
    show max m (rd S ((0 : Nat) : Int) + (rd_T37 l ((0 : Nat) : Int)).f7) = max m' (rd S ((0 : Nat) : Int) + (rd_T37 l ((0 : Nat) : Int)).f7)
    rw [show ((0 : Nat) : Int) = 0 from rfl]; omega
  | n + 2, _ => by
    have ih := hiL_same m m' h h' (n + 1) (by omega)
    show max (hiL S l m (n + 1)) _ = max (hiL S l m' (n + 1)) _
    rw [ih]
theorem l1_ev (lo hi : Int) (hl : l.length ≤ 60) (hS : S.length = l.length) (w0 : 1 ≤ wide) (w1 : wide ≤ 200) (hlo : -1152921504606846976 ≤ lo) (hhi : hi ≤ 1154047404513689600)
    (hin : ∀ k : Nat, k < l.length → lo ≤ rd S k ∧ 0 ≤ (rd_T37 l k).f7 ∧ rd S k + (rd_T37 l k).f7 ≤ hi) (htx : ∀ s ∈ l, s.f4.size ≤ 1000 ∧ s.f5.size ≤ 1000) : ∀ (d i : Nat), i + d = l.length →
    Ev (fun k => merkhetref26_Boxes.l1 k wide ((boxesL lo hi wide l S i).map toldB) (l.length : Int) lo hi (i : Int) v l S H O E) ((boxesL lo hi wide l S l.length).map toldB, 0)
  | 0, i, h => by
    obtain rfl : i = l.length := by omega
    refine Ev.succ ?_
    simp only [merkhetref26_Boxes.l1]
    exact Ev.neg (by omega) (Ev.now _)
  | d + 1, i, h => by
    have ih := l1_ev lo hi hl hS w0 w1 hlo hhi hin htx d (i + 1) (by omega)
    obtain ⟨q0, q1, q2⟩ := hin i (by omega)
    have hlt : i < l.length := by omega
    have hm : rd_T37 l (i : Int) ∈ l := by
      have : rd_T37 l (i : Int) = l[i] := by simp [rd_T37, List.getD, hlt]
      rw [this]; exact List.getElem_mem _
    have ht := htx _ hm
    have g1 := colC_in (lo := lo) (hi := hi) (t := rd S i) (wide := wide) q0 (by omega) (by omega) w1
    have g2 := colC_in (lo := lo) (hi := hi) (t := rd S i + (rd_T37 l i).f7) (wide := wide) (by omega) q2 (by omega) w1
    refine Ev.succ ?_
    simp only [merkhetref26_Boxes.l1]
    refine Ev.pos (by omega) (Ev.pos (by omega) (Ev.pos (by omega) ?_))
    rw [wrap_id (i := rd S i - lo) (by omega) (by omega), wrap_id (i := hi - lo) (by omega) (by omega), wrap_id (i := hi - lo + 1) (by omega) (by omega), wrap_id (i := rd S i + (rd_T37 l i).f7) (by omega) (by omega),
      wrap_id (i := rd S i + (rd_T37 l i).f7 - lo) (by omega) (by omega), wrap_id (i := (i : Int) + 1) (by omega) (by omega)]
    refine Ev.bind (col_ev (rd S i - lo) (hi - lo + 1) wide (by omega) (by omega) (by omega) (by omega) w1) (Ev.pos (by omega) (Ev.bind (col_ev (rd S i + (rd_T37 l i).f7 - lo) (hi - lo + 1) wide (by omega) (by omega) (by omega) (by omega) w1) ?_))
    change Ev (fun k => (merkhetref25_Point.f (colC lo hi wide (rd S i)) (i : Int)).bind _) _
    refine Ev.bind (Ev.const (by unfold merkhetref25_Point.f; rw [if_pos trivial])) (Ev.pos (by omega) (Ev.pos (by simp only [ByteArray.size_append]; show _ + 1 + _ ≤ _; omega) (Ev.pos (by rw [List.length_map, boxesL_length]; omega) ?_)))
    have e3 : wrap64 (wrap64 ((rd S i + (rd_T37 l i).f7 - lo) * wide / (hi - lo + 1) - (rd S i - lo) * wide / (hi - lo + 1)) + 1) = colC lo hi wide (rd S i + (rd_T37 l i).f7) - colC lo hi wide (rd S i) + 1 := by
      change wrap64 (wrap64 (colC lo hi wide (rd S i + (rd_T37 l i).f7) - colC lo hi wide (rd S i)) + 1) = _
      rw [wrap_id (i := colC lo hi wide (rd S i + (rd_T37 l i).f7) - colC lo hi wide (rd S i)) (by omega) (by omega)]
      exact wrap_id (by omega) (by omega)
    rw [e3, show (i : Int) + 1 = ((i + 1 : Nat) : Int) by omega]
    rw [boxesL, List.map_append] at ih
    exact ih
theorem ref_boxes_ev (hl : l.length ≤ 60) (hS : S.length ≤ 100) (hf : ∀ s ∈ l, fitR s) (htx : ∀ s ∈ l, s.f4.size ≤ 1000 ∧ s.f5.size ≤ 1000) :
    Ev (fun k => merkhetref26_Boxes.f k v l S H O E wide) ((cbV l S wide).1.map toldB, (cbV l S wide).2) := by
  simp only [merkhetref26_Boxes.f, Option.bind_some]
  unfold cbV
  have bad : Ev (fun k => merkhetref26_Boxes.j0 k wide [] true v l S H O E) ([], 1) := by
    refine Ev.succ ?_
    simp only [merkhetref26_Boxes.j0]
    exact Ev.pos (by first | rfl | trivial) (Ev.now _)
  by_cases c0 : 1 ≤ wide ∧ wide ≤ 200
  · rw [if_pos c0]
    refine Ev.neg (by omega) ?_
    rw [decide_eq_false (by omega : ¬ wide > 200)]
    refine Ev.succ ?_
    simp only [merkhetref26_Boxes.j0]
    refine Ev.neg (by simp) ?_
    by_cases c1 : l.length = 0
    · have hc : chkV l S = 5 := by unfold chkV; rw [if_pos c1]
      rw [hc, if_neg (by decide)]
      exact Ev.pos (by omega) (Ev.now _)
    · refine Ev.neg (by omega) ?_
      have form : Ev (fun k => merkhetref26_Boxes.j1 k wide [] (l.length : Int) true v l S H O E) ([], 3) := by
        refine Ev.succ ?_
        simp only [merkhetref26_Boxes.j1]
        exact Ev.pos (by first | rfl | trivial) (Ev.now _)
      by_cases c2 : S.length = l.length
      · refine Ev.pos (by omega) (Ev.bind (rmay18_ev l (by omega) hf) ?_)
        cases hm : mayA l with
        | false =>
          have hc : chkV l S = 3 := by unfold chkV; rw [if_neg c1, if_neg (by rintro ⟨_, h⟩; rw [any_not, hm] at h; cases h)]
          rw [hc, if_neg (by decide)]
          exact form
        | true =>
          have hcc : chkV l S = if l.length > 1048576 ∨ maxZ S > 1152921504606846976 ∨ minZ S < -1152921504606846976 then 4 else 0 := by
            unfold chkV
            rw [if_neg c1, if_pos ⟨c2, by rw [any_not, hm]; rfl⟩]
          have hms : ∀ i : Nat, i < l.length → 0 ≤ (rd_T37 l i).f7 ∧ (rd_T37 l i).f7 ≤ 1125899906842624 := by
            intro i hi
            have e : rd_T37 l (i : Int) = l[i] := by simp [rd_T37, List.getD, hi]
            rw [e]
            exact mayS_dur (List.all_eq_true.1 hm _ (List.getElem_mem hi))
          refine Ev.succ ?_
          simp only [merkhetref26_Boxes.j1]
          refine Ev.neg (by simp) (Ev.pos (by omega) ?_)
          by_cases c3 : ∃ j, 0 ≤ j ∧ j < l.length ∧ outS S j
          · have hb := l0_bad v wide l S H O E hl c2 l.length 0 (by omega) c3 (rd S 0) (rd S 0)
            obtain ⟨j, _, hj, ho⟩ := c3
            have g1 := minN_le S S.length j (by omega)
            have g2 := maxN_le S S.length j (by omega)
            change minZ S ≤ _ at g1
            change _ ≤ maxZ S at g2
            unfold outS at ho
            have hc : chkV l S = 4 := by rw [hcc, if_pos (by omega)]
            rw [hc, if_neg (by decide)]
            exact hb
          · have hno : ∀ i, i < l.length → ¬ outS S i := fun i hi ho => c3 ⟨i, by omega, hi, ho⟩
            have hmin : -1152921504606846976 ≤ minZ S := minN_ge S _ _ (by omega) (fun k hk => by have := hno k (by omega); unfold outS at this; omega)
            have hmax : maxZ S ≤ 1152921504606846976 := maxN_ge S _ _ (by omega) (fun k hk => by have := hno k (by omega); unfold outS at this; omega)
            have hc : chkV l S = 0 := by rw [hcc, if_neg (by omega)]
            rw [hc, if_pos rfl]
            have g0 := minN_le S S.length 0 (by omega)
            change minZ S ≤ _ at g0
            rw [show ((0 : Nat) : Int) = 0 from rfl] at g0
            have f0 := hms 0 (by omega)
            rw [show ((0 : Nat) : Int) = 0 from rfl] at f0
            have hh : hiL S l (minZ S) l.length = hiL S l (rd S 0) l.length := hiL_same l S _ _ (by omega) (by omega) _ (by omega)
            have hz : minN S l.length = minZ S := by unfold minZ; rw [c2]
            have hb2 : hiL S l (minZ S) l.length ≤ 1154047404513689600 := hiL_bound S l _ _ (by have := hno 0 (by omega); unfold outS at this; rw [show ((0 : Nat) : Int) = 0 from rfl] at this; omega) _ (fun k hk => by have := hno k hk; unfold outS at this; have := hms k hk; omega)
            have hE := l1_ev v wide l S H O E (minZ S) (hiL S l (minZ S) l.length) hl c2 c0.1 c0.2 hmin hb2 (fun k hk => ⟨minN_le S S.length k (by omega), (hms k hk).1, hiL_le S l _ _ k hk⟩) htx l.length 0 (by omega)
            have hG := l0_good v wide l S H O E hl c2 hno hms _ (by rw [hz, ← hh]; exact hE) l.length 0 (by omega)
            exact hG
      · have hc : chkV l S = 3 := by unfold chkV; rw [if_neg c1, if_neg (by rintro ⟨h, _⟩; exact c2 h)]
        rw [hc, if_neg (by decide)]
        exact Ev.neg (by omega) form
  · rw [if_neg c0]
    by_cases c1 : wide < 1
    · exact Ev.pos c1 bad
    · refine Ev.neg c1 ?_
      rw [decide_eq_true (by omega : wide > 200)]
      exact bad
end
theorem same_ev (l : List BoxS) (hl : l.length ≤ 1000) : Ev (fun k => merkhetref26_Same.f k l (l.map toldB)) true := by
  have key : ∀ d i : Nat, i + d = l.length → Ev (fun k => merkhetref26_Same.l0 k l (l.map toldB) (i : Int)) true := by
    intro d
    induction d with
    | zero =>
      intro i h
      refine Ev.succ ?_
      simp only [merkhetref26_Same.l0]
      exact Ev.neg (by omega) (Ev.now _)
    | succ d ih =>
      intro i h
      have hi : i < l.length := by omega
      refine Ev.succ ?_
      simp only [merkhetref26_Same.l0]
      refine Ev.pos (by omega) (Ev.pos (by omega) (Ev.bind (Ev.const (by unfold merkhetref26_Told.f merkhetref25_Told.f; rw [if_pos trivial]; rfl)) (Ev.pos (by rw [List.length_map]; omega) ?_)))
      have e1 : rd_T101 (l.map toldB) (i : Int) = toldB (rd_T68 l (i : Int)) := by
        simp [rd_T101, rd_T68, List.getD, hi]
      rw [e1]
      refine Ev.neg (by simp [toldB]) ?_
      rw [wrap_id (i := (i : Int) + 1) (by omega) (by omega), show (i : Int) + 1 = ((i + 1 : Nat) : Int) by omega]
      exact ih (i + 1) (by omega)
  simp only [merkhetref26_Same.f]
  refine Ev.pos (by rw [List.length_map]) ?_
  exact key l.length 0 (by omega)
theorem fit_wf {s : SpS} (h : wf37 s) (h4 : s.f4.size ≤ 100) (h5 : s.f5.size ≤ 100) : fitR s := by
  obtain ⟨_, u1, _, u3, _, _, _, _⟩ := h
  refine ⟨⟨u1, by omega, by omega⟩, ?_⟩
  simp [Lit.wf, IntKind.min, IntKind.max, IntKind.signed, IntKind.bits] at u3
  omega
theorem cbV_len (l : List SpS) (S : List Int) (wide : Int) (hl : l.length ≤ 60) : (cbV l S wide).1.length ≤ 60 := by
  unfold cbV
  split
  · split
    · show (boxesL _ _ _ _ _ _).length ≤ 60
      rw [boxesL_length]; exact hl
    · simp
  · simp
theorem ChartBoxes (x0 : S48) (a1 : Int) (w0 : wf48 x0) (w1 : (Lit.int .i64 a1).wf = true) : ∃ k, merkhetlaw26_ChartBoxes.f k x0.f0 x0.f1 x0.f2 x0.f3 x0.f4 x0.f5 a1 = some true := by
  refine Ev.rounds (g := fun k => merkhetlaw26_ChartBoxes.f k x0.f0 x0.f1 x0.f2 x0.f3 x0.f4 x0.f5 a1) ?_
  obtain ⟨_, ⟨_, _, hw⟩, _⟩ := w0
  obtain ⟨b, hb, hg⟩ := great21 x0.f0 x0.f1 x0.f2 x0.f3 x0.f4 x0.f5
  simp only [merkhetlaw26_ChartBoxes.f]
  refine Ev.bind hb ?_
  have fx : ∀ k : Nat, merkhetlaw26_fixed.f = some true := fun _ => rfl
  cases b with
  | true => exact Ev.pos rfl (Ev.bind (Ev.const rfl) (Ev.now _))
  | false =>
    obtain ⟨g1, g2, g3, _⟩ := hg rfl
    have hR : ∀ s ∈ x0.f1, fitR s := fun s hs => fit_wf (hw s hs) (g2 s hs).1 (g2 s hs).2
    have hok : okCb x0.f1 x0.f2 := ⟨g1, fun s hs => ⟨(hR s hs).1, by have := g2 s hs; omega, by have := g2 s hs; omega⟩, g3⟩
    refine Ev.neg (by simp) (Ev.bind (a := cbV x0.f1 x0.f2 a1) (Ev.const (by unfold chart_Boxes.f; rw [if_pos hok])) ?_)
    refine Ev.bind (ref_boxes_ev x0.f0 a1 x0.f1 x0.f2 x0.f3 x0.f4 x0.f5 g1 g3 hR (fun s hs => by have := g2 s hs; omega)) ?_
    refine Ev.bind (Ev.const rfl) (Ev.pos rfl (Ev.bind (same_ev _ (by have := cbV_len x0.f1 x0.f2 a1 g1; omega)) (Ev.pos rfl (Ev.cast (Ev.now _) (by simp)))))
end Go.Proofs.Ytmfdhcgdibefiaa.Pure

