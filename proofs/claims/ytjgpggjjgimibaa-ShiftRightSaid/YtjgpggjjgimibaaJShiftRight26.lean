/- Texts joined by wip/tools/merge.py: Yx1 XOpens VOpens YOpens RlxP RlxR SpanT RefH RefS RefG BndG RefK EdgeRV PureShiftSolved SolP PureShiftRight. -/
import Derived.Test.YtjgpggjjgimibaaJShiftRight25
import Derived.Test.YtjgpggjjgimibaaJShiftRight24
import Derived.Test.YtjgpggjjgimibaaJShiftRight21
import Derived.KernelRfl
import Derived.Test.YtjgpggjjgimibaaJShiftRight22
-- Written by wip/tools/gp.py, a program of this session round the kit's printer. Lean checks it.
namespace Go.Proofs.Ytjgpggjjgimibaa.Y
open Go.RowKit Go.Proofs.Ytjgpggjjgimibaa.Q Go.Proofs.Ytjgpggjjgimibaa.X Go.Proofs.Ytjgpggjjgimibaa.V Go.Proofs.YtjgpggjjgimibaaW.PrintWords Go.Proofs.YtjgpggjjgimibaaW.PrintLast Go.Proofs.YtjgpggjjgimibaaW.PrintMore
attribute [local go_sem] max2_int min2_int max_two min_two max_three min_three max_four min_four   -- for this text's walks alone
set_option linter.unusedVariables false
set_option linter.unusedSimpArgs false

/-! ### merkhetlaw18_ShiftRight: function 9 -/
mutual
def merkhetlaw18_ShiftRight.j0 : Nat → List (S42) → List Int → List Int → List Int → Bool → Option (Bool)
  | 0, _, _, _, _, _ => none
  | k + 1, x0, x3, x4, x6, x51 => if x51 = true then (some false) else (merkhetlaw18_ShiftRight.l0 k x0 x3 x4 x6 x6 (x6.length : Int) 0)
def merkhetlaw18_ShiftRight.l0 : Nat → List (S42) → List Int → List Int → List Int → List Int → Int → Int → Option (Bool)
  | 0, _, _, _, _, _, _, _ => none
  | k + 1, x0, x3, x4, x6, x52, x53, x54 => if x54 < x53 then (if 0 ≤ x54 then (if x54 < (x52.length : Int) then (if (rd x52 x54) ≥ 1125899906842624 then (some false) else (if (rd x52 x54) < (-144115188075855872) then (some false) else (merkhetlaw18_ShiftRight.l0 k x0 x3 x4 x6 x52 x53 (wrap64 (x54 + 1))))) else (none)) else (none)) else ((merkhetref12_Of.f k x0 x3).bind fun t116 => (merkhetlaw18_ShiftRight.l1 k x0 x4 x6 true t116 (t116.length : Int) 0))
def merkhetlaw18_ShiftRight.l1 : Nat → List (S42) → List Int → List Int → Bool → List (S35) → Int → Int → Option (Bool)
  | 0, _, _, _, _, _, _, _ => none
  | k + 1, x0, x4, x6, x10, x67, x68, x69 => if x69 < x68 then (if 0 ≤ x69 then (if x69 < (x67.length : Int) then ((merkhetref12_Gaps.f x0 ((rd_T35 x67 x69).f0) ((rd_T35 x67 x69).f1)).bind fun bt121 => (if x10 = true then (if bt121.1 ≥ 0 then (merkhetlaw18_ShiftRight.j3 k x0 x4 x6 (decide (bt121.2.1 ≥ 0)) x67 x68 x69 ((rd_T35 x67 x69).f0) ((rd_T35 x67 x69).f1)) else (merkhetlaw18_ShiftRight.j3 k x0 x4 x6 false x67 x68 x69 ((rd_T35 x67 x69).f0) ((rd_T35 x67 x69).f1))) else (merkhetlaw18_ShiftRight.j3 k x0 x4 x6 false x67 x68 x69 ((rd_T35 x67 x69).f0) ((rd_T35 x67 x69).f1)))) else (none)) else (none)) else (merkhetlaw18_ShiftRight.l2 k x10 x4 (x4.length : Int) 0)
def merkhetlaw18_ShiftRight.j3 : Nat → List (S42) → List Int → List Int → Bool → List (S35) → Int → Int → Int → Int → Option (Bool)
  | 0, _, _, _, _, _, _, _, _, _ => none
  | k + 1, x0, x4, x6, x10, x67, x68, x69, x121000, x121001 => if 0 ≤ x121001 then (if x121001 < (x6.length : Int) then (if 0 ≤ x121000 then (if x121000 < (x6.length : Int) then (if (rd x6 x121001) < (rd x6 x121000) then (some false) else (if x121001 < (x0.length : Int) then (if x121000 < (x0.length : Int) then (if (wrap64 ((rd x6 x121001) + ((rd_T42 x0 x121001).f7))) > (wrap64 ((rd x6 x121000) + ((rd_T42 x0 x121000).f7))) then (some false) else (merkhetlaw18_ShiftRight.l1 k x0 x4 x6 x10 x67 x68 (wrap64 (x69 + 1)))) else (none)) else (none))) else (none)) else (none)) else (none)) else (none)
def merkhetlaw18_ShiftRight.l2 : Nat → Bool → List Int → Int → Int → Option (Bool)
  | 0, _, _, _, _ => none
  | k + 1, x10, x128, x129, x130 => if x130 < x129 then (if 0 ≤ x130 then (if x130 < (x128.length : Int) then (if x10 = true then (if (rd x128 x130) = 0 then (merkhetlaw18_ShiftRight.l2 k x10 x128 x129 (wrap64 (x130 + 1))) else (some false)) else (merkhetlaw18_ShiftRight.l2 k x10 x128 x129 (wrap64 (x130 + 1)))) else (none)) else (none)) else ((merkhetlaw18_fixed.f k).bind fun t130 => (some t130))
end
def merkhetlaw18_ShiftRight.f (k : Nat) (l0 : List (S42)) : Option (Bool) := (merkhetlaw04_Great.f k l0).bind fun t101 => (if t101 = true then ((merkhetlaw18_fixed.f k).bind fun t102 => (some t102)) else ((merkhetref10_Of.f k l0).bind fun t103 => ((shift_Solved.f k l0 t103).bind fun bt106 => (if bt106.2 = true then ((shift_Starts.f l0 bt106.1).bind fun bt111 => (if bt111.2 = true then (merkhetlaw18_ShiftRight.j0 k l0 t103 bt106.1 bt111.1 ((bt111.1.length : Int) != (l0.length : Int))) else (merkhetlaw18_ShiftRight.j0 k l0 t103 bt106.1 bt111.1 true))) else ((merkhetlaw18_fixed.f k).bind fun t110 => (if t110 = true then (some ((bt106.1.length : Int) == 0)) else (some false)))))))
theorem merkhetlaw18_ShiftRight.mono_l : ∀ k, (∀ y0 y1 y2 y3 y4, LeO (merkhetlaw18_ShiftRight.j0 k y0 y1 y2 y3 y4) (merkhetlaw18_ShiftRight.j0 (k + 1) y0 y1 y2 y3 y4)) ∧ (∀ y0 y1 y2 y3 y4 y5 y6, LeO (merkhetlaw18_ShiftRight.l0 k y0 y1 y2 y3 y4 y5 y6) (merkhetlaw18_ShiftRight.l0 (k + 1) y0 y1 y2 y3 y4 y5 y6)) ∧ (∀ y0 y1 y2 y3 y4 y5 y6, LeO (merkhetlaw18_ShiftRight.l1 k y0 y1 y2 y3 y4 y5 y6) (merkhetlaw18_ShiftRight.l1 (k + 1) y0 y1 y2 y3 y4 y5 y6)) ∧ (∀ y0 y1 y2 y3 y4 y5 y6 y7 y8, LeO (merkhetlaw18_ShiftRight.j3 k y0 y1 y2 y3 y4 y5 y6 y7 y8) (merkhetlaw18_ShiftRight.j3 (k + 1) y0 y1 y2 y3 y4 y5 y6 y7 y8)) ∧ (∀ y0 y1 y2 y3, LeO (merkhetlaw18_ShiftRight.l2 k y0 y1 y2 y3) (merkhetlaw18_ShiftRight.l2 (k + 1) y0 y1 y2 y3))
  | 0 => ⟨fun _ _ _ _ _ r h => by simp [merkhetlaw18_ShiftRight.j0] at h, fun _ _ _ _ _ _ _ r h => by simp [merkhetlaw18_ShiftRight.l0] at h, fun _ _ _ _ _ _ _ r h => by simp [merkhetlaw18_ShiftRight.l1] at h, fun _ _ _ _ _ _ _ _ _ r h => by simp [merkhetlaw18_ShiftRight.j3] at h, fun _ _ _ _ r h => by simp [merkhetlaw18_ShiftRight.l2] at h⟩
  | k + 1 => by
    obtain ⟨ih0, ih1, ih2, ih3, ih4⟩ := merkhetlaw18_ShiftRight.mono_l k
    refine ⟨?_, ?_, ?_, ?_, ?_⟩
    · intro y0 y1 y2 y3 y4
      unfold merkhetlaw18_ShiftRight.j0
      repeat' first
      | (with_reducible exact ih0 _ _ _ _ _)
      | (with_reducible exact ih1 _ _ _ _ _ _ _)
      | (with_reducible exact ih2 _ _ _ _ _ _ _)
      | (with_reducible exact ih3 _ _ _ _ _ _ _ _ _)
      | (with_reducible exact ih4 _ _ _ _)
      | (with_reducible exact merkhetlaw04_Great.mono _ _)
      | (with_reducible exact merkhetlaw18_fixed.mono _)
      | (with_reducible exact merkhetref10_Of.mono _ _)
      | (with_reducible exact merkhetref12_Of.mono _ _ _)
      | (with_reducible exact shift_Solved.mono _ _ _)
      | (with_reducible exact LeO.refl _)
      | (with_reducible exact LeO.none _)
      | (with_reducible refine LeO.ite ?_ ?_)
      | (with_reducible refine LeO.bind ?_ (fun _ => ?_))
      | exact ih0 _ _ _ _ _
      | exact ih1 _ _ _ _ _ _ _
      | exact ih2 _ _ _ _ _ _ _
      | exact ih3 _ _ _ _ _ _ _ _ _
      | exact ih4 _ _ _ _
      | exact merkhetlaw04_Great.mono _ _
      | exact merkhetlaw18_fixed.mono _
      | exact merkhetref10_Of.mono _ _
      | exact merkhetref12_Of.mono _ _ _
      | exact shift_Solved.mono _ _ _
      | exact LeO.none _
      | refine LeO.ite ?_ ?_
      | refine LeO.bind ?_ (fun _ => ?_)
    · intro y0 y1 y2 y3 y4 y5 y6
      unfold merkhetlaw18_ShiftRight.l0
      repeat' first
      | (with_reducible exact ih0 _ _ _ _ _)
      | (with_reducible exact ih1 _ _ _ _ _ _ _)
      | (with_reducible exact ih2 _ _ _ _ _ _ _)
      | (with_reducible exact ih3 _ _ _ _ _ _ _ _ _)
      | (with_reducible exact ih4 _ _ _ _)
      | (with_reducible exact merkhetlaw04_Great.mono _ _)
      | (with_reducible exact merkhetlaw18_fixed.mono _)
      | (with_reducible exact merkhetref10_Of.mono _ _)
      | (with_reducible exact merkhetref12_Of.mono _ _ _)
      | (with_reducible exact shift_Solved.mono _ _ _)
      | (with_reducible exact LeO.refl _)
      | (with_reducible exact LeO.none _)
      | (with_reducible refine LeO.ite ?_ ?_)
      | (with_reducible refine LeO.bind ?_ (fun _ => ?_))
      | exact ih0 _ _ _ _ _
      | exact ih1 _ _ _ _ _ _ _
      | exact ih2 _ _ _ _ _ _ _
      | exact ih3 _ _ _ _ _ _ _ _ _
      | exact ih4 _ _ _ _
      | exact merkhetlaw04_Great.mono _ _
      | exact merkhetlaw18_fixed.mono _
      | exact merkhetref10_Of.mono _ _
      | exact merkhetref12_Of.mono _ _ _
      | exact shift_Solved.mono _ _ _
      | exact LeO.none _
      | refine LeO.ite ?_ ?_
      | refine LeO.bind ?_ (fun _ => ?_)
    · intro y0 y1 y2 y3 y4 y5 y6
      unfold merkhetlaw18_ShiftRight.l1
      repeat' first
      | (with_reducible exact ih0 _ _ _ _ _)
      | (with_reducible exact ih1 _ _ _ _ _ _ _)
      | (with_reducible exact ih2 _ _ _ _ _ _ _)
      | (with_reducible exact ih3 _ _ _ _ _ _ _ _ _)
      | (with_reducible exact ih4 _ _ _ _)
      | (with_reducible exact merkhetlaw04_Great.mono _ _)
      | (with_reducible exact merkhetlaw18_fixed.mono _)
      | (with_reducible exact merkhetref10_Of.mono _ _)
      | (with_reducible exact merkhetref12_Of.mono _ _ _)
      | (with_reducible exact shift_Solved.mono _ _ _)
      | (with_reducible exact LeO.refl _)
      | (with_reducible exact LeO.none _)
      | (with_reducible refine LeO.ite ?_ ?_)
      | (with_reducible refine LeO.bind ?_ (fun _ => ?_))
      | exact ih0 _ _ _ _ _
      | exact ih1 _ _ _ _ _ _ _
      | exact ih2 _ _ _ _ _ _ _
      | exact ih3 _ _ _ _ _ _ _ _ _
      | exact ih4 _ _ _ _
      | exact merkhetlaw04_Great.mono _ _
      | exact merkhetlaw18_fixed.mono _
      | exact merkhetref10_Of.mono _ _
      | exact merkhetref12_Of.mono _ _ _
      | exact shift_Solved.mono _ _ _
      | exact LeO.none _
      | refine LeO.ite ?_ ?_
      | refine LeO.bind ?_ (fun _ => ?_)
    · intro y0 y1 y2 y3 y4 y5 y6 y7 y8
      unfold merkhetlaw18_ShiftRight.j3
      repeat' first
      | (with_reducible exact ih0 _ _ _ _ _)
      | (with_reducible exact ih1 _ _ _ _ _ _ _)
      | (with_reducible exact ih2 _ _ _ _ _ _ _)
      | (with_reducible exact ih3 _ _ _ _ _ _ _ _ _)
      | (with_reducible exact ih4 _ _ _ _)
      | (with_reducible exact merkhetlaw04_Great.mono _ _)
      | (with_reducible exact merkhetlaw18_fixed.mono _)
      | (with_reducible exact merkhetref10_Of.mono _ _)
      | (with_reducible exact merkhetref12_Of.mono _ _ _)
      | (with_reducible exact shift_Solved.mono _ _ _)
      | (with_reducible exact LeO.refl _)
      | (with_reducible exact LeO.none _)
      | (with_reducible refine LeO.ite ?_ ?_)
      | (with_reducible refine LeO.bind ?_ (fun _ => ?_))
      | exact ih0 _ _ _ _ _
      | exact ih1 _ _ _ _ _ _ _
      | exact ih2 _ _ _ _ _ _ _
      | exact ih3 _ _ _ _ _ _ _ _ _
      | exact ih4 _ _ _ _
      | exact merkhetlaw04_Great.mono _ _
      | exact merkhetlaw18_fixed.mono _
      | exact merkhetref10_Of.mono _ _
      | exact merkhetref12_Of.mono _ _ _
      | exact shift_Solved.mono _ _ _
      | exact LeO.none _
      | refine LeO.ite ?_ ?_
      | refine LeO.bind ?_ (fun _ => ?_)
    · intro y0 y1 y2 y3
      unfold merkhetlaw18_ShiftRight.l2
      repeat' first
      | (with_reducible exact ih0 _ _ _ _ _)
      | (with_reducible exact ih1 _ _ _ _ _ _ _)
      | (with_reducible exact ih2 _ _ _ _ _ _ _)
      | (with_reducible exact ih3 _ _ _ _ _ _ _ _ _)
      | (with_reducible exact ih4 _ _ _ _)
      | (with_reducible exact merkhetlaw04_Great.mono _ _)
      | (with_reducible exact merkhetlaw18_fixed.mono _)
      | (with_reducible exact merkhetref10_Of.mono _ _)
      | (with_reducible exact merkhetref12_Of.mono _ _ _)
      | (with_reducible exact shift_Solved.mono _ _ _)
      | (with_reducible exact LeO.refl _)
      | (with_reducible exact LeO.none _)
      | (with_reducible refine LeO.ite ?_ ?_)
      | (with_reducible refine LeO.bind ?_ (fun _ => ?_))
      | exact ih0 _ _ _ _ _
      | exact ih1 _ _ _ _ _ _ _
      | exact ih2 _ _ _ _ _ _ _
      | exact ih3 _ _ _ _ _ _ _ _ _
      | exact ih4 _ _ _ _
      | exact merkhetlaw04_Great.mono _ _
      | exact merkhetlaw18_fixed.mono _
      | exact merkhetref10_Of.mono _ _
      | exact merkhetref12_Of.mono _ _ _
      | exact shift_Solved.mono _ _ _
      | exact LeO.none _
      | refine LeO.ite ?_ ?_
      | refine LeO.bind ?_ (fun _ => ?_)
theorem merkhetlaw18_ShiftRight.mono : ∀ a0 k, LeO (merkhetlaw18_ShiftRight.f k a0) (merkhetlaw18_ShiftRight.f (k + 1) a0) := by
  intro a0 k
  obtain ⟨ih0, ih1, ih2, ih3, ih4⟩ := merkhetlaw18_ShiftRight.mono_l k
  unfold merkhetlaw18_ShiftRight.f
  repeat' first
      | (with_reducible exact ih0 _ _ _ _ _)
      | (with_reducible exact ih1 _ _ _ _ _ _ _)
      | (with_reducible exact ih2 _ _ _ _ _ _ _)
      | (with_reducible exact ih3 _ _ _ _ _ _ _ _ _)
      | (with_reducible exact ih4 _ _ _ _)
      | (with_reducible exact merkhetlaw04_Great.mono _ _)
      | (with_reducible exact merkhetlaw18_fixed.mono _)
      | (with_reducible exact merkhetref10_Of.mono _ _)
      | (with_reducible exact merkhetref12_Of.mono _ _ _)
      | (with_reducible exact shift_Solved.mono _ _ _)
      | (with_reducible exact LeO.refl _)
      | (with_reducible exact LeO.none _)
      | (with_reducible refine LeO.ite ?_ ?_)
      | (with_reducible refine LeO.bind ?_ (fun _ => ?_))
      | exact ih0 _ _ _ _ _
      | exact ih1 _ _ _ _ _ _ _
      | exact ih2 _ _ _ _ _ _ _
      | exact ih3 _ _ _ _ _ _ _ _ _
      | exact ih4 _ _ _ _
      | exact merkhetlaw04_Great.mono _ _
      | exact merkhetlaw18_fixed.mono _
      | exact merkhetref10_Of.mono _ _
      | exact merkhetref12_Of.mono _ _ _
      | exact shift_Solved.mono _ _ _
      | exact LeO.none _
      | refine LeO.ite ?_ ?_
      | refine LeO.bind ?_ (fun _ => ?_)
set_option maxHeartbeats 8000000 in
set_option maxRecDepth 100000 in
theorem merkhetlaw18_ShiftRight.calls (k : Nat) (A0 : Option Addr) (c0 : Nat) (l0 : List (S42)) (r : Bool) (w : World) (hr0 : Kd.C k42 w A0 l0.length l0) (hc0 : l0.length ≤ c0) (h : merkhetlaw18_ShiftRight.f k l0 = some r) :
    Calls Try.prog 9 #[.slice A0 l0.length c0] w fun e w' => e = .returned (.bool r) ∧ Below w.heap.size w w' := by
  have hu35 := Try.underlying35
  have HR0 := Aside0.mk hr0
  have HC0 := Aside0.mk hc0
  clear hr0 hc0
  have HB := Aside0.mk (Below.refl w.heap.size w)
  have H : ((merkhetlaw04_Great.f k l0).bind fun t101 => (if t101 = true then ((merkhetlaw18_fixed.f k).bind fun t102 => (some t102)) else ((merkhetref10_Of.f k l0).bind fun t103 => ((shift_Solved.f k l0 t103).bind fun bt106 => (if bt106.2 = true then ((shift_Starts.f l0 bt106.1).bind fun bt111 => (if bt111.2 = true then (merkhetlaw18_ShiftRight.j0 k l0 t103 bt106.1 bt111.1 ((bt111.1.length : Int) != (l0.length : Int))) else (merkhetlaw18_ShiftRight.j0 k l0 t103 bt106.1 bt111.1 true))) else ((merkhetlaw18_fixed.f k).bind fun t110 => (if t110 = true then (some ((bt106.1.length : Int) == 0)) else (some false)))))))) = some r := h
  clear h
  replace H := Option.bind_eq_some_iff.mp H
  obtain ⟨t101, A20, H⟩ := H
  replace H : (if t101 = true then ((merkhetlaw18_fixed.f k).bind fun t102 => (some t102)) else ((merkhetref10_Of.f k l0).bind fun t103 => ((shift_Solved.f k l0 t103).bind fun bt106 => (if bt106.2 = true then ((shift_Starts.f l0 bt106.1).bind fun bt111 => (if bt111.2 = true then (merkhetlaw18_ShiftRight.j0 k l0 t103 bt106.1 bt111.1 ((bt111.1.length : Int) != (l0.length : Int))) else (merkhetlaw18_ShiftRight.j0 k l0 t103 bt106.1 bt111.1 true))) else ((merkhetlaw18_fixed.f k).bind fun t110 => (if t110 = true then (some ((bt106.1.length : Int) == 0)) else (some false))))))) = some r := H
  have A2 := Aside0.mk A20
  clear A20
  by_cases c3 : t101 = true
  · subst c3
    have H1 : ((merkhetlaw18_fixed.f k).bind fun t102 => (some t102)) = some r := by rw [if_pos rfl] at H; exact H
    clear H
    have H := H1
    clear H1
    replace H := Option.bind_eq_some_iff.mp H
    obtain ⟨t102, A40, H⟩ := H
    replace H : (some t102) = some r := H
    have A4 := Aside0.mk A40
    clear A40
    obtain rfl := Option.some.inj H
    go_enter Try.func9, Try.ntmps9
    go_wp2_with (first | (go_at_call 11; (with_reducible refine (merkhetlaw04_Great.calls k _ _ l0 true _ ?side1 ?side2 A2.out).mono ?_); (case side1 => repeat (first | exact HR0.out | (with_reducible refine Kd.C_alloc ?_ _) | (with_reducible refine Kd.C_drewN ?_ _) | (with_reducible refine Kd.C_drew ?_))); (case side2 => exact HC0.out); rintro e w5 ⟨rfl, hb⟩; have n0_ := Aside0.mk (below_step (by repeat (first | (with_reducible first | exact HB.out | apply below_alloc | apply pw_below_drewN | apply below_drew1) | exact HB.out)) hb); clear HB; have HB := n0_; clear n0_; (try clear hb); (try clear hb2); (try clear hk); (try clear hi)) | (go_at_call 23; (with_reducible refine (merkhetlaw18_fixed.calls k  t102 _ A4.out).mono ?_); rintro e w6 ⟨rfl, hb⟩; have n0_ := Aside0.mk (below_step (by repeat (first | (with_reducible first | exact HB.out | apply below_alloc | apply pw_below_drewN | apply below_drew1) | exact HB.out)) hb); clear HB; have HB := n0_; clear n0_; (try clear hb); (try clear hb2); (try clear hk); (try clear hi)))
    repeat (go_quiet (first | (go_at_call 11; (with_reducible refine (merkhetlaw04_Great.calls k _ _ l0 true _ ?side1 ?side2 A2.out).mono ?_); (case side1 => repeat (first | exact HR0.out | (with_reducible refine Kd.C_alloc ?_ _) | (with_reducible refine Kd.C_drewN ?_ _) | (with_reducible refine Kd.C_drew ?_))); (case side2 => exact HC0.out); rintro e w5 ⟨rfl, hb⟩; have n0_ := Aside0.mk (below_step (by repeat (first | (with_reducible first | exact HB.out | apply below_alloc | apply pw_below_drewN | apply below_drew1) | exact HB.out)) hb); clear HB; have HB := n0_; clear n0_; (try clear hb); (try clear hb2); (try clear hk); (try clear hi)) | (go_at_call 23; (with_reducible refine (merkhetlaw18_fixed.calls k  t102 _ A4.out).mono ?_); rintro e w6 ⟨rfl, hb⟩; have n0_ := Aside0.mk (below_step (by repeat (first | (with_reducible first | exact HB.out | apply below_alloc | apply pw_below_drewN | apply below_drew1) | exact HB.out)) hb); clear HB; have HB := n0_; clear n0_; (try clear hb); (try clear hb2); (try clear hk); (try clear hi))); try go_wp2_with (first | (go_at_call 11; (with_reducible refine (merkhetlaw04_Great.calls k _ _ l0 true _ ?side1 ?side2 A2.out).mono ?_); (case side1 => repeat (first | exact HR0.out | (with_reducible refine Kd.C_alloc ?_ _) | (with_reducible refine Kd.C_drewN ?_ _) | (with_reducible refine Kd.C_drew ?_))); (case side2 => exact HC0.out); rintro e w5 ⟨rfl, hb⟩; have n0_ := Aside0.mk (below_step (by repeat (first | (with_reducible first | exact HB.out | apply below_alloc | apply pw_below_drewN | apply below_drew1) | exact HB.out)) hb); clear HB; have HB := n0_; clear n0_; (try clear hb); (try clear hb2); (try clear hk); (try clear hi)) | (go_at_call 23; (with_reducible refine (merkhetlaw18_fixed.calls k  t102 _ A4.out).mono ?_); rintro e w6 ⟨rfl, hb⟩; have n0_ := Aside0.mk (below_step (by repeat (first | (with_reducible first | exact HB.out | apply below_alloc | apply pw_below_drewN | apply below_drew1) | exact HB.out)) hb); clear HB; have HB := n0_; clear n0_; (try clear hb); (try clear hb2); (try clear hk); (try clear hi))))
    go_ret
    exact ⟨by first | rfl | (simp [errW_none, errW_some] <;> rfl) | (simp [*, errW_none, errW_some] <;> rfl), by repeat (first | (with_reducible first | exact HB.out | apply below_alloc | apply pw_below_drewN | apply below_drew1) | exact HB.out)⟩
  · replace c3 := Bool.eq_false_iff.mpr c3
    subst c3
    have H1 : ((merkhetref10_Of.f k l0).bind fun t103 => ((shift_Solved.f k l0 t103).bind fun bt106 => (if bt106.2 = true then ((shift_Starts.f l0 bt106.1).bind fun bt111 => (if bt111.2 = true then (merkhetlaw18_ShiftRight.j0 k l0 t103 bt106.1 bt111.1 ((bt111.1.length : Int) != (l0.length : Int))) else (merkhetlaw18_ShiftRight.j0 k l0 t103 bt106.1 bt111.1 true))) else ((merkhetlaw18_fixed.f k).bind fun t110 => (if t110 = true then (some ((bt106.1.length : Int) == 0)) else (some false)))))) = some r := by rw [if_neg (show ¬ (false = true) by decide)] at H; exact H
    clear H
    have H := H1
    clear H1
    replace H := Option.bind_eq_some_iff.mp H
    obtain ⟨t103, A70, H⟩ := H
    replace H : ((shift_Solved.f k l0 t103).bind fun bt106 => (if bt106.2 = true then ((shift_Starts.f l0 bt106.1).bind fun bt111 => (if bt111.2 = true then (merkhetlaw18_ShiftRight.j0 k l0 t103 bt106.1 bt111.1 ((bt111.1.length : Int) != (l0.length : Int))) else (merkhetlaw18_ShiftRight.j0 k l0 t103 bt106.1 bt111.1 true))) else ((merkhetlaw18_fixed.f k).bind fun t110 => (if t110 = true then (some ((bt106.1.length : Int) == 0)) else (some false))))) = some r := H
    have A7 := Aside0.mk A70
    clear A70
    replace H := Option.bind_eq_some_iff.mp H
    obtain ⟨⟨t106, t109⟩, A80, H⟩ := H
    replace H : (if t109 = true then ((shift_Starts.f l0 t106).bind fun bt111 => (if bt111.2 = true then (merkhetlaw18_ShiftRight.j0 k l0 t103 t106 bt111.1 ((bt111.1.length : Int) != (l0.length : Int))) else (merkhetlaw18_ShiftRight.j0 k l0 t103 t106 bt111.1 true))) else ((merkhetlaw18_fixed.f k).bind fun t110 => (if t110 = true then (some ((t106.length : Int) == 0)) else (some false)))) = some r := H
    have A8 := Aside0.mk A80
    clear A80
    by_cases c9 : t109 = true
    · subst c9
      have H1 : ((shift_Starts.f l0 t106).bind fun bt111 => (if bt111.2 = true then (merkhetlaw18_ShiftRight.j0 k l0 t103 t106 bt111.1 ((bt111.1.length : Int) != (l0.length : Int))) else (merkhetlaw18_ShiftRight.j0 k l0 t103 t106 bt111.1 true))) = some r := by rw [if_pos rfl] at H; exact H
      clear H
      have H := H1
      clear H1
      replace H := Option.bind_eq_some_iff.mp H
      obtain ⟨⟨t111, t112⟩, A100, H⟩ := H
      replace H : (if t112 = true then (merkhetlaw18_ShiftRight.j0 k l0 t103 t106 t111 ((t111.length : Int) != (l0.length : Int))) else (merkhetlaw18_ShiftRight.j0 k l0 t103 t106 t111 true)) = some r := H
      have A10 := Aside0.mk A100
      clear A100
      have HC11 := Aside0.mk H
      clear H
      go_enter Try.func9, Try.ntmps9
      go_upto_region 8 with (first | (go_at_call 11; (with_reducible refine (merkhetlaw04_Great.calls k _ _ l0 false _ ?side1 ?side2 A2.out).mono ?_); (case side1 => repeat (first | exact HR0.out | (with_reducible refine Kd.C_alloc ?_ _) | (with_reducible refine Kd.C_drewN ?_ _) | (with_reducible refine Kd.C_drew ?_))); (case side2 => exact HC0.out); rintro e w12 ⟨rfl, hb⟩; have n0_ := Aside0.mk (below_step (by repeat (first | (with_reducible first | exact HB.out | apply below_alloc | apply pw_below_drewN | apply below_drew1) | exact HB.out)) hb); clear HB; have HB := n0_; clear n0_; (try clear hb); (try clear hb2); (try clear hk); (try clear hi)) | (go_at_call 14; (with_reducible refine (merkhetref10_Of.calls k _ _ l0 t103 _ ?side1 ?side2 A7.out).mono ?_); (case side1 => repeat (first | exact (Kd.C_below HR0.out HB.out) | (with_reducible refine Kd.C_alloc ?_ _) | (with_reducible refine Kd.C_drewN ?_ _) | (with_reducible refine Kd.C_drew ?_))); (case side2 => exact HC0.out); rintro e w13 ⟨v104, rfl, ho0, hb⟩; have n0_ := Aside0.mk (Kd.R_lower ho0 (below_size (by repeat (first | (with_reducible first | exact HB.out | apply below_alloc | apply pw_below_drewN | apply below_drew1) | exact HB.out)))); have n1_ := Aside0.mk (below_step (by repeat (first | (with_reducible first | exact HB.out | apply below_alloc | apply pw_below_drewN | apply below_drew1) | exact HB.out)) hb); clear HB; have HO105 := n0_; have HB := n1_; clear n0_ n1_; (try clear hb); (try clear hb2); (try clear hk); (try clear hi); (try clear ho0); obtain ⟨Ao14, co14, eo14⟩ := Kd.R_slice HO105.out; subst eo14) | (go_at_call 27; (with_reducible refine (shift_Solved.calls k _ _ l0 _ _ t103 t106 true _ ?side1 ?side2 ?side3 ?side4 A8.out).mono ?_); (case side1 => repeat (first | exact (Kd.C_below HR0.out HB.out) | (with_reducible refine Kd.C_alloc ?_ _) | (with_reducible refine Kd.C_drewN ?_ _) | (with_reducible refine Kd.C_drew ?_))); (case side2 => exact HC0.out); (case side3 => repeat (first | exact (Kd.R_reads' HO105.out).2.2 | (with_reducible refine Kd.C_alloc ?_ _) | (with_reducible refine Kd.C_drewN ?_ _) | (with_reducible refine Kd.C_drew ?_))); (case side4 => exact (Kd.R_reads' HO105.out).2.1); rintro e w15 ⟨v107, rfl, ho0, hb⟩; have n0_ := Aside0.mk (Kd.R_below (by (with_reducible repeat (first | apply Kd.R_alloc | apply Kd.R_drewN | apply Kd.R_drew)); exact HO105.out) hb); have n1_ := Aside0.mk (Kd.V_lower (Kd.V_mono (ok' := fun k_ => some k_ ≠ (.slice Ao14 t103.length co14 : Value).ownBlock) ho0 (fun k_ hk_ => (Kd.fresh' (Kd.R_lt (by (with_reducible repeat (first | apply Kd.R_alloc | apply Kd.R_drewN | apply Kd.R_drew)); exact HO105.out)) k_ hk_))) (below_size (by repeat (first | (with_reducible first | exact HB.out | apply below_alloc | apply pw_below_drewN | apply below_drew1) | exact HB.out)))); have n2_ := Aside0.mk (below_step (by repeat (first | (with_reducible first | exact HB.out | apply below_alloc | apply pw_below_drewN | apply below_drew1) | exact HB.out)) hb); clear HO105; clear HB; have HO105 := n0_; have HO108 := n1_; have HB := n2_; clear n0_ n1_ n2_; (try clear hb); (try clear hb2); (try clear hk); (try clear hi); (try clear ho0); obtain ⟨Ao16, co16, eo16⟩ := Kd.V_slice HO108.out; subst eo16) | (go_at_call 24; (with_reducible refine (shift_Starts.calls _ _ l0 _ _ t106 t111 t112 _ ?side1 ?side2 ?side3 ?side4 A10.out).mono ?_); (case side1 => repeat (first | exact (Kd.C_below HR0.out HB.out) | (with_reducible refine Kd.C_alloc ?_ _) | (with_reducible refine Kd.C_drewN ?_ _) | (with_reducible refine Kd.C_drew ?_))); (case side2 => exact HC0.out); (case side3 => repeat (first | exact (Kd.V_reads' HO108.out).2.2 | (with_reducible refine Kd.C_alloc ?_ _) | (with_reducible refine Kd.C_drewN ?_ _) | (with_reducible refine Kd.C_drew ?_))); (case side4 => exact (Kd.V_reads' HO108.out).2.1); rintro e w17 ⟨v113, rfl, ho0, hb⟩; have n0_ := Aside0.mk (Kd.R_below (by (with_reducible repeat (first | apply Kd.R_alloc | apply Kd.R_drewN | apply Kd.R_drew)); exact HO105.out) hb); have n1_ := Aside0.mk (Kd.V_elder' (by (with_reducible repeat (first | apply Kd.V_alloc | apply Kd.V_drewN | apply Kd.V_drew)); exact HO108.out) (Kd.R_base ho0) hb); have n2_ := Aside0.mk (Kd.R_lower ho0 (below_size (by repeat (first | (with_reducible first | exact HB.out | apply below_alloc | apply pw_below_drewN | apply below_drew1) | exact HB.out)))); have n3_ := Aside0.mk (below_step (by repeat (first | (with_reducible first | exact HB.out | apply below_alloc | apply pw_below_drewN | apply below_drew1) | exact HB.out)) hb); clear HO105; clear HO108; clear HB; have HO105 := n0_; have HO108 := n1_; have HO114 := n2_; have HB := n3_; clear n0_ n1_ n2_ n3_; (try clear hb); (try clear hb2); (try clear hk); (try clear hi); (try clear ho0)))
      repeat (go_quiet (first | (go_at_call 11; (with_reducible refine (merkhetlaw04_Great.calls k _ _ l0 false _ ?side1 ?side2 A2.out).mono ?_); (case side1 => repeat (first | exact HR0.out | (with_reducible refine Kd.C_alloc ?_ _) | (with_reducible refine Kd.C_drewN ?_ _) | (with_reducible refine Kd.C_drew ?_))); (case side2 => exact HC0.out); rintro e w12 ⟨rfl, hb⟩; have n0_ := Aside0.mk (below_step (by repeat (first | (with_reducible first | exact HB.out | apply below_alloc | apply pw_below_drewN | apply below_drew1) | exact HB.out)) hb); clear HB; have HB := n0_; clear n0_; (try clear hb); (try clear hb2); (try clear hk); (try clear hi)) | (go_at_call 14; (with_reducible refine (merkhetref10_Of.calls k _ _ l0 t103 _ ?side1 ?side2 A7.out).mono ?_); (case side1 => repeat (first | exact (Kd.C_below HR0.out HB.out) | (with_reducible refine Kd.C_alloc ?_ _) | (with_reducible refine Kd.C_drewN ?_ _) | (with_reducible refine Kd.C_drew ?_))); (case side2 => exact HC0.out); rintro e w13 ⟨v104, rfl, ho0, hb⟩; have n0_ := Aside0.mk (Kd.R_lower ho0 (below_size (by repeat (first | (with_reducible first | exact HB.out | apply below_alloc | apply pw_below_drewN | apply below_drew1) | exact HB.out)))); have n1_ := Aside0.mk (below_step (by repeat (first | (with_reducible first | exact HB.out | apply below_alloc | apply pw_below_drewN | apply below_drew1) | exact HB.out)) hb); clear HB; have HO105 := n0_; have HB := n1_; clear n0_ n1_; (try clear hb); (try clear hb2); (try clear hk); (try clear hi); (try clear ho0); obtain ⟨Ao14, co14, eo14⟩ := Kd.R_slice HO105.out; subst eo14) | (go_at_call 27; (with_reducible refine (shift_Solved.calls k _ _ l0 _ _ t103 t106 true _ ?side1 ?side2 ?side3 ?side4 A8.out).mono ?_); (case side1 => repeat (first | exact (Kd.C_below HR0.out HB.out) | (with_reducible refine Kd.C_alloc ?_ _) | (with_reducible refine Kd.C_drewN ?_ _) | (with_reducible refine Kd.C_drew ?_))); (case side2 => exact HC0.out); (case side3 => repeat (first | exact (Kd.R_reads' HO105.out).2.2 | (with_reducible refine Kd.C_alloc ?_ _) | (with_reducible refine Kd.C_drewN ?_ _) | (with_reducible refine Kd.C_drew ?_))); (case side4 => exact (Kd.R_reads' HO105.out).2.1); rintro e w15 ⟨v107, rfl, ho0, hb⟩; have n0_ := Aside0.mk (Kd.R_below (by (with_reducible repeat (first | apply Kd.R_alloc | apply Kd.R_drewN | apply Kd.R_drew)); exact HO105.out) hb); have n1_ := Aside0.mk (Kd.V_lower (Kd.V_mono (ok' := fun k_ => some k_ ≠ (.slice Ao14 t103.length co14 : Value).ownBlock) ho0 (fun k_ hk_ => (Kd.fresh' (Kd.R_lt (by (with_reducible repeat (first | apply Kd.R_alloc | apply Kd.R_drewN | apply Kd.R_drew)); exact HO105.out)) k_ hk_))) (below_size (by repeat (first | (with_reducible first | exact HB.out | apply below_alloc | apply pw_below_drewN | apply below_drew1) | exact HB.out)))); have n2_ := Aside0.mk (below_step (by repeat (first | (with_reducible first | exact HB.out | apply below_alloc | apply pw_below_drewN | apply below_drew1) | exact HB.out)) hb); clear HO105; clear HB; have HO105 := n0_; have HO108 := n1_; have HB := n2_; clear n0_ n1_ n2_; (try clear hb); (try clear hb2); (try clear hk); (try clear hi); (try clear ho0); obtain ⟨Ao16, co16, eo16⟩ := Kd.V_slice HO108.out; subst eo16) | (go_at_call 24; (with_reducible refine (shift_Starts.calls _ _ l0 _ _ t106 t111 t112 _ ?side1 ?side2 ?side3 ?side4 A10.out).mono ?_); (case side1 => repeat (first | exact (Kd.C_below HR0.out HB.out) | (with_reducible refine Kd.C_alloc ?_ _) | (with_reducible refine Kd.C_drewN ?_ _) | (with_reducible refine Kd.C_drew ?_))); (case side2 => exact HC0.out); (case side3 => repeat (first | exact (Kd.V_reads' HO108.out).2.2 | (with_reducible refine Kd.C_alloc ?_ _) | (with_reducible refine Kd.C_drewN ?_ _) | (with_reducible refine Kd.C_drew ?_))); (case side4 => exact (Kd.V_reads' HO108.out).2.1); rintro e w17 ⟨v113, rfl, ho0, hb⟩; have n0_ := Aside0.mk (Kd.R_below (by (with_reducible repeat (first | apply Kd.R_alloc | apply Kd.R_drewN | apply Kd.R_drew)); exact HO105.out) hb); have n1_ := Aside0.mk (Kd.V_elder' (by (with_reducible repeat (first | apply Kd.V_alloc | apply Kd.V_drewN | apply Kd.V_drew)); exact HO108.out) (Kd.R_base ho0) hb); have n2_ := Aside0.mk (Kd.R_lower ho0 (below_size (by repeat (first | (with_reducible first | exact HB.out | apply below_alloc | apply pw_below_drewN | apply below_drew1) | exact HB.out)))); have n3_ := Aside0.mk (below_step (by repeat (first | (with_reducible first | exact HB.out | apply below_alloc | apply pw_below_drewN | apply below_drew1) | exact HB.out)) hb); clear HO105; clear HO108; clear HB; have HO105 := n0_; have HO108 := n1_; have HO114 := n2_; have HB := n3_; clear n0_ n1_ n2_ n3_; (try clear hb); (try clear hb2); (try clear hk); (try clear hi); (try clear ho0))); go_upto_region 8 with (first | (go_at_call 11; (with_reducible refine (merkhetlaw04_Great.calls k _ _ l0 false _ ?side1 ?side2 A2.out).mono ?_); (case side1 => repeat (first | exact HR0.out | (with_reducible refine Kd.C_alloc ?_ _) | (with_reducible refine Kd.C_drewN ?_ _) | (with_reducible refine Kd.C_drew ?_))); (case side2 => exact HC0.out); rintro e w12 ⟨rfl, hb⟩; have n0_ := Aside0.mk (below_step (by repeat (first | (with_reducible first | exact HB.out | apply below_alloc | apply pw_below_drewN | apply below_drew1) | exact HB.out)) hb); clear HB; have HB := n0_; clear n0_; (try clear hb); (try clear hb2); (try clear hk); (try clear hi)) | (go_at_call 14; (with_reducible refine (merkhetref10_Of.calls k _ _ l0 t103 _ ?side1 ?side2 A7.out).mono ?_); (case side1 => repeat (first | exact (Kd.C_below HR0.out HB.out) | (with_reducible refine Kd.C_alloc ?_ _) | (with_reducible refine Kd.C_drewN ?_ _) | (with_reducible refine Kd.C_drew ?_))); (case side2 => exact HC0.out); rintro e w13 ⟨v104, rfl, ho0, hb⟩; have n0_ := Aside0.mk (Kd.R_lower ho0 (below_size (by repeat (first | (with_reducible first | exact HB.out | apply below_alloc | apply pw_below_drewN | apply below_drew1) | exact HB.out)))); have n1_ := Aside0.mk (below_step (by repeat (first | (with_reducible first | exact HB.out | apply below_alloc | apply pw_below_drewN | apply below_drew1) | exact HB.out)) hb); clear HB; have HO105 := n0_; have HB := n1_; clear n0_ n1_; (try clear hb); (try clear hb2); (try clear hk); (try clear hi); (try clear ho0); obtain ⟨Ao14, co14, eo14⟩ := Kd.R_slice HO105.out; subst eo14) | (go_at_call 27; (with_reducible refine (shift_Solved.calls k _ _ l0 _ _ t103 t106 true _ ?side1 ?side2 ?side3 ?side4 A8.out).mono ?_); (case side1 => repeat (first | exact (Kd.C_below HR0.out HB.out) | (with_reducible refine Kd.C_alloc ?_ _) | (with_reducible refine Kd.C_drewN ?_ _) | (with_reducible refine Kd.C_drew ?_))); (case side2 => exact HC0.out); (case side3 => repeat (first | exact (Kd.R_reads' HO105.out).2.2 | (with_reducible refine Kd.C_alloc ?_ _) | (with_reducible refine Kd.C_drewN ?_ _) | (with_reducible refine Kd.C_drew ?_))); (case side4 => exact (Kd.R_reads' HO105.out).2.1); rintro e w15 ⟨v107, rfl, ho0, hb⟩; have n0_ := Aside0.mk (Kd.R_below (by (with_reducible repeat (first | apply Kd.R_alloc | apply Kd.R_drewN | apply Kd.R_drew)); exact HO105.out) hb); have n1_ := Aside0.mk (Kd.V_lower (Kd.V_mono (ok' := fun k_ => some k_ ≠ (.slice Ao14 t103.length co14 : Value).ownBlock) ho0 (fun k_ hk_ => (Kd.fresh' (Kd.R_lt (by (with_reducible repeat (first | apply Kd.R_alloc | apply Kd.R_drewN | apply Kd.R_drew)); exact HO105.out)) k_ hk_))) (below_size (by repeat (first | (with_reducible first | exact HB.out | apply below_alloc | apply pw_below_drewN | apply below_drew1) | exact HB.out)))); have n2_ := Aside0.mk (below_step (by repeat (first | (with_reducible first | exact HB.out | apply below_alloc | apply pw_below_drewN | apply below_drew1) | exact HB.out)) hb); clear HO105; clear HB; have HO105 := n0_; have HO108 := n1_; have HB := n2_; clear n0_ n1_ n2_; (try clear hb); (try clear hb2); (try clear hk); (try clear hi); (try clear ho0); obtain ⟨Ao16, co16, eo16⟩ := Kd.V_slice HO108.out; subst eo16) | (go_at_call 24; (with_reducible refine (shift_Starts.calls _ _ l0 _ _ t106 t111 t112 _ ?side1 ?side2 ?side3 ?side4 A10.out).mono ?_); (case side1 => repeat (first | exact (Kd.C_below HR0.out HB.out) | (with_reducible refine Kd.C_alloc ?_ _) | (with_reducible refine Kd.C_drewN ?_ _) | (with_reducible refine Kd.C_drew ?_))); (case side2 => exact HC0.out); (case side3 => repeat (first | exact (Kd.V_reads' HO108.out).2.2 | (with_reducible refine Kd.C_alloc ?_ _) | (with_reducible refine Kd.C_drewN ?_ _) | (with_reducible refine Kd.C_drew ?_))); (case side4 => exact (Kd.V_reads' HO108.out).2.1); rintro e w17 ⟨v113, rfl, ho0, hb⟩; have n0_ := Aside0.mk (Kd.R_below (by (with_reducible repeat (first | apply Kd.R_alloc | apply Kd.R_drewN | apply Kd.R_drew)); exact HO105.out) hb); have n1_ := Aside0.mk (Kd.V_elder' (by (with_reducible repeat (first | apply Kd.V_alloc | apply Kd.V_drewN | apply Kd.V_drew)); exact HO108.out) (Kd.R_base ho0) hb); have n2_ := Aside0.mk (Kd.R_lower ho0 (below_size (by repeat (first | (with_reducible first | exact HB.out | apply below_alloc | apply pw_below_drewN | apply below_drew1) | exact HB.out)))); have n3_ := Aside0.mk (below_step (by repeat (first | (with_reducible first | exact HB.out | apply below_alloc | apply pw_below_drewN | apply below_drew1) | exact HB.out)) hb); clear HO105; clear HO108; clear HB; have HO105 := n0_; have HO108 := n1_; have HO114 := n2_; have HB := n3_; clear n0_ n1_ n2_ n3_; (try clear hb); (try clear hb2); (try clear hk); (try clear hi); (try clear ho0))))
      (try simp only [Act.put, List.setIfInBounds_toArray, List.set_cons_zero, List.set_cons_succ])
      go_cut [51] (fun v51 wc => ∃ (kq : Nat) (x51_10 : Bool), v51 = .bool x51_10 ∧ Aside0 (merkhetlaw18_ShiftRight.j0 kq l0 t103 t106 t111 x51_10 = some r) ∧ Aside0 (kq ≤ k) ∧ Aside0 (Kd.R (Kd.int .i64) 3 wc w.heap.size (fun _ => True) (.slice Ao14 t103.length co14) t103) ∧ Aside0 (Kd.V (Kd.int .i64) 2 wc w.heap.size (fun k_ => some k_ ≠ ((.slice Ao14 t103.length co14) : Value).ownBlock ∧ some k_ ≠ (v113 : Value).ownBlock) (.slice Ao16 t106.length co16) t106) ∧ Aside0 (Kd.R (Kd.int .i64) 2 wc w.heap.size (fun _ => True) v113 t111) ∧ Aside0 (Below w.heap.size w wc))
      case first =>
        have H := HC11.out
        clear HC11
        by_cases c18 : t112 = true
        · subst c18
          have H1 : (merkhetlaw18_ShiftRight.j0 k l0 t103 t106 t111 ((t111.length : Int) != (l0.length : Int))) = some r := by rw [if_pos rfl] at H; exact H
          clear H
          have H := H1
          clear H1
          have H' := Aside0.mk H
          clear H
          obtain ⟨Ao19, co19, eo19⟩ := Kd.R_slice HO114.out
          subst eo19
          go_wp2
          repeat (go_quiet (fail); try go_wp2)
          go_meet
          case rel => exact ⟨_, (((t111.length : Int) != (l0.length : Int))), (by first | rfl | (simp; done) | (simp [*]; done)), H', ⟨by first | omega | exact Nat.le_refl _⟩, ⟨by (with_reducible repeat (first | apply Kd.R_alloc | apply Kd.R_drewN | apply Kd.R_drew)); exact HO105.out⟩, ⟨by (with_reducible repeat (first | apply Kd.V_alloc | apply Kd.V_drewN | apply Kd.V_drew)); exact HO108.out⟩, ⟨by (with_reducible repeat (first | apply Kd.R_alloc | apply Kd.R_drewN | apply Kd.R_drew)); exact HO114.out⟩, ⟨by repeat (first | (with_reducible first | exact HB.out | apply below_alloc | apply pw_below_drewN | apply below_drew1) | exact HB.out)⟩⟩
        · replace c18 := Bool.eq_false_iff.mpr c18
          subst c18
          have H1 : (merkhetlaw18_ShiftRight.j0 k l0 t103 t106 t111 true) = some r := by rw [if_neg (show ¬ (false = true) by decide)] at H; exact H
          clear H
          have H := H1
          clear H1
          have H' := Aside0.mk H
          clear H
          go_wp2
          repeat (go_quiet (fail); try go_wp2)
          go_meet
          case rel => exact ⟨_, (true), (by first | rfl | (simp; done) | (simp [*]; done)), H', ⟨by first | omega | exact Nat.le_refl _⟩, ⟨by (with_reducible repeat (first | apply Kd.R_alloc | apply Kd.R_drewN | apply Kd.R_drew)); exact HO105.out⟩, ⟨by (with_reducible repeat (first | apply Kd.V_alloc | apply Kd.V_drewN | apply Kd.V_drew)); exact HO108.out⟩, ⟨by (with_reducible repeat (first | apply Kd.R_alloc | apply Kd.R_drewN | apply Kd.R_drew)); exact HO114.out⟩, ⟨by repeat (first | (with_reducible first | exact HB.out | apply below_alloc | apply pw_below_drewN | apply below_drew1) | exact HB.out)⟩⟩
      case rest =>
        clear HC11
        (try clear c1); (try clear p2); (try clear c3); (try clear c9); (try clear c18)
        obtain ⟨kq, x51_10, rfl, HA, HJ10, HO_3, HO_4, HO_6, HB⟩ := hcut
        cases kq with
        | zero => exact absurd HA.out (by simp [merkhetlaw18_ShiftRight.j0])
        | succ kj10 =>
          have H := HA.out
          clear HA
          simp only [merkhetlaw18_ShiftRight.j0] at H
          by_cases c20 : x51_10 = true
          · subst c20
            have H1 : (some false) = some r := by rw [if_pos rfl] at H; exact H
            clear H
            have H := H1
            clear H1
            obtain rfl := Option.some.inj H
            go_wp2
            repeat (go_quiet (fail); try go_wp2)
            go_ret
            exact ⟨by first | rfl | (simp [errW_none, errW_some] <;> rfl) | (simp [*, errW_none, errW_some] <;> rfl), by repeat (first | (with_reducible first | exact HB.out | apply below_alloc | apply pw_below_drewN | apply below_drew1) | exact HB.out)⟩
          · replace c20 := Bool.eq_false_iff.mpr c20
            subst c20
            have H1 : (merkhetlaw18_ShiftRight.l0 kj10 l0 t103 t106 t111 t111 (t111.length : Int) 0) = some r := by rw [if_neg (show ¬ (false = true) by decide)] at H; exact H
            clear H
            have H := H1
            clear H1
            have H' := Aside0.mk H
            clear H
            obtain ⟨Ao21, co21, eo21⟩ := Kd.R_slice HO_6.out
            subst eo21
            go_wp2
            repeat (go_quiet (fail); try go_wp2)
            go_loopg [54] kj10 (fun kq v54 w' => ∃ (x54_2 : Int), v54 = .int .i64 x54_2 ∧ Aside0 (merkhetlaw18_ShiftRight.l0 kq l0 t103 t106 t111 t111 (t111.length : Int) x54_2 = some r) ∧ Aside0 (kq ≤ kj10) ∧ Aside0 (Kd.R (Kd.int .i64) 3 w' w.heap.size (fun _ => True) (.slice Ao14 t103.length co14) t103) ∧ Aside0 (Kd.V (Kd.int .i64) 2 w' w.heap.size (fun k_ => some k_ ≠ ((.slice Ao14 t103.length co14) : Value).ownBlock ∧ some k_ ≠ ((.slice Ao21 t111.length co21) : Value).ownBlock ∧ some k_ ≠ ((.slice Ao21 t111.length co21) : Value).ownBlock) (.slice Ao16 t106.length co16) t106) ∧ Aside0 (Kd.R (Kd.int .i64) 2 w' w.heap.size (fun _ => True) (.slice Ao21 t111.length co21) t111) ∧ Aside0 (Kd.R (Kd.int .i64) 2 w' w.heap.size (fun _ => True) (.slice Ao21 t111.length co21) t111) ∧ Aside0 (Below w.heap.size w w'))
            case atStart => exact ⟨(0), (by first | rfl | (simp; done) | (simp [*]; done)), H', ⟨Nat.le_refl _⟩, ⟨by (with_reducible repeat (first | apply Kd.R_alloc | apply Kd.R_drewN | apply Kd.R_drew)); exact HO_3.out⟩, ⟨by (with_reducible repeat (first | apply Kd.V_alloc | apply Kd.V_drewN | apply Kd.V_drew)); exact Kd.V_mono HO_4.out (fun _ hk => ⟨hk.1, ⟨hk.2, hk.2⟩⟩)⟩, ⟨by (with_reducible repeat (first | apply Kd.R_alloc | apply Kd.R_drewN | apply Kd.R_drew)); exact HO_6.out⟩, ⟨by (with_reducible repeat (first | apply Kd.R_alloc | apply Kd.R_drewN | apply Kd.R_drew)); exact HO_6.out⟩, ⟨by repeat (first | (with_reducible first | exact HB.out | apply below_alloc | apply pw_below_drewN | apply below_drew1) | exact HB.out)⟩⟩
            case round =>
              clear H'
              (try clear c1); (try clear c2); (try clear p2); (try clear c3); (try clear c9); (try clear c18); (try clear c20); (try clear p2)
              obtain ⟨x54_2, rfl, HA, HK2, HO_3, HO_4, HO_6, HO_52, HB⟩ := hrel
              cases gk with
              | zero => exact absurd HA.out (by simp [merkhetlaw18_ShiftRight.l0])
              | succ k2 =>
                have H := HA.out
                clear HA
                simp only [merkhetlaw18_ShiftRight.l0] at H
                by_cases c22 : x54_2 < (t111.length : Int)
                · rw [if_pos c22] at H
                  have c22b0 : decide (x54_2 < (t111.length : Int)) = true := decide_eq_true c22
                  clear c22
                  by_cases c23 : 0 ≤ x54_2
                  · rw [if_pos c23] at H
                    have c23b0 : decide (0 ≤ x54_2) = true := decide_eq_true c23
                    clear c23
                    by_cases c24 : x54_2 < (t111.length : Int)
                    · rw [if_pos c24] at H
                      have c24b0 : decide (x54_2 < (t111.length : Int)) = true := decide_eq_true c24
                      clear c24
                      by_cases c25 : (rd t111 x54_2) ≥ 1125899906842624
                      · rw [if_pos c25] at H
                        have c25b0 : decide (1125899906842624 ≤ (rd t111 x54_2)) = true := decide_eq_true c25
                        clear c25
                        obtain rfl := Option.some.inj H
                        have p115 : 0 ≤ (x54_2 : Int) := of_decide_eq_true (by first | (with_reducible assumption) | assumption)
                        have q115 : x54_2 < (t111.length : Int) := of_decide_eq_true (by first | (with_reducible assumption) | assumption)
                        obtain ⟨ad115, e115, hx115_0⟩ := Kd.at_int (Kd.R_reads' HO_52.out).2.2 x54_2 p115 q115
                        cases e115
                        replace p115 := eq_true p115
                        replace q115 := eq_true q115
                        go_wp2
                        repeat (go_quiet (fail); try go_wp2)
                        go_ret
                        exact ⟨by first | rfl | (simp [errW_none, errW_some] <;> rfl) | (simp [*, errW_none, errW_some] <;> rfl), by repeat (first | (with_reducible first | exact HB.out | apply below_alloc | apply pw_below_drewN | apply below_drew1) | exact HB.out)⟩
                      · rw [if_neg c25] at H
                        have c25b0 : decide (1125899906842624 ≤ (rd t111 x54_2)) = false := decide_eq_false c25
                        clear c25
                        by_cases c26 : (rd t111 x54_2) < (-144115188075855872)
                        · rw [if_pos c26] at H
                          have c26b0 : decide ((rd t111 x54_2) < (-144115188075855872)) = true := decide_eq_true c26
                          clear c26
                          obtain rfl := Option.some.inj H
                          have p115 : 0 ≤ (x54_2 : Int) := of_decide_eq_true (by first | (with_reducible assumption) | assumption)
                          have q115 : x54_2 < (t111.length : Int) := of_decide_eq_true (by first | (with_reducible assumption) | assumption)
                          obtain ⟨ad115, e115, hx115_0⟩ := Kd.at_int (Kd.R_reads' HO_52.out).2.2 x54_2 p115 q115
                          cases e115
                          replace p115 := eq_true p115
                          replace q115 := eq_true q115
                          go_wp2
                          repeat (go_quiet (fail); try go_wp2)
                          go_ret
                          exact ⟨by first | rfl | (simp [errW_none, errW_some] <;> rfl) | (simp [*, errW_none, errW_some] <;> rfl), by repeat (first | (with_reducible first | exact HB.out | apply below_alloc | apply pw_below_drewN | apply below_drew1) | exact HB.out)⟩
                        · rw [if_neg c26] at H
                          have c26b0 : decide ((rd t111 x54_2) < (-144115188075855872)) = false := decide_eq_false c26
                          clear c26
                          have H' := Aside0.mk H
                          clear H
                          have p115 : 0 ≤ (x54_2 : Int) := of_decide_eq_true (by first | (with_reducible assumption) | assumption)
                          have q115 : x54_2 < (t111.length : Int) := of_decide_eq_true (by first | (with_reducible assumption) | assumption)
                          obtain ⟨ad115, e115, hx115_0⟩ := Kd.at_int (Kd.R_reads' HO_52.out).2.2 x54_2 p115 q115
                          cases e115
                          replace p115 := eq_true p115
                          replace q115 := eq_true q115
                          go_wp2
                          repeat (go_quiet (fail); try go_wp2)
                          go_roundg k2
                          case measure => have := HJ10.out; have := HK2.out; omega
                          case rel => exact ⟨(wrap64 (x54_2 + 1)), (by first | rfl | (simp; done) | (simp [*]; done)), H', ⟨by have := HJ10.out; have := HK2.out; omega⟩, ⟨by (with_reducible repeat (first | apply Kd.R_alloc | apply Kd.R_drewN | apply Kd.R_drew)); exact HO_3.out⟩, ⟨by (with_reducible repeat (first | apply Kd.V_alloc | apply Kd.V_drewN | apply Kd.V_drew)); exact HO_4.out⟩, ⟨by (with_reducible repeat (first | apply Kd.R_alloc | apply Kd.R_drewN | apply Kd.R_drew)); exact HO_6.out⟩, ⟨by (with_reducible repeat (first | apply Kd.R_alloc | apply Kd.R_drewN | apply Kd.R_drew)); exact HO_52.out⟩, ⟨by repeat (first | (with_reducible first | exact HB.out | apply below_alloc | apply pw_below_drewN | apply below_drew1) | exact HB.out)⟩⟩
                    · rw [if_neg c24] at H
                      exact absurd H (by simp)
                  · rw [if_neg c23] at H
                    exact absurd H (by simp)
                · rw [if_neg c22] at H
                  have c22b0 : decide (x54_2 < (t111.length : Int)) = false := decide_eq_false c22
                  clear c22
                  replace H := Option.bind_eq_some_iff.mp H
                  obtain ⟨t116, A270, H⟩ := H
                  replace H : (merkhetlaw18_ShiftRight.l1 k2 l0 t106 t111 true t116 (t116.length : Int) 0) = some r := H
                  have A27 := Aside0.mk A270
                  clear A270
                  have H' := Aside0.mk H
                  clear H
                  go_wp2_with (first | (go_at_call 13; (with_reducible refine (merkhetref12_Of.calls k2 _ _ l0 _ _ t103 t116 _ ?side1 ?side2 ?side3 ?side4 A27.out).mono ?_); (case side1 => repeat (first | exact (Kd.C_below HR0.out HB.out) | (with_reducible refine Kd.C_alloc ?_ _) | (with_reducible refine Kd.C_drewN ?_ _) | (with_reducible refine Kd.C_drew ?_))); (case side2 => exact HC0.out); (case side3 => repeat (first | exact (Kd.R_reads' HO_3.out).2.2 | (with_reducible refine Kd.C_alloc ?_ _) | (with_reducible refine Kd.C_drewN ?_ _) | (with_reducible refine Kd.C_drew ?_))); (case side4 => exact (Kd.R_reads' HO_3.out).2.1); rintro e w28 ⟨v117, rfl, ho0, hb⟩; have n0_ := Aside0.mk (Kd.R_below (by (with_reducible repeat (first | apply Kd.R_alloc | apply Kd.R_drewN | apply Kd.R_drew)); exact HO_3.out) hb); have n1_ := Aside0.mk (Kd.V_elder' (by (with_reducible repeat (first | apply Kd.V_alloc | apply Kd.V_drewN | apply Kd.V_drew)); exact HO_4.out) (Kd.R_base ho0) hb); have n2_ := Aside0.mk (Kd.R_below (by (with_reducible repeat (first | apply Kd.R_alloc | apply Kd.R_drewN | apply Kd.R_drew)); exact HO_6.out) hb); have n3_ := Aside0.mk (Kd.R_below (by (with_reducible repeat (first | apply Kd.R_alloc | apply Kd.R_drewN | apply Kd.R_drew)); exact HO_52.out) hb); have n4_ := Aside0.mk (Kd.R_lower ho0 (below_size (by repeat (first | (with_reducible first | exact HB.out | apply below_alloc | apply pw_below_drewN | apply below_drew1) | exact HB.out)))); have n5_ := Aside0.mk (below_step (by repeat (first | (with_reducible first | exact HB.out | apply below_alloc | apply pw_below_drewN | apply below_drew1) | exact HB.out)) hb); clear HO_3; clear HO_4; clear HO_6; clear HO_52; clear HB; have HO_3 := n0_; have HO_4 := n1_; have HO_6 := n2_; have HO_52 := n3_; have HO118 := n4_; have HB := n5_; clear n0_ n1_ n2_ n3_ n4_ n5_; (try clear hb); (try clear hb2); (try clear hk); (try clear hi); (try clear ho0); obtain ⟨Ao29, co29, eo29⟩ := Kd.R_slice HO118.out; subst eo29))
                  repeat (go_quiet (first | (go_at_call 13; (with_reducible refine (merkhetref12_Of.calls k2 _ _ l0 _ _ t103 t116 _ ?side1 ?side2 ?side3 ?side4 A27.out).mono ?_); (case side1 => repeat (first | exact (Kd.C_below HR0.out HB.out) | (with_reducible refine Kd.C_alloc ?_ _) | (with_reducible refine Kd.C_drewN ?_ _) | (with_reducible refine Kd.C_drew ?_))); (case side2 => exact HC0.out); (case side3 => repeat (first | exact (Kd.R_reads' HO_3.out).2.2 | (with_reducible refine Kd.C_alloc ?_ _) | (with_reducible refine Kd.C_drewN ?_ _) | (with_reducible refine Kd.C_drew ?_))); (case side4 => exact (Kd.R_reads' HO_3.out).2.1); rintro e w28 ⟨v117, rfl, ho0, hb⟩; have n0_ := Aside0.mk (Kd.R_below (by (with_reducible repeat (first | apply Kd.R_alloc | apply Kd.R_drewN | apply Kd.R_drew)); exact HO_3.out) hb); have n1_ := Aside0.mk (Kd.V_elder' (by (with_reducible repeat (first | apply Kd.V_alloc | apply Kd.V_drewN | apply Kd.V_drew)); exact HO_4.out) (Kd.R_base ho0) hb); have n2_ := Aside0.mk (Kd.R_below (by (with_reducible repeat (first | apply Kd.R_alloc | apply Kd.R_drewN | apply Kd.R_drew)); exact HO_6.out) hb); have n3_ := Aside0.mk (Kd.R_below (by (with_reducible repeat (first | apply Kd.R_alloc | apply Kd.R_drewN | apply Kd.R_drew)); exact HO_52.out) hb); have n4_ := Aside0.mk (Kd.R_lower ho0 (below_size (by repeat (first | (with_reducible first | exact HB.out | apply below_alloc | apply pw_below_drewN | apply below_drew1) | exact HB.out)))); have n5_ := Aside0.mk (below_step (by repeat (first | (with_reducible first | exact HB.out | apply below_alloc | apply pw_below_drewN | apply below_drew1) | exact HB.out)) hb); clear HO_3; clear HO_4; clear HO_6; clear HO_52; clear HB; have HO_3 := n0_; have HO_4 := n1_; have HO_6 := n2_; have HO_52 := n3_; have HO118 := n4_; have HB := n5_; clear n0_ n1_ n2_ n3_ n4_ n5_; (try clear hb); (try clear hb2); (try clear hk); (try clear hi); (try clear ho0); obtain ⟨Ao29, co29, eo29⟩ := Kd.R_slice HO118.out; subst eo29)); try go_wp2_with (first | (go_at_call 13; (with_reducible refine (merkhetref12_Of.calls k2 _ _ l0 _ _ t103 t116 _ ?side1 ?side2 ?side3 ?side4 A27.out).mono ?_); (case side1 => repeat (first | exact (Kd.C_below HR0.out HB.out) | (with_reducible refine Kd.C_alloc ?_ _) | (with_reducible refine Kd.C_drewN ?_ _) | (with_reducible refine Kd.C_drew ?_))); (case side2 => exact HC0.out); (case side3 => repeat (first | exact (Kd.R_reads' HO_3.out).2.2 | (with_reducible refine Kd.C_alloc ?_ _) | (with_reducible refine Kd.C_drewN ?_ _) | (with_reducible refine Kd.C_drew ?_))); (case side4 => exact (Kd.R_reads' HO_3.out).2.1); rintro e w28 ⟨v117, rfl, ho0, hb⟩; have n0_ := Aside0.mk (Kd.R_below (by (with_reducible repeat (first | apply Kd.R_alloc | apply Kd.R_drewN | apply Kd.R_drew)); exact HO_3.out) hb); have n1_ := Aside0.mk (Kd.V_elder' (by (with_reducible repeat (first | apply Kd.V_alloc | apply Kd.V_drewN | apply Kd.V_drew)); exact HO_4.out) (Kd.R_base ho0) hb); have n2_ := Aside0.mk (Kd.R_below (by (with_reducible repeat (first | apply Kd.R_alloc | apply Kd.R_drewN | apply Kd.R_drew)); exact HO_6.out) hb); have n3_ := Aside0.mk (Kd.R_below (by (with_reducible repeat (first | apply Kd.R_alloc | apply Kd.R_drewN | apply Kd.R_drew)); exact HO_52.out) hb); have n4_ := Aside0.mk (Kd.R_lower ho0 (below_size (by repeat (first | (with_reducible first | exact HB.out | apply below_alloc | apply pw_below_drewN | apply below_drew1) | exact HB.out)))); have n5_ := Aside0.mk (below_step (by repeat (first | (with_reducible first | exact HB.out | apply below_alloc | apply pw_below_drewN | apply below_drew1) | exact HB.out)) hb); clear HO_3; clear HO_4; clear HO_6; clear HO_52; clear HB; have HO_3 := n0_; have HO_4 := n1_; have HO_6 := n2_; have HO_52 := n3_; have HO118 := n4_; have HB := n5_; clear n0_ n1_ n2_ n3_ n4_ n5_; (try clear hb); (try clear hb2); (try clear hk); (try clear hi); (try clear ho0); obtain ⟨Ao29, co29, eo29⟩ := Kd.R_slice HO118.out; subst eo29)))
                  go_loopg [10, 69] k2 (fun kq v10 v69 w' => ∃ (x10_3 : Bool) (x69_3 : Int), v10 = .bool x10_3 ∧ v69 = .int .i64 x69_3 ∧ Aside0 (merkhetlaw18_ShiftRight.l1 kq l0 t106 t111 x10_3 t116 (t116.length : Int) x69_3 = some r) ∧ Aside0 (kq ≤ k2) ∧ Aside0 (Kd.V (Kd.int .i64) 2 w' w.heap.size (fun k_ => some k_ ≠ ((.slice Ao21 t111.length co21) : Value).ownBlock ∧ some k_ ≠ ((.slice Ao29 t116.length co29) : Value).ownBlock) (.slice Ao16 t106.length co16) t106) ∧ Aside0 (Kd.R (Kd.int .i64) 2 w' w.heap.size (fun _ => True) (.slice Ao21 t111.length co21) t111) ∧ Aside0 (Kd.R k35 35 w' w.heap.size (fun _ => True) (.slice Ao29 t116.length co29) t116) ∧ Aside0 (Below w.heap.size w w'))
                  case atStart => exact ⟨(true), (0), (by first | rfl | (simp; done) | (simp [*]; done)), (by first | rfl | (simp; done) | (simp [*]; done)), H', ⟨Nat.le_refl _⟩, ⟨by (with_reducible repeat (first | apply Kd.V_alloc | apply Kd.V_drewN | apply Kd.V_drew)); exact Kd.V_mono HO_4.out (fun _ hk => ⟨hk.1.2.1, hk.2⟩)⟩, ⟨by (with_reducible repeat (first | apply Kd.R_alloc | apply Kd.R_drewN | apply Kd.R_drew)); exact HO_6.out⟩, ⟨by (with_reducible repeat (first | apply Kd.R_alloc | apply Kd.R_drewN | apply Kd.R_drew)); exact HO118.out⟩, ⟨by repeat (first | (with_reducible first | exact HB.out | apply below_alloc | apply pw_below_drewN | apply below_drew1) | exact HB.out)⟩⟩
                  case round =>
                    clear H'
                    (try clear c1); (try clear p1); (try clear q1); (try clear hx1); (try clear c2); (try clear p2); (try clear c3); (try clear p6); (try clear c9); (try clear p11); (try clear q11); (try clear hx11); (try clear c18); (try clear c20); (try clear c22); (try clear c22b0); (try clear c23); (try clear c23b0); (try clear c24); (try clear c24b0); (try clear c25); (try clear c25b0); (try clear c26); (try clear c26b0); (try clear hx115_0); (try clear p115); (try clear p2); (try clear q115)
                    obtain ⟨x10_3, x69_3, rfl, rfl, HA, HK3, HO_4, HO_6, HO_67, HB⟩ := hrel
                    cases gk with
                    | zero => exact absurd HA.out (by simp [merkhetlaw18_ShiftRight.l1])
                    | succ k3 =>
                      have H := HA.out
                      clear HA
                      simp only [merkhetlaw18_ShiftRight.l1] at H
                      by_cases c30 : x69_3 < (t116.length : Int)
                      · rw [if_pos c30] at H
                        have c30b0 : decide (x69_3 < (t116.length : Int)) = true := decide_eq_true c30
                        clear c30
                        by_cases c31 : 0 ≤ x69_3
                        · rw [if_pos c31] at H
                          have c31b0 : decide (0 ≤ x69_3) = true := decide_eq_true c31
                          clear c31
                          by_cases c32 : x69_3 < (t116.length : Int)
                          · rw [if_pos c32] at H
                            have c32b0 : decide (x69_3 < (t116.length : Int)) = true := decide_eq_true c32
                            clear c32
                            replace H := Option.bind_eq_some_iff.mp H
                            obtain ⟨⟨t121, t122, t123⟩, A330, H⟩ := H
                            replace H : (if x10_3 = true then (if t121 ≥ 0 then (merkhetlaw18_ShiftRight.j3 k3 l0 t106 t111 (decide (t122 ≥ 0)) t116 (t116.length : Int) x69_3 ((rd_T35 t116 x69_3).f0) ((rd_T35 t116 x69_3).f1)) else (merkhetlaw18_ShiftRight.j3 k3 l0 t106 t111 false t116 (t116.length : Int) x69_3 ((rd_T35 t116 x69_3).f0) ((rd_T35 t116 x69_3).f1))) else (merkhetlaw18_ShiftRight.j3 k3 l0 t106 t111 false t116 (t116.length : Int) x69_3 ((rd_T35 t116 x69_3).f0) ((rd_T35 t116 x69_3).f1))) = some r := H
                            have A33 := Aside0.mk A330
                            clear A330
                            have HC34 := Aside0.mk H
                            clear H
                            have p119 : 0 ≤ (x69_3 : Int) := of_decide_eq_true (by first | (with_reducible assumption) | assumption)
                            have q119 : x69_3 < (t116.length : Int) := of_decide_eq_true (by first | (with_reducible assumption) | assumption)
                            obtain ⟨ad119, e119, hx119_0, hx119_1⟩ := at_T35 (Kd.R_reads' HO_67.out).2.2 x69_3 p119 q119
                            cases e119
                            replace p119 := eq_true p119
                            replace q119 := eq_true q119
                            go_upto_region 21 with (first | ((with_reducible refine gate_dst (N := 12) rfl ?_); (try (refine gate_guard (by rfl) ?_; dsimp only)); refine box_event ?hg (N := 12) ?hd (cs := #[.int .i64 0, .int .i64 0]) (t := 35) ?hr ?_; (case hd => rfl); (case hg => rfl); (case hr => first | (go_simp; done) | (go_simp; rfl)); intro gb120 hg w35 hbox hb; have n0_ := Aside0.mk (Kd.V_below (Kd.V_elderB (by (with_reducible repeat (first | apply Kd.V_alloc | apply Kd.V_drewN | apply Kd.V_drew)); exact HO_4.out) gb120 (Nat.le_of_eq hg.symm)) hb); have n1_ := Aside0.mk (Kd.R_below (by (with_reducible repeat (first | apply Kd.R_alloc | apply Kd.R_drewN | apply Kd.R_drew)); exact HO_6.out) hb); have n2_ := Aside0.mk (Kd.R_below (Kd.R_elderB (by (with_reducible repeat (first | apply Kd.R_alloc | apply Kd.R_drewN | apply Kd.R_drew)); exact HO_67.out) gb120 (Nat.le_of_eq hg.symm)) hb); have n3_ := Aside0.mk (below_step (by repeat (first | (with_reducible first | exact HB.out | apply below_alloc | apply pw_below_drewN | apply below_drew1) | exact HB.out)) hb); have n4_ := Aside0.mk (hbox); have n5_ := Aside0.mk ((by rw [hg]; exact (below_size (by repeat (first | (with_reducible first | exact HB.out | apply below_alloc | apply pw_below_drewN | apply below_drew1) | exact HB.out))) : w.heap.size ≤ gb120)); have n6_ := Aside0.mk ((by rw [hg]; exact (below_size (by repeat (first | (with_reducible first | exact HB.out | apply below_alloc | apply pw_below_drewN | apply below_drew1) | exact HB.out))) : w.heap.size ≤ gb120)); clear HO_4; clear HO_6; clear HO_67; clear HB; have HO_4 := n0_; have HO_6 := n1_; have HO_67 := n2_; have HB := n3_; have BK120 := n4_; have GW120 := n5_; have GE120 := n6_; clear n0_ n1_ n2_ n3_ n4_ n5_ n6_; clear hb hbox hg; have hcz36_0 : w35.cell? ⟨gb120, 0, none⟩ = some (.int .i64 0) := (blk_cell BK120.out 0).trans rfl; have hcz36_1 : w35.cell? ⟨gb120, 1, none⟩ = some (.int .i64 0) := (blk_cell BK120.out 1).trans rfl; have hfz36_0 := blk_frozen BK120.out 0; have hfz36_1 := blk_frozen BK120.out 1) | (go_at_call 29; (with_reducible refine (merkhetref12_Gaps.calls _ _ l0 ((rd_T35 t116 x69_3).f0) ((rd_T35 t116 x69_3).f1) t121 t122 t123 _ ?side1 ?side2 A33.out).mono ?_); (case side1 => exact Kd.C_below HR0.out (by repeat (first | (with_reducible first | exact HB.out | apply below_alloc | apply pw_below_drewN | apply below_drew1 | refine below_set ?_ GE120.out) | exact HB.out))); (case side2 => exact HC0.out); rintro e w37 ⟨rfl, hb⟩; have n0_ := Aside0.mk (Kd.V_below (by (with_reducible repeat (first | apply Kd.V_alloc | apply Kd.V_drewN | apply Kd.V_drew)); exact (Kd.V_mono (Kd.V_far (p := ⟨gb120, 1, none⟩) (Kd.V_far (p := ⟨gb120, 0, none⟩) (Kd.V_mono HO_4.out (fun k_ hk => (⟨hk, hk.2⟩ : _ ∧ k_ ≠ gb120))) (fun _ hk => hk.2) (.int .i64 ((rd_T35 t116 x69_3).f0))) (fun _ hk => hk.2) (.int .i64 ((rd_T35 t116 x69_3).f1))) (fun _ h_ => h_.1))) hb); have n1_ := Aside0.mk (Kd.R_below (by (with_reducible repeat (first | apply Kd.R_alloc | apply Kd.R_drewN | apply Kd.R_drew)); exact (Kd.R_mono (Kd.R_far (p := ⟨gb120, 1, none⟩) (Kd.R_far (p := ⟨gb120, 0, none⟩) (Kd.R_types HO_6.out BK120.out (by decide)) (fun _ hk => hk.2) (.int .i64 ((rd_T35 t116 x69_3).f0))) (fun _ hk => hk.2) (.int .i64 ((rd_T35 t116 x69_3).f1))) (fun _ h_ => h_.1))) hb); have n2_ := Aside0.mk (Kd.R_below (by (with_reducible repeat (first | apply Kd.R_alloc | apply Kd.R_drewN | apply Kd.R_drew)); exact (Kd.R_mono (Kd.R_far (p := ⟨gb120, 1, none⟩) (Kd.R_far (p := ⟨gb120, 0, none⟩) (Kd.R_mono HO_67.out (fun k_ hk => (⟨hk, hk.2⟩ : _ ∧ k_ ≠ gb120))) (fun _ hk => hk.2) (.int .i64 ((rd_T35 t116 x69_3).f0))) (fun _ hk => hk.2) (.int .i64 ((rd_T35 t116 x69_3).f1))) (fun _ h_ => h_.1))) hb); have n3_ := Aside0.mk (blk_below (g := gb120) (o := .cells #[.int .i64 ((rd_T35 t116 x69_3).f0), .int .i64 ((rd_T35 t116 x69_3).f1)] 35 (0, 0)) (by (with_reducible repeat (first | refine blk_drewN ?_ _ | refine blk_drew ?_ | refine blk_alloc ?_ _)); refine blk_put (cs := #[.int .i64 ((rd_T35 t116 x69_3).f0), .int .i64 0]) ?_ 1 _ rfl; (with_reducible repeat (first | refine blk_drewN ?_ _ | refine blk_drew ?_ | refine blk_alloc ?_ _)); refine blk_put (cs := #[.int .i64 0, .int .i64 0]) ?_ 0 _ rfl; (with_reducible repeat (first | refine blk_drewN ?_ _ | refine blk_drew ?_ | refine blk_alloc ?_ _)); exact BK120.out) hb); have n4_ := Aside0.mk (below_step (by repeat (first | (with_reducible first | exact HB.out | apply below_alloc | apply pw_below_drewN | apply below_drew1 | refine below_set ?_ GE120.out) | exact HB.out)) hb); clear HO_4; clear HO_6; clear HO_67; clear BK120; clear HB; have HO_4 := n0_; have HO_6 := n1_; have HO_67 := n2_; have BK120 := n3_; have HB := n4_; clear n0_ n1_ n2_ n3_ n4_; (try clear hb); (try clear hb2); (try clear hk); (try clear hi)))
                            repeat (go_quiet (first | ((with_reducible refine gate_dst (N := 12) rfl ?_); (try (refine gate_guard (by rfl) ?_; dsimp only)); refine box_event ?hg (N := 12) ?hd (cs := #[.int .i64 0, .int .i64 0]) (t := 35) ?hr ?_; (case hd => rfl); (case hg => rfl); (case hr => first | (go_simp; done) | (go_simp; rfl)); intro gb120 hg w35 hbox hb; have n0_ := Aside0.mk (Kd.V_below (Kd.V_elderB (by (with_reducible repeat (first | apply Kd.V_alloc | apply Kd.V_drewN | apply Kd.V_drew)); exact HO_4.out) gb120 (Nat.le_of_eq hg.symm)) hb); have n1_ := Aside0.mk (Kd.R_below (by (with_reducible repeat (first | apply Kd.R_alloc | apply Kd.R_drewN | apply Kd.R_drew)); exact HO_6.out) hb); have n2_ := Aside0.mk (Kd.R_below (Kd.R_elderB (by (with_reducible repeat (first | apply Kd.R_alloc | apply Kd.R_drewN | apply Kd.R_drew)); exact HO_67.out) gb120 (Nat.le_of_eq hg.symm)) hb); have n3_ := Aside0.mk (below_step (by repeat (first | (with_reducible first | exact HB.out | apply below_alloc | apply pw_below_drewN | apply below_drew1) | exact HB.out)) hb); have n4_ := Aside0.mk (hbox); have n5_ := Aside0.mk ((by rw [hg]; exact (below_size (by repeat (first | (with_reducible first | exact HB.out | apply below_alloc | apply pw_below_drewN | apply below_drew1) | exact HB.out))) : w.heap.size ≤ gb120)); have n6_ := Aside0.mk ((by rw [hg]; exact (below_size (by repeat (first | (with_reducible first | exact HB.out | apply below_alloc | apply pw_below_drewN | apply below_drew1) | exact HB.out))) : w.heap.size ≤ gb120)); clear HO_4; clear HO_6; clear HO_67; clear HB; have HO_4 := n0_; have HO_6 := n1_; have HO_67 := n2_; have HB := n3_; have BK120 := n4_; have GW120 := n5_; have GE120 := n6_; clear n0_ n1_ n2_ n3_ n4_ n5_ n6_; clear hb hbox hg; have hcz36_0 : w35.cell? ⟨gb120, 0, none⟩ = some (.int .i64 0) := (blk_cell BK120.out 0).trans rfl; have hcz36_1 : w35.cell? ⟨gb120, 1, none⟩ = some (.int .i64 0) := (blk_cell BK120.out 1).trans rfl; have hfz36_0 := blk_frozen BK120.out 0; have hfz36_1 := blk_frozen BK120.out 1) | (go_at_call 29; (with_reducible refine (merkhetref12_Gaps.calls _ _ l0 ((rd_T35 t116 x69_3).f0) ((rd_T35 t116 x69_3).f1) t121 t122 t123 _ ?side1 ?side2 A33.out).mono ?_); (case side1 => exact Kd.C_below HR0.out (by repeat (first | (with_reducible first | exact HB.out | apply below_alloc | apply pw_below_drewN | apply below_drew1 | refine below_set ?_ GE120.out) | exact HB.out))); (case side2 => exact HC0.out); rintro e w37 ⟨rfl, hb⟩; have n0_ := Aside0.mk (Kd.V_below (by (with_reducible repeat (first | apply Kd.V_alloc | apply Kd.V_drewN | apply Kd.V_drew)); exact (Kd.V_mono (Kd.V_far (p := ⟨gb120, 1, none⟩) (Kd.V_far (p := ⟨gb120, 0, none⟩) (Kd.V_mono HO_4.out (fun k_ hk => (⟨hk, hk.2⟩ : _ ∧ k_ ≠ gb120))) (fun _ hk => hk.2) (.int .i64 ((rd_T35 t116 x69_3).f0))) (fun _ hk => hk.2) (.int .i64 ((rd_T35 t116 x69_3).f1))) (fun _ h_ => h_.1))) hb); have n1_ := Aside0.mk (Kd.R_below (by (with_reducible repeat (first | apply Kd.R_alloc | apply Kd.R_drewN | apply Kd.R_drew)); exact (Kd.R_mono (Kd.R_far (p := ⟨gb120, 1, none⟩) (Kd.R_far (p := ⟨gb120, 0, none⟩) (Kd.R_types HO_6.out BK120.out (by decide)) (fun _ hk => hk.2) (.int .i64 ((rd_T35 t116 x69_3).f0))) (fun _ hk => hk.2) (.int .i64 ((rd_T35 t116 x69_3).f1))) (fun _ h_ => h_.1))) hb); have n2_ := Aside0.mk (Kd.R_below (by (with_reducible repeat (first | apply Kd.R_alloc | apply Kd.R_drewN | apply Kd.R_drew)); exact (Kd.R_mono (Kd.R_far (p := ⟨gb120, 1, none⟩) (Kd.R_far (p := ⟨gb120, 0, none⟩) (Kd.R_mono HO_67.out (fun k_ hk => (⟨hk, hk.2⟩ : _ ∧ k_ ≠ gb120))) (fun _ hk => hk.2) (.int .i64 ((rd_T35 t116 x69_3).f0))) (fun _ hk => hk.2) (.int .i64 ((rd_T35 t116 x69_3).f1))) (fun _ h_ => h_.1))) hb); have n3_ := Aside0.mk (blk_below (g := gb120) (o := .cells #[.int .i64 ((rd_T35 t116 x69_3).f0), .int .i64 ((rd_T35 t116 x69_3).f1)] 35 (0, 0)) (by (with_reducible repeat (first | refine blk_drewN ?_ _ | refine blk_drew ?_ | refine blk_alloc ?_ _)); refine blk_put (cs := #[.int .i64 ((rd_T35 t116 x69_3).f0), .int .i64 0]) ?_ 1 _ rfl; (with_reducible repeat (first | refine blk_drewN ?_ _ | refine blk_drew ?_ | refine blk_alloc ?_ _)); refine blk_put (cs := #[.int .i64 0, .int .i64 0]) ?_ 0 _ rfl; (with_reducible repeat (first | refine blk_drewN ?_ _ | refine blk_drew ?_ | refine blk_alloc ?_ _)); exact BK120.out) hb); have n4_ := Aside0.mk (below_step (by repeat (first | (with_reducible first | exact HB.out | apply below_alloc | apply pw_below_drewN | apply below_drew1 | refine below_set ?_ GE120.out) | exact HB.out)) hb); clear HO_4; clear HO_6; clear HO_67; clear BK120; clear HB; have HO_4 := n0_; have HO_6 := n1_; have HO_67 := n2_; have BK120 := n3_; have HB := n4_; clear n0_ n1_ n2_ n3_ n4_; (try clear hb); (try clear hb2); (try clear hk); (try clear hi))); go_upto_region 21 with (first | ((with_reducible refine gate_dst (N := 12) rfl ?_); (try (refine gate_guard (by rfl) ?_; dsimp only)); refine box_event ?hg (N := 12) ?hd (cs := #[.int .i64 0, .int .i64 0]) (t := 35) ?hr ?_; (case hd => rfl); (case hg => rfl); (case hr => first | (go_simp; done) | (go_simp; rfl)); intro gb120 hg w35 hbox hb; have n0_ := Aside0.mk (Kd.V_below (Kd.V_elderB (by (with_reducible repeat (first | apply Kd.V_alloc | apply Kd.V_drewN | apply Kd.V_drew)); exact HO_4.out) gb120 (Nat.le_of_eq hg.symm)) hb); have n1_ := Aside0.mk (Kd.R_below (by (with_reducible repeat (first | apply Kd.R_alloc | apply Kd.R_drewN | apply Kd.R_drew)); exact HO_6.out) hb); have n2_ := Aside0.mk (Kd.R_below (Kd.R_elderB (by (with_reducible repeat (first | apply Kd.R_alloc | apply Kd.R_drewN | apply Kd.R_drew)); exact HO_67.out) gb120 (Nat.le_of_eq hg.symm)) hb); have n3_ := Aside0.mk (below_step (by repeat (first | (with_reducible first | exact HB.out | apply below_alloc | apply pw_below_drewN | apply below_drew1) | exact HB.out)) hb); have n4_ := Aside0.mk (hbox); have n5_ := Aside0.mk ((by rw [hg]; exact (below_size (by repeat (first | (with_reducible first | exact HB.out | apply below_alloc | apply pw_below_drewN | apply below_drew1) | exact HB.out))) : w.heap.size ≤ gb120)); have n6_ := Aside0.mk ((by rw [hg]; exact (below_size (by repeat (first | (with_reducible first | exact HB.out | apply below_alloc | apply pw_below_drewN | apply below_drew1) | exact HB.out))) : w.heap.size ≤ gb120)); clear HO_4; clear HO_6; clear HO_67; clear HB; have HO_4 := n0_; have HO_6 := n1_; have HO_67 := n2_; have HB := n3_; have BK120 := n4_; have GW120 := n5_; have GE120 := n6_; clear n0_ n1_ n2_ n3_ n4_ n5_ n6_; clear hb hbox hg; have hcz36_0 : w35.cell? ⟨gb120, 0, none⟩ = some (.int .i64 0) := (blk_cell BK120.out 0).trans rfl; have hcz36_1 : w35.cell? ⟨gb120, 1, none⟩ = some (.int .i64 0) := (blk_cell BK120.out 1).trans rfl; have hfz36_0 := blk_frozen BK120.out 0; have hfz36_1 := blk_frozen BK120.out 1) | (go_at_call 29; (with_reducible refine (merkhetref12_Gaps.calls _ _ l0 ((rd_T35 t116 x69_3).f0) ((rd_T35 t116 x69_3).f1) t121 t122 t123 _ ?side1 ?side2 A33.out).mono ?_); (case side1 => exact Kd.C_below HR0.out (by repeat (first | (with_reducible first | exact HB.out | apply below_alloc | apply pw_below_drewN | apply below_drew1 | refine below_set ?_ GE120.out) | exact HB.out))); (case side2 => exact HC0.out); rintro e w37 ⟨rfl, hb⟩; have n0_ := Aside0.mk (Kd.V_below (by (with_reducible repeat (first | apply Kd.V_alloc | apply Kd.V_drewN | apply Kd.V_drew)); exact (Kd.V_mono (Kd.V_far (p := ⟨gb120, 1, none⟩) (Kd.V_far (p := ⟨gb120, 0, none⟩) (Kd.V_mono HO_4.out (fun k_ hk => (⟨hk, hk.2⟩ : _ ∧ k_ ≠ gb120))) (fun _ hk => hk.2) (.int .i64 ((rd_T35 t116 x69_3).f0))) (fun _ hk => hk.2) (.int .i64 ((rd_T35 t116 x69_3).f1))) (fun _ h_ => h_.1))) hb); have n1_ := Aside0.mk (Kd.R_below (by (with_reducible repeat (first | apply Kd.R_alloc | apply Kd.R_drewN | apply Kd.R_drew)); exact (Kd.R_mono (Kd.R_far (p := ⟨gb120, 1, none⟩) (Kd.R_far (p := ⟨gb120, 0, none⟩) (Kd.R_types HO_6.out BK120.out (by decide)) (fun _ hk => hk.2) (.int .i64 ((rd_T35 t116 x69_3).f0))) (fun _ hk => hk.2) (.int .i64 ((rd_T35 t116 x69_3).f1))) (fun _ h_ => h_.1))) hb); have n2_ := Aside0.mk (Kd.R_below (by (with_reducible repeat (first | apply Kd.R_alloc | apply Kd.R_drewN | apply Kd.R_drew)); exact (Kd.R_mono (Kd.R_far (p := ⟨gb120, 1, none⟩) (Kd.R_far (p := ⟨gb120, 0, none⟩) (Kd.R_mono HO_67.out (fun k_ hk => (⟨hk, hk.2⟩ : _ ∧ k_ ≠ gb120))) (fun _ hk => hk.2) (.int .i64 ((rd_T35 t116 x69_3).f0))) (fun _ hk => hk.2) (.int .i64 ((rd_T35 t116 x69_3).f1))) (fun _ h_ => h_.1))) hb); have n3_ := Aside0.mk (blk_below (g := gb120) (o := .cells #[.int .i64 ((rd_T35 t116 x69_3).f0), .int .i64 ((rd_T35 t116 x69_3).f1)] 35 (0, 0)) (by (with_reducible repeat (first | refine blk_drewN ?_ _ | refine blk_drew ?_ | refine blk_alloc ?_ _)); refine blk_put (cs := #[.int .i64 ((rd_T35 t116 x69_3).f0), .int .i64 0]) ?_ 1 _ rfl; (with_reducible repeat (first | refine blk_drewN ?_ _ | refine blk_drew ?_ | refine blk_alloc ?_ _)); refine blk_put (cs := #[.int .i64 0, .int .i64 0]) ?_ 0 _ rfl; (with_reducible repeat (first | refine blk_drewN ?_ _ | refine blk_drew ?_ | refine blk_alloc ?_ _)); exact BK120.out) hb); have n4_ := Aside0.mk (below_step (by repeat (first | (with_reducible first | exact HB.out | apply below_alloc | apply pw_below_drewN | apply below_drew1 | refine below_set ?_ GE120.out) | exact HB.out)) hb); clear HO_4; clear HO_6; clear HO_67; clear BK120; clear HB; have HO_4 := n0_; have HO_6 := n1_; have HO_67 := n2_; have BK120 := n3_; have HB := n4_; clear n0_ n1_ n2_ n3_ n4_; (try clear hb); (try clear hb2); (try clear hk); (try clear hi))))
                            (try simp only [Act.put, List.setIfInBounds_toArray, List.set_cons_zero, List.set_cons_succ])
                            go_cut [10] (fun v10 wc => ∃ (kq : Nat) (x10_33 : Bool), v10 = .bool x10_33 ∧ Aside0 (merkhetlaw18_ShiftRight.j3 kq l0 t106 t111 x10_33 t116 (t116.length : Int) x69_3 ((rd_T35 t116 x69_3).f0) ((rd_T35 t116 x69_3).f1) = some r) ∧ Aside0 (kq ≤ k3) ∧ Aside0 (Kd.V (Kd.int .i64) 2 wc w.heap.size (fun k_ => some k_ ≠ ((.slice Ao21 t111.length co21) : Value).ownBlock ∧ some k_ ≠ ((.slice (some ad119) t116.length co29) : Value).ownBlock ∧ k_ ≠ gb120) (.slice Ao16 t106.length co16) t106) ∧ Aside0 (Kd.R (Kd.int .i64) 2 wc w.heap.size (fun _ => True) (.slice Ao21 t111.length co21) t111) ∧ Aside0 (Kd.R k35 35 wc w.heap.size (fun k_ => k_ ≠ gb120) (.slice (some ad119) t116.length co29) t116) ∧ Aside0 (wc.heap[gb120]? = some (.cells #[.int .i64 ((rd_T35 t116 x69_3).f0), .int .i64 ((rd_T35 t116 x69_3).f1)] 35 (0, 0))) ∧ Aside0 (Below w.heap.size w wc))
                            case first =>
                              have H := HC34.out
                              clear HC34
                              by_cases c38 : x10_3 = true
                              · subst c38
                                have H1 : (if t121 ≥ 0 then (merkhetlaw18_ShiftRight.j3 k3 l0 t106 t111 (decide (t122 ≥ 0)) t116 (t116.length : Int) x69_3 ((rd_T35 t116 x69_3).f0) ((rd_T35 t116 x69_3).f1)) else (merkhetlaw18_ShiftRight.j3 k3 l0 t106 t111 false t116 (t116.length : Int) x69_3 ((rd_T35 t116 x69_3).f0) ((rd_T35 t116 x69_3).f1))) = some r := by rw [if_pos rfl] at H; exact H
                                clear H
                                have H := H1
                                clear H1
                                by_cases c39 : t121 ≥ 0
                                · rw [if_pos c39] at H
                                  have c39b0 : decide (0 ≤ t121) = true := decide_eq_true c39
                                  clear c39
                                  (first | rw [c39b0] | (simp only [i64_w, i32_w]; rw [c39b0]) | skip)
                                  have H' := Aside0.mk H
                                  clear H
                                  go_wp2
                                  repeat (go_quiet (fail); try go_wp2)
                                  go_meet
                                  case rel => exact ⟨_, (decide (t122 ≥ 0)), (by first | rfl | (simp; done) | (simp [*]; done)), H', ⟨by have := HJ10.out; have := HK2.out; have := HK3.out; first | omega | exact Nat.le_refl _⟩, ⟨by (with_reducible repeat (first | apply Kd.V_alloc | apply Kd.V_drewN | apply Kd.V_drew)); exact Kd.V_mono HO_4.out (fun _ hk => ⟨hk.1.1, ⟨hk.1.2, hk.2⟩⟩)⟩, ⟨by (with_reducible repeat (first | apply Kd.R_alloc | apply Kd.R_drewN | apply Kd.R_drew)); exact HO_6.out⟩, ⟨by (with_reducible repeat (first | apply Kd.R_alloc | apply Kd.R_drewN | apply Kd.R_drew)); exact Kd.R_mono HO_67.out (fun _ hk => hk.2)⟩, ⟨by (with_reducible repeat (first | refine blk_drewN ?_ _ | refine blk_drew ?_ | refine blk_alloc ?_ _)); exact BK120.out⟩, ⟨by repeat (first | (with_reducible first | exact HB.out | apply below_alloc | apply pw_below_drewN | apply below_drew1 | refine below_set ?_ GE120.out) | exact HB.out)⟩⟩
                                · rw [if_neg c39] at H
                                  have c39b0 : decide (0 ≤ t121) = false := decide_eq_false c39
                                  clear c39
                                  (first | rw [c39b0] | (simp only [i64_w, i32_w]; rw [c39b0]) | skip)
                                  have H' := Aside0.mk H
                                  clear H
                                  go_wp2
                                  repeat (go_quiet (fail); try go_wp2)
                                  go_meet
                                  case rel => exact ⟨_, (false), (by first | rfl | (simp; done) | (simp [*]; done)), H', ⟨by have := HJ10.out; have := HK2.out; have := HK3.out; first | omega | exact Nat.le_refl _⟩, ⟨by (with_reducible repeat (first | apply Kd.V_alloc | apply Kd.V_drewN | apply Kd.V_drew)); exact Kd.V_mono HO_4.out (fun _ hk => ⟨hk.1.1, ⟨hk.1.2, hk.2⟩⟩)⟩, ⟨by (with_reducible repeat (first | apply Kd.R_alloc | apply Kd.R_drewN | apply Kd.R_drew)); exact HO_6.out⟩, ⟨by (with_reducible repeat (first | apply Kd.R_alloc | apply Kd.R_drewN | apply Kd.R_drew)); exact Kd.R_mono HO_67.out (fun _ hk => hk.2)⟩, ⟨by (with_reducible repeat (first | refine blk_drewN ?_ _ | refine blk_drew ?_ | refine blk_alloc ?_ _)); exact BK120.out⟩, ⟨by repeat (first | (with_reducible first | exact HB.out | apply below_alloc | apply pw_below_drewN | apply below_drew1 | refine below_set ?_ GE120.out) | exact HB.out)⟩⟩
                              · replace c38 := Bool.eq_false_iff.mpr c38
                                subst c38
                                have H1 : (merkhetlaw18_ShiftRight.j3 k3 l0 t106 t111 false t116 (t116.length : Int) x69_3 ((rd_T35 t116 x69_3).f0) ((rd_T35 t116 x69_3).f1)) = some r := by rw [if_neg (show ¬ (false = true) by decide)] at H; exact H
                                clear H
                                have H := H1
                                clear H1
                                have H' := Aside0.mk H
                                clear H
                                go_wp2
                                repeat (go_quiet (fail); try go_wp2)
                                go_meet
                                case rel => exact ⟨_, (false), (by first | rfl | (simp; done) | (simp [*]; done)), H', ⟨by have := HJ10.out; have := HK2.out; have := HK3.out; first | omega | exact Nat.le_refl _⟩, ⟨by (with_reducible repeat (first | apply Kd.V_alloc | apply Kd.V_drewN | apply Kd.V_drew)); exact Kd.V_mono HO_4.out (fun _ hk => ⟨hk.1.1, ⟨hk.1.2, hk.2⟩⟩)⟩, ⟨by (with_reducible repeat (first | apply Kd.R_alloc | apply Kd.R_drewN | apply Kd.R_drew)); exact HO_6.out⟩, ⟨by (with_reducible repeat (first | apply Kd.R_alloc | apply Kd.R_drewN | apply Kd.R_drew)); exact Kd.R_mono HO_67.out (fun _ hk => hk.2)⟩, ⟨by (with_reducible repeat (first | refine blk_drewN ?_ _ | refine blk_drew ?_ | refine blk_alloc ?_ _)); exact BK120.out⟩, ⟨by repeat (first | (with_reducible first | exact HB.out | apply below_alloc | apply pw_below_drewN | apply below_drew1 | refine below_set ?_ GE120.out) | exact HB.out)⟩⟩
                            case rest =>
                              clear HC34
                              (try clear c1); (try clear p1); (try clear q1); (try clear hx1); (try clear c2); (try clear p2); (try clear c3); (try clear p6); (try clear c9); (try clear p11); (try clear q11); (try clear hx11); (try clear c18); (try clear c20); (try clear c22); (try clear c22b0); (try clear c23); (try clear c23b0); (try clear c24); (try clear c24b0); (try clear c25); (try clear c25b0); (try clear c26); (try clear c26b0); (try clear c30); (try clear c30b0); (try clear c31); (try clear c31b0); (try clear c32); (try clear c32b0); (try clear c38); (try clear c39); (try clear c39b0); (try clear hcz36_0); (try clear hcz36_1); (try clear hfz36_0); (try clear hfz36_1); (try clear hx115_0); (try clear hx119_0); (try clear hx119_1); (try clear p1); (try clear p11); (try clear p115); (try clear p119); (try clear p2); (try clear p6); (try clear q1); (try clear q11); (try clear q115); (try clear q119)
                              obtain ⟨kq, x10_33, rfl, HA, HJ33, HO_4, HO_6, HO_67, BK120, HB⟩ := hcut
                              cases kq with
                              | zero => exact absurd HA.out (by simp [merkhetlaw18_ShiftRight.j3])
                              | succ kj33 =>
                                have H := HA.out
                                clear HA
                                simp only [merkhetlaw18_ShiftRight.j3] at H
                                by_cases c40 : 0 ≤ ((rd_T35 t116 x69_3).f1)
                                · rw [if_pos c40] at H
                                  have c40b0 : decide (0 ≤ ((rd_T35 t116 x69_3).f1)) = true := decide_eq_true c40
                                  clear c40
                                  by_cases c41 : ((rd_T35 t116 x69_3).f1) < (t111.length : Int)
                                  · rw [if_pos c41] at H
                                    have c41b0 : decide (((rd_T35 t116 x69_3).f1) < (t111.length : Int)) = true := decide_eq_true c41
                                    clear c41
                                    by_cases c42 : 0 ≤ ((rd_T35 t116 x69_3).f0)
                                    · rw [if_pos c42] at H
                                      have c42b0 : decide (0 ≤ ((rd_T35 t116 x69_3).f0)) = true := decide_eq_true c42
                                      clear c42
                                      by_cases c43 : ((rd_T35 t116 x69_3).f0) < (t111.length : Int)
                                      · rw [if_pos c43] at H
                                        have c43b0 : decide (((rd_T35 t116 x69_3).f0) < (t111.length : Int)) = true := decide_eq_true c43
                                        clear c43
                                        by_cases c44 : (rd t111 ((rd_T35 t116 x69_3).f1)) < (rd t111 ((rd_T35 t116 x69_3).f0))
                                        · rw [if_pos c44] at H
                                          have c44b0 : decide ((rd t111 ((rd_T35 t116 x69_3).f1)) < (rd t111 ((rd_T35 t116 x69_3).f0))) = true := decide_eq_true c44
                                          clear c44
                                          obtain rfl := Option.some.inj H
                                          have hcz45_0 : wc.cell? ⟨gb120, 0, none⟩ = some (.int .i64 ((rd_T35 t116 x69_3).f0)) := (blk_cell BK120.out 0).trans rfl
                                          have hcz45_1 : wc.cell? ⟨gb120, 1, none⟩ = some (.int .i64 ((rd_T35 t116 x69_3).f1)) := (blk_cell BK120.out 1).trans rfl
                                          have hfz45_0 := blk_frozen BK120.out 0
                                          have hfz45_1 := blk_frozen BK120.out 1
                                          have p124 : 0 ≤ (((rd_T35 t116 x69_3).f1) : Int) := of_decide_eq_true (by first | (with_reducible assumption) | assumption)
                                          have q124 : ((rd_T35 t116 x69_3).f1) < (t111.length : Int) := of_decide_eq_true (by first | (with_reducible assumption) | assumption)
                                          obtain ⟨ad124, e124, hx124_0⟩ := Kd.at_int (Kd.R_reads' HO_6.out).2.2 ((rd_T35 t116 x69_3).f1) p124 q124
                                          cases e124
                                          replace p124 := eq_true p124
                                          replace q124 := eq_true q124
                                          have p125 : 0 ≤ (((rd_T35 t116 x69_3).f0) : Int) := of_decide_eq_true (by first | (with_reducible assumption) | assumption)
                                          have q125 : ((rd_T35 t116 x69_3).f0) < (t111.length : Int) := of_decide_eq_true (by first | (with_reducible assumption) | assumption)
                                          obtain ⟨ad125, e125, hx125_0⟩ := Kd.at_int (Kd.R_reads' HO_6.out).2.2 ((rd_T35 t116 x69_3).f0) p125 q125
                                          obtain rfl : ad124 = ad125 := (by injection e125)
                                          replace p125 := eq_true p125
                                          replace q125 := eq_true q125
                                          go_wp2
                                          repeat (go_quiet (fail); try go_wp2)
                                          go_ret
                                          exact ⟨by first | rfl | (simp [errW_none, errW_some] <;> rfl) | (simp [*, errW_none, errW_some] <;> rfl), by repeat (first | (with_reducible first | exact HB.out | apply below_alloc | apply pw_below_drewN | apply below_drew1 | refine below_set ?_ GE120.out) | exact HB.out)⟩
                                        · rw [if_neg c44] at H
                                          have c44b0 : decide ((rd t111 ((rd_T35 t116 x69_3).f1)) < (rd t111 ((rd_T35 t116 x69_3).f0))) = false := decide_eq_false c44
                                          clear c44
                                          by_cases c46 : ((rd_T35 t116 x69_3).f1) < (l0.length : Int)
                                          · rw [if_pos c46] at H
                                            have c46b0 : decide (((rd_T35 t116 x69_3).f1) < (l0.length : Int)) = true := decide_eq_true c46
                                            clear c46
                                            by_cases c47 : ((rd_T35 t116 x69_3).f0) < (l0.length : Int)
                                            · rw [if_pos c47] at H
                                              have c47b0 : decide (((rd_T35 t116 x69_3).f0) < (l0.length : Int)) = true := decide_eq_true c47
                                              clear c47
                                              by_cases c48 : (wrap64 ((rd t111 ((rd_T35 t116 x69_3).f1)) + ((rd_T42 l0 ((rd_T35 t116 x69_3).f1)).f7))) > (wrap64 ((rd t111 ((rd_T35 t116 x69_3).f0)) + ((rd_T42 l0 ((rd_T35 t116 x69_3).f0)).f7)))
                                              · rw [if_pos c48] at H
                                                have c48b0 : decide ((wrap64 ((rd t111 ((rd_T35 t116 x69_3).f0)) + ((rd_T42 l0 ((rd_T35 t116 x69_3).f0)).f7))) < (wrap64 ((rd t111 ((rd_T35 t116 x69_3).f1)) + ((rd_T42 l0 ((rd_T35 t116 x69_3).f1)).f7)))) = true := decide_eq_true c48
                                                clear c48
                                                obtain rfl := Option.some.inj H
                                                have hcz49_0 : wc.cell? ⟨gb120, 0, none⟩ = some (.int .i64 ((rd_T35 t116 x69_3).f0)) := (blk_cell BK120.out 0).trans rfl
                                                have hcz49_1 : wc.cell? ⟨gb120, 1, none⟩ = some (.int .i64 ((rd_T35 t116 x69_3).f1)) := (blk_cell BK120.out 1).trans rfl
                                                have hfz49_0 := blk_frozen BK120.out 0
                                                have hfz49_1 := blk_frozen BK120.out 1
                                                have p124 : 0 ≤ (((rd_T35 t116 x69_3).f1) : Int) := of_decide_eq_true (by first | (with_reducible assumption) | assumption)
                                                have q124 : ((rd_T35 t116 x69_3).f1) < (t111.length : Int) := of_decide_eq_true (by first | (with_reducible assumption) | assumption)
                                                obtain ⟨ad124, e124, hx124_0⟩ := Kd.at_int (Kd.R_reads' HO_6.out).2.2 ((rd_T35 t116 x69_3).f1) p124 q124
                                                cases e124
                                                replace p124 := eq_true p124
                                                replace q124 := eq_true q124
                                                have p125 : 0 ≤ (((rd_T35 t116 x69_3).f0) : Int) := of_decide_eq_true (by first | (with_reducible assumption) | assumption)
                                                have q125 : ((rd_T35 t116 x69_3).f0) < (t111.length : Int) := of_decide_eq_true (by first | (with_reducible assumption) | assumption)
                                                obtain ⟨ad125, e125, hx125_0⟩ := Kd.at_int (Kd.R_reads' HO_6.out).2.2 ((rd_T35 t116 x69_3).f0) p125 q125
                                                obtain rfl : ad124 = ad125 := (by injection e125)
                                                replace p125 := eq_true p125
                                                replace q125 := eq_true q125
                                                have p126 : 0 ≤ (((rd_T35 t116 x69_3).f1) : Int) := of_decide_eq_true (by first | (with_reducible assumption) | assumption)
                                                have q126 : ((rd_T35 t116 x69_3).f1) < (t111.length : Int) := of_decide_eq_true (by first | (with_reducible assumption) | assumption)
                                                obtain ⟨ad126, e126, hx126_0⟩ := Kd.at_int (Kd.R_reads' HO_6.out).2.2 ((rd_T35 t116 x69_3).f1) p126 q126
                                                obtain rfl : ad124 = ad126 := (by injection e126)
                                                replace p126 := eq_true p126
                                                replace q126 := eq_true q126
                                                have p127 : 0 ≤ (((rd_T35 t116 x69_3).f1) : Int) := of_decide_eq_true (by first | (with_reducible assumption) | assumption)
                                                have q127 : ((rd_T35 t116 x69_3).f1) < (l0.length : Int) := of_decide_eq_true (by first | (with_reducible assumption) | assumption)
                                                obtain ⟨ad127, e127, hx127_0, hx127_1, hx127_2, hx127_3, hx127_4, hx127_5, hx127_6, hx127_7⟩ := at_T42 HR0.out ((rd_T35 t116 x69_3).f1) p127 q127
                                                cases e127
                                                replace hx127_0 := (HB.out.cell (World.block_lt_of_cell? w _ hx127_0)).trans hx127_0
                                                replace hx127_1 := (HB.out.cell (World.block_lt_of_cell? w _ hx127_1)).trans hx127_1
                                                replace hx127_2 := (HB.out.cell (World.block_lt_of_cell? w _ hx127_2)).trans hx127_2
                                                replace hx127_3 := (HB.out.cell (World.block_lt_of_cell? w _ hx127_3)).trans hx127_3
                                                replace hx127_4 := (HB.out.cell (World.block_lt_of_cell? w _ hx127_4)).trans hx127_4
                                                replace hx127_5 := (HB.out.cell (World.block_lt_of_cell? w _ hx127_5)).trans hx127_5
                                                replace hx127_6 := (HB.out.cell (World.block_lt_of_cell? w _ hx127_6)).trans hx127_6
                                                replace hx127_7 := (HB.out.cell (World.block_lt_of_cell? w _ hx127_7)).trans hx127_7
                                                replace p127 := eq_true p127
                                                replace q127 := eq_true q127
                                                have p128 : 0 ≤ (((rd_T35 t116 x69_3).f0) : Int) := of_decide_eq_true (by first | (with_reducible assumption) | assumption)
                                                have q128 : ((rd_T35 t116 x69_3).f0) < (t111.length : Int) := of_decide_eq_true (by first | (with_reducible assumption) | assumption)
                                                obtain ⟨ad128, e128, hx128_0⟩ := Kd.at_int (Kd.R_reads' HO_6.out).2.2 ((rd_T35 t116 x69_3).f0) p128 q128
                                                obtain rfl : ad124 = ad128 := (by injection e128)
                                                replace p128 := eq_true p128
                                                replace q128 := eq_true q128
                                                have p129 : 0 ≤ (((rd_T35 t116 x69_3).f0) : Int) := of_decide_eq_true (by first | (with_reducible assumption) | assumption)
                                                have q129 : ((rd_T35 t116 x69_3).f0) < (l0.length : Int) := of_decide_eq_true (by first | (with_reducible assumption) | assumption)
                                                obtain ⟨ad129, e129, hx129_0, hx129_1, hx129_2, hx129_3, hx129_4, hx129_5, hx129_6, hx129_7⟩ := at_T42 HR0.out ((rd_T35 t116 x69_3).f0) p129 q129
                                                obtain rfl : ad127 = ad129 := (by injection e129)
                                                replace hx129_0 := (HB.out.cell (World.block_lt_of_cell? w _ hx129_0)).trans hx129_0
                                                replace hx129_1 := (HB.out.cell (World.block_lt_of_cell? w _ hx129_1)).trans hx129_1
                                                replace hx129_2 := (HB.out.cell (World.block_lt_of_cell? w _ hx129_2)).trans hx129_2
                                                replace hx129_3 := (HB.out.cell (World.block_lt_of_cell? w _ hx129_3)).trans hx129_3
                                                replace hx129_4 := (HB.out.cell (World.block_lt_of_cell? w _ hx129_4)).trans hx129_4
                                                replace hx129_5 := (HB.out.cell (World.block_lt_of_cell? w _ hx129_5)).trans hx129_5
                                                replace hx129_6 := (HB.out.cell (World.block_lt_of_cell? w _ hx129_6)).trans hx129_6
                                                replace hx129_7 := (HB.out.cell (World.block_lt_of_cell? w _ hx129_7)).trans hx129_7
                                                replace p129 := eq_true p129
                                                replace q129 := eq_true q129
                                                go_wp2
                                                repeat (go_quiet (fail); try go_wp2)
                                                go_ret
                                                exact ⟨by first | rfl | (simp [errW_none, errW_some] <;> rfl) | (simp [*, errW_none, errW_some] <;> rfl), by repeat (first | (with_reducible first | exact HB.out | apply below_alloc | apply pw_below_drewN | apply below_drew1 | refine below_set ?_ GE120.out) | exact HB.out)⟩
                                              · rw [if_neg c48] at H
                                                have c48b0 : decide ((wrap64 ((rd t111 ((rd_T35 t116 x69_3).f0)) + ((rd_T42 l0 ((rd_T35 t116 x69_3).f0)).f7))) < (wrap64 ((rd t111 ((rd_T35 t116 x69_3).f1)) + ((rd_T42 l0 ((rd_T35 t116 x69_3).f1)).f7)))) = false := decide_eq_false c48
                                                clear c48
                                                have H' := Aside0.mk H
                                                clear H
                                                have hcz50_0 : wc.cell? ⟨gb120, 0, none⟩ = some (.int .i64 ((rd_T35 t116 x69_3).f0)) := (blk_cell BK120.out 0).trans rfl
                                                have hcz50_1 : wc.cell? ⟨gb120, 1, none⟩ = some (.int .i64 ((rd_T35 t116 x69_3).f1)) := (blk_cell BK120.out 1).trans rfl
                                                have hfz50_0 := blk_frozen BK120.out 0
                                                have hfz50_1 := blk_frozen BK120.out 1
                                                have p124 : 0 ≤ (((rd_T35 t116 x69_3).f1) : Int) := of_decide_eq_true (by first | (with_reducible assumption) | assumption)
                                                have q124 : ((rd_T35 t116 x69_3).f1) < (t111.length : Int) := of_decide_eq_true (by first | (with_reducible assumption) | assumption)
                                                obtain ⟨ad124, e124, hx124_0⟩ := Kd.at_int (Kd.R_reads' HO_6.out).2.2 ((rd_T35 t116 x69_3).f1) p124 q124
                                                cases e124
                                                replace p124 := eq_true p124
                                                replace q124 := eq_true q124
                                                have p125 : 0 ≤ (((rd_T35 t116 x69_3).f0) : Int) := of_decide_eq_true (by first | (with_reducible assumption) | assumption)
                                                have q125 : ((rd_T35 t116 x69_3).f0) < (t111.length : Int) := of_decide_eq_true (by first | (with_reducible assumption) | assumption)
                                                obtain ⟨ad125, e125, hx125_0⟩ := Kd.at_int (Kd.R_reads' HO_6.out).2.2 ((rd_T35 t116 x69_3).f0) p125 q125
                                                obtain rfl : ad124 = ad125 := (by injection e125)
                                                replace p125 := eq_true p125
                                                replace q125 := eq_true q125
                                                have p126 : 0 ≤ (((rd_T35 t116 x69_3).f1) : Int) := of_decide_eq_true (by first | (with_reducible assumption) | assumption)
                                                have q126 : ((rd_T35 t116 x69_3).f1) < (t111.length : Int) := of_decide_eq_true (by first | (with_reducible assumption) | assumption)
                                                obtain ⟨ad126, e126, hx126_0⟩ := Kd.at_int (Kd.R_reads' HO_6.out).2.2 ((rd_T35 t116 x69_3).f1) p126 q126
                                                obtain rfl : ad124 = ad126 := (by injection e126)
                                                replace p126 := eq_true p126
                                                replace q126 := eq_true q126
                                                have p127 : 0 ≤ (((rd_T35 t116 x69_3).f1) : Int) := of_decide_eq_true (by first | (with_reducible assumption) | assumption)
                                                have q127 : ((rd_T35 t116 x69_3).f1) < (l0.length : Int) := of_decide_eq_true (by first | (with_reducible assumption) | assumption)
                                                obtain ⟨ad127, e127, hx127_0, hx127_1, hx127_2, hx127_3, hx127_4, hx127_5, hx127_6, hx127_7⟩ := at_T42 HR0.out ((rd_T35 t116 x69_3).f1) p127 q127
                                                cases e127
                                                replace hx127_0 := (HB.out.cell (World.block_lt_of_cell? w _ hx127_0)).trans hx127_0
                                                replace hx127_1 := (HB.out.cell (World.block_lt_of_cell? w _ hx127_1)).trans hx127_1
                                                replace hx127_2 := (HB.out.cell (World.block_lt_of_cell? w _ hx127_2)).trans hx127_2
                                                replace hx127_3 := (HB.out.cell (World.block_lt_of_cell? w _ hx127_3)).trans hx127_3
                                                replace hx127_4 := (HB.out.cell (World.block_lt_of_cell? w _ hx127_4)).trans hx127_4
                                                replace hx127_5 := (HB.out.cell (World.block_lt_of_cell? w _ hx127_5)).trans hx127_5
                                                replace hx127_6 := (HB.out.cell (World.block_lt_of_cell? w _ hx127_6)).trans hx127_6
                                                replace hx127_7 := (HB.out.cell (World.block_lt_of_cell? w _ hx127_7)).trans hx127_7
                                                replace p127 := eq_true p127
                                                replace q127 := eq_true q127
                                                have p128 : 0 ≤ (((rd_T35 t116 x69_3).f0) : Int) := of_decide_eq_true (by first | (with_reducible assumption) | assumption)
                                                have q128 : ((rd_T35 t116 x69_3).f0) < (t111.length : Int) := of_decide_eq_true (by first | (with_reducible assumption) | assumption)
                                                obtain ⟨ad128, e128, hx128_0⟩ := Kd.at_int (Kd.R_reads' HO_6.out).2.2 ((rd_T35 t116 x69_3).f0) p128 q128
                                                obtain rfl : ad124 = ad128 := (by injection e128)
                                                replace p128 := eq_true p128
                                                replace q128 := eq_true q128
                                                have p129 : 0 ≤ (((rd_T35 t116 x69_3).f0) : Int) := of_decide_eq_true (by first | (with_reducible assumption) | assumption)
                                                have q129 : ((rd_T35 t116 x69_3).f0) < (l0.length : Int) := of_decide_eq_true (by first | (with_reducible assumption) | assumption)
                                                obtain ⟨ad129, e129, hx129_0, hx129_1, hx129_2, hx129_3, hx129_4, hx129_5, hx129_6, hx129_7⟩ := at_T42 HR0.out ((rd_T35 t116 x69_3).f0) p129 q129
                                                obtain rfl : ad127 = ad129 := (by injection e129)
                                                replace hx129_0 := (HB.out.cell (World.block_lt_of_cell? w _ hx129_0)).trans hx129_0
                                                replace hx129_1 := (HB.out.cell (World.block_lt_of_cell? w _ hx129_1)).trans hx129_1
                                                replace hx129_2 := (HB.out.cell (World.block_lt_of_cell? w _ hx129_2)).trans hx129_2
                                                replace hx129_3 := (HB.out.cell (World.block_lt_of_cell? w _ hx129_3)).trans hx129_3
                                                replace hx129_4 := (HB.out.cell (World.block_lt_of_cell? w _ hx129_4)).trans hx129_4
                                                replace hx129_5 := (HB.out.cell (World.block_lt_of_cell? w _ hx129_5)).trans hx129_5
                                                replace hx129_6 := (HB.out.cell (World.block_lt_of_cell? w _ hx129_6)).trans hx129_6
                                                replace hx129_7 := (HB.out.cell (World.block_lt_of_cell? w _ hx129_7)).trans hx129_7
                                                replace p129 := eq_true p129
                                                replace q129 := eq_true q129
                                                go_wp2
                                                repeat (go_quiet (fail); try go_wp2)
                                                go_roundg kj33
                                                case measure => have := HJ10.out; have := HK2.out; have := HK3.out; have := HJ33.out; omega
                                                case rel => exact ⟨(x10_33), (wrap64 (x69_3 + 1)), (by first | rfl | (simp; done) | (simp [*]; done)), (by first | rfl | (simp; done) | (simp [*]; done)), H', ⟨by have := HJ10.out; have := HK2.out; have := HK3.out; have := HJ33.out; omega⟩, ⟨by (with_reducible repeat (first | apply Kd.V_alloc | apply Kd.V_drewN | apply Kd.V_drew)); exact Kd.V_mono HO_4.out (fun _ hk => ⟨hk.1, hk.2.1⟩)⟩, ⟨by (with_reducible repeat (first | apply Kd.R_alloc | apply Kd.R_drewN | apply Kd.R_drew)); exact HO_6.out⟩, ⟨by (with_reducible repeat (first | apply Kd.R_alloc | apply Kd.R_drewN | apply Kd.R_drew)); exact Kd.R_mono HO_67.out (fun _ hk => trivial)⟩, ⟨by repeat (first | (with_reducible first | exact HB.out | apply below_alloc | apply pw_below_drewN | apply below_drew1 | refine below_set ?_ GE120.out) | exact HB.out)⟩⟩
                                            · rw [if_neg c47] at H
                                              exact absurd H (by simp)
                                          · rw [if_neg c46] at H
                                            exact absurd H (by simp)
                                      · rw [if_neg c43] at H
                                        exact absurd H (by simp)
                                    · rw [if_neg c42] at H
                                      exact absurd H (by simp)
                                  · rw [if_neg c41] at H
                                    exact absurd H (by simp)
                                · rw [if_neg c40] at H
                                  exact absurd H (by simp)
                          · rw [if_neg c32] at H
                            exact absurd H (by simp)
                        · rw [if_neg c31] at H
                          exact absurd H (by simp)
                      · rw [if_neg c30] at H
                        have c30b0 : decide (x69_3 < (t116.length : Int)) = false := decide_eq_false c30
                        clear c30
                        have H' := Aside0.mk H
                        clear H
                        go_wp2
                        repeat (go_quiet (fail); try go_wp2)
                        go_loopg [130] k3 (fun kq v130 w' => ∃ (x130_4 : Int), v130 = .int .i64 x130_4 ∧ Aside0 (merkhetlaw18_ShiftRight.l2 kq x10_3 t106 (t106.length : Int) x130_4 = some r) ∧ Aside0 (kq ≤ k3) ∧ Aside0 (Kd.V (Kd.int .i64) 2 w' w.heap.size (fun _ => True) (.slice Ao16 t106.length co16) t106) ∧ Aside0 (Below w.heap.size w w'))
                        case atStart => exact ⟨(0), (by first | rfl | (simp; done) | (simp [*]; done)), H', ⟨Nat.le_refl _⟩, ⟨by (with_reducible repeat (first | apply Kd.V_alloc | apply Kd.V_drewN | apply Kd.V_drew)); exact Kd.V_mono HO_4.out (fun _ hk => trivial)⟩, ⟨by repeat (first | (with_reducible first | exact HB.out | apply below_alloc | apply pw_below_drewN | apply below_drew1) | exact HB.out)⟩⟩
                        case round =>
                          clear H'
                          (try clear c1); (try clear p1); (try clear q1); (try clear hx1); (try clear c2); (try clear p2); (try clear c3); (try clear c4); (try clear p6); (try clear c9); (try clear p11); (try clear q11); (try clear hx11); (try clear p12); (try clear q12); (try clear hx12); (try clear c18); (try clear c20); (try clear c22); (try clear c22b0); (try clear c23); (try clear c23b0); (try clear c24); (try clear c24b0); (try clear c25); (try clear c25b0); (try clear c26); (try clear c26b0); (try clear c30); (try clear c30b0); (try clear c31); (try clear c31b0); (try clear c32); (try clear c32b0); (try clear c38); (try clear c39); (try clear c39b0); (try clear c40); (try clear c40b0); (try clear c41); (try clear c41b0); (try clear c42); (try clear c42b0); (try clear c43); (try clear c43b0); (try clear c44); (try clear c44b0); (try clear c46); (try clear c46b0); (try clear c47); (try clear c47b0); (try clear c48); (try clear c48b0); (try clear hcz36_0); (try clear hcz36_1); (try clear hcz45_0); (try clear hcz45_1); (try clear hcz49_0); (try clear hcz49_1); (try clear hcz50_0); (try clear hcz50_1); (try clear hfz36_0); (try clear hfz36_1); (try clear hfz45_0); (try clear hfz45_1); (try clear hfz49_0); (try clear hfz49_1); (try clear hfz50_0); (try clear hfz50_1); (try clear hx115_0); (try clear hx119_0); (try clear hx119_1); (try clear hx124_0); (try clear hx125_0); (try clear hx126_0); (try clear hx127_0); (try clear hx127_1); (try clear hx127_2); (try clear hx127_3); (try clear hx127_4); (try clear hx127_5); (try clear hx127_6); (try clear hx127_7); (try clear hx128_0); (try clear hx129_0); (try clear hx129_1); (try clear hx129_2); (try clear hx129_3); (try clear hx129_4); (try clear hx129_5); (try clear hx129_6); (try clear hx129_7); (try clear p1); (try clear p11); (try clear p115); (try clear p119); (try clear p124); (try clear p125); (try clear p126); (try clear p127); (try clear p128); (try clear p129); (try clear p2); (try clear p6); (try clear q1); (try clear q11); (try clear q115); (try clear q119); (try clear q124); (try clear q125); (try clear q126); (try clear q127); (try clear q128); (try clear q129)
                          obtain ⟨x130_4, rfl, HA, HK4, HO_128, HB⟩ := hrel
                          cases gk with
                          | zero => exact absurd HA.out (by simp [merkhetlaw18_ShiftRight.l2])
                          | succ k4 =>
                            have H := HA.out
                            clear HA
                            simp only [merkhetlaw18_ShiftRight.l2] at H
                            by_cases c51 : x130_4 < (t106.length : Int)
                            · rw [if_pos c51] at H
                              have c51b0 : decide (x130_4 < (t106.length : Int)) = true := decide_eq_true c51
                              clear c51
                              by_cases c52 : 0 ≤ x130_4
                              · rw [if_pos c52] at H
                                have c52b0 : decide (0 ≤ x130_4) = true := decide_eq_true c52
                                clear c52
                                by_cases c53 : x130_4 < (t106.length : Int)
                                · rw [if_pos c53] at H
                                  have c53b0 : decide (x130_4 < (t106.length : Int)) = true := decide_eq_true c53
                                  clear c53
                                  by_cases c54 : x10_3 = true
                                  · subst c54
                                    have H1 : (if (rd t106 x130_4) = 0 then (merkhetlaw18_ShiftRight.l2 k4 true t106 (t106.length : Int) (wrap64 (x130_4 + 1))) else (some false)) = some r := by rw [if_pos rfl] at H; exact H
                                    clear H
                                    have H := H1
                                    clear H1
                                    by_cases c55 : (rd t106 x130_4) = 0
                                    · rw [if_pos c55] at H
                                      have c55b0 : ((rd t106 x130_4) == 0) = true := beq_iff_eq.mpr c55
                                      have c55b1 : ((rd t106 x130_4) != 0) = false := bne_eq_false_iff_eq.mpr c55
                                      clear c55
                                      have H' := Aside0.mk H
                                      clear H
                                      have p131 : 0 ≤ (x130_4 : Int) := of_decide_eq_true (by first | (with_reducible assumption) | assumption)
                                      have q131 : x130_4 < (t106.length : Int) := of_decide_eq_true (by first | (with_reducible assumption) | assumption)
                                      obtain ⟨ad131, e131, hx131_0⟩ := Kd.at_int (Kd.V_reads' HO_128.out).2.2 x130_4 p131 q131
                                      cases e131
                                      replace p131 := eq_true p131
                                      replace q131 := eq_true q131
                                      go_wp2
                                      repeat (go_quiet (fail); try go_wp2)
                                      go_roundg k4
                                      case measure => have := HJ10.out; have := HK2.out; have := HK3.out; have := HK4.out; omega
                                      case rel => exact ⟨(wrap64 (x130_4 + 1)), (by first | rfl | (simp; done) | (simp [*]; done)), H', ⟨by have := HJ10.out; have := HK2.out; have := HK3.out; have := HK4.out; omega⟩, ⟨by (with_reducible repeat (first | apply Kd.V_alloc | apply Kd.V_drewN | apply Kd.V_drew)); exact HO_128.out⟩, ⟨by repeat (first | (with_reducible first | exact HB.out | apply below_alloc | apply pw_below_drewN | apply below_drew1) | exact HB.out)⟩⟩
                                    · rw [if_neg c55] at H
                                      have c55b0 : ((rd t106 x130_4) == 0) = false := beq_eq_false_iff_ne.mpr c55
                                      have c55b1 : ((rd t106 x130_4) != 0) = true := bne_iff_ne.mpr c55
                                      obtain rfl := Option.some.inj H
                                      have p131 : 0 ≤ (x130_4 : Int) := of_decide_eq_true (by first | (with_reducible assumption) | assumption)
                                      have q131 : x130_4 < (t106.length : Int) := of_decide_eq_true (by first | (with_reducible assumption) | assumption)
                                      obtain ⟨ad131, e131, hx131_0⟩ := Kd.at_int (Kd.V_reads' HO_128.out).2.2 x130_4 p131 q131
                                      cases e131
                                      replace p131 := eq_true p131
                                      replace q131 := eq_true q131
                                      go_wp2
                                      repeat (go_quiet (fail); try go_wp2)
                                      go_ret
                                      exact ⟨by first | rfl | (simp [errW_none, errW_some] <;> rfl) | (simp [*, errW_none, errW_some] <;> rfl), by repeat (first | (with_reducible first | exact HB.out | apply below_alloc | apply pw_below_drewN | apply below_drew1) | exact HB.out)⟩
                                  · replace c54 := Bool.eq_false_iff.mpr c54
                                    subst c54
                                    have H1 : (merkhetlaw18_ShiftRight.l2 k4 false t106 (t106.length : Int) (wrap64 (x130_4 + 1))) = some r := by rw [if_neg (show ¬ (false = true) by decide)] at H; exact H
                                    clear H
                                    have H := H1
                                    clear H1
                                    have H' := Aside0.mk H
                                    clear H
                                    have p131 : 0 ≤ (x130_4 : Int) := of_decide_eq_true (by first | (with_reducible assumption) | assumption)
                                    have q131 : x130_4 < (t106.length : Int) := of_decide_eq_true (by first | (with_reducible assumption) | assumption)
                                    obtain ⟨ad131, e131, hx131_0⟩ := Kd.at_int (Kd.V_reads' HO_128.out).2.2 x130_4 p131 q131
                                    cases e131
                                    replace p131 := eq_true p131
                                    replace q131 := eq_true q131
                                    go_wp2
                                    repeat (go_quiet (fail); try go_wp2)
                                    go_roundg k4
                                    case measure => have := HJ10.out; have := HK2.out; have := HK3.out; have := HK4.out; omega
                                    case rel => exact ⟨(wrap64 (x130_4 + 1)), (by first | rfl | (simp; done) | (simp [*]; done)), H', ⟨by have := HJ10.out; have := HK2.out; have := HK3.out; have := HK4.out; omega⟩, ⟨by (with_reducible repeat (first | apply Kd.V_alloc | apply Kd.V_drewN | apply Kd.V_drew)); exact HO_128.out⟩, ⟨by repeat (first | (with_reducible first | exact HB.out | apply below_alloc | apply pw_below_drewN | apply below_drew1) | exact HB.out)⟩⟩
                                · rw [if_neg c53] at H
                                  exact absurd H (by simp)
                              · rw [if_neg c52] at H
                                exact absurd H (by simp)
                            · rw [if_neg c51] at H
                              have c51b0 : decide (x130_4 < (t106.length : Int)) = false := decide_eq_false c51
                              clear c51
                              replace H := Option.bind_eq_some_iff.mp H
                              obtain ⟨t130, A560, H⟩ := H
                              replace H : (some t130) = some r := H
                              have A56 := Aside0.mk A560
                              clear A560
                              obtain rfl := Option.some.inj H
                              go_wp2_with (first | (go_at_call 23; (with_reducible refine (merkhetlaw18_fixed.calls k4  t130 _ A56.out).mono ?_); rintro e w57 ⟨rfl, hb⟩; have n0_ := Aside0.mk (Kd.V_below (by (with_reducible repeat (first | apply Kd.V_alloc | apply Kd.V_drewN | apply Kd.V_drew)); exact HO_128.out) hb); have n1_ := Aside0.mk (below_step (by repeat (first | (with_reducible first | exact HB.out | apply below_alloc | apply pw_below_drewN | apply below_drew1) | exact HB.out)) hb); clear HO_128; clear HB; have HO_128 := n0_; have HB := n1_; clear n0_ n1_; (try clear hb); (try clear hb2); (try clear hk); (try clear hi)))
                              repeat (go_quiet (first | (go_at_call 23; (with_reducible refine (merkhetlaw18_fixed.calls k4  t130 _ A56.out).mono ?_); rintro e w57 ⟨rfl, hb⟩; have n0_ := Aside0.mk (Kd.V_below (by (with_reducible repeat (first | apply Kd.V_alloc | apply Kd.V_drewN | apply Kd.V_drew)); exact HO_128.out) hb); have n1_ := Aside0.mk (below_step (by repeat (first | (with_reducible first | exact HB.out | apply below_alloc | apply pw_below_drewN | apply below_drew1) | exact HB.out)) hb); clear HO_128; clear HB; have HO_128 := n0_; have HB := n1_; clear n0_ n1_; (try clear hb); (try clear hb2); (try clear hk); (try clear hi))); try go_wp2_with (first | (go_at_call 23; (with_reducible refine (merkhetlaw18_fixed.calls k4  t130 _ A56.out).mono ?_); rintro e w57 ⟨rfl, hb⟩; have n0_ := Aside0.mk (Kd.V_below (by (with_reducible repeat (first | apply Kd.V_alloc | apply Kd.V_drewN | apply Kd.V_drew)); exact HO_128.out) hb); have n1_ := Aside0.mk (below_step (by repeat (first | (with_reducible first | exact HB.out | apply below_alloc | apply pw_below_drewN | apply below_drew1) | exact HB.out)) hb); clear HO_128; clear HB; have HO_128 := n0_; have HB := n1_; clear n0_ n1_; (try clear hb); (try clear hb2); (try clear hk); (try clear hi))))
                              go_ret
                              exact ⟨by first | rfl | (simp [errW_none, errW_some] <;> rfl) | (simp [*, errW_none, errW_some] <;> rfl), by repeat (first | (with_reducible first | exact HB.out | apply below_alloc | apply pw_below_drewN | apply below_drew1) | exact HB.out)⟩
    · replace c9 := Bool.eq_false_iff.mpr c9
      subst c9
      have H1 : ((merkhetlaw18_fixed.f k).bind fun t110 => (if t110 = true then (some ((t106.length : Int) == 0)) else (some false))) = some r := by rw [if_neg (show ¬ (false = true) by decide)] at H; exact H
      clear H
      have H := H1
      clear H1
      replace H := Option.bind_eq_some_iff.mp H
      obtain ⟨t110, A580, H⟩ := H
      replace H : (if t110 = true then (some ((t106.length : Int) == 0)) else (some false)) = some r := H
      have A58 := Aside0.mk A580
      clear A580
      by_cases c59 : t110 = true
      · subst c59
        have H1 : (some ((t106.length : Int) == 0)) = some r := by rw [if_pos rfl] at H; exact H
        clear H
        have H := H1
        clear H1
        obtain rfl := Option.some.inj H
        go_enter Try.func9, Try.ntmps9
        go_wp2_with (first | (go_at_call 11; (with_reducible refine (merkhetlaw04_Great.calls k _ _ l0 false _ ?side1 ?side2 A2.out).mono ?_); (case side1 => repeat (first | exact HR0.out | (with_reducible refine Kd.C_alloc ?_ _) | (with_reducible refine Kd.C_drewN ?_ _) | (with_reducible refine Kd.C_drew ?_))); (case side2 => exact HC0.out); rintro e w60 ⟨rfl, hb⟩; have n0_ := Aside0.mk (below_step (by repeat (first | (with_reducible first | exact HB.out | apply below_alloc | apply pw_below_drewN | apply below_drew1) | exact HB.out)) hb); clear HB; have HB := n0_; clear n0_; (try clear hb); (try clear hb2); (try clear hk); (try clear hi)) | (go_at_call 14; (with_reducible refine (merkhetref10_Of.calls k _ _ l0 t103 _ ?side1 ?side2 A7.out).mono ?_); (case side1 => repeat (first | exact (Kd.C_below HR0.out HB.out) | (with_reducible refine Kd.C_alloc ?_ _) | (with_reducible refine Kd.C_drewN ?_ _) | (with_reducible refine Kd.C_drew ?_))); (case side2 => exact HC0.out); rintro e w61 ⟨v104, rfl, ho0, hb⟩; have n0_ := Aside0.mk (Kd.R_lower ho0 (below_size (by repeat (first | (with_reducible first | exact HB.out | apply below_alloc | apply pw_below_drewN | apply below_drew1) | exact HB.out)))); have n1_ := Aside0.mk (below_step (by repeat (first | (with_reducible first | exact HB.out | apply below_alloc | apply pw_below_drewN | apply below_drew1) | exact HB.out)) hb); clear HB; have HO105 := n0_; have HB := n1_; clear n0_ n1_; (try clear hb); (try clear hb2); (try clear hk); (try clear hi); (try clear ho0); obtain ⟨Ao62, co62, eo62⟩ := Kd.R_slice HO105.out; subst eo62) | (go_at_call 27; (with_reducible refine (shift_Solved.calls k _ _ l0 _ _ t103 t106 false _ ?side1 ?side2 ?side3 ?side4 A8.out).mono ?_); (case side1 => repeat (first | exact (Kd.C_below HR0.out HB.out) | (with_reducible refine Kd.C_alloc ?_ _) | (with_reducible refine Kd.C_drewN ?_ _) | (with_reducible refine Kd.C_drew ?_))); (case side2 => exact HC0.out); (case side3 => repeat (first | exact (Kd.R_reads' HO105.out).2.2 | (with_reducible refine Kd.C_alloc ?_ _) | (with_reducible refine Kd.C_drewN ?_ _) | (with_reducible refine Kd.C_drew ?_))); (case side4 => exact (Kd.R_reads' HO105.out).2.1); rintro e w63 ⟨v107, rfl, ho0, hb⟩; have n0_ := Aside0.mk (Kd.R_below (by (with_reducible repeat (first | apply Kd.R_alloc | apply Kd.R_drewN | apply Kd.R_drew)); exact HO105.out) hb); have n1_ := Aside0.mk (Kd.V_lower (Kd.V_mono (ok' := fun k_ => some k_ ≠ (.slice Ao62 t103.length co62 : Value).ownBlock) ho0 (fun k_ hk_ => (Kd.fresh' (Kd.R_lt (by (with_reducible repeat (first | apply Kd.R_alloc | apply Kd.R_drewN | apply Kd.R_drew)); exact HO105.out)) k_ hk_))) (below_size (by repeat (first | (with_reducible first | exact HB.out | apply below_alloc | apply pw_below_drewN | apply below_drew1) | exact HB.out)))); have n2_ := Aside0.mk (below_step (by repeat (first | (with_reducible first | exact HB.out | apply below_alloc | apply pw_below_drewN | apply below_drew1) | exact HB.out)) hb); clear HO105; clear HB; have HO105 := n0_; have HO108 := n1_; have HB := n2_; clear n0_ n1_ n2_; (try clear hb); (try clear hb2); (try clear hk); (try clear hi); (try clear ho0)) | (go_at_call 23; (with_reducible refine (merkhetlaw18_fixed.calls k  true _ A58.out).mono ?_); rintro e w64 ⟨rfl, hb⟩; have n0_ := Aside0.mk (Kd.R_below (by (with_reducible repeat (first | apply Kd.R_alloc | apply Kd.R_drewN | apply Kd.R_drew)); exact HO105.out) hb); have n1_ := Aside0.mk (Kd.V_below (by (with_reducible repeat (first | apply Kd.V_alloc | apply Kd.V_drewN | apply Kd.V_drew)); exact HO108.out) hb); have n2_ := Aside0.mk (below_step (by repeat (first | (with_reducible first | exact HB.out | apply below_alloc | apply pw_below_drewN | apply below_drew1) | exact HB.out)) hb); clear HO105; clear HO108; clear HB; have HO105 := n0_; have HO108 := n1_; have HB := n2_; clear n0_ n1_ n2_; (try clear hb); (try clear hb2); (try clear hk); (try clear hi); obtain ⟨Ao65, co65, eo65⟩ := Kd.V_slice HO108.out; subst eo65))
        repeat (go_quiet (first | (go_at_call 11; (with_reducible refine (merkhetlaw04_Great.calls k _ _ l0 false _ ?side1 ?side2 A2.out).mono ?_); (case side1 => repeat (first | exact HR0.out | (with_reducible refine Kd.C_alloc ?_ _) | (with_reducible refine Kd.C_drewN ?_ _) | (with_reducible refine Kd.C_drew ?_))); (case side2 => exact HC0.out); rintro e w60 ⟨rfl, hb⟩; have n0_ := Aside0.mk (below_step (by repeat (first | (with_reducible first | exact HB.out | apply below_alloc | apply pw_below_drewN | apply below_drew1) | exact HB.out)) hb); clear HB; have HB := n0_; clear n0_; (try clear hb); (try clear hb2); (try clear hk); (try clear hi)) | (go_at_call 14; (with_reducible refine (merkhetref10_Of.calls k _ _ l0 t103 _ ?side1 ?side2 A7.out).mono ?_); (case side1 => repeat (first | exact (Kd.C_below HR0.out HB.out) | (with_reducible refine Kd.C_alloc ?_ _) | (with_reducible refine Kd.C_drewN ?_ _) | (with_reducible refine Kd.C_drew ?_))); (case side2 => exact HC0.out); rintro e w61 ⟨v104, rfl, ho0, hb⟩; have n0_ := Aside0.mk (Kd.R_lower ho0 (below_size (by repeat (first | (with_reducible first | exact HB.out | apply below_alloc | apply pw_below_drewN | apply below_drew1) | exact HB.out)))); have n1_ := Aside0.mk (below_step (by repeat (first | (with_reducible first | exact HB.out | apply below_alloc | apply pw_below_drewN | apply below_drew1) | exact HB.out)) hb); clear HB; have HO105 := n0_; have HB := n1_; clear n0_ n1_; (try clear hb); (try clear hb2); (try clear hk); (try clear hi); (try clear ho0); obtain ⟨Ao62, co62, eo62⟩ := Kd.R_slice HO105.out; subst eo62) | (go_at_call 27; (with_reducible refine (shift_Solved.calls k _ _ l0 _ _ t103 t106 false _ ?side1 ?side2 ?side3 ?side4 A8.out).mono ?_); (case side1 => repeat (first | exact (Kd.C_below HR0.out HB.out) | (with_reducible refine Kd.C_alloc ?_ _) | (with_reducible refine Kd.C_drewN ?_ _) | (with_reducible refine Kd.C_drew ?_))); (case side2 => exact HC0.out); (case side3 => repeat (first | exact (Kd.R_reads' HO105.out).2.2 | (with_reducible refine Kd.C_alloc ?_ _) | (with_reducible refine Kd.C_drewN ?_ _) | (with_reducible refine Kd.C_drew ?_))); (case side4 => exact (Kd.R_reads' HO105.out).2.1); rintro e w63 ⟨v107, rfl, ho0, hb⟩; have n0_ := Aside0.mk (Kd.R_below (by (with_reducible repeat (first | apply Kd.R_alloc | apply Kd.R_drewN | apply Kd.R_drew)); exact HO105.out) hb); have n1_ := Aside0.mk (Kd.V_lower (Kd.V_mono (ok' := fun k_ => some k_ ≠ (.slice Ao62 t103.length co62 : Value).ownBlock) ho0 (fun k_ hk_ => (Kd.fresh' (Kd.R_lt (by (with_reducible repeat (first | apply Kd.R_alloc | apply Kd.R_drewN | apply Kd.R_drew)); exact HO105.out)) k_ hk_))) (below_size (by repeat (first | (with_reducible first | exact HB.out | apply below_alloc | apply pw_below_drewN | apply below_drew1) | exact HB.out)))); have n2_ := Aside0.mk (below_step (by repeat (first | (with_reducible first | exact HB.out | apply below_alloc | apply pw_below_drewN | apply below_drew1) | exact HB.out)) hb); clear HO105; clear HB; have HO105 := n0_; have HO108 := n1_; have HB := n2_; clear n0_ n1_ n2_; (try clear hb); (try clear hb2); (try clear hk); (try clear hi); (try clear ho0)) | (go_at_call 23; (with_reducible refine (merkhetlaw18_fixed.calls k  true _ A58.out).mono ?_); rintro e w64 ⟨rfl, hb⟩; have n0_ := Aside0.mk (Kd.R_below (by (with_reducible repeat (first | apply Kd.R_alloc | apply Kd.R_drewN | apply Kd.R_drew)); exact HO105.out) hb); have n1_ := Aside0.mk (Kd.V_below (by (with_reducible repeat (first | apply Kd.V_alloc | apply Kd.V_drewN | apply Kd.V_drew)); exact HO108.out) hb); have n2_ := Aside0.mk (below_step (by repeat (first | (with_reducible first | exact HB.out | apply below_alloc | apply pw_below_drewN | apply below_drew1) | exact HB.out)) hb); clear HO105; clear HO108; clear HB; have HO105 := n0_; have HO108 := n1_; have HB := n2_; clear n0_ n1_ n2_; (try clear hb); (try clear hb2); (try clear hk); (try clear hi); obtain ⟨Ao65, co65, eo65⟩ := Kd.V_slice HO108.out; subst eo65)); try go_wp2_with (first | (go_at_call 11; (with_reducible refine (merkhetlaw04_Great.calls k _ _ l0 false _ ?side1 ?side2 A2.out).mono ?_); (case side1 => repeat (first | exact HR0.out | (with_reducible refine Kd.C_alloc ?_ _) | (with_reducible refine Kd.C_drewN ?_ _) | (with_reducible refine Kd.C_drew ?_))); (case side2 => exact HC0.out); rintro e w60 ⟨rfl, hb⟩; have n0_ := Aside0.mk (below_step (by repeat (first | (with_reducible first | exact HB.out | apply below_alloc | apply pw_below_drewN | apply below_drew1) | exact HB.out)) hb); clear HB; have HB := n0_; clear n0_; (try clear hb); (try clear hb2); (try clear hk); (try clear hi)) | (go_at_call 14; (with_reducible refine (merkhetref10_Of.calls k _ _ l0 t103 _ ?side1 ?side2 A7.out).mono ?_); (case side1 => repeat (first | exact (Kd.C_below HR0.out HB.out) | (with_reducible refine Kd.C_alloc ?_ _) | (with_reducible refine Kd.C_drewN ?_ _) | (with_reducible refine Kd.C_drew ?_))); (case side2 => exact HC0.out); rintro e w61 ⟨v104, rfl, ho0, hb⟩; have n0_ := Aside0.mk (Kd.R_lower ho0 (below_size (by repeat (first | (with_reducible first | exact HB.out | apply below_alloc | apply pw_below_drewN | apply below_drew1) | exact HB.out)))); have n1_ := Aside0.mk (below_step (by repeat (first | (with_reducible first | exact HB.out | apply below_alloc | apply pw_below_drewN | apply below_drew1) | exact HB.out)) hb); clear HB; have HO105 := n0_; have HB := n1_; clear n0_ n1_; (try clear hb); (try clear hb2); (try clear hk); (try clear hi); (try clear ho0); obtain ⟨Ao62, co62, eo62⟩ := Kd.R_slice HO105.out; subst eo62) | (go_at_call 27; (with_reducible refine (shift_Solved.calls k _ _ l0 _ _ t103 t106 false _ ?side1 ?side2 ?side3 ?side4 A8.out).mono ?_); (case side1 => repeat (first | exact (Kd.C_below HR0.out HB.out) | (with_reducible refine Kd.C_alloc ?_ _) | (with_reducible refine Kd.C_drewN ?_ _) | (with_reducible refine Kd.C_drew ?_))); (case side2 => exact HC0.out); (case side3 => repeat (first | exact (Kd.R_reads' HO105.out).2.2 | (with_reducible refine Kd.C_alloc ?_ _) | (with_reducible refine Kd.C_drewN ?_ _) | (with_reducible refine Kd.C_drew ?_))); (case side4 => exact (Kd.R_reads' HO105.out).2.1); rintro e w63 ⟨v107, rfl, ho0, hb⟩; have n0_ := Aside0.mk (Kd.R_below (by (with_reducible repeat (first | apply Kd.R_alloc | apply Kd.R_drewN | apply Kd.R_drew)); exact HO105.out) hb); have n1_ := Aside0.mk (Kd.V_lower (Kd.V_mono (ok' := fun k_ => some k_ ≠ (.slice Ao62 t103.length co62 : Value).ownBlock) ho0 (fun k_ hk_ => (Kd.fresh' (Kd.R_lt (by (with_reducible repeat (first | apply Kd.R_alloc | apply Kd.R_drewN | apply Kd.R_drew)); exact HO105.out)) k_ hk_))) (below_size (by repeat (first | (with_reducible first | exact HB.out | apply below_alloc | apply pw_below_drewN | apply below_drew1) | exact HB.out)))); have n2_ := Aside0.mk (below_step (by repeat (first | (with_reducible first | exact HB.out | apply below_alloc | apply pw_below_drewN | apply below_drew1) | exact HB.out)) hb); clear HO105; clear HB; have HO105 := n0_; have HO108 := n1_; have HB := n2_; clear n0_ n1_ n2_; (try clear hb); (try clear hb2); (try clear hk); (try clear hi); (try clear ho0)) | (go_at_call 23; (with_reducible refine (merkhetlaw18_fixed.calls k  true _ A58.out).mono ?_); rintro e w64 ⟨rfl, hb⟩; have n0_ := Aside0.mk (Kd.R_below (by (with_reducible repeat (first | apply Kd.R_alloc | apply Kd.R_drewN | apply Kd.R_drew)); exact HO105.out) hb); have n1_ := Aside0.mk (Kd.V_below (by (with_reducible repeat (first | apply Kd.V_alloc | apply Kd.V_drewN | apply Kd.V_drew)); exact HO108.out) hb); have n2_ := Aside0.mk (below_step (by repeat (first | (with_reducible first | exact HB.out | apply below_alloc | apply pw_below_drewN | apply below_drew1) | exact HB.out)) hb); clear HO105; clear HO108; clear HB; have HO105 := n0_; have HO108 := n1_; have HB := n2_; clear n0_ n1_ n2_; (try clear hb); (try clear hb2); (try clear hk); (try clear hi); obtain ⟨Ao65, co65, eo65⟩ := Kd.V_slice HO108.out; subst eo65)))
        go_ret
        exact ⟨by first | rfl | (simp [errW_none, errW_some] <;> rfl) | (simp [*, errW_none, errW_some] <;> rfl), by repeat (first | (with_reducible first | exact HB.out | apply below_alloc | apply pw_below_drewN | apply below_drew1) | exact HB.out)⟩
      · replace c59 := Bool.eq_false_iff.mpr c59
        subst c59
        have H1 : (some false) = some r := by rw [if_neg (show ¬ (false = true) by decide)] at H; exact H
        clear H
        have H := H1
        clear H1
        obtain rfl := Option.some.inj H
        go_enter Try.func9, Try.ntmps9
        go_wp2_with (first | (go_at_call 11; (with_reducible refine (merkhetlaw04_Great.calls k _ _ l0 false _ ?side1 ?side2 A2.out).mono ?_); (case side1 => repeat (first | exact HR0.out | (with_reducible refine Kd.C_alloc ?_ _) | (with_reducible refine Kd.C_drewN ?_ _) | (with_reducible refine Kd.C_drew ?_))); (case side2 => exact HC0.out); rintro e w66 ⟨rfl, hb⟩; have n0_ := Aside0.mk (below_step (by repeat (first | (with_reducible first | exact HB.out | apply below_alloc | apply pw_below_drewN | apply below_drew1) | exact HB.out)) hb); clear HB; have HB := n0_; clear n0_; (try clear hb); (try clear hb2); (try clear hk); (try clear hi)) | (go_at_call 14; (with_reducible refine (merkhetref10_Of.calls k _ _ l0 t103 _ ?side1 ?side2 A7.out).mono ?_); (case side1 => repeat (first | exact (Kd.C_below HR0.out HB.out) | (with_reducible refine Kd.C_alloc ?_ _) | (with_reducible refine Kd.C_drewN ?_ _) | (with_reducible refine Kd.C_drew ?_))); (case side2 => exact HC0.out); rintro e w67 ⟨v104, rfl, ho0, hb⟩; have n0_ := Aside0.mk (Kd.R_lower ho0 (below_size (by repeat (first | (with_reducible first | exact HB.out | apply below_alloc | apply pw_below_drewN | apply below_drew1) | exact HB.out)))); have n1_ := Aside0.mk (below_step (by repeat (first | (with_reducible first | exact HB.out | apply below_alloc | apply pw_below_drewN | apply below_drew1) | exact HB.out)) hb); clear HB; have HO105 := n0_; have HB := n1_; clear n0_ n1_; (try clear hb); (try clear hb2); (try clear hk); (try clear hi); (try clear ho0); obtain ⟨Ao68, co68, eo68⟩ := Kd.R_slice HO105.out; subst eo68) | (go_at_call 27; (with_reducible refine (shift_Solved.calls k _ _ l0 _ _ t103 t106 false _ ?side1 ?side2 ?side3 ?side4 A8.out).mono ?_); (case side1 => repeat (first | exact (Kd.C_below HR0.out HB.out) | (with_reducible refine Kd.C_alloc ?_ _) | (with_reducible refine Kd.C_drewN ?_ _) | (with_reducible refine Kd.C_drew ?_))); (case side2 => exact HC0.out); (case side3 => repeat (first | exact (Kd.R_reads' HO105.out).2.2 | (with_reducible refine Kd.C_alloc ?_ _) | (with_reducible refine Kd.C_drewN ?_ _) | (with_reducible refine Kd.C_drew ?_))); (case side4 => exact (Kd.R_reads' HO105.out).2.1); rintro e w69 ⟨v107, rfl, ho0, hb⟩; have n0_ := Aside0.mk (Kd.R_below (by (with_reducible repeat (first | apply Kd.R_alloc | apply Kd.R_drewN | apply Kd.R_drew)); exact HO105.out) hb); have n1_ := Aside0.mk (Kd.V_lower (Kd.V_mono (ok' := fun k_ => some k_ ≠ (.slice Ao68 t103.length co68 : Value).ownBlock) ho0 (fun k_ hk_ => (Kd.fresh' (Kd.R_lt (by (with_reducible repeat (first | apply Kd.R_alloc | apply Kd.R_drewN | apply Kd.R_drew)); exact HO105.out)) k_ hk_))) (below_size (by repeat (first | (with_reducible first | exact HB.out | apply below_alloc | apply pw_below_drewN | apply below_drew1) | exact HB.out)))); have n2_ := Aside0.mk (below_step (by repeat (first | (with_reducible first | exact HB.out | apply below_alloc | apply pw_below_drewN | apply below_drew1) | exact HB.out)) hb); clear HO105; clear HB; have HO105 := n0_; have HO108 := n1_; have HB := n2_; clear n0_ n1_ n2_; (try clear hb); (try clear hb2); (try clear hk); (try clear hi); (try clear ho0)) | (go_at_call 23; (with_reducible refine (merkhetlaw18_fixed.calls k  false _ A58.out).mono ?_); rintro e w70 ⟨rfl, hb⟩; have n0_ := Aside0.mk (Kd.R_below (by (with_reducible repeat (first | apply Kd.R_alloc | apply Kd.R_drewN | apply Kd.R_drew)); exact HO105.out) hb); have n1_ := Aside0.mk (Kd.V_below (by (with_reducible repeat (first | apply Kd.V_alloc | apply Kd.V_drewN | apply Kd.V_drew)); exact HO108.out) hb); have n2_ := Aside0.mk (below_step (by repeat (first | (with_reducible first | exact HB.out | apply below_alloc | apply pw_below_drewN | apply below_drew1) | exact HB.out)) hb); clear HO105; clear HO108; clear HB; have HO105 := n0_; have HO108 := n1_; have HB := n2_; clear n0_ n1_ n2_; (try clear hb); (try clear hb2); (try clear hk); (try clear hi)))
        repeat (go_quiet (first | (go_at_call 11; (with_reducible refine (merkhetlaw04_Great.calls k _ _ l0 false _ ?side1 ?side2 A2.out).mono ?_); (case side1 => repeat (first | exact HR0.out | (with_reducible refine Kd.C_alloc ?_ _) | (with_reducible refine Kd.C_drewN ?_ _) | (with_reducible refine Kd.C_drew ?_))); (case side2 => exact HC0.out); rintro e w66 ⟨rfl, hb⟩; have n0_ := Aside0.mk (below_step (by repeat (first | (with_reducible first | exact HB.out | apply below_alloc | apply pw_below_drewN | apply below_drew1) | exact HB.out)) hb); clear HB; have HB := n0_; clear n0_; (try clear hb); (try clear hb2); (try clear hk); (try clear hi)) | (go_at_call 14; (with_reducible refine (merkhetref10_Of.calls k _ _ l0 t103 _ ?side1 ?side2 A7.out).mono ?_); (case side1 => repeat (first | exact (Kd.C_below HR0.out HB.out) | (with_reducible refine Kd.C_alloc ?_ _) | (with_reducible refine Kd.C_drewN ?_ _) | (with_reducible refine Kd.C_drew ?_))); (case side2 => exact HC0.out); rintro e w67 ⟨v104, rfl, ho0, hb⟩; have n0_ := Aside0.mk (Kd.R_lower ho0 (below_size (by repeat (first | (with_reducible first | exact HB.out | apply below_alloc | apply pw_below_drewN | apply below_drew1) | exact HB.out)))); have n1_ := Aside0.mk (below_step (by repeat (first | (with_reducible first | exact HB.out | apply below_alloc | apply pw_below_drewN | apply below_drew1) | exact HB.out)) hb); clear HB; have HO105 := n0_; have HB := n1_; clear n0_ n1_; (try clear hb); (try clear hb2); (try clear hk); (try clear hi); (try clear ho0); obtain ⟨Ao68, co68, eo68⟩ := Kd.R_slice HO105.out; subst eo68) | (go_at_call 27; (with_reducible refine (shift_Solved.calls k _ _ l0 _ _ t103 t106 false _ ?side1 ?side2 ?side3 ?side4 A8.out).mono ?_); (case side1 => repeat (first | exact (Kd.C_below HR0.out HB.out) | (with_reducible refine Kd.C_alloc ?_ _) | (with_reducible refine Kd.C_drewN ?_ _) | (with_reducible refine Kd.C_drew ?_))); (case side2 => exact HC0.out); (case side3 => repeat (first | exact (Kd.R_reads' HO105.out).2.2 | (with_reducible refine Kd.C_alloc ?_ _) | (with_reducible refine Kd.C_drewN ?_ _) | (with_reducible refine Kd.C_drew ?_))); (case side4 => exact (Kd.R_reads' HO105.out).2.1); rintro e w69 ⟨v107, rfl, ho0, hb⟩; have n0_ := Aside0.mk (Kd.R_below (by (with_reducible repeat (first | apply Kd.R_alloc | apply Kd.R_drewN | apply Kd.R_drew)); exact HO105.out) hb); have n1_ := Aside0.mk (Kd.V_lower (Kd.V_mono (ok' := fun k_ => some k_ ≠ (.slice Ao68 t103.length co68 : Value).ownBlock) ho0 (fun k_ hk_ => (Kd.fresh' (Kd.R_lt (by (with_reducible repeat (first | apply Kd.R_alloc | apply Kd.R_drewN | apply Kd.R_drew)); exact HO105.out)) k_ hk_))) (below_size (by repeat (first | (with_reducible first | exact HB.out | apply below_alloc | apply pw_below_drewN | apply below_drew1) | exact HB.out)))); have n2_ := Aside0.mk (below_step (by repeat (first | (with_reducible first | exact HB.out | apply below_alloc | apply pw_below_drewN | apply below_drew1) | exact HB.out)) hb); clear HO105; clear HB; have HO105 := n0_; have HO108 := n1_; have HB := n2_; clear n0_ n1_ n2_; (try clear hb); (try clear hb2); (try clear hk); (try clear hi); (try clear ho0)) | (go_at_call 23; (with_reducible refine (merkhetlaw18_fixed.calls k  false _ A58.out).mono ?_); rintro e w70 ⟨rfl, hb⟩; have n0_ := Aside0.mk (Kd.R_below (by (with_reducible repeat (first | apply Kd.R_alloc | apply Kd.R_drewN | apply Kd.R_drew)); exact HO105.out) hb); have n1_ := Aside0.mk (Kd.V_below (by (with_reducible repeat (first | apply Kd.V_alloc | apply Kd.V_drewN | apply Kd.V_drew)); exact HO108.out) hb); have n2_ := Aside0.mk (below_step (by repeat (first | (with_reducible first | exact HB.out | apply below_alloc | apply pw_below_drewN | apply below_drew1) | exact HB.out)) hb); clear HO105; clear HO108; clear HB; have HO105 := n0_; have HO108 := n1_; have HB := n2_; clear n0_ n1_ n2_; (try clear hb); (try clear hb2); (try clear hk); (try clear hi))); try go_wp2_with (first | (go_at_call 11; (with_reducible refine (merkhetlaw04_Great.calls k _ _ l0 false _ ?side1 ?side2 A2.out).mono ?_); (case side1 => repeat (first | exact HR0.out | (with_reducible refine Kd.C_alloc ?_ _) | (with_reducible refine Kd.C_drewN ?_ _) | (with_reducible refine Kd.C_drew ?_))); (case side2 => exact HC0.out); rintro e w66 ⟨rfl, hb⟩; have n0_ := Aside0.mk (below_step (by repeat (first | (with_reducible first | exact HB.out | apply below_alloc | apply pw_below_drewN | apply below_drew1) | exact HB.out)) hb); clear HB; have HB := n0_; clear n0_; (try clear hb); (try clear hb2); (try clear hk); (try clear hi)) | (go_at_call 14; (with_reducible refine (merkhetref10_Of.calls k _ _ l0 t103 _ ?side1 ?side2 A7.out).mono ?_); (case side1 => repeat (first | exact (Kd.C_below HR0.out HB.out) | (with_reducible refine Kd.C_alloc ?_ _) | (with_reducible refine Kd.C_drewN ?_ _) | (with_reducible refine Kd.C_drew ?_))); (case side2 => exact HC0.out); rintro e w67 ⟨v104, rfl, ho0, hb⟩; have n0_ := Aside0.mk (Kd.R_lower ho0 (below_size (by repeat (first | (with_reducible first | exact HB.out | apply below_alloc | apply pw_below_drewN | apply below_drew1) | exact HB.out)))); have n1_ := Aside0.mk (below_step (by repeat (first | (with_reducible first | exact HB.out | apply below_alloc | apply pw_below_drewN | apply below_drew1) | exact HB.out)) hb); clear HB; have HO105 := n0_; have HB := n1_; clear n0_ n1_; (try clear hb); (try clear hb2); (try clear hk); (try clear hi); (try clear ho0); obtain ⟨Ao68, co68, eo68⟩ := Kd.R_slice HO105.out; subst eo68) | (go_at_call 27; (with_reducible refine (shift_Solved.calls k _ _ l0 _ _ t103 t106 false _ ?side1 ?side2 ?side3 ?side4 A8.out).mono ?_); (case side1 => repeat (first | exact (Kd.C_below HR0.out HB.out) | (with_reducible refine Kd.C_alloc ?_ _) | (with_reducible refine Kd.C_drewN ?_ _) | (with_reducible refine Kd.C_drew ?_))); (case side2 => exact HC0.out); (case side3 => repeat (first | exact (Kd.R_reads' HO105.out).2.2 | (with_reducible refine Kd.C_alloc ?_ _) | (with_reducible refine Kd.C_drewN ?_ _) | (with_reducible refine Kd.C_drew ?_))); (case side4 => exact (Kd.R_reads' HO105.out).2.1); rintro e w69 ⟨v107, rfl, ho0, hb⟩; have n0_ := Aside0.mk (Kd.R_below (by (with_reducible repeat (first | apply Kd.R_alloc | apply Kd.R_drewN | apply Kd.R_drew)); exact HO105.out) hb); have n1_ := Aside0.mk (Kd.V_lower (Kd.V_mono (ok' := fun k_ => some k_ ≠ (.slice Ao68 t103.length co68 : Value).ownBlock) ho0 (fun k_ hk_ => (Kd.fresh' (Kd.R_lt (by (with_reducible repeat (first | apply Kd.R_alloc | apply Kd.R_drewN | apply Kd.R_drew)); exact HO105.out)) k_ hk_))) (below_size (by repeat (first | (with_reducible first | exact HB.out | apply below_alloc | apply pw_below_drewN | apply below_drew1) | exact HB.out)))); have n2_ := Aside0.mk (below_step (by repeat (first | (with_reducible first | exact HB.out | apply below_alloc | apply pw_below_drewN | apply below_drew1) | exact HB.out)) hb); clear HO105; clear HB; have HO105 := n0_; have HO108 := n1_; have HB := n2_; clear n0_ n1_ n2_; (try clear hb); (try clear hb2); (try clear hk); (try clear hi); (try clear ho0)) | (go_at_call 23; (with_reducible refine (merkhetlaw18_fixed.calls k  false _ A58.out).mono ?_); rintro e w70 ⟨rfl, hb⟩; have n0_ := Aside0.mk (Kd.R_below (by (with_reducible repeat (first | apply Kd.R_alloc | apply Kd.R_drewN | apply Kd.R_drew)); exact HO105.out) hb); have n1_ := Aside0.mk (Kd.V_below (by (with_reducible repeat (first | apply Kd.V_alloc | apply Kd.V_drewN | apply Kd.V_drew)); exact HO108.out) hb); have n2_ := Aside0.mk (below_step (by repeat (first | (with_reducible first | exact HB.out | apply below_alloc | apply pw_below_drewN | apply below_drew1) | exact HB.out)) hb); clear HO105; clear HO108; clear HB; have HO105 := n0_; have HO108 := n1_; have HB := n2_; clear n0_ n1_ n2_; (try clear hb); (try clear hb2); (try clear hk); (try clear hi))))
        go_ret
        exact ⟨by first | rfl | (simp [errW_none, errW_some] <;> rfl) | (simp [*, errW_none, errW_some] <;> rfl), by repeat (first | (with_reducible first | exact HB.out | apply below_alloc | apply pw_below_drewN | apply below_drew1) | exact HB.out)⟩

end Go.Proofs.Ytjgpggjjgimibaa.Y

-- Written by wip/tools/row.py, a program of this session. Lean checks it.
namespace Go.Proofs.Ytjgpggjjgimibaa.X
open Go.RowKit Go.Proofs.YtjgpggjjgimibaaW.PrintWords Go.Proofs.YtjgpggjjgimibaaW.Open Go.Proofs.Ytjgpggjjgimibaa.Q
set_option linter.unusedVariables false

end Go.Proofs.Ytjgpggjjgimibaa.X

-- Written by wip/tools/row.py, a program of this session. Lean checks it.
namespace Go.Proofs.Ytjgpggjjgimibaa.V
open Go.RowKit Go.Proofs.YtjgpggjjgimibaaW.PrintWords Go.Proofs.YtjgpggjjgimibaaW.Open Go.Proofs.Ytjgpggjjgimibaa.Q Go.Proofs.Ytjgpggjjgimibaa.X
set_option linter.unusedVariables false

end Go.Proofs.Ytjgpggjjgimibaa.V

-- Written by wip/tools/row.py, a program of this session. Lean checks it.
namespace Go.Proofs.Ytjgpggjjgimibaa.Y
open Go.RowKit Go.Proofs.YtjgpggjjgimibaaW.PrintWords Go.Proofs.YtjgpggjjgimibaaW.Open Go.Proofs.Ytjgpggjjgimibaa.Q Go.Proofs.Ytjgpggjjgimibaa.X Go.Proofs.Ytjgpggjjgimibaa.V
set_option linter.unusedVariables false

end Go.Proofs.Ytjgpggjjgimibaa.Y

/- Layers and greatest offsets, plain: the program's and the document's come to the same. -/
namespace Go.Proofs.Ytjgpggjjgimibaa.L
open Go.RowKit Go.Proofs.Ytjgpggjjgimibaa.Q Go.Proofs.Ytjgpggjjgimibaa.X Go.Proofs.YtjgpggjjgimibaaW.PrintWords Go.Proofs.YtjgpggjjgimibaaW.PrintLast Go.Proofs.YtjgpggjjgimibaaW.PrintMore Go.Proofs.YtjgpggjjgimibaaW.Lib
set_option linter.unusedVariables false

abbrev Edge := S37
abbrev rdE (l : List Edge) (i : Int) : Edge := rd_T37 l i
theorem rd_set (l : List Int) (i j v : Int) (h0 : 0 ≤ i) (h1 : i < l.length) (hj : 0 ≤ j) : rd (l.set i.toNat v) j = if i = j then v else rd l j := by
  have hi : i.toNat < l.length := by omega
  unfold rd
  by_cases h : i = j
  · subst h
    rw [if_pos rfl, List.getD_eq_getElem?_getD, List.getElem?_set_self hi]; rfl
  · rw [if_neg h, List.getD_eq_getElem?_getD, List.getD_eq_getElem?_getD, List.getElem?_set_ne (by omega)]
theorem rd_rep (n : Nat) (v : Int) (i : Int) (h0 : 0 ≤ i) (h1 : i < n) : rd (List.replicate n v) i = v := by
  have hi : i.toNat < n := by omega
  simp [rd, List.getD, hi]
theorem rd_map_range (n : Nat) (f : Nat → Int) (i : Int) (h0 : 0 ≤ i) (h1 : i < n) : rd ((List.range n).map f) i = f i.toNat := by
  have hi : i.toNat < n := by omega
  simp [rd, List.getD, hi]
/-- What a host has behind a layer, and by which edge. -/
def leastL (had : List Int) (es : List Edge) (h : Int) : Nat → Int × Int
  | 0 => (rd had h, -1)
  | m + 1 => if (rdE es m).f1 = h ∧ wrap64 (rd had (rdE es m).f0 + (rdE es m).f2) < (leastL had es h m).1 then (wrap64 (rd had (rdE es m).f0 + (rdE es m).f2), (m : Int)) else leastL had es h m
theorem next_least (had : List Int) (es : List Edge) (hin : inE had.length es) : ∀ m, m ≤ es.length → ∀ h : Int, 0 ≤ h → h < had.length → rd (nextL had es m).1 h = (leastL had es h m).1 ∧ rd (nextL had es m).2 h = (leastL had es h m).2
  | 0, _, h, h0, h1 => ⟨rfl, rd_rep _ _ _ h0 h1⟩
  | m + 1, hm, h, h0, h1 => by
    obtain ⟨i1, i2⟩ := next_least had es hin m (by omega) h h0 h1
    obtain ⟨l1, l2⟩ := nextL_len had es m
    have he : 0 ≤ (rdE es (m : Int)).f0 ∧ (rdE es (m : Int)).f0 < had.length ∧ 0 ≤ (rdE es (m : Int)).f1 ∧ (rdE es (m : Int)).f1 < had.length := hin _ (rdE_mem es m (by omega) (by omega))
    show rd (stepN had (nextL had es m) (m : Int) (rdE es (m : Int))).1 h = _ ∧ rd (stepN had (nextL had es m) (m : Int) (rdE es (m : Int))).2 h = _
    simp only [leastL, stepN]
    generalize rdE es (m : Int) = e at *
    by_cases q : e.f1 = h
    · subst q
      rw [← i1]
      by_cases c : wrap64 (rd had e.f0 + e.f2) < rd (nextL had es m).1 e.f1
      · rw [if_pos c, if_pos ⟨rfl, c⟩]
        refine ⟨?_, ?_⟩
        · show rd (List.set _ _ _) _ = _
          rw [rd_set _ _ _ _ he.2.2.1 (by rw [l1]; exact he.2.2.2) he.2.2.1, if_pos rfl]
        · show rd (List.set _ _ _) _ = _
          rw [rd_set _ _ _ _ he.2.2.1 (by rw [l2]; exact he.2.2.2) he.2.2.1, if_pos rfl]
      · rw [if_neg c, if_neg (fun h => c h.2)]
        exact ⟨i1, i2⟩
    · have hq : ¬ (e.f1 = h ∧ wrap64 (rd had e.f0 + e.f2) < (leastL had es h m).1) := fun h' => q h'.1
      by_cases c : wrap64 (rd had e.f0 + e.f2) < rd (nextL had es m).1 e.f1
      · rw [if_pos c, if_neg hq]
        refine ⟨?_, ?_⟩
        · show rd (List.set _ _ _) _ = _
          rw [rd_set _ _ _ _ he.2.2.1 (by rw [l1]; exact he.2.2.2) h0, if_neg q]; exact i1
        · show rd (List.set _ _ _) _ = _
          rw [rd_set _ _ _ _ he.2.2.1 (by rw [l2]; exact he.2.2.2) h0, if_neg q]; exact i2
      · rw [if_neg c, if_neg hq]
        exact ⟨i1, i2⟩
/-- Layer by layer. -/
def layL (n : Nat) (es : List Edge) : Nat → List Int × List Int
  | 0 => (List.replicate n 0, List.replicate n (-1))
  | k + 1 => nextL (layL n es k).1 es es.length
theorem layL_len (n : Nat) (es : List Edge) : ∀ k, (layL n es k).1.length = n ∧ (layL n es k).2.length = n
  | 0 => ⟨List.length_replicate, List.length_replicate⟩
  | k + 1 => by
    obtain ⟨h1, h2⟩ := nextL_len (layL n es k).1 es es.length
    have ih := layL_len n es k
    exact ⟨h1.trans ih.1, h2.trans ih.1⟩
theorem inE_of_may {n : Int} {es : List Edge} (h : rmayB n es = true) : 0 ≤ n ∧ n ≤ 32 ∧ inE n.toNat es ∧ ∀ e ∈ es, -4503599627370496 ≤ e.f2 ∧ e.f2 ≤ 4503599627370496 := by
  unfold rmayB at h
  split at h
  · rename_i hn
    have hb : ∀ e ∈ es, badE n e = false := by
      intro e he
      have h2 : es.any (badE n) = false := by simpa using h
      simpa using List.any_eq_false.1 h2 e he
    have hs : ∀ e ∈ es, 0 ≤ min e.f0 e.f1 ∧ max e.f0 e.f1 < n ∧ e.f2 ≤ 4503599627370496 ∧ -4503599627370496 ≤ e.f2 := by
      intro e he
      have := hb e he
      unfold badE at this
      simp only [Bool.or_eq_false_iff, decide_eq_false_iff_not] at this
      omega
    exact ⟨hn.1, hn.2, fun e he => by have := hs e he; omega, fun e he => by have := hs e he; omega⟩
  · cases h
def rowsL (n : Nat) (es : List Edge) (k : Nat) : List (List Int) × List (List Int) := ((List.range k).map (fun i => (layL n es i).1), (List.range k).map (fun i => (layL n es i).2))
theorem rowsL_succ (n : Nat) (es : List Edge) (k : Nat) : (rowsL n es k).1 ++ [(layL n es k).1] = (rowsL n es (k + 1)).1 ∧ (rowsL n es k).2 ++ [(layL n es k).2] = (rowsL n es (k + 1)).2 := by
  simp [rowsL, List.range_succ]
theorem rd_rows (n : Nat) (es : List Edge) (k : Nat) (i : Int) (h0 : 0 ≤ i) (h1 : i < k) : rd_L8 (rowsL n es k).1 i = (layL n es i.toNat).1 := by
  have hi : i.toNat < k := by omega
  simp [rd_L8, rowsL, List.getD, hi]
/-- The layers, or none. -/
def laysB (n : Int) (es : List Edge) : List (List Int) × List (List Int) := if rmayB n es = true then rowsL n.toNat es (n.toNat + 1) else ([], [])
theorem layers_ev (n : Int) (es : List Edge) (he : es.length ≤ 1000000000) : Ev (fun k => relax_Layers.f k n es) (laysB n es) := by
  unfold relax_Layers.f
  refine Ev.bind (a := rmayB n es) (Ev.const (by unfold relax_May.f; rw [if_pos he])) ?_
  by_cases hm : rmayB n es = true
  rotate_left
  · refine Ev.neg hm (Ev.cast (Ev.now _) ?_)
    unfold laysB; rw [if_neg hm]
  obtain ⟨h0, h32, hin, _⟩ := inE_of_may hm
  refine Ev.pos hm (Ev.bind (a := List.replicate n.toNat 0) (Ev.const (by unfold relax_row_int64.f; rw [if_pos ⟨h0, by omega⟩])) (Ev.bind (a := List.replicate n.toNat (-1)) (Ev.const (by unfold relax_row_int.f; rw [if_pos ⟨h0, by omega⟩])) ?_))
  have hl : laysB n es = rowsL n.toNat es (n.toNat + 1) := by unfold laysB; rw [if_pos hm]
  rw [hl]
  have key : ∀ (d i : Nat), n.toNat - i = d → i ≤ n.toNat → Ev (fun k => relax_Layers.l0 k es (rowsL n.toNat es (i + 1)).1 (rowsL n.toNat es (i + 1)).2 n (i : Int)) (rowsL n.toNat es (n.toNat + 1)) := by
    intro d
    induction d with
    | zero =>
      intro i hd hi
      refine Ev.succ ?_
      simp only [relax_Layers.l0]
      refine Ev.neg (by omega) (Ev.cast (Ev.now _) ?_)
      rw [show i = n.toNat by omega]
    | succ d ih =>
      intro i hd hi
      have h2 := ih (i + 1) (by omega) (by omega)
      have hr := rd_rows n.toNat es (i + 1) i (by omega) (by omega)
      have hlen : (rowsL n.toNat es (i + 1)).1.length = i + 1 ∧ (rowsL n.toNat es (i + 1)).2.length = i + 1 := by simp [rowsL]
      have hs := rowsL_succ n.toNat es (i + 1)
      refine Ev.succ ?_
      simp only [relax_Layers.l0, hr]
      refine Ev.pos (by omega) (Ev.pos (by omega) (Ev.pos (by omega) (Ev.bind (a := nextL (layL n.toNat es (i : Int).toNat).1 es es.length) (Ev.const ?_) (Ev.pos (by omega) (Ev.pos (by omega) ?_)))))
      · unfold relax_next.f
        rw [if_pos ⟨by rw [(layL_len _ _ _).1]; omega, he, by rw [(layL_len _ _ _).1]; exact hin⟩]
      · rw [wrap_id (by omega) (by omega)]
        rw [← hs.1, ← hs.2] at h2
        exact h2
  exact key n.toNat 0 (by omega) (by omega)
/-- The greatest offsets; false. -/
def solveB (n : Int) (es : List Edge) : List Int × Bool :=
  if rmayB n es = true ∧ (n > 0 → (layL n.toNat es n.toNat).1 = (layL n.toNat es (n.toNat - 1)).1) then ((layL n.toNat es n.toNat).1, true) else ([], false)
instance (n : Int) (es : List Edge) : Decidable (rmayB n es = true ∧ (n > 0 → (layL n.toNat es n.toNat).1 = (layL n.toNat es (n.toNat - 1)).1)) := inferInstance
theorem equal_ev (a b : List Int) (ha : a.length ≤ 1000000000) : ∃ r, Ev (fun k => slices_Equal_int64_int64.f k a b) r ∧ (r = true ↔ a = b) := by
  unfold slices_Equal_int64_int64.f
  by_cases h : (a.length : Int) = (b.length : Int)
  · have key : ∀ (d i : Nat), a.length - i = d → i ≤ a.length → ∃ r, Ev (fun k => slices_Equal_int64_int64.l0 k a b (a.length : Int) (i : Int)) r ∧ (r = true ↔ a.drop i = b.drop i) := by
      intro d
      induction d with
      | zero =>
        intro i hd hi
        refine ⟨true, Ev.succ ?_, ?_⟩
        · simp only [slices_Equal_int64_int64.l0]
          exact Ev.neg (by omega) (Ev.now _)
        · rw [List.drop_of_length_le (by omega), List.drop_of_length_le (by omega)]
          simp
      | succ d ih =>
        intro i hd hi
        have hil : i < a.length := by omega
        have hib : i < b.length := by omega
        have hr : rd a (i : Int) = a[i] := by simp [rd, List.getD, hil]
        have hr2 : rd b (i : Int) = b[i] := by simp [rd, List.getD, hib]
        obtain ⟨r, h1, h2⟩ := ih (i + 1) (by omega) (by omega)
        have ea := List.drop_eq_getElem_cons hil
        have eb := List.drop_eq_getElem_cons hib
        by_cases e : a[i] = b[i]
        · refine ⟨r, Ev.succ ?_, ?_⟩
          · simp only [slices_Equal_int64_int64.l0, hr, hr2]
            refine Ev.pos (by omega) (Ev.pos (by omega) (Ev.pos (by omega) (Ev.pos (by omega) (Ev.pos e ?_))))
            rw [wrap_id (by omega) (by omega)]
            exact h1
          · rw [h2, ea, eb, List.cons.injEq]
            exact ⟨fun h => ⟨e, h⟩, fun h => h.2⟩
        · refine ⟨false, Ev.succ ?_, ?_⟩
          · simp only [slices_Equal_int64_int64.l0, hr, hr2]
            exact Ev.pos (by omega) (Ev.pos (by omega) (Ev.pos (by omega) (Ev.pos (by omega) (Ev.neg e (Ev.now _)))))
          · rw [ea, eb, List.cons.injEq]
            exact ⟨fun h => absurd h (by simp), fun h => absurd h.1 e⟩
    obtain ⟨r, h1, h2⟩ := key a.length 0 (by omega) (by omega)
    exact ⟨r, Ev.pos h h1, by simpa using h2⟩
  · refine ⟨false, Ev.neg h (Ev.now _), ⟨by simp, ?_⟩⟩
    rintro rfl
    exact absurd rfl h
theorem solve_ev (n : Int) (es : List Edge) (he : es.length ≤ 1000000000) : Ev (fun k => relax_Solve.f k n es) (solveB n es) := by
  unfold relax_Solve.f
  refine Ev.bind (layers_ev n es he) ?_
  by_cases hm : rmayB n es = true
  rotate_left
  · have h1 : laysB n es = ([], []) := by unfold laysB; rw [if_neg hm]
    have h2 : solveB n es = ([], false) := by unfold solveB; rw [if_neg (fun h => hm h.1)]
    rw [h1, h2]
    refine Ev.pos rfl (Ev.succ ?_)
    simp only [relax_Solve.j0]
    exact Ev.pos trivial (Ev.now _)
  obtain ⟨h0, h32, hin, _⟩ := inE_of_may hm
  have h1 : laysB n es = rowsL n.toNat es (n.toNat + 1) := by unfold laysB; rw [if_pos hm]
  rw [h1]
  have hlen : (rowsL n.toNat es (n.toNat + 1)).1.length = n.toNat + 1 := by simp [rowsL]
  have hr := rd_rows n.toNat es (n.toNat + 1) n h0 (by omega)
  have yes : solveB n es = ((layL n.toNat es n.toNat).1, true) → Ev (fun k => relax_Solve.j0 k n (rowsL n.toNat es (n.toNat + 1)).1 false) (solveB n es) := by
    intro h
    rw [h]
    refine Ev.succ ?_
    simp only [relax_Solve.j0, hr]
    exact Ev.neg (by simp) (Ev.pos h0 (Ev.pos (by omega) (Ev.now _)))
  refine Ev.neg (by omega) (Ev.ite (fun hp => ?_) (fun hp => ?_))
  · have hr2 := rd_rows n.toNat es (n.toNat + 1) (n - 1) (by omega) (by omega)
    rw [wrap_id (by omega) (by omega)]
    obtain ⟨r, e1, e2⟩ := equal_ev (layL n.toNat es n.toNat).1 (layL n.toNat es (n.toNat - 1)).1 (by rw [(layL_len _ _ _).1]; omega)
    rw [show (n - 1).toNat = n.toNat - 1 by omega] at hr2
    simp only [hr, hr2]
    refine Ev.pos h0 (Ev.pos (by omega) (Ev.pos (by omega) (Ev.pos (by omega) (Ev.bind e1 ?_))))
    cases r with
    | true =>
      refine yes ?_
      unfold solveB; rw [if_pos ⟨hm, fun _ => e2.1 rfl⟩]
    | false =>
      have h2 : solveB n es = ([], false) := by unfold solveB; rw [if_neg (fun h => by have := e2.2 (h.2 hp); cases this)]
      rw [h2]
      refine Ev.succ ?_
      simp only [relax_Solve.j0]
      exact Ev.pos rfl (Ev.now _)
  · refine yes ?_
    unfold solveB; rw [if_pos ⟨hm, fun h => absurd h hp⟩]
end Go.Proofs.Ytjgpggjjgimibaa.L

/- The document's layers and greatest offsets, plain. -/
namespace Go.Proofs.Ytjgpggjjgimibaa.L
open Go.RowKit Go.Proofs.Ytjgpggjjgimibaa.Q Go.Proofs.Ytjgpggjjgimibaa.X Go.Proofs.YtjgpggjjgimibaaW.PrintWords Go.Proofs.YtjgpggjjgimibaaW.PrintLast Go.Proofs.YtjgpggjjgimibaaW.PrintMore Go.Proofs.YtjgpggjjgimibaaW.Lib
set_option linter.unusedVariables false
end Go.Proofs.Ytjgpggjjgimibaa.L

/- What the document's order of texts comes to, as plain Lean. -/
namespace Go.Proofs.Ytjgpggjjgimibaa.L
open Go.RowKit Go.Proofs.Ytjgpggjjgimibaa.Q Go.Proofs.YtjgpggjjgimibaaW.PrintWords Go.Proofs.YtjgpggjjgimibaaW.PrintLast Go.Proofs.YtjgpggjjgimibaaW.PrintMore Go.Proofs.YtjgpggjjgimibaaW.Lib
set_option linter.unusedVariables false

abbrev Span := S42
theorem rdS_nat (l : List Span) (i : Nat) (h : i < l.length) : rd_T42 l (i : Int) = l[i] := by simp [rd_T42, List.getD, h]
end Go.Proofs.Ytjgpggjjgimibaa.L

/- The document's hosts, as plain lists. -/
namespace Go.Proofs.Ytjgpggjjgimibaa.L
open Go.RowKit Go.Proofs.Ytjgpggjjgimibaa.Q Go.Proofs.YtjgpggjjgimibaaW.PrintWords Go.Proofs.YtjgpggjjgimibaaW.PrintLast Go.Proofs.YtjgpggjjgimibaaW.PrintMore Go.Proofs.YtjgpggjjgimibaaW.Lib
set_option linter.unusedVariables false
end Go.Proofs.Ytjgpggjjgimibaa.L

/- The document's starts by offsets, as plain lists. -/
namespace Go.Proofs.Ytjgpggjjgimibaa.L
open Go.RowKit Go.Proofs.Ytjgpggjjgimibaa.Q Go.Proofs.YtjgpggjjgimibaaW.PrintWords Go.Proofs.YtjgpggjjgimibaaW.PrintLast Go.Proofs.YtjgpggjjgimibaaW.PrintMore Go.Proofs.YtjgpggjjgimibaaW.Lib
set_option linter.unusedVariables false
theorem same15_ev (a b : List Int) (ha : a.length ≤ 1000000000) : ∃ r, Ev (fun k => merkhetref15_Same.f k a b) r ∧ (r = true ↔ a = b) := by
  unfold merkhetref15_Same.f
  by_cases h : (a.length : Int) = (b.length : Int)
  · have key : ∀ (d i : Nat), a.length - i = d → i ≤ a.length → ∃ r, Ev (fun k => merkhetref15_Same.l0 k a b (i : Int)) r ∧ (r = true ↔ a.drop i = b.drop i) := by
      intro d
      induction d with
      | zero =>
        intro i hd hi
        refine ⟨true, Ev.succ ?_, ?_⟩
        · simp only [merkhetref15_Same.l0]
          exact Ev.neg (by omega) (Ev.now _)
        · rw [List.drop_of_length_le (by omega), List.drop_of_length_le (by omega)]
          simp
      | succ d ih =>
        intro i hd hi
        have hil : i < a.length := by omega
        have hib : i < b.length := by omega
        have hr : rd a (i : Int) = a[i] := by simp [rd, List.getD, hil]
        have hr2 : rd b (i : Int) = b[i] := by simp [rd, List.getD, hib]
        obtain ⟨r, h1, h2⟩ := ih (i + 1) (by omega) (by omega)
        have ea := List.drop_eq_getElem_cons hil
        have eb := List.drop_eq_getElem_cons hib
        by_cases e : a[i] = b[i]
        · refine ⟨r, Ev.succ ?_, ?_⟩
          · simp only [merkhetref15_Same.l0, hr, hr2]
            refine Ev.pos (by omega) (Ev.pos (by omega) (Ev.pos (by omega) (Ev.pos e ?_)))
            rw [wrap_id (by omega) (by omega)]
            exact h1
          · rw [h2, ea, eb, List.cons.injEq]
            exact ⟨fun h => ⟨e, h⟩, fun h => h.2⟩
        · refine ⟨false, Ev.succ ?_, ?_⟩
          · simp only [merkhetref15_Same.l0, hr, hr2]
            exact Ev.pos (by omega) (Ev.pos (by omega) (Ev.pos (by omega) (Ev.neg e (Ev.now _))))
          · rw [ea, eb, List.cons.injEq]
            exact ⟨fun h => absurd h (by simp), fun h => absurd h.1 e⟩
    obtain ⟨r, h1, h2⟩ := key a.length 0 (by omega) (by omega)
    exact ⟨r, Ev.pos h h1, by simpa using h2⟩
  · refine ⟨false, Ev.neg h (Ev.now _), ⟨by simp, ?_⟩⟩
    rintro rfl
    exact absurd rfl h
theorem same15_self (a : List Int) (ha : a.length ≤ 1000000000) : Ev (fun k => merkhetref15_Same.f k a a) true := by
  obtain ⟨r, h1, h2⟩ := same15_ev a a ha
  exact Ev.cast h1 (h2.2 rfl)
end Go.Proofs.Ytjgpggjjgimibaa.L

/- The guard of layer 4, as plain lists. -/
namespace Go.Proofs.Ytjgpggjjgimibaa.L
open Go.RowKit Go.Proofs.Ytjgpggjjgimibaa.Q Go.Proofs.YtjgpggjjgimibaaW.PrintWords Go.Proofs.YtjgpggjjgimibaaW.PrintLast Go.Proofs.YtjgpggjjgimibaaW.PrintMore Go.Proofs.YtjgpggjjgimibaaW.Lib
set_option linter.unusedVariables false

theorem great_ev (l : List Span) : ∃ b, Ev (fun k => merkhetlaw04_Great.f k l) b ∧ (b = false → l.length ≤ 60 ∧ ∀ x ∈ l, x.f4.size ≤ 100 ∧ x.f5.size ≤ 100) := by
  unfold merkhetlaw04_Great.f
  by_cases h : (l.length : Int) > 60
  · exact ⟨true, Ev.pos h (Ev.now _), by simp⟩
  · have key : ∀ (d i : Nat), l.length - i = d → i ≤ l.length → ∃ b, Ev (fun k => merkhetlaw04_Great.l0 k l (l.length : Int) (i : Int)) b ∧ (b = false → ∀ x ∈ l.drop i, x.f4.size ≤ 100 ∧ x.f5.size ≤ 100) := by
      intro d
      induction d with
      | zero =>
        intro i hd hi
        refine ⟨false, Ev.succ ?_, fun _ x hx => ?_⟩
        · simp only [merkhetlaw04_Great.l0]
          exact Ev.neg (by omega) (Ev.now _)
        · rw [List.drop_of_length_le (by omega)] at hx; cases hx
      | succ d ih =>
        intro i hd hi
        have hil : i < l.length := by omega
        obtain ⟨b, hb, hb2⟩ := ih (i + 1) (by omega) (by omega)
        by_cases h4 : ((l[i].f4.size : Nat) : Int) > 100
        · refine ⟨true, Ev.succ ?_, by simp⟩
          simp only [merkhetlaw04_Great.l0, rdS_nat l i hil]
          exact Ev.pos (by omega) (Ev.pos (by omega) (Ev.pos (by omega) (Ev.pos h4 (Ev.now _))))
        · by_cases h5 : ((l[i].f5.size : Nat) : Int) > 100
          · refine ⟨true, Ev.succ ?_, by simp⟩
            simp only [merkhetlaw04_Great.l0, rdS_nat l i hil]
            exact Ev.pos (by omega) (Ev.pos (by omega) (Ev.pos (by omega) (Ev.neg h4 (Ev.pos h5 (Ev.now _)))))
          · refine ⟨b, Ev.succ ?_, fun e x hx => ?_⟩
            · simp only [merkhetlaw04_Great.l0, rdS_nat l i hil]
              refine Ev.pos (by omega) (Ev.pos (by omega) (Ev.pos (by omega) (Ev.neg h4 (Ev.neg h5 ?_))))
              rw [wrap_id (by omega) (by omega)]
              exact hb
            · rw [List.drop_eq_getElem_cons hil] at hx
              rcases List.mem_cons.1 hx with rfl | hx
              · omega
              · exact hb2 e x hx
    obtain ⟨b, hb, hb2⟩ := key l.length 0 (by omega) (by omega)
    refine ⟨b, Ev.neg h hb, fun e => ⟨by omega, fun x hx => hb2 e x (by simpa using hx)⟩⟩

end Go.Proofs.Ytjgpggjjgimibaa.L

/- The chapter's example for bound.Of, plain. -/
namespace Go.Proofs.Ytjgpggjjgimibaa.L
open Go.RowKit Go.Proofs.Ytjgpggjjgimibaa.Q Go.Proofs.YtjgpggjjgimibaaW.PrintWords Go.Proofs.YtjgpggjjgimibaaW.PrintLast Go.Proofs.YtjgpggjjgimibaaW.PrintMore Go.Proofs.YtjgpggjjgimibaaW.MapB Go.Proofs.YtjgpggjjgimibaaW.Lib
set_option linter.unusedVariables false
theorem hostsB_fold' (l : List S42) : (l.map (·.f4)).foldl (insH cmpB) [] = hostsB l := by
  obtain ⟨h1, h2, _⟩ := foldH cmpB_is (l.map (·.f4)) [] List.Pairwise.nil
  refine h1.one cmpB_is (hostsB_rise l) fun x => ?_
  rw [h2, hostsB_mem, List.mem_map]
  simp
end Go.Proofs.Ytjgpggjjgimibaa.L

/- The document's numbers and groups of hosts, as plain lists. -/
namespace Go.Proofs.Ytjgpggjjgimibaa.L
open Go.RowKit Go.Proofs.Ytjgpggjjgimibaa.Q Go.Proofs.YtjgpggjjgimibaaW.PrintWords Go.Proofs.YtjgpggjjgimibaaW.PrintLast Go.Proofs.YtjgpggjjgimibaaW.PrintMore Go.Proofs.YtjgpggjjgimibaaW.Lib
set_option linter.unusedVariables false
end Go.Proofs.Ytjgpggjjgimibaa.L

/- The document's edges, as a plain list. -/
namespace Go.Proofs.Ytjgpggjjgimibaa.V
open Go.RowKit Go.Proofs.Ytjgpggjjgimibaa.Q Go.Proofs.YtjgpggjjgimibaaW.PrintWords Go.Proofs.YtjgpggjjgimibaaW.PrintLast Go.Proofs.YtjgpggjjgimibaaW.PrintMore Go.Proofs.YtjgpggjjgimibaaW.Lib Go.Proofs.Ytjgpggjjgimibaa.L
set_option linter.unusedVariables false

theorem edgesB_le (m : S42 → Bool) (l : List S42) (nums : List Int) : ∀ ps : List S35, (edgesB m l nums ps).length ≤ 2 * ps.length
  | [] => by simp [edgesB]
  | p :: ps => by
    have ih := edgesB_le m l nums ps
    have h1 : (edgesAt m l nums p).length ≤ 2 := by unfold edgesAt; split <;> simp
    have h2 : edgesB m l nums (p :: ps) = edgesAt m l nums p ++ edgesB m l nums ps := by simp [edgesB]
    rw [h2, List.length_append, List.length_cons]
    omega
end Go.Proofs.Ytjgpggjjgimibaa.V

/- ShiftSolved, the plain part: the greatest offsets are the document's. -/
namespace Go.Proofs.Ytjgpggjjgimibaa.Pure
set_option linter.unusedVariables false
open Go.RowKit Go.Proofs.Ytjgpggjjgimibaa.Q Go.Proofs.Ytjgpggjjgimibaa.X Go.Proofs.Ytjgpggjjgimibaa.V Go.Proofs.YtjgpggjjgimibaaW.PrintWords Go.Proofs.YtjgpggjjgimibaaW.PrintLast Go.Proofs.YtjgpggjjgimibaaW.PrintMore Go.Proofs.YtjgpggjjgimibaaW.Lib Go.Proofs.Ytjgpggjjgimibaa.L

theorem fit_wf {s : S42} (h : wf42 s) : fitR s := by
  refine ⟨⟨h.2.1, h.2.2.2.2.1, h.2.2.2.2.2.1⟩, ?_⟩
  have := h.2.2.2.1
  simp [Lit.wf, IntKind.min, IntKind.max, IntKind.signed, IntKind.bits] at this
  exact this.1
def exS : S42 := ⟨1, 1, 0, 0, ⟨#[97]⟩, ⟨#[98]⟩, 5, 0⟩
theorem exS_starts : startsB [exS] [-3] = ([2], true) := by
  have hh : hostsB [exS] = [⟨#[97]⟩] := by
    rw [← hostsB_fold']
    kernel_rfl
  have hn : numsL [exS] = [0] := by
    unfold numsL
    rw [hh]
    kernel_rfl
  unfold startsB
  rw [if_pos ⟨(by kernel_rfl : mayA [exS] = true), by rw [hh]; rfl, by decide⟩]
  have e : startsL [exS] [-3] = [2] := by
    unfold startsL
    rw [hn]
    kernel_rfl
  rw [e]
theorem fixed18 : Ev (fun k => merkhetlaw18_fixed.f k) true := by
  unfold merkhetlaw18_fixed.f shift_Starts.f
  rw [if_pos ⟨by intro x hx; simp only [List.mem_cons, List.not_mem_nil, or_false] at hx; rcases hx with rfl; exact ⟨by decide, by decide, by decide⟩, by decide, by decide⟩]
  rw [show startsB [(⟨1, 1, 0, 0, ⟨#[97]⟩, ⟨#[98]⟩, 5, 0⟩ : S42)] [-3] = ([2], true) from exS_starts]
  exact Ev.bind (Ev.now _) (Ev.pos rfl (Ev.bind (same15_self _ (by decide)) (Ev.now _)))
def edgesP (l : List S42) (ps : List Int) : List L.Edge := edgesB mayS l (numsL l) (pairsB l ps)
def solvedB (l : List S42) (ps : List Int) : List Int × Bool := if mayA l = true then solveB ((hostsB l).length : Int) (edgesP l ps) else ([], false)
theorem edgesP_le (l : List S42) (ps : List Int) (hl : l.length ≤ 60) : (edgesP l ps).length ≤ 120 := by
  have h1 := edgesB_le mayS l (numsL l) (pairsB l ps)
  have h2 := pairsB_length l ps
  unfold edgesP
  omega
theorem solved_ev (l : List S42) (ps : List Int) (hl : l.length ≤ 60) (hp : ps.length ≤ 1000000) (hf : ∀ s ∈ l, fitS s) : Ev (fun k => shift_Solved.f k l ps) (solvedB l ps) := by
  unfold shift_Solved.f
  have h2 := pairsB_length l ps
  have h3 := edgesP_le l ps hl
  refine Ev.bind (a := mayA l) (Ev.const (by unfold shift_may.f; rw [if_pos ⟨by omega, hf⟩])) ?_
  unfold solvedB
  refine Ev.ite (fun c => ?_) (fun c => ?_)
  · rw [if_pos c]
    exact Ev.bind (a := hostsB l) (Ev.const (by unfold dedupe_Hosts.f; rw [if_pos (by omega)])) (Ev.bind (a := pairsB l ps) (Ev.const (by unfold rpc_Of.f; rw [if_pos ⟨by omega, hf, hp⟩])) (Ev.bind (a := edgesP l ps) (Ev.const (by unfold bound_Of.f; rw [if_pos ⟨by omega, hf, by omega⟩]; rfl)) (Ev.bind (solve_ev _ _ (by omega)) (Ev.now _))))
  · rw [if_neg c]; exact Ev.now _
end Go.Proofs.Ytjgpggjjgimibaa.Pure

/- What solved offsets are: bounds, all edges hold, none is needed if all weights are from 0. -/
namespace Go.Proofs.Ytjgpggjjgimibaa.L
open Go.RowKit Go.Proofs.Ytjgpggjjgimibaa.Q Go.Proofs.YtjgpggjjgimibaaW.PrintWords Go.Proofs.YtjgpggjjgimibaaW.PrintLast Go.Proofs.YtjgpggjjgimibaaW.PrintMore Go.Proofs.YtjgpggjjgimibaaW.Lib
set_option linter.unusedVariables false

def smallE (es : List Edge) : Prop := ∀ e ∈ es, -4503599627370496 ≤ e.f2 ∧ e.f2 ≤ 4503599627370496
theorem rdE_in (es : List Edge) (m : Nat) (h : m < es.length) : rdE es (m : Int) ∈ es := rdE_mem es m (by omega) (by omega)
/-- A layer's numbers: from lo on, not above 0. -/
def within (n : Nat) (had : List Int) (lo : Int) : Prop := ∀ j : Int, 0 ≤ j → j < n → lo ≤ rd had j ∧ rd had j ≤ 0
theorem least_within (had : List Int) (es : List Edge) (hin : inE had.length es) (hs : smallE es) (lo : Int) (hlo : -288230376151711744 ≤ lo) (hw : within had.length had lo) (h : Int) (h0 : 0 ≤ h) (h1 : h < had.length) : ∀ m, m ≤ es.length → lo - 4503599627370496 ≤ (leastL had es h m).1 ∧ (leastL had es h m).1 ≤ 0
  | 0, _ => by have := hw h h0 h1; simp only [leastL]; omega
  | m + 1, hm => by
    have ih := least_within had es hin hs lo hlo hw h h0 h1 m (by omega)
    have hi : 0 ≤ (rdE es (m : Int)).f0 ∧ (rdE es (m : Int)).f0 < had.length ∧ 0 ≤ (rdE es (m : Int)).f1 ∧ (rdE es (m : Int)).f1 < had.length := hin _ (rdE_in es m (by omega))
    have hk := hs _ (rdE_in es m (by omega))
    have hf := hw _ hi.1 hi.2.1
    simp only [leastL]
    split
    · rename_i c
      have hw' := wrap_id (i := rd had (rdE es (m : Int)).f0 + (rdE es (m : Int)).f2) (by omega) (by omega)
      rw [hw'] at c ⊢
      show _ ∧ rd had (rdE es (m : Int)).f0 + (rdE es (m : Int)).f2 ≤ 0
      constructor
      · show lo - 4503599627370496 ≤ rd had (rdE es (m : Int)).f0 + (rdE es (m : Int)).f2; omega
      · omega
    · exact ih
theorem lay_within (n : Nat) (es : List Edge) (hin : inE n es) (hs : smallE es) : ∀ k : Nat, k ≤ 33 → within n (layL n es k).1 (-4503599627370496 * (k : Int))
  | 0, _ => by
    intro j h0 h1
    have h : rd (layL n es 0).1 j = 0 := rd_rep n 0 j h0 h1
    omega
  | k + 1, hk => by
    have ih := lay_within n es hin hs k (by omega)
    obtain ⟨l1, _⟩ := layL_len n es k
    intro j h0 h1
    have hin' : inE (layL n es k).1.length es := by rw [l1]; exact hin
    have h := least_within (layL n es k).1 es hin' hs (-4503599627370496 * (k : Int)) (by omega) (by rw [l1]; exact ih) j h0 (by rw [l1]; exact h1) es.length (Nat.le_refl _)
    show _ ≤ rd (nextL (layL n es k).1 es es.length).1 j ∧ rd (nextL (layL n es k).1 es es.length).1 j ≤ 0
    rw [(next_least _ es hin' es.length (Nat.le_refl _) j h0 (by rw [l1]; exact h1)).1]
    omega
theorem leastL_mono (had : List Int) (es : List Edge) (h : Int) (i : Nat) : ∀ d, (leastL had es h (i + d)).1 ≤ (leastL had es h i).1
  | 0 => Int.le_refl _
  | d + 1 => by
    have ih := leastL_mono had es h i d
    show (leastL had es h (i + d + 1)).1 ≤ _
    simp only [leastL]
    split
    · rename_i c; exact Int.le_trans (Int.le_of_lt c.2) ih
    · exact ih
theorem leastL_edge (had : List Int) (es : List Edge) (i m : Nat) (hi : i < m) : (leastL had es (rdE es (i : Int)).f1 m).1 ≤ wrap64 (rd had (rdE es (i : Int)).f0 + (rdE es (i : Int)).f2) := by
  have h1 := leastL_mono had es (rdE es (i : Int)).f1 (i + 1) (m - (i + 1))
  rw [show i + 1 + (m - (i + 1)) = m by omega] at h1
  refine Int.le_trans h1 ?_
  simp only [leastL]
  split
  · exact Int.le_refl _
  · rename_i c
    have : ¬ (wrap64 (rd had (rdE es (i : Int)).f0 + (rdE es (i : Int)).f2) < (leastL had es (rdE es (i : Int)).f1 i).1) := fun h => c (by simpa using h)
    omega
theorem mem_rdE {es : List Edge} {e : Edge} (h : e ∈ es) : ∃ i : Nat, i < es.length ∧ rdE es (i : Int) = e := by
  obtain ⟨i, hi, rfl⟩ := List.mem_iff_getElem.1 h
  exact ⟨i, hi, by simp [rd_T37, List.getD, hi]⟩
/-- Solved: what is known. -/
theorem solved_facts {n : Int} {es : List Edge} {o : List Int} (h : solveB n es = (o, true)) : 0 ≤ n ∧ n ≤ 32 ∧ inE n.toNat es ∧ smallE es ∧ o = (layL n.toNat es n.toNat).1 ∧ (n > 0 → o = (layL n.toNat es (n.toNat - 1)).1) ∧ o.length = n.toNat ∧ within n.toNat o (-144115188075855872) ∧ (∀ e ∈ es, rd o e.f1 ≤ rd o e.f0 + e.f2) := by
  unfold solveB at h
  split at h
  · rename_i hc
    obtain ⟨h0, h32, hin, hs⟩ := inE_of_may hc.1
    have ho : o = (layL n.toNat es n.toNat).1 := by injection h with h _; exact h.symm
    obtain ⟨l1, _⟩ := layL_len n.toNat es n.toNat
    have hw := lay_within n.toNat es hin hs n.toNat (by omega)
    refine ⟨h0, h32, hin, hs, ho, fun hp => ho.trans (hc.2 hp), by rw [ho, l1], ?_, ?_⟩
    · intro j j0 j1
      have := hw j j0 j1
      rw [← ho] at this
      omega
    · intro e he
      have hr := hin e he
      have hp : n > 0 := by omega
      have ho2 := ho.trans (hc.2 hp)
      obtain ⟨i, hi, rfl⟩ := mem_rdE he
      obtain ⟨l2, _⟩ := layL_len n.toNat es (n.toNat - 1)
      have hin' : inE (layL n.toNat es (n.toNat - 1)).1.length es := by rw [l2]; exact hin
      have hlay : layL n.toNat es n.toNat = nextL (layL n.toNat es (n.toNat - 1)).1 es es.length := by
        rw [show n.toNat = (n.toNat - 1) + 1 by omega]; rfl
      have h3 := leastL_edge (layL n.toNat es (n.toNat - 1)).1 es i es.length hi
      rw [← (next_least _ es hin' es.length (Nat.le_refl _) _ hr.2.2.1 (by rw [l2]; exact hr.2.2.2)).1, ← hlay, ← ho, ← ho2] at h3
      have hb := hw _ hr.1 hr.2.1
      rw [← ho] at hb
      have hk := hs _ he
      rw [wrap_id (by omega) (by omega)] at h3
      exact h3
  · injection h with _ h; cases h
theorem least_zero (had : List Int) (es : List Edge) (hin : inE had.length es) (hz : ∀ j : Int, 0 ≤ j → j < had.length → rd had j = 0) (hs : smallE es) (hp : ∀ e ∈ es, 0 ≤ e.f2) (h : Int) (h0 : 0 ≤ h) (h1 : h < had.length) : ∀ m, m ≤ es.length → (leastL had es h m).1 = 0
  | 0, _ => hz h h0 h1
  | m + 1, hm => by
    have ih := least_zero had es hin hz hs hp h h0 h1 m (by omega)
    have hi : 0 ≤ (rdE es (m : Int)).f0 ∧ (rdE es (m : Int)).f0 < had.length ∧ 0 ≤ (rdE es (m : Int)).f1 ∧ (rdE es (m : Int)).f1 < had.length := hin _ (rdE_in es m (by omega))
    have hk := hs _ (rdE_in es m (by omega))
    have hq := hp _ (rdE_in es m (by omega))
    have hf := hz _ hi.1 hi.2.1
    simp only [leastL]
    split
    · rename_i c
      rw [ih, hf, wrap_id (by omega) (by omega)] at c
      omega
    · exact ih
theorem lay_zero (n : Nat) (es : List Edge) (hin : inE n es) (hs : smallE es) (hp : ∀ e ∈ es, 0 ≤ e.f2) : ∀ k : Nat, ∀ j : Int, 0 ≤ j → j < n → rd (layL n es k).1 j = 0
  | 0, j, h0, h1 => rd_rep n 0 j h0 h1
  | k + 1, j, h0, h1 => by
    have ih := lay_zero n es hin hs hp k
    obtain ⟨l1, _⟩ := layL_len n es k
    have hin' : inE (layL n es k).1.length es := by rw [l1]; exact hin
    show rd (nextL (layL n es k).1 es es.length).1 j = 0
    rw [(next_least _ es hin' es.length (Nat.le_refl _) j h0 (by rw [l1]; exact h1)).1]
    exact least_zero _ es hin' (by rw [l1]; exact ih) hs hp j h0 (by rw [l1]; exact h1) es.length (Nat.le_refl _)
end Go.Proofs.Ytjgpggjjgimibaa.L

/- ShiftRight, the plain part: what solved offsets do to pairs and starts. -/
namespace Go.Proofs.Ytjgpggjjgimibaa.Pure
set_option linter.unusedVariables false
open Go.RowKit Go.Proofs.Ytjgpggjjgimibaa.Q Go.Proofs.Ytjgpggjjgimibaa.X Go.Proofs.Ytjgpggjjgimibaa.V Go.Proofs.Ytjgpggjjgimibaa.Y Go.Proofs.YtjgpggjjgimibaaW.PrintWords Go.Proofs.YtjgpggjjgimibaaW.PrintLast Go.Proofs.YtjgpggjjgimibaaW.PrintMore Go.Proofs.YtjgpggjjgimibaaW.Lib Go.Proofs.Ytjgpggjjgimibaa.L

abbrev rdSp (l : List S42) (i : Int) : S42 := rd_T42 l i
theorem pairsP_mem {l : List S42} {ps : List Int} {p : S35} (h : p ∈ pairsB l ps) : 0 ≤ p.f0 ∧ p.f0 < l.length ∧ 0 ≤ p.f1 ∧ p.f1 < l.length ∧ mayS (rdSp l p.f0) = true ∧ mayS (rdSp l p.f1) = true := by
  unfold pairsB at h
  split at h
  · rename_i h1
    obtain ⟨i, hi, hp⟩ := List.mem_flatMap.1 h
    have hi' := List.mem_range.1 hi
    unfold pairAt at hp
    split at hp
    · rename_i h2
      rw [List.mem_singleton.1 hp]
      have h3 := inP_rd (ps := ps) (by rw [← h1.1]; exact h1.2) i (by omega) (by omega)
      exact ⟨h2.1, by show rd ps i < _; omega, by show (0 : Int) ≤ (i : Int); omega, by show (i : Int) < _; omega, h2.2.2.2.2, h2.2.2.2.1⟩
    · cases hp
  · cases h
theorem mayS_le {s : S42} (h : mayS s = true) : 0 ≤ s.f6 ∧ s.f6 < 1125899906842624 ∧ 0 ≤ s.f7 ∧ s.f7 ≤ 1125899906842624 := mayB_le h
/-- A pair's lead and rest, without wraps. -/
theorem gaps_of {l : List S42} {p : S35} (h0 : 0 ≤ p.f0) (h1 : p.f0 < l.length) (h2 : 0 ≤ p.f1) (h3 : p.f1 < l.length) (mx : mayS (rdSp l p.f0) = true) (my : mayS (rdSp l p.f1) = true) :
    gapsB mayS l p.f0 p.f1 = ((rdSp l p.f1).f6 - (rdSp l p.f0).f6, (rdSp l p.f0).f7 - (rdSp l p.f1).f7 - ((rdSp l p.f1).f6 - (rdSp l p.f0).f6), true) := by
  have bx := mayS_le mx
  have bY := mayS_le my
  unfold gapsB findS
  simp only [h0, h1, h2, h3, mx, my, and_self, if_true]
  rw [wrap_id (i := (rdSp l p.f1).f6 - (rdSp l p.f0).f6) (by omega) (by omega), wrap_id (i := (rdSp l p.f0).f7 - (rdSp l p.f1).f7) (by omega) (by omega), wrap_id (by omega) (by omega)]
theorem edges_mem (l : List S42) (nums : List Int) {ps : List S35} {p : S35} (hp : p ∈ ps) (h0 : 0 ≤ p.f0) (h1 : p.f0 < l.length) (h2 : 0 ≤ p.f1) (h3 : p.f1 < l.length) (mx : mayS (rdSp l p.f0) = true) (my : mayS (rdSp l p.f1) = true) :
    (⟨rd nums p.f1, rd nums p.f0, (rdSp l p.f1).f6 - (rdSp l p.f0).f6, p, false⟩ : L.Edge) ∈ edgesB mayS l nums ps ∧ (⟨rd nums p.f0, rd nums p.f1, (rdSp l p.f0).f7 - (rdSp l p.f1).f7 - ((rdSp l p.f1).f6 - (rdSp l p.f0).f6), p, true⟩ : L.Edge) ∈ edgesB mayS l nums ps := by
  have hg := gaps_of h0 h1 h2 h3 mx my
  have he : edgesAt mayS l nums p = [⟨rd nums p.f1, rd nums p.f0, (rdSp l p.f1).f6 - (rdSp l p.f0).f6, p, false⟩, ⟨rd nums p.f0, rd nums p.f1, (rdSp l p.f0).f7 - (rdSp l p.f1).f7 - ((rdSp l p.f1).f6 - (rdSp l p.f0).f6), p, true⟩] := by
    unfold edgesAt; simp [hg]
  constructor
  · exact List.mem_flatMap.2 ⟨p, hp, by rw [he]; exact List.mem_cons_self ..⟩
  · exact List.mem_flatMap.2 ⟨p, hp, by rw [he]; exact List.mem_cons_of_mem _ (List.mem_cons_self ..)⟩
theorem edges_from {l : List S42} {nums : List Int} {ps : List S35} {e : L.Edge} (h : e ∈ edgesB mayS l nums ps) (hps : ∀ p ∈ ps, 0 ≤ p.f0 ∧ p.f0 < l.length ∧ 0 ≤ p.f1 ∧ p.f1 < l.length ∧ mayS (rdSp l p.f0) = true ∧ mayS (rdSp l p.f1) = true) :
    ∃ p ∈ ps, e = ⟨rd nums p.f1, rd nums p.f0, (rdSp l p.f1).f6 - (rdSp l p.f0).f6, p, false⟩ ∨ e = ⟨rd nums p.f0, rd nums p.f1, (rdSp l p.f0).f7 - (rdSp l p.f1).f7 - ((rdSp l p.f1).f6 - (rdSp l p.f0).f6), p, true⟩ := by
  obtain ⟨p, hp, he⟩ := List.mem_flatMap.1 h
  obtain ⟨h0, h1, h2, h3, mx, my⟩ := hps p hp
  have hg := gaps_of h0 h1 h2 h3 mx my
  unfold edgesAt at he
  rw [hg] at he
  simp only [if_true, List.mem_cons, List.not_mem_nil, or_false] at he
  exact ⟨p, hp, he⟩
theorem rd_nums (l : List S42) (i : Int) (h0 : 0 ≤ i) (h1 : i < l.length) : 0 ≤ rd (numsL l) i ∧ rd (numsL l) i < (hostsB l).length := by
  have hl : (numsL l).length = l.length := by unfold numsL; rw [List.length_map]
  refine numsL_in l _ ?_
  have hx : i.toNat < (numsL l).length := by omega
  rw [show rd (numsL l) i = (numsL l)[i.toNat] by simp [rd, List.getD, hx]]
  exact List.getElem_mem _
theorem any_beyond {n : Nat} {o : List Int} (hl : o.length = n) (hw : within n o (-144115188075855872)) : o.any beyondB = false := by
  rw [List.any_eq_false]
  intro x hx
  obtain ⟨i, hi, rfl⟩ := List.mem_iff_getElem.1 hx
  have := hw i (by omega) (by omega)
  have hr : rd o (i : Int) = o[i] := by simp [rd, List.getD, hi]
  rw [hr] at this
  unfold beyondB
  simp only [Bool.or_eq_true, decide_eq_true_eq]
  omega
theorem ShiftRight (l0 : List (S42)) (w0 : (l0.length ≤ maxLen ∧ l0.length * 80 ≤ reachBytes ∧ ∀ x ∈ l0, wf42 x)) : ∃ k, merkhetlaw18_ShiftRight.f k l0 = some true := by
  obtain ⟨_, _, hw⟩ := w0
  refine Ev.rounds (g := fun k => merkhetlaw18_ShiftRight.f k l0) ?_
  unfold merkhetlaw18_ShiftRight.f
  have hfr : ∀ s ∈ l0, fitR s := fun s hs => fit_wf (hw s hs)
  have hf : ∀ s ∈ l0, fitS s := fun s hs => (hfr s hs).1
  obtain ⟨b, hb, hb2⟩ := great_ev l0
  refine Ev.bind hb (Ev.ite (fun h => Ev.bind fixed18 (Ev.now _)) (fun h => ?_))
  obtain ⟨h60, _⟩ := hb2 (by simpa using h)
  have hpl := parL_length l0
  refine Ev.bind (par_ev l0 (by omega)) (Ev.bind (solved_ev l0 (parL l0) h60 (by omega) hf) ?_)
  have hhl := hostsB_length l0
  cases hs : solvedB l0 (parL l0) with
  | mk o ok =>
  cases ok with
  | false =>
    have ho : o = [] := by
      unfold solvedB solveB at hs
      split at hs
      · split at hs
        · injection hs with _ h; cases h
        · injection hs with h _; exact h.symm
      · injection hs with h _; exact h.symm
    subst ho
    exact Ev.neg (by simp) (Ev.bind fixed18 (Ev.pos rfl (Ev.now _)))
  | true =>
  have hm : mayA l0 = true := by
    unfold solvedB at hs
    split at hs
    · assumption
    · injection hs with _ h; cases h
  have hsv : solveB ((hostsB l0).length : Int) (edgesP l0 (parL l0)) = (o, true) := by
    unfold solvedB at hs
    rw [if_pos hm] at hs
    exact hs
  obtain ⟨n0, n32, hin, hsm, ho, ho2, hol, hwi, hed⟩ := solved_facts hsv
  rw [Int.toNat_natCast] at hol hwi hin ho
  have hall : ∀ s ∈ l0, mayS s = true := by
    intro s hs
    unfold mayA at hm
    exact List.all_eq_true.1 hm s hs
  have hst : startsB l0 o = (startsL l0 o, true) := by
    unfold startsB
    rw [if_pos ⟨hm, hol, any_beyond hol hwi⟩]
  have hsl : (startsL l0 o).length = l0.length := by simp [startsL]
  have hrs : ∀ i : Int, 0 ≤ i → i < l0.length → rd (startsL l0 o) i = (rdSp l0 i).f6 + rd o (rd (numsL l0) i) ∧ 0 ≤ (rdSp l0 i).f6 ∧ (rdSp l0 i).f6 < 1125899906842624 ∧ 0 ≤ (rdSp l0 i).f7 ∧ (rdSp l0 i).f7 ≤ 1125899906842624 ∧ -144115188075855872 ≤ rd o (rd (numsL l0) i) ∧ rd o (rd (numsL l0) i) ≤ 0 := by
    intro i h0 h1
    have hb := mayS_le (hall _ (show rdSp l0 i ∈ l0 from by
      have hx : i.toNat < l0.length := by omega
      rw [show rdSp l0 i = l0[i.toNat] by simp [rd_T42, List.getD, hx]]
      exact List.getElem_mem _))
    have hn := rd_nums l0 i h0 h1
    have hw := hwi _ hn.1 hn.2
    refine ⟨?_, hb.1, hb.2.1, hb.2.2.1, hb.2.2.2, hw.1, hw.2⟩
    have hx : i.toNat < l0.length := by omega
    have e1 : rd (startsL l0 o) i = startAt o (numsL l0) (rdSp l0 (i.toNat : Int)) (i.toNat : Int) := by
      unfold startsL
      rw [rd_map_range _ _ _ h0 h1]
    rw [e1, show ((i.toNat : Nat) : Int) = i by omega]
    unfold startAt
    exact wrap_id (by omega) (by omega)
  refine Ev.pos rfl (Ev.bind (a := startsB l0 o) (Ev.const ?_) ?_)
  · unfold shift_Starts.f; rw [if_pos ⟨hf, by omega, by show o.length ≤ _; omega⟩]
  rw [hst]
  refine Ev.pos rfl ?_
  rw [show (((startsL l0 o).length : Int) != (l0.length : Int)) = false by rw [hsl]; simp]
  refine Ev.succ ?_
  simp only [merkhetlaw18_ShiftRight.j0]
  refine Ev.neg (by simp) ?_
  have hpm : ∀ p ∈ pairsB l0 (parL l0), 0 ≤ p.f0 ∧ p.f0 < l0.length ∧ 0 ≤ p.f1 ∧ p.f1 < l0.length ∧ mayS (rdSp l0 p.f0) = true ∧ mayS (rdSp l0 p.f1) = true := fun p hp => pairsP_mem hp
  have hpbl := pairsB_length l0 (parL l0)
  -- the last loop
  have three : ∀ (q : Bool), (q = true → ∀ j : Int, 0 ≤ j → j < o.length → rd o j = 0) → ∀ (d i : Nat), o.length - i = d → i ≤ o.length → Ev (fun k => merkhetlaw18_ShiftRight.l2 k q o (o.length : Int) (i : Int)) true := by
    intro q hq d
    induction d with
    | zero =>
      intro i hd hi
      refine Ev.succ ?_
      simp only [merkhetlaw18_ShiftRight.l2]
      exact Ev.neg (by omega) (Ev.bind fixed18 (Ev.now _))
    | succ d ih =>
      intro i hd hi
      have h2 := ih (i + 1) (by omega) (by omega)
      refine Ev.succ ?_
      simp only [merkhetlaw18_ShiftRight.l2]
      refine Ev.pos (by omega) (Ev.pos (by omega) (Ev.pos (by omega) ?_))
      rw [wrap_id (by omega) (by omega)]
      refine Ev.ite (fun c => ?_) (fun c => h2)
      exact Ev.pos (hq c i (by omega) (by omega)) h2
  -- the pairs
  have two : ∀ (d i : Nat) (q : Bool), (pairsB l0 (parL l0)).length - i = d → i ≤ (pairsB l0 (parL l0)).length → (q = true → ∀ p ∈ (pairsB l0 (parL l0)).take i, 0 ≤ (gapsB mayS l0 p.f0 p.f1).1 ∧ 0 ≤ (gapsB mayS l0 p.f0 p.f1).2.1) → Ev (fun k => merkhetlaw18_ShiftRight.l1 k l0 o (startsL l0 o) q (pairsB l0 (parL l0)) ((pairsB l0 (parL l0)).length : Int) (i : Int)) true := by
    intro d
    induction d with
    | zero =>
      intro i q hd hi hq
      rw [List.take_of_length_le (by omega)] at hq
      refine Ev.succ ?_
      simp only [merkhetlaw18_ShiftRight.l1]
      refine Ev.neg (by omega) (three q (fun hqt => ?_) o.length 0 (by omega) (by omega))
      intro j j0 j1
      have hpos : ∀ e ∈ edgesP l0 (parL l0), 0 ≤ e.f2 := by
        intro e he
        obtain ⟨p, hp, h⟩ := edges_from he hpm
        obtain ⟨a0, a1, a2, a3, mx, my⟩ := hpm p hp
        have hg := hq hqt p hp
        rw [gaps_of a0 a1 a2 a3 mx my] at hg
        rcases h with rfl | rfl
        · exact hg.1
        · exact hg.2
      rw [ho]
      exact lay_zero _ _ hin hsm hpos _ j j0 (by omega)
    | succ d ih =>
      intro i q hd hi hq
      have hlt : i < (pairsB l0 (parL l0)).length := by omega
      have hr : rd_T35 (pairsB l0 (parL l0)) (i : Int) = (pairsB l0 (parL l0))[i] := by simp [rd_T35, List.getD, hlt]
      have hmem := List.getElem_mem hlt
      have ht := List.take_succ_eq_append_getElem hlt
      refine Ev.succ ?_
      simp only [merkhetlaw18_ShiftRight.l1, hr]
      generalize (pairsB l0 (parL l0))[i] = p at *
      obtain ⟨a0, a1, a2, a3, mx, my⟩ := hpm p hmem
      have hg := gaps_of a0 a1 a2 a3 mx my
      have step : ∀ q' : Bool, (q' = true → q = true ∧ 0 ≤ (gapsB mayS l0 p.f0 p.f1).1 ∧ 0 ≤ (gapsB mayS l0 p.f0 p.f1).2.1) → Ev (fun k => merkhetlaw18_ShiftRight.j3 k l0 o (startsL l0 o) q' (pairsB l0 (parL l0)) ((pairsB l0 (parL l0)).length : Int) (i : Int) p.f0 p.f1) true := by
        intro q' hq'
        have h2 := ih (i + 1) q' (by omega) (by omega) (by
          intro h p' hp'
          rw [ht] at hp'
          rcases List.mem_append.1 hp' with h' | h'
          · exact hq (hq' h).1 p' h'
          · rw [List.mem_singleton.1 h']; exact (hq' h).2)
        have em := edges_mem l0 (numsL l0) hmem a0 a1 a2 a3 mx my
        have e1 := hed _ em.1
        have e2 := hed _ em.2
        have r0 := hrs p.f0 a0 a1
        have r1 := hrs p.f1 a2 a3
        dsimp only at e1 e2
        refine Ev.succ ?_
        simp only [merkhetlaw18_ShiftRight.j3]
        rw [wrap_id (i := (i : Int) + 1) (by omega) (by omega)]
        change Ev (fun k => if 0 ≤ p.f1 then (if p.f1 < ((startsL l0 o).length : Int) then (if 0 ≤ p.f0 then (if p.f0 < ((startsL l0 o).length : Int) then (if rd (startsL l0 o) p.f1 < rd (startsL l0 o) p.f0 then some false else (if p.f1 < (l0.length : Int) then (if p.f0 < (l0.length : Int) then (if wrap64 (rd (startsL l0 o) p.f1 + (rdSp l0 p.f1).f7) > wrap64 (rd (startsL l0 o) p.f0 + (rdSp l0 p.f0).f7) then some false else merkhetlaw18_ShiftRight.l1 k l0 o (startsL l0 o) q' (pairsB l0 (parL l0)) ((pairsB l0 (parL l0)).length : Int) ((i : Int) + 1)) else none) else none)) else none) else none) else none) else none) true
        rw [r0.1, r1.1, wrap_id (i := (rdSp l0 p.f1).f6 + rd o (rd (numsL l0) p.f1) + (rdSp l0 p.f1).f7) (by omega) (by omega), wrap_id (i := (rdSp l0 p.f0).f6 + rd o (rd (numsL l0) p.f0) + (rdSp l0 p.f0).f7) (by omega) (by omega)]
        refine Ev.pos a2 (Ev.pos (by omega) (Ev.pos a0 (Ev.pos (by omega) (Ev.neg (by omega) (Ev.pos a3 (Ev.pos a1 (Ev.neg (by omega) ?_)))))))
        exact h2
      refine Ev.pos (by omega) (Ev.pos (by omega) (Ev.pos (by omega) (Ev.bind (a := gapsB mayS l0 p.f0 p.f1) (Ev.const ?_) ?_)))
      · unfold merkhetref12_Gaps.f; rw [if_pos hfr]
      · refine Ev.ite (fun c => Ev.ite (fun c2 => step _ (fun h => ⟨c, c2, of_decide_eq_true h⟩)) (fun c2 => step false (fun h => by cases h))) (fun c => step false (fun h => by cases h))
  -- the starts
  have one : ∀ (d i : Nat), (startsL l0 o).length - i = d → i ≤ (startsL l0 o).length → Ev (fun k => merkhetlaw18_ShiftRight.l0 k l0 (parL l0) o (startsL l0 o) (startsL l0 o) ((startsL l0 o).length : Int) (i : Int)) true := by
    intro d
    induction d with
    | zero =>
      intro i hd hi
      refine Ev.succ ?_
      simp only [merkhetlaw18_ShiftRight.l0]
      exact Ev.neg (by omega) (Ev.bind (rpairs_ev l0 (by omega) hfr _ (by omega)) (two (pairsB l0 (parL l0)).length 0 true (by omega) (by omega) (by simp)))
    | succ d ih =>
      intro i hd hi
      have h2 := ih (i + 1) (by omega) (by omega)
      have r0 := hrs i (by omega) (by omega)
      refine Ev.succ ?_
      simp only [merkhetlaw18_ShiftRight.l0]
      rw [wrap_id (by omega) (by omega)]
      exact Ev.pos (by omega) (Ev.pos (by omega) (Ev.pos (by omega) (Ev.neg (by omega) (Ev.neg (by omega) h2))))
  exact one (startsL l0 o).length 0 (by omega) (by omega)
end Go.Proofs.Ytjgpggjjgimibaa.Pure

