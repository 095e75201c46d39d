/- Texts joined by wip/tools/merge.py: Sx2 Arr2 ROpens SOpens TalQ KidP KidR May18 Ref15 Rx3 Rx4 OwnL SpanN RefG OwnM. -/
import Derived.Test.YtmfdhcgdibefiaaJStatsSums1
import Derived.Test.YtmfdhcgdibefiaaJStatsSums26
import Derived.Test.YtmfdhcgdibefiaaJStatsSums25
import Derived.KernelRfl
import Derived.Test.YtmfdhcgdibefiaaJStatsSums23
-- Written by wip/tools/gp.py, a program of this session round the kit's printer. Lean checks it.
namespace Go.Proofs.Ytmfdhcgdibefiaa.S
open Go.RowKit Go.Proofs.Ytmfdhcgdibefiaa.Q Go.Proofs.Ytmfdhcgdibefiaa.R Go.Proofs.YtmfdhcgdibefiaaW.PrintWords Go.Proofs.YtmfdhcgdibefiaaW.PrintLast Go.Proofs.YtmfdhcgdibefiaaW.PrintMore
attribute [local go_sem] max2_int min2_int max_two min_two max_three min_three max_four min_four   -- for this text's walks alone
set_option linter.unusedVariables false
set_option linter.unusedSimpArgs false

/-! ### merkhetlaw27_StatsSums: function 7 -/
mutual
def merkhetlaw27_StatsSums.l0 : Nat → List (S37) → Int → Int → Int → List (S44) → Int → Int → Option (Bool)
  | 0, _, _, _, _, _, _, _ => none
  | k + 1, x0, x3, x4, x5, x18, x19, x20 => if x20 < x19 then (if 0 ≤ x20 then (if x20 < (x18.length : Int) then (if x20 > 0 then ((stats_Of.f x0).bind fun t108 => (if 0 ≤ (wrap64 (x20 - 1)) then (if (wrap64 (x20 - 1)) < (t108.length : Int) then (if ((Op.bytesLess (((rd_T44 t108 (wrap64 (x20 - 1))).f0).toList) (((rd_T44 x18 x20).f0).toList)) = true) then (if ((rd_T44 x18 x20).f1) < 1 then (none) else (if ((rd_T44 x18 x20).f3) < 0 then (none) else (if ((rd_T44 x18 x20).f4) < 0 then (none) else (merkhetlaw27_StatsSums.j1 k x0 x3 x4 x5 x18 x19 x20 (decide ((wrap64 (((rd_T44 x18 x20).f3) + ((rd_T44 x18 x20).f4))) > ((rd_T44 x18 x20).f1))) ((rd_T44 x18 x20).f0) ((rd_T44 x18 x20).f1) ((rd_T44 x18 x20).f2) ((rd_T44 x18 x20).f3) ((rd_T44 x18 x20).f4))))) else (none)) else (none)) else (none))) else (if ((rd_T44 x18 x20).f1) < 1 then (none) else (if ((rd_T44 x18 x20).f3) < 0 then (none) else (if ((rd_T44 x18 x20).f4) < 0 then (none) else (merkhetlaw27_StatsSums.j1 k x0 x3 x4 x5 x18 x19 x20 (decide ((wrap64 (((rd_T44 x18 x20).f3) + ((rd_T44 x18 x20).f4))) > ((rd_T44 x18 x20).f1))) ((rd_T44 x18 x20).f0) ((rd_T44 x18 x20).f1) ((rd_T44 x18 x20).f2) ((rd_T44 x18 x20).f3) ((rd_T44 x18 x20).f4)))))) else (none)) else (none)) else (merkhetlaw27_StatsSums.l1 k x3 x4 x5 0 0 0 x0 (x0.length : Int) 0)
def merkhetlaw27_StatsSums.j1 : Nat → List (S37) → Int → Int → Int → List (S44) → Int → Int → Bool → ByteArray → Int → Int → Int → Int → Option (Bool)
  | 0, _, _, _, _, _, _, _, _, _, _, _, _, _ => none
  | k + 1, x0, x3, x4, x5, x18, x19, x20, x63, x108000, x108001, x108002, x108003, x108004 => if x63 = true then (some false) else (merkhetlaw27_StatsSums.l0 k x0 (wrap64 (x3 + x108001)) (wrap64 (x4 + x108002)) (wrap64 ((wrap64 (x5 + x108003)) + x108004)) x18 x19 (wrap64 (x20 + 1)))
def merkhetlaw27_StatsSums.l1 : Nat → Int → Int → Int → Int → Int → Int → List (S37) → Int → Int → Option (Bool)
  | 0, _, _, _, _, _, _, _, _, _ => none
  | k + 1, x3, x4, x5, x8, x9, x10, x80, x81, x82 => if x82 < x81 then (if 0 ≤ x82 then (if x82 < (x80.length : Int) then ((stats_Of.f (([(⟨(rd_T37 x80 x82).f0, (rd_T37 x80 x82).f1, (rd_T37 x80 x82).f2, (rd_T37 x80 x82).f3, (rd_T37 x80 x82).f4, (rd_T37 x80 x82).f5, (rd_T37 x80 x82).f6, (rd_T37 x80 x82).f7⟩ : S37)] : List (S37)))).bind fun t118 => (if (t118.length : Int) = 0 then (merkhetlaw27_StatsSums.l1 k x3 x4 x5 x8 x9 x10 x80 x81 (wrap64 (x82 + 1))) else (if ((rd_T37 x80 x82).f3) = 0 then (merkhetlaw27_StatsSums.l1 k x3 x4 x5 (wrap64 (x8 + 1)) (wrap64 (x9 + ((rd_T37 x80 x82).f7))) x10 x80 x81 (wrap64 (x82 + 1))) else (merkhetlaw27_StatsSums.l1 k x3 x4 x5 (wrap64 (x8 + 1)) (wrap64 (x9 + ((rd_T37 x80 x82).f7))) (wrap64 (x10 + 1)) x80 x81 (wrap64 (x82 + 1)))))) else (none)) else (none)) else ((merkhetlaw27_fixed.f k).bind fun t112 => (if t112 = true then (if x3 = x8 then (if x4 = x9 then (some (x5 == x10)) else (some false)) else (some false)) else (some false)))
end
def merkhetlaw27_StatsSums.f (k : Nat) (l0 : List (S37)) : Option (Bool) := (merkhetlaw04_Great.f k l0).bind fun t101 => (if t101 = true then ((merkhetlaw27_fixed.f k).bind fun t102 => (some t102)) else ((stats_Of.f l0).bind fun t103 => (merkhetlaw27_StatsSums.l0 k l0 0 0 0 t103 (t103.length : Int) 0)))
theorem merkhetlaw27_StatsSums.mono_l : ∀ k, (∀ y0 y1 y2 y3 y4 y5 y6, LeO (merkhetlaw27_StatsSums.l0 k y0 y1 y2 y3 y4 y5 y6) (merkhetlaw27_StatsSums.l0 (k + 1) y0 y1 y2 y3 y4 y5 y6)) ∧ (∀ y0 y1 y2 y3 y4 y5 y6 y7 y8 y9 y10 y11 y12, LeO (merkhetlaw27_StatsSums.j1 k y0 y1 y2 y3 y4 y5 y6 y7 y8 y9 y10 y11 y12) (merkhetlaw27_StatsSums.j1 (k + 1) y0 y1 y2 y3 y4 y5 y6 y7 y8 y9 y10 y11 y12)) ∧ (∀ y0 y1 y2 y3 y4 y5 y6 y7 y8, LeO (merkhetlaw27_StatsSums.l1 k y0 y1 y2 y3 y4 y5 y6 y7 y8) (merkhetlaw27_StatsSums.l1 (k + 1) y0 y1 y2 y3 y4 y5 y6 y7 y8))
  | 0 => ⟨fun _ _ _ _ _ _ _ r h => by simp [merkhetlaw27_StatsSums.l0] at h, fun _ _ _ _ _ _ _ _ _ _ _ _ _ r h => by simp [merkhetlaw27_StatsSums.j1] at h, fun _ _ _ _ _ _ _ _ _ r h => by simp [merkhetlaw27_StatsSums.l1] at h⟩
  | k + 1 => by
    obtain ⟨ih0, ih1, ih2⟩ := merkhetlaw27_StatsSums.mono_l k
    refine ⟨?_, ?_, ?_⟩
    · intro y0 y1 y2 y3 y4 y5 y6
      unfold merkhetlaw27_StatsSums.l0
      repeat' first
      | (with_reducible exact ih0 _ _ _ _ _ _ _)
      | (with_reducible exact ih1 _ _ _ _ _ _ _ _ _ _ _ _ _)
      | (with_reducible exact ih2 _ _ _ _ _ _ _ _ _)
      | (with_reducible exact merkhetlaw04_Great.mono _ _)
      | (with_reducible exact merkhetlaw27_fixed.mono _)
      | (with_reducible exact LeO.refl _)
      | (with_reducible exact LeO.none _)
      | (with_reducible refine LeO.ite ?_ ?_)
      | (with_reducible refine LeO.bind ?_ (fun _ => ?_))
      | exact ih0 _ _ _ _ _ _ _
      | exact ih1 _ _ _ _ _ _ _ _ _ _ _ _ _
      | exact ih2 _ _ _ _ _ _ _ _ _
      | exact merkhetlaw04_Great.mono _ _
      | exact merkhetlaw27_fixed.mono _
      | exact LeO.none _
      | refine LeO.ite ?_ ?_
      | refine LeO.bind ?_ (fun _ => ?_)
    · intro y0 y1 y2 y3 y4 y5 y6 y7 y8 y9 y10 y11 y12
      unfold merkhetlaw27_StatsSums.j1
      repeat' first
      | (with_reducible exact ih0 _ _ _ _ _ _ _)
      | (with_reducible exact ih1 _ _ _ _ _ _ _ _ _ _ _ _ _)
      | (with_reducible exact ih2 _ _ _ _ _ _ _ _ _)
      | (with_reducible exact merkhetlaw04_Great.mono _ _)
      | (with_reducible exact merkhetlaw27_fixed.mono _)
      | (with_reducible exact LeO.refl _)
      | (with_reducible exact LeO.none _)
      | (with_reducible refine LeO.ite ?_ ?_)
      | (with_reducible refine LeO.bind ?_ (fun _ => ?_))
      | exact ih0 _ _ _ _ _ _ _
      | exact ih1 _ _ _ _ _ _ _ _ _ _ _ _ _
      | exact ih2 _ _ _ _ _ _ _ _ _
      | exact merkhetlaw04_Great.mono _ _
      | exact merkhetlaw27_fixed.mono _
      | exact LeO.none _
      | refine LeO.ite ?_ ?_
      | refine LeO.bind ?_ (fun _ => ?_)
    · intro y0 y1 y2 y3 y4 y5 y6 y7 y8
      unfold merkhetlaw27_StatsSums.l1
      repeat' first
      | (with_reducible exact ih0 _ _ _ _ _ _ _)
      | (with_reducible exact ih1 _ _ _ _ _ _ _ _ _ _ _ _ _)
      | (with_reducible exact ih2 _ _ _ _ _ _ _ _ _)
      | (with_reducible exact merkhetlaw04_Great.mono _ _)
      | (with_reducible exact merkhetlaw27_fixed.mono _)
      | (with_reducible exact LeO.refl _)
      | (with_reducible exact LeO.none _)
      | (with_reducible refine LeO.ite ?_ ?_)
      | (with_reducible refine LeO.bind ?_ (fun _ => ?_))
      | exact ih0 _ _ _ _ _ _ _
      | exact ih1 _ _ _ _ _ _ _ _ _ _ _ _ _
      | exact ih2 _ _ _ _ _ _ _ _ _
      | exact merkhetlaw04_Great.mono _ _
      | exact merkhetlaw27_fixed.mono _
      | exact LeO.none _
      | refine LeO.ite ?_ ?_
      | refine LeO.bind ?_ (fun _ => ?_)
theorem merkhetlaw27_StatsSums.mono : ∀ a0 k, LeO (merkhetlaw27_StatsSums.f k a0) (merkhetlaw27_StatsSums.f (k + 1) a0) := by
  intro a0 k
  obtain ⟨ih0, ih1, ih2⟩ := merkhetlaw27_StatsSums.mono_l k
  unfold merkhetlaw27_StatsSums.f
  repeat' first
      | (with_reducible exact ih0 _ _ _ _ _ _ _)
      | (with_reducible exact ih1 _ _ _ _ _ _ _ _ _ _ _ _ _)
      | (with_reducible exact ih2 _ _ _ _ _ _ _ _ _)
      | (with_reducible exact merkhetlaw04_Great.mono _ _)
      | (with_reducible exact merkhetlaw27_fixed.mono _)
      | (with_reducible exact LeO.refl _)
      | (with_reducible exact LeO.none _)
      | (with_reducible refine LeO.ite ?_ ?_)
      | (with_reducible refine LeO.bind ?_ (fun _ => ?_))
      | exact ih0 _ _ _ _ _ _ _
      | exact ih1 _ _ _ _ _ _ _ _ _ _ _ _ _
      | exact ih2 _ _ _ _ _ _ _ _ _
      | exact merkhetlaw04_Great.mono _ _
      | exact merkhetlaw27_fixed.mono _
      | exact LeO.none _
      | refine LeO.ite ?_ ?_
      | refine LeO.bind ?_ (fun _ => ?_)
def merkhetlaw27_StatsSums.T7 : Bool × List (List Nat × List Nat) := (true, [([], []), ([0], [0]), ([1], [1]), ([2], [2]), ([3, 2, 2], [2, 3]), ([2], [2]), ([5, 2], [2, 5]), ([4, 6, 2], [2, 4, 6]), ([7, 2], [2, 7]), ([8, 2], [2, 8]), ([2], [2]), ([10, 2], [2, 10]), ([9, 11, 2], [2, 9, 11]), ([2, 12], [2, 12]), ([13, 4], [13]), ([14], [14]), ([15, 14], [14, 15]), ([16, 14], [14, 16]), ([14, 17], [14, 17]), ([18, 14], [18]), ([19], [19]), ([20, 19], [19, 20]), ([21, 19], [19, 21]), ([19, 22], [19, 22]), ([23, 19], [23]), ([24], [24]), ([25, 24], [24, 25]), ([26, 24], [24, 26]), ([24, 27], [24, 27]), ([28, 24], [28]), ([29], [29]), ([30, 29], [29, 30]), ([29], [29]), ([32, 29], [29, 32]), ([31, 33, 29], [29, 31, 33]), ([29], [29]), ([35, 29], [29, 35]), ([34, 36, 29], [29, 34, 36]), ([29, 37], [29, 37])])
def merkhetlaw27_StatsSums.B7 : List Nat := [0, 1, 3, 7, 15, 7, 39, 127, 255, 511, 7, 1031, 4095, 8191, 16383, 32767, 65535, 131071, 262143, 524287, 1048575, 2097151, 4194303, 8388607, 16777215, 33554431, 67108863, 134217727, 268435455, 536870911, 1073741823, 2147483647, 1073741823, 5368709119, 17179869183, 1073741823, 35433480191, 137438953471, 274877906943]
theorem merkhetlaw27_StatsSums.tab7 : rtab .any (opsOf Try.f7 7) = merkhetlaw27_StatsSums.T7 := by kernel_rfl
theorem merkhetlaw27_StatsSums.bits7 : waitsOk merkhetlaw27_StatsSums.T7.2 merkhetlaw27_StatsSums.B7 = true := by kernel_rfl
def merkhetlaw27_StatsSums.T9 : Bool × List (List Nat × List Nat) := (true, [([], []), ([], []), ([1], [1]), ([0, 2], [0, 2]), ([], []), ([], []), ([5], [5]), ([4, 6], [4, 6]), ([], []), ([], []), ([9], [9]), ([8, 10], [8, 10]), ([], []), ([12], [12]), ([11, 13], [11, 13]), ([3, 0, 1, 2, 3], [0, 3]), ([7, 15, 0, 1, 2, 3, 4, 5, 6, 7, 15], [4, 7]), ([14, 16, 0, 1, 2, 3, 4, 5, 6, 7, 8, 9, 10, 11, 12, 13, 14, 15, 16], [8, 14])])
def merkhetlaw27_StatsSums.B9 : List Nat := [0, 0, 2, 7, 0, 0, 32, 112, 0, 0, 512, 1792, 0, 4096, 16128, 15, 33023, 131071]
theorem merkhetlaw27_StatsSums.tab9 : rtab .any (opsOf Try.f7 9) = merkhetlaw27_StatsSums.T9 := by kernel_rfl
theorem merkhetlaw27_StatsSums.bits9 : waitsOk merkhetlaw27_StatsSums.T9.2 merkhetlaw27_StatsSums.B9 = true := by kernel_rfl
def merkhetlaw27_StatsSums.T17 : Bool × List (List Nat × List Nat) := (true, [([], []), ([0], [0]), ([], []), ([], []), ([3], [3]), ([2, 4], [2, 4]), ([1, 0, 1], [0, 1]), ([5, 6, 0, 1, 2, 3, 4, 5, 6], [2, 5])])
def merkhetlaw27_StatsSums.B17 : List Nat := [0, 1, 0, 0, 8, 28, 3, 127]
theorem merkhetlaw27_StatsSums.tab17 : rtab .any (opsOf Try.f7 17) = merkhetlaw27_StatsSums.T17 := by kernel_rfl
theorem merkhetlaw27_StatsSums.bits17 : waitsOk merkhetlaw27_StatsSums.T17.2 merkhetlaw27_StatsSums.B17 = true := by kernel_rfl
set_option maxHeartbeats 8000000 in
set_option maxRecDepth 100000 in
theorem merkhetlaw27_StatsSums.calls (k : Nat) (A0 : Option Addr) (c0 : Nat) (l0 : List (S37)) (r : Bool) (w : World) (hr0 : Kd.C k37 w A0 l0.length l0) (hc0 : l0.length ≤ c0) (h : merkhetlaw27_StatsSums.f k l0 = some r) :
    Calls Try.prog 7 #[.slice A0 l0.length c0] w fun e w' => e = .returned (.bool r) ∧ Below w.heap.size w w' := by
  have hu44 := Try.underlying44
  have hu37 := Try.underlying37
  have HR0 := Aside0.mk hr0
  have HC0 := Aside0.mk hc0
  clear hr0 hc0
  have HB := Aside0.mk (Below.refl w.heap.size w)
  have H : ((merkhetlaw04_Great.f k l0).bind fun t101 => (if t101 = true then ((merkhetlaw27_fixed.f k).bind fun t102 => (some t102)) else ((stats_Of.f l0).bind fun t103 => (merkhetlaw27_StatsSums.l0 k l0 0 0 0 t103 (t103.length : Int) 0)))) = some r := h
  clear h
  replace H := Option.bind_eq_some_iff.mp H
  obtain ⟨t101, A20, H⟩ := H
  replace H : (if t101 = true then ((merkhetlaw27_fixed.f k).bind fun t102 => (some t102)) else ((stats_Of.f l0).bind fun t103 => (merkhetlaw27_StatsSums.l0 k l0 0 0 0 t103 (t103.length : Int) 0))) = some r := H
  have A2 := Aside0.mk A20
  clear A20
  by_cases c3 : t101 = true
  · subst c3
    have H1 : ((merkhetlaw27_fixed.f k).bind fun t102 => (some t102)) = some r := by rw [if_pos rfl] at H; exact H
    clear H
    have H := H1
    clear H1
    replace H := Option.bind_eq_some_iff.mp H
    obtain ⟨t102, A40, H⟩ := H
    replace H : (some t102) = some r := H
    have A4 := Aside0.mk A40
    clear A40
    obtain rfl := Option.some.inj H
    go_enter Try.func7, Try.ntmps7
    go_wp2_with (first | ((with_reducible refine gate_callee (f := 15) rfl ?_); refine goesL_ (some 15) rfl rfl Try.func15 (by kernel_rfl) rfl #[.slice A0 l0.length c0] rfl (by (try simp only [List.map_toArray, List.map_cons, List.map_nil]); first | done | rfl | (simp only [List.length_drop, List.length_take]; rfl)) ?_; (with_reducible refine (merkhetlaw04_Great.calls k _ _ l0 true _ ?side1 ?side2 A2.out).mono ?_); (case side1 => repeat (first | exact HR0.out | (with_reducible refine Kd.C_alloc ?_ _) | (with_reducible refine Kd.C_drewN ?_ _) | (with_reducible refine Kd.C_drew ?_))); (case side2 => exact HC0.out); rintro e w5 ⟨rfl, hb⟩; refine ⟨_, rfl, ?_⟩; have n0_ := Aside0.mk (below_step (by repeat (first | (with_reducible first | exact HB.out | apply below_alloc | apply pw_below_drewN | apply below_drew1) | exact HB.out)) hb); clear HB; have HB := n0_; clear n0_; (try clear hb); (try clear hb2); (try clear hk); (try clear hi)) | ((with_reducible refine gate_callee (f := 12) rfl ?_); refine goesL_ (some 16) rfl rfl Try.func12 (by kernel_rfl) rfl #[] rfl (by (try simp only [List.map_toArray, List.map_cons, List.map_nil]); first | done | rfl | (simp only [List.length_drop, List.length_take]; rfl)) ?_; (with_reducible refine (merkhetlaw27_fixed.calls k  t102 _ A4.out).mono ?_); rintro e w6 ⟨rfl, hb⟩; refine ⟨_, rfl, ?_⟩; have n0_ := Aside0.mk (below_step (by repeat (first | (with_reducible first | exact HB.out | apply below_alloc | apply pw_below_drewN | apply below_drew1) | exact HB.out)) hb); clear HB; have HB := n0_; clear n0_; (try clear hb); (try clear hb2); (try clear hk); (try clear hi)))
    go_ret
    exact ⟨by first | rfl | (simp [errW_none, errW_some] <;> rfl) | (simp [*, errW_none, errW_some] <;> rfl), by repeat (first | (with_reducible first | exact HB.out | apply below_alloc | apply pw_below_drewN | apply below_drew1) | exact HB.out)⟩
  · replace c3 := Bool.eq_false_iff.mpr c3
    subst c3
    have H1 : ((stats_Of.f l0).bind fun t103 => (merkhetlaw27_StatsSums.l0 k l0 0 0 0 t103 (t103.length : Int) 0)) = some r := by rw [if_neg (show ¬ (false = true) by decide)] at H; exact H
    clear H
    have H := H1
    clear H1
    replace H := Option.bind_eq_some_iff.mp H
    obtain ⟨t103, A70, H⟩ := H
    replace H : (merkhetlaw27_StatsSums.l0 k l0 0 0 0 t103 (t103.length : Int) 0) = some r := H
    have A7 := Aside0.mk A70
    clear A70
    have H' := Aside0.mk H
    clear H
    go_enter Try.func7, Try.ntmps7
    go_wp2_with (first | ((with_reducible refine gate_callee (f := 15) rfl ?_); refine goesL_ (some 15) rfl rfl Try.func15 (by kernel_rfl) rfl #[.slice A0 l0.length c0] rfl (by (try simp only [List.map_toArray, List.map_cons, List.map_nil]); first | done | rfl | (simp only [List.length_drop, List.length_take]; rfl)) ?_; (with_reducible refine (merkhetlaw04_Great.calls k _ _ l0 false _ ?side1 ?side2 A2.out).mono ?_); (case side1 => repeat (first | exact HR0.out | (with_reducible refine Kd.C_alloc ?_ _) | (with_reducible refine Kd.C_drewN ?_ _) | (with_reducible refine Kd.C_drew ?_))); (case side2 => exact HC0.out); rintro e w8 ⟨rfl, hb⟩; refine ⟨_, rfl, ?_⟩; have n0_ := Aside0.mk (below_step (by repeat (first | (with_reducible first | exact HB.out | apply below_alloc | apply pw_below_drewN | apply below_drew1) | exact HB.out)) hb); clear HB; have HB := n0_; clear n0_; (try clear hb); (try clear hb2); (try clear hk); (try clear hi)) | ((with_reducible refine gate_callee (f := 21) rfl ?_); refine goesL_ (some 18) rfl rfl Try.func21 (by kernel_rfl) rfl #[.slice A0 l0.length c0] rfl (by (try simp only [List.map_toArray, List.map_cons, List.map_nil]); first | done | rfl | (simp only [List.length_drop, List.length_take]; rfl)) ?_; (with_reducible refine (stats_Of.calls _ _ l0 t103 _ ?side1 ?side2 A7.out).mono ?_); (case side1 => repeat (first | exact (Kd.C_below HR0.out HB.out) | (with_reducible refine Kd.C_alloc ?_ _) | (with_reducible refine Kd.C_drewN ?_ _) | (with_reducible refine Kd.C_drew ?_))); (case side2 => exact HC0.out); rintro e w9 ⟨v104, rfl, ho0, hb⟩; refine ⟨_, rfl, ?_⟩; have n0_ := Aside0.mk (Kd.R_lower ho0 (below_size (by repeat (first | (with_reducible first | exact HB.out | apply below_alloc | apply pw_below_drewN | apply below_drew1) | exact HB.out)))); have n1_ := Aside0.mk (below_step (by repeat (first | (with_reducible first | exact HB.out | apply below_alloc | apply pw_below_drewN | apply below_drew1) | exact HB.out)) hb); clear HB; have HO105 := n0_; have HB := n1_; clear n0_ n1_; (try clear hb); (try clear hb2); (try clear hk); (try clear hi); (try clear ho0); obtain ⟨Ao10, co10, eo10⟩ := Kd.R_slice HO105.out; subst eo10))
    go_loopg [3, 4, 5, 20] k (fun kq v3 v4 v5 v20 w' => ∃ (x3_1 : Int) (x4_1 : Int) (x5_1 : Int) (x20_1 : Int), v3 = .int .i64 x3_1 ∧ v4 = .int .i64 x4_1 ∧ v5 = .int .i64 x5_1 ∧ v20 = .int .i64 x20_1 ∧ Aside0 (merkhetlaw27_StatsSums.l0 kq l0 x3_1 x4_1 x5_1 t103 (t103.length : Int) x20_1 = some r) ∧ Aside0 (kq ≤ k) ∧ Aside0 (Kd.R k44 44 w' w.heap.size (fun _ => True) (.slice Ao10 t103.length co10) t103) ∧ Aside0 (Below w.heap.size w w'))
    case atStart => exact ⟨(0), (0), (0), (0), (by first | rfl | (simp; done) | (simp [*]; done)), (by first | rfl | (simp; done) | (simp [*]; done)), (by first | rfl | (simp; done) | (simp [*]; done)), (by first | rfl | (simp; done) | (simp [*]; done)), H', ⟨Nat.le_refl _⟩, ⟨by (with_reducible repeat (first | apply Kd.R_alloc | apply Kd.R_drewN | apply Kd.R_drew)); exact HO105.out⟩, ⟨by repeat (first | (with_reducible first | exact HB.out | apply below_alloc | apply pw_below_drewN | apply below_drew1) | exact HB.out)⟩⟩
    case round =>
      clear H'
      (try clear c1); (try clear c2); (try clear p2); (try clear c3); (try clear c7)
      obtain ⟨x3_1, x4_1, x5_1, x20_1, rfl, rfl, rfl, rfl, HA, HK1, HO_18, HB⟩ := hrel
      cases gk with
      | zero => exact absurd HA.out (by simp [merkhetlaw27_StatsSums.l0])
      | succ k1 =>
        have H := HA.out
        clear HA
        simp only [merkhetlaw27_StatsSums.l0] at H
        by_cases c11 : x20_1 < (t103.length : Int)
        · rw [if_pos c11] at H
          have c11b0 : decide (x20_1 < (t103.length : Int)) = true := decide_eq_true c11
          clear c11
          by_cases c12 : 0 ≤ x20_1
          · rw [if_pos c12] at H
            have c12b0 : decide (0 ≤ x20_1) = true := decide_eq_true c12
            clear c12
            by_cases c13 : x20_1 < (t103.length : Int)
            · rw [if_pos c13] at H
              have c13b0 : decide (x20_1 < (t103.length : Int)) = true := decide_eq_true c13
              clear c13
              have HC14 := Aside0.mk H
              clear H
              have p106 : 0 ≤ (x20_1 : Int) := of_decide_eq_true (by first | (with_reducible assumption) | assumption)
              have q106 : x20_1 < (t103.length : Int) := of_decide_eq_true (by first | (with_reducible assumption) | assumption)
              obtain ⟨ad106, e106, hx106_0, hx106_1, hx106_2, hx106_3, hx106_4⟩ := at_T44 (Kd.R_reads' HO_18.out).2.2 x20_1 p106 q106
              cases e106
              replace p106 := eq_true p106
              replace q106 := eq_true q106
              go_upto_region 7 with (first | ((with_reducible refine gate_dst (N := 7) rfl ?_); refine box_event ?hg (N := 7) ?hd (cs := #[.string (⟨#[]⟩ : ByteArray), .int .i64 0, .int .i64 0, .int .i64 0, .int .i64 0]) (t := 44) ?hr ?_; (case hd => rfl); (case hg => rfl); (case hr => first | (go_simp; done) | (go_simp; rfl)); intro gb107 hg w15 hbox hb; have n0_ := Aside0.mk (Kd.R_below (Kd.R_elderB (by (with_reducible repeat (first | apply Kd.R_alloc | apply Kd.R_drewN | apply Kd.R_drew)); exact HO_18.out) gb107 (Nat.le_of_eq hg.symm)) hb); have n1_ := Aside0.mk (below_step (by repeat (first | (with_reducible first | exact HB.out | apply below_alloc | apply pw_below_drewN | apply below_drew1) | exact HB.out)) hb); have n2_ := Aside0.mk (hbox); have n3_ := Aside0.mk ((by rw [hg]; exact (below_size (by repeat (first | (with_reducible first | exact HB.out | apply below_alloc | apply pw_below_drewN | apply below_drew1) | exact HB.out))) : w.heap.size ≤ gb107)); have n4_ := Aside0.mk ((by rw [hg]; exact (below_size (by repeat (first | (with_reducible first | exact HB.out | apply below_alloc | apply pw_below_drewN | apply below_drew1) | exact HB.out))) : w.heap.size ≤ gb107)); clear HO_18; clear HB; have HO_18 := n0_; have HB := n1_; have BK107 := n2_; have GW107 := n3_; have GE107 := n4_; clear n0_ n1_ n2_ n3_ n4_; clear hb hbox hg; have hcz16_0 : w15.cell? ⟨gb107, 0, none⟩ = some (.string (⟨#[]⟩ : ByteArray)) := (blk_cell BK107.out 0).trans rfl; have hcz16_1 : w15.cell? ⟨gb107, 1, none⟩ = some (.int .i64 0) := (blk_cell BK107.out 1).trans rfl; have hcz16_2 : w15.cell? ⟨gb107, 2, none⟩ = some (.int .i64 0) := (blk_cell BK107.out 2).trans rfl; have hcz16_3 : w15.cell? ⟨gb107, 3, none⟩ = some (.int .i64 0) := (blk_cell BK107.out 3).trans rfl; have hcz16_4 : w15.cell? ⟨gb107, 4, none⟩ = some (.int .i64 0) := (blk_cell BK107.out 4).trans rfl; have hfz16_0 := blk_frozen BK107.out 0; have hfz16_1 := blk_frozen BK107.out 1; have hfz16_2 := blk_frozen BK107.out 2; have hfz16_3 := blk_frozen BK107.out 3; have hfz16_4 := blk_frozen BK107.out 4))
              (try simp only [Act.put, List.setIfInBounds_toArray, List.set_cons_zero, List.set_cons_succ])
              go_cut [63] (fun v63 wc => ∃ (kq : Nat) (x63_13 : Bool), v63 = .bool x63_13 ∧ Aside0 (merkhetlaw27_StatsSums.j1 kq l0 x3_1 x4_1 x5_1 t103 (t103.length : Int) x20_1 x63_13 ((rd_T44 t103 x20_1).f0) ((rd_T44 t103 x20_1).f1) ((rd_T44 t103 x20_1).f2) ((rd_T44 t103 x20_1).f3) ((rd_T44 t103 x20_1).f4) = some r) ∧ Aside0 (kq ≤ k1) ∧ Aside0 (Kd.R k44 44 wc w.heap.size (fun k_ => k_ ≠ gb107) (.slice (some ad106) t103.length co10) t103) ∧ Aside0 (wc.heap[gb107]? = some (.cells #[.string ((rd_T44 t103 x20_1).f0), .int .i64 ((rd_T44 t103 x20_1).f1), .int .i64 ((rd_T44 t103 x20_1).f2), .int .i64 ((rd_T44 t103 x20_1).f3), .int .i64 ((rd_T44 t103 x20_1).f4)] 44 (0, 0))) ∧ Aside0 (Below w.heap.size w wc))
              case first =>
                have H := HC14.out
                clear HC14
                by_cases c17 : x20_1 > 0
                · rw [if_pos c17] at H
                  have c17b0 : decide (0 < x20_1) = true := decide_eq_true c17
                  clear c17
                  (first | rw [c17b0] | (simp only [i64_w, i32_w]; rw [c17b0]) | skip)
                  replace H := Option.bind_eq_some_iff.mp H
                  obtain ⟨t108, A180, H⟩ := H
                  replace H : (if 0 ≤ (wrap64 (x20_1 - 1)) then (if (wrap64 (x20_1 - 1)) < (t108.length : Int) then (if ((Op.bytesLess (((rd_T44 t108 (wrap64 (x20_1 - 1))).f0).toList) (((rd_T44 t103 x20_1).f0).toList)) = true) then (if ((rd_T44 t103 x20_1).f1) < 1 then (none) else (if ((rd_T44 t103 x20_1).f3) < 0 then (none) else (if ((rd_T44 t103 x20_1).f4) < 0 then (none) else (merkhetlaw27_StatsSums.j1 k1 l0 x3_1 x4_1 x5_1 t103 (t103.length : Int) x20_1 (decide ((wrap64 (((rd_T44 t103 x20_1).f3) + ((rd_T44 t103 x20_1).f4))) > ((rd_T44 t103 x20_1).f1))) ((rd_T44 t103 x20_1).f0) ((rd_T44 t103 x20_1).f1) ((rd_T44 t103 x20_1).f2) ((rd_T44 t103 x20_1).f3) ((rd_T44 t103 x20_1).f4))))) else (none)) else (none)) else (none)) = some r := H
                  have A18 := Aside0.mk A180
                  clear A180
                  obtain ⟨ji19, hji19⟩ : ∃ j_ : Int, (wrap64 (x20_1 - 1)) = j_ := ⟨_, rfl⟩
                  replace H : (if 0 ≤ (ji19) then (if (ji19) < (t108.length : Int) then (if ((Op.bytesLess (((rd_T44 t108 (ji19)).f0).toList) (((rd_T44 t103 x20_1).f0).toList)) = true) then (if ((rd_T44 t103 x20_1).f1) < 1 then (none) else (if ((rd_T44 t103 x20_1).f3) < 0 then (none) else (if ((rd_T44 t103 x20_1).f4) < 0 then (none) else (merkhetlaw27_StatsSums.j1 k1 l0 x3_1 x4_1 x5_1 t103 (t103.length : Int) x20_1 (decide ((wrap64 (((rd_T44 t103 x20_1).f3) + ((rd_T44 t103 x20_1).f4))) > ((rd_T44 t103 x20_1).f1))) ((rd_T44 t103 x20_1).f0) ((rd_T44 t103 x20_1).f1) ((rd_T44 t103 x20_1).f2) ((rd_T44 t103 x20_1).f3) ((rd_T44 t103 x20_1).f4))))) else (none)) else (none)) else (none)) = some r := by first | (rw [hji19] at H; exact H) | (simp only [hji19] at H ⊢; exact H)
                  (try rw [hji19] at A18)
                  have hji19w : (IntKind.i64.wrap (x20_1 - 1)) = ji19 := (i64_w _).trans hji19
                  by_cases c20 : 0 ≤ (ji19)
                  · rw [if_pos c20] at H
                    have c20b0 : decide (0 ≤ (ji19)) = true := decide_eq_true c20
                    clear c20
                    by_cases c21 : (ji19) < (t108.length : Int)
                    · rw [if_pos c21] at H
                      have c21b0 : decide ((ji19) < (t108.length : Int)) = true := decide_eq_true c21
                      clear c21
                      by_cases c22 : ((Op.bytesLess (((rd_T44 t108 (ji19)).f0).toList) (((rd_T44 t103 x20_1).f0).toList)) = true)
                      · rw [if_pos c22] at H
                        have c22b0 : (Op.bytesLess (((rd_T44 t108 (ji19)).f0).toList) (((rd_T44 t103 x20_1).f0).toList)) = true := c22
                        clear c22
                        by_cases c23 : ((rd_T44 t103 x20_1).f1) < 1
                        · rw [if_pos c23] at H
                          exact absurd H (by simp)
                        · rw [if_neg c23] at H
                          have c23b0 : decide (((rd_T44 t103 x20_1).f1) < 1) = false := decide_eq_false c23
                          clear c23
                          by_cases c28 : ((rd_T44 t103 x20_1).f3) < 0
                          · rw [if_pos c28] at H
                            exact absurd H (by simp)
                          · rw [if_neg c28] at H
                            have c28b0 : decide (((rd_T44 t103 x20_1).f3) < 0) = false := decide_eq_false c28
                            clear c28
                            by_cases c33 : ((rd_T44 t103 x20_1).f4) < 0
                            · rw [if_pos c33] at H
                              exact absurd H (by simp)
                            · rw [if_neg c33] at H
                              have c33b0 : decide (((rd_T44 t103 x20_1).f4) < 0) = false := decide_eq_false c33
                              clear c33
                              have H' := Aside0.mk H
                              clear H
                              try go_wp2
                              have n0_ : Aside0 (Kd.R k44 44 (((((w15.setCell ⟨gb107, 0, none⟩ (.string ((rd_T44 t103 x20_1).f0))).setCell ⟨gb107, 1, none⟩ (.int .i64 ((rd_T44 t103 x20_1).f1))).setCell ⟨gb107, 2, none⟩ (.int .i64 ((rd_T44 t103 x20_1).f2))).setCell ⟨gb107, 3, none⟩ (.int .i64 ((rd_T44 t103 x20_1).f3))).setCell ⟨gb107, 4, none⟩ (.int .i64 ((rd_T44 t103 x20_1).f4))) w.heap.size (fun k_ => k_ ≠ gb107) (.slice (some ad106) t103.length co10) t103) := ⟨by (with_reducible repeat (first | apply Kd.R_alloc | apply Kd.R_drewN | apply Kd.R_drew)); exact Kd.R_mono (Kd.R_far (p := ⟨gb107, 4, none⟩) (Kd.R_far (p := ⟨gb107, 3, none⟩) (Kd.R_far (p := ⟨gb107, 2, none⟩) (Kd.R_far (p := ⟨gb107, 1, none⟩) (Kd.R_far (p := ⟨gb107, 0, none⟩) (Kd.R_mono HO_18.out (fun k_ hk => (⟨hk, hk.2⟩ : _ ∧ k_ ≠ gb107))) (fun _ hk => hk.2) (.string ((rd_T44 t103 x20_1).f0))) (fun _ hk => hk.2) (.int .i64 ((rd_T44 t103 x20_1).f1))) (fun _ hk => hk.2) (.int .i64 ((rd_T44 t103 x20_1).f2))) (fun _ hk => hk.2) (.int .i64 ((rd_T44 t103 x20_1).f3))) (fun _ hk => hk.2) (.int .i64 ((rd_T44 t103 x20_1).f4))) (fun _ hk => hk.1.2)⟩
                              have n1_ : Aside0 ((((((w15.setCell ⟨gb107, 0, none⟩ (.string ((rd_T44 t103 x20_1).f0))).setCell ⟨gb107, 1, none⟩ (.int .i64 ((rd_T44 t103 x20_1).f1))).setCell ⟨gb107, 2, none⟩ (.int .i64 ((rd_T44 t103 x20_1).f2))).setCell ⟨gb107, 3, none⟩ (.int .i64 ((rd_T44 t103 x20_1).f3))).setCell ⟨gb107, 4, none⟩ (.int .i64 ((rd_T44 t103 x20_1).f4))).heap[gb107]? = some (.cells #[.string ((rd_T44 t103 x20_1).f0), .int .i64 ((rd_T44 t103 x20_1).f1), .int .i64 ((rd_T44 t103 x20_1).f2), .int .i64 ((rd_T44 t103 x20_1).f3), .int .i64 ((rd_T44 t103 x20_1).f4)] 44 (0, 0))) := ⟨by (with_reducible repeat (first | refine blk_drewN ?_ _ | refine blk_drew ?_ | refine blk_alloc ?_ _)); refine blk_put (cs := #[.string ((rd_T44 t103 x20_1).f0), .int .i64 ((rd_T44 t103 x20_1).f1), .int .i64 ((rd_T44 t103 x20_1).f2), .int .i64 ((rd_T44 t103 x20_1).f3), .int .i64 0]) ?_ 4 _ rfl; (with_reducible repeat (first | refine blk_drewN ?_ _ | refine blk_drew ?_ | refine blk_alloc ?_ _)); refine blk_put (cs := #[.string ((rd_T44 t103 x20_1).f0), .int .i64 ((rd_T44 t103 x20_1).f1), .int .i64 ((rd_T44 t103 x20_1).f2), .int .i64 0, .int .i64 0]) ?_ 3 _ rfl; (with_reducible repeat (first | refine blk_drewN ?_ _ | refine blk_drew ?_ | refine blk_alloc ?_ _)); refine blk_put (cs := #[.string ((rd_T44 t103 x20_1).f0), .int .i64 ((rd_T44 t103 x20_1).f1), .int .i64 0, .int .i64 0, .int .i64 0]) ?_ 2 _ rfl; (with_reducible repeat (first | refine blk_drewN ?_ _ | refine blk_drew ?_ | refine blk_alloc ?_ _)); refine blk_put (cs := #[.string ((rd_T44 t103 x20_1).f0), .int .i64 0, .int .i64 0, .int .i64 0, .int .i64 0]) ?_ 1 _ rfl; (with_reducible repeat (first | refine blk_drewN ?_ _ | refine blk_drew ?_ | refine blk_alloc ?_ _)); refine blk_put (cs := #[.string (⟨#[]⟩ : ByteArray), .int .i64 0, .int .i64 0, .int .i64 0, .int .i64 0]) ?_ 0 _ rfl; (with_reducible repeat (first | refine blk_drewN ?_ _ | refine blk_drew ?_ | refine blk_alloc ?_ _)); exact BK107.out⟩
                              have n2_ : Aside0 (Below w.heap.size w (((((w15.setCell ⟨gb107, 0, none⟩ (.string ((rd_T44 t103 x20_1).f0))).setCell ⟨gb107, 1, none⟩ (.int .i64 ((rd_T44 t103 x20_1).f1))).setCell ⟨gb107, 2, none⟩ (.int .i64 ((rd_T44 t103 x20_1).f2))).setCell ⟨gb107, 3, none⟩ (.int .i64 ((rd_T44 t103 x20_1).f3))).setCell ⟨gb107, 4, none⟩ (.int .i64 ((rd_T44 t103 x20_1).f4)))) := ⟨by repeat (first | (with_reducible first | exact HB.out | apply below_alloc | apply pw_below_drewN | apply below_drew1 | refine below_set ?_ GE107.out) | exact HB.out)⟩
                              (try clear HO_18)
                              (try clear BK107)
                              (try clear HB)
                              generalize (((((w15.setCell ⟨gb107, 0, none⟩ (.string ((rd_T44 t103 x20_1).f0))).setCell ⟨gb107, 1, none⟩ (.int .i64 ((rd_T44 t103 x20_1).f1))).setCell ⟨gb107, 2, none⟩ (.int .i64 ((rd_T44 t103 x20_1).f2))).setCell ⟨gb107, 3, none⟩ (.int .i64 ((rd_T44 t103 x20_1).f3))).setCell ⟨gb107, 4, none⟩ (.int .i64 ((rd_T44 t103 x20_1).f4))) = w38 at n0_ n1_ n2_ ⊢
                              have HO_18 := n0_
                              have BK107 := n1_
                              have HB := n2_
                              clear n0_ n1_ n2_
                              have n0_ := Aside0.mk (Kd.R_drew HO_18.out)
                              have n1_ := Aside0.mk (blk_drew BK107.out)
                              have n2_ := Aside0.mk (below_drew1 HB.out)
                              clear HO_18
                              clear BK107
                              clear HB
                              have HO_18 := n0_
                              have BK107 := n1_
                              have HB := n2_
                              clear n0_ n1_ n2_
                              refine start_ (n := 39) (S := fun w' => w'.cell? ⟨gb107, 0, none⟩ = some (.string ((rd_T44 t103 x20_1).f0)) ∧ w'.cell? ⟨gb107, 1, none⟩ = some (.int .i64 ((rd_T44 t103 x20_1).f1)) ∧ w'.cell? ⟨gb107, 2, none⟩ = some (.int .i64 ((rd_T44 t103 x20_1).f2)) ∧ w'.cell? ⟨gb107, 3, none⟩ = some (.int .i64 ((rd_T44 t103 x20_1).f3)) ∧ w'.cell? ⟨gb107, 4, none⟩ = some (.int .i64 ((rd_T44 t103 x20_1).f4))) (ds := []) #[false, false, false, false, false, false, false, false, false, false, false, false, false, false, false, false, false, false, false, false, false, false, false, false, false, false, false, false, false, false, false, false, false, false, false, false, false, false, false] (by kernel_rfl) rfl rfl ⟨(blk_cell BK107.out 0).trans rfl, (blk_cell BK107.out 1).trans rfl, (blk_cell BK107.out 2).trans rfl, (blk_cell BK107.out 3).trans rfl, (blk_cell BK107.out 4).trans rfl⟩ (fun hHeld => ?_); refine with_tabW merkhetlaw27_StatsSums.tab7 merkhetlaw27_StatsSums.bits7 (fun HT_ HW_ => ?_)
                              generalize w38.drew = w39 at HO_18 BK107 HB hHeld ⊢
                              refine pure_ (i := 0) (N := some 25) (v := ?_) (a' := ?_) #[true, false, false, false, false, false, false, false, false, false, false, false, false, false, false, false, false, false, false, false, false, false, false, false, false, false, false, false, false, false, false, false, false, false, false, false, false, false, false] rfl rfl (any_of HT_.out (by kernel_rfl)) (fun _ _ _ h => h) (Or.inl ⟨by rfl, ?_⟩) ?_ ?_
                              rotate_left
                              · intro w'
                                go_simp
                                with_reducible rfl
                              rotate_left
                              · simp only [Act.put, List.setIfInBounds_toArray, List.set_cons_zero, List.set_cons_succ, i64_w, i32_w]
                                rfl
                              refine pure_ (i := 1) (N := some 26) (v := ?_) (a' := ?_) #[true, true, false, false, false, false, false, false, false, false, false, false, false, false, false, false, false, false, false, false, false, false, false, false, false, false, false, false, false, false, false, false, false, false, false, false, false, false, false] rfl rfl (any_of HT_.out (by kernel_rfl)) (fun _ _ _ h => h) (Or.inl ⟨by rfl, ?_⟩) ?_ ?_
                              rotate_left
                              · intro w'
                                go_simp
                                with_reducible rfl
                              rotate_left
                              · simp only [Act.put, List.setIfInBounds_toArray, List.set_cons_zero, List.set_cons_succ, i64_w, i32_w]
                                rfl
                              refine pure_ (i := 2) (N := some 27) (v := ?_) (a' := ?_) #[true, true, true, false, false, false, false, false, false, false, false, false, false, false, false, false, false, false, false, false, false, false, false, false, false, false, false, false, false, false, false, false, false, false, false, false, false, false, false] rfl rfl (any_of HT_.out (by kernel_rfl)) (fun _ _ _ h => h) (Or.inl ⟨by rfl, ?_⟩) ?_ ?_
                              rotate_left
                              · intro w'
                                go_simp
                                with_reducible rfl
                              rotate_left
                              · simp only [Act.put, List.setIfInBounds_toArray, List.set_cons_zero, List.set_cons_succ, i64_w, i32_w]
                                rfl
                              refine pure_ (i := 3) (N := some 28) (v := ?_) (a' := ?_) #[true, true, true, true, false, false, false, false, false, false, false, false, false, false, false, false, false, false, false, false, false, false, false, false, false, false, false, false, false, false, false, false, false, false, false, false, false, false, false] rfl rfl (any_of HT_.out (by kernel_rfl)) (fun _ _ _ h => h) (Or.inl ⟨by rfl, ?_⟩) ?_ ?_
                              rotate_left
                              · intro w'
                                go_simp
                                with_reducible rfl
                              rotate_left
                              · simp only [Act.put, List.setIfInBounds_toArray, List.set_cons_zero, List.set_cons_succ, i64_w, i32_w]
                                rfl
                              refine pure_ (i := 5) (N := some 30) (v := ?_) (a' := ?_) #[true, true, true, true, false, true, false, false, false, false, false, false, false, false, false, false, false, false, false, false, false, false, false, false, false, false, false, false, false, false, false, false, false, false, false, false, false, false, false] rfl rfl (any_of HT_.out (by kernel_rfl)) (fun _ _ _ h => h) (Or.inl ⟨by rfl, ?_⟩) ?_ ?_
                              rotate_left
                              · intro w'
                                go_simp
                                with_reducible rfl
                              rotate_left
                              · simp only [Act.put, List.setIfInBounds_toArray, List.set_cons_zero, List.set_cons_succ, i64_w, i32_w]
                                rfl
                              refine pure_ (i := 6) (N := some 31) (v := ?_) (a' := ?_) #[true, true, true, true, false, true, true, false, false, false, false, false, false, false, false, false, false, false, false, false, false, false, false, false, false, false, false, false, false, false, false, false, false, false, false, false, false, false, false] rfl rfl (any_of HT_.out (by kernel_rfl)) (fun _ _ _ h => h) (Or.inl ⟨by rfl, ?_⟩) ?_ ?_
                              rotate_left
                              · intro w'
                                go_simp
                                with_reducible rfl
                              rotate_left
                              · simp only [Act.put, List.setIfInBounds_toArray, List.set_cons_zero, List.set_cons_succ, i64_w, i32_w]
                                rfl
                              refine pure_ (i := 10) (N := some 35) (v := ?_) (a' := ?_) #[true, true, true, true, false, true, true, false, false, false, true, false, false, false, false, false, false, false, false, false, false, false, false, false, false, false, false, false, false, false, false, false, false, false, false, false, false, false, false] rfl rfl (any_of HT_.out (by kernel_rfl)) (fun _ _ _ h => h) (Or.inl ⟨by rfl, ?_⟩) ?_ ?_
                              rotate_left
                              · intro w'
                                go_simp
                                with_reducible rfl
                              rotate_left
                              · simp only [Act.put, List.setIfInBounds_toArray, List.set_cons_zero, List.set_cons_succ, i64_w, i32_w]
                                rfl
                              refine take_ (i := 11) (N := some 36) (v := ?_) (a' := ?_) #[true, true, true, true, false, true, true, false, false, false, true, true, false, false, false, false, false, false, false, false, false, false, false, false, false, false, false, false, false, false, false, false, false, false, false, false, false, false, false] rfl rfl (take_ofW HT_.out HW_.out (by kernel_rfl)) (fun _ _ _ h => h) (Or.inl ⟨by rfl, ?_⟩) hHeld ?_ ?_
                              rotate_left
                              · rintro w' ⟨s0, s1, s2, s3, s4⟩
                                go_simp
                                with_reducible rfl
                              rotate_left
                              · simp only [Act.put, List.setIfInBounds_toArray, List.set_cons_zero, List.set_cons_succ, i64_w, i32_w]
                                rfl
                              refine one_ (i := 4) (N := some 29) #[true, true, true, true, true, true, true, false, false, false, true, true, false, false, false, false, false, false, false, false, false, false, false, false, false, false, false, false, false, false, false, false, false, false, false, false, false, false, false] rfl rfl (one_of HT_.out (by kernel_rfl)) (by decide) (fun K hK => ?_)
                              refine goes_ Try.func21 (by kernel_rfl) rfl #[.slice A0 l0.length c0] (by rfl) rfl rfl (by (try simp only [List.map_toArray, List.map_cons, List.map_nil]); first | done | rfl | (simp only [List.length_drop, List.length_take]; rfl)) ?_
                              with_reducible refine (stats_Of.calls _ _ l0 t108 _ ?side1 ?side2 A18.out).mono ?_
                              (case side1 => repeat (first | exact (Kd.C_below HR0.out HB.out) | (with_reducible refine Kd.C_alloc ?_ _) | (with_reducible refine Kd.C_drewN ?_ _) | (with_reducible refine Kd.C_drew ?_)))
                              (case side2 => exact HC0.out)
                              rintro e w40 ⟨v109, rfl, ho0, hb⟩
                              refine ⟨_, rfl, ?_⟩
                              have n0_ := Aside0.mk (Kd.R_elder' (by (with_reducible repeat (first | apply Kd.R_alloc | apply Kd.R_drewN | apply Kd.R_drew)); exact HO_18.out) (Kd.R_base ho0) hb)
                              have n1_ := Aside0.mk (Kd.R_lower (Kd.R_newB (Kd.R_new' ho0 (Kd.R_lt (by (with_reducible repeat (first | apply Kd.R_alloc | apply Kd.R_drewN | apply Kd.R_drew)); exact HO_18.out))) (g := gb107) (o := .cells #[.string ((rd_T44 t103 x20_1).f0), .int .i64 ((rd_T44 t103 x20_1).f1), .int .i64 ((rd_T44 t103 x20_1).f2), .int .i64 ((rd_T44 t103 x20_1).f3), .int .i64 ((rd_T44 t103 x20_1).f4)] 44 (0, 0)) (by (with_reducible repeat (first | refine blk_drewN ?_ _ | refine blk_drew ?_ | refine blk_alloc ?_ _)); exact BK107.out)) (below_size (by repeat (first | (with_reducible first | exact HB.out | apply below_alloc | apply pw_below_drewN | apply below_drew1 | refine below_set ?_ GE107.out) | exact HB.out))))
                              have n2_ := Aside0.mk (blk_below (g := gb107) (o := .cells #[.string ((rd_T44 t103 x20_1).f0), .int .i64 ((rd_T44 t103 x20_1).f1), .int .i64 ((rd_T44 t103 x20_1).f2), .int .i64 ((rd_T44 t103 x20_1).f3), .int .i64 ((rd_T44 t103 x20_1).f4)] 44 (0, 0)) (by (with_reducible repeat (first | refine blk_drewN ?_ _ | refine blk_drew ?_ | refine blk_alloc ?_ _)); exact BK107.out) hb)
                              have n3_ := Aside0.mk (below_step (by repeat (first | (with_reducible first | exact HB.out | apply below_alloc | apply pw_below_drewN | apply below_drew1 | refine below_set ?_ GE107.out) | exact HB.out)) hb)
                              clear HO_18
                              clear BK107
                              clear HB
                              have HO_18 := n0_
                              have HO110 := n1_
                              have BK107 := n2_
                              have HB := n3_
                              clear n0_ n1_ n2_ n3_
                              (try clear hb)
                              (try clear hb2)
                              (try clear hk)
                              (try clear hi)
                              (try clear ho0)
                              obtain ⟨Ao41, co41, eo41⟩ := Kd.R_slice HO110.out
                              (first | subst eo41 | (injection eo41 with f1_ f2_ f3_; have f4_ := f1_.symm; have f5_ := f3_.symm; clear f1_ f2_ f3_; subst f4_; subst f5_))
                              have p111 : 0 ≤ ((ji19) : Int) := of_decide_eq_true (by first | (with_reducible assumption) | assumption)
                              have q111 : (ji19) < (t108.length : Int) := of_decide_eq_true (by first | (with_reducible assumption) | assumption)
                              obtain ⟨ad111, e111, hx111_0, hx111_1, hx111_2, hx111_3, hx111_4⟩ := at_T44 (Kd.R_reads' HO110.out).2.2 (ji19) p111 q111
                              cases e111
                              replace p111 := eq_true p111
                              replace q111 := eq_true q111
                              refine hK.out _ _ ⟨(blk_cell BK107.out 0).trans rfl, (blk_cell BK107.out 1).trans rfl, (blk_cell BK107.out 2).trans rfl, (blk_cell BK107.out 3).trans rfl, (blk_cell BK107.out 4).trans rfl⟩ (fun hHeld => ?_)
                              refine moreS_ (S' := fun w' => w'.cell? ⟨gb107, 0, none⟩ = some (.string ((rd_T44 t103 x20_1).f0)) ∧ w'.cell? ⟨gb107, 1, none⟩ = some (.int .i64 ((rd_T44 t103 x20_1).f1)) ∧ w'.cell? ⟨gb107, 2, none⟩ = some (.int .i64 ((rd_T44 t103 x20_1).f2)) ∧ w'.cell? ⟨gb107, 3, none⟩ = some (.int .i64 ((rd_T44 t103 x20_1).f3)) ∧ w'.cell? ⟨gb107, 4, none⟩ = some (.int .i64 ((rd_T44 t103 x20_1).f4)) ∧ w'.cell? (ad111.add (((ji19)).toNat * 5)) = some (.string ((rd_T44 t108 (ji19)).f0)) ∧ w'.cell? ⟨(ad111.add (((ji19)).toNat * 5)).block, (ad111.add (((ji19)).toNat * 5)).off + 1, none⟩ = some (.int .i64 ((rd_T44 t108 (ji19)).f1)) ∧ w'.cell? ⟨(ad111.add (((ji19)).toNat * 5)).block, (ad111.add (((ji19)).toNat * 5)).off + 2, none⟩ = some (.int .i64 ((rd_T44 t108 (ji19)).f2)) ∧ w'.cell? ⟨(ad111.add (((ji19)).toNat * 5)).block, (ad111.add (((ji19)).toNat * 5)).off + 3, none⟩ = some (.int .i64 ((rd_T44 t108 (ji19)).f3)) ∧ w'.cell? ⟨(ad111.add (((ji19)).toNat * 5)).block, (ad111.add (((ji19)).toNat * 5)).off + 4, none⟩ = some (.int .i64 ((rd_T44 t108 (ji19)).f4))) (fun _ h => ⟨h.1, h.2.1, h.2.2.1, h.2.2.2.1, h.2.2.2.2.1⟩) _ _ _ _ ⟨(blk_cell BK107.out 0).trans rfl, (blk_cell BK107.out 1).trans rfl, (blk_cell BK107.out 2).trans rfl, (blk_cell BK107.out 3).trans rfl, (blk_cell BK107.out 4).trans rfl, hx111_0, hx111_1, hx111_2, hx111_3, hx111_4⟩ (fun hHeld => ?_)
                              clear hK K
                              refine norm_ (a' := ?_) ?_ ?_
                              rotate_left
                              · show Act.put _ (some 29) _ = _
                                simp only [Act.put, List.setIfInBounds_toArray, List.set_cons_zero, List.set_cons_succ, i64_w, i32_w]
                                rfl
                              refine pure_ (i := 7) (N := some 32) (v := ?_) (a' := ?_) #[true, true, true, true, true, true, true, true, false, false, true, true, false, false, false, false, false, false, false, false, false, false, false, false, false, false, false, false, false, false, false, false, false, false, false, false, false, false, false] rfl rfl (any_of HT_.out (by kernel_rfl)) (fun _ _ _ h => h) (Or.inl ⟨by rfl, ?_⟩) ?_ ?_
                              rotate_left
                              · intro w'
                                go_simp
                                with_reducible rfl
                              rotate_left
                              · simp only [Act.put, List.setIfInBounds_toArray, List.set_cons_zero, List.set_cons_succ, i64_w, i32_w]
                                rfl
                              refine pure_ (i := 8) (N := some 33) (v := ?_) (a' := ?_) #[true, true, true, true, true, true, true, true, true, false, true, true, false, false, false, false, false, false, false, false, false, false, false, false, false, false, false, false, false, false, false, false, false, false, false, false, false, false, false] rfl rfl (any_of HT_.out (by kernel_rfl)) (fun _ _ _ h => h) (Or.inl ⟨by rfl, ?_⟩) ?_ ?_
                              rotate_left
                              · intro w'
                                go_simp
                                with_reducible rfl
                              rotate_left
                              · simp only [Act.put, List.setIfInBounds_toArray, List.set_cons_zero, List.set_cons_succ, i64_w, i32_w]
                                rfl
                              refine take_ (i := 9) (N := some 34) (v := ?_) (a' := ?_) #[true, true, true, true, true, true, true, true, true, true, true, true, false, false, false, false, false, false, false, false, false, false, false, false, false, false, false, false, false, false, false, false, false, false, false, false, false, false, false] rfl rfl (take_ofW HT_.out HW_.out (by kernel_rfl)) (fun _ _ _ h => h) (Or.inl ⟨by rfl, ?_⟩) hHeld ?_ ?_
                              rotate_left
                              · rintro w' ⟨s0, s1, s2, s3, s4, s5, s6, s7, s8, s9⟩
                                go_simp
                                with_reducible rfl
                              rotate_left
                              · simp only [Act.put, List.setIfInBounds_toArray, List.set_cons_zero, List.set_cons_succ, i64_w, i32_w]
                                rfl
                              refine pure_ (i := 12) (N := some 37) (v := ?_) (a' := ?_) #[true, true, true, true, true, true, true, true, true, true, true, true, true, false, false, false, false, false, false, false, false, false, false, false, false, false, false, false, false, false, false, false, false, false, false, false, false, false, false] rfl rfl (any_of HT_.out (by kernel_rfl)) (fun _ _ _ h => h) (Or.inl ⟨by rfl, ?_⟩) ?_ ?_
                              rotate_left
                              · intro w'
                                go_simp
                                with_reducible rfl
                              rotate_left
                              · simp only [Act.put, List.setIfInBounds_toArray, List.set_cons_zero, List.set_cons_succ, i64_w, i32_w]
                                rfl
                              refine pure_ (i := 13) (N := some 38) (v := ?_) (a' := ?_) #[true, true, true, true, true, true, true, true, true, true, true, true, true, true, false, false, false, false, false, false, false, false, false, false, false, false, false, false, false, false, false, false, false, false, false, false, false, false, false] rfl rfl (any_of HT_.out (by kernel_rfl)) (fun _ _ _ h => h) (Or.inl ⟨by rfl, ?_⟩) ?_ ?_
                              rotate_left
                              · intro w'
                                go_simp
                                with_reducible rfl
                              rotate_left
                              · simp only [Act.put, List.setIfInBounds_toArray, List.set_cons_zero, List.set_cons_succ, i64_w, i32_w]
                                rfl
                              refine pure_ (i := 14) (N := some 39) (v := ?_) (a' := ?_) #[true, true, true, true, true, true, true, true, true, true, true, true, true, true, true, false, false, false, false, false, false, false, false, false, false, false, false, false, false, false, false, false, false, false, false, false, false, false, false] rfl rfl (any_of HT_.out (by kernel_rfl)) (fun _ _ _ h => h) (Or.inl ⟨by rfl, ?_⟩) ?_ ?_
                              rotate_left
                              · intro w'
                                go_simp
                                with_reducible rfl
                              rotate_left
                              · simp only [Act.put, List.setIfInBounds_toArray, List.set_cons_zero, List.set_cons_succ, i64_w, i32_w]
                                rfl
                              refine pure_ (i := 15) (N := some 40) (v := ?_) (a' := ?_) #[true, true, true, true, true, true, true, true, true, true, true, true, true, true, true, true, false, false, false, false, false, false, false, false, false, false, false, false, false, false, false, false, false, false, false, false, false, false, false] rfl rfl (any_of HT_.out (by kernel_rfl)) (fun _ _ _ h => h) (Or.inl ⟨by rfl, ?_⟩) ?_ ?_
                              rotate_left
                              · intro w'
                                go_simp
                                with_reducible rfl
                              rotate_left
                              · simp only [Act.put, List.setIfInBounds_toArray, List.set_cons_zero, List.set_cons_succ, i64_w, i32_w]
                                rfl
                              refine take_ (i := 16) (N := some 41) (v := ?_) (a' := ?_) #[true, true, true, true, true, true, true, true, true, true, true, true, true, true, true, true, true, false, false, false, false, false, false, false, false, false, false, false, false, false, false, false, false, false, false, false, false, false, false] rfl rfl (take_ofW HT_.out HW_.out (by kernel_rfl)) (fun _ _ _ h => h) (Or.inl ⟨by rfl, ?_⟩) hHeld ?_ ?_
                              rotate_left
                              · rintro w' ⟨s0, s1, s2, s3, s4, s5, s6, s7, s8, s9⟩
                                go_simp
                                with_reducible rfl
                              rotate_left
                              · simp only [Act.put, List.setIfInBounds_toArray, List.set_cons_zero, List.set_cons_succ, i64_w, i32_w]
                                rfl
                              refine pure_ (i := 17) (N := some 42) (v := ?_) (a' := ?_) #[true, true, true, true, true, true, true, true, true, true, true, true, true, true, true, true, true, true, false, false, false, false, false, false, false, false, false, false, false, false, false, false, false, false, false, false, false, false, false] rfl rfl (any_of HT_.out (by kernel_rfl)) (fun _ _ _ h => h) (Or.inl ⟨by rfl, ?_⟩) ?_ ?_
                              rotate_left
                              · intro w'
                                go_simp
                                with_reducible rfl
                              rotate_left
                              · simp only [Act.put, List.setIfInBounds_toArray, List.set_cons_zero, List.set_cons_succ, i64_w, i32_w]
                                rfl
                              refine pure_ (i := 18) (N := some 43) (v := ?_) (a' := ?_) #[true, true, true, true, true, true, true, true, true, true, true, true, true, true, true, true, true, true, true, false, false, false, false, false, false, false, false, false, false, false, false, false, false, false, false, false, false, false, false] rfl rfl (any_of HT_.out (by kernel_rfl)) (fun _ _ _ h => h) (Or.inl ⟨by rfl, ?_⟩) ?_ ?_
                              rotate_left
                              · intro w'
                                go_simp
                                with_reducible rfl
                              rotate_left
                              · simp only [Act.put, List.setIfInBounds_toArray, List.set_cons_zero, List.set_cons_succ, i64_w, i32_w]
                                rfl
                              refine pure_ (i := 19) (N := some 44) (v := ?_) (a' := ?_) #[true, true, true, true, true, true, true, true, true, true, true, true, true, true, true, true, true, true, true, true, false, false, false, false, false, false, false, false, false, false, false, false, false, false, false, false, false, false, false] rfl rfl (any_of HT_.out (by kernel_rfl)) (fun _ _ _ h => h) (Or.inl ⟨by rfl, ?_⟩) ?_ ?_
                              rotate_left
                              · intro w'
                                go_simp
                                with_reducible rfl
                              rotate_left
                              · simp only [Act.put, List.setIfInBounds_toArray, List.set_cons_zero, List.set_cons_succ, i64_w, i32_w]
                                rfl
                              refine pure_ (i := 20) (N := some 45) (v := ?_) (a' := ?_) #[true, true, true, true, true, true, true, true, true, true, true, true, true, true, true, true, true, true, true, true, true, false, false, false, false, false, false, false, false, false, false, false, false, false, false, false, false, false, false] rfl rfl (any_of HT_.out (by kernel_rfl)) (fun _ _ _ h => h) (Or.inl ⟨by rfl, ?_⟩) ?_ ?_
                              rotate_left
                              · intro w'
                                go_simp
                                with_reducible rfl
                              rotate_left
                              · simp only [Act.put, List.setIfInBounds_toArray, List.set_cons_zero, List.set_cons_succ, i64_w, i32_w]
                                rfl
                              refine take_ (i := 21) (N := some 46) (v := ?_) (a' := ?_) #[true, true, true, true, true, true, true, true, true, true, true, true, true, true, true, true, true, true, true, true, true, true, false, false, false, false, false, false, false, false, false, false, false, false, false, false, false, false, false] rfl rfl (take_ofW HT_.out HW_.out (by kernel_rfl)) (fun _ _ _ h => h) (Or.inl ⟨by rfl, ?_⟩) hHeld ?_ ?_
                              rotate_left
                              · rintro w' ⟨s0, s1, s2, s3, s4, s5, s6, s7, s8, s9⟩
                                go_simp
                                with_reducible rfl
                              rotate_left
                              · simp only [Act.put, List.setIfInBounds_toArray, List.set_cons_zero, List.set_cons_succ, i64_w, i32_w]
                                rfl
                              refine pure_ (i := 22) (N := some 47) (v := ?_) (a' := ?_) #[true, true, true, true, true, true, true, true, true, true, true, true, true, true, true, true, true, true, true, true, true, true, true, false, false, false, false, false, false, false, false, false, false, false, false, false, false, false, false] rfl rfl (any_of HT_.out (by kernel_rfl)) (fun _ _ _ h => h) (Or.inl ⟨by rfl, ?_⟩) ?_ ?_
                              rotate_left
                              · intro w'
                                go_simp
                                with_reducible rfl
                              rotate_left
                              · simp only [Act.put, List.setIfInBounds_toArray, List.set_cons_zero, List.set_cons_succ, i64_w, i32_w]
                                rfl
                              refine pure_ (i := 23) (N := some 48) (v := ?_) (a' := ?_) #[true, true, true, true, true, true, true, true, true, true, true, true, true, true, true, true, true, true, true, true, true, true, true, true, false, false, false, false, false, false, false, false, false, false, false, false, false, false, false] rfl rfl (any_of HT_.out (by kernel_rfl)) (fun _ _ _ h => h) (Or.inl ⟨by rfl, ?_⟩) ?_ ?_
                              rotate_left
                              · intro w'
                                go_simp
                                with_reducible rfl
                              rotate_left
                              · simp only [Act.put, List.setIfInBounds_toArray, List.set_cons_zero, List.set_cons_succ, i64_w, i32_w]
                                rfl
                              refine pure_ (i := 24) (N := some 49) (v := ?_) (a' := ?_) #[true, true, true, true, true, true, true, true, true, true, true, true, true, true, true, true, true, true, true, true, true, true, true, true, true, false, false, false, false, false, false, false, false, false, false, false, false, false, false] rfl rfl (any_of HT_.out (by kernel_rfl)) (fun _ _ _ h => h) (Or.inl ⟨by rfl, ?_⟩) ?_ ?_
                              rotate_left
                              · intro w'
                                go_simp
                                with_reducible rfl
                              rotate_left
                              · simp only [Act.put, List.setIfInBounds_toArray, List.set_cons_zero, List.set_cons_succ, i64_w, i32_w]
                                rfl
                              refine pure_ (i := 25) (N := some 50) (v := ?_) (a' := ?_) #[true, true, true, true, true, true, true, true, true, true, true, true, true, true, true, true, true, true, true, true, true, true, true, true, true, true, false, false, false, false, false, false, false, false, false, false, false, false, false] rfl rfl (any_of HT_.out (by kernel_rfl)) (fun _ _ _ h => h) (Or.inl ⟨by rfl, ?_⟩) ?_ ?_
                              rotate_left
                              · intro w'
                                go_simp
                                with_reducible rfl
                              rotate_left
                              · simp only [Act.put, List.setIfInBounds_toArray, List.set_cons_zero, List.set_cons_succ, i64_w, i32_w]
                                rfl
                              refine take_ (i := 26) (N := some 51) (v := ?_) (a' := ?_) #[true, true, true, true, true, true, true, true, true, true, true, true, true, true, true, true, true, true, true, true, true, true, true, true, true, true, true, false, false, false, false, false, false, false, false, false, false, false, false] rfl rfl (take_ofW HT_.out HW_.out (by kernel_rfl)) (fun _ _ _ h => h) (Or.inl ⟨by rfl, ?_⟩) hHeld ?_ ?_
                              rotate_left
                              · rintro w' ⟨s0, s1, s2, s3, s4, s5, s6, s7, s8, s9⟩
                                go_simp
                                with_reducible rfl
                              rotate_left
                              · simp only [Act.put, List.setIfInBounds_toArray, List.set_cons_zero, List.set_cons_succ, i64_w, i32_w]
                                rfl
                              refine pure_ (i := 27) (N := some 52) (v := ?_) (a' := ?_) #[true, true, true, true, true, true, true, true, true, true, true, true, true, true, true, true, true, true, true, true, true, true, true, true, true, true, true, true, false, false, false, false, false, false, false, false, false, false, false] rfl rfl (any_of HT_.out (by kernel_rfl)) (fun _ _ _ h => h) (Or.inl ⟨by rfl, ?_⟩) ?_ ?_
                              rotate_left
                              · intro w'
                                go_simp
                                with_reducible rfl
                              rotate_left
                              · simp only [Act.put, List.setIfInBounds_toArray, List.set_cons_zero, List.set_cons_succ, i64_w, i32_w]
                                rfl
                              refine pure_ (i := 28) (N := some 53) (v := ?_) (a' := ?_) #[true, true, true, true, true, true, true, true, true, true, true, true, true, true, true, true, true, true, true, true, true, true, true, true, true, true, true, true, true, false, false, false, false, false, false, false, false, false, false] rfl rfl (any_of HT_.out (by kernel_rfl)) (fun _ _ _ h => h) (Or.inl ⟨by rfl, ?_⟩) ?_ ?_
                              rotate_left
                              · intro w'
                                go_simp
                                with_reducible rfl
                              rotate_left
                              · simp only [Act.put, List.setIfInBounds_toArray, List.set_cons_zero, List.set_cons_succ, i64_w, i32_w]
                                rfl
                              refine pure_ (i := 29) (N := some 54) (v := ?_) (a' := ?_) #[true, true, true, true, true, true, true, true, true, true, true, true, true, true, true, true, true, true, true, true, true, true, true, true, true, true, true, true, true, true, false, false, false, false, false, false, false, false, false] rfl rfl (any_of HT_.out (by kernel_rfl)) (fun _ _ _ h => h) (Or.inl ⟨by rfl, ?_⟩) ?_ ?_
                              rotate_left
                              · intro w'
                                go_simp
                                with_reducible rfl
                              rotate_left
                              · simp only [Act.put, List.setIfInBounds_toArray, List.set_cons_zero, List.set_cons_succ, i64_w, i32_w]
                                rfl
                              refine pure_ (i := 30) (N := some 55) (v := ?_) (a' := ?_) #[true, true, true, true, true, true, true, true, true, true, true, true, true, true, true, true, true, true, true, true, true, true, true, true, true, true, true, true, true, true, true, false, false, false, false, false, false, false, false] rfl rfl (any_of HT_.out (by kernel_rfl)) (fun _ _ _ h => h) (Or.inl ⟨by rfl, ?_⟩) ?_ ?_
                              rotate_left
                              · intro w'
                                go_simp
                                with_reducible rfl
                              rotate_left
                              · simp only [Act.put, List.setIfInBounds_toArray, List.set_cons_zero, List.set_cons_succ, i64_w, i32_w]
                                rfl
                              refine pure_ (i := 32) (N := some 57) (v := ?_) (a' := ?_) #[true, true, true, true, true, true, true, true, true, true, true, true, true, true, true, true, true, true, true, true, true, true, true, true, true, true, true, true, true, true, true, false, true, false, false, false, false, false, false] rfl rfl (any_of HT_.out (by kernel_rfl)) (fun _ _ _ h => h) (Or.inl ⟨by rfl, ?_⟩) ?_ ?_
                              rotate_left
                              · intro w'
                                go_simp
                                with_reducible rfl
                              rotate_left
                              · simp only [Act.put, List.setIfInBounds_toArray, List.set_cons_zero, List.set_cons_succ, i64_w, i32_w]
                                rfl
                              refine pure_ (i := 35) (N := some 60) (v := ?_) (a' := ?_) #[true, true, true, true, true, true, true, true, true, true, true, true, true, true, true, true, true, true, true, true, true, true, true, true, true, true, true, true, true, true, true, false, true, false, false, true, false, false, false] rfl rfl (any_of HT_.out (by kernel_rfl)) (fun _ _ _ h => h) (Or.inl ⟨by rfl, ?_⟩) ?_ ?_
                              rotate_left
                              · intro w'
                                go_simp
                                with_reducible rfl
                              rotate_left
                              · simp only [Act.put, List.setIfInBounds_toArray, List.set_cons_zero, List.set_cons_succ, i64_w, i32_w]
                                rfl
                              refine take_ (i := 31) (N := some 56) (v := ?_) (a' := ?_) #[true, true, true, true, true, true, true, true, true, true, true, true, true, true, true, true, true, true, true, true, true, true, true, true, true, true, true, true, true, true, true, true, true, false, false, true, false, false, false] rfl rfl (take_ofW HT_.out HW_.out (by kernel_rfl)) (fun _ _ _ h => h) (Or.inl ⟨by rfl, ?_⟩) hHeld ?_ ?_
                              rotate_left
                              · rintro w' ⟨s0, s1, s2, s3, s4, s5, s6, s7, s8, s9⟩
                                go_simp
                                with_reducible rfl
                              rotate_left
                              · simp only [Act.put, List.setIfInBounds_toArray, List.set_cons_zero, List.set_cons_succ, i64_w, i32_w]
                                rfl
                              refine take_ (i := 33) (N := some 58) (v := ?_) (a' := ?_) #[true, true, true, true, true, true, true, true, true, true, true, true, true, true, true, true, true, true, true, true, true, true, true, true, true, true, true, true, true, true, true, true, true, true, false, true, false, false, false] rfl rfl (take_ofW HT_.out HW_.out (by kernel_rfl)) (fun _ _ _ h => h) (Or.inl ⟨by rfl, ?_⟩) hHeld ?_ ?_
                              rotate_left
                              · rintro w' ⟨s0, s1, s2, s3, s4, s5, s6, s7, s8, s9⟩
                                go_simp
                                with_reducible rfl
                              rotate_left
                              · simp only [Act.put, List.setIfInBounds_toArray, List.set_cons_zero, List.set_cons_succ, i64_w, i32_w]
                                rfl
                              refine pure_ (i := 34) (N := some 59) (v := ?_) (a' := ?_) #[true, true, true, true, true, true, true, true, true, true, true, true, true, true, true, true, true, true, true, true, true, true, true, true, true, true, true, true, true, true, true, true, true, true, true, true, false, false, false] rfl rfl (any_of HT_.out (by kernel_rfl)) (fun _ _ _ h => h) (Or.inl ⟨by rfl, ?_⟩) ?_ ?_
                              rotate_left
                              · intro w'
                                go_simp
                                with_reducible rfl
                              rotate_left
                              · simp only [Act.put, List.setIfInBounds_toArray, List.set_cons_zero, List.set_cons_succ, i64_w, i32_w]
                                rfl
                              refine take_ (i := 36) (N := some 61) (v := ?_) (a' := ?_) #[true, true, true, true, true, true, true, true, true, true, true, true, true, true, true, true, true, true, true, true, true, true, true, true, true, true, true, true, true, true, true, true, true, true, true, true, true, false, false] rfl rfl (take_ofW HT_.out HW_.out (by kernel_rfl)) (fun _ _ _ h => h) (Or.inl ⟨by rfl, ?_⟩) hHeld ?_ ?_
                              rotate_left
                              · rintro w' ⟨s0, s1, s2, s3, s4, s5, s6, s7, s8, s9⟩
                                go_simp
                                with_reducible rfl
                              rotate_left
                              · simp only [Act.put, List.setIfInBounds_toArray, List.set_cons_zero, List.set_cons_succ, i64_w, i32_w]
                                rfl
                              refine pure_ (i := 37) (N := some 62) (v := ?_) (a' := ?_) #[true, true, true, true, true, true, true, true, true, true, true, true, true, true, true, true, true, true, true, true, true, true, true, true, true, true, true, true, true, true, true, true, true, true, true, true, true, true, false] rfl rfl (any_of HT_.out (by kernel_rfl)) (fun _ _ _ h => h) (Or.inl ⟨by rfl, ?_⟩) ?_ ?_
                              rotate_left
                              · intro w'
                                go_simp
                                with_reducible rfl
                              rotate_left
                              · simp only [Act.put, List.setIfInBounds_toArray, List.set_cons_zero, List.set_cons_succ, i64_w, i32_w]
                                rfl
                              refine pure_ (i := 38) (N := some 63) (v := ?_) (a' := ?_) #[true, true, true, true, true, true, true, true, true, true, true, true, true, true, true, true, true, true, true, true, true, true, true, true, true, true, true, true, true, true, true, true, true, true, true, true, true, true, true] rfl rfl (any_of HT_.out (by kernel_rfl)) (fun _ _ _ h => h) (Or.inl ⟨by rfl, ?_⟩) ?_ ?_
                              rotate_left
                              · intro w'
                                go_simp
                                with_reducible rfl
                              rotate_left
                              · simp only [Act.put, List.setIfInBounds_toArray, List.set_cons_zero, List.set_cons_succ, i64_w, i32_w]
                                rfl
                              refine done_ (done_of HT_.out (by kernel_rfl)) ?_
                              try go_wp2
                              go_meet
                              case rel => exact ⟨_, (decide ((wrap64 (((rd_T44 t103 x20_1).f3) + ((rd_T44 t103 x20_1).f4))) > ((rd_T44 t103 x20_1).f1))), (by first | rfl | (simp; done) | (simp [*]; done)), H', ⟨by have := HK1.out; first | omega | exact Nat.le_refl _⟩, ⟨by (with_reducible repeat (first | apply Kd.R_alloc | apply Kd.R_drewN | apply Kd.R_drew)); exact Kd.R_mono HO_18.out (fun _ hk => hk.1)⟩, ⟨by (with_reducible repeat (first | refine blk_drewN ?_ _ | refine blk_drew ?_ | refine blk_alloc ?_ _)); exact BK107.out⟩, ⟨by repeat (first | (with_reducible first | exact HB.out | apply below_alloc | apply pw_below_drewN | apply below_drew1 | refine below_set ?_ GE107.out) | exact HB.out)⟩⟩
                      · rw [if_neg c22] at H
                        exact absurd H (by simp)
                    · rw [if_neg c21] at H
                      exact absurd H (by simp)
                  · rw [if_neg c20] at H
                    exact absurd H (by simp)
                · rw [if_neg c17] at H
                  have c17b0 : decide (0 < x20_1) = false := decide_eq_false c17
                  clear c17
                  (first | rw [c17b0] | (simp only [i64_w, i32_w]; rw [c17b0]) | skip)
                  by_cases c46 : ((rd_T44 t103 x20_1).f1) < 1
                  · rw [if_pos c46] at H
                    exact absurd H (by simp)
                  · rw [if_neg c46] at H
                    have c46b0 : decide (((rd_T44 t103 x20_1).f1) < 1) = false := decide_eq_false c46
                    clear c46
                    by_cases c49 : ((rd_T44 t103 x20_1).f3) < 0
                    · rw [if_pos c49] at H
                      exact absurd H (by simp)
                    · rw [if_neg c49] at H
                      have c49b0 : decide (((rd_T44 t103 x20_1).f3) < 0) = false := decide_eq_false c49
                      clear c49
                      by_cases c52 : ((rd_T44 t103 x20_1).f4) < 0
                      · rw [if_pos c52] at H
                        exact absurd H (by simp)
                      · rw [if_neg c52] at H
                        have c52b0 : decide (((rd_T44 t103 x20_1).f4) < 0) = false := decide_eq_false c52
                        clear c52
                        have H' := Aside0.mk H
                        clear H
                        try go_wp2
                        have n0_ : Aside0 (Kd.R k44 44 (((((w15.setCell ⟨gb107, 0, none⟩ (.string ((rd_T44 t103 x20_1).f0))).setCell ⟨gb107, 1, none⟩ (.int .i64 ((rd_T44 t103 x20_1).f1))).setCell ⟨gb107, 2, none⟩ (.int .i64 ((rd_T44 t103 x20_1).f2))).setCell ⟨gb107, 3, none⟩ (.int .i64 ((rd_T44 t103 x20_1).f3))).setCell ⟨gb107, 4, none⟩ (.int .i64 ((rd_T44 t103 x20_1).f4))) w.heap.size (fun k_ => k_ ≠ gb107) (.slice (some ad106) t103.length co10) t103) := ⟨by (with_reducible repeat (first | apply Kd.R_alloc | apply Kd.R_drewN | apply Kd.R_drew)); exact Kd.R_mono (Kd.R_far (p := ⟨gb107, 4, none⟩) (Kd.R_far (p := ⟨gb107, 3, none⟩) (Kd.R_far (p := ⟨gb107, 2, none⟩) (Kd.R_far (p := ⟨gb107, 1, none⟩) (Kd.R_far (p := ⟨gb107, 0, none⟩) (Kd.R_mono HO_18.out (fun k_ hk => (⟨hk, hk.2⟩ : _ ∧ k_ ≠ gb107))) (fun _ hk => hk.2) (.string ((rd_T44 t103 x20_1).f0))) (fun _ hk => hk.2) (.int .i64 ((rd_T44 t103 x20_1).f1))) (fun _ hk => hk.2) (.int .i64 ((rd_T44 t103 x20_1).f2))) (fun _ hk => hk.2) (.int .i64 ((rd_T44 t103 x20_1).f3))) (fun _ hk => hk.2) (.int .i64 ((rd_T44 t103 x20_1).f4))) (fun _ hk => hk.1.2)⟩
                        have n1_ : Aside0 ((((((w15.setCell ⟨gb107, 0, none⟩ (.string ((rd_T44 t103 x20_1).f0))).setCell ⟨gb107, 1, none⟩ (.int .i64 ((rd_T44 t103 x20_1).f1))).setCell ⟨gb107, 2, none⟩ (.int .i64 ((rd_T44 t103 x20_1).f2))).setCell ⟨gb107, 3, none⟩ (.int .i64 ((rd_T44 t103 x20_1).f3))).setCell ⟨gb107, 4, none⟩ (.int .i64 ((rd_T44 t103 x20_1).f4))).heap[gb107]? = some (.cells #[.string ((rd_T44 t103 x20_1).f0), .int .i64 ((rd_T44 t103 x20_1).f1), .int .i64 ((rd_T44 t103 x20_1).f2), .int .i64 ((rd_T44 t103 x20_1).f3), .int .i64 ((rd_T44 t103 x20_1).f4)] 44 (0, 0))) := ⟨by (with_reducible repeat (first | refine blk_drewN ?_ _ | refine blk_drew ?_ | refine blk_alloc ?_ _)); refine blk_put (cs := #[.string ((rd_T44 t103 x20_1).f0), .int .i64 ((rd_T44 t103 x20_1).f1), .int .i64 ((rd_T44 t103 x20_1).f2), .int .i64 ((rd_T44 t103 x20_1).f3), .int .i64 0]) ?_ 4 _ rfl; (with_reducible repeat (first | refine blk_drewN ?_ _ | refine blk_drew ?_ | refine blk_alloc ?_ _)); refine blk_put (cs := #[.string ((rd_T44 t103 x20_1).f0), .int .i64 ((rd_T44 t103 x20_1).f1), .int .i64 ((rd_T44 t103 x20_1).f2), .int .i64 0, .int .i64 0]) ?_ 3 _ rfl; (with_reducible repeat (first | refine blk_drewN ?_ _ | refine blk_drew ?_ | refine blk_alloc ?_ _)); refine blk_put (cs := #[.string ((rd_T44 t103 x20_1).f0), .int .i64 ((rd_T44 t103 x20_1).f1), .int .i64 0, .int .i64 0, .int .i64 0]) ?_ 2 _ rfl; (with_reducible repeat (first | refine blk_drewN ?_ _ | refine blk_drew ?_ | refine blk_alloc ?_ _)); refine blk_put (cs := #[.string ((rd_T44 t103 x20_1).f0), .int .i64 0, .int .i64 0, .int .i64 0, .int .i64 0]) ?_ 1 _ rfl; (with_reducible repeat (first | refine blk_drewN ?_ _ | refine blk_drew ?_ | refine blk_alloc ?_ _)); refine blk_put (cs := #[.string (⟨#[]⟩ : ByteArray), .int .i64 0, .int .i64 0, .int .i64 0, .int .i64 0]) ?_ 0 _ rfl; (with_reducible repeat (first | refine blk_drewN ?_ _ | refine blk_drew ?_ | refine blk_alloc ?_ _)); exact BK107.out⟩
                        have n2_ : Aside0 (Below w.heap.size w (((((w15.setCell ⟨gb107, 0, none⟩ (.string ((rd_T44 t103 x20_1).f0))).setCell ⟨gb107, 1, none⟩ (.int .i64 ((rd_T44 t103 x20_1).f1))).setCell ⟨gb107, 2, none⟩ (.int .i64 ((rd_T44 t103 x20_1).f2))).setCell ⟨gb107, 3, none⟩ (.int .i64 ((rd_T44 t103 x20_1).f3))).setCell ⟨gb107, 4, none⟩ (.int .i64 ((rd_T44 t103 x20_1).f4)))) := ⟨by repeat (first | (with_reducible first | exact HB.out | apply below_alloc | apply pw_below_drewN | apply below_drew1 | refine below_set ?_ GE107.out) | exact HB.out)⟩
                        (try clear HO_18)
                        (try clear BK107)
                        (try clear HB)
                        generalize (((((w15.setCell ⟨gb107, 0, none⟩ (.string ((rd_T44 t103 x20_1).f0))).setCell ⟨gb107, 1, none⟩ (.int .i64 ((rd_T44 t103 x20_1).f1))).setCell ⟨gb107, 2, none⟩ (.int .i64 ((rd_T44 t103 x20_1).f2))).setCell ⟨gb107, 3, none⟩ (.int .i64 ((rd_T44 t103 x20_1).f3))).setCell ⟨gb107, 4, none⟩ (.int .i64 ((rd_T44 t103 x20_1).f4))) = w55 at n0_ n1_ n2_ ⊢
                        have HO_18 := n0_
                        have BK107 := n1_
                        have HB := n2_
                        clear n0_ n1_ n2_
                        have n0_ := Aside0.mk (Kd.R_drew HO_18.out)
                        have n1_ := Aside0.mk (blk_drew BK107.out)
                        have n2_ := Aside0.mk (below_drew1 HB.out)
                        clear HO_18
                        clear BK107
                        clear HB
                        have HO_18 := n0_
                        have BK107 := n1_
                        have HB := n2_
                        clear n0_ n1_ n2_
                        refine start_ (n := 39) (S := fun w' => w'.cell? ⟨gb107, 0, none⟩ = some (.string ((rd_T44 t103 x20_1).f0)) ∧ w'.cell? ⟨gb107, 1, none⟩ = some (.int .i64 ((rd_T44 t103 x20_1).f1)) ∧ w'.cell? ⟨gb107, 2, none⟩ = some (.int .i64 ((rd_T44 t103 x20_1).f2)) ∧ w'.cell? ⟨gb107, 3, none⟩ = some (.int .i64 ((rd_T44 t103 x20_1).f3)) ∧ w'.cell? ⟨gb107, 4, none⟩ = some (.int .i64 ((rd_T44 t103 x20_1).f4))) (ds := []) #[false, false, false, false, false, false, false, false, false, false, false, false, false, false, false, false, false, false, false, false, false, false, false, false, false, false, false, false, false, false, false, false, false, false, false, false, false, false, false] (by kernel_rfl) rfl rfl ⟨(blk_cell BK107.out 0).trans rfl, (blk_cell BK107.out 1).trans rfl, (blk_cell BK107.out 2).trans rfl, (blk_cell BK107.out 3).trans rfl, (blk_cell BK107.out 4).trans rfl⟩ (fun hHeld => ?_); refine with_tabW merkhetlaw27_StatsSums.tab7 merkhetlaw27_StatsSums.bits7 (fun HT_ HW_ => ?_)
                        generalize w55.drew = w56 at HO_18 BK107 HB hHeld ⊢
                        refine pure_ (i := 0) (N := some 25) (v := ?_) (a' := ?_) #[true, false, false, false, false, false, false, false, false, false, false, false, false, false, false, false, false, false, false, false, false, false, false, false, false, false, false, false, false, false, false, false, false, false, false, false, false, false, false] rfl rfl (any_of HT_.out (by kernel_rfl)) (fun _ _ _ h => h) (Or.inl ⟨by rfl, ?_⟩) ?_ ?_
                        rotate_left
                        · intro w'
                          go_simp
                          with_reducible rfl
                        rotate_left
                        · simp only [Act.put, List.setIfInBounds_toArray, List.set_cons_zero, List.set_cons_succ, i64_w, i32_w]
                          rfl
                        refine pure_ (i := 1) (N := some 26) (v := ?_) (a' := ?_) #[true, true, false, false, false, false, false, false, false, false, false, false, false, false, false, false, false, false, false, false, false, false, false, false, false, false, false, false, false, false, false, false, false, false, false, false, false, false, false] rfl rfl (any_of HT_.out (by kernel_rfl)) (fun _ _ _ h => h) (Or.inl ⟨by rfl, ?_⟩) ?_ ?_
                        rotate_left
                        · intro w'
                          go_simp
                          with_reducible rfl
                        rotate_left
                        · simp only [Act.put, List.setIfInBounds_toArray, List.set_cons_zero, List.set_cons_succ, i64_w, i32_w]
                          rfl
                        refine pure_ (i := 2) (N := some 27) (v := ?_) (a' := ?_) #[true, true, true, false, false, false, false, false, false, false, false, false, false, false, false, false, false, false, false, false, false, false, false, false, false, false, false, false, false, false, false, false, false, false, false, false, false, false, false] rfl rfl (any_of HT_.out (by kernel_rfl)) (fun _ _ _ h => h) (Or.inl ⟨by rfl, ?_⟩) ?_ ?_
                        rotate_left
                        · intro w'
                          go_simp
                          with_reducible rfl
                        rotate_left
                        · simp only [Act.put, List.setIfInBounds_toArray, List.set_cons_zero, List.set_cons_succ, i64_w, i32_w]
                          rfl
                        refine pure_ (i := 3) (N := some 28) (v := undef) (a' := ?_) #[true, true, true, true, false, false, false, false, false, false, false, false, false, false, false, false, false, false, false, false, false, false, false, false, false, false, false, false, false, false, false, false, false, false, false, false, false, false, false] rfl rfl (any_of HT_.out (by kernel_rfl)) (fun _ _ _ h => h) (Or.inr ⟨by rfl, rfl⟩) ?_ ?_
                        rotate_left
                        · simp only [Act.put, List.setIfInBounds_toArray, List.set_cons_zero, List.set_cons_succ, i64_w, i32_w]
                          rfl
                        refine pure_ (i := 4) (N := some 29) (v := undef) (a' := ?_) #[true, true, true, true, true, false, false, false, false, false, false, false, false, false, false, false, false, false, false, false, false, false, false, false, false, false, false, false, false, false, false, false, false, false, false, false, false, false, false] rfl rfl (any_of HT_.out (by kernel_rfl)) (fun _ _ _ h => h) (Or.inr ⟨by rfl, rfl⟩) ?_ ?_
                        rotate_left
                        · simp only [Act.put, List.setIfInBounds_toArray, List.set_cons_zero, List.set_cons_succ, i64_w, i32_w]
                          rfl
                        refine pure_ (i := 5) (N := some 30) (v := undef) (a' := ?_) #[true, true, true, true, true, true, false, false, false, false, false, false, false, false, false, false, false, false, false, false, false, false, false, false, false, false, false, false, false, false, false, false, false, false, false, false, false, false, false] rfl rfl (any_of HT_.out (by kernel_rfl)) (fun _ _ _ h => h) (Or.inr ⟨by rfl, rfl⟩) ?_ ?_
                        rotate_left
                        · simp only [Act.put, List.setIfInBounds_toArray, List.set_cons_zero, List.set_cons_succ, i64_w, i32_w]
                          rfl
                        refine pure_ (i := 6) (N := some 31) (v := undef) (a' := ?_) #[true, true, true, true, true, true, true, false, false, false, false, false, false, false, false, false, false, false, false, false, false, false, false, false, false, false, false, false, false, false, false, false, false, false, false, false, false, false, false] rfl rfl (any_of HT_.out (by kernel_rfl)) (fun _ _ _ h => h) (Or.inr ⟨by rfl, rfl⟩) ?_ ?_
                        rotate_left
                        · simp only [Act.put, List.setIfInBounds_toArray, List.set_cons_zero, List.set_cons_succ, i64_w, i32_w]
                          rfl
                        refine pure_ (i := 7) (N := some 32) (v := undef) (a' := ?_) #[true, true, true, true, true, true, true, true, false, false, false, false, false, false, false, false, false, false, false, false, false, false, false, false, false, false, false, false, false, false, false, false, false, false, false, false, false, false, false] rfl rfl (any_of HT_.out (by kernel_rfl)) (fun _ _ _ h => h) (Or.inr ⟨by rfl, rfl⟩) ?_ ?_
                        rotate_left
                        · simp only [Act.put, List.setIfInBounds_toArray, List.set_cons_zero, List.set_cons_succ, i64_w, i32_w]
                          rfl
                        refine pure_ (i := 8) (N := some 33) (v := undef) (a' := ?_) #[true, true, true, true, true, true, true, true, true, false, false, false, false, false, false, false, false, false, false, false, false, false, false, false, false, false, false, false, false, false, false, false, false, false, false, false, false, false, false] rfl rfl (any_of HT_.out (by kernel_rfl)) (fun _ _ _ h => h) (Or.inr ⟨by rfl, rfl⟩) ?_ ?_
                        rotate_left
                        · simp only [Act.put, List.setIfInBounds_toArray, List.set_cons_zero, List.set_cons_succ, i64_w, i32_w]
                          rfl
                        refine pure_ (i := 9) (N := some 34) (v := undef) (a' := ?_) #[true, true, true, true, true, true, true, true, true, true, false, false, false, false, false, false, false, false, false, false, false, false, false, false, false, false, false, false, false, false, false, false, false, false, false, false, false, false, false] rfl rfl (any_of HT_.out (by kernel_rfl)) (fun _ _ _ h => h) (Or.inr ⟨by rfl, rfl⟩) ?_ ?_
                        rotate_left
                        · simp only [Act.put, List.setIfInBounds_toArray, List.set_cons_zero, List.set_cons_succ, i64_w, i32_w]
                          rfl
                        refine pure_ (i := 10) (N := some 35) (v := undef) (a' := ?_) #[true, true, true, true, true, true, true, true, true, true, true, false, false, false, false, false, false, false, false, false, false, false, false, false, false, false, false, false, false, false, false, false, false, false, false, false, false, false, false] rfl rfl (any_of HT_.out (by kernel_rfl)) (fun _ _ _ h => h) (Or.inr ⟨by rfl, rfl⟩) ?_ ?_
                        rotate_left
                        · simp only [Act.put, List.setIfInBounds_toArray, List.set_cons_zero, List.set_cons_succ, i64_w, i32_w]
                          rfl
                        refine pure_ (i := 11) (N := some 36) (v := undef) (a' := ?_) #[true, true, true, true, true, true, true, true, true, true, true, true, false, false, false, false, false, false, false, false, false, false, false, false, false, false, false, false, false, false, false, false, false, false, false, false, false, false, false] rfl rfl (any_of HT_.out (by kernel_rfl)) (fun _ _ _ h => h) (Or.inr ⟨by rfl, rfl⟩) ?_ ?_
                        rotate_left
                        · simp only [Act.put, List.setIfInBounds_toArray, List.set_cons_zero, List.set_cons_succ, i64_w, i32_w]
                          rfl
                        refine pure_ (i := 12) (N := some 37) (v := undef) (a' := ?_) #[true, true, true, true, true, true, true, true, true, true, true, true, true, false, false, false, false, false, false, false, false, false, false, false, false, false, false, false, false, false, false, false, false, false, false, false, false, false, false] rfl rfl (any_of HT_.out (by kernel_rfl)) (fun _ _ _ h => h) (Or.inr ⟨by rfl, rfl⟩) ?_ ?_
                        rotate_left
                        · simp only [Act.put, List.setIfInBounds_toArray, List.set_cons_zero, List.set_cons_succ, i64_w, i32_w]
                          rfl
                        refine pure_ (i := 13) (N := some 38) (v := ?_) (a' := ?_) #[true, true, true, true, true, true, true, true, true, true, true, true, true, true, false, false, false, false, false, false, false, false, false, false, false, false, false, false, false, false, false, false, false, false, false, false, false, false, false] rfl rfl (any_of HT_.out (by kernel_rfl)) (fun _ _ _ h => h) (Or.inl ⟨by rfl, ?_⟩) ?_ ?_
                        rotate_left
                        · intro w'
                          go_simp
                          with_reducible rfl
                        rotate_left
                        · simp only [Act.put, List.setIfInBounds_toArray, List.set_cons_zero, List.set_cons_succ, i64_w, i32_w]
                          rfl
                        refine pure_ (i := 14) (N := some 39) (v := ?_) (a' := ?_) #[true, true, true, true, true, true, true, true, true, true, true, true, true, true, true, false, false, false, false, false, false, false, false, false, false, false, false, false, false, false, false, false, false, false, false, false, false, false, false] rfl rfl (any_of HT_.out (by kernel_rfl)) (fun _ _ _ h => h) (Or.inl ⟨by rfl, ?_⟩) ?_ ?_
                        rotate_left
                        · intro w'
                          go_simp
                          with_reducible rfl
                        rotate_left
                        · simp only [Act.put, List.setIfInBounds_toArray, List.set_cons_zero, List.set_cons_succ, i64_w, i32_w]
                          rfl
                        refine pure_ (i := 15) (N := some 40) (v := ?_) (a' := ?_) #[true, true, true, true, true, true, true, true, true, true, true, true, true, true, true, true, false, false, false, false, false, false, false, false, false, false, false, false, false, false, false, false, false, false, false, false, false, false, false] rfl rfl (any_of HT_.out (by kernel_rfl)) (fun _ _ _ h => h) (Or.inl ⟨by rfl, ?_⟩) ?_ ?_
                        rotate_left
                        · intro w'
                          go_simp
                          with_reducible rfl
                        rotate_left
                        · simp only [Act.put, List.setIfInBounds_toArray, List.set_cons_zero, List.set_cons_succ, i64_w, i32_w]
                          rfl
                        refine take_ (i := 16) (N := some 41) (v := ?_) (a' := ?_) #[true, true, true, true, true, true, true, true, true, true, true, true, true, true, true, true, true, false, false, false, false, false, false, false, false, false, false, false, false, false, false, false, false, false, false, false, false, false, false] rfl rfl (take_ofW HT_.out HW_.out (by kernel_rfl)) (fun _ _ _ h => h) (Or.inl ⟨by rfl, ?_⟩) hHeld ?_ ?_
                        rotate_left
                        · rintro w' ⟨s0, s1, s2, s3, s4⟩
                          go_simp
                          with_reducible rfl
                        rotate_left
                        · simp only [Act.put, List.setIfInBounds_toArray, List.set_cons_zero, List.set_cons_succ, i64_w, i32_w]
                          rfl
                        refine pure_ (i := 17) (N := some 42) (v := ?_) (a' := ?_) #[true, true, true, true, true, true, true, true, true, true, true, true, true, true, true, true, true, true, false, false, false, false, false, false, false, false, false, false, false, false, false, false, false, false, false, false, false, false, false] rfl rfl (any_of HT_.out (by kernel_rfl)) (fun _ _ _ h => h) (Or.inl ⟨by rfl, ?_⟩) ?_ ?_
                        rotate_left
                        · intro w'
                          go_simp
                          with_reducible rfl
                        rotate_left
                        · simp only [Act.put, List.setIfInBounds_toArray, List.set_cons_zero, List.set_cons_succ, i64_w, i32_w]
                          rfl
                        refine pure_ (i := 18) (N := some 43) (v := ?_) (a' := ?_) #[true, true, true, true, true, true, true, true, true, true, true, true, true, true, true, true, true, true, true, false, false, false, false, false, false, false, false, false, false, false, false, false, false, false, false, false, false, false, false] rfl rfl (any_of HT_.out (by kernel_rfl)) (fun _ _ _ h => h) (Or.inl ⟨by rfl, ?_⟩) ?_ ?_
                        rotate_left
                        · intro w'
                          go_simp
                          with_reducible rfl
                        rotate_left
                        · simp only [Act.put, List.setIfInBounds_toArray, List.set_cons_zero, List.set_cons_succ, i64_w, i32_w]
                          rfl
                        refine pure_ (i := 19) (N := some 44) (v := ?_) (a' := ?_) #[true, true, true, true, true, true, true, true, true, true, true, true, true, true, true, true, true, true, true, true, false, false, false, false, false, false, false, false, false, false, false, false, false, false, false, false, false, false, false] rfl rfl (any_of HT_.out (by kernel_rfl)) (fun _ _ _ h => h) (Or.inl ⟨by rfl, ?_⟩) ?_ ?_
                        rotate_left
                        · intro w'
                          go_simp
                          with_reducible rfl
                        rotate_left
                        · simp only [Act.put, List.setIfInBounds_toArray, List.set_cons_zero, List.set_cons_succ, i64_w, i32_w]
                          rfl
                        refine pure_ (i := 20) (N := some 45) (v := ?_) (a' := ?_) #[true, true, true, true, true, true, true, true, true, true, true, true, true, true, true, true, true, true, true, true, true, false, false, false, false, false, false, false, false, false, false, false, false, false, false, false, false, false, false] rfl rfl (any_of HT_.out (by kernel_rfl)) (fun _ _ _ h => h) (Or.inl ⟨by rfl, ?_⟩) ?_ ?_
                        rotate_left
                        · intro w'
                          go_simp
                          with_reducible rfl
                        rotate_left
                        · simp only [Act.put, List.setIfInBounds_toArray, List.set_cons_zero, List.set_cons_succ, i64_w, i32_w]
                          rfl
                        refine take_ (i := 21) (N := some 46) (v := ?_) (a' := ?_) #[true, true, true, true, true, true, true, true, true, true, true, true, true, true, true, true, true, true, true, true, true, true, false, false, false, false, false, false, false, false, false, false, false, false, false, false, false, false, false] rfl rfl (take_ofW HT_.out HW_.out (by kernel_rfl)) (fun _ _ _ h => h) (Or.inl ⟨by rfl, ?_⟩) hHeld ?_ ?_
                        rotate_left
                        · rintro w' ⟨s0, s1, s2, s3, s4⟩
                          go_simp
                          with_reducible rfl
                        rotate_left
                        · simp only [Act.put, List.setIfInBounds_toArray, List.set_cons_zero, List.set_cons_succ, i64_w, i32_w]
                          rfl
                        refine pure_ (i := 22) (N := some 47) (v := ?_) (a' := ?_) #[true, true, true, true, true, true, true, true, true, true, true, true, true, true, true, true, true, true, true, true, true, true, true, false, false, false, false, false, false, false, false, false, false, false, false, false, false, false, false] rfl rfl (any_of HT_.out (by kernel_rfl)) (fun _ _ _ h => h) (Or.inl ⟨by rfl, ?_⟩) ?_ ?_
                        rotate_left
                        · intro w'
                          go_simp
                          with_reducible rfl
                        rotate_left
                        · simp only [Act.put, List.setIfInBounds_toArray, List.set_cons_zero, List.set_cons_succ, i64_w, i32_w]
                          rfl
                        refine pure_ (i := 23) (N := some 48) (v := ?_) (a' := ?_) #[true, true, true, true, true, true, true, true, true, true, true, true, true, true, true, true, true, true, true, true, true, true, true, true, false, false, false, false, false, false, false, false, false, false, false, false, false, false, false] rfl rfl (any_of HT_.out (by kernel_rfl)) (fun _ _ _ h => h) (Or.inl ⟨by rfl, ?_⟩) ?_ ?_
                        rotate_left
                        · intro w'
                          go_simp
                          with_reducible rfl
                        rotate_left
                        · simp only [Act.put, List.setIfInBounds_toArray, List.set_cons_zero, List.set_cons_succ, i64_w, i32_w]
                          rfl
                        refine pure_ (i := 24) (N := some 49) (v := ?_) (a' := ?_) #[true, true, true, true, true, true, true, true, true, true, true, true, true, true, true, true, true, true, true, true, true, true, true, true, true, false, false, false, false, false, false, false, false, false, false, false, false, false, false] rfl rfl (any_of HT_.out (by kernel_rfl)) (fun _ _ _ h => h) (Or.inl ⟨by rfl, ?_⟩) ?_ ?_
                        rotate_left
                        · intro w'
                          go_simp
                          with_reducible rfl
                        rotate_left
                        · simp only [Act.put, List.setIfInBounds_toArray, List.set_cons_zero, List.set_cons_succ, i64_w, i32_w]
                          rfl
                        refine pure_ (i := 25) (N := some 50) (v := ?_) (a' := ?_) #[true, true, true, true, true, true, true, true, true, true, true, true, true, true, true, true, true, true, true, true, true, true, true, true, true, true, false, false, false, false, false, false, false, false, false, false, false, false, false] rfl rfl (any_of HT_.out (by kernel_rfl)) (fun _ _ _ h => h) (Or.inl ⟨by rfl, ?_⟩) ?_ ?_
                        rotate_left
                        · intro w'
                          go_simp
                          with_reducible rfl
                        rotate_left
                        · simp only [Act.put, List.setIfInBounds_toArray, List.set_cons_zero, List.set_cons_succ, i64_w, i32_w]
                          rfl
                        refine take_ (i := 26) (N := some 51) (v := ?_) (a' := ?_) #[true, true, true, true, true, true, true, true, true, true, true, true, true, true, true, true, true, true, true, true, true, true, true, true, true, true, true, false, false, false, false, false, false, false, false, false, false, false, false] rfl rfl (take_ofW HT_.out HW_.out (by kernel_rfl)) (fun _ _ _ h => h) (Or.inl ⟨by rfl, ?_⟩) hHeld ?_ ?_
                        rotate_left
                        · rintro w' ⟨s0, s1, s2, s3, s4⟩
                          go_simp
                          with_reducible rfl
                        rotate_left
                        · simp only [Act.put, List.setIfInBounds_toArray, List.set_cons_zero, List.set_cons_succ, i64_w, i32_w]
                          rfl
                        refine pure_ (i := 27) (N := some 52) (v := ?_) (a' := ?_) #[true, true, true, true, true, true, true, true, true, true, true, true, true, true, true, true, true, true, true, true, true, true, true, true, true, true, true, true, false, false, false, false, false, false, false, false, false, false, false] rfl rfl (any_of HT_.out (by kernel_rfl)) (fun _ _ _ h => h) (Or.inl ⟨by rfl, ?_⟩) ?_ ?_
                        rotate_left
                        · intro w'
                          go_simp
                          with_reducible rfl
                        rotate_left
                        · simp only [Act.put, List.setIfInBounds_toArray, List.set_cons_zero, List.set_cons_succ, i64_w, i32_w]
                          rfl
                        refine pure_ (i := 28) (N := some 53) (v := ?_) (a' := ?_) #[true, true, true, true, true, true, true, true, true, true, true, true, true, true, true, true, true, true, true, true, true, true, true, true, true, true, true, true, true, false, false, false, false, false, false, false, false, false, false] rfl rfl (any_of HT_.out (by kernel_rfl)) (fun _ _ _ h => h) (Or.inl ⟨by rfl, ?_⟩) ?_ ?_
                        rotate_left
                        · intro w'
                          go_simp
                          with_reducible rfl
                        rotate_left
                        · simp only [Act.put, List.setIfInBounds_toArray, List.set_cons_zero, List.set_cons_succ, i64_w, i32_w]
                          rfl
                        refine pure_ (i := 29) (N := some 54) (v := ?_) (a' := ?_) #[true, true, true, true, true, true, true, true, true, true, true, true, true, true, true, true, true, true, true, true, true, true, true, true, true, true, true, true, true, true, false, false, false, false, false, false, false, false, false] rfl rfl (any_of HT_.out (by kernel_rfl)) (fun _ _ _ h => h) (Or.inl ⟨by rfl, ?_⟩) ?_ ?_
                        rotate_left
                        · intro w'
                          go_simp
                          with_reducible rfl
                        rotate_left
                        · simp only [Act.put, List.setIfInBounds_toArray, List.set_cons_zero, List.set_cons_succ, i64_w, i32_w]
                          rfl
                        refine pure_ (i := 30) (N := some 55) (v := ?_) (a' := ?_) #[true, true, true, true, true, true, true, true, true, true, true, true, true, true, true, true, true, true, true, true, true, true, true, true, true, true, true, true, true, true, true, false, false, false, false, false, false, false, false] rfl rfl (any_of HT_.out (by kernel_rfl)) (fun _ _ _ h => h) (Or.inl ⟨by rfl, ?_⟩) ?_ ?_
                        rotate_left
                        · intro w'
                          go_simp
                          with_reducible rfl
                        rotate_left
                        · simp only [Act.put, List.setIfInBounds_toArray, List.set_cons_zero, List.set_cons_succ, i64_w, i32_w]
                          rfl
                        refine pure_ (i := 32) (N := some 57) (v := ?_) (a' := ?_) #[true, true, true, true, true, true, true, true, true, true, true, true, true, true, true, true, true, true, true, true, true, true, true, true, true, true, true, true, true, true, true, false, true, false, false, false, false, false, false] rfl rfl (any_of HT_.out (by kernel_rfl)) (fun _ _ _ h => h) (Or.inl ⟨by rfl, ?_⟩) ?_ ?_
                        rotate_left
                        · intro w'
                          go_simp
                          with_reducible rfl
                        rotate_left
                        · simp only [Act.put, List.setIfInBounds_toArray, List.set_cons_zero, List.set_cons_succ, i64_w, i32_w]
                          rfl
                        refine pure_ (i := 35) (N := some 60) (v := ?_) (a' := ?_) #[true, true, true, true, true, true, true, true, true, true, true, true, true, true, true, true, true, true, true, true, true, true, true, true, true, true, true, true, true, true, true, false, true, false, false, true, false, false, false] rfl rfl (any_of HT_.out (by kernel_rfl)) (fun _ _ _ h => h) (Or.inl ⟨by rfl, ?_⟩) ?_ ?_
                        rotate_left
                        · intro w'
                          go_simp
                          with_reducible rfl
                        rotate_left
                        · simp only [Act.put, List.setIfInBounds_toArray, List.set_cons_zero, List.set_cons_succ, i64_w, i32_w]
                          rfl
                        refine take_ (i := 31) (N := some 56) (v := ?_) (a' := ?_) #[true, true, true, true, true, true, true, true, true, true, true, true, true, true, true, true, true, true, true, true, true, true, true, true, true, true, true, true, true, true, true, true, true, false, false, true, false, false, false] rfl rfl (take_ofW HT_.out HW_.out (by kernel_rfl)) (fun _ _ _ h => h) (Or.inl ⟨by rfl, ?_⟩) hHeld ?_ ?_
                        rotate_left
                        · rintro w' ⟨s0, s1, s2, s3, s4⟩
                          go_simp
                          with_reducible rfl
                        rotate_left
                        · simp only [Act.put, List.setIfInBounds_toArray, List.set_cons_zero, List.set_cons_succ, i64_w, i32_w]
                          rfl
                        refine take_ (i := 33) (N := some 58) (v := ?_) (a' := ?_) #[true, true, true, true, true, true, true, true, true, true, true, true, true, true, true, true, true, true, true, true, true, true, true, true, true, true, true, true, true, true, true, true, true, true, false, true, false, false, false] rfl rfl (take_ofW HT_.out HW_.out (by kernel_rfl)) (fun _ _ _ h => h) (Or.inl ⟨by rfl, ?_⟩) hHeld ?_ ?_
                        rotate_left
                        · rintro w' ⟨s0, s1, s2, s3, s4⟩
                          go_simp
                          with_reducible rfl
                        rotate_left
                        · simp only [Act.put, List.setIfInBounds_toArray, List.set_cons_zero, List.set_cons_succ, i64_w, i32_w]
                          rfl
                        refine pure_ (i := 34) (N := some 59) (v := ?_) (a' := ?_) #[true, true, true, true, true, true, true, true, true, true, true, true, true, true, true, true, true, true, true, true, true, true, true, true, true, true, true, true, true, true, true, true, true, true, true, true, false, false, false] rfl rfl (any_of HT_.out (by kernel_rfl)) (fun _ _ _ h => h) (Or.inl ⟨by rfl, ?_⟩) ?_ ?_
                        rotate_left
                        · intro w'
                          go_simp
                          with_reducible rfl
                        rotate_left
                        · simp only [Act.put, List.setIfInBounds_toArray, List.set_cons_zero, List.set_cons_succ, i64_w, i32_w]
                          rfl
                        refine take_ (i := 36) (N := some 61) (v := ?_) (a' := ?_) #[true, true, true, true, true, true, true, true, true, true, true, true, true, true, true, true, true, true, true, true, true, true, true, true, true, true, true, true, true, true, true, true, true, true, true, true, true, false, false] rfl rfl (take_ofW HT_.out HW_.out (by kernel_rfl)) (fun _ _ _ h => h) (Or.inl ⟨by rfl, ?_⟩) hHeld ?_ ?_
                        rotate_left
                        · rintro w' ⟨s0, s1, s2, s3, s4⟩
                          go_simp
                          with_reducible rfl
                        rotate_left
                        · simp only [Act.put, List.setIfInBounds_toArray, List.set_cons_zero, List.set_cons_succ, i64_w, i32_w]
                          rfl
                        refine pure_ (i := 37) (N := some 62) (v := ?_) (a' := ?_) #[true, true, true, true, true, true, true, true, true, true, true, true, true, true, true, true, true, true, true, true, true, true, true, true, true, true, true, true, true, true, true, true, true, true, true, true, true, true, false] rfl rfl (any_of HT_.out (by kernel_rfl)) (fun _ _ _ h => h) (Or.inl ⟨by rfl, ?_⟩) ?_ ?_
                        rotate_left
                        · intro w'
                          go_simp
                          with_reducible rfl
                        rotate_left
                        · simp only [Act.put, List.setIfInBounds_toArray, List.set_cons_zero, List.set_cons_succ, i64_w, i32_w]
                          rfl
                        refine pure_ (i := 38) (N := some 63) (v := ?_) (a' := ?_) #[true, true, true, true, true, true, true, true, true, true, true, true, true, true, true, true, true, true, true, true, true, true, true, true, true, true, true, true, true, true, true, true, true, true, true, true, true, true, true] rfl rfl (any_of HT_.out (by kernel_rfl)) (fun _ _ _ h => h) (Or.inl ⟨by rfl, ?_⟩) ?_ ?_
                        rotate_left
                        · intro w'
                          go_simp
                          with_reducible rfl
                        rotate_left
                        · simp only [Act.put, List.setIfInBounds_toArray, List.set_cons_zero, List.set_cons_succ, i64_w, i32_w]
                          rfl
                        refine done_ (done_of HT_.out (by kernel_rfl)) ?_
                        try go_wp2
                        go_meet
                        case rel => exact ⟨_, (decide ((wrap64 (((rd_T44 t103 x20_1).f3) + ((rd_T44 t103 x20_1).f4))) > ((rd_T44 t103 x20_1).f1))), (by first | rfl | (simp; done) | (simp [*]; done)), H', ⟨by have := HK1.out; first | omega | exact Nat.le_refl _⟩, ⟨by (with_reducible repeat (first | apply Kd.R_alloc | apply Kd.R_drewN | apply Kd.R_drew)); exact HO_18.out⟩, ⟨by (with_reducible repeat (first | refine blk_drewN ?_ _ | refine blk_drew ?_ | refine blk_alloc ?_ _)); exact BK107.out⟩, ⟨by repeat (first | (with_reducible first | exact HB.out | apply below_alloc | apply pw_below_drewN | apply below_drew1 | refine below_set ?_ GE107.out) | exact HB.out)⟩⟩
              case rest =>
                clear HC14
                (try clear p2); (try clear c4); (try clear c5); (try clear p6); (try clear c49); (try clear c49b0); (try clear c52); (try clear c52b0)
                obtain ⟨kq, x63_13, rfl, HA, HJ13, HO_18, BK107, HB⟩ := hcut
                cases kq with
                | zero => exact absurd HA.out (by simp [merkhetlaw27_StatsSums.j1])
                | succ kj13 =>
                  have H := HA.out
                  clear HA
                  simp only [merkhetlaw27_StatsSums.j1] at H
                  by_cases c57 : x63_13 = true
                  · subst c57
                    have H1 : (some false) = some r := by rw [if_pos rfl] at H; exact H
                    clear H
                    have H := H1
                    clear H1
                    obtain rfl := Option.some.inj H
                    go_wp2
                    go_ret
                    exact ⟨by first | rfl | (simp [errW_none, errW_some] <;> rfl) | (simp [*, errW_none, errW_some] <;> rfl), by repeat (first | (with_reducible first | exact HB.out | apply below_alloc | apply pw_below_drewN | apply below_drew1 | refine below_set ?_ GE107.out) | exact HB.out)⟩
                  · replace c57 := Bool.eq_false_iff.mpr c57
                    subst c57
                    have H1 : (merkhetlaw27_StatsSums.l0 kj13 l0 (wrap64 (x3_1 + ((rd_T44 t103 x20_1).f1))) (wrap64 (x4_1 + ((rd_T44 t103 x20_1).f2))) (wrap64 ((wrap64 (x5_1 + ((rd_T44 t103 x20_1).f3))) + ((rd_T44 t103 x20_1).f4))) t103 (t103.length : Int) (wrap64 (x20_1 + 1))) = some r := by rw [if_neg (show ¬ (false = true) by decide)] at H; exact H
                    clear H
                    have H := H1
                    clear H1
                    have H' := Aside0.mk H
                    clear H
                    try go_wp2
                    have n0_ := Aside0.mk (Kd.R_drew HO_18.out)
                    have n1_ := Aside0.mk (blk_drew BK107.out)
                    have n2_ := Aside0.mk (below_drew1 HB.out)
                    clear HO_18
                    clear BK107
                    clear HB
                    have HO_18 := n0_
                    have BK107 := n1_
                    have HB := n2_
                    clear n0_ n1_ n2_
                    refine start_ (n := 18) (S := fun w' => w'.cell? ⟨gb107, 0, none⟩ = some (.string ((rd_T44 t103 x20_1).f0)) ∧ w'.cell? ⟨gb107, 1, none⟩ = some (.int .i64 ((rd_T44 t103 x20_1).f1)) ∧ w'.cell? ⟨gb107, 2, none⟩ = some (.int .i64 ((rd_T44 t103 x20_1).f2)) ∧ w'.cell? ⟨gb107, 3, none⟩ = some (.int .i64 ((rd_T44 t103 x20_1).f3)) ∧ w'.cell? ⟨gb107, 4, none⟩ = some (.int .i64 ((rd_T44 t103 x20_1).f4))) (ds := []) #[false, false, false, false, false, false, false, false, false, false, false, false, false, false, false, false, false, false] (by kernel_rfl) rfl rfl ⟨(blk_cell BK107.out 0).trans rfl, (blk_cell BK107.out 1).trans rfl, (blk_cell BK107.out 2).trans rfl, (blk_cell BK107.out 3).trans rfl, (blk_cell BK107.out 4).trans rfl⟩ (fun hHeld => ?_); refine with_tabW merkhetlaw27_StatsSums.tab9 merkhetlaw27_StatsSums.bits9 (fun HT_ HW_ => ?_)
                    generalize wc.drew = w58 at HO_18 BK107 HB hHeld ⊢
                    refine pure_ (i := 0) (N := some 64) (v := ?_) (a' := ?_) #[true, false, false, false, false, false, false, false, false, false, false, false, false, false, false, false, false, false] rfl rfl (any_of HT_.out (by kernel_rfl)) (fun _ _ _ h => h) (Or.inl ⟨by rfl, ?_⟩) ?_ ?_
                    rotate_left
                    · intro w'
                      go_simp
                      with_reducible rfl
                    rotate_left
                    · simp only [Act.put, List.setIfInBounds_toArray, List.set_cons_zero, List.set_cons_succ, i64_w, i32_w]
                      rfl
                    refine pure_ (i := 1) (N := some 65) (v := ?_) (a' := ?_) #[true, true, false, false, false, false, false, false, false, false, false, false, false, false, false, false, false, false] rfl rfl (any_of HT_.out (by kernel_rfl)) (fun _ _ _ h => h) (Or.inl ⟨by rfl, ?_⟩) ?_ ?_
                    rotate_left
                    · intro w'
                      go_simp
                      with_reducible rfl
                    rotate_left
                    · simp only [Act.put, List.setIfInBounds_toArray, List.set_cons_zero, List.set_cons_succ, i64_w, i32_w]
                      rfl
                    refine pure_ (i := 4) (N := some 68) (v := ?_) (a' := ?_) #[true, true, false, false, true, false, false, false, false, false, false, false, false, false, false, false, false, false] rfl rfl (any_of HT_.out (by kernel_rfl)) (fun _ _ _ h => h) (Or.inl ⟨by rfl, ?_⟩) ?_ ?_
                    rotate_left
                    · intro w'
                      go_simp
                      with_reducible rfl
                    rotate_left
                    · simp only [Act.put, List.setIfInBounds_toArray, List.set_cons_zero, List.set_cons_succ, i64_w, i32_w]
                      rfl
                    refine pure_ (i := 5) (N := some 69) (v := ?_) (a' := ?_) #[true, true, false, false, true, true, false, false, false, false, false, false, false, false, false, false, false, false] rfl rfl (any_of HT_.out (by kernel_rfl)) (fun _ _ _ h => h) (Or.inl ⟨by rfl, ?_⟩) ?_ ?_
                    rotate_left
                    · intro w'
                      go_simp
                      with_reducible rfl
                    rotate_left
                    · simp only [Act.put, List.setIfInBounds_toArray, List.set_cons_zero, List.set_cons_succ, i64_w, i32_w]
                      rfl
                    refine pure_ (i := 8) (N := some 72) (v := ?_) (a' := ?_) #[true, true, false, false, true, true, false, false, true, false, false, false, false, false, false, false, false, false] rfl rfl (any_of HT_.out (by kernel_rfl)) (fun _ _ _ h => h) (Or.inl ⟨by rfl, ?_⟩) ?_ ?_
                    rotate_left
                    · intro w'
                      go_simp
                      with_reducible rfl
                    rotate_left
                    · simp only [Act.put, List.setIfInBounds_toArray, List.set_cons_zero, List.set_cons_succ, i64_w, i32_w]
                      rfl
                    refine pure_ (i := 9) (N := some 73) (v := ?_) (a' := ?_) #[true, true, false, false, true, true, false, false, true, true, false, false, false, false, false, false, false, false] rfl rfl (any_of HT_.out (by kernel_rfl)) (fun _ _ _ h => h) (Or.inl ⟨by rfl, ?_⟩) ?_ ?_
                    rotate_left
                    · intro w'
                      go_simp
                      with_reducible rfl
                    rotate_left
                    · simp only [Act.put, List.setIfInBounds_toArray, List.set_cons_zero, List.set_cons_succ, i64_w, i32_w]
                      rfl
                    refine pure_ (i := 12) (N := some 76) (v := ?_) (a' := ?_) #[true, true, false, false, true, true, false, false, true, true, false, false, true, false, false, false, false, false] rfl rfl (any_of HT_.out (by kernel_rfl)) (fun _ _ _ h => h) (Or.inl ⟨by rfl, ?_⟩) ?_ ?_
                    rotate_left
                    · intro w'
                      go_simp
                      with_reducible rfl
                    rotate_left
                    · simp only [Act.put, List.setIfInBounds_toArray, List.set_cons_zero, List.set_cons_succ, i64_w, i32_w]
                      rfl
                    refine take_ (i := 2) (N := some 66) (v := ?_) (a' := ?_) #[true, true, true, false, true, true, false, false, true, true, false, false, true, false, false, false, false, false] rfl rfl (take_ofW HT_.out HW_.out (by kernel_rfl)) (fun _ _ _ h => h) (Or.inl ⟨by rfl, ?_⟩) hHeld ?_ ?_
                    rotate_left
                    · rintro w' ⟨s0, s1, s2, s3, s4⟩
                      go_simp
                      with_reducible rfl
                    rotate_left
                    · simp only [Act.put, List.setIfInBounds_toArray, List.set_cons_zero, List.set_cons_succ, i64_w, i32_w]
                      rfl
                    refine pure_ (i := 3) (N := some 67) (v := ?_) (a' := ?_) #[true, true, true, true, true, true, false, false, true, true, false, false, true, false, false, false, false, false] rfl rfl (any_of HT_.out (by kernel_rfl)) (fun _ _ _ h => h) (Or.inl ⟨by rfl, ?_⟩) ?_ ?_
                    rotate_left
                    · intro w'
                      go_simp
                      with_reducible rfl
                    rotate_left
                    · simp only [Act.put, List.setIfInBounds_toArray, List.set_cons_zero, List.set_cons_succ, i64_w, i32_w]
                      rfl
                    refine pure_ (i := 15) (N := some 3) (v := ?_) (a' := ?_) #[true, true, true, true, true, true, false, false, true, true, false, false, true, false, false, true, false, false] rfl rfl (any_of HT_.out (by kernel_rfl)) (fun _ _ _ h => h) (Or.inl ⟨by rfl, ?_⟩) ?_ ?_
                    rotate_left
                    · intro w'
                      go_simp
                      with_reducible rfl
                    rotate_left
                    · simp only [Act.put, List.setIfInBounds_toArray, List.set_cons_zero, List.set_cons_succ, i64_w, i32_w]
                      rfl
                    refine take_ (i := 6) (N := some 70) (v := ?_) (a' := ?_) #[true, true, true, true, true, true, true, false, true, true, false, false, true, false, false, true, false, false] rfl rfl (take_ofW HT_.out HW_.out (by kernel_rfl)) (fun _ _ _ h => h) (Or.inl ⟨by rfl, ?_⟩) hHeld ?_ ?_
                    rotate_left
                    · rintro w' ⟨s0, s1, s2, s3, s4⟩
                      go_simp
                      with_reducible rfl
                    rotate_left
                    · simp only [Act.put, List.setIfInBounds_toArray, List.set_cons_zero, List.set_cons_succ, i64_w, i32_w]
                      rfl
                    refine pure_ (i := 7) (N := some 71) (v := ?_) (a' := ?_) #[true, true, true, true, true, true, true, true, true, true, false, false, true, false, false, true, false, false] rfl rfl (any_of HT_.out (by kernel_rfl)) (fun _ _ _ h => h) (Or.inl ⟨by rfl, ?_⟩) ?_ ?_
                    rotate_left
                    · intro w'
                      go_simp
                      with_reducible rfl
                    rotate_left
                    · simp only [Act.put, List.setIfInBounds_toArray, List.set_cons_zero, List.set_cons_succ, i64_w, i32_w]
                      rfl
                    refine pure_ (i := 16) (N := some 4) (v := ?_) (a' := ?_) #[true, true, true, true, true, true, true, true, true, true, false, false, true, false, false, true, true, false] rfl rfl (any_of HT_.out (by kernel_rfl)) (fun _ _ _ h => h) (Or.inl ⟨by rfl, ?_⟩) ?_ ?_
                    rotate_left
                    · intro w'
                      go_simp
                      with_reducible rfl
                    rotate_left
                    · simp only [Act.put, List.setIfInBounds_toArray, List.set_cons_zero, List.set_cons_succ, i64_w, i32_w]
                      rfl
                    refine take_ (i := 10) (N := some 74) (v := ?_) (a' := ?_) #[true, true, true, true, true, true, true, true, true, true, true, false, true, false, false, true, true, false] rfl rfl (take_ofW HT_.out HW_.out (by kernel_rfl)) (fun _ _ _ h => h) (Or.inl ⟨by rfl, ?_⟩) hHeld ?_ ?_
                    rotate_left
                    · rintro w' ⟨s0, s1, s2, s3, s4⟩
                      go_simp
                      with_reducible rfl
                    rotate_left
                    · simp only [Act.put, List.setIfInBounds_toArray, List.set_cons_zero, List.set_cons_succ, i64_w, i32_w]
                      rfl
                    refine pure_ (i := 11) (N := some 75) (v := ?_) (a' := ?_) #[true, true, true, true, true, true, true, true, true, true, true, true, true, false, false, true, true, false] rfl rfl (any_of HT_.out (by kernel_rfl)) (fun _ _ _ h => h) (Or.inl ⟨by rfl, ?_⟩) ?_ ?_
                    rotate_left
                    · intro w'
                      go_simp
                      with_reducible rfl
                    rotate_left
                    · simp only [Act.put, List.setIfInBounds_toArray, List.set_cons_zero, List.set_cons_succ, i64_w, i32_w]
                      rfl
                    refine take_ (i := 13) (N := some 77) (v := ?_) (a' := ?_) #[true, true, true, true, true, true, true, true, true, true, true, true, true, true, false, true, true, false] rfl rfl (take_ofW HT_.out HW_.out (by kernel_rfl)) (fun _ _ _ h => h) (Or.inl ⟨by rfl, ?_⟩) hHeld ?_ ?_
                    rotate_left
                    · rintro w' ⟨s0, s1, s2, s3, s4⟩
                      go_simp
                      with_reducible rfl
                    rotate_left
                    · simp only [Act.put, List.setIfInBounds_toArray, List.set_cons_zero, List.set_cons_succ, i64_w, i32_w]
                      rfl
                    refine pure_ (i := 14) (N := some 78) (v := ?_) (a' := ?_) #[true, true, true, true, true, true, true, true, true, true, true, true, true, true, true, true, true, false] rfl rfl (any_of HT_.out (by kernel_rfl)) (fun _ _ _ h => h) (Or.inl ⟨by rfl, ?_⟩) ?_ ?_
                    rotate_left
                    · intro w'
                      go_simp
                      with_reducible rfl
                    rotate_left
                    · simp only [Act.put, List.setIfInBounds_toArray, List.set_cons_zero, List.set_cons_succ, i64_w, i32_w]
                      rfl
                    refine pure_ (i := 17) (N := some 5) (v := ?_) (a' := ?_) #[true, true, true, true, true, true, true, true, true, true, true, true, true, true, true, true, true, true] rfl rfl (any_of HT_.out (by kernel_rfl)) (fun _ _ _ h => h) (Or.inl ⟨by rfl, ?_⟩) ?_ ?_
                    rotate_left
                    · intro w'
                      go_simp
                      with_reducible rfl
                    rotate_left
                    · simp only [Act.put, List.setIfInBounds_toArray, List.set_cons_zero, List.set_cons_succ, i64_w, i32_w]
                      rfl
                    refine done_ (done_of HT_.out (by kernel_rfl)) ?_
                    try go_wp2
                    go_roundg kj13
                    case measure => have := HK1.out; have := HJ13.out; omega
                    case rel => exact ⟨(wrap64 (x3_1 + ((rd_T44 t103 x20_1).f1))), (wrap64 (x4_1 + ((rd_T44 t103 x20_1).f2))), (wrap64 ((wrap64 (x5_1 + ((rd_T44 t103 x20_1).f3))) + ((rd_T44 t103 x20_1).f4))), (wrap64 (x20_1 + 1)), (by first | rfl | (simp; done) | (simp [*]; done)), (by first | rfl | (simp; done) | (simp [*]; done)), (by first | rfl | (simp; done) | (simp [*]; done)), (by first | rfl | (simp; done) | (simp [*]; done)), H', ⟨by have := HK1.out; have := HJ13.out; omega⟩, ⟨by (with_reducible repeat (first | apply Kd.R_alloc | apply Kd.R_drewN | apply Kd.R_drew)); exact Kd.R_mono HO_18.out (fun _ hk => trivial)⟩, ⟨by repeat (first | (with_reducible first | exact HB.out | apply below_alloc | apply pw_below_drewN | apply below_drew1 | refine below_set ?_ GE107.out) | exact HB.out)⟩⟩
            · rw [if_neg c13] at H
              exact absurd H (by simp)
          · rw [if_neg c12] at H
            exact absurd H (by simp)
        · rw [if_neg c11] at H
          have c11b0 : decide (x20_1 < (t103.length : Int)) = false := decide_eq_false c11
          clear c11
          have H' := Aside0.mk H
          clear H
          go_wp2
          go_loopg [8, 9, 10, 82] k1 (fun kq v8 v9 v10 v82 w' => ∃ (x8_2 : Int) (x9_2 : Int) (x10_2 : Int) (x82_2 : Int), v8 = .int .i64 x8_2 ∧ v9 = .int .i64 x9_2 ∧ v10 = .int .i64 x10_2 ∧ v82 = .int .i64 x82_2 ∧ Aside0 (merkhetlaw27_StatsSums.l1 kq x3_1 x4_1 x5_1 x8_2 x9_2 x10_2 l0 (l0.length : Int) x82_2 = some r) ∧ Aside0 (kq ≤ k1) ∧ Aside0 (Below w.heap.size w w'))
          case atStart => exact ⟨(0), (0), (0), (0), (by first | rfl | (simp; done) | (simp [*]; done)), (by first | rfl | (simp; done) | (simp [*]; done)), (by first | rfl | (simp; done) | (simp [*]; done)), (by first | rfl | (simp; done) | (simp [*]; done)), H', ⟨Nat.le_refl _⟩, ⟨by repeat (first | (with_reducible first | exact HB.out | apply below_alloc | apply pw_below_drewN | apply below_drew1) | exact HB.out)⟩⟩
          case round =>
            clear H'
            (try clear c1); (try clear p2); (try clear c4); (try clear c5); (try clear p6); (try clear c11); (try clear c11b0); (try clear c12); (try clear c13); (try clear c49); (try clear c49b0); (try clear c52); (try clear c52b0); (try clear c57); (try clear p2); (try clear p6)
            obtain ⟨x8_2, x9_2, x10_2, x82_2, rfl, rfl, rfl, rfl, HA, HK2, HB⟩ := hrel
            cases gk with
            | zero => exact absurd HA.out (by simp [merkhetlaw27_StatsSums.l1])
            | succ k2 =>
              have H := HA.out
              clear HA
              simp only [merkhetlaw27_StatsSums.l1] at H
              by_cases c59 : x82_2 < (l0.length : Int)
              · rw [if_pos c59] at H
                have c59b0 : decide (x82_2 < (l0.length : Int)) = true := decide_eq_true c59
                clear c59
                by_cases c60 : 0 ≤ x82_2
                · rw [if_pos c60] at H
                  have c60b0 : decide (0 ≤ x82_2) = true := decide_eq_true c60
                  clear c60
                  by_cases c61 : x82_2 < (l0.length : Int)
                  · rw [if_pos c61] at H
                    have c61b0 : decide (x82_2 < (l0.length : Int)) = true := decide_eq_true c61
                    clear c61
                    obtain ⟨y115, hy115⟩ : ∃ y_ : List (S37), y_ = (([(⟨(rd_T37 l0 x82_2).f0, (rd_T37 l0 x82_2).f1, (rd_T37 l0 x82_2).f2, (rd_T37 l0 x82_2).f3, (rd_T37 l0 x82_2).f4, (rd_T37 l0 x82_2).f5, (rd_T37 l0 x82_2).f6, (rd_T37 l0 x82_2).f7⟩ : S37)] : List (S37))) := ⟨_, rfl⟩
                    replace H : ((stats_Of.f y115).bind fun t118 => (if (t118.length : Int) = 0 then (merkhetlaw27_StatsSums.l1 k2 x3_1 x4_1 x5_1 x8_2 x9_2 x10_2 l0 (l0.length : Int) (wrap64 (x82_2 + 1))) else (if ((rd_T37 l0 x82_2).f3) = 0 then (merkhetlaw27_StatsSums.l1 k2 x3_1 x4_1 x5_1 (wrap64 (x8_2 + 1)) (wrap64 (x9_2 + ((rd_T37 l0 x82_2).f7))) x10_2 l0 (l0.length : Int) (wrap64 (x82_2 + 1))) else (merkhetlaw27_StatsSums.l1 k2 x3_1 x4_1 x5_1 (wrap64 (x8_2 + 1)) (wrap64 (x9_2 + ((rd_T37 l0 x82_2).f7))) (wrap64 (x10_2 + 1)) l0 (l0.length : Int) (wrap64 (x82_2 + 1)))))) = some r := by first | (rw [hy115]; with_reducible exact H) | (have H2_ := (Option.bind_some _ _).symm.trans H; rw [hy115]; with_reducible exact H2_) | (have H2_ := (Option.bind_some _ _).symm.trans H; with_reducible exact H2_) | with_reducible exact H | (rw [hy115]; exact H) | exact H
                    have Ny115 := Aside0.mk hy115
                    clear hy115
                    replace H := Option.bind_eq_some_iff.mp H
                    obtain ⟨t118, A620, H⟩ := H
                    replace H : (if (t118.length : Int) = 0 then (merkhetlaw27_StatsSums.l1 k2 x3_1 x4_1 x5_1 x8_2 x9_2 x10_2 l0 (l0.length : Int) (wrap64 (x82_2 + 1))) else (if ((rd_T37 l0 x82_2).f3) = 0 then (merkhetlaw27_StatsSums.l1 k2 x3_1 x4_1 x5_1 (wrap64 (x8_2 + 1)) (wrap64 (x9_2 + ((rd_T37 l0 x82_2).f7))) x10_2 l0 (l0.length : Int) (wrap64 (x82_2 + 1))) else (merkhetlaw27_StatsSums.l1 k2 x3_1 x4_1 x5_1 (wrap64 (x8_2 + 1)) (wrap64 (x9_2 + ((rd_T37 l0 x82_2).f7))) (wrap64 (x10_2 + 1)) l0 (l0.length : Int) (wrap64 (x82_2 + 1))))) = some r := H
                    have A62 := Aside0.mk A620
                    clear A620
                    by_cases c63 : (t118.length : Int) = 0
                    · rw [if_pos c63] at H
                      have c63b0 : ((t118.length : Int) == 0) = true := beq_iff_eq.mpr c63
                      have c63b1 : ((t118.length : Int) != 0) = false := bne_eq_false_iff_eq.mpr c63
                      clear c63
                      have H' := Aside0.mk H
                      clear H
                      have p113 : 0 ≤ (x82_2 : Int) := of_decide_eq_true (by first | (with_reducible assumption) | assumption)
                      have q113 : x82_2 < (l0.length : Int) := of_decide_eq_true (by first | (with_reducible assumption) | assumption)
                      obtain ⟨ad113, e113, hx113_0, hx113_1, hx113_2, hx113_3, hx113_4, hx113_5, hx113_6, hx113_7⟩ := at_T37 HR0.out x82_2 p113 q113
                      cases e113
                      replace hx113_0 := (HB.out.cell (World.block_lt_of_cell? w _ hx113_0)).trans hx113_0
                      replace hx113_1 := (HB.out.cell (World.block_lt_of_cell? w _ hx113_1)).trans hx113_1
                      replace hx113_2 := (HB.out.cell (World.block_lt_of_cell? w _ hx113_2)).trans hx113_2
                      replace hx113_3 := (HB.out.cell (World.block_lt_of_cell? w _ hx113_3)).trans hx113_3
                      replace hx113_4 := (HB.out.cell (World.block_lt_of_cell? w _ hx113_4)).trans hx113_4
                      replace hx113_5 := (HB.out.cell (World.block_lt_of_cell? w _ hx113_5)).trans hx113_5
                      replace hx113_6 := (HB.out.cell (World.block_lt_of_cell? w _ hx113_6)).trans hx113_6
                      replace hx113_7 := (HB.out.cell (World.block_lt_of_cell? w _ hx113_7)).trans hx113_7
                      replace p113 := eq_true p113
                      replace q113 := eq_true q113
                      go_wp2_with (first | ((with_reducible refine gate_dst (N := 12) rfl ?_); refine box_event ?hg (N := 12) ?hd (cs := #[.int .u64 0, .int .u64 0, .int .u64 0, .int .u8 0, .string (⟨#[]⟩ : ByteArray), .string (⟨#[]⟩ : ByteArray), .int .i64 0, .int .i64 0]) (t := 37) ?hr ?_; (case hd => rfl); (case hg => rfl); (case hr => first | (go_simp; done) | (go_simp; rfl)); intro gb114 hg w64 hbox hb; have n0_ := Aside0.mk (below_step (by repeat (first | (with_reducible first | exact HB.out | apply below_alloc | apply pw_below_drewN | apply below_drew1) | exact HB.out)) hb); have n1_ := Aside0.mk (hbox); have n2_ := Aside0.mk ((by rw [hg]; exact (below_size (by repeat (first | (with_reducible first | exact HB.out | apply below_alloc | apply pw_below_drewN | apply below_drew1) | exact HB.out))) : w.heap.size ≤ gb114)); have n3_ := Aside0.mk ((by rw [hg]; exact (below_size (by repeat (first | (with_reducible first | exact HB.out | apply below_alloc | apply pw_below_drewN | apply below_drew1) | exact HB.out))) : w.heap.size ≤ gb114)); clear HB; have HB := n0_; have BK114 := n1_; have GW114 := n2_; have GE114 := n3_; clear n0_ n1_ n2_ n3_; clear hb hbox hg; have hcz65_0 : w64.cell? ⟨gb114, 0, none⟩ = some (.int .u64 0) := (blk_cell BK114.out 0).trans rfl; have hcz65_1 : w64.cell? ⟨gb114, 1, none⟩ = some (.int .u64 0) := (blk_cell BK114.out 1).trans rfl; have hcz65_2 : w64.cell? ⟨gb114, 2, none⟩ = some (.int .u64 0) := (blk_cell BK114.out 2).trans rfl; have hcz65_3 : w64.cell? ⟨gb114, 3, none⟩ = some (.int .u8 0) := (blk_cell BK114.out 3).trans rfl; have hcz65_4 : w64.cell? ⟨gb114, 4, none⟩ = some (.string (⟨#[]⟩ : ByteArray)) := (blk_cell BK114.out 4).trans rfl; have hcz65_5 : w64.cell? ⟨gb114, 5, none⟩ = some (.string (⟨#[]⟩ : ByteArray)) := (blk_cell BK114.out 5).trans rfl; have hcz65_6 : w64.cell? ⟨gb114, 6, none⟩ = some (.int .i64 0) := (blk_cell BK114.out 6).trans rfl; have hcz65_7 : w64.cell? ⟨gb114, 7, none⟩ = some (.int .i64 0) := (blk_cell BK114.out 7).trans rfl; have hfz65_0 := blk_frozen BK114.out 0; have hfz65_1 := blk_frozen BK114.out 1; have hfz65_2 := blk_frozen BK114.out 2; have hfz65_3 := blk_frozen BK114.out 3; have hfz65_4 := blk_frozen BK114.out 4; have hfz65_5 := blk_frozen BK114.out 5; have hfz65_6 := blk_frozen BK114.out 6; have hfz65_7 := blk_frozen BK114.out 7) | ((with_reducible refine gate_dst (N := 87) rfl ?_); refine Kd.R_lit k37 _ 37 ?hg (N := 87) ?hd (xs := ([(⟨(rd_T37 l0 x82_2).f0, (rd_T37 l0 x82_2).f1, (rd_T37 l0 x82_2).f2, (rd_T37 l0 x82_2).f3, (rd_T37 l0 x82_2).f4, (rd_T37 l0 x82_2).f5, (rd_T37 l0 x82_2).f6, (rd_T37 l0 x82_2).f7⟩ : S37)] : List (S37))) (inner := [.int .u64 ((rd_T37 l0 x82_2).f0), .int .u64 ((rd_T37 l0 x82_2).f1), .int .u64 ((rd_T37 l0 x82_2).f2), .int .u8 ((rd_T37 l0 x82_2).f3), .string ((rd_T37 l0 x82_2).f4), .string ((rd_T37 l0 x82_2).f5), .int .i64 ((rd_T37 l0 x82_2).f6), .int .i64 ((rd_T37 l0 x82_2).f7)]) (ok := fun _ => True) (okp := fun _ => True) ?hr ?hp (fun _ hk => hk) trivial (Below.refl _ _) (Nat.le_refl _) (by simp) ?_; (case hd => rfl); (case hg => rfl); (case hr => first | (go_simp; done) | (go_simp; rfl)); (case hp => exact (Reps.c8 (show Kd.M k37 _ _ _ (⟨(rd_T37 l0 x82_2).f0, (rd_T37 l0 x82_2).f1, (rd_T37 l0 x82_2).f2, (rd_T37 l0 x82_2).f3, (rd_T37 l0 x82_2).f4, (rd_T37 l0 x82_2).f5, (rd_T37 l0 x82_2).f6, (rd_T37 l0 x82_2).f7⟩ : S37) [.int .u64 ((rd_T37 l0 x82_2).f0), .int .u64 ((rd_T37 l0 x82_2).f1), .int .u64 ((rd_T37 l0 x82_2).f2), .int .u8 ((rd_T37 l0 x82_2).f3), .string ((rd_T37 l0 x82_2).f4), .string ((rd_T37 l0 x82_2).f5), .int .i64 ((rd_T37 l0 x82_2).f6), .int .i64 ((rd_T37 l0 x82_2).f7)] from (k37_mkM _ _ _ (⟨(rd_T37 l0 x82_2).f0, (rd_T37 l0 x82_2).f1, (rd_T37 l0 x82_2).f2, (rd_T37 l0 x82_2).f3, (rd_T37 l0 x82_2).f4, (rd_T37 l0 x82_2).f5, (rd_T37 l0 x82_2).f6, (rd_T37 l0 x82_2).f7⟩ : S37) )) (Reps.none _ _))); intro v116 w66 ho67 hb hg_ hnew_; clear hg_ hnew_; (first | rw [← Ny115.out] at ho67 | (simp only [Int.reduceToNat] at ho67; rw [← Ny115.out] at ho67)); have n0_ := Aside0.mk (Kd.R_lower (Kd.R_newB ho67 (g := gb114) (o := .cells #[.int .u64 ((rd_T37 l0 x82_2).f0), .int .u64 ((rd_T37 l0 x82_2).f1), .int .u64 ((rd_T37 l0 x82_2).f2), .int .u8 ((rd_T37 l0 x82_2).f3), .string ((rd_T37 l0 x82_2).f4), .string ((rd_T37 l0 x82_2).f5), .int .i64 ((rd_T37 l0 x82_2).f6), .int .i64 ((rd_T37 l0 x82_2).f7)] 37 (0, 0)) (by (with_reducible repeat (first | refine blk_drewN ?_ _ | refine blk_drew ?_ | refine blk_alloc ?_ _)); refine blk_put (cs := #[.int .u64 ((rd_T37 l0 x82_2).f0), .int .u64 ((rd_T37 l0 x82_2).f1), .int .u64 ((rd_T37 l0 x82_2).f2), .int .u8 ((rd_T37 l0 x82_2).f3), .string ((rd_T37 l0 x82_2).f4), .string ((rd_T37 l0 x82_2).f5), .int .i64 ((rd_T37 l0 x82_2).f6), .int .i64 0]) ?_ 7 _ rfl; (with_reducible repeat (first | refine blk_drewN ?_ _ | refine blk_drew ?_ | refine blk_alloc ?_ _)); refine blk_put (cs := #[.int .u64 ((rd_T37 l0 x82_2).f0), .int .u64 ((rd_T37 l0 x82_2).f1), .int .u64 ((rd_T37 l0 x82_2).f2), .int .u8 ((rd_T37 l0 x82_2).f3), .string ((rd_T37 l0 x82_2).f4), .string ((rd_T37 l0 x82_2).f5), .int .i64 0, .int .i64 0]) ?_ 6 _ rfl; (with_reducible repeat (first | refine blk_drewN ?_ _ | refine blk_drew ?_ | refine blk_alloc ?_ _)); refine blk_put (cs := #[.int .u64 ((rd_T37 l0 x82_2).f0), .int .u64 ((rd_T37 l0 x82_2).f1), .int .u64 ((rd_T37 l0 x82_2).f2), .int .u8 ((rd_T37 l0 x82_2).f3), .string ((rd_T37 l0 x82_2).f4), .string (⟨#[]⟩ : ByteArray), .int .i64 0, .int .i64 0]) ?_ 5 _ rfl; (with_reducible repeat (first | refine blk_drewN ?_ _ | refine blk_drew ?_ | refine blk_alloc ?_ _)); refine blk_put (cs := #[.int .u64 ((rd_T37 l0 x82_2).f0), .int .u64 ((rd_T37 l0 x82_2).f1), .int .u64 ((rd_T37 l0 x82_2).f2), .int .u8 ((rd_T37 l0 x82_2).f3), .string (⟨#[]⟩ : ByteArray), .string (⟨#[]⟩ : ByteArray), .int .i64 0, .int .i64 0]) ?_ 4 _ rfl; (with_reducible repeat (first | refine blk_drewN ?_ _ | refine blk_drew ?_ | refine blk_alloc ?_ _)); refine blk_put (cs := #[.int .u64 ((rd_T37 l0 x82_2).f0), .int .u64 ((rd_T37 l0 x82_2).f1), .int .u64 ((rd_T37 l0 x82_2).f2), .int .u8 0, .string (⟨#[]⟩ : ByteArray), .string (⟨#[]⟩ : ByteArray), .int .i64 0, .int .i64 0]) ?_ 3 _ rfl; (with_reducible repeat (first | refine blk_drewN ?_ _ | refine blk_drew ?_ | refine blk_alloc ?_ _)); refine blk_put (cs := #[.int .u64 ((rd_T37 l0 x82_2).f0), .int .u64 ((rd_T37 l0 x82_2).f1), .int .u64 0, .int .u8 0, .string (⟨#[]⟩ : ByteArray), .string (⟨#[]⟩ : ByteArray), .int .i64 0, .int .i64 0]) ?_ 2 _ rfl; (with_reducible repeat (first | refine blk_drewN ?_ _ | refine blk_drew ?_ | refine blk_alloc ?_ _)); refine blk_put (cs := #[.int .u64 ((rd_T37 l0 x82_2).f0), .int .u64 0, .int .u64 0, .int .u8 0, .string (⟨#[]⟩ : ByteArray), .string (⟨#[]⟩ : ByteArray), .int .i64 0, .int .i64 0]) ?_ 1 _ rfl; (with_reducible repeat (first | refine blk_drewN ?_ _ | refine blk_drew ?_ | refine blk_alloc ?_ _)); refine blk_put (cs := #[.int .u64 0, .int .u64 0, .int .u64 0, .int .u8 0, .string (⟨#[]⟩ : ByteArray), .string (⟨#[]⟩ : ByteArray), .int .i64 0, .int .i64 0]) ?_ 0 _ rfl; (with_reducible repeat (first | refine blk_drewN ?_ _ | refine blk_drew ?_ | refine blk_alloc ?_ _)); exact BK114.out)) (below_size (by repeat (first | (with_reducible first | exact HB.out | apply below_alloc | apply pw_below_drewN | apply below_drew1 | refine below_set ?_ GE114.out) | exact HB.out)))); have n1_ := Aside0.mk (blk_below (g := gb114) (o := .cells #[.int .u64 ((rd_T37 l0 x82_2).f0), .int .u64 ((rd_T37 l0 x82_2).f1), .int .u64 ((rd_T37 l0 x82_2).f2), .int .u8 ((rd_T37 l0 x82_2).f3), .string ((rd_T37 l0 x82_2).f4), .string ((rd_T37 l0 x82_2).f5), .int .i64 ((rd_T37 l0 x82_2).f6), .int .i64 ((rd_T37 l0 x82_2).f7)] 37 (0, 0)) (by (with_reducible repeat (first | refine blk_drewN ?_ _ | refine blk_drew ?_ | refine blk_alloc ?_ _)); refine blk_put (cs := #[.int .u64 ((rd_T37 l0 x82_2).f0), .int .u64 ((rd_T37 l0 x82_2).f1), .int .u64 ((rd_T37 l0 x82_2).f2), .int .u8 ((rd_T37 l0 x82_2).f3), .string ((rd_T37 l0 x82_2).f4), .string ((rd_T37 l0 x82_2).f5), .int .i64 ((rd_T37 l0 x82_2).f6), .int .i64 0]) ?_ 7 _ rfl; (with_reducible repeat (first | refine blk_drewN ?_ _ | refine blk_drew ?_ | refine blk_alloc ?_ _)); refine blk_put (cs := #[.int .u64 ((rd_T37 l0 x82_2).f0), .int .u64 ((rd_T37 l0 x82_2).f1), .int .u64 ((rd_T37 l0 x82_2).f2), .int .u8 ((rd_T37 l0 x82_2).f3), .string ((rd_T37 l0 x82_2).f4), .string ((rd_T37 l0 x82_2).f5), .int .i64 0, .int .i64 0]) ?_ 6 _ rfl; (with_reducible repeat (first | refine blk_drewN ?_ _ | refine blk_drew ?_ | refine blk_alloc ?_ _)); refine blk_put (cs := #[.int .u64 ((rd_T37 l0 x82_2).f0), .int .u64 ((rd_T37 l0 x82_2).f1), .int .u64 ((rd_T37 l0 x82_2).f2), .int .u8 ((rd_T37 l0 x82_2).f3), .string ((rd_T37 l0 x82_2).f4), .string (⟨#[]⟩ : ByteArray), .int .i64 0, .int .i64 0]) ?_ 5 _ rfl; (with_reducible repeat (first | refine blk_drewN ?_ _ | refine blk_drew ?_ | refine blk_alloc ?_ _)); refine blk_put (cs := #[.int .u64 ((rd_T37 l0 x82_2).f0), .int .u64 ((rd_T37 l0 x82_2).f1), .int .u64 ((rd_T37 l0 x82_2).f2), .int .u8 ((rd_T37 l0 x82_2).f3), .string (⟨#[]⟩ : ByteArray), .string (⟨#[]⟩ : ByteArray), .int .i64 0, .int .i64 0]) ?_ 4 _ rfl; (with_reducible repeat (first | refine blk_drewN ?_ _ | refine blk_drew ?_ | refine blk_alloc ?_ _)); refine blk_put (cs := #[.int .u64 ((rd_T37 l0 x82_2).f0), .int .u64 ((rd_T37 l0 x82_2).f1), .int .u64 ((rd_T37 l0 x82_2).f2), .int .u8 0, .string (⟨#[]⟩ : ByteArray), .string (⟨#[]⟩ : ByteArray), .int .i64 0, .int .i64 0]) ?_ 3 _ rfl; (with_reducible repeat (first | refine blk_drewN ?_ _ | refine blk_drew ?_ | refine blk_alloc ?_ _)); refine blk_put (cs := #[.int .u64 ((rd_T37 l0 x82_2).f0), .int .u64 ((rd_T37 l0 x82_2).f1), .int .u64 0, .int .u8 0, .string (⟨#[]⟩ : ByteArray), .string (⟨#[]⟩ : ByteArray), .int .i64 0, .int .i64 0]) ?_ 2 _ rfl; (with_reducible repeat (first | refine blk_drewN ?_ _ | refine blk_drew ?_ | refine blk_alloc ?_ _)); refine blk_put (cs := #[.int .u64 ((rd_T37 l0 x82_2).f0), .int .u64 0, .int .u64 0, .int .u8 0, .string (⟨#[]⟩ : ByteArray), .string (⟨#[]⟩ : ByteArray), .int .i64 0, .int .i64 0]) ?_ 1 _ rfl; (with_reducible repeat (first | refine blk_drewN ?_ _ | refine blk_drew ?_ | refine blk_alloc ?_ _)); refine blk_put (cs := #[.int .u64 0, .int .u64 0, .int .u64 0, .int .u8 0, .string (⟨#[]⟩ : ByteArray), .string (⟨#[]⟩ : ByteArray), .int .i64 0, .int .i64 0]) ?_ 0 _ rfl; (with_reducible repeat (first | refine blk_drewN ?_ _ | refine blk_drew ?_ | refine blk_alloc ?_ _)); exact BK114.out) hb); have n2_ := Aside0.mk (below_step (by repeat (first | (with_reducible first | exact HB.out | apply below_alloc | apply pw_below_drewN | apply below_drew1 | refine below_set ?_ GE114.out) | exact HB.out)) hb); clear BK114; clear HB; have HO117 := n0_; have BK114 := n1_; have HB := n2_; clear n0_ n1_ n2_; clear hb ho67; obtain ⟨Ao68, co68, eo68⟩ := Kd.R_slice HO117.out; subst eo68) | ((with_reducible refine gate_callee (f := 21) rfl ?_); refine goesL_ (some 88) rfl rfl Try.func21 (by kernel_rfl) rfl #[.slice Ao68 y115.length co68] rfl (by (try simp only [List.map_toArray, List.map_cons, List.map_nil]); first | done | rfl | (simp only [List.length_drop, List.length_take]; rfl)) ?_; (with_reducible refine (stats_Of.calls _ _ y115 t118 _ ?side1 ?side2 A62.out).mono ?_); (case side1 => repeat (first | exact (Kd.R_reads' HO117.out).2.2 | (with_reducible refine Kd.C_alloc ?_ _) | (with_reducible refine Kd.C_drewN ?_ _) | (with_reducible refine Kd.C_drew ?_))); (case side2 => exact (Kd.R_reads' HO117.out).2.1); rintro e w69 ⟨v119, rfl, ho0, hb⟩; refine ⟨_, rfl, ?_⟩; have n0_ := Aside0.mk (Kd.R_below (by (with_reducible repeat (first | apply Kd.R_alloc | apply Kd.R_drewN | apply Kd.R_drew)); exact HO117.out) hb); have n1_ := Aside0.mk (Kd.R_lower ho0 (below_size (by repeat (first | (with_reducible first | exact HB.out | apply below_alloc | apply pw_below_drewN | apply below_drew1 | refine below_set ?_ GE114.out) | exact HB.out)))); have n2_ := Aside0.mk (blk_below (g := gb114) (o := .cells #[.int .u64 ((rd_T37 l0 x82_2).f0), .int .u64 ((rd_T37 l0 x82_2).f1), .int .u64 ((rd_T37 l0 x82_2).f2), .int .u8 ((rd_T37 l0 x82_2).f3), .string ((rd_T37 l0 x82_2).f4), .string ((rd_T37 l0 x82_2).f5), .int .i64 ((rd_T37 l0 x82_2).f6), .int .i64 ((rd_T37 l0 x82_2).f7)] 37 (0, 0)) (by (with_reducible repeat (first | refine blk_drewN ?_ _ | refine blk_drew ?_ | refine blk_alloc ?_ _)); exact BK114.out) hb); have n3_ := Aside0.mk (below_step (by repeat (first | (with_reducible first | exact HB.out | apply below_alloc | apply pw_below_drewN | apply below_drew1 | refine below_set ?_ GE114.out) | exact HB.out)) hb); clear HO117; clear BK114; clear HB; have HO117 := n0_; have HO120 := n1_; have BK114 := n2_; have HB := n3_; clear n0_ n1_ n2_ n3_; (try clear hb); (try clear hb2); (try clear hk); (try clear hi); (try clear ho0); obtain ⟨Ao70, co70, eo70⟩ := Kd.R_slice HO120.out; subst eo70))
                      go_roundg k2
                      case measure => have := HK1.out; have := HK2.out; omega
                      case rel => exact ⟨(x8_2), (x9_2), (x10_2), (wrap64 (x82_2 + 1)), (by first | rfl | (simp; done) | (simp [*]; done)), (by first | rfl | (simp; done) | (simp [*]; done)), (by first | rfl | (simp; done) | (simp [*]; done)), (by first | rfl | (simp; done) | (simp [*]; done)), H', ⟨by have := HK1.out; have := HK2.out; omega⟩, ⟨by repeat (first | (with_reducible first | exact HB.out | apply below_alloc | apply pw_below_drewN | apply below_drew1 | refine below_set ?_ GE114.out) | exact HB.out)⟩⟩
                    · rw [if_neg c63] at H
                      have c63b0 : ((t118.length : Int) == 0) = false := beq_eq_false_iff_ne.mpr c63
                      have c63b1 : ((t118.length : Int) != 0) = true := bne_iff_ne.mpr c63
                      have c63b2 : ¬ (t118 = []) := fun h_ => c63 (by rw [h_]; rfl)
                      by_cases c71 : ((rd_T37 l0 x82_2).f3) = 0
                      · rw [if_pos c71] at H
                        have c71b0 : (((rd_T37 l0 x82_2).f3) == 0) = true := beq_iff_eq.mpr c71
                        have c71b1 : (((rd_T37 l0 x82_2).f3) != 0) = false := bne_eq_false_iff_eq.mpr c71
                        clear c71
                        have H' := Aside0.mk H
                        clear H
                        have p113 : 0 ≤ (x82_2 : Int) := of_decide_eq_true (by first | (with_reducible assumption) | assumption)
                        have q113 : x82_2 < (l0.length : Int) := of_decide_eq_true (by first | (with_reducible assumption) | assumption)
                        obtain ⟨ad113, e113, hx113_0, hx113_1, hx113_2, hx113_3, hx113_4, hx113_5, hx113_6, hx113_7⟩ := at_T37 HR0.out x82_2 p113 q113
                        cases e113
                        replace hx113_0 := (HB.out.cell (World.block_lt_of_cell? w _ hx113_0)).trans hx113_0
                        replace hx113_1 := (HB.out.cell (World.block_lt_of_cell? w _ hx113_1)).trans hx113_1
                        replace hx113_2 := (HB.out.cell (World.block_lt_of_cell? w _ hx113_2)).trans hx113_2
                        replace hx113_3 := (HB.out.cell (World.block_lt_of_cell? w _ hx113_3)).trans hx113_3
                        replace hx113_4 := (HB.out.cell (World.block_lt_of_cell? w _ hx113_4)).trans hx113_4
                        replace hx113_5 := (HB.out.cell (World.block_lt_of_cell? w _ hx113_5)).trans hx113_5
                        replace hx113_6 := (HB.out.cell (World.block_lt_of_cell? w _ hx113_6)).trans hx113_6
                        replace hx113_7 := (HB.out.cell (World.block_lt_of_cell? w _ hx113_7)).trans hx113_7
                        replace p113 := eq_true p113
                        replace q113 := eq_true q113
                        try go_wp2_with (first | ((with_reducible refine gate_dst (N := 12) rfl ?_); refine box_event ?hg (N := 12) ?hd (cs := #[.int .u64 0, .int .u64 0, .int .u64 0, .int .u8 0, .string (⟨#[]⟩ : ByteArray), .string (⟨#[]⟩ : ByteArray), .int .i64 0, .int .i64 0]) (t := 37) ?hr ?_; (case hd => rfl); (case hg => rfl); (case hr => first | (go_simp; done) | (go_simp; rfl)); intro gb114 hg w72 hbox hb; have n0_ := Aside0.mk (below_step (by repeat (first | (with_reducible first | exact HB.out | apply below_alloc | apply pw_below_drewN | apply below_drew1) | exact HB.out)) hb); have n1_ := Aside0.mk (hbox); have n2_ := Aside0.mk ((by rw [hg]; exact (below_size (by repeat (first | (with_reducible first | exact HB.out | apply below_alloc | apply pw_below_drewN | apply below_drew1) | exact HB.out))) : w.heap.size ≤ gb114)); have n3_ := Aside0.mk ((by rw [hg]; exact (below_size (by repeat (first | (with_reducible first | exact HB.out | apply below_alloc | apply pw_below_drewN | apply below_drew1) | exact HB.out))) : w.heap.size ≤ gb114)); clear HB; have HB := n0_; have BK114 := n1_; have GW114 := n2_; have GE114 := n3_; clear n0_ n1_ n2_ n3_; clear hb hbox hg; have hcz73_0 : w72.cell? ⟨gb114, 0, none⟩ = some (.int .u64 0) := (blk_cell BK114.out 0).trans rfl; have hcz73_1 : w72.cell? ⟨gb114, 1, none⟩ = some (.int .u64 0) := (blk_cell BK114.out 1).trans rfl; have hcz73_2 : w72.cell? ⟨gb114, 2, none⟩ = some (.int .u64 0) := (blk_cell BK114.out 2).trans rfl; have hcz73_3 : w72.cell? ⟨gb114, 3, none⟩ = some (.int .u8 0) := (blk_cell BK114.out 3).trans rfl; have hcz73_4 : w72.cell? ⟨gb114, 4, none⟩ = some (.string (⟨#[]⟩ : ByteArray)) := (blk_cell BK114.out 4).trans rfl; have hcz73_5 : w72.cell? ⟨gb114, 5, none⟩ = some (.string (⟨#[]⟩ : ByteArray)) := (blk_cell BK114.out 5).trans rfl; have hcz73_6 : w72.cell? ⟨gb114, 6, none⟩ = some (.int .i64 0) := (blk_cell BK114.out 6).trans rfl; have hcz73_7 : w72.cell? ⟨gb114, 7, none⟩ = some (.int .i64 0) := (blk_cell BK114.out 7).trans rfl; have hfz73_0 := blk_frozen BK114.out 0; have hfz73_1 := blk_frozen BK114.out 1; have hfz73_2 := blk_frozen BK114.out 2; have hfz73_3 := blk_frozen BK114.out 3; have hfz73_4 := blk_frozen BK114.out 4; have hfz73_5 := blk_frozen BK114.out 5; have hfz73_6 := blk_frozen BK114.out 6; have hfz73_7 := blk_frozen BK114.out 7) | ((with_reducible refine gate_dst (N := 87) rfl ?_); refine Kd.R_lit k37 _ 37 ?hg (N := 87) ?hd (xs := ([(⟨(rd_T37 l0 x82_2).f0, (rd_T37 l0 x82_2).f1, (rd_T37 l0 x82_2).f2, (rd_T37 l0 x82_2).f3, (rd_T37 l0 x82_2).f4, (rd_T37 l0 x82_2).f5, (rd_T37 l0 x82_2).f6, (rd_T37 l0 x82_2).f7⟩ : S37)] : List (S37))) (inner := [.int .u64 ((rd_T37 l0 x82_2).f0), .int .u64 ((rd_T37 l0 x82_2).f1), .int .u64 ((rd_T37 l0 x82_2).f2), .int .u8 ((rd_T37 l0 x82_2).f3), .string ((rd_T37 l0 x82_2).f4), .string ((rd_T37 l0 x82_2).f5), .int .i64 ((rd_T37 l0 x82_2).f6), .int .i64 ((rd_T37 l0 x82_2).f7)]) (ok := fun _ => True) (okp := fun _ => True) ?hr ?hp (fun _ hk => hk) trivial (Below.refl _ _) (Nat.le_refl _) (by simp) ?_; (case hd => rfl); (case hg => rfl); (case hr => first | (go_simp; done) | (go_simp; rfl)); (case hp => exact (Reps.c8 (show Kd.M k37 _ _ _ (⟨(rd_T37 l0 x82_2).f0, (rd_T37 l0 x82_2).f1, (rd_T37 l0 x82_2).f2, (rd_T37 l0 x82_2).f3, (rd_T37 l0 x82_2).f4, (rd_T37 l0 x82_2).f5, (rd_T37 l0 x82_2).f6, (rd_T37 l0 x82_2).f7⟩ : S37) [.int .u64 ((rd_T37 l0 x82_2).f0), .int .u64 ((rd_T37 l0 x82_2).f1), .int .u64 ((rd_T37 l0 x82_2).f2), .int .u8 ((rd_T37 l0 x82_2).f3), .string ((rd_T37 l0 x82_2).f4), .string ((rd_T37 l0 x82_2).f5), .int .i64 ((rd_T37 l0 x82_2).f6), .int .i64 ((rd_T37 l0 x82_2).f7)] from (k37_mkM _ _ _ (⟨(rd_T37 l0 x82_2).f0, (rd_T37 l0 x82_2).f1, (rd_T37 l0 x82_2).f2, (rd_T37 l0 x82_2).f3, (rd_T37 l0 x82_2).f4, (rd_T37 l0 x82_2).f5, (rd_T37 l0 x82_2).f6, (rd_T37 l0 x82_2).f7⟩ : S37) )) (Reps.none _ _))); intro v116 w74 ho75 hb hg_ hnew_; clear hg_ hnew_; (first | rw [← Ny115.out] at ho75 | (simp only [Int.reduceToNat] at ho75; rw [← Ny115.out] at ho75)); have n0_ := Aside0.mk (Kd.R_lower (Kd.R_newB ho75 (g := gb114) (o := .cells #[.int .u64 ((rd_T37 l0 x82_2).f0), .int .u64 ((rd_T37 l0 x82_2).f1), .int .u64 ((rd_T37 l0 x82_2).f2), .int .u8 ((rd_T37 l0 x82_2).f3), .string ((rd_T37 l0 x82_2).f4), .string ((rd_T37 l0 x82_2).f5), .int .i64 ((rd_T37 l0 x82_2).f6), .int .i64 ((rd_T37 l0 x82_2).f7)] 37 (0, 0)) (by (with_reducible repeat (first | refine blk_drewN ?_ _ | refine blk_drew ?_ | refine blk_alloc ?_ _)); refine blk_put (cs := #[.int .u64 ((rd_T37 l0 x82_2).f0), .int .u64 ((rd_T37 l0 x82_2).f1), .int .u64 ((rd_T37 l0 x82_2).f2), .int .u8 ((rd_T37 l0 x82_2).f3), .string ((rd_T37 l0 x82_2).f4), .string ((rd_T37 l0 x82_2).f5), .int .i64 ((rd_T37 l0 x82_2).f6), .int .i64 0]) ?_ 7 _ rfl; (with_reducible repeat (first | refine blk_drewN ?_ _ | refine blk_drew ?_ | refine blk_alloc ?_ _)); refine blk_put (cs := #[.int .u64 ((rd_T37 l0 x82_2).f0), .int .u64 ((rd_T37 l0 x82_2).f1), .int .u64 ((rd_T37 l0 x82_2).f2), .int .u8 ((rd_T37 l0 x82_2).f3), .string ((rd_T37 l0 x82_2).f4), .string ((rd_T37 l0 x82_2).f5), .int .i64 0, .int .i64 0]) ?_ 6 _ rfl; (with_reducible repeat (first | refine blk_drewN ?_ _ | refine blk_drew ?_ | refine blk_alloc ?_ _)); refine blk_put (cs := #[.int .u64 ((rd_T37 l0 x82_2).f0), .int .u64 ((rd_T37 l0 x82_2).f1), .int .u64 ((rd_T37 l0 x82_2).f2), .int .u8 ((rd_T37 l0 x82_2).f3), .string ((rd_T37 l0 x82_2).f4), .string (⟨#[]⟩ : ByteArray), .int .i64 0, .int .i64 0]) ?_ 5 _ rfl; (with_reducible repeat (first | refine blk_drewN ?_ _ | refine blk_drew ?_ | refine blk_alloc ?_ _)); refine blk_put (cs := #[.int .u64 ((rd_T37 l0 x82_2).f0), .int .u64 ((rd_T37 l0 x82_2).f1), .int .u64 ((rd_T37 l0 x82_2).f2), .int .u8 ((rd_T37 l0 x82_2).f3), .string (⟨#[]⟩ : ByteArray), .string (⟨#[]⟩ : ByteArray), .int .i64 0, .int .i64 0]) ?_ 4 _ rfl; (with_reducible repeat (first | refine blk_drewN ?_ _ | refine blk_drew ?_ | refine blk_alloc ?_ _)); refine blk_put (cs := #[.int .u64 ((rd_T37 l0 x82_2).f0), .int .u64 ((rd_T37 l0 x82_2).f1), .int .u64 ((rd_T37 l0 x82_2).f2), .int .u8 0, .string (⟨#[]⟩ : ByteArray), .string (⟨#[]⟩ : ByteArray), .int .i64 0, .int .i64 0]) ?_ 3 _ rfl; (with_reducible repeat (first | refine blk_drewN ?_ _ | refine blk_drew ?_ | refine blk_alloc ?_ _)); refine blk_put (cs := #[.int .u64 ((rd_T37 l0 x82_2).f0), .int .u64 ((rd_T37 l0 x82_2).f1), .int .u64 0, .int .u8 0, .string (⟨#[]⟩ : ByteArray), .string (⟨#[]⟩ : ByteArray), .int .i64 0, .int .i64 0]) ?_ 2 _ rfl; (with_reducible repeat (first | refine blk_drewN ?_ _ | refine blk_drew ?_ | refine blk_alloc ?_ _)); refine blk_put (cs := #[.int .u64 ((rd_T37 l0 x82_2).f0), .int .u64 0, .int .u64 0, .int .u8 0, .string (⟨#[]⟩ : ByteArray), .string (⟨#[]⟩ : ByteArray), .int .i64 0, .int .i64 0]) ?_ 1 _ rfl; (with_reducible repeat (first | refine blk_drewN ?_ _ | refine blk_drew ?_ | refine blk_alloc ?_ _)); refine blk_put (cs := #[.int .u64 0, .int .u64 0, .int .u64 0, .int .u8 0, .string (⟨#[]⟩ : ByteArray), .string (⟨#[]⟩ : ByteArray), .int .i64 0, .int .i64 0]) ?_ 0 _ rfl; (with_reducible repeat (first | refine blk_drewN ?_ _ | refine blk_drew ?_ | refine blk_alloc ?_ _)); exact BK114.out)) (below_size (by repeat (first | (with_reducible first | exact HB.out | apply below_alloc | apply pw_below_drewN | apply below_drew1 | refine below_set ?_ GE114.out) | exact HB.out)))); have n1_ := Aside0.mk (blk_below (g := gb114) (o := .cells #[.int .u64 ((rd_T37 l0 x82_2).f0), .int .u64 ((rd_T37 l0 x82_2).f1), .int .u64 ((rd_T37 l0 x82_2).f2), .int .u8 ((rd_T37 l0 x82_2).f3), .string ((rd_T37 l0 x82_2).f4), .string ((rd_T37 l0 x82_2).f5), .int .i64 ((rd_T37 l0 x82_2).f6), .int .i64 ((rd_T37 l0 x82_2).f7)] 37 (0, 0)) (by (with_reducible repeat (first | refine blk_drewN ?_ _ | refine blk_drew ?_ | refine blk_alloc ?_ _)); refine blk_put (cs := #[.int .u64 ((rd_T37 l0 x82_2).f0), .int .u64 ((rd_T37 l0 x82_2).f1), .int .u64 ((rd_T37 l0 x82_2).f2), .int .u8 ((rd_T37 l0 x82_2).f3), .string ((rd_T37 l0 x82_2).f4), .string ((rd_T37 l0 x82_2).f5), .int .i64 ((rd_T37 l0 x82_2).f6), .int .i64 0]) ?_ 7 _ rfl; (with_reducible repeat (first | refine blk_drewN ?_ _ | refine blk_drew ?_ | refine blk_alloc ?_ _)); refine blk_put (cs := #[.int .u64 ((rd_T37 l0 x82_2).f0), .int .u64 ((rd_T37 l0 x82_2).f1), .int .u64 ((rd_T37 l0 x82_2).f2), .int .u8 ((rd_T37 l0 x82_2).f3), .string ((rd_T37 l0 x82_2).f4), .string ((rd_T37 l0 x82_2).f5), .int .i64 0, .int .i64 0]) ?_ 6 _ rfl; (with_reducible repeat (first | refine blk_drewN ?_ _ | refine blk_drew ?_ | refine blk_alloc ?_ _)); refine blk_put (cs := #[.int .u64 ((rd_T37 l0 x82_2).f0), .int .u64 ((rd_T37 l0 x82_2).f1), .int .u64 ((rd_T37 l0 x82_2).f2), .int .u8 ((rd_T37 l0 x82_2).f3), .string ((rd_T37 l0 x82_2).f4), .string (⟨#[]⟩ : ByteArray), .int .i64 0, .int .i64 0]) ?_ 5 _ rfl; (with_reducible repeat (first | refine blk_drewN ?_ _ | refine blk_drew ?_ | refine blk_alloc ?_ _)); refine blk_put (cs := #[.int .u64 ((rd_T37 l0 x82_2).f0), .int .u64 ((rd_T37 l0 x82_2).f1), .int .u64 ((rd_T37 l0 x82_2).f2), .int .u8 ((rd_T37 l0 x82_2).f3), .string (⟨#[]⟩ : ByteArray), .string (⟨#[]⟩ : ByteArray), .int .i64 0, .int .i64 0]) ?_ 4 _ rfl; (with_reducible repeat (first | refine blk_drewN ?_ _ | refine blk_drew ?_ | refine blk_alloc ?_ _)); refine blk_put (cs := #[.int .u64 ((rd_T37 l0 x82_2).f0), .int .u64 ((rd_T37 l0 x82_2).f1), .int .u64 ((rd_T37 l0 x82_2).f2), .int .u8 0, .string (⟨#[]⟩ : ByteArray), .string (⟨#[]⟩ : ByteArray), .int .i64 0, .int .i64 0]) ?_ 3 _ rfl; (with_reducible repeat (first | refine blk_drewN ?_ _ | refine blk_drew ?_ | refine blk_alloc ?_ _)); refine blk_put (cs := #[.int .u64 ((rd_T37 l0 x82_2).f0), .int .u64 ((rd_T37 l0 x82_2).f1), .int .u64 0, .int .u8 0, .string (⟨#[]⟩ : ByteArray), .string (⟨#[]⟩ : ByteArray), .int .i64 0, .int .i64 0]) ?_ 2 _ rfl; (with_reducible repeat (first | refine blk_drewN ?_ _ | refine blk_drew ?_ | refine blk_alloc ?_ _)); refine blk_put (cs := #[.int .u64 ((rd_T37 l0 x82_2).f0), .int .u64 0, .int .u64 0, .int .u8 0, .string (⟨#[]⟩ : ByteArray), .string (⟨#[]⟩ : ByteArray), .int .i64 0, .int .i64 0]) ?_ 1 _ rfl; (with_reducible repeat (first | refine blk_drewN ?_ _ | refine blk_drew ?_ | refine blk_alloc ?_ _)); refine blk_put (cs := #[.int .u64 0, .int .u64 0, .int .u64 0, .int .u8 0, .string (⟨#[]⟩ : ByteArray), .string (⟨#[]⟩ : ByteArray), .int .i64 0, .int .i64 0]) ?_ 0 _ rfl; (with_reducible repeat (first | refine blk_drewN ?_ _ | refine blk_drew ?_ | refine blk_alloc ?_ _)); exact BK114.out) hb); have n2_ := Aside0.mk (below_step (by repeat (first | (with_reducible first | exact HB.out | apply below_alloc | apply pw_below_drewN | apply below_drew1 | refine below_set ?_ GE114.out) | exact HB.out)) hb); clear BK114; clear HB; have HO117 := n0_; have BK114 := n1_; have HB := n2_; clear n0_ n1_ n2_; clear hb ho75; obtain ⟨Ao76, co76, eo76⟩ := Kd.R_slice HO117.out; subst eo76) | ((with_reducible refine gate_callee (f := 21) rfl ?_); refine goesL_ (some 88) rfl rfl Try.func21 (by kernel_rfl) rfl #[.slice Ao76 y115.length co76] rfl (by (try simp only [List.map_toArray, List.map_cons, List.map_nil]); first | done | rfl | (simp only [List.length_drop, List.length_take]; rfl)) ?_; (with_reducible refine (stats_Of.calls _ _ y115 t118 _ ?side1 ?side2 A62.out).mono ?_); (case side1 => repeat (first | exact (Kd.R_reads' HO117.out).2.2 | (with_reducible refine Kd.C_alloc ?_ _) | (with_reducible refine Kd.C_drewN ?_ _) | (with_reducible refine Kd.C_drew ?_))); (case side2 => exact (Kd.R_reads' HO117.out).2.1); rintro e w77 ⟨v119, rfl, ho0, hb⟩; refine ⟨_, rfl, ?_⟩; have n0_ := Aside0.mk (Kd.R_below (by (with_reducible repeat (first | apply Kd.R_alloc | apply Kd.R_drewN | apply Kd.R_drew)); exact HO117.out) hb); have n1_ := Aside0.mk (Kd.R_lower ho0 (below_size (by repeat (first | (with_reducible first | exact HB.out | apply below_alloc | apply pw_below_drewN | apply below_drew1 | refine below_set ?_ GE114.out) | exact HB.out)))); have n2_ := Aside0.mk (blk_below (g := gb114) (o := .cells #[.int .u64 ((rd_T37 l0 x82_2).f0), .int .u64 ((rd_T37 l0 x82_2).f1), .int .u64 ((rd_T37 l0 x82_2).f2), .int .u8 ((rd_T37 l0 x82_2).f3), .string ((rd_T37 l0 x82_2).f4), .string ((rd_T37 l0 x82_2).f5), .int .i64 ((rd_T37 l0 x82_2).f6), .int .i64 ((rd_T37 l0 x82_2).f7)] 37 (0, 0)) (by (with_reducible repeat (first | refine blk_drewN ?_ _ | refine blk_drew ?_ | refine blk_alloc ?_ _)); exact BK114.out) hb); have n3_ := Aside0.mk (below_step (by repeat (first | (with_reducible first | exact HB.out | apply below_alloc | apply pw_below_drewN | apply below_drew1 | refine below_set ?_ GE114.out) | exact HB.out)) hb); clear HO117; clear BK114; clear HB; have HO117 := n0_; have HO120 := n1_; have BK114 := n2_; have HB := n3_; clear n0_ n1_ n2_ n3_; (try clear hb); (try clear hb2); (try clear hk); (try clear hi); (try clear ho0); obtain ⟨Ao78, co78, eo78⟩ := Kd.R_slice HO120.out; subst eo78))
                        have n0_ := Aside0.mk (Kd.R_drew HO117.out)
                        have n1_ := Aside0.mk (Kd.R_drew HO120.out)
                        have n2_ := Aside0.mk (blk_drew BK114.out)
                        have n3_ := Aside0.mk (below_drew1 HB.out)
                        clear HO117
                        clear HO120
                        clear BK114
                        clear HB
                        have HO117 := n0_
                        have HO120 := n1_
                        have BK114 := n2_
                        have HB := n3_
                        clear n0_ n1_ n2_ n3_
                        refine start_ (n := 8) (S := fun w' => w'.cell? ⟨gb114, 0, none⟩ = some (.int .u64 ((rd_T37 l0 x82_2).f0)) ∧ w'.cell? ⟨gb114, 1, none⟩ = some (.int .u64 ((rd_T37 l0 x82_2).f1)) ∧ w'.cell? ⟨gb114, 2, none⟩ = some (.int .u64 ((rd_T37 l0 x82_2).f2)) ∧ w'.cell? ⟨gb114, 3, none⟩ = some (.int .u8 ((rd_T37 l0 x82_2).f3)) ∧ w'.cell? ⟨gb114, 4, none⟩ = some (.string ((rd_T37 l0 x82_2).f4)) ∧ w'.cell? ⟨gb114, 5, none⟩ = some (.string ((rd_T37 l0 x82_2).f5)) ∧ w'.cell? ⟨gb114, 6, none⟩ = some (.int .i64 ((rd_T37 l0 x82_2).f6)) ∧ w'.cell? ⟨gb114, 7, none⟩ = some (.int .i64 ((rd_T37 l0 x82_2).f7))) (ds := []) #[false, false, false, false, false, false, false, false] (by kernel_rfl) rfl rfl ⟨(blk_cell BK114.out 0).trans rfl, (blk_cell BK114.out 1).trans rfl, (blk_cell BK114.out 2).trans rfl, (blk_cell BK114.out 3).trans rfl, (blk_cell BK114.out 4).trans rfl, (blk_cell BK114.out 5).trans rfl, (blk_cell BK114.out 6).trans rfl, (blk_cell BK114.out 7).trans rfl⟩ (fun hHeld => ?_); refine with_tabW merkhetlaw27_StatsSums.tab17 merkhetlaw27_StatsSums.bits17 (fun HT_ HW_ => ?_)
                        generalize w77.drew = w79 at HO117 HO120 BK114 HB hHeld ⊢
                        refine pure_ (i := 0) (N := some 92) (v := ?_) (a' := ?_) #[true, false, false, false, false, false, false, false] rfl rfl (any_of HT_.out (by kernel_rfl)) (fun _ _ _ h => h) (Or.inl ⟨by rfl, ?_⟩) ?_ ?_
                        rotate_left
                        · intro w'
                          go_simp
                          with_reducible rfl
                        rotate_left
                        · simp only [Act.put, List.setIfInBounds_toArray, List.set_cons_zero, List.set_cons_succ, i64_w, i32_w]
                          rfl
                        refine pure_ (i := 1) (N := some 93) (v := ?_) (a' := ?_) #[true, true, false, false, false, false, false, false] rfl rfl (any_of HT_.out (by kernel_rfl)) (fun _ _ _ h => h) (Or.inl ⟨by rfl, ?_⟩) ?_ ?_
                        rotate_left
                        · intro w'
                          go_simp
                          with_reducible rfl
                        rotate_left
                        · simp only [Act.put, List.setIfInBounds_toArray, List.set_cons_zero, List.set_cons_succ, i64_w, i32_w]
                          rfl
                        refine pure_ (i := 2) (N := some 94) (v := ?_) (a' := ?_) #[true, true, true, false, false, false, false, false] rfl rfl (any_of HT_.out (by kernel_rfl)) (fun _ _ _ h => h) (Or.inl ⟨by rfl, ?_⟩) ?_ ?_
                        rotate_left
                        · intro w'
                          go_simp
                          with_reducible rfl
                        rotate_left
                        · simp only [Act.put, List.setIfInBounds_toArray, List.set_cons_zero, List.set_cons_succ, i64_w, i32_w]
                          rfl
                        refine pure_ (i := 3) (N := some 95) (v := ?_) (a' := ?_) #[true, true, true, true, false, false, false, false] rfl rfl (any_of HT_.out (by kernel_rfl)) (fun _ _ _ h => h) (Or.inl ⟨by rfl, ?_⟩) ?_ ?_
                        rotate_left
                        · intro w'
                          go_simp
                          with_reducible rfl
                        rotate_left
                        · simp only [Act.put, List.setIfInBounds_toArray, List.set_cons_zero, List.set_cons_succ, i64_w, i32_w]
                          rfl
                        refine pure_ (i := 6) (N := some 8) (v := ?_) (a' := ?_) #[true, true, true, true, false, false, true, false] rfl rfl (any_of HT_.out (by kernel_rfl)) (fun _ _ _ h => h) (Or.inl ⟨by rfl, ?_⟩) ?_ ?_
                        rotate_left
                        · intro w'
                          go_simp
                          with_reducible rfl
                        rotate_left
                        · simp only [Act.put, List.setIfInBounds_toArray, List.set_cons_zero, List.set_cons_succ, i64_w, i32_w]
                          rfl
                        refine take_ (i := 4) (N := some 96) (v := ?_) (a' := ?_) #[true, true, true, true, true, false, true, false] rfl rfl (take_ofW HT_.out HW_.out (by kernel_rfl)) (fun _ _ _ h => h) (Or.inl ⟨by rfl, ?_⟩) hHeld ?_ ?_
                        rotate_left
                        · rintro w' ⟨s0, s1, s2, s3, s4, s5, s6, s7⟩
                          go_simp
                          with_reducible rfl
                        rotate_left
                        · simp only [Act.put, List.setIfInBounds_toArray, List.set_cons_zero, List.set_cons_succ, i64_w, i32_w]
                          rfl
                        refine pure_ (i := 5) (N := some 97) (v := ?_) (a' := ?_) #[true, true, true, true, true, true, true, false] rfl rfl (any_of HT_.out (by kernel_rfl)) (fun _ _ _ h => h) (Or.inl ⟨by rfl, ?_⟩) ?_ ?_
                        rotate_left
                        · intro w'
                          go_simp
                          with_reducible rfl
                        rotate_left
                        · simp only [Act.put, List.setIfInBounds_toArray, List.set_cons_zero, List.set_cons_succ, i64_w, i32_w]
                          rfl
                        refine pure_ (i := 7) (N := some 9) (v := ?_) (a' := ?_) #[true, true, true, true, true, true, true, true] rfl rfl (any_of HT_.out (by kernel_rfl)) (fun _ _ _ h => h) (Or.inl ⟨by rfl, ?_⟩) ?_ ?_
                        rotate_left
                        · intro w'
                          go_simp
                          with_reducible rfl
                        rotate_left
                        · simp only [Act.put, List.setIfInBounds_toArray, List.set_cons_zero, List.set_cons_succ, i64_w, i32_w]
                          rfl
                        refine done_ (done_of HT_.out (by kernel_rfl)) ?_
                        have hcz80_0 : w79.cell? ⟨gb114, 0, none⟩ = some (.int .u64 ((rd_T37 l0 x82_2).f0)) := (blk_cell BK114.out 0).trans rfl
                        have hcz80_1 : w79.cell? ⟨gb114, 1, none⟩ = some (.int .u64 ((rd_T37 l0 x82_2).f1)) := (blk_cell BK114.out 1).trans rfl
                        have hcz80_2 : w79.cell? ⟨gb114, 2, none⟩ = some (.int .u64 ((rd_T37 l0 x82_2).f2)) := (blk_cell BK114.out 2).trans rfl
                        have hcz80_3 : w79.cell? ⟨gb114, 3, none⟩ = some (.int .u8 ((rd_T37 l0 x82_2).f3)) := (blk_cell BK114.out 3).trans rfl
                        have hcz80_4 : w79.cell? ⟨gb114, 4, none⟩ = some (.string ((rd_T37 l0 x82_2).f4)) := (blk_cell BK114.out 4).trans rfl
                        have hcz80_5 : w79.cell? ⟨gb114, 5, none⟩ = some (.string ((rd_T37 l0 x82_2).f5)) := (blk_cell BK114.out 5).trans rfl
                        have hcz80_6 : w79.cell? ⟨gb114, 6, none⟩ = some (.int .i64 ((rd_T37 l0 x82_2).f6)) := (blk_cell BK114.out 6).trans rfl
                        have hcz80_7 : w79.cell? ⟨gb114, 7, none⟩ = some (.int .i64 ((rd_T37 l0 x82_2).f7)) := (blk_cell BK114.out 7).trans rfl
                        have hfz80_0 := blk_frozen BK114.out 0
                        have hfz80_1 := blk_frozen BK114.out 1
                        have hfz80_2 := blk_frozen BK114.out 2
                        have hfz80_3 := blk_frozen BK114.out 3
                        have hfz80_4 := blk_frozen BK114.out 4
                        have hfz80_5 := blk_frozen BK114.out 5
                        have hfz80_6 := blk_frozen BK114.out 6
                        have hfz80_7 := blk_frozen BK114.out 7
                        try go_wp2
                        go_roundg k2
                        case measure => have := HK1.out; have := HK2.out; omega
                        case rel => exact ⟨(wrap64 (x8_2 + 1)), (wrap64 (x9_2 + ((rd_T37 l0 x82_2).f7))), (x10_2), (wrap64 (x82_2 + 1)), (by first | rfl | (simp; done) | (simp [*]; done)), (by first | rfl | (simp; done) | (simp [*]; done)), (by first | rfl | (simp; done) | (simp [*]; done)), (by first | rfl | (simp; done) | (simp [*]; done)), H', ⟨by have := HK1.out; have := HK2.out; omega⟩, ⟨by repeat (first | (with_reducible first | exact HB.out | apply below_alloc | apply pw_below_drewN | apply below_drew1 | refine below_set ?_ GE114.out) | exact HB.out)⟩⟩
                      · rw [if_neg c71] at H
                        have c71b0 : (((rd_T37 l0 x82_2).f3) == 0) = false := beq_eq_false_iff_ne.mpr c71
                        have c71b1 : (((rd_T37 l0 x82_2).f3) != 0) = true := bne_iff_ne.mpr c71
                        have H' := Aside0.mk H
                        clear H
                        have p113 : 0 ≤ (x82_2 : Int) := of_decide_eq_true (by first | (with_reducible assumption) | assumption)
                        have q113 : x82_2 < (l0.length : Int) := of_decide_eq_true (by first | (with_reducible assumption) | assumption)
                        obtain ⟨ad113, e113, hx113_0, hx113_1, hx113_2, hx113_3, hx113_4, hx113_5, hx113_6, hx113_7⟩ := at_T37 HR0.out x82_2 p113 q113
                        cases e113
                        replace hx113_0 := (HB.out.cell (World.block_lt_of_cell? w _ hx113_0)).trans hx113_0
                        replace hx113_1 := (HB.out.cell (World.block_lt_of_cell? w _ hx113_1)).trans hx113_1
                        replace hx113_2 := (HB.out.cell (World.block_lt_of_cell? w _ hx113_2)).trans hx113_2
                        replace hx113_3 := (HB.out.cell (World.block_lt_of_cell? w _ hx113_3)).trans hx113_3
                        replace hx113_4 := (HB.out.cell (World.block_lt_of_cell? w _ hx113_4)).trans hx113_4
                        replace hx113_5 := (HB.out.cell (World.block_lt_of_cell? w _ hx113_5)).trans hx113_5
                        replace hx113_6 := (HB.out.cell (World.block_lt_of_cell? w _ hx113_6)).trans hx113_6
                        replace hx113_7 := (HB.out.cell (World.block_lt_of_cell? w _ hx113_7)).trans hx113_7
                        replace p113 := eq_true p113
                        replace q113 := eq_true q113
                        try go_wp2_with (first | ((with_reducible refine gate_dst (N := 12) rfl ?_); refine box_event ?hg (N := 12) ?hd (cs := #[.int .u64 0, .int .u64 0, .int .u64 0, .int .u8 0, .string (⟨#[]⟩ : ByteArray), .string (⟨#[]⟩ : ByteArray), .int .i64 0, .int .i64 0]) (t := 37) ?hr ?_; (case hd => rfl); (case hg => rfl); (case hr => first | (go_simp; done) | (go_simp; rfl)); intro gb114 hg w81 hbox hb; have n0_ := Aside0.mk (below_step (by repeat (first | (with_reducible first | exact HB.out | apply below_alloc | apply pw_below_drewN | apply below_drew1) | exact HB.out)) hb); have n1_ := Aside0.mk (hbox); have n2_ := Aside0.mk ((by rw [hg]; exact (below_size (by repeat (first | (with_reducible first | exact HB.out | apply below_alloc | apply pw_below_drewN | apply below_drew1) | exact HB.out))) : w.heap.size ≤ gb114)); have n3_ := Aside0.mk ((by rw [hg]; exact (below_size (by repeat (first | (with_reducible first | exact HB.out | apply below_alloc | apply pw_below_drewN | apply below_drew1) | exact HB.out))) : w.heap.size ≤ gb114)); clear HB; have HB := n0_; have BK114 := n1_; have GW114 := n2_; have GE114 := n3_; clear n0_ n1_ n2_ n3_; clear hb hbox hg; have hcz82_0 : w81.cell? ⟨gb114, 0, none⟩ = some (.int .u64 0) := (blk_cell BK114.out 0).trans rfl; have hcz82_1 : w81.cell? ⟨gb114, 1, none⟩ = some (.int .u64 0) := (blk_cell BK114.out 1).trans rfl; have hcz82_2 : w81.cell? ⟨gb114, 2, none⟩ = some (.int .u64 0) := (blk_cell BK114.out 2).trans rfl; have hcz82_3 : w81.cell? ⟨gb114, 3, none⟩ = some (.int .u8 0) := (blk_cell BK114.out 3).trans rfl; have hcz82_4 : w81.cell? ⟨gb114, 4, none⟩ = some (.string (⟨#[]⟩ : ByteArray)) := (blk_cell BK114.out 4).trans rfl; have hcz82_5 : w81.cell? ⟨gb114, 5, none⟩ = some (.string (⟨#[]⟩ : ByteArray)) := (blk_cell BK114.out 5).trans rfl; have hcz82_6 : w81.cell? ⟨gb114, 6, none⟩ = some (.int .i64 0) := (blk_cell BK114.out 6).trans rfl; have hcz82_7 : w81.cell? ⟨gb114, 7, none⟩ = some (.int .i64 0) := (blk_cell BK114.out 7).trans rfl; have hfz82_0 := blk_frozen BK114.out 0; have hfz82_1 := blk_frozen BK114.out 1; have hfz82_2 := blk_frozen BK114.out 2; have hfz82_3 := blk_frozen BK114.out 3; have hfz82_4 := blk_frozen BK114.out 4; have hfz82_5 := blk_frozen BK114.out 5; have hfz82_6 := blk_frozen BK114.out 6; have hfz82_7 := blk_frozen BK114.out 7) | ((with_reducible refine gate_dst (N := 87) rfl ?_); refine Kd.R_lit k37 _ 37 ?hg (N := 87) ?hd (xs := ([(⟨(rd_T37 l0 x82_2).f0, (rd_T37 l0 x82_2).f1, (rd_T37 l0 x82_2).f2, (rd_T37 l0 x82_2).f3, (rd_T37 l0 x82_2).f4, (rd_T37 l0 x82_2).f5, (rd_T37 l0 x82_2).f6, (rd_T37 l0 x82_2).f7⟩ : S37)] : List (S37))) (inner := [.int .u64 ((rd_T37 l0 x82_2).f0), .int .u64 ((rd_T37 l0 x82_2).f1), .int .u64 ((rd_T37 l0 x82_2).f2), .int .u8 ((rd_T37 l0 x82_2).f3), .string ((rd_T37 l0 x82_2).f4), .string ((rd_T37 l0 x82_2).f5), .int .i64 ((rd_T37 l0 x82_2).f6), .int .i64 ((rd_T37 l0 x82_2).f7)]) (ok := fun _ => True) (okp := fun _ => True) ?hr ?hp (fun _ hk => hk) trivial (Below.refl _ _) (Nat.le_refl _) (by simp) ?_; (case hd => rfl); (case hg => rfl); (case hr => first | (go_simp; done) | (go_simp; rfl)); (case hp => exact (Reps.c8 (show Kd.M k37 _ _ _ (⟨(rd_T37 l0 x82_2).f0, (rd_T37 l0 x82_2).f1, (rd_T37 l0 x82_2).f2, (rd_T37 l0 x82_2).f3, (rd_T37 l0 x82_2).f4, (rd_T37 l0 x82_2).f5, (rd_T37 l0 x82_2).f6, (rd_T37 l0 x82_2).f7⟩ : S37) [.int .u64 ((rd_T37 l0 x82_2).f0), .int .u64 ((rd_T37 l0 x82_2).f1), .int .u64 ((rd_T37 l0 x82_2).f2), .int .u8 ((rd_T37 l0 x82_2).f3), .string ((rd_T37 l0 x82_2).f4), .string ((rd_T37 l0 x82_2).f5), .int .i64 ((rd_T37 l0 x82_2).f6), .int .i64 ((rd_T37 l0 x82_2).f7)] from (k37_mkM _ _ _ (⟨(rd_T37 l0 x82_2).f0, (rd_T37 l0 x82_2).f1, (rd_T37 l0 x82_2).f2, (rd_T37 l0 x82_2).f3, (rd_T37 l0 x82_2).f4, (rd_T37 l0 x82_2).f5, (rd_T37 l0 x82_2).f6, (rd_T37 l0 x82_2).f7⟩ : S37) )) (Reps.none _ _))); intro v116 w83 ho84 hb hg_ hnew_; clear hg_ hnew_; (first | rw [← Ny115.out] at ho84 | (simp only [Int.reduceToNat] at ho84; rw [← Ny115.out] at ho84)); have n0_ := Aside0.mk (Kd.R_lower (Kd.R_newB ho84 (g := gb114) (o := .cells #[.int .u64 ((rd_T37 l0 x82_2).f0), .int .u64 ((rd_T37 l0 x82_2).f1), .int .u64 ((rd_T37 l0 x82_2).f2), .int .u8 ((rd_T37 l0 x82_2).f3), .string ((rd_T37 l0 x82_2).f4), .string ((rd_T37 l0 x82_2).f5), .int .i64 ((rd_T37 l0 x82_2).f6), .int .i64 ((rd_T37 l0 x82_2).f7)] 37 (0, 0)) (by (with_reducible repeat (first | refine blk_drewN ?_ _ | refine blk_drew ?_ | refine blk_alloc ?_ _)); refine blk_put (cs := #[.int .u64 ((rd_T37 l0 x82_2).f0), .int .u64 ((rd_T37 l0 x82_2).f1), .int .u64 ((rd_T37 l0 x82_2).f2), .int .u8 ((rd_T37 l0 x82_2).f3), .string ((rd_T37 l0 x82_2).f4), .string ((rd_T37 l0 x82_2).f5), .int .i64 ((rd_T37 l0 x82_2).f6), .int .i64 0]) ?_ 7 _ rfl; (with_reducible repeat (first | refine blk_drewN ?_ _ | refine blk_drew ?_ | refine blk_alloc ?_ _)); refine blk_put (cs := #[.int .u64 ((rd_T37 l0 x82_2).f0), .int .u64 ((rd_T37 l0 x82_2).f1), .int .u64 ((rd_T37 l0 x82_2).f2), .int .u8 ((rd_T37 l0 x82_2).f3), .string ((rd_T37 l0 x82_2).f4), .string ((rd_T37 l0 x82_2).f5), .int .i64 0, .int .i64 0]) ?_ 6 _ rfl; (with_reducible repeat (first | refine blk_drewN ?_ _ | refine blk_drew ?_ | refine blk_alloc ?_ _)); refine blk_put (cs := #[.int .u64 ((rd_T37 l0 x82_2).f0), .int .u64 ((rd_T37 l0 x82_2).f1), .int .u64 ((rd_T37 l0 x82_2).f2), .int .u8 ((rd_T37 l0 x82_2).f3), .string ((rd_T37 l0 x82_2).f4), .string (⟨#[]⟩ : ByteArray), .int .i64 0, .int .i64 0]) ?_ 5 _ rfl; (with_reducible repeat (first | refine blk_drewN ?_ _ | refine blk_drew ?_ | refine blk_alloc ?_ _)); refine blk_put (cs := #[.int .u64 ((rd_T37 l0 x82_2).f0), .int .u64 ((rd_T37 l0 x82_2).f1), .int .u64 ((rd_T37 l0 x82_2).f2), .int .u8 ((rd_T37 l0 x82_2).f3), .string (⟨#[]⟩ : ByteArray), .string (⟨#[]⟩ : ByteArray), .int .i64 0, .int .i64 0]) ?_ 4 _ rfl; (with_reducible repeat (first | refine blk_drewN ?_ _ | refine blk_drew ?_ | refine blk_alloc ?_ _)); refine blk_put (cs := #[.int .u64 ((rd_T37 l0 x82_2).f0), .int .u64 ((rd_T37 l0 x82_2).f1), .int .u64 ((rd_T37 l0 x82_2).f2), .int .u8 0, .string (⟨#[]⟩ : ByteArray), .string (⟨#[]⟩ : ByteArray), .int .i64 0, .int .i64 0]) ?_ 3 _ rfl; (with_reducible repeat (first | refine blk_drewN ?_ _ | refine blk_drew ?_ | refine blk_alloc ?_ _)); refine blk_put (cs := #[.int .u64 ((rd_T37 l0 x82_2).f0), .int .u64 ((rd_T37 l0 x82_2).f1), .int .u64 0, .int .u8 0, .string (⟨#[]⟩ : ByteArray), .string (⟨#[]⟩ : ByteArray), .int .i64 0, .int .i64 0]) ?_ 2 _ rfl; (with_reducible repeat (first | refine blk_drewN ?_ _ | refine blk_drew ?_ | refine blk_alloc ?_ _)); refine blk_put (cs := #[.int .u64 ((rd_T37 l0 x82_2).f0), .int .u64 0, .int .u64 0, .int .u8 0, .string (⟨#[]⟩ : ByteArray), .string (⟨#[]⟩ : ByteArray), .int .i64 0, .int .i64 0]) ?_ 1 _ rfl; (with_reducible repeat (first | refine blk_drewN ?_ _ | refine blk_drew ?_ | refine blk_alloc ?_ _)); refine blk_put (cs := #[.int .u64 0, .int .u64 0, .int .u64 0, .int .u8 0, .string (⟨#[]⟩ : ByteArray), .string (⟨#[]⟩ : ByteArray), .int .i64 0, .int .i64 0]) ?_ 0 _ rfl; (with_reducible repeat (first | refine blk_drewN ?_ _ | refine blk_drew ?_ | refine blk_alloc ?_ _)); exact BK114.out)) (below_size (by repeat (first | (with_reducible first | exact HB.out | apply below_alloc | apply pw_below_drewN | apply below_drew1 | refine below_set ?_ GE114.out) | exact HB.out)))); have n1_ := Aside0.mk (blk_below (g := gb114) (o := .cells #[.int .u64 ((rd_T37 l0 x82_2).f0), .int .u64 ((rd_T37 l0 x82_2).f1), .int .u64 ((rd_T37 l0 x82_2).f2), .int .u8 ((rd_T37 l0 x82_2).f3), .string ((rd_T37 l0 x82_2).f4), .string ((rd_T37 l0 x82_2).f5), .int .i64 ((rd_T37 l0 x82_2).f6), .int .i64 ((rd_T37 l0 x82_2).f7)] 37 (0, 0)) (by (with_reducible repeat (first | refine blk_drewN ?_ _ | refine blk_drew ?_ | refine blk_alloc ?_ _)); refine blk_put (cs := #[.int .u64 ((rd_T37 l0 x82_2).f0), .int .u64 ((rd_T37 l0 x82_2).f1), .int .u64 ((rd_T37 l0 x82_2).f2), .int .u8 ((rd_T37 l0 x82_2).f3), .string ((rd_T37 l0 x82_2).f4), .string ((rd_T37 l0 x82_2).f5), .int .i64 ((rd_T37 l0 x82_2).f6), .int .i64 0]) ?_ 7 _ rfl; (with_reducible repeat (first | refine blk_drewN ?_ _ | refine blk_drew ?_ | refine blk_alloc ?_ _)); refine blk_put (cs := #[.int .u64 ((rd_T37 l0 x82_2).f0), .int .u64 ((rd_T37 l0 x82_2).f1), .int .u64 ((rd_T37 l0 x82_2).f2), .int .u8 ((rd_T37 l0 x82_2).f3), .string ((rd_T37 l0 x82_2).f4), .string ((rd_T37 l0 x82_2).f5), .int .i64 0, .int .i64 0]) ?_ 6 _ rfl; (with_reducible repeat (first | refine blk_drewN ?_ _ | refine blk_drew ?_ | refine blk_alloc ?_ _)); refine blk_put (cs := #[.int .u64 ((rd_T37 l0 x82_2).f0), .int .u64 ((rd_T37 l0 x82_2).f1), .int .u64 ((rd_T37 l0 x82_2).f2), .int .u8 ((rd_T37 l0 x82_2).f3), .string ((rd_T37 l0 x82_2).f4), .string (⟨#[]⟩ : ByteArray), .int .i64 0, .int .i64 0]) ?_ 5 _ rfl; (with_reducible repeat (first | refine blk_drewN ?_ _ | refine blk_drew ?_ | refine blk_alloc ?_ _)); refine blk_put (cs := #[.int .u64 ((rd_T37 l0 x82_2).f0), .int .u64 ((rd_T37 l0 x82_2).f1), .int .u64 ((rd_T37 l0 x82_2).f2), .int .u8 ((rd_T37 l0 x82_2).f3), .string (⟨#[]⟩ : ByteArray), .string (⟨#[]⟩ : ByteArray), .int .i64 0, .int .i64 0]) ?_ 4 _ rfl; (with_reducible repeat (first | refine blk_drewN ?_ _ | refine blk_drew ?_ | refine blk_alloc ?_ _)); refine blk_put (cs := #[.int .u64 ((rd_T37 l0 x82_2).f0), .int .u64 ((rd_T37 l0 x82_2).f1), .int .u64 ((rd_T37 l0 x82_2).f2), .int .u8 0, .string (⟨#[]⟩ : ByteArray), .string (⟨#[]⟩ : ByteArray), .int .i64 0, .int .i64 0]) ?_ 3 _ rfl; (with_reducible repeat (first | refine blk_drewN ?_ _ | refine blk_drew ?_ | refine blk_alloc ?_ _)); refine blk_put (cs := #[.int .u64 ((rd_T37 l0 x82_2).f0), .int .u64 ((rd_T37 l0 x82_2).f1), .int .u64 0, .int .u8 0, .string (⟨#[]⟩ : ByteArray), .string (⟨#[]⟩ : ByteArray), .int .i64 0, .int .i64 0]) ?_ 2 _ rfl; (with_reducible repeat (first | refine blk_drewN ?_ _ | refine blk_drew ?_ | refine blk_alloc ?_ _)); refine blk_put (cs := #[.int .u64 ((rd_T37 l0 x82_2).f0), .int .u64 0, .int .u64 0, .int .u8 0, .string (⟨#[]⟩ : ByteArray), .string (⟨#[]⟩ : ByteArray), .int .i64 0, .int .i64 0]) ?_ 1 _ rfl; (with_reducible repeat (first | refine blk_drewN ?_ _ | refine blk_drew ?_ | refine blk_alloc ?_ _)); refine blk_put (cs := #[.int .u64 0, .int .u64 0, .int .u64 0, .int .u8 0, .string (⟨#[]⟩ : ByteArray), .string (⟨#[]⟩ : ByteArray), .int .i64 0, .int .i64 0]) ?_ 0 _ rfl; (with_reducible repeat (first | refine blk_drewN ?_ _ | refine blk_drew ?_ | refine blk_alloc ?_ _)); exact BK114.out) hb); have n2_ := Aside0.mk (below_step (by repeat (first | (with_reducible first | exact HB.out | apply below_alloc | apply pw_below_drewN | apply below_drew1 | refine below_set ?_ GE114.out) | exact HB.out)) hb); clear BK114; clear HB; have HO117 := n0_; have BK114 := n1_; have HB := n2_; clear n0_ n1_ n2_; clear hb ho84; obtain ⟨Ao85, co85, eo85⟩ := Kd.R_slice HO117.out; subst eo85) | ((with_reducible refine gate_callee (f := 21) rfl ?_); refine goesL_ (some 88) rfl rfl Try.func21 (by kernel_rfl) rfl #[.slice Ao85 y115.length co85] rfl (by (try simp only [List.map_toArray, List.map_cons, List.map_nil]); first | done | rfl | (simp only [List.length_drop, List.length_take]; rfl)) ?_; (with_reducible refine (stats_Of.calls _ _ y115 t118 _ ?side1 ?side2 A62.out).mono ?_); (case side1 => repeat (first | exact (Kd.R_reads' HO117.out).2.2 | (with_reducible refine Kd.C_alloc ?_ _) | (with_reducible refine Kd.C_drewN ?_ _) | (with_reducible refine Kd.C_drew ?_))); (case side2 => exact (Kd.R_reads' HO117.out).2.1); rintro e w86 ⟨v119, rfl, ho0, hb⟩; refine ⟨_, rfl, ?_⟩; have n0_ := Aside0.mk (Kd.R_below (by (with_reducible repeat (first | apply Kd.R_alloc | apply Kd.R_drewN | apply Kd.R_drew)); exact HO117.out) hb); have n1_ := Aside0.mk (Kd.R_lower ho0 (below_size (by repeat (first | (with_reducible first | exact HB.out | apply below_alloc | apply pw_below_drewN | apply below_drew1 | refine below_set ?_ GE114.out) | exact HB.out)))); have n2_ := Aside0.mk (blk_below (g := gb114) (o := .cells #[.int .u64 ((rd_T37 l0 x82_2).f0), .int .u64 ((rd_T37 l0 x82_2).f1), .int .u64 ((rd_T37 l0 x82_2).f2), .int .u8 ((rd_T37 l0 x82_2).f3), .string ((rd_T37 l0 x82_2).f4), .string ((rd_T37 l0 x82_2).f5), .int .i64 ((rd_T37 l0 x82_2).f6), .int .i64 ((rd_T37 l0 x82_2).f7)] 37 (0, 0)) (by (with_reducible repeat (first | refine blk_drewN ?_ _ | refine blk_drew ?_ | refine blk_alloc ?_ _)); exact BK114.out) hb); have n3_ := Aside0.mk (below_step (by repeat (first | (with_reducible first | exact HB.out | apply below_alloc | apply pw_below_drewN | apply below_drew1 | refine below_set ?_ GE114.out) | exact HB.out)) hb); clear HO117; clear BK114; clear HB; have HO117 := n0_; have HO120 := n1_; have BK114 := n2_; have HB := n3_; clear n0_ n1_ n2_ n3_; (try clear hb); (try clear hb2); (try clear hk); (try clear hi); (try clear ho0); obtain ⟨Ao87, co87, eo87⟩ := Kd.R_slice HO120.out; subst eo87))
                        have n0_ := Aside0.mk (Kd.R_drew HO117.out)
                        have n1_ := Aside0.mk (Kd.R_drew HO120.out)
                        have n2_ := Aside0.mk (blk_drew BK114.out)
                        have n3_ := Aside0.mk (below_drew1 HB.out)
                        clear HO117
                        clear HO120
                        clear BK114
                        clear HB
                        have HO117 := n0_
                        have HO120 := n1_
                        have BK114 := n2_
                        have HB := n3_
                        clear n0_ n1_ n2_ n3_
                        refine start_ (n := 8) (S := fun w' => w'.cell? ⟨gb114, 0, none⟩ = some (.int .u64 ((rd_T37 l0 x82_2).f0)) ∧ w'.cell? ⟨gb114, 1, none⟩ = some (.int .u64 ((rd_T37 l0 x82_2).f1)) ∧ w'.cell? ⟨gb114, 2, none⟩ = some (.int .u64 ((rd_T37 l0 x82_2).f2)) ∧ w'.cell? ⟨gb114, 3, none⟩ = some (.int .u8 ((rd_T37 l0 x82_2).f3)) ∧ w'.cell? ⟨gb114, 4, none⟩ = some (.string ((rd_T37 l0 x82_2).f4)) ∧ w'.cell? ⟨gb114, 5, none⟩ = some (.string ((rd_T37 l0 x82_2).f5)) ∧ w'.cell? ⟨gb114, 6, none⟩ = some (.int .i64 ((rd_T37 l0 x82_2).f6)) ∧ w'.cell? ⟨gb114, 7, none⟩ = some (.int .i64 ((rd_T37 l0 x82_2).f7))) (ds := []) #[false, false, false, false, false, false, false, false] (by kernel_rfl) rfl rfl ⟨(blk_cell BK114.out 0).trans rfl, (blk_cell BK114.out 1).trans rfl, (blk_cell BK114.out 2).trans rfl, (blk_cell BK114.out 3).trans rfl, (blk_cell BK114.out 4).trans rfl, (blk_cell BK114.out 5).trans rfl, (blk_cell BK114.out 6).trans rfl, (blk_cell BK114.out 7).trans rfl⟩ (fun hHeld => ?_); refine with_tabW merkhetlaw27_StatsSums.tab17 merkhetlaw27_StatsSums.bits17 (fun HT_ HW_ => ?_)
                        generalize w86.drew = w88 at HO117 HO120 BK114 HB hHeld ⊢
                        refine pure_ (i := 0) (N := some 92) (v := ?_) (a' := ?_) #[true, false, false, false, false, false, false, false] rfl rfl (any_of HT_.out (by kernel_rfl)) (fun _ _ _ h => h) (Or.inl ⟨by rfl, ?_⟩) ?_ ?_
                        rotate_left
                        · intro w'
                          go_simp
                          with_reducible rfl
                        rotate_left
                        · simp only [Act.put, List.setIfInBounds_toArray, List.set_cons_zero, List.set_cons_succ, i64_w, i32_w]
                          rfl
                        refine pure_ (i := 1) (N := some 93) (v := ?_) (a' := ?_) #[true, true, false, false, false, false, false, false] rfl rfl (any_of HT_.out (by kernel_rfl)) (fun _ _ _ h => h) (Or.inl ⟨by rfl, ?_⟩) ?_ ?_
                        rotate_left
                        · intro w'
                          go_simp
                          with_reducible rfl
                        rotate_left
                        · simp only [Act.put, List.setIfInBounds_toArray, List.set_cons_zero, List.set_cons_succ, i64_w, i32_w]
                          rfl
                        refine pure_ (i := 2) (N := some 94) (v := ?_) (a' := ?_) #[true, true, true, false, false, false, false, false] rfl rfl (any_of HT_.out (by kernel_rfl)) (fun _ _ _ h => h) (Or.inl ⟨by rfl, ?_⟩) ?_ ?_
                        rotate_left
                        · intro w'
                          go_simp
                          with_reducible rfl
                        rotate_left
                        · simp only [Act.put, List.setIfInBounds_toArray, List.set_cons_zero, List.set_cons_succ, i64_w, i32_w]
                          rfl
                        refine pure_ (i := 3) (N := some 95) (v := ?_) (a' := ?_) #[true, true, true, true, false, false, false, false] rfl rfl (any_of HT_.out (by kernel_rfl)) (fun _ _ _ h => h) (Or.inl ⟨by rfl, ?_⟩) ?_ ?_
                        rotate_left
                        · intro w'
                          go_simp
                          with_reducible rfl
                        rotate_left
                        · simp only [Act.put, List.setIfInBounds_toArray, List.set_cons_zero, List.set_cons_succ, i64_w, i32_w]
                          rfl
                        refine pure_ (i := 6) (N := some 8) (v := ?_) (a' := ?_) #[true, true, true, true, false, false, true, false] rfl rfl (any_of HT_.out (by kernel_rfl)) (fun _ _ _ h => h) (Or.inl ⟨by rfl, ?_⟩) ?_ ?_
                        rotate_left
                        · intro w'
                          go_simp
                          with_reducible rfl
                        rotate_left
                        · simp only [Act.put, List.setIfInBounds_toArray, List.set_cons_zero, List.set_cons_succ, i64_w, i32_w]
                          rfl
                        refine take_ (i := 4) (N := some 96) (v := ?_) (a' := ?_) #[true, true, true, true, true, false, true, false] rfl rfl (take_ofW HT_.out HW_.out (by kernel_rfl)) (fun _ _ _ h => h) (Or.inl ⟨by rfl, ?_⟩) hHeld ?_ ?_
                        rotate_left
                        · rintro w' ⟨s0, s1, s2, s3, s4, s5, s6, s7⟩
                          go_simp
                          with_reducible rfl
                        rotate_left
                        · simp only [Act.put, List.setIfInBounds_toArray, List.set_cons_zero, List.set_cons_succ, i64_w, i32_w]
                          rfl
                        refine pure_ (i := 5) (N := some 97) (v := ?_) (a' := ?_) #[true, true, true, true, true, true, true, false] rfl rfl (any_of HT_.out (by kernel_rfl)) (fun _ _ _ h => h) (Or.inl ⟨by rfl, ?_⟩) ?_ ?_
                        rotate_left
                        · intro w'
                          go_simp
                          with_reducible rfl
                        rotate_left
                        · simp only [Act.put, List.setIfInBounds_toArray, List.set_cons_zero, List.set_cons_succ, i64_w, i32_w]
                          rfl
                        refine pure_ (i := 7) (N := some 9) (v := ?_) (a' := ?_) #[true, true, true, true, true, true, true, true] rfl rfl (any_of HT_.out (by kernel_rfl)) (fun _ _ _ h => h) (Or.inl ⟨by rfl, ?_⟩) ?_ ?_
                        rotate_left
                        · intro w'
                          go_simp
                          with_reducible rfl
                        rotate_left
                        · simp only [Act.put, List.setIfInBounds_toArray, List.set_cons_zero, List.set_cons_succ, i64_w, i32_w]
                          rfl
                        refine done_ (done_of HT_.out (by kernel_rfl)) ?_
                        have hcz89_0 : w88.cell? ⟨gb114, 0, none⟩ = some (.int .u64 ((rd_T37 l0 x82_2).f0)) := (blk_cell BK114.out 0).trans rfl
                        have hcz89_1 : w88.cell? ⟨gb114, 1, none⟩ = some (.int .u64 ((rd_T37 l0 x82_2).f1)) := (blk_cell BK114.out 1).trans rfl
                        have hcz89_2 : w88.cell? ⟨gb114, 2, none⟩ = some (.int .u64 ((rd_T37 l0 x82_2).f2)) := (blk_cell BK114.out 2).trans rfl
                        have hcz89_3 : w88.cell? ⟨gb114, 3, none⟩ = some (.int .u8 ((rd_T37 l0 x82_2).f3)) := (blk_cell BK114.out 3).trans rfl
                        have hcz89_4 : w88.cell? ⟨gb114, 4, none⟩ = some (.string ((rd_T37 l0 x82_2).f4)) := (blk_cell BK114.out 4).trans rfl
                        have hcz89_5 : w88.cell? ⟨gb114, 5, none⟩ = some (.string ((rd_T37 l0 x82_2).f5)) := (blk_cell BK114.out 5).trans rfl
                        have hcz89_6 : w88.cell? ⟨gb114, 6, none⟩ = some (.int .i64 ((rd_T37 l0 x82_2).f6)) := (blk_cell BK114.out 6).trans rfl
                        have hcz89_7 : w88.cell? ⟨gb114, 7, none⟩ = some (.int .i64 ((rd_T37 l0 x82_2).f7)) := (blk_cell BK114.out 7).trans rfl
                        have hfz89_0 := blk_frozen BK114.out 0
                        have hfz89_1 := blk_frozen BK114.out 1
                        have hfz89_2 := blk_frozen BK114.out 2
                        have hfz89_3 := blk_frozen BK114.out 3
                        have hfz89_4 := blk_frozen BK114.out 4
                        have hfz89_5 := blk_frozen BK114.out 5
                        have hfz89_6 := blk_frozen BK114.out 6
                        have hfz89_7 := blk_frozen BK114.out 7
                        try go_wp2
                        go_roundg k2
                        case measure => have := HK1.out; have := HK2.out; omega
                        case rel => exact ⟨(wrap64 (x8_2 + 1)), (wrap64 (x9_2 + ((rd_T37 l0 x82_2).f7))), (wrap64 (x10_2 + 1)), (wrap64 (x82_2 + 1)), (by first | rfl | (simp; done) | (simp [*]; done)), (by first | rfl | (simp; done) | (simp [*]; done)), (by first | rfl | (simp; done) | (simp [*]; done)), (by first | rfl | (simp; done) | (simp [*]; done)), H', ⟨by have := HK1.out; have := HK2.out; omega⟩, ⟨by repeat (first | (with_reducible first | exact HB.out | apply below_alloc | apply pw_below_drewN | apply below_drew1 | refine below_set ?_ GE114.out) | exact HB.out)⟩⟩
                  · rw [if_neg c61] at H
                    exact absurd H (by simp)
                · rw [if_neg c60] at H
                  exact absurd H (by simp)
              · rw [if_neg c59] at H
                have c59b0 : decide (x82_2 < (l0.length : Int)) = false := decide_eq_false c59
                clear c59
                replace H := Option.bind_eq_some_iff.mp H
                obtain ⟨t112, A900, H⟩ := H
                replace H : (if t112 = true then (if x3_1 = x8_2 then (if x4_1 = x9_2 then (some (x5_1 == x10_2)) else (some false)) else (some false)) else (some false)) = some r := H
                have A90 := Aside0.mk A900
                clear A900
                by_cases c91 : t112 = true
                · subst c91
                  have H1 : (if x3_1 = x8_2 then (if x4_1 = x9_2 then (some (x5_1 == x10_2)) else (some false)) else (some false)) = some r := by rw [if_pos rfl] at H; exact H
                  clear H
                  have H := H1
                  clear H1
                  by_cases c92 : x3_1 = x8_2
                  · rw [if_pos c92] at H
                    have c92b0 : (x3_1 == x8_2) = true := beq_iff_eq.mpr c92
                    have c92b1 : (x3_1 != x8_2) = false := bne_eq_false_iff_eq.mpr c92
                    clear c92
                    by_cases c93 : x4_1 = x9_2
                    · rw [if_pos c93] at H
                      have c93b0 : (x4_1 == x9_2) = true := beq_iff_eq.mpr c93
                      have c93b1 : (x4_1 != x9_2) = false := bne_eq_false_iff_eq.mpr c93
                      clear c93
                      obtain rfl := Option.some.inj H
                      go_wp2_with (first | ((with_reducible refine gate_callee (f := 12) rfl ?_); refine goesL_ (some 104) rfl rfl Try.func12 (by kernel_rfl) rfl #[] rfl (by (try simp only [List.map_toArray, List.map_cons, List.map_nil]); first | done | rfl | (simp only [List.length_drop, List.length_take]; rfl)) ?_; (with_reducible refine (merkhetlaw27_fixed.calls k2  true _ A90.out).mono ?_); rintro e w94 ⟨rfl, hb⟩; refine ⟨_, rfl, ?_⟩; have n0_ := Aside0.mk (below_step (by repeat (first | (with_reducible first | exact HB.out | apply below_alloc | apply pw_below_drewN | apply below_drew1) | exact HB.out)) hb); clear HB; have HB := n0_; clear n0_; (try clear hb); (try clear hb2); (try clear hk); (try clear hi)))
                      go_ret
                      exact ⟨by first | rfl | (simp [errW_none, errW_some] <;> rfl) | (simp [*, errW_none, errW_some] <;> rfl), by repeat (first | (with_reducible first | exact HB.out | apply below_alloc | apply pw_below_drewN | apply below_drew1) | exact HB.out)⟩
                    · rw [if_neg c93] at H
                      have c93b0 : (x4_1 == x9_2) = false := beq_eq_false_iff_ne.mpr c93
                      have c93b1 : (x4_1 != x9_2) = true := bne_iff_ne.mpr c93
                      obtain rfl := Option.some.inj H
                      go_wp2_with (first | ((with_reducible refine gate_callee (f := 12) rfl ?_); refine goesL_ (some 104) rfl rfl Try.func12 (by kernel_rfl) rfl #[] rfl (by (try simp only [List.map_toArray, List.map_cons, List.map_nil]); first | done | rfl | (simp only [List.length_drop, List.length_take]; rfl)) ?_; (with_reducible refine (merkhetlaw27_fixed.calls k2  true _ A90.out).mono ?_); rintro e w95 ⟨rfl, hb⟩; refine ⟨_, rfl, ?_⟩; have n0_ := Aside0.mk (below_step (by repeat (first | (with_reducible first | exact HB.out | apply below_alloc | apply pw_below_drewN | apply below_drew1) | exact HB.out)) hb); clear HB; have HB := n0_; clear n0_; (try clear hb); (try clear hb2); (try clear hk); (try clear hi)))
                      go_ret
                      exact ⟨by first | rfl | (simp [errW_none, errW_some] <;> rfl) | (simp [*, errW_none, errW_some] <;> rfl), by repeat (first | (with_reducible first | exact HB.out | apply below_alloc | apply pw_below_drewN | apply below_drew1) | exact HB.out)⟩
                  · rw [if_neg c92] at H
                    have c92b0 : (x3_1 == x8_2) = false := beq_eq_false_iff_ne.mpr c92
                    have c92b1 : (x3_1 != x8_2) = true := bne_iff_ne.mpr c92
                    obtain rfl := Option.some.inj H
                    go_wp2_with (first | ((with_reducible refine gate_callee (f := 12) rfl ?_); refine goesL_ (some 104) rfl rfl Try.func12 (by kernel_rfl) rfl #[] rfl (by (try simp only [List.map_toArray, List.map_cons, List.map_nil]); first | done | rfl | (simp only [List.length_drop, List.length_take]; rfl)) ?_; (with_reducible refine (merkhetlaw27_fixed.calls k2  true _ A90.out).mono ?_); rintro e w96 ⟨rfl, hb⟩; refine ⟨_, rfl, ?_⟩; have n0_ := Aside0.mk (below_step (by repeat (first | (with_reducible first | exact HB.out | apply below_alloc | apply pw_below_drewN | apply below_drew1) | exact HB.out)) hb); clear HB; have HB := n0_; clear n0_; (try clear hb); (try clear hb2); (try clear hk); (try clear hi)))
                    go_ret
                    exact ⟨by first | rfl | (simp [errW_none, errW_some] <;> rfl) | (simp [*, errW_none, errW_some] <;> rfl), by repeat (first | (with_reducible first | exact HB.out | apply below_alloc | apply pw_below_drewN | apply below_drew1) | exact HB.out)⟩
                · replace c91 := Bool.eq_false_iff.mpr c91
                  subst c91
                  have H1 : (some false) = some r := by rw [if_neg (show ¬ (false = true) by decide)] at H; exact H
                  clear H
                  have H := H1
                  clear H1
                  obtain rfl := Option.some.inj H
                  go_wp2_with (first | ((with_reducible refine gate_callee (f := 12) rfl ?_); refine goesL_ (some 104) rfl rfl Try.func12 (by kernel_rfl) rfl #[] rfl (by (try simp only [List.map_toArray, List.map_cons, List.map_nil]); first | done | rfl | (simp only [List.length_drop, List.length_take]; rfl)) ?_; (with_reducible refine (merkhetlaw27_fixed.calls k2  false _ A90.out).mono ?_); rintro e w97 ⟨rfl, hb⟩; refine ⟨_, rfl, ?_⟩; have n0_ := Aside0.mk (below_step (by repeat (first | (with_reducible first | exact HB.out | apply below_alloc | apply pw_below_drewN | apply below_drew1) | exact HB.out)) hb); clear HB; have HB := n0_; clear n0_; (try clear hb); (try clear hb2); (try clear hk); (try clear hi)))
                  go_ret
                  exact ⟨by first | rfl | (simp [errW_none, errW_some] <;> rfl) | (simp [*, errW_none, errW_some] <;> rfl), by repeat (first | (with_reducible first | exact HB.out | apply below_alloc | apply pw_below_drewN | apply below_drew1) | exact HB.out)⟩

end Go.Proofs.Ytmfdhcgdibefiaa.S

/- How an array of two is read. -/
namespace Go.Proofs.YtmfdhcgdibefiaaW.Open
open Go.RowKit Go.Proofs.YtmfdhcgdibefiaaW.PrintWords Go.ChangeShapes Go.WideShapes
set_option linter.unusedVariables false
end Go.Proofs.YtmfdhcgdibefiaaW.Open

-- Written by wip/tools/row.py, a program of this session. Lean checks it.
namespace Go.Proofs.Ytmfdhcgdibefiaa.R
open Go.RowKit Go.Proofs.YtmfdhcgdibefiaaW.PrintWords Go.Proofs.YtmfdhcgdibefiaaW.Open Go.Proofs.Ytmfdhcgdibefiaa.Q
set_option linter.unusedVariables false
end Go.Proofs.Ytmfdhcgdibefiaa.R

-- Written by wip/tools/row.py, a program of this session. Lean checks it.
namespace Go.Proofs.Ytmfdhcgdibefiaa.S
open Go.RowKit Go.Proofs.YtmfdhcgdibefiaaW.PrintWords Go.Proofs.YtmfdhcgdibefiaaW.Open Go.Proofs.Ytmfdhcgdibefiaa.Q Go.Proofs.Ytmfdhcgdibefiaa.R
set_option linter.unusedVariables false

end Go.Proofs.Ytmfdhcgdibefiaa.S

/- What all tallies come to together: plain. -/
namespace Go.Proofs.Ytmfdhcgdibefiaa.L
open Go.RowKit Go.Proofs.Ytmfdhcgdibefiaa.Q Go.Proofs.YtmfdhcgdibefiaaW.PrintWords
set_option linter.unusedVariables false

def sumL (l : List Int) : Int := l.foldr (· + ·) 0
theorem sumL_cons (x : Int) (l : List Int) : sumL (x :: l) = x + sumL l := rfl
theorem sumL_nil : sumL [] = 0 := rfl
theorem sumL_app (a b : List Int) : sumL (a ++ b) = sumL a + sumL b := by
  induction a with
  | nil => simp [sumL_nil]
  | cons x a ih => rw [List.cons_append, sumL_cons, sumL_cons, ih]; omega
theorem sumL_nonneg {l : List Int} (h : ∀ x ∈ l, 0 ≤ x) : 0 ≤ sumL l := by
  induction l with
  | nil => simp [sumL_nil]
  | cons x l ih =>
    rw [sumL_cons]
    have := h x (by simp)
    have := ih (fun y hy => h y (by simp [hy]))
    omega
theorem sumL_take {l : List Int} (h : ∀ x ∈ l, 0 ≤ x) (k : Nat) : 0 ≤ sumL (l.take k) ∧ sumL (l.take k) ≤ sumL l := by
  have h1 := sumL_nonneg (l := l.take k) (fun x hx => h x (List.mem_of_mem_take hx))
  have h2 := sumL_nonneg (l := l.drop k) (fun x hx => h x (List.mem_of_mem_drop hx))
  have h3 : sumL l = sumL (l.take k) + sumL (l.drop k) := by rw [← sumL_app, List.take_append_drop]
  omega
theorem sumL_le {l : List Int} {B : Int} (h : ∀ x ∈ l, x ≤ B) : sumL l ≤ l.length * B := by
  induction l with
  | nil => simp [sumL_nil]
  | cons x l ih =>
    rw [sumL_cons, List.length_cons]
    have := h x (by simp)
    have := ih (fun y hy => h y (by simp [hy]))
    rw [show (((l.length + 1 : Nat) : Int)) = l.length + 1 by omega, Int.add_mul]
    omega
/-- One host's share, over hosts that stand once each. -/
theorem sum_pick {hs : List ByteArray} (nd : hs.Nodup) {a : ByteArray} (ha : a ∈ hs) (v : Int) : sumL (hs.map fun h => if a = h then v else 0) = v := by
  induction hs with
  | nil => cases ha
  | cons x hs ih =>
    have nd' := List.nodup_cons.1 nd
    rw [List.map_cons, sumL_cons]
    by_cases e : a = x
    · subst e
      rw [if_pos rfl]
      have : ∀ hs : List ByteArray, a ∉ hs → sumL (hs.map fun h => if a = h then v else 0) = 0 := by
        intro hs
        induction hs with
        | nil => intro _; rfl
        | cons y hs ih2 =>
          intro hn
          rw [List.map_cons, sumL_cons, if_neg (fun e => hn (by simp [e])), ih2 (fun q => hn (by simp [q]))]
          rfl
      rw [this hs nd'.1]; omega
    · rw [if_neg e, ih nd'.2 (by rcases List.mem_cons.1 ha with h | h <;> first | exact absurd h e | exact h)]
      omega
theorem sum_add (hs : List ByteArray) (f g : ByteArray → Int) : sumL (hs.map fun h => f h + g h) = sumL (hs.map f) + sumL (hs.map g) := by
  induction hs with
  | nil => rfl
  | cons x hs ih => simp only [List.map_cons, sumL_cons, ih]; omega
theorem sum_zero (hs : List ByteArray) : sumL (hs.map fun _ => (0 : Int)) = 0 := by
  induction hs with
  | nil => rfl
  | cons x hs ih => simp only [List.map_cons, sumL_cons, ih]; rfl
/-- What spans come to, told host by host. -/
theorem sum_hosts (v : S37 → Int) {hs : List ByteArray} (nd : hs.Nodup) : ∀ g : List S37, (∀ s ∈ g, s.f4 ∈ hs) → sumL (hs.map fun h => sumL ((g.filter fun s => decide (s.f4 = h)).map v)) = sumL (g.map v)
  | [], _ => by simpa [sumL_nil] using sum_zero hs
  | s :: g, hm => by
    have ih := sum_hosts v nd g (fun x hx => hm x (by simp [hx]))
    rw [List.map_cons, sumL_cons, ← ih, ← sum_pick nd (hm s (by simp)) (v s), ← sum_add]
    congr 1
    refine List.map_congr_left (fun h _ => ?_)
    by_cases e : s.f4 = h
    · rw [List.filter_cons_of_pos (by simpa using e), List.map_cons, sumL_cons, if_pos e]
    · rw [List.filter_cons_of_neg (by simpa using e), if_neg e]; omega
/-- What a tally's number is: the sum of its spans' shares. -/
theorem fold_sum (p : Tal → Int) (v : S37 → Int) (hp : ∀ t s, p (talStep t s) = p t + v s) : ∀ (g : List S37) (t : Tal), p (g.foldl talStep t) = p t + sumL (g.map v)
  | [], t => by simp [sumL_nil]
  | s :: g, t => by
    rw [List.foldl_cons, fold_sum p v hp g, hp, List.map_cons, sumL_cons]; omega
theorem fold_dur : ∀ (g : List S37) (t : Tal), (∀ s ∈ g, 0 ≤ s.f7 ∧ s.f7 ≤ 1125899906842624) → 0 ≤ t.f2 → t.f2 + g.length * 1125899906842624 ≤ 9223372036854775807 → (g.foldl talStep t).f2 = t.f2 + sumL (g.map fun s => s.f7)
  | [], t, _, _, _ => by simp [sumL_nil]
  | s :: g, t, h, h0, h1 => by
    have hs := h s (by simp)
    rw [List.length_cons] at h1
    have e : (talStep t s).f2 = t.f2 + s.f7 := by
      simp only [talStep]
      rw [if_neg (by omega)]
    rw [List.foldl_cons, fold_dur g (talStep t s) (fun x hx => h x (by simp [hx])) (by rw [e]; omega) (by rw [e]; omega), e, List.map_cons, sumL_cons]
    omega
def kind1 (s : S37) : Int := if s.f3 = 1 then 1 else 0
def kind2 (s : S37) : Int := if s.f3 = 2 then 1 else 0
theorem tal_n (g : List S37) (h : ByteArray) : (talOf g h).f1 = sumL ((g.filter fun s => decide (s.f4 = h)).map fun _ => 1) := by
  have := fold_sum (·.f1) (fun _ => 1) (fun t s => rfl) (g.filter fun s => decide (s.f4 = h)) (tal0 h)
  simpa [tal0, talOf] using this
theorem tal_calls (g : List S37) (h : ByteArray) : (talOf g h).f3 + (talOf g h).f4 = sumL ((g.filter fun s => decide (s.f4 = h)).map fun s => kind1 s + kind2 s) := by
  have := fold_sum (fun t => t.f3 + t.f4) (fun s => kind1 s + kind2 s) (fun t s => by simp only [talStep, kind1, kind2]; (repeat' split) <;> omega) (g.filter fun s => decide (s.f4 = h)) (tal0 h)
  simpa [tal0, talOf] using this
theorem tal_d (g : List S37) (h : ByteArray) (hd : ∀ s ∈ g, 0 ≤ s.f7 ∧ s.f7 ≤ 1125899906842624) (hl : g.length ≤ 1000) : (talOf g h).f2 = sumL ((g.filter fun s => decide (s.f4 = h)).map fun s => s.f7) := by
  have hle := List.length_filter_le (fun s : S37 => decide (s.f4 = h)) g
  have := fold_dur (g.filter fun s => decide (s.f4 = h)) (tal0 h) (fun s hs => hd s (List.mem_filter.1 hs).1) (by simp [tal0]) (by simp only [tal0]; omega)
  simpa [tal0, talOf] using this
theorem sum_ones {α : Type} (g : List α) : sumL (g.map fun _ => (1 : Int)) = g.length := by
  induction g with
  | nil => rfl
  | cons s g ih => rw [List.map_cons, sumL_cons, ih, List.length_cons]; omega
/-- All tallies together. -/
theorem tals_sum (l : List S37) (hl : l.length ≤ 1000) :
    sumL ((talsL l).map (·.f1)) = (goodL l).length ∧ sumL ((talsL l).map (·.f2)) = sumL ((goodL l).map fun s => s.f7) ∧ sumL ((talsL l).map fun t => t.f3 + t.f4) = sumL ((goodL l).map fun s => kind1 s + kind2 s) := by
  have hm : ∀ s ∈ goodL l, s.f4 ∈ hostsB (goodL l) := fun s hs => (hostsB_mem _ _).2 ⟨s, hs, rfl⟩
  have nd := hostsB_nodup (goodL l)
  have hg := goodL_length l
  have hd : ∀ s ∈ goodL l, 0 ≤ s.f7 ∧ s.f7 ≤ 1125899906842624 := fun s hs => ⟨(mayB_le (goodL_mem hs).2).2.2.1, (mayB_le (goodL_mem hs).2).2.2.2⟩
  unfold talsL
  simp only [List.map_map]
  refine ⟨?_, ?_, ?_⟩
  · rw [← sum_ones (goodL l), ← sum_hosts (fun _ => 1) nd (goodL l) hm]
    congr 1
    exact List.map_congr_left (fun h _ => tal_n _ h)
  · rw [← sum_hosts (fun s => s.f7) nd (goodL l) hm]
    congr 1
    exact List.map_congr_left (fun h _ => tal_d _ h hd (by omega))
  · rw [← sum_hosts (fun s => kind1 s + kind2 s) nd (goodL l) hm]
    congr 1
    exact List.map_congr_left (fun h _ => tal_calls _ h)
/-- A host that is there has a span. -/
theorem tal_pos {l : List S37} {t : Tal} (ht : t ∈ talsL l) : 1 ≤ t.f1 := by
  obtain ⟨h, hh, rfl⟩ := List.mem_map.1 ht
  obtain ⟨x, hx, e⟩ := (hostsB_mem _ _).1 hh
  rw [tal_n, sum_ones]
  have : x ∈ (goodL l).filter fun s => decide (s.f4 = h) := List.mem_filter.2 ⟨hx, by simpa using e⟩
  have := List.length_pos_of_mem this
  omega
theorem tals_in {l : List S37} {t : Tal} (ht : t ∈ talsL l) : TalIn (goodL l).length t := by
  obtain ⟨h, _, rfl⟩ := List.mem_map.1 ht
  exact talOf_in _ h goodL_dur
theorem tals_length (l : List S37) : (talsL l).length ≤ l.length := by
  unfold talsL
  rw [List.length_map]
  exact Nat.le_trans (hostsB_length _) (goodL_length l)
theorem tals_rise (l : List S37) : (talsL l).Pairwise fun a b => cmpB a.f0 b.f0 < 0 := by
  unfold talsL
  rw [List.pairwise_map]
  refine (hostsB_rise (goodL l)).imp (fun {a b} h => ?_)
  rw [talOf_host, talOf_host]
  exact h
/-- One span alone. -/
theorem tals_one (s : S37) : (talsL [s] = []) ↔ mayS s = false := by
  have h1 : talsL [s] = [] ↔ goodL [s] = [] := by
    unfold talsL
    rw [List.map_eq_nil_iff]
    constructor
    · intro h
      cases hg : goodL [s] with
      | nil => rfl
      | cons x r =>
        have := (hostsB_mem (goodL [s]) x.f4).2 ⟨x, by rw [hg]; simp, rfl⟩
        rw [h] at this
        cases this
    · intro h
      cases hb : hostsB (goodL [s]) with
      | nil => rfl
      | cons x r =>
        obtain ⟨y, hy, _⟩ := (hostsB_mem (goodL [s]) x).1 (by rw [hb]; simp)
        rw [h] at hy
        cases hy
  rw [h1]
  unfold goodL
  by_cases h : mayS s = true
  · simp [h]
  · simp [h]
end Go.Proofs.Ytmfdhcgdibefiaa.L

/- The places whose parent a place is: plain. -/
namespace Go.Proofs.Ytmfdhcgdibefiaa.L
open Go.RowKit Go.Proofs.YtmfdhcgdibefiaaW.PrintWords Go.Proofs.YtmfdhcgdibefiaaW.Lib
set_option linter.unusedVariables false

/-- Those of the first k places whose parent a place is. -/
def kidsL (ps : List Int) (x : Int) : Nat → List Int
  | 0 => []
  | k + 1 => if rd ps (k : Int) = x then kidsL ps x k ++ [(k : Int)] else kidsL ps x k
theorem kidsL_len (ps : List Int) (x : Int) : ∀ k, (kidsL ps x k).length ≤ k
  | 0 => Nat.le_refl _
  | k + 1 => by
    have := kidsL_len ps x k
    unfold kidsL
    split
    · rw [List.length_append, List.length_singleton]; omega
    · omega
theorem kidsL_mem (ps : List Int) (x y : Int) : ∀ k, y ∈ kidsL ps x k ↔ 0 ≤ y ∧ y < k ∧ rd ps y = x
  | 0 => by simp only [kidsL, List.not_mem_nil, false_iff]; omega
  | k + 1 => by
    have ih := kidsL_mem ps x y k
    unfold kidsL
    split
    · rename_i c
      rw [List.mem_append, List.mem_singleton, ih]
      constructor
      · rintro (h | h)
        · exact ⟨h.1, by omega, h.2.2⟩
        · rw [h]; exact ⟨by omega, by omega, c⟩
      · rintro ⟨h0, h1, h2⟩
        by_cases e : y = (k : Int)
        · exact .inr e
        · exact .inl ⟨h0, by omega, h2⟩
    · rename_i c
      rw [ih]
      constructor
      · rintro h
        exact ⟨h.1, by omega, h.2.2⟩
      · rintro ⟨h0, h1, h2⟩
        refine ⟨h0, ?_, h2⟩
        by_cases e : y = (k : Int)
        · rw [e] at h2; exact absurd h2 c
        · omega
end Go.Proofs.Ytmfdhcgdibefiaa.L

/- forest.Kids: plain. -/
namespace Go.Proofs.Ytmfdhcgdibefiaa.L
open Go.RowKit Go.Proofs.Ytmfdhcgdibefiaa.Q Go.Proofs.YtmfdhcgdibefiaaW.PrintWords Go.Proofs.YtmfdhcgdibefiaaW.Lib
set_option linter.unusedVariables false

theorem kids_ev (ps : List Int) (x : Int) (hl : ps.length ≤ 1000000) : Ev (fun k => forest_Kids.f k ps x) (kidsL ps x ps.length) := by
  unfold forest_Kids.f
  have key : ∀ (d i : Nat), ps.length - i = d → i ≤ ps.length → Ev (fun k => forest_Kids.l0 k x (kidsL ps x i) ps (ps.length : Int) (i : Int)) (kidsL ps x ps.length) := by
    intro d
    induction d with
    | zero =>
      intro i hd hi
      obtain rfl : i = ps.length := by omega
      refine Ev.succ ?_
      simp only [forest_Kids.l0]
      exact Ev.neg (by omega) (Ev.now _)
    | succ d ih =>
      intro i hd hi
      have hn := ih (i + 1) (by omega) (by omega)
      have hk := kidsL_len ps x i
      rw [show kidsL ps x (i + 1) = if rd ps (i : Int) = x then kidsL ps x i ++ [(i : Int)] else kidsL ps x i from rfl] at hn
      refine Ev.succ ?_
      simp only [forest_Kids.l0]
      rw [wrap_id (by omega) (by omega)]
      refine Ev.pos (by omega) (Ev.pos (by omega) (Ev.pos (by omega) (Ev.ite (fun c => Ev.pos (by omega) ?_) (fun c => ?_))))
      · rw [if_pos c] at hn
        exact hn
      · rw [if_neg c] at hn
        exact hn
  exact key ps.length 0 (by omega) (by omega)
end Go.Proofs.Ytmfdhcgdibefiaa.L

/- The document's May of many spans, plain. -/
namespace Go.Proofs.Ytmfdhcgdibefiaa.L
open Go.RowKit Go.Proofs.Ytmfdhcgdibefiaa.Q Go.Proofs.YtmfdhcgdibefiaaW.PrintWords Go.Proofs.YtmfdhcgdibefiaaW.PrintLast Go.Proofs.YtmfdhcgdibefiaaW.PrintMore Go.Proofs.YtmfdhcgdibefiaaW.Lib
set_option linter.unusedVariables false
end Go.Proofs.Ytmfdhcgdibefiaa.L

/- The document's Same of whole numbers, plain. -/
namespace Go.Proofs.Ytmfdhcgdibefiaa.L
open Go.RowKit Go.Proofs.Ytmfdhcgdibefiaa.Q Go.Proofs.YtmfdhcgdibefiaaW.PrintWords Go.Proofs.YtmfdhcgdibefiaaW.PrintLast Go.Proofs.YtmfdhcgdibefiaaW.PrintMore Go.Proofs.YtmfdhcgdibefiaaW.Lib
set_option linter.unusedVariables false

theorem same15_ev (a b : List Int) (ha : a.length ≤ 1000000000) : ∃ r, Ev (fun k => merkhetref15_Same.f k a b) r ∧ (r = true ↔ a = b) := by
  unfold merkhetref15_Same.f
  by_cases h : (a.length : Int) = (b.length : Int)
  · have key : ∀ (d i : Nat), a.length - i = d → i ≤ a.length → ∃ r, Ev (fun k => merkhetref15_Same.l0 k a b (i : Int)) r ∧ (r = true ↔ a.drop i = b.drop i) := by
      intro d
      induction d with
      | zero =>
        intro i hd hi
        refine ⟨true, Ev.succ ?_, ?_⟩
        · simp only [merkhetref15_Same.l0]
          exact Ev.neg (by omega) (Ev.now _)
        · rw [List.drop_of_length_le (by omega), List.drop_of_length_le (by omega)]
          simp
      | succ d ih =>
        intro i hd hi
        have hil : i < a.length := by omega
        have hib : i < b.length := by omega
        have hr : rd a (i : Int) = a[i] := by simp [rd, List.getD, hil]
        have hr2 : rd b (i : Int) = b[i] := by simp [rd, List.getD, hib]
        obtain ⟨r, h1, h2⟩ := ih (i + 1) (by omega) (by omega)
        have ea := List.drop_eq_getElem_cons hil
        have eb := List.drop_eq_getElem_cons hib
        by_cases e : a[i] = b[i]
        · refine ⟨r, Ev.succ ?_, ?_⟩
          · simp only [merkhetref15_Same.l0, hr, hr2]
            refine Ev.pos (by omega) (Ev.pos (by omega) (Ev.pos (by omega) (Ev.pos e ?_)))
            rw [wrap_id (by omega) (by omega)]
            exact h1
          · rw [h2, ea, eb, List.cons.injEq]
            exact ⟨fun h => ⟨e, h⟩, fun h => h.2⟩
        · refine ⟨false, Ev.succ ?_, ?_⟩
          · simp only [merkhetref15_Same.l0, hr, hr2]
            exact Ev.pos (by omega) (Ev.pos (by omega) (Ev.pos (by omega) (Ev.neg e (Ev.now _))))
          · rw [ea, eb, List.cons.injEq]
            exact ⟨fun h => absurd h (by simp), fun h => absurd h.1 e⟩
    obtain ⟨r, h1, h2⟩ := key a.length 0 (by omega) (by omega)
    exact ⟨r, Ev.pos h h1, by simpa using h2⟩
  · refine ⟨false, Ev.neg h (Ev.now _), ⟨by simp, ?_⟩⟩
    rintro rfl
    exact absurd rfl h
theorem same15_self (a : List Int) (ha : a.length ≤ 1000000000) : Ev (fun k => merkhetref15_Same.f k a a) true := by
  obtain ⟨r, h1, h2⟩ := same15_ev a a ha
  exact Ev.cast h1 (h2.2 rfl)
end Go.Proofs.Ytmfdhcgdibefiaa.L

-- Written by wip/tools/gp.py, a program of this session round the kit's printer. Lean checks it.
namespace Go.Proofs.Ytmfdhcgdibefiaa.R
open Go.RowKit Go.Proofs.Ytmfdhcgdibefiaa.Q Go.Proofs.YtmfdhcgdibefiaaW.PrintWords Go.Proofs.YtmfdhcgdibefiaaW.PrintLast Go.Proofs.YtmfdhcgdibefiaaW.PrintMore
attribute [local go_sem] max2_int min2_int max_two min_two max_three min_three max_four min_four   -- for this text's walks alone
set_option linter.unusedVariables false
set_option linter.unusedSimpArgs false
end Go.Proofs.Ytmfdhcgdibefiaa.R

-- Written by wip/tools/gp.py, a program of this session round the kit's printer. Lean checks it.
namespace Go.Proofs.Ytmfdhcgdibefiaa.R
open Go.RowKit Go.Proofs.Ytmfdhcgdibefiaa.Q Go.Proofs.YtmfdhcgdibefiaaW.PrintWords Go.Proofs.YtmfdhcgdibefiaaW.PrintLast Go.Proofs.YtmfdhcgdibefiaaW.PrintMore
attribute [local go_sem] max2_int min2_int max_two min_two max_three min_three max_four min_four   -- for this text's walks alone
set_option linter.unusedVariables false
set_option linter.unusedSimpArgs false
end Go.Proofs.Ytmfdhcgdibefiaa.R

/- Spans' own times, plain: the code's, and the document's. -/
namespace Go.Proofs.Ytmfdhcgdibefiaa.L
open Go.RowKit Go.Proofs.Ytmfdhcgdibefiaa.Q Go.Proofs.Ytmfdhcgdibefiaa.R Go.Proofs.YtmfdhcgdibefiaaW.PrintWords Go.Proofs.YtmfdhcgdibefiaaW.PrintLast Go.Proofs.YtmfdhcgdibefiaaW.PrintMore Go.Proofs.YtmfdhcgdibefiaaW.Lib
set_option linter.unusedVariables false

abbrev SpD := S37
abbrev StD := S26
def prS (s : StD) : Int × Int := (s.f0, s.f1)
/-- A kid's stretch within its parent's. -/
def kidS (l : List SpD) (i k : Int) : StD := ⟨mx (rd_T37 l k).f6 (rd_T37 l i).f6, mn (wrap64 ((rd_T37 l k).f6 + (rd_T37 l k).f7)) (wrap64 ((rd_T37 l i).f6 + (rd_T37 l i).f7))⟩
def kidsP (l : List SpD) (ps : List Int) (i : Int) : List StD := (kidsL ps i ps.length).map (kidS l i)
def ownAt (l : List SpD) (ps : List Int) (i : Int) : Int := wrap64 ((rd_T37 l i).f7 - wrap64 (coverN ((kidsP l ps i).map prS) : Int))
def ownR (l : List SpD) (ps : List Int) : List Int := (List.range l.length).map (fun i : Nat => ownAt l ps i)
def ownL (l : List SpD) (ps : List Int) : List Int × Bool := if l.length = ps.length ∧ rightB ps = true ∧ mayA l = true then (ownR l ps, true) else ([], false)
theorem ownR_len (l : List SpD) (ps : List Int) : (ownR l ps).length = l.length := by simp [ownR]
theorem ownR_next (l : List SpD) (ps : List Int) (i : Nat) (hi : i < l.length) : (ownR l ps).take (i + 1) = (ownR l ps).take i ++ [ownAt l ps i] := by
  rw [List.take_succ_eq_append_getElem (by rw [ownR_len]; exact hi)]
  simp [ownR]
theorem ownL_no {l : List SpD} {ps : List Int} (h : ¬ (l.length = ps.length ∧ rightB ps = true ∧ mayA l = true)) : ownL l ps = ([], false) := by unfold ownL; rw [if_neg h]
theorem not_anyM (l : List SpD) : l.any (fun s => !mayS s) = !mayA l := by
  unfold mayA
  induction l with
  | nil => rfl
  | cons x l ih => rw [List.any_cons, List.all_cons, ih, Bool.not_and]
theorem mayA_at {l : List SpD} (h : mayA l = true) {i : Int} (h0 : 0 ≤ i) (h1 : i < l.length) : 0 ≤ (rd_T37 l i).f6 ∧ (rd_T37 l i).f6 < 1125899906842624 ∧ 0 ≤ (rd_T37 l i).f7 ∧ (rd_T37 l i).f7 ≤ 1125899906842624 := by
  have hx : i.toNat < l.length := by omega
  have e : rd_T37 l i = l[i.toNat] := by simp [rd_T37, List.getD, hx]
  rw [e]
  exact mayB_le (List.all_eq_true.1 h _ (List.getElem_mem hx))
theorem kidS_in {l : List SpD} (h : mayA l = true) {i k : Int} (h0 : 0 ≤ i) (h1 : i < l.length) (h2 : 0 ≤ k) (h3 : k < l.length) : inI ((kidS l i k).f0, (kidS l i k).f1) ∧ (rd_T37 l i).f6 ≤ (kidS l i k).f0 ∧ (kidS l i k).f1 ≤ (rd_T37 l i).f6 + (rd_T37 l i).f7 := by
  have a := mayA_at h h0 h1
  have b := mayA_at h h2 h3
  unfold kidS inI loI hiI mx mn
  dsimp only
  rw [wrap_id (by omega) (by omega), wrap_id (by omega) (by omega)]
  split <;> split <;> omega
theorem kidsP_mem {l : List SpD} (h : mayA l = true) {ps : List Int} (hl : l.length = ps.length) {i : Int} (h0 : 0 ≤ i) (h1 : i < l.length) : ∀ s ∈ kidsP l ps i, inI (s.f0, s.f1) ∧ (rd_T37 l i).f6 ≤ s.f0 ∧ s.f1 ≤ (rd_T37 l i).f6 + (rd_T37 l i).f7 := by
  intro s hs
  obtain ⟨k, hk, rfl⟩ := List.mem_map.1 hs
  obtain ⟨k0, k1, _⟩ := (kidsL_mem ps i k ps.length).1 hk
  exact kidS_in h h0 h1 k0 (by omega)
set_option maxHeartbeats 1000000 in
theorem own_ev (l : List SpD) (ps : List Int) (hl : l.length ≤ 1000000) (hps : ps.length ≤ 1000000) (hf : ∀ s ∈ l, fitS s) : Ev (fun k => stats_Own.f k l ps) (ownL l ps) := by
  unfold stats_Own.f
  have skip : ownL l ps = ([], false) → Ev (fun k => stats_Own.j0 k l ps true) (ownL l ps) := by
    intro h
    rw [h]
    refine Ev.succ ?_
    simp only [stats_Own.j0]
    exact Ev.pos trivial (Ev.now _)
  refine Ev.ite (fun he => ?_) (fun he => skip (ownL_no (fun h => he (by omega))))
  refine Ev.bind (a := rightB ps) (Ev.const (by unfold parent_Right.f; rw [if_pos hps])) (Ev.ite (fun hr => ?_) (fun hr => skip (ownL_no (fun h => hr h.2.1))))
  refine Ev.bind (a := !mayA l) (Ev.const (by unfold stats_Own_1.f; rw [if_pos ⟨by omega, hf⟩, not_anyM])) ?_
  cases hm : mayA l with
  | false => exact skip (ownL_no (fun h => by rw [hm] at h; exact absurd h.2.2 (by simp)))
  | true =>
    have hlen : l.length = ps.length := by omega
    have hres : ownL l ps = (ownR l ps, true) := by unfold ownL; rw [if_pos ⟨hlen, hr, hm⟩]
    rw [hres]
    refine Ev.succ ?_
    simp only [stats_Own.j0, Bool.not_true]
    refine Ev.neg (by simp) ?_
    have outer : ∀ (d i : Nat), l.length - i = d → i ≤ l.length → Ev (fun k => stats_Own.l0 k l ps ((ownR l ps).take i) l (l.length : Int) (i : Int)) (ownR l ps, true) := by
      intro d
      induction d with
      | zero =>
        intro i hd hi
        refine Ev.succ ?_
        simp only [stats_Own.l0]
        refine Ev.neg (by omega) (Ev.cast (Ev.now _) ?_)
        rw [List.take_of_length_le (by rw [ownR_len]; omega)]
      | succ d ih =>
        intro i hd hi
        have hlt : i < l.length := by omega
        have hn := ih (i + 1) (by omega) (by omega)
        rw [ownR_next l ps i hlt] at hn
        have htl : ((ownR l ps).take i).length ≤ l.length := by rw [List.length_take, ownR_len]; omega
        have hkl := kidsL_len ps (i : Int) ps.length
        have hpl : (kidsP l ps (i : Int)).length = (kidsL ps (i : Int) ps.length).length := by simp [kidsP]
        have hkm := kidsP_mem hm hlen (i := (i : Int)) (by omega) (by omega)
        generalize hsp : rd_T37 l (i : Int) = s at *
        have inner : ∀ (e j : Nat), (kidsL ps (i : Int) ps.length).length - j = e → j ≤ (kidsL ps (i : Int) ps.length).length → Ev (fun k => stats_Own.l1 k l ps ((ownR l ps).take i) ((kidsP l ps (i : Int)).take j) l (l.length : Int) (i : Int) (kidsL ps (i : Int) ps.length) ((kidsL ps (i : Int) ps.length).length : Int) (j : Int) s.f0 s.f1 s.f2 s.f3 s.f4 s.f5 s.f6 s.f7) (ownR l ps, true) := by
          intro e
          induction e with
          | zero =>
            intro j hj1 hj2
            refine Ev.succ ?_
            simp only [stats_Own.l1]
            refine Ev.neg (by omega) ?_
            rw [List.take_of_length_le (show (kidsP l ps (i : Int)).length ≤ j by omega)]
            refine Ev.bind (a := (coverN ((kidsP l ps (i : Int)).map prS) : Int)) (Ev.const (by unfold stats_Cover.f; rw [if_pos ⟨by omega, fun t ht => (hkm t ht).1⟩]; rfl)) (Ev.pos (by omega) ?_)
            rw [wrap_id (i := (i : Int) + 1) (by omega) (by omega)]
            have hoa : ownAt l ps (i : Int) = wrap64 (s.f7 - wrap64 (coverN ((kidsP l ps (i : Int)).map prS) : Int)) := by unfold ownAt; rw [hsp]
            rw [← hoa]
            exact hn
          | succ e ihe =>
            intro j hj1 hj2
            have hjl : j < (kidsL ps (i : Int) ps.length).length := by omega
            have hn2 := ihe (j + 1) (by omega) (by omega)
            have hr2 : rd (kidsL ps (i : Int) ps.length) (j : Int) = (kidsL ps (i : Int) ps.length)[j] := by simp [rd, List.getD, hjl]
            obtain ⟨k0, k1, _⟩ := (kidsL_mem ps (i : Int) _ ps.length).1 (List.getElem_mem hjl)
            have htk : (kidsP l ps (i : Int)).take (j + 1) = (kidsP l ps (i : Int)).take j ++ [kidS l (i : Int) (kidsL ps (i : Int) ps.length)[j]] := by
              rw [List.take_succ_eq_append_getElem (by omega)]
              simp [kidsP]
            have hks : kidS l (i : Int) (kidsL ps (i : Int) ps.length)[j] = ⟨mx (rd_T37 l (kidsL ps (i : Int) ps.length)[j]).f6 s.f6, mn (wrap64 ((rd_T37 l (kidsL ps (i : Int) ps.length)[j]).f6 + (rd_T37 l (kidsL ps (i : Int) ps.length)[j]).f7)) (wrap64 (s.f6 + s.f7))⟩ := by unfold kidS; rw [hsp]
            rw [htk, hks] at hn2
            have hl9 : ((kidsP l ps (i : Int)).take j).length ≤ ps.length := by rw [List.length_take]; omega
            refine Ev.succ ?_
            simp only [stats_Own.l1, hr2]
            refine Ev.pos (by omega) (Ev.pos (by omega) (Ev.pos (by omega) (Ev.pos k0 (Ev.pos (by omega) (Ev.pos (by omega) ?_)))))
            rw [wrap_id (i := (j : Int) + 1) (by omega) (by omega)]
            exact hn2
        refine Ev.succ ?_
        simp only [stats_Own.l0, hsp]
        exact Ev.pos (by omega) (Ev.pos (by omega) (Ev.pos (by omega) (Ev.bind (kids_ev ps (i : Int) hps) (inner _ 0 rfl (by omega)))))
    exact outer l.length 0 (by omega) (by omega)
end Go.Proofs.Ytmfdhcgdibefiaa.L

/- Spans' rows, read at a place. -/
namespace Go.Proofs.Ytmfdhcgdibefiaa.L
open Go.RowKit Go.Proofs.Ytmfdhcgdibefiaa.Q Go.Proofs.YtmfdhcgdibefiaaW.PrintWords
set_option linter.unusedVariables false

abbrev Span := S37
theorem rdS_nat (l : List Span) (i : Nat) (h : i < l.length) : rd_T37 l (i : Int) = l[i] := by simp [rd_T37, List.getD, h]
end Go.Proofs.Ytmfdhcgdibefiaa.L

/- The guard of layer 4, as plain lists. -/
namespace Go.Proofs.Ytmfdhcgdibefiaa.L
open Go.RowKit Go.Proofs.Ytmfdhcgdibefiaa.Q Go.Proofs.YtmfdhcgdibefiaaW.PrintWords Go.Proofs.YtmfdhcgdibefiaaW.PrintLast Go.Proofs.YtmfdhcgdibefiaaW.PrintMore Go.Proofs.YtmfdhcgdibefiaaW.Lib
set_option linter.unusedVariables false

theorem great_ev (l : List Span) : ∃ b, Ev (fun k => merkhetlaw04_Great.f k l) b ∧ (b = false → l.length ≤ 60 ∧ ∀ x ∈ l, x.f4.size ≤ 100 ∧ x.f5.size ≤ 100) := by
  unfold merkhetlaw04_Great.f
  by_cases h : (l.length : Int) > 60
  · exact ⟨true, Ev.pos h (Ev.now _), by simp⟩
  · have key : ∀ (d i : Nat), l.length - i = d → i ≤ l.length → ∃ b, Ev (fun k => merkhetlaw04_Great.l0 k l (l.length : Int) (i : Int)) b ∧ (b = false → ∀ x ∈ l.drop i, x.f4.size ≤ 100 ∧ x.f5.size ≤ 100) := by
      intro d
      induction d with
      | zero =>
        intro i hd hi
        refine ⟨false, Ev.succ ?_, fun _ x hx => ?_⟩
        · simp only [merkhetlaw04_Great.l0]
          exact Ev.neg (by omega) (Ev.now _)
        · rw [List.drop_of_length_le (by omega)] at hx; cases hx
      | succ d ih =>
        intro i hd hi
        have hil : i < l.length := by omega
        obtain ⟨b, hb, hb2⟩ := ih (i + 1) (by omega) (by omega)
        by_cases h4 : ((l[i].f4.size : Nat) : Int) > 100
        · refine ⟨true, Ev.succ ?_, by simp⟩
          simp only [merkhetlaw04_Great.l0, rdS_nat l i hil]
          exact Ev.pos (by omega) (Ev.pos (by omega) (Ev.pos (by omega) (Ev.pos h4 (Ev.now _))))
        · by_cases h5 : ((l[i].f5.size : Nat) : Int) > 100
          · refine ⟨true, Ev.succ ?_, by simp⟩
            simp only [merkhetlaw04_Great.l0, rdS_nat l i hil]
            exact Ev.pos (by omega) (Ev.pos (by omega) (Ev.pos (by omega) (Ev.neg h4 (Ev.pos h5 (Ev.now _)))))
          · refine ⟨b, Ev.succ ?_, fun e x hx => ?_⟩
            · simp only [merkhetlaw04_Great.l0, rdS_nat l i hil]
              refine Ev.pos (by omega) (Ev.pos (by omega) (Ev.pos (by omega) (Ev.neg h4 (Ev.neg h5 ?_))))
              rw [wrap_id (by omega) (by omega)]
              exact hb
            · rw [List.drop_eq_getElem_cons hil] at hx
              rcases List.mem_cons.1 hx with rfl | hx
              · omega
              · exact hb2 e x hx
    obtain ⟨b, hb, hb2⟩ := key l.length 0 (by omega) (by omega)
    refine ⟨b, Ev.neg h hb, fun e => ⟨by omega, fun x hx => hb2 e x (by simpa using hx)⟩⟩

end Go.Proofs.Ytmfdhcgdibefiaa.L

/- The document's own times, plain; the chapter's example. -/
namespace Go.Proofs.Ytmfdhcgdibefiaa.L
open Go.RowKit Go.Proofs.Ytmfdhcgdibefiaa.Q Go.Proofs.Ytmfdhcgdibefiaa.R Go.Proofs.YtmfdhcgdibefiaaW.PrintWords Go.Proofs.YtmfdhcgdibefiaaW.PrintLast Go.Proofs.YtmfdhcgdibefiaaW.PrintMore Go.Proofs.YtmfdhcgdibefiaaW.Lib
set_option linter.unusedVariables false
def exO : List SpD := [⟨1, 1, 0, 0, ⟨#[97]⟩, ⟨#[98]⟩, 0, 10⟩, ⟨1, 2, 0, 0, ⟨#[97]⟩, ⟨#[98]⟩, 2, 2⟩, ⟨1, 3, 0, 0, ⟨#[97]⟩, ⟨#[98]⟩, 3, 9⟩]
theorem cover_ex {l : List (Int × Int)} (hi : ∀ s ∈ l, inI s) (hp : l.Pairwise (fun a b => a.1 ≤ b.1)) {n : Int} (h : (l.foldl covStep (0, loI)).1 = n) : (coverN l : Int) = n := (fold_cover hi hp).symm.trans h
theorem exO_own : ownL exO [-1, 0, 0] = ([2, 2, 9], true) := by
  unfold ownL
  rw [if_pos ⟨rfl, by decide, by decide⟩]
  have k0 : (kidsP exO [-1, 0, 0] 0).map prS = [(2, 4), (3, 10)] := by kernel_rfl
  have k1 : (kidsP exO [-1, 0, 0] 1).map prS = [] := by kernel_rfl
  have k2 : (kidsP exO [-1, 0, 0] 2).map prS = [] := by kernel_rfl
  have c0 : (coverN [(2, 4), (3, 10)] : Int) = 8 := cover_ex (by decide) (by decide) (by decide)
  have c1 : (coverN [] : Int) = 0 := cover_ex (by decide) (by decide) (by decide)
  have e : ownR exO [-1, 0, 0] = [ownAt exO [-1, 0, 0] 0, ownAt exO [-1, 0, 0] 1, ownAt exO [-1, 0, 0] 2] := rfl
  rw [e]
  unfold ownAt
  rw [k0, k1, k2, c0, c1, show (rd_T37 exO 0).f7 = 10 from rfl, show (rd_T37 exO 1).f7 = 2 from rfl, show (rd_T37 exO 2).f7 = 9 from rfl]
  rw [show wrap64 (10 - wrap64 8) = 2 by unfold wrap64; omega, show wrap64 (2 - wrap64 0) = 2 by unfold wrap64; omega, show wrap64 (9 - wrap64 0) = 9 by unfold wrap64; omega]
theorem fixed27 : Ev (fun k => merkhetlaw27_fixed.f k) true := by
  unfold merkhetlaw27_fixed.f merkhetlaw27_fixed_1.f
  refine Ev.bind (Ev.now _) (Ev.bind (Ev.now _) (Ev.bind (Ev.now _) ?_))
  refine Ev.bind (a := ownL exO [-1, 0, 0]) (own_ev exO [-1, 0, 0] (by decide) (by decide) (by decide)) ?_
  rw [exO_own]
  have c : (coverN [(1, 5), (3, 8)] : Int) = 7 := cover_ex (by decide) (by decide) (by decide)
  refine Ev.bind (a := 7) (Ev.const (by unfold stats_Cover.f; rw [if_pos ⟨by decide, by decide⟩]; exact congrArg some c)) (Ev.pos rfl (Ev.pos rfl (Ev.bind (same15_self _ (by decide)) (Ev.now _))))
end Go.Proofs.Ytmfdhcgdibefiaa.L

