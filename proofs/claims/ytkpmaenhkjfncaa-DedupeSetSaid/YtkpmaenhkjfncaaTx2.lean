-- Written by wip/tools/gp.py, a program of this session round the kit's printer. Lean checks it.
import Derived.Test.YtkpmaenhkjfncaaSetS
import Derived.Test.YtkpmaenhkjfncaaTx0
import Derived.Test.YtkpmaenhkjfncaaTx1
import Derived.Test.YtkpmaenhkjfncaaQx6
import Derived.Test.YtkpmaenhkjfncaaQx7
namespace Go.Proofs.Ytkpmaenhkjfncaa.T
open Go.RowKit Go.Proofs.Ytkpmaenhkjfncaa.Q Go.Proofs.YtkpmaenhkjfncaaW.PrintWords Go.Proofs.YtkpmaenhkjfncaaW.PrintLast Go.Proofs.YtkpmaenhkjfncaaW.PrintMore
attribute [local go_sem] max2_int min2_int max_two min_two max_three min_three max_four min_four   -- for this text's walks alone
set_option linter.unusedVariables false
set_option linter.unusedSimpArgs false

/-! ### merkhetlaw09_DedupeSet: function 10 -/
mutual
def merkhetlaw09_DedupeSet.j0 : Nat → List (S27) → Int → List Int → Bool → Option (Bool)
  | 0, _, _, _, _ => none
  | k + 1, x0, x1, x2, x19 => if x19 = true then ((merkhetlaw09_fixed.f).bind fun t109 => (some t109)) else ((some (([] : List (S27)) : List (S27))).bind fun y110 => (if y110.length + x0.length < 1759218604441 then (merkhetlaw09_DedupeSet.l0 k x0 x1 (y110 ++ x0) x2 (x2.length : Int) 0) else (none)))
def merkhetlaw09_DedupeSet.j2 : Nat → List (S27) → Int → List (S27) → Option (Bool)
  | 0, _, _, _ => none
  | k + 1, x0, x1, x7 => (dedupe_Of.f x0 x1).bind fun t125 => ((merkhetlaw09_fixed.f).bind fun t128 => (if t128 = true then ((dedupe_Of.f x7 x1).bind fun t129 => ((merkhetref01_Same.f k t125 t129).bind fun t132 => (if t132 = true then ((dedupe_Of.f t125 x1).bind fun t133 => ((merkhetref01_Same.f k t125 t133).bind fun t136 => (some t136))) else (some false)))) else (some false)))
def merkhetlaw09_DedupeSet.l0 : Nat → List (S27) → Int → List (S27) → List Int → Int → Int → Option (Bool)
  | 0, _, _, _, _, _, _ => none
  | k + 1, x0, x1, x7, x24, x25, x26 => if x26 < x25 then (if 0 ≤ x26 then (if x26 < (x24.length : Int) then (if (x0.length : Int) = 0 then (merkhetlaw09_DedupeSet.j2 k x0 x1 x7) else (if 0 ≤ (Int.tmod (wrap64 (rd x24 x26)) (x0.length : Int)) then (if (Int.tmod (wrap64 (rd x24 x26)) (x0.length : Int)) < (x7.length : Int) then (if 0 ≤ (Int.tmod x26 (x0.length : Int)) then (if (Int.tmod x26 (x0.length : Int)) < (x7.length : Int) then ((some ((x7.set ((Int.tmod x26 (x0.length : Int)) : Int).toNat (⟨(rd_T27 x7 (Int.tmod (wrap64 (rd x24 x26)) (x0.length : Int))).f0, (rd_T27 x7 (Int.tmod (wrap64 (rd x24 x26)) (x0.length : Int))).f1, (rd_T27 x7 (Int.tmod (wrap64 (rd x24 x26)) (x0.length : Int))).f2, (rd_T27 x7 (Int.tmod (wrap64 (rd x24 x26)) (x0.length : Int))).f3, (rd_T27 x7 (Int.tmod (wrap64 (rd x24 x26)) (x0.length : Int))).f4, (rd_T27 x7 (Int.tmod (wrap64 (rd x24 x26)) (x0.length : Int))).f5, (rd_T27 x7 (Int.tmod (wrap64 (rd x24 x26)) (x0.length : Int))).f6, (rd_T27 x7 (Int.tmod (wrap64 (rd x24 x26)) (x0.length : Int))).f7⟩ : S27)).set ((Int.tmod (wrap64 (rd x24 x26)) (x0.length : Int)) : Int).toNat (⟨(rd_T27 x7 (Int.tmod x26 (x0.length : Int))).f0, (rd_T27 x7 (Int.tmod x26 (x0.length : Int))).f1, (rd_T27 x7 (Int.tmod x26 (x0.length : Int))).f2, (rd_T27 x7 (Int.tmod x26 (x0.length : Int))).f3, (rd_T27 x7 (Int.tmod x26 (x0.length : Int))).f4, (rd_T27 x7 (Int.tmod x26 (x0.length : Int))).f5, (rd_T27 x7 (Int.tmod x26 (x0.length : Int))).f6, (rd_T27 x7 (Int.tmod x26 (x0.length : Int))).f7⟩ : S27) : List (S27))).bind fun y120 => (if (Int.tmod (wrap64 (rd x24 x26)) (x0.length : Int)) < (x0.length : Int) then (if y120.length < 1759218604441 then (merkhetlaw09_DedupeSet.l0 k x0 x1 (y120 ++ [(⟨(rd_T27 x0 (Int.tmod (wrap64 (rd x24 x26)) (x0.length : Int))).f0, (rd_T27 x0 (Int.tmod (wrap64 (rd x24 x26)) (x0.length : Int))).f1, (rd_T27 x0 (Int.tmod (wrap64 (rd x24 x26)) (x0.length : Int))).f2, (rd_T27 x0 (Int.tmod (wrap64 (rd x24 x26)) (x0.length : Int))).f3, (rd_T27 x0 (Int.tmod (wrap64 (rd x24 x26)) (x0.length : Int))).f4, (rd_T27 x0 (Int.tmod (wrap64 (rd x24 x26)) (x0.length : Int))).f5, (rd_T27 x0 (Int.tmod (wrap64 (rd x24 x26)) (x0.length : Int))).f6, (rd_T27 x0 (Int.tmod (wrap64 (rd x24 x26)) (x0.length : Int))).f7⟩ : S27)]) x24 x25 (wrap64 (x26 + 1))) else (none)) else (none))) else (none)) else (none)) else (none)) else (none))) else (none)) else (none)) else (merkhetlaw09_DedupeSet.j2 k x0 x1 x7)
end
def merkhetlaw09_DedupeSet.f (k : Nat) (l0 : List (S27)) (a1 : Int) (l2 : List Int) : Option (Bool) := (merkhetlaw04_Great.f k l0).bind fun t108 => (if t108 = true then (merkhetlaw09_DedupeSet.j0 k l0 a1 l2 true) else (merkhetlaw09_DedupeSet.j0 k l0 a1 l2 (decide ((l2.length : Int) > 100))))
theorem merkhetlaw09_DedupeSet.mono_l : ∀ k, (∀ y0 y1 y2 y3, LeO (merkhetlaw09_DedupeSet.j0 k y0 y1 y2 y3) (merkhetlaw09_DedupeSet.j0 (k + 1) y0 y1 y2 y3)) ∧ (∀ y0 y1 y2, LeO (merkhetlaw09_DedupeSet.j2 k y0 y1 y2) (merkhetlaw09_DedupeSet.j2 (k + 1) y0 y1 y2)) ∧ (∀ y0 y1 y2 y3 y4 y5, LeO (merkhetlaw09_DedupeSet.l0 k y0 y1 y2 y3 y4 y5) (merkhetlaw09_DedupeSet.l0 (k + 1) y0 y1 y2 y3 y4 y5))
  | 0 => ⟨fun _ _ _ _ r h => by simp [merkhetlaw09_DedupeSet.j0] at h, fun _ _ _ r h => by simp [merkhetlaw09_DedupeSet.j2] at h, fun _ _ _ _ _ _ r h => by simp [merkhetlaw09_DedupeSet.l0] at h⟩
  | k + 1 => by
    obtain ⟨ih0, ih1, ih2⟩ := merkhetlaw09_DedupeSet.mono_l k
    refine ⟨?_, ?_, ?_⟩
    · intro y0 y1 y2 y3
      unfold merkhetlaw09_DedupeSet.j0
      repeat' first
      | (with_reducible exact ih0 _ _ _ _)
      | (with_reducible exact ih1 _ _ _)
      | (with_reducible exact ih2 _ _ _ _ _ _)
      | (with_reducible exact merkhetlaw04_Great.mono _ _)
      | (with_reducible exact merkhetref01_Same.mono _ _ _)
      | (with_reducible exact LeO.refl _)
      | (with_reducible exact LeO.none _)
      | (with_reducible refine LeO.ite ?_ ?_)
      | (with_reducible refine LeO.bind ?_ (fun _ => ?_))
      | exact ih0 _ _ _ _
      | exact ih1 _ _ _
      | exact ih2 _ _ _ _ _ _
      | exact merkhetlaw04_Great.mono _ _
      | exact merkhetref01_Same.mono _ _ _
      | exact LeO.none _
      | refine LeO.ite ?_ ?_
      | refine LeO.bind ?_ (fun _ => ?_)
    · intro y0 y1 y2
      unfold merkhetlaw09_DedupeSet.j2
      repeat' first
      | (with_reducible exact ih0 _ _ _ _)
      | (with_reducible exact ih1 _ _ _)
      | (with_reducible exact ih2 _ _ _ _ _ _)
      | (with_reducible exact merkhetlaw04_Great.mono _ _)
      | (with_reducible exact merkhetref01_Same.mono _ _ _)
      | (with_reducible exact LeO.refl _)
      | (with_reducible exact LeO.none _)
      | (with_reducible refine LeO.ite ?_ ?_)
      | (with_reducible refine LeO.bind ?_ (fun _ => ?_))
      | exact ih0 _ _ _ _
      | exact ih1 _ _ _
      | exact ih2 _ _ _ _ _ _
      | exact merkhetlaw04_Great.mono _ _
      | exact merkhetref01_Same.mono _ _ _
      | exact LeO.none _
      | refine LeO.ite ?_ ?_
      | refine LeO.bind ?_ (fun _ => ?_)
    · intro y0 y1 y2 y3 y4 y5
      unfold merkhetlaw09_DedupeSet.l0
      repeat' first
      | (with_reducible exact ih0 _ _ _ _)
      | (with_reducible exact ih1 _ _ _)
      | (with_reducible exact ih2 _ _ _ _ _ _)
      | (with_reducible exact merkhetlaw04_Great.mono _ _)
      | (with_reducible exact merkhetref01_Same.mono _ _ _)
      | (with_reducible exact LeO.refl _)
      | (with_reducible exact LeO.none _)
      | (with_reducible refine LeO.ite ?_ ?_)
      | (with_reducible refine LeO.bind ?_ (fun _ => ?_))
      | exact ih0 _ _ _ _
      | exact ih1 _ _ _
      | exact ih2 _ _ _ _ _ _
      | exact merkhetlaw04_Great.mono _ _
      | exact merkhetref01_Same.mono _ _ _
      | exact LeO.none _
      | refine LeO.ite ?_ ?_
      | refine LeO.bind ?_ (fun _ => ?_)
theorem merkhetlaw09_DedupeSet.mono : ∀ a0 a1 a2 k, LeO (merkhetlaw09_DedupeSet.f k a0 a1 a2) (merkhetlaw09_DedupeSet.f (k + 1) a0 a1 a2) := by
  intro a0 a1 a2 k
  obtain ⟨ih0, ih1, ih2⟩ := merkhetlaw09_DedupeSet.mono_l k
  unfold merkhetlaw09_DedupeSet.f
  repeat' first
      | (with_reducible exact ih0 _ _ _ _)
      | (with_reducible exact ih1 _ _ _)
      | (with_reducible exact ih2 _ _ _ _ _ _)
      | (with_reducible exact merkhetlaw04_Great.mono _ _)
      | (with_reducible exact merkhetref01_Same.mono _ _ _)
      | (with_reducible exact LeO.refl _)
      | (with_reducible exact LeO.none _)
      | (with_reducible refine LeO.ite ?_ ?_)
      | (with_reducible refine LeO.bind ?_ (fun _ => ?_))
      | exact ih0 _ _ _ _
      | exact ih1 _ _ _
      | exact ih2 _ _ _ _ _ _
      | exact merkhetlaw04_Great.mono _ _
      | exact merkhetref01_Same.mono _ _ _
      | exact LeO.none _
      | refine LeO.ite ?_ ?_
      | refine LeO.bind ?_ (fun _ => ?_)
def merkhetlaw09_DedupeSet.T8 : Bool × List (List Nat × List Nat) := (true, [([], []), ([], []), ([1], [1]), ([0, 2], [0, 2]), ([], []), ([4], [4]), ([], []), ([6], [6]), ([5, 7], [5, 7]), ([3, 0, 1, 2, 3], [3]), ([8, 9, 0, 1, 2, 3, 4, 5, 6, 7, 8, 9], [8])])
def merkhetlaw09_DedupeSet.B8 : List Nat := [0, 0, 2, 7, 0, 16, 0, 64, 240, 15, 1023]
theorem merkhetlaw09_DedupeSet.tab8 : rtab .any (opsOf Try.f10 8) = merkhetlaw09_DedupeSet.T8 := by kernel_rfl
theorem merkhetlaw09_DedupeSet.bits8 : waitsOk merkhetlaw09_DedupeSet.T8.2 merkhetlaw09_DedupeSet.B8 = true := by kernel_rfl
def merkhetlaw09_DedupeSet.T9 : Bool × List (List Nat × List Nat) := (true, [([], []), ([], []), ([], []), ([], []), ([], []), ([], []), ([4, 5], [4, 5]), ([6], [6]), ([], []), ([], []), ([8, 9], [8, 9]), ([10], [10]), ([0, 1, 0, 1, 4, 5, 6, 7, 11], [0, 1]), ([12, 7, 0, 1, 4, 5, 6, 7, 11], [7, 12]), ([2, 3, 0, 1, 2, 3, 4, 5, 6, 7, 8, 9, 10, 11, 12, 13], [2, 3]), ([14, 11, 13, 0, 1, 2, 3, 4, 5, 6, 7, 8, 9, 10, 11, 12, 13], [11, 14])])
def merkhetlaw09_DedupeSet.B9 : List Nat := [0, 0, 0, 0, 0, 0, 48, 112, 0, 0, 768, 1792, 4083, 8179, 16383, 32767]
theorem merkhetlaw09_DedupeSet.tab9 : rtab .any (opsOf Try.f10 9) = merkhetlaw09_DedupeSet.T9 := by kernel_rfl
theorem merkhetlaw09_DedupeSet.bits9 : waitsOk merkhetlaw09_DedupeSet.T9.2 merkhetlaw09_DedupeSet.B9 = true := by kernel_rfl
set_option maxHeartbeats 8000000 in
set_option maxRecDepth 100000 in
theorem merkhetlaw09_DedupeSet.calls (k : Nat) (A0 : Option Addr) (c0 : Nat) (l0 : List (S27)) (a1 : Int) (A2 : Option Addr) (c2 : Nat) (l2 : List Int) (r : Bool) (w : World) (hr0 : Kd.C k27 w A0 l0.length l0) (hc0 : l0.length ≤ c0) (hr2 : Kd.C (Kd.int .u8) w A2 l2.length l2) (hc2 : l2.length ≤ c2) (h : merkhetlaw09_DedupeSet.f k l0 a1 l2 = some r) :
    Calls Try.prog 10 #[.slice A0 l0.length c0, .int .u64 a1, .slice A2 l2.length c2] w fun e w' => e = .returned (.bool r) ∧ Below w.heap.size w w' := by
  have hu27 := Try.underlying27
  have HR0 := Aside0.mk hr0
  have HC0 := Aside0.mk hc0
  clear hr0 hc0
  have HR2 := Aside0.mk hr2
  have HC2 := Aside0.mk hc2
  clear hr2 hc2
  have HB := Aside0.mk (Below.refl w.heap.size w)
  have H : ((merkhetlaw04_Great.f k l0).bind fun t108 => (if t108 = true then (merkhetlaw09_DedupeSet.j0 k l0 a1 l2 true) else (merkhetlaw09_DedupeSet.j0 k l0 a1 l2 (decide ((l2.length : Int) > 100))))) = some r := h
  clear h
  have HC4 := Aside0.mk H
  clear H
  go_enter Try.func10, Try.ntmps10
  go_upto_region 1 with (fail)
  go_cut [19] (fun v19 wc => ∃ (kq : Nat) (x19_3 : Bool), v19 = .bool x19_3 ∧ Aside0 (merkhetlaw09_DedupeSet.j0 kq l0 a1 l2 x19_3 = some r) ∧ Aside0 (kq ≤ k) ∧ Aside0 (Below w.heap.size w wc))
  case first =>
    have H := HC4.out
    clear HC4
    replace H := Option.bind_eq_some_iff.mp H
    obtain ⟨t108, A50, H⟩ := H
    replace H : (if t108 = true then (merkhetlaw09_DedupeSet.j0 k l0 a1 l2 true) else (merkhetlaw09_DedupeSet.j0 k l0 a1 l2 (decide ((l2.length : Int) > 100)))) = some r := H
    have A5 := Aside0.mk A50
    clear A50
    by_cases c6 : t108 = true
    · subst c6
      have H1 : (merkhetlaw09_DedupeSet.j0 k l0 a1 l2 true) = some r := by rw [if_pos rfl] at H; exact H
      clear H
      have H := H1
      clear H1
      have H' := Aside0.mk H
      clear H
      go_wp2_with (first | ((with_reducible refine gate_callee (f := 15) rfl ?_); refine goesL_ (some 14) rfl rfl Try.func15 (by kernel_rfl) rfl #[.slice A0 l0.length c0] rfl (by (try simp only [List.map_toArray, List.map_cons, List.map_nil]); first | done | rfl | (simp only [List.length_drop, List.length_take]; rfl)) ?_; (with_reducible refine (merkhetlaw04_Great.calls k _ _ l0 true _ ?side1 ?side2 A5.out).mono ?_); (case side1 => repeat (first | exact (Kd.C_below HR0.out HB.out) | (with_reducible refine Kd.C_alloc ?_ _) | (with_reducible refine Kd.C_drewN ?_ _) | (with_reducible refine Kd.C_drew ?_))); (case side2 => exact HC0.out); rintro e w7 ⟨rfl, hb⟩; refine ⟨_, rfl, ?_⟩; have n0_ := Aside0.mk (below_step (by repeat (first | (with_reducible first | exact HB.out | apply below_alloc | apply pw_below_drewN | apply below_drew1) | exact HB.out)) hb); clear HB; have HB := n0_; clear n0_; (try clear hb); (try clear hb2); (try clear hk); (try clear hi)))
      go_meet
      case rel => exact ⟨_, (true), (by first | rfl | (simp; done) | (simp [*]; done)), H', ⟨by first | omega | exact Nat.le_refl _⟩, ⟨by repeat (first | (with_reducible first | exact HB.out | apply below_alloc | apply pw_below_drewN | apply below_drew1) | exact HB.out)⟩⟩
    · replace c6 := Bool.eq_false_iff.mpr c6
      subst c6
      have H1 : (merkhetlaw09_DedupeSet.j0 k l0 a1 l2 (decide ((l2.length : Int) > 100))) = some r := by rw [if_neg (show ¬ (false = true) by decide)] at H; exact H
      clear H
      have H := H1
      clear H1
      have H' := Aside0.mk H
      clear H
      go_wp2_with (first | ((with_reducible refine gate_callee (f := 15) rfl ?_); refine goesL_ (some 14) rfl rfl Try.func15 (by kernel_rfl) rfl #[.slice A0 l0.length c0] rfl (by (try simp only [List.map_toArray, List.map_cons, List.map_nil]); first | done | rfl | (simp only [List.length_drop, List.length_take]; rfl)) ?_; (with_reducible refine (merkhetlaw04_Great.calls k _ _ l0 false _ ?side1 ?side2 A5.out).mono ?_); (case side1 => repeat (first | exact (Kd.C_below HR0.out HB.out) | (with_reducible refine Kd.C_alloc ?_ _) | (with_reducible refine Kd.C_drewN ?_ _) | (with_reducible refine Kd.C_drew ?_))); (case side2 => exact HC0.out); rintro e w8 ⟨rfl, hb⟩; refine ⟨_, rfl, ?_⟩; have n0_ := Aside0.mk (below_step (by repeat (first | (with_reducible first | exact HB.out | apply below_alloc | apply pw_below_drewN | apply below_drew1) | exact HB.out)) hb); clear HB; have HB := n0_; clear n0_; (try clear hb); (try clear hb2); (try clear hk); (try clear hi)))
      go_meet
      case rel => exact ⟨_, (decide ((l2.length : Int) > 100)), (by first | rfl | (simp; done) | (simp [*]; done)), H', ⟨by first | omega | exact Nat.le_refl _⟩, ⟨by repeat (first | (with_reducible first | exact HB.out | apply below_alloc | apply pw_below_drewN | apply below_drew1) | exact HB.out)⟩⟩
  case rest =>
    clear HC4
    try clear c1
    try clear c2
    try clear p2
    try clear c6
    obtain ⟨kq, x19_3, rfl, HA, HJ3, HB⟩ := hcut
    cases kq with
    | zero => exact absurd HA.out (by simp [merkhetlaw09_DedupeSet.j0])
    | succ kj3 =>
      have H := HA.out
      clear HA
      simp only [merkhetlaw09_DedupeSet.j0] at H
      by_cases c9 : x19_3 = true
      · subst c9
        have H1 : ((merkhetlaw09_fixed.f).bind fun t109 => (some t109)) = some r := by rw [if_pos rfl] at H; exact H
        clear H
        have H := H1
        clear H1
        replace H := Option.bind_eq_some_iff.mp H
        obtain ⟨t109, A100, H⟩ := H
        replace H : (some t109) = some r := H
        have A10 := Aside0.mk A100
        clear A100
        obtain rfl := Option.some.inj H
        go_wp2_with (first | ((with_reducible refine gate_callee (f := 34) rfl ?_); refine goesL_ (some 20) rfl rfl Try.func34 (by kernel_rfl) rfl #[] rfl (by (try simp only [List.map_toArray, List.map_cons, List.map_nil]); first | done | rfl | (simp only [List.length_drop, List.length_take]; rfl)) ?_; (with_reducible refine (merkhetlaw09_fixed.calls  t109 _ A10.out).mono ?_); rintro e w11 ⟨rfl, hb⟩; refine ⟨_, rfl, ?_⟩; have n0_ := Aside0.mk (below_step (by repeat (first | (with_reducible first | exact HB.out | apply below_alloc | apply pw_below_drewN | apply below_drew1) | exact HB.out)) hb); clear HB; have HB := n0_; clear n0_; (try clear hb); (try clear hb2); (try clear hk); (try clear hi)))
        go_ret
        exact ⟨by first | rfl | (simp [errW_none, errW_some] <;> rfl) | (simp [*, errW_none, errW_some] <;> rfl), by repeat (first | (with_reducible first | exact HB.out | apply below_alloc | apply pw_below_drewN | apply below_drew1) | exact HB.out)⟩
      · replace c9 := Bool.eq_false_iff.mpr c9
        subst c9
        have H1 : ((some (([] : List (S27)) : List (S27))).bind fun y110 => (if y110.length + l0.length < 1759218604441 then (merkhetlaw09_DedupeSet.l0 kj3 l0 a1 (y110 ++ l0) l2 (l2.length : Int) 0) else (none))) = some r := by rw [if_neg (show ¬ (false = true) by decide)] at H; exact H
        clear H
        have H := H1
        clear H1
        obtain ⟨y110, hy110⟩ : ∃ y_ : List (S27), y_ = (([] : List (S27))) := ⟨_, rfl⟩
        replace H : (if y110.length + l0.length < 1759218604441 then (merkhetlaw09_DedupeSet.l0 kj3 l0 a1 (y110 ++ l0) l2 (l2.length : Int) 0) else (none)) = some r := by first | (rw [hy110]; with_reducible exact H) | (have H2_ := (Option.bind_some _ _).symm.trans H; rw [hy110]; with_reducible exact H2_) | (have H2_ := (Option.bind_some _ _).symm.trans H; with_reducible exact H2_) | with_reducible exact H | (rw [hy110]; exact H) | exact H
        have Ny110 := Aside0.mk hy110
        clear hy110
        by_cases c12 : y110.length + l0.length < 1759218604441
        · rw [if_pos c12] at H
          have LMc12 := Aside0.mk c12
          clear c12
          obtain ⟨y113, hy113⟩ : ∃ y_ : List (S27), y_ = (y110 ++ l0) := ⟨_, rfl⟩
          replace H : (merkhetlaw09_DedupeSet.l0 kj3 l0 a1 y113 l2 (l2.length : Int) 0) = some r := by first | (rw [hy113]; with_reducible exact H) | (have H2_ := (Option.bind_some _ _).symm.trans H; rw [hy113]; with_reducible exact H2_) | (have H2_ := (Option.bind_some _ _).symm.trans H; with_reducible exact H2_) | with_reducible exact H | (rw [hy113]; exact H) | exact H
          have Ny113 := Aside0.mk hy113
          clear hy113
          have HC13 := Aside0.mk H
          clear H
          go_upto_block 0 with (first | ((with_reducible refine gate_dst (N := 21) rfl ?_); (try (refine gate_guard (by rfl) ?_; dsimp only)); refine Kd.R_lit k27 _ 27 ?hg (N := 21) ?hd (xs := ([] : List (S27))) (inner := []) (ok := fun _ => True) (okp := fun _ => True) ?hr ?hp (fun _ hk => hk) trivial (Below.refl _ _) (Nat.le_refl _) (by simp) ?_; (case hd => rfl); (case hg => rfl); (case hr => first | (go_simp; done) | (go_simp; rfl)); (case hp => exact (Reps.none _ _)); intro v111 w14 ho15 hb hg_ hnew_; clear hg_ hnew_; (first | rw [← Ny110.out] at ho15 | (simp only [Int.reduceToNat] at ho15; rw [← Ny110.out] at ho15)); have n0_ := Aside0.mk (Kd.R_lower ho15 (below_size (by repeat (first | (with_reducible first | exact HB.out | apply below_alloc | apply pw_below_drewN | apply below_drew1) | exact HB.out)))); have n1_ := Aside0.mk (below_step (by repeat (first | (with_reducible first | exact HB.out | apply below_alloc | apply pw_below_drewN | apply below_drew1) | exact HB.out)) hb); clear HB; have HO112 := n0_; have HB := n1_; clear n0_ n1_; clear hb ho15) | ((with_reducible refine gate_builtin (b := .append) (xs := #[.tmp 21, .tmp 22]) rfl ?_); (try (refine gate_guard (by rfl) ?_; dsimp only)); at_builtin; refine Kd.R_append_rows k27 (w0 := w) w.heap.size rfl (.tmp 21) (.tmp 22) 23 27 (.agg #[(.int .u64 0), (.int .u64 0), (.int .u64 0), (.int .u8 0), (.string ⟨#[]⟩), (.string ⟨#[]⟩), (.int .i64 0), (.int .i64 0)]) 80 rfl Try.underlying23 info27 rfl (by decide) (by omega) v111 y110 l0 _ _ _ (fun _ => True) (fun _ => False) rfl rfl ?aO ?aR (fun _ _ h => h) (fun _ h => h.elim) ?aF ?aB ?aS ?aL ?_; (case aR => repeat (first | exact (Kd.C_below HR0.out HB.out) | (with_reducible refine Kd.C_alloc ?_ _) | (with_reducible refine Kd.C_drewN ?_ _) | (with_reducible refine Kd.C_drew ?_))); (case aB => exact (by repeat (first | (with_reducible first | exact HB.out | apply below_alloc | apply pw_below_drewN | apply below_drew1) | exact HB.out))); (case aF => exact (fun _ _ => trivial)); (case aO => exact (by (with_reducible repeat (first | apply Kd.R_alloc | apply Kd.R_drewN | apply Kd.R_drew)); exact HO112.out)); (case aS => exact (below_size (by repeat (first | (with_reducible first | exact HB.out | apply below_alloc | apply pw_below_drewN | apply below_drew1) | exact HB.out)))); (case aL => have := LMc12.out; omega); intro v114 w16 ho hb hg hat; rw [← Ny113.out] at ho; have n0_ := Aside0.mk (hb); have n1_ := Aside0.mk (ho); clear HB; clear HO112; have HB := n0_; have HO115 := n1_; clear n0_ n1_; clear ho hb hg hat))
          (try simp only [Act.put, List.setIfInBounds_toArray, List.set_cons_zero, List.set_cons_succ])
          go_cut [7] (fun v7 wc => ∃ (kq : Nat) (x7_12 : List (S27)), Aside0 (merkhetlaw09_DedupeSet.j2 kq l0 a1 x7_12 = some r) ∧ Aside0 (kq ≤ kj3) ∧ Aside0 (Kd.R k27 27 wc w.heap.size (fun _ => True) v7 x7_12) ∧ Aside0 (Below w.heap.size w wc))
          case first =>
            have H := HC13.out
            clear HC13
            have H' := Aside0.mk H
            clear H
            go_wp2
            go_loopg [7, 26] kj3 (fun kq v7 v26 w' => ∃ (x7_2 : List (S27)) (x26_2 : Int), v26 = .int .i64 x26_2 ∧ Aside0 (merkhetlaw09_DedupeSet.l0 kq l0 a1 x7_2 l2 (l2.length : Int) x26_2 = some r) ∧ Aside0 (kq ≤ kj3) ∧ Aside0 (Kd.R k27 27 w' w.heap.size (fun _ => True) v7 x7_2) ∧ Aside0 (Below w.heap.size w w'))
            case atStart => exact ⟨(y113), (0), (by first | rfl | (simp; done) | (simp [*]; done)), H', ⟨Nat.le_refl _⟩, ⟨by (with_reducible repeat (first | apply Kd.R_alloc | apply Kd.R_drewN | apply Kd.R_drew)); exact HO115.out⟩, ⟨by repeat (first | (with_reducible first | exact HB.out | apply below_alloc | apply pw_below_drewN | apply below_drew1) | exact HB.out)⟩⟩
            case round =>
              clear H'
              try clear c1
              try clear c2
              try clear p2
              try clear c3
              try clear c6
              try clear c9
              try clear c10
              try clear c12
              try clear c15
              try clear p2
              obtain ⟨x7_2, x26_2, rfl, HA, HK2, HO_7, HB⟩ := hrel
              cases gk with
              | zero => exact absurd HA.out (by simp [merkhetlaw09_DedupeSet.l0])
              | succ k2 =>
                have H := HA.out
                clear HA
                simp only [merkhetlaw09_DedupeSet.l0] at H
                by_cases c17 : x26_2 < (l2.length : Int)
                · rw [if_pos c17] at H
                  have c17b0 : decide (x26_2 < (l2.length : Int)) = true := decide_eq_true c17
                  clear c17
                  (first | rw [c17b0] | (simp only [i64_w, i32_w]; rw [c17b0]) | skip)
                  by_cases c18 : 0 ≤ x26_2
                  · rw [if_pos c18] at H
                    have c18b0 : decide (0 ≤ x26_2) = true := decide_eq_true c18
                    clear c18
                    by_cases c19 : x26_2 < (l2.length : Int)
                    · rw [if_pos c19] at H
                      have c19b0 : decide (x26_2 < (l2.length : Int)) = true := decide_eq_true c19
                      clear c19
                      by_cases c20 : (l0.length : Int) = 0
                      · rw [if_pos c20] at H
                        have c20b0 : ((l0.length : Int) == 0) = true := beq_iff_eq.mpr c20
                        have c20b1 : ((l0.length : Int) != 0) = false := bne_eq_false_iff_eq.mpr c20
                        clear c20
                        have H' := Aside0.mk H
                        clear H
                        have p116 : 0 ≤ (x26_2 : Int) := of_decide_eq_true (by first | (with_reducible assumption) | assumption)
                        have q116 : x26_2 < (l2.length : Int) := of_decide_eq_true (by first | (with_reducible assumption) | assumption)
                        obtain ⟨ad116, e116, hx116_0⟩ := Kd.at_int HR2.out x26_2 p116 q116
                        cases e116
                        replace hx116_0 := (HB.out.cell (World.block_lt_of_cell? w _ hx116_0)).trans hx116_0
                        replace p116 := eq_true p116
                        replace q116 := eq_true q116
                        go_wp2
                        go_meet
                        case rel => exact ⟨_, (x7_2), H', ⟨by have := HJ3.out; have := HK2.out; first | omega | exact Nat.le_refl _⟩, ⟨by (with_reducible repeat (first | apply Kd.R_alloc | apply Kd.R_drewN | apply Kd.R_drew)); exact HO_7.out⟩, ⟨by repeat (first | (with_reducible first | exact HB.out | apply below_alloc | apply pw_below_drewN | apply below_drew1) | exact HB.out)⟩⟩
                      · rw [if_neg c20] at H
                        have c20b0 : ((l0.length : Int) == 0) = false := beq_eq_false_iff_ne.mpr c20
                        have c20b1 : ((l0.length : Int) != 0) = true := bne_iff_ne.mpr c20
                        have c20b2 : ¬ (l0 = []) := fun h_ => c20 (by rw [h_]; rfl)
                        obtain ⟨ji21, hji21⟩ : ∃ j_ : Int, (Int.tmod (wrap64 (rd l2 x26_2)) (l0.length : Int)) = j_ := ⟨_, rfl⟩
                        replace H : (if 0 ≤ (ji21) then (if (ji21) < (x7_2.length : Int) then (if 0 ≤ (Int.tmod x26_2 (l0.length : Int)) then (if (Int.tmod x26_2 (l0.length : Int)) < (x7_2.length : Int) then ((some ((x7_2.set ((Int.tmod x26_2 (l0.length : Int)) : Int).toNat (⟨(rd_T27 x7_2 (ji21)).f0, (rd_T27 x7_2 (ji21)).f1, (rd_T27 x7_2 (ji21)).f2, (rd_T27 x7_2 (ji21)).f3, (rd_T27 x7_2 (ji21)).f4, (rd_T27 x7_2 (ji21)).f5, (rd_T27 x7_2 (ji21)).f6, (rd_T27 x7_2 (ji21)).f7⟩ : S27)).set ((ji21) : Int).toNat (⟨(rd_T27 x7_2 (Int.tmod x26_2 (l0.length : Int))).f0, (rd_T27 x7_2 (Int.tmod x26_2 (l0.length : Int))).f1, (rd_T27 x7_2 (Int.tmod x26_2 (l0.length : Int))).f2, (rd_T27 x7_2 (Int.tmod x26_2 (l0.length : Int))).f3, (rd_T27 x7_2 (Int.tmod x26_2 (l0.length : Int))).f4, (rd_T27 x7_2 (Int.tmod x26_2 (l0.length : Int))).f5, (rd_T27 x7_2 (Int.tmod x26_2 (l0.length : Int))).f6, (rd_T27 x7_2 (Int.tmod x26_2 (l0.length : Int))).f7⟩ : S27) : List (S27))).bind fun y120 => (if (ji21) < (l0.length : Int) then (if y120.length < 1759218604441 then (merkhetlaw09_DedupeSet.l0 k2 l0 a1 (y120 ++ [(⟨(rd_T27 l0 (ji21)).f0, (rd_T27 l0 (ji21)).f1, (rd_T27 l0 (ji21)).f2, (rd_T27 l0 (ji21)).f3, (rd_T27 l0 (ji21)).f4, (rd_T27 l0 (ji21)).f5, (rd_T27 l0 (ji21)).f6, (rd_T27 l0 (ji21)).f7⟩ : S27)]) l2 (l2.length : Int) (wrap64 (x26_2 + 1))) else (none)) else (none))) else (none)) else (none)) else (none)) else (none)) = some r := by first | (rw [hji21] at H; exact H) | (simp only [hji21] at H ⊢; exact H)
                        by_cases c22 : 0 ≤ (ji21)
                        · rw [if_pos c22] at H
                          have c22b0 : decide (0 ≤ (ji21)) = true := decide_eq_true c22
                          clear c22
                          by_cases c23 : (ji21) < (x7_2.length : Int)
                          · rw [if_pos c23] at H
                            have c23b0 : decide ((ji21) < (x7_2.length : Int)) = true := decide_eq_true c23
                            clear c23
                            obtain ⟨ji24, hji24⟩ : ∃ j_ : Int, (Int.tmod x26_2 (l0.length : Int)) = j_ := ⟨_, rfl⟩
                            replace H : (if 0 ≤ (ji24) then (if (ji24) < (x7_2.length : Int) then ((some ((x7_2.set ((ji24) : Int).toNat (⟨(rd_T27 x7_2 (ji21)).f0, (rd_T27 x7_2 (ji21)).f1, (rd_T27 x7_2 (ji21)).f2, (rd_T27 x7_2 (ji21)).f3, (rd_T27 x7_2 (ji21)).f4, (rd_T27 x7_2 (ji21)).f5, (rd_T27 x7_2 (ji21)).f6, (rd_T27 x7_2 (ji21)).f7⟩ : S27)).set ((ji21) : Int).toNat (⟨(rd_T27 x7_2 (ji24)).f0, (rd_T27 x7_2 (ji24)).f1, (rd_T27 x7_2 (ji24)).f2, (rd_T27 x7_2 (ji24)).f3, (rd_T27 x7_2 (ji24)).f4, (rd_T27 x7_2 (ji24)).f5, (rd_T27 x7_2 (ji24)).f6, (rd_T27 x7_2 (ji24)).f7⟩ : S27) : List (S27))).bind fun y120 => (if (ji21) < (l0.length : Int) then (if y120.length < 1759218604441 then (merkhetlaw09_DedupeSet.l0 k2 l0 a1 (y120 ++ [(⟨(rd_T27 l0 (ji21)).f0, (rd_T27 l0 (ji21)).f1, (rd_T27 l0 (ji21)).f2, (rd_T27 l0 (ji21)).f3, (rd_T27 l0 (ji21)).f4, (rd_T27 l0 (ji21)).f5, (rd_T27 l0 (ji21)).f6, (rd_T27 l0 (ji21)).f7⟩ : S27)]) l2 (l2.length : Int) (wrap64 (x26_2 + 1))) else (none)) else (none))) else (none)) else (none)) = some r := by first | (rw [hji24] at H; exact H) | (simp only [hji24] at H ⊢; exact H)
                            by_cases c25 : 0 ≤ (ji24)
                            · rw [if_pos c25] at H
                              have c25b0 : decide (0 ≤ (ji24)) = true := decide_eq_true c25
                              clear c25
                              by_cases c26 : (ji24) < (x7_2.length : Int)
                              · rw [if_pos c26] at H
                                have c26b0 : decide ((ji24) < (x7_2.length : Int)) = true := decide_eq_true c26
                                clear c26
                                obtain ⟨y119, hy119⟩ : ∃ y_ : List (S27), y_ = (x7_2.set ((ji24) : Int).toNat (⟨(rd_T27 x7_2 (ji21)).f0, (rd_T27 x7_2 (ji21)).f1, (rd_T27 x7_2 (ji21)).f2, (rd_T27 x7_2 (ji21)).f3, (rd_T27 x7_2 (ji21)).f4, (rd_T27 x7_2 (ji21)).f5, (rd_T27 x7_2 (ji21)).f6, (rd_T27 x7_2 (ji21)).f7⟩ : S27)) := ⟨_, rfl⟩
                                replace H : ((some (y119.set ((ji21) : Int).toNat (⟨(rd_T27 x7_2 (ji24)).f0, (rd_T27 x7_2 (ji24)).f1, (rd_T27 x7_2 (ji24)).f2, (rd_T27 x7_2 (ji24)).f3, (rd_T27 x7_2 (ji24)).f4, (rd_T27 x7_2 (ji24)).f5, (rd_T27 x7_2 (ji24)).f6, (rd_T27 x7_2 (ji24)).f7⟩ : S27) : List (S27))).bind fun y120 => (if (ji21) < (l0.length : Int) then (if y120.length < 1759218604441 then (merkhetlaw09_DedupeSet.l0 k2 l0 a1 (y120 ++ [(⟨(rd_T27 l0 (ji21)).f0, (rd_T27 l0 (ji21)).f1, (rd_T27 l0 (ji21)).f2, (rd_T27 l0 (ji21)).f3, (rd_T27 l0 (ji21)).f4, (rd_T27 l0 (ji21)).f5, (rd_T27 l0 (ji21)).f6, (rd_T27 l0 (ji21)).f7⟩ : S27)]) l2 (l2.length : Int) (wrap64 (x26_2 + 1))) else (none)) else (none))) = some r := by first | (rw [hy119]; with_reducible exact H) | (have H2_ := (Option.bind_some _ _).symm.trans H; rw [hy119]; with_reducible exact H2_) | (have H2_ := (Option.bind_some _ _).symm.trans H; with_reducible exact H2_) | with_reducible exact H | (rw [hy119]; exact H) | exact H
                                have Ny119 := Aside0.mk hy119
                                clear hy119
                                obtain ⟨y120, hy120⟩ : ∃ y_ : List (S27), y_ = (y119.set ((ji21) : Int).toNat (⟨(rd_T27 x7_2 (ji24)).f0, (rd_T27 x7_2 (ji24)).f1, (rd_T27 x7_2 (ji24)).f2, (rd_T27 x7_2 (ji24)).f3, (rd_T27 x7_2 (ji24)).f4, (rd_T27 x7_2 (ji24)).f5, (rd_T27 x7_2 (ji24)).f6, (rd_T27 x7_2 (ji24)).f7⟩ : S27)) := ⟨_, rfl⟩
                                replace H : (if (ji21) < (l0.length : Int) then (if y120.length < 1759218604441 then (merkhetlaw09_DedupeSet.l0 k2 l0 a1 (y120 ++ [(⟨(rd_T27 l0 (ji21)).f0, (rd_T27 l0 (ji21)).f1, (rd_T27 l0 (ji21)).f2, (rd_T27 l0 (ji21)).f3, (rd_T27 l0 (ji21)).f4, (rd_T27 l0 (ji21)).f5, (rd_T27 l0 (ji21)).f6, (rd_T27 l0 (ji21)).f7⟩ : S27)]) l2 (l2.length : Int) (wrap64 (x26_2 + 1))) else (none)) else (none)) = some r := by first | (rw [hy120]; with_reducible exact H) | (have H2_ := (Option.bind_some _ _).symm.trans H; rw [hy120]; with_reducible exact H2_) | (have H2_ := (Option.bind_some _ _).symm.trans H; with_reducible exact H2_) | with_reducible exact H | (rw [hy120]; exact H) | exact H
                                have Ny120 := Aside0.mk hy120
                                clear hy120
                                by_cases c29 : (ji21) < (l0.length : Int)
                                · rw [if_pos c29] at H
                                  have c29b0 : decide ((ji21) < (l0.length : Int)) = true := decide_eq_true c29
                                  clear c29
                                  by_cases c30 : y120.length < 1759218604441
                                  · rw [if_pos c30] at H
                                    have LMc30 := Aside0.mk c30
                                    clear c30
                                    obtain ⟨y122, hy122⟩ : ∃ y_ : List (S27), y_ = (y120 ++ [(⟨(rd_T27 l0 (ji21)).f0, (rd_T27 l0 (ji21)).f1, (rd_T27 l0 (ji21)).f2, (rd_T27 l0 (ji21)).f3, (rd_T27 l0 (ji21)).f4, (rd_T27 l0 (ji21)).f5, (rd_T27 l0 (ji21)).f6, (rd_T27 l0 (ji21)).f7⟩ : S27)]) := ⟨_, rfl⟩
                                    replace H : (merkhetlaw09_DedupeSet.l0 k2 l0 a1 y122 l2 (l2.length : Int) (wrap64 (x26_2 + 1))) = some r := by first | (rw [hy122]; with_reducible exact H) | (have H2_ := (Option.bind_some _ _).symm.trans H; rw [hy122]; with_reducible exact H2_) | (have H2_ := (Option.bind_some _ _).symm.trans H; with_reducible exact H2_) | with_reducible exact H | (rw [hy122]; exact H) | exact H
                                    have Ny122 := Aside0.mk hy122
                                    clear hy122
                                    have H' := Aside0.mk H
                                    clear H
                                    have p116 : 0 ≤ (x26_2 : Int) := of_decide_eq_true (by first | (with_reducible assumption) | assumption)
                                    have q116 : x26_2 < (l2.length : Int) := of_decide_eq_true (by first | (with_reducible assumption) | assumption)
                                    obtain ⟨ad116, e116, hx116_0⟩ := Kd.at_int HR2.out x26_2 p116 q116
                                    cases e116
                                    replace hx116_0 := (HB.out.cell (World.block_lt_of_cell? w _ hx116_0)).trans hx116_0
                                    replace p116 := eq_true p116
                                    replace q116 := eq_true q116
                                    try go_wp2
                                    have n0_ := Aside0.mk (Kd.R_drew HO_7.out)
                                    have n1_ := Aside0.mk (below_drew1 HB.out)
                                    clear HO_7
                                    clear HB
                                    have HO_7 := n0_
                                    have HB := n1_
                                    clear n0_ n1_
                                    refine start_ (n := 11) (S := fun w' => True) (ds := []) #[false, false, false, false, false, false, false, false, false, false, false] (by kernel_rfl) rfl rfl trivial (fun hHeld => ?_); refine with_tabW merkhetlaw09_DedupeSet.tab8 merkhetlaw09_DedupeSet.bits8 (fun HT_ HW_ => ?_)
                                    generalize wr.drew = w31 at HO_7 HB hHeld ⊢
                                    refine pure_ (i := 0) (N := some 34) (v := ?_) (a' := ?_) #[true, false, false, false, false, false, false, false, false, false, false] rfl rfl (any_of HT_.out (by kernel_rfl)) (fun _ _ _ h => h) (Or.inl ⟨by rfl, ?_⟩) ?_ ?_
                                    rotate_left
                                    · intro w'
                                      go_simp
                                      with_reducible rfl
                                    rotate_left
                                    · simp only [Act.put, List.setIfInBounds_toArray, List.set_cons_zero, List.set_cons_succ, i64_w, i32_w]
                                      rfl
                                    refine pure_ (i := 1) (N := some 35) (v := ?_) (a' := ?_) #[true, true, false, false, false, false, false, false, false, false, false] rfl rfl (any_of HT_.out (by kernel_rfl)) (fun _ _ _ h => h) (Or.inl ⟨by rfl, ?_⟩) ?_ ?_
                                    rotate_left
                                    · intro w'
                                      go_simp
                                      with_reducible rfl
                                    rotate_left
                                    · simp only [Act.put, List.setIfInBounds_toArray, List.set_cons_zero, List.set_cons_succ, i64_w, i32_w]
                                      rfl
                                    refine pure_ (i := 2) (N := some 36) (v := ?_) (a' := ?_) #[true, true, true, false, false, false, false, false, false, false, false] rfl rfl (any_of HT_.out (by kernel_rfl)) (fun _ _ _ h => h) (Or.inl ⟨by rfl, ?_⟩) ?_ ?_
                                    rotate_left
                                    · intro w'
                                      go_simp
                                      with_reducible rfl
                                    rotate_left
                                    · simp only [Act.put, List.setIfInBounds_toArray, List.set_cons_zero, List.set_cons_succ, i64_w, i32_w]
                                      rfl
                                    refine pure_ (i := 3) (N := some 37) (v := ?_) (a' := ?_) #[true, true, true, true, false, false, false, false, false, false, false] rfl rfl (any_of HT_.out (by kernel_rfl)) (fun _ _ _ h => h) (Or.inl ⟨by rfl, ?_⟩) ?_ ?_
                                    rotate_left
                                    · intro w'
                                      go_simp
                                      with_reducible rfl
                                    rotate_left
                                    · simp only [Act.put, List.setIfInBounds_toArray, List.set_cons_zero, List.set_cons_succ, i64_w, i32_w]
                                      rfl
                                    refine pure_ (i := 4) (N := some 38) (v := ?_) (a' := ?_) #[true, true, true, true, true, false, false, false, false, false, false] rfl rfl (any_of HT_.out (by kernel_rfl)) (fun _ _ _ h => h) (Or.inl ⟨by rfl, ?_⟩) ?_ ?_
                                    rotate_left
                                    · intro w'
                                      go_simp
                                      with_reducible rfl
                                    rotate_left
                                    · simp only [Act.put, List.setIfInBounds_toArray, List.set_cons_zero, List.set_cons_succ, i64_w, i32_w]
                                      rfl
                                    refine pure_ (i := 5) (N := some 39) (v := ?_) (a' := ?_) #[true, true, true, true, true, true, false, false, false, false, false] rfl rfl (any_of HT_.out (by kernel_rfl)) (fun _ _ _ h => h) (Or.inl ⟨by rfl, ?_⟩) ?_ ?_
                                    rotate_left
                                    · intro w'
                                      go_simp
                                      with_reducible rfl
                                    rotate_left
                                    · simp only [Act.put, List.setIfInBounds_toArray, List.set_cons_zero, List.set_cons_succ, i64_w, i32_w]
                                      rfl
                                    refine pure_ (i := 6) (N := some 40) (v := ?_) (a' := ?_) #[true, true, true, true, true, true, true, false, false, false, false] rfl rfl (any_of HT_.out (by kernel_rfl)) (fun _ _ _ h => h) (Or.inl ⟨by rfl, ?_⟩) ?_ ?_
                                    rotate_left
                                    · intro w'
                                      go_simp
                                      with_reducible rfl
                                    rotate_left
                                    · simp only [Act.put, List.setIfInBounds_toArray, List.set_cons_zero, List.set_cons_succ, i64_w, i32_w]
                                      rfl
                                    refine pure_ (i := 7) (N := some 41) (v := ?_) (a' := ?_) #[true, true, true, true, true, true, true, true, false, false, false] rfl rfl (any_of HT_.out (by kernel_rfl)) (fun _ _ _ h => h) (Or.inl ⟨by rfl, ?_⟩) ?_ ?_
                                    rotate_left
                                    · intro w'
                                      go_simp
                                      with_reducible rfl
                                    rotate_left
                                    · simp only [Act.put, List.setIfInBounds_toArray, List.set_cons_zero, List.set_cons_succ, i64_w, i32_w]
                                      rfl
                                    refine pure_ (i := 8) (N := some 42) (v := ?_) (a' := ?_) #[true, true, true, true, true, true, true, true, true, false, false] rfl rfl (any_of HT_.out (by kernel_rfl)) (fun _ _ _ h => h) (Or.inl ⟨by rfl, ?_⟩) ?_ ?_
                                    rotate_left
                                    · intro w'
                                      go_simp
                                      with_reducible rfl
                                    rotate_left
                                    · simp only [Act.put, List.setIfInBounds_toArray, List.set_cons_zero, List.set_cons_succ, i64_w, i32_w]
                                      rfl
                                    refine pure_ (i := 9) (N := some 10) (v := ?_) (a' := ?_) #[true, true, true, true, true, true, true, true, true, true, false] rfl rfl (any_of HT_.out (by kernel_rfl)) (fun _ _ _ h => h) (Or.inl ⟨by rfl, ?_⟩) ?_ ?_
                                    rotate_left
                                    · intro w'
                                      go_simp
                                      with_reducible rfl
                                    rotate_left
                                    · simp only [Act.put, List.setIfInBounds_toArray, List.set_cons_zero, List.set_cons_succ, i64_w, i32_w]
                                      rfl
                                    refine pure_ (i := 10) (N := some 11) (v := ?_) (a' := ?_) #[true, true, true, true, true, true, true, true, true, true, true] rfl rfl (any_of HT_.out (by kernel_rfl)) (fun _ _ _ h => h) (Or.inl ⟨by rfl, ?_⟩) ?_ ?_
                                    rotate_left
                                    · intro w'
                                      go_simp
                                      with_reducible rfl
                                    rotate_left
                                    · simp only [Act.put, List.setIfInBounds_toArray, List.set_cons_zero, List.set_cons_succ, i64_w, i32_w]
                                      rfl
                                    refine done_ (done_of HT_.out (by kernel_rfl)) ?_
                                    try go_wp2
                                    have n0_ := Aside0.mk (Kd.R_drew HO_7.out)
                                    have n1_ := Aside0.mk (below_drew1 HB.out)
                                    clear HO_7
                                    clear HB
                                    have HO_7 := n0_
                                    have HB := n1_
                                    clear n0_ n1_
                                    obtain ⟨Ao33, co33, eo33⟩ := Kd.R_slice HO_7.out
                                    (first | subst eo33 | (injection eo33 with f1_ f2_ f3_; have f4_ := f1_.symm; have f5_ := f3_.symm; clear f1_ f2_ f3_; subst f4_; subst f5_))
                                    have p117 : 0 ≤ ((ji21) : Int) := of_decide_eq_true (by first | (with_reducible assumption) | assumption)
                                    have q117 : (ji21) < (x7_2.length : Int) := of_decide_eq_true (by first | (with_reducible assumption) | assumption)
                                    obtain ⟨ad117, e117, hx117_0, hx117_1, hx117_2, hx117_3, hx117_4, hx117_5, hx117_6, hx117_7⟩ := at_T27 (Kd.R_reads' HO_7.out).2.2 (ji21) p117 q117
                                    cases e117
                                    replace p117 := eq_true p117
                                    replace q117 := eq_true q117
                                    have p118 : 0 ≤ ((ji24) : Int) := of_decide_eq_true (by first | (with_reducible assumption) | assumption)
                                    have q118 : (ji24) < (x7_2.length : Int) := of_decide_eq_true (by first | (with_reducible assumption) | assumption)
                                    obtain ⟨ad118, e118, hx118_0, hx118_1, hx118_2, hx118_3, hx118_4, hx118_5, hx118_6, hx118_7⟩ := at_T27 (Kd.R_reads' HO_7.out).2.2 (ji24) p118 q118
                                    obtain rfl : ad117 = ad118 := (by injection e118)
                                    replace p118 := eq_true p118
                                    replace q118 := eq_true q118
                                    have p27 : 0 ≤ ((ji24) : Int) := of_decide_eq_true (by first | (with_reducible assumption) | assumption)
                                    have q27 : ((ji24) : Int) < ((x7_2.length : Int) : Int) := of_decide_eq_true (by first | (with_reducible assumption) | assumption)
                                    obtain ⟨go27, co27, eo27, gb27, gl27, cl27, HG27⟩ := Kd.R_form HO_7.out (by omega)
                                    (first | cases eo27 | (injection eo27 with ea_ en_ ec_; (first | subst ea_ | (injection ea_ with ea_; subst ea_)); subst ec_; clear en_))
                                    have GB27 := Aside0.mk gb27
                                    have GG27 := Aside0.mk HG27
                                    clear gb27 gl27 HG27
                                    (first | simp only [add_plain] at hx117_0 | skip)
                                    (first | simp only [add_plain] at hx117_1 | skip)
                                    (first | simp only [add_plain] at hx117_2 | skip)
                                    (first | simp only [add_plain] at hx117_3 | skip)
                                    (first | simp only [add_plain] at hx117_4 | skip)
                                    (first | simp only [add_plain] at hx117_5 | skip)
                                    (first | simp only [add_plain] at hx117_6 | skip)
                                    (first | simp only [add_plain] at hx117_7 | skip)
                                    (first | simp only [add_plain] at hx118_0 | skip)
                                    (first | simp only [add_plain] at hx118_1 | skip)
                                    (first | simp only [add_plain] at hx118_2 | skip)
                                    (first | simp only [add_plain] at hx118_3 | skip)
                                    (first | simp only [add_plain] at hx118_4 | skip)
                                    (first | simp only [add_plain] at hx118_5 | skip)
                                    (first | simp only [add_plain] at hx118_6 | skip)
                                    (first | simp only [add_plain] at hx118_7 | skip)
                                    obtain ⟨ce27, hcl27, hM27, hcc27, hfr27⟩ := Kd.R_elem HO_7.out z27 ((ji24) : Int) p27 q27
                                    obtain rfl := k27_openM hM27
                                    have hx27_0 : World.cell? _ ⟨go27, ((ji24) : Int).toNat * 8, none⟩ = some (.int .u64 ((rd_T27 x7_2 (ji24)).f0)) := hcc27 0 _ rfl
                                    have hx27_1 : World.cell? _ ⟨go27, ((ji24) : Int).toNat * 8 + 1, none⟩ = some (.int .u64 ((rd_T27 x7_2 (ji24)).f1)) := hcc27 1 _ rfl
                                    have hx27_2 : World.cell? _ ⟨go27, ((ji24) : Int).toNat * 8 + 2, none⟩ = some (.int .u64 ((rd_T27 x7_2 (ji24)).f2)) := hcc27 2 _ rfl
                                    have hx27_3 : World.cell? _ ⟨go27, ((ji24) : Int).toNat * 8 + 3, none⟩ = some (.int .u8 ((rd_T27 x7_2 (ji24)).f3)) := hcc27 3 _ rfl
                                    have hx27_4 : World.cell? _ ⟨go27, ((ji24) : Int).toNat * 8 + 4, none⟩ = some (.string ((rd_T27 x7_2 (ji24)).f4)) := hcc27 4 _ rfl
                                    have hx27_5 : World.cell? _ ⟨go27, ((ji24) : Int).toNat * 8 + 5, none⟩ = some (.string ((rd_T27 x7_2 (ji24)).f5)) := hcc27 5 _ rfl
                                    have hx27_6 : World.cell? _ ⟨go27, ((ji24) : Int).toNat * 8 + 6, none⟩ = some (.int .i64 ((rd_T27 x7_2 (ji24)).f6)) := hcc27 6 _ rfl
                                    have hx27_7 : World.cell? _ ⟨go27, ((ji24) : Int).toNat * 8 + 7, none⟩ = some (.int .i64 ((rd_T27 x7_2 (ji24)).f7)) := hcc27 7 _ rfl
                                    have hf27_0 : World.frozen? _ ⟨go27, ((ji24) : Int).toNat * 8, none⟩ = false := hfr27 0
                                    have hf27_1 : World.frozen? _ ⟨go27, ((ji24) : Int).toNat * 8 + 1, none⟩ = false := hfr27 1
                                    have hf27_2 : World.frozen? _ ⟨go27, ((ji24) : Int).toNat * 8 + 2, none⟩ = false := hfr27 2
                                    have hf27_3 : World.frozen? _ ⟨go27, ((ji24) : Int).toNat * 8 + 3, none⟩ = false := hfr27 3
                                    have hf27_4 : World.frozen? _ ⟨go27, ((ji24) : Int).toNat * 8 + 4, none⟩ = false := hfr27 4
                                    have hf27_5 : World.frozen? _ ⟨go27, ((ji24) : Int).toNat * 8 + 5, none⟩ = false := hfr27 5
                                    have hf27_6 : World.frozen? _ ⟨go27, ((ji24) : Int).toNat * 8 + 6, none⟩ = false := hfr27 6
                                    have hf27_7 : World.frozen? _ ⟨go27, ((ji24) : Int).toNat * 8 + 7, none⟩ = false := hfr27 7
                                    clear hcl27 hcc27 hfr27 hM27
                                    replace p27 := eq_true p27
                                    replace q27 := eq_true q27
                                    obtain ⟨ce34, hcl34, hM34, hcc34, hfr34⟩ := Kd.R_elem HO_7.out z27 ((ji24) : Int) (of_decide_eq_true (by first | (with_reducible assumption) | assumption)) (by have h_ : ((ji24) : Int) < ((x7_2.length : Int) : Int) := of_decide_eq_true (by first | (with_reducible assumption) | assumption); first | exact h_ | (have e_ := (Kd.R_reads' HO_7.out).1; omega) | simpa using h_)
                                    obtain rfl := k27_openM hM34
                                    have HP34 := (Kd.R_seg HO_7.out ((ji24) : Int) (of_decide_eq_true (by first | (with_reducible assumption) | assumption)) (by have h_ : ((ji24) : Int) < ((x7_2.length : Int) : Int) := of_decide_eq_true (by first | (with_reducible assumption) | assumption); first | exact h_ | (have e_ := (Kd.R_reads' HO_7.out).1; omega) | simpa using h_) (seg := [.int .u64 ((rd_T27 x7_2 (ji21)).f0), .int .u64 ((rd_T27 x7_2 (ji21)).f1), .int .u64 ((rd_T27 x7_2 (ji21)).f2), .int .u8 ((rd_T27 x7_2 (ji21)).f3), .string ((rd_T27 x7_2 (ji21)).f4), .string ((rd_T27 x7_2 (ji21)).f5), .int .i64 ((rd_T27 x7_2 (ji21)).f6), .int .i64 ((rd_T27 x7_2 (ji21)).f7)]) (j := 0) hcl34 hcc34 (show 8 ≤ 8 from by decide) (x' := (⟨(rd_T27 x7_2 (ji21)).f0, (rd_T27 x7_2 (ji21)).f1, (rd_T27 x7_2 (ji21)).f2, (rd_T27 x7_2 (ji21)).f3, (rd_T27 x7_2 (ji21)).f4, (rd_T27 x7_2 (ji21)).f5, (rd_T27 x7_2 (ji21)).f6, (rd_T27 x7_2 (ji21)).f7⟩ : S27)) (k27_mkM _ _ _ (⟨(rd_T27 x7_2 (ji21)).f0, (rd_T27 x7_2 (ji21)).f1, (rd_T27 x7_2 (ji21)).f2, (rd_T27 x7_2 (ji21)).f3, (rd_T27 x7_2 (ji21)).f4, (rd_T27 x7_2 (ji21)).f5, (rd_T27 x7_2 (ji21)).f6, (rd_T27 x7_2 (ji21)).f7⟩ : S27) ) (fun _ hk => hk)).1
                                    rw [← Ny119.out] at HP34
                                    have HQ34 := Aside0.mk HP34
                                    clear hcl34 hcc34 hfr34 hM34 HP34
                                    have p28 : 0 ≤ ((ji21) : Int) := of_decide_eq_true (by first | (with_reducible assumption) | assumption)
                                    have q28 : ((ji21) : Int) < ((x7_2.length : Int) : Int) := of_decide_eq_true (by first | (with_reducible assumption) | assumption)
                                    obtain ⟨ce28, hcl28, hM28, hcc28, hfr28⟩ := Kd.R_elem HQ34.out z27 ((ji21) : Int) p28 q28
                                    obtain rfl := k27_openM hM28
                                    have hx28_0 : World.cell? _ ⟨go27, ((ji21) : Int).toNat * 8, none⟩ = some (.int .u64 ((rd_T27 y119 (ji21)).f0)) := hcc28 0 _ rfl
                                    have hx28_1 : World.cell? _ ⟨go27, ((ji21) : Int).toNat * 8 + 1, none⟩ = some (.int .u64 ((rd_T27 y119 (ji21)).f1)) := hcc28 1 _ rfl
                                    have hx28_2 : World.cell? _ ⟨go27, ((ji21) : Int).toNat * 8 + 2, none⟩ = some (.int .u64 ((rd_T27 y119 (ji21)).f2)) := hcc28 2 _ rfl
                                    have hx28_3 : World.cell? _ ⟨go27, ((ji21) : Int).toNat * 8 + 3, none⟩ = some (.int .u8 ((rd_T27 y119 (ji21)).f3)) := hcc28 3 _ rfl
                                    have hx28_4 : World.cell? _ ⟨go27, ((ji21) : Int).toNat * 8 + 4, none⟩ = some (.string ((rd_T27 y119 (ji21)).f4)) := hcc28 4 _ rfl
                                    have hx28_5 : World.cell? _ ⟨go27, ((ji21) : Int).toNat * 8 + 5, none⟩ = some (.string ((rd_T27 y119 (ji21)).f5)) := hcc28 5 _ rfl
                                    have hx28_6 : World.cell? _ ⟨go27, ((ji21) : Int).toNat * 8 + 6, none⟩ = some (.int .i64 ((rd_T27 y119 (ji21)).f6)) := hcc28 6 _ rfl
                                    have hx28_7 : World.cell? _ ⟨go27, ((ji21) : Int).toNat * 8 + 7, none⟩ = some (.int .i64 ((rd_T27 y119 (ji21)).f7)) := hcc28 7 _ rfl
                                    have hf28_0 : World.frozen? _ ⟨go27, ((ji21) : Int).toNat * 8, none⟩ = false := hfr28 0
                                    have hf28_1 : World.frozen? _ ⟨go27, ((ji21) : Int).toNat * 8 + 1, none⟩ = false := hfr28 1
                                    have hf28_2 : World.frozen? _ ⟨go27, ((ji21) : Int).toNat * 8 + 2, none⟩ = false := hfr28 2
                                    have hf28_3 : World.frozen? _ ⟨go27, ((ji21) : Int).toNat * 8 + 3, none⟩ = false := hfr28 3
                                    have hf28_4 : World.frozen? _ ⟨go27, ((ji21) : Int).toNat * 8 + 4, none⟩ = false := hfr28 4
                                    have hf28_5 : World.frozen? _ ⟨go27, ((ji21) : Int).toNat * 8 + 5, none⟩ = false := hfr28 5
                                    have hf28_6 : World.frozen? _ ⟨go27, ((ji21) : Int).toNat * 8 + 6, none⟩ = false := hfr28 6
                                    have hf28_7 : World.frozen? _ ⟨go27, ((ji21) : Int).toNat * 8 + 7, none⟩ = false := hfr28 7
                                    clear hcl28 hcc28 hfr28 hM28
                                    replace p28 := eq_true p28
                                    replace q28 := eq_true q28
                                    obtain ⟨ce35, hcl35, hM35, hcc35, hfr35⟩ := Kd.R_elem HQ34.out z27 ((ji21) : Int) (of_decide_eq_true (by first | (with_reducible assumption) | assumption)) (by have h_ : ((ji21) : Int) < ((x7_2.length : Int) : Int) := of_decide_eq_true (by first | (with_reducible assumption) | assumption); first | exact h_ | (have e_ := (Kd.R_reads' HO_7.out).1; omega) | simpa using h_)
                                    obtain rfl := k27_openM hM35
                                    have HP35 := (Kd.R_seg HQ34.out ((ji21) : Int) (of_decide_eq_true (by first | (with_reducible assumption) | assumption)) (by have h_ : ((ji21) : Int) < ((x7_2.length : Int) : Int) := of_decide_eq_true (by first | (with_reducible assumption) | assumption); first | exact h_ | (have e_ := (Kd.R_reads' HO_7.out).1; omega) | simpa using h_) (seg := [.int .u64 ((rd_T27 x7_2 (ji24)).f0), .int .u64 ((rd_T27 x7_2 (ji24)).f1), .int .u64 ((rd_T27 x7_2 (ji24)).f2), .int .u8 ((rd_T27 x7_2 (ji24)).f3), .string ((rd_T27 x7_2 (ji24)).f4), .string ((rd_T27 x7_2 (ji24)).f5), .int .i64 ((rd_T27 x7_2 (ji24)).f6), .int .i64 ((rd_T27 x7_2 (ji24)).f7)]) (j := 0) hcl35 hcc35 (show 8 ≤ 8 from by decide) (x' := (⟨(rd_T27 x7_2 (ji24)).f0, (rd_T27 x7_2 (ji24)).f1, (rd_T27 x7_2 (ji24)).f2, (rd_T27 x7_2 (ji24)).f3, (rd_T27 x7_2 (ji24)).f4, (rd_T27 x7_2 (ji24)).f5, (rd_T27 x7_2 (ji24)).f6, (rd_T27 x7_2 (ji24)).f7⟩ : S27)) (k27_mkM _ _ _ (⟨(rd_T27 x7_2 (ji24)).f0, (rd_T27 x7_2 (ji24)).f1, (rd_T27 x7_2 (ji24)).f2, (rd_T27 x7_2 (ji24)).f3, (rd_T27 x7_2 (ji24)).f4, (rd_T27 x7_2 (ji24)).f5, (rd_T27 x7_2 (ji24)).f6, (rd_T27 x7_2 (ji24)).f7⟩ : S27) ) (fun _ hk => hk)).1
                                    rw [← Ny120.out] at HP35
                                    have HQ35 := Aside0.mk HP35
                                    clear hcl35 hcc35 hfr35 hM35 HP35
                                    refine start_ (n := 16) (S := fun w' => w'.cell? ⟨go27, ((ji21)).toNat * 8, none⟩ = some (.int .u64 ((rd_T27 x7_2 (ji21)).f0)) ∧ w'.cell? ⟨go27, ((ji21)).toNat * 8 + 1, none⟩ = some (.int .u64 ((rd_T27 x7_2 (ji21)).f1)) ∧ w'.cell? ⟨go27, ((ji21)).toNat * 8 + 2, none⟩ = some (.int .u64 ((rd_T27 x7_2 (ji21)).f2)) ∧ w'.cell? ⟨go27, ((ji21)).toNat * 8 + 3, none⟩ = some (.int .u8 ((rd_T27 x7_2 (ji21)).f3)) ∧ w'.cell? ⟨go27, ((ji21)).toNat * 8 + 4, none⟩ = some (.string ((rd_T27 x7_2 (ji21)).f4)) ∧ w'.cell? ⟨go27, ((ji21)).toNat * 8 + 5, none⟩ = some (.string ((rd_T27 x7_2 (ji21)).f5)) ∧ w'.cell? ⟨go27, ((ji21)).toNat * 8 + 6, none⟩ = some (.int .i64 ((rd_T27 x7_2 (ji21)).f6)) ∧ w'.cell? ⟨go27, ((ji21)).toNat * 8 + 7, none⟩ = some (.int .i64 ((rd_T27 x7_2 (ji21)).f7)) ∧ w'.cell? ⟨go27, ((ji24)).toNat * 8, none⟩ = some (.int .u64 ((rd_T27 x7_2 (ji24)).f0)) ∧ w'.cell? ⟨go27, ((ji24)).toNat * 8 + 1, none⟩ = some (.int .u64 ((rd_T27 x7_2 (ji24)).f1)) ∧ w'.cell? ⟨go27, ((ji24)).toNat * 8 + 2, none⟩ = some (.int .u64 ((rd_T27 x7_2 (ji24)).f2)) ∧ w'.cell? ⟨go27, ((ji24)).toNat * 8 + 3, none⟩ = some (.int .u8 ((rd_T27 x7_2 (ji24)).f3)) ∧ w'.cell? ⟨go27, ((ji24)).toNat * 8 + 4, none⟩ = some (.string ((rd_T27 x7_2 (ji24)).f4)) ∧ w'.cell? ⟨go27, ((ji24)).toNat * 8 + 5, none⟩ = some (.string ((rd_T27 x7_2 (ji24)).f5)) ∧ w'.cell? ⟨go27, ((ji24)).toNat * 8 + 6, none⟩ = some (.int .i64 ((rd_T27 x7_2 (ji24)).f6)) ∧ w'.cell? ⟨go27, ((ji24)).toNat * 8 + 7, none⟩ = some (.int .i64 ((rd_T27 x7_2 (ji24)).f7))) (ds := [13, 15]) #[false, false, false, false, false, false, false, false, false, false, false, false, false, false, false, false] (by kernel_rfl) rfl rfl ⟨hx117_0, hx117_1, hx117_2, hx117_3, hx117_4, hx117_5, hx117_6, hx117_7, hx118_0, hx118_1, hx118_2, hx118_3, hx118_4, hx118_5, hx118_6, hx118_7⟩ (fun hHeld => ?_); refine with_tabW merkhetlaw09_DedupeSet.tab9 merkhetlaw09_DedupeSet.bits9 (fun HT_ HW_ => ?_)
                                    generalize w31.drew = w32 at HO_7 HB GG27 HQ34 HQ35 hf27_0 hf27_1 hf27_2 hf27_3 hf27_4 hf27_5 hf27_6 hf27_7 hf28_0 hf28_1 hf28_2 hf28_3 hf28_4 hf28_5 hf28_6 hf28_7 hx117_0 hx117_1 hx117_2 hx117_3 hx117_4 hx117_5 hx117_6 hx117_7 hx118_0 hx118_1 hx118_2 hx118_3 hx118_4 hx118_5 hx118_6 hx118_7 hx27_0 hx27_1 hx27_2 hx27_3 hx27_4 hx27_5 hx27_6 hx27_7 hx28_0 hx28_1 hx28_2 hx28_3 hx28_4 hx28_5 hx28_6 hx28_7 hHeld ⊢
                                    refine pure_ (i := 0) (N := some 43) (v := ?_) (a' := ?_) #[true, false, false, false, false, false, false, false, false, false, false, false, false, false, false, false] rfl rfl (any_of HT_.out (by kernel_rfl)) (fun _ _ _ h => h) (Or.inl ⟨by rfl, ?_⟩) ?_ ?_
                                    rotate_left
                                    · intro w'
                                      go_simp
                                      with_reducible rfl
                                    rotate_left
                                    · simp only [Act.put, List.setIfInBounds_toArray, List.set_cons_zero, List.set_cons_succ, i64_w, i32_w]
                                      rfl
                                    refine pure_ (i := 1) (N := some 44) (v := ?_) (a' := ?_) #[true, true, false, false, false, false, false, false, false, false, false, false, false, false, false, false] rfl rfl (any_of HT_.out (by kernel_rfl)) (fun _ _ _ h => h) (Or.inl ⟨by rfl, ?_⟩) ?_ ?_
                                    rotate_left
                                    · intro w'
                                      go_simp
                                      with_reducible rfl
                                    rotate_left
                                    · simp only [Act.put, List.setIfInBounds_toArray, List.set_cons_zero, List.set_cons_succ, i64_w, i32_w]
                                      rfl
                                    refine pure_ (i := 2) (N := some 45) (v := ?_) (a' := ?_) #[true, true, true, false, false, false, false, false, false, false, false, false, false, false, false, false] rfl rfl (any_of HT_.out (by kernel_rfl)) (fun _ _ _ h => h) (Or.inl ⟨by rfl, ?_⟩) ?_ ?_
                                    rotate_left
                                    · intro w'
                                      go_simp
                                      with_reducible rfl
                                    rotate_left
                                    · simp only [Act.put, List.setIfInBounds_toArray, List.set_cons_zero, List.set_cons_succ, i64_w, i32_w]
                                      rfl
                                    refine pure_ (i := 3) (N := some 46) (v := ?_) (a' := ?_) #[true, true, true, true, false, false, false, false, false, false, false, false, false, false, false, false] rfl rfl (any_of HT_.out (by kernel_rfl)) (fun _ _ _ h => h) (Or.inl ⟨by rfl, ?_⟩) ?_ ?_
                                    rotate_left
                                    · intro w'
                                      go_simp
                                      with_reducible rfl
                                    rotate_left
                                    · simp only [Act.put, List.setIfInBounds_toArray, List.set_cons_zero, List.set_cons_succ, i64_w, i32_w]
                                      rfl
                                    refine pure_ (i := 4) (N := some 47) (v := ?_) (a' := ?_) #[true, true, true, true, true, false, false, false, false, false, false, false, false, false, false, false] rfl rfl (any_of HT_.out (by kernel_rfl)) (fun _ _ _ h => h) (Or.inl ⟨by rfl, ?_⟩) ?_ ?_
                                    rotate_left
                                    · intro w'
                                      go_simp
                                      with_reducible rfl
                                    rotate_left
                                    · simp only [Act.put, List.setIfInBounds_toArray, List.set_cons_zero, List.set_cons_succ, i64_w, i32_w]
                                      rfl
                                    refine pure_ (i := 5) (N := some 48) (v := ?_) (a' := ?_) #[true, true, true, true, true, true, false, false, false, false, false, false, false, false, false, false] rfl rfl (any_of HT_.out (by kernel_rfl)) (fun _ _ _ h => h) (Or.inl ⟨by rfl, ?_⟩) ?_ ?_
                                    rotate_left
                                    · intro w'
                                      go_simp
                                      with_reducible rfl
                                    rotate_left
                                    · simp only [Act.put, List.setIfInBounds_toArray, List.set_cons_zero, List.set_cons_succ, i64_w, i32_w]
                                      rfl
                                    refine pure_ (i := 6) (N := some 49) (v := ?_) (a' := ?_) #[true, true, true, true, true, true, true, false, false, false, false, false, false, false, false, false] rfl rfl (any_of HT_.out (by kernel_rfl)) (fun _ _ _ h => h) (Or.inl ⟨by rfl, ?_⟩) ?_ ?_
                                    rotate_left
                                    · intro w'
                                      go_simp
                                      with_reducible rfl
                                    rotate_left
                                    · simp only [Act.put, List.setIfInBounds_toArray, List.set_cons_zero, List.set_cons_succ, i64_w, i32_w]
                                      rfl
                                    refine pure_ (i := 8) (N := some 51) (v := ?_) (a' := ?_) #[true, true, true, true, true, true, true, false, true, false, false, false, false, false, false, false] rfl rfl (any_of HT_.out (by kernel_rfl)) (fun _ _ _ h => h) (Or.inl ⟨by rfl, ?_⟩) ?_ ?_
                                    rotate_left
                                    · intro w'
                                      go_simp
                                      with_reducible rfl
                                    rotate_left
                                    · simp only [Act.put, List.setIfInBounds_toArray, List.set_cons_zero, List.set_cons_succ, i64_w, i32_w]
                                      rfl
                                    refine pure_ (i := 9) (N := some 52) (v := ?_) (a' := ?_) #[true, true, true, true, true, true, true, false, true, true, false, false, false, false, false, false] rfl rfl (any_of HT_.out (by kernel_rfl)) (fun _ _ _ h => h) (Or.inl ⟨by rfl, ?_⟩) ?_ ?_
                                    rotate_left
                                    · intro w'
                                      go_simp
                                      with_reducible rfl
                                    rotate_left
                                    · simp only [Act.put, List.setIfInBounds_toArray, List.set_cons_zero, List.set_cons_succ, i64_w, i32_w]
                                      rfl
                                    refine pure_ (i := 10) (N := some 53) (v := ?_) (a' := ?_) #[true, true, true, true, true, true, true, false, true, true, true, false, false, false, false, false] rfl rfl (any_of HT_.out (by kernel_rfl)) (fun _ _ _ h => h) (Or.inl ⟨by rfl, ?_⟩) ?_ ?_
                                    rotate_left
                                    · intro w'
                                      go_simp
                                      with_reducible rfl
                                    rotate_left
                                    · simp only [Act.put, List.setIfInBounds_toArray, List.set_cons_zero, List.set_cons_succ, i64_w, i32_w]
                                      rfl
                                    refine take_ (i := 7) (N := some 50) (v := ?_) (a' := ?_) #[true, true, true, true, true, true, true, true, true, true, true, false, false, false, false, false] rfl rfl (take_ofW HT_.out HW_.out (by kernel_rfl)) (fun _ _ _ h => h) (Or.inl ⟨by rfl, ?_⟩) hHeld ?_ ?_
                                    rotate_left
                                    · rintro w' ⟨s0, s1, s2, s3, s4, s5, s6, s7, s8, s9, s10, s11, s12, s13, s14, s15⟩
                                      go_simp
                                      with_reducible rfl
                                    rotate_left
                                    · simp only [Act.put, List.setIfInBounds_toArray, List.set_cons_zero, List.set_cons_succ, i64_w, i32_w]
                                      rfl
                                    refine take_ (i := 11) (N := some 54) (v := ?_) (a' := ?_) #[true, true, true, true, true, true, true, true, true, true, true, true, false, false, false, false] rfl rfl (take_ofW HT_.out HW_.out (by kernel_rfl)) (fun _ _ _ h => h) (Or.inl ⟨by rfl, ?_⟩) hHeld ?_ ?_
                                    rotate_left
                                    · rintro w' ⟨s0, s1, s2, s3, s4, s5, s6, s7, s8, s9, s10, s11, s12, s13, s14, s15⟩
                                      go_simp
                                      with_reducible rfl
                                    rotate_left
                                    · simp only [Act.put, List.setIfInBounds_toArray, List.set_cons_zero, List.set_cons_succ, i64_w, i32_w]
                                      rfl
                                    refine pure_ (i := 12) (N := some 55) (v := ?_) (a' := ?_) #[true, true, true, true, true, true, true, true, true, true, true, true, true, false, false, false] rfl rfl (any_of HT_.out (by kernel_rfl)) (fun _ _ _ h => h) (Or.inl ⟨by rfl, ?_⟩) ?_ ?_
                                    rotate_left
                                    · intro w'
                                      go_simp
                                      with_reducible rfl
                                    rotate_left
                                    · simp only [Act.put, List.setIfInBounds_toArray, List.set_cons_zero, List.set_cons_succ, i64_w, i32_w]
                                      rfl
                                    try clear hf27_0
                                    try clear hf27_1
                                    try clear hf27_2
                                    try clear hf27_3
                                    try clear hf27_4
                                    try clear hf27_5
                                    try clear hf27_6
                                    try clear hf27_7
                                    try clear hf28_0
                                    try clear hf28_1
                                    try clear hf28_2
                                    try clear hf28_3
                                    try clear hf28_4
                                    try clear hf28_5
                                    try clear hf28_6
                                    try clear hf28_7
                                    try clear hx27_0
                                    try clear hx27_1
                                    try clear hx27_2
                                    try clear hx27_3
                                    try clear hx27_4
                                    try clear hx27_5
                                    try clear hx27_6
                                    try clear hx27_7
                                    try clear hx28_0
                                    try clear hx28_1
                                    try clear hx28_2
                                    try clear hx28_3
                                    try clear hx28_4
                                    try clear hx28_5
                                    try clear hx28_6
                                    try clear hx28_7
                                    try clear hx117_0
                                    try clear hx117_1
                                    try clear hx117_2
                                    try clear hx117_3
                                    try clear hx117_4
                                    try clear hx117_5
                                    try clear hx117_6
                                    try clear hx117_7
                                    try clear hx118_0
                                    try clear hx118_1
                                    try clear hx118_2
                                    try clear hx118_3
                                    try clear hx118_4
                                    try clear hx118_5
                                    try clear hx118_6
                                    try clear hx118_7
                                    try clear HQ34
                                    try clear HQ35
                                    try clear hHeld
                                    refine last_ (i := 13) (N := none) #[true, true, true, true, true, true, true, true, true, true, true, true, true, true, false, false] rfl rfl (one_of HT_.out (by kernel_rfl)) (by decide) (fun K hK => ?_)
                                    refine L.store_here (w0 := w) (base := w.heap.size) (g := go27) (o' := _) ji24 x7_2 (rd_T27 x7_2 ji21) (.tmp 55) (.tmp 50) rfl (by rfl) rfl rfl (by first | rfl | simp) rfl HO_7.out (of_decide_eq_true c25b0) (of_decide_eq_true c26b0) HB.out ?_
                                    intro w41 ho41 hb41
                                    have HO41 := Aside0.mk (show Kd.R k27 27 w41 w.heap.size (fun _ => True) _ y119 from Ny119.out ▸ ho41)
                                    clear ho41
                                    refine hK.out _ _ ?_
                                    clear hK K
                                    refine pure_ (i := 14) (N := some 56) (v := ?_) (a' := ?_) #[true, true, true, true, true, true, true, true, true, true, true, true, true, true, true, false] rfl rfl (any_of HT_.out (by kernel_rfl)) (fun _ _ _ h => h) (Or.inl ⟨by rfl, ?_⟩) ?_ ?_
                                    rotate_left
                                    · intro w'
                                      go_simp
                                      with_reducible rfl
                                    rotate_left
                                    · simp only [Act.put, List.setIfInBounds_toArray, List.set_cons_zero, List.set_cons_succ, i64_w, i32_w]
                                      rfl
                                    refine last_ (i := 15) (N := none) #[true, true, true, true, true, true, true, true, true, true, true, true, true, true, true, true] rfl rfl (one_of HT_.out (by kernel_rfl)) (by decide) (fun K hK => ?_)
                                    refine L.store_here (w0 := w) (base := w.heap.size) (g := go27) (o' := _) ji21 y119 (rd_T27 x7_2 ji24) (.tmp 56) (.tmp 54) rfl (by rfl) rfl rfl (by first | rfl | simp) rfl HO41.out (of_decide_eq_true c22b0) (of_decide_eq_true c23b0) hb41 ?_
                                    intro w42 ho42 hb42
                                    have HO42 := Aside0.mk (show Kd.R k27 27 w42 w.heap.size (fun _ => True) _ y120 from Ny120.out ▸ ho42)
                                    clear ho42 hb41
                                    refine hK.out _ _ ?_
                                    clear hK K
                                    refine done_ (done_of HT_.out (by kernel_rfl)) ?_
                                    clear HB
                                    have HB := Aside0.mk hb42
                                    clear hb42
                                    have p121 : 0 ≤ ((ji21) : Int) := of_decide_eq_true (by first | (with_reducible assumption) | assumption)
                                    have q121 : (ji21) < (l0.length : Int) := of_decide_eq_true (by first | (with_reducible assumption) | assumption)
                                    obtain ⟨ad121, e121, hx121_0, hx121_1, hx121_2, hx121_3, hx121_4, hx121_5, hx121_6, hx121_7⟩ := at_T27 HR0.out (ji21) p121 q121
                                    cases e121
                                    replace hx121_0 := (HB.out.cell (World.block_lt_of_cell? w _ hx121_0)).trans hx121_0
                                    replace hx121_1 := (HB.out.cell (World.block_lt_of_cell? w _ hx121_1)).trans hx121_1
                                    replace hx121_2 := (HB.out.cell (World.block_lt_of_cell? w _ hx121_2)).trans hx121_2
                                    replace hx121_3 := (HB.out.cell (World.block_lt_of_cell? w _ hx121_3)).trans hx121_3
                                    replace hx121_4 := (HB.out.cell (World.block_lt_of_cell? w _ hx121_4)).trans hx121_4
                                    replace hx121_5 := (HB.out.cell (World.block_lt_of_cell? w _ hx121_5)).trans hx121_5
                                    replace hx121_6 := (HB.out.cell (World.block_lt_of_cell? w _ hx121_6)).trans hx121_6
                                    replace hx121_7 := (HB.out.cell (World.block_lt_of_cell? w _ hx121_7)).trans hx121_7
                                    replace p121 := eq_true p121
                                    replace q121 := eq_true q121
                                    try go_wp2_with (first | ((with_reducible refine gate_builtin (b := .append) (xs := #[.tmp 57, .tmp 62]) rfl ?_); (try (refine gate_guard (by rfl) ?_; dsimp only)); at_builtin; refine Kd.R_append k27 (w0 := w) w.heap.size rfl (.tmp 57) (.tmp 62) 23 27 (.agg #[(.int .u64 0), (.int .u64 0), (.int .u64 0), (.int .u8 0), (.string ⟨#[]⟩), (.string ⟨#[]⟩), (.int .i64 0), (.int .i64 0)]) 80 rfl Try.underlying23 info27 rfl (by decide) (by omega) (.slice (some ⟨go27, 0, none⟩) x7_2.length co33) y120 (⟨(rd_T27 l0 (ji21)).f0, (rd_T27 l0 (ji21)).f1, (rd_T27 l0 (ji21)).f2, (rd_T27 l0 (ji21)).f3, (rd_T27 l0 (ji21)).f4, (rd_T27 l0 (ji21)).f5, (rd_T27 l0 (ji21)).f6, (rd_T27 l0 (ji21)).f7⟩ : S27) [.int .u64 ((rd_T27 l0 (ji21)).f0), .int .u64 ((rd_T27 l0 (ji21)).f1), .int .u64 ((rd_T27 l0 (ji21)).f2), .int .u8 ((rd_T27 l0 (ji21)).f3), .string ((rd_T27 l0 (ji21)).f4), .string ((rd_T27 l0 (ji21)).f5), .int .i64 ((rd_T27 l0 (ji21)).f6), .int .i64 ((rd_T27 l0 (ji21)).f7)] (fun _ => True) (fun _ => False) rfl (by first | (go_simp; done) | (go_simp; rfl)) ?aP (fun _ hk => hk.elim) ?aF ?aO ?aB ?aS ?aL ?_; (case aP => exact k27_mkM _ _ _ (⟨(rd_T27 l0 (ji21)).f0, (rd_T27 l0 (ji21)).f1, (rd_T27 l0 (ji21)).f2, (rd_T27 l0 (ji21)).f3, (rd_T27 l0 (ji21)).f4, (rd_T27 l0 (ji21)).f5, (rd_T27 l0 (ji21)).f6, (rd_T27 l0 (ji21)).f7⟩ : S27)); (case aB => exact (by repeat (first | (with_reducible first | exact HB.out | apply below_alloc | apply pw_below_drewN | apply below_drew1 | refine below_set ?_ GB27.out | refine below_set ?_ GB27.out | refine below_set ?_ GB27.out | refine below_set ?_ GB27.out | refine below_set ?_ GB27.out | refine below_set ?_ GB27.out | refine below_set ?_ GB27.out | refine below_set ?_ GB27.out | refine below_set ?_ GB27.out | refine below_set ?_ GB27.out | refine below_set ?_ GB27.out | refine below_set ?_ GB27.out | refine below_set ?_ GB27.out | refine below_set ?_ GB27.out | refine below_set ?_ GB27.out | refine below_set ?_ GB27.out) | exact HB.out))); (case aF => exact (fun _ _ => trivial)); (case aO => exact (by (with_reducible repeat (first | apply Kd.R_alloc | apply Kd.R_drewN | apply Kd.R_drew)); exact HO42.out)); (case aS => exact (below_size (by repeat (first | (with_reducible first | exact HB.out | apply below_alloc | apply pw_below_drewN | apply below_drew1 | refine below_set ?_ GB27.out | refine below_set ?_ GB27.out | refine below_set ?_ GB27.out | refine below_set ?_ GB27.out | refine below_set ?_ GB27.out | refine below_set ?_ GB27.out | refine below_set ?_ GB27.out | refine below_set ?_ GB27.out | refine below_set ?_ GB27.out | refine below_set ?_ GB27.out | refine below_set ?_ GB27.out | refine below_set ?_ GB27.out | refine below_set ?_ GB27.out | refine below_set ?_ GB27.out | refine below_set ?_ GB27.out | refine below_set ?_ GB27.out) | exact HB.out)))); (case aL => have := LMc30.out; omega); intro v123 w36 ho hb hg hat; rw [← Ny122.out] at ho; have n0_ := Aside0.mk (hb); have n1_ := Aside0.mk (ho); clear HB; clear HO_7; have HB := n0_; have HO124 := n1_; clear n0_ n1_; clear ho hb hg hat))
                                    go_roundg k2
                                    case measure => have := HJ3.out; have := HK2.out; omega
                                    case rel => exact ⟨(y122), (wrap64 (x26_2 + 1)), (by first | rfl | (simp; done) | (simp [*]; done)), H', ⟨by have := HJ3.out; have := HK2.out; omega⟩, ⟨by (with_reducible repeat (first | apply Kd.R_alloc | apply Kd.R_drewN | apply Kd.R_drew)); exact HO124.out⟩, ⟨by repeat (first | (with_reducible first | exact HB.out | apply below_alloc | apply pw_below_drewN | apply below_drew1) | exact HB.out)⟩⟩
                                  · rw [if_neg c30] at H
                                    exact absurd H (by simp)
                                · rw [if_neg c29] at H
                                  exact absurd H (by simp)
                              · rw [if_neg c26] at H
                                exact absurd H (by simp)
                            · rw [if_neg c25] at H
                              exact absurd H (by simp)
                          · rw [if_neg c23] at H
                            exact absurd H (by simp)
                        · rw [if_neg c22] at H
                          exact absurd H (by simp)
                    · rw [if_neg c19] at H
                      exact absurd H (by simp)
                  · rw [if_neg c18] at H
                    exact absurd H (by simp)
                · rw [if_neg c17] at H
                  have c17b0 : decide (x26_2 < (l2.length : Int)) = false := decide_eq_false c17
                  clear c17
                  (first | rw [c17b0] | (simp only [i64_w, i32_w]; rw [c17b0]) | skip)
                  have H' := Aside0.mk H
                  clear H
                  go_wp2
                  go_meet
                  case rel => exact ⟨_, (x7_2), H', ⟨by have := HJ3.out; have := HK2.out; first | omega | exact Nat.le_refl _⟩, ⟨by (with_reducible repeat (first | apply Kd.R_alloc | apply Kd.R_drewN | apply Kd.R_drew)); exact HO_7.out⟩, ⟨by repeat (first | (with_reducible first | exact HB.out | apply below_alloc | apply pw_below_drewN | apply below_drew1) | exact HB.out)⟩⟩
          case rest =>
            clear HC13
            try clear c1
            try clear p1
            try clear q1
            try clear hx1
            try clear c2
            try clear p2
            try clear q2
            try clear hx2
            try clear c3
            try clear p6
            try clear p11
            try clear q11
            try clear hx11
            try clear p12
            try clear q12
            try clear hx12
            try clear c17
            try clear c17b0
            try clear c18
            try clear c19
            try clear c20
            try clear c20b0
            try clear c20b1
            try clear c20b2
            try clear c22
            try clear c22b0
            try clear c23
            try clear c23b0
            try clear c25
            try clear c25b0
            try clear c26
            try clear c26b0
            try clear c27
            try clear p27
            try clear q27
            try clear hx27
            try clear hf27
            try clear c28
            try clear p28
            try clear q28
            try clear hx28
            try clear hf28
            try clear c29
            try clear c29b0
            try clear c30
            try clear c34
            try clear c35
            try clear hx116_0
            try clear hx117_0
            try clear hx117_1
            try clear hx117_2
            try clear hx117_3
            try clear hx117_4
            try clear hx117_5
            try clear hx117_6
            try clear hx117_7
            try clear hx118_0
            try clear hx118_1
            try clear hx118_2
            try clear hx118_3
            try clear hx118_4
            try clear hx118_5
            try clear hx118_6
            try clear hx118_7
            try clear hx121_0
            try clear hx121_1
            try clear hx121_2
            try clear hx121_3
            try clear hx121_4
            try clear hx121_5
            try clear hx121_6
            try clear hx121_7
            try clear hx27_0
            try clear hx27_1
            try clear hx27_2
            try clear hx27_3
            try clear hx27_4
            try clear hx27_5
            try clear hx27_6
            try clear hx27_7
            try clear hx28_0
            try clear hx28_1
            try clear hx28_2
            try clear hx28_3
            try clear hx28_4
            try clear hx28_5
            try clear hx28_6
            try clear hx28_7
            try clear p116
            try clear p117
            try clear p118
            try clear p121
            try clear p27
            try clear p28
            try clear q116
            try clear q117
            try clear q118
            try clear q121
            try clear q27
            try clear q28
            obtain ⟨kq, x7_12, HA, HJ12, HO_7, HB⟩ := hcut
            cases kq with
            | zero => exact absurd HA.out (by simp [merkhetlaw09_DedupeSet.j2])
            | succ kj12 =>
              have H := HA.out
              clear HA
              simp only [merkhetlaw09_DedupeSet.j2] at H
              replace H := Option.bind_eq_some_iff.mp H
              obtain ⟨t125, A370, H⟩ := H
              replace H : ((merkhetlaw09_fixed.f).bind fun t128 => (if t128 = true then ((dedupe_Of.f x7_12 a1).bind fun t129 => ((merkhetref01_Same.f kj12 t125 t129).bind fun t132 => (if t132 = true then ((dedupe_Of.f t125 a1).bind fun t133 => ((merkhetref01_Same.f kj12 t125 t133).bind fun t136 => (some t136))) else (some false)))) else (some false))) = some r := H
              have A37 := Aside0.mk A370
              clear A370
              replace H := Option.bind_eq_some_iff.mp H
              obtain ⟨t128, A380, H⟩ := H
              replace H : (if t128 = true then ((dedupe_Of.f x7_12 a1).bind fun t129 => ((merkhetref01_Same.f kj12 t125 t129).bind fun t132 => (if t132 = true then ((dedupe_Of.f t125 a1).bind fun t133 => ((merkhetref01_Same.f kj12 t125 t133).bind fun t136 => (some t136))) else (some false)))) else (some false)) = some r := H
              have A38 := Aside0.mk A380
              clear A380
              by_cases c39 : t128 = true
              · subst c39
                have H1 : ((dedupe_Of.f x7_12 a1).bind fun t129 => ((merkhetref01_Same.f kj12 t125 t129).bind fun t132 => (if t132 = true then ((dedupe_Of.f t125 a1).bind fun t133 => ((merkhetref01_Same.f kj12 t125 t133).bind fun t136 => (some t136))) else (some false)))) = some r := by rw [if_pos rfl] at H; exact H
                clear H
                have H := H1
                clear H1
                replace H := Option.bind_eq_some_iff.mp H
                obtain ⟨t129, A400, H⟩ := H
                replace H : ((merkhetref01_Same.f kj12 t125 t129).bind fun t132 => (if t132 = true then ((dedupe_Of.f t125 a1).bind fun t133 => ((merkhetref01_Same.f kj12 t125 t133).bind fun t136 => (some t136))) else (some false))) = some r := H
                have A40 := Aside0.mk A400
                clear A400
                replace H := Option.bind_eq_some_iff.mp H
                obtain ⟨t132, A410, H⟩ := H
                replace H : (if t132 = true then ((dedupe_Of.f t125 a1).bind fun t133 => ((merkhetref01_Same.f kj12 t125 t133).bind fun t136 => (some t136))) else (some false)) = some r := H
                have A41 := Aside0.mk A410
                clear A410
                by_cases c42 : t132 = true
                · subst c42
                  have H1 : ((dedupe_Of.f t125 a1).bind fun t133 => ((merkhetref01_Same.f kj12 t125 t133).bind fun t136 => (some t136))) = some r := by rw [if_pos rfl] at H; exact H
                  clear H
                  have H := H1
                  clear H1
                  replace H := Option.bind_eq_some_iff.mp H
                  obtain ⟨t133, A430, H⟩ := H
                  replace H : ((merkhetref01_Same.f kj12 t125 t133).bind fun t136 => (some t136)) = some r := H
                  have A43 := Aside0.mk A430
                  clear A430
                  replace H := Option.bind_eq_some_iff.mp H
                  obtain ⟨t136, A440, H⟩ := H
                  replace H : (some t136) = some r := H
                  have A44 := Aside0.mk A440
                  clear A440
                  obtain rfl := Option.some.inj H
                  go_wp2_with (first | ((with_reducible refine gate_callee (f := 35) rfl ?_); refine goesL_ (some 67) rfl rfl Try.func35 (by kernel_rfl) rfl #[.slice A0 l0.length c0, .int .u64 a1] rfl (by (try simp only [List.map_toArray, List.map_cons, List.map_nil]); first | done | rfl | (simp only [List.length_drop, List.length_take]; rfl)) ?_; (with_reducible refine (dedupe_Of.calls _ _ l0 a1 t125 _ ?side1 ?side2 A37.out).mono ?_); (case side1 => repeat (first | exact (Kd.C_below HR0.out HB.out) | (with_reducible refine Kd.C_alloc ?_ _) | (with_reducible refine Kd.C_drewN ?_ _) | (with_reducible refine Kd.C_drew ?_))); (case side2 => exact HC0.out); rintro e w45 ⟨v126, rfl, ho0, hb⟩; refine ⟨_, rfl, ?_⟩; have n0_ := Aside0.mk (Kd.R_elder' (by (with_reducible repeat (first | apply Kd.R_alloc | apply Kd.R_drewN | apply Kd.R_drew)); exact HO_7.out) (Kd.R_base ho0) hb); have n1_ := Aside0.mk (Kd.R_lower (Kd.R_new' ho0 (Kd.R_lt (by (with_reducible repeat (first | apply Kd.R_alloc | apply Kd.R_drewN | apply Kd.R_drew)); exact HO_7.out))) (below_size (by repeat (first | (with_reducible first | exact HB.out | apply below_alloc | apply pw_below_drewN | apply below_drew1) | exact HB.out)))); have n2_ := Aside0.mk (below_step (by repeat (first | (with_reducible first | exact HB.out | apply below_alloc | apply pw_below_drewN | apply below_drew1) | exact HB.out)) hb); clear HO_7; clear HB; have HO_7 := n0_; have HO127 := n1_; have HB := n2_; clear n0_ n1_ n2_; (try clear hb); (try clear hb2); (try clear hk); (try clear hi); (try clear ho0)) | ((with_reducible refine gate_callee (f := 34) rfl ?_); refine goesL_ (some 68) rfl rfl Try.func34 (by kernel_rfl) rfl #[] rfl (by (try simp only [List.map_toArray, List.map_cons, List.map_nil]); first | done | rfl | (simp only [List.length_drop, List.length_take]; rfl)) ?_; (with_reducible refine (merkhetlaw09_fixed.calls  true _ A38.out).mono ?_); rintro e w46 ⟨rfl, hb⟩; refine ⟨_, rfl, ?_⟩; have n0_ := Aside0.mk (Kd.R_below (by (with_reducible repeat (first | apply Kd.R_alloc | apply Kd.R_drewN | apply Kd.R_drew)); exact HO_7.out) hb); have n1_ := Aside0.mk (Kd.R_below (by (with_reducible repeat (first | apply Kd.R_alloc | apply Kd.R_drewN | apply Kd.R_drew)); exact HO127.out) hb); have n2_ := Aside0.mk (below_step (by repeat (first | (with_reducible first | exact HB.out | apply below_alloc | apply pw_below_drewN | apply below_drew1) | exact HB.out)) hb); clear HO_7; clear HO127; clear HB; have HO_7 := n0_; have HO127 := n1_; have HB := n2_; clear n0_ n1_ n2_; (try clear hb); (try clear hb2); (try clear hk); (try clear hi); obtain ⟨Ao47, co47, eo47⟩ := Kd.R_slice HO_7.out; subst eo47) | (go_at_call 35; (with_reducible refine (dedupe_Of.calls _ _ x7_12 a1 t129 _ ?side1 ?side2 A40.out).mono ?_); (case side1 => repeat (first | exact (Kd.R_reads' HO_7.out).2.2 | (with_reducible refine Kd.C_alloc ?_ _) | (with_reducible refine Kd.C_drewN ?_ _) | (with_reducible refine Kd.C_drew ?_))); (case side2 => exact (Kd.R_reads' HO_7.out).2.1); rintro e w48 ⟨v130, rfl, ho0, hb⟩; have n0_ := Aside0.mk (Kd.R_elder' (by (with_reducible repeat (first | apply Kd.R_alloc | apply Kd.R_drewN | apply Kd.R_drew)); exact HO_7.out) (Kd.R_base ho0) hb); have n1_ := Aside0.mk (Kd.R_elder' (by (with_reducible repeat (first | apply Kd.R_alloc | apply Kd.R_drewN | apply Kd.R_drew)); exact HO127.out) (Kd.R_base ho0) hb); have n2_ := Aside0.mk (Kd.R_lower (Kd.R_new' (Kd.R_new' ho0 (Kd.R_lt (by (with_reducible repeat (first | apply Kd.R_alloc | apply Kd.R_drewN | apply Kd.R_drew)); exact HO_7.out))) (Kd.R_lt (by (with_reducible repeat (first | apply Kd.R_alloc | apply Kd.R_drewN | apply Kd.R_drew)); exact HO127.out))) (below_size (by repeat (first | (with_reducible first | exact HB.out | apply below_alloc | apply pw_below_drewN | apply below_drew1) | exact HB.out)))); have n3_ := Aside0.mk (below_step (by repeat (first | (with_reducible first | exact HB.out | apply below_alloc | apply pw_below_drewN | apply below_drew1) | exact HB.out)) hb); clear HO_7; clear HO127; clear HB; have HO_7 := n0_; have HO127 := n1_; have HO131 := n2_; have HB := n3_; clear n0_ n1_ n2_ n3_; (try clear hb); (try clear hb2); (try clear hk); (try clear hi); (try clear ho0); obtain ⟨Ao49, co49, eo49⟩ := Kd.R_slice HO127.out; subst eo49; obtain ⟨Ao50, co50, eo50⟩ := Kd.R_slice HO131.out; subst eo50) | (go_at_call 31; (with_reducible refine (merkhetref01_Same.calls kj12 _ _ t125 _ _ t129 true _ ?side1 ?side2 ?side3 ?side4 A41.out).mono ?_); (case side1 => repeat (first | exact (Kd.R_reads' HO127.out).2.2 | (with_reducible refine Kd.C_alloc ?_ _) | (with_reducible refine Kd.C_drewN ?_ _) | (with_reducible refine Kd.C_drew ?_))); (case side2 => exact (Kd.R_reads' HO127.out).2.1); (case side3 => repeat (first | exact (Kd.R_reads' HO131.out).2.2 | (with_reducible refine Kd.C_alloc ?_ _) | (with_reducible refine Kd.C_drewN ?_ _) | (with_reducible refine Kd.C_drew ?_))); (case side4 => exact (Kd.R_reads' HO131.out).2.1); rintro e w' ⟨rfl, ⟨nd, rfl⟩⟩) | (go_at_call 35; (with_reducible refine (dedupe_Of.calls _ _ t125 a1 t133 _ ?side1 ?side2 A43.out).mono ?_); (case side1 => repeat (first | exact (Kd.R_reads' HO127.out).2.2 | (with_reducible refine Kd.C_alloc ?_ _) | (with_reducible refine Kd.C_drewN ?_ _) | (with_reducible refine Kd.C_drew ?_))); (case side2 => exact (Kd.R_reads' HO127.out).2.1); rintro e w51 ⟨v134, rfl, ho0, hb⟩; have n0_ := Aside0.mk (Kd.R_elder' (by (with_reducible repeat (first | apply Kd.R_alloc | apply Kd.R_drewN | apply Kd.R_drew)); exact HO_7.out) (Kd.R_base ho0) hb); have n1_ := Aside0.mk (Kd.R_elder' (by (with_reducible repeat (first | apply Kd.R_alloc | apply Kd.R_drewN | apply Kd.R_drew)); exact HO127.out) (Kd.R_base ho0) hb); have n2_ := Aside0.mk (Kd.R_elder' (by (with_reducible repeat (first | apply Kd.R_alloc | apply Kd.R_drewN | apply Kd.R_drew)); exact HO131.out) (Kd.R_base ho0) hb); have n3_ := Aside0.mk (Kd.R_lower (Kd.R_new' (Kd.R_new' (Kd.R_new' ho0 (Kd.R_lt (by (with_reducible repeat (first | apply Kd.R_alloc | apply Kd.R_drewN | apply Kd.R_drew)); exact HO_7.out))) (Kd.R_lt (by (with_reducible repeat (first | apply Kd.R_alloc | apply Kd.R_drewN | apply Kd.R_drew)); exact HO127.out))) (Kd.R_lt (by (with_reducible repeat (first | apply Kd.R_alloc | apply Kd.R_drewN | apply Kd.R_drew)); exact HO131.out))) (below_size (by repeat (first | (with_reducible first | exact HB.out | apply below_alloc | apply pw_below_drewN | apply below_drew1) | exact HB.out)))); have n4_ := Aside0.mk (below_step (by repeat (first | (with_reducible first | exact HB.out | apply below_alloc | apply pw_below_drewN | apply below_drew1) | exact HB.out)) hb); clear HO_7; clear HO127; clear HO131; clear HB; have HO_7 := n0_; have HO127 := n1_; have HO131 := n2_; have HO135 := n3_; have HB := n4_; clear n0_ n1_ n2_ n3_ n4_; (try clear hb); (try clear hb2); (try clear hk); (try clear hi); (try clear ho0); obtain ⟨Ao52, co52, eo52⟩ := Kd.R_slice HO135.out; subst eo52) | (go_at_call 31; (with_reducible refine (merkhetref01_Same.calls kj12 _ _ t125 _ _ t133 t136 _ ?side1 ?side2 ?side3 ?side4 A44.out).mono ?_); (case side1 => repeat (first | exact (Kd.R_reads' HO127.out).2.2 | (with_reducible refine Kd.C_alloc ?_ _) | (with_reducible refine Kd.C_drewN ?_ _) | (with_reducible refine Kd.C_drew ?_))); (case side2 => exact (Kd.R_reads' HO127.out).2.1); (case side3 => repeat (first | exact (Kd.R_reads' HO135.out).2.2 | (with_reducible refine Kd.C_alloc ?_ _) | (with_reducible refine Kd.C_drewN ?_ _) | (with_reducible refine Kd.C_drew ?_))); (case side4 => exact (Kd.R_reads' HO135.out).2.1); rintro e w' ⟨rfl, ⟨nd, rfl⟩⟩))
                  go_ret
                  exact ⟨by first | rfl | (simp [errW_none, errW_some] <;> rfl) | (simp [*, errW_none, errW_some] <;> rfl), by repeat (first | (with_reducible first | exact HB.out | apply below_alloc | apply pw_below_drewN | apply below_drew1) | exact HB.out)⟩
                · replace c42 := Bool.eq_false_iff.mpr c42
                  subst c42
                  have H1 : (some false) = some r := by rw [if_neg (show ¬ (false = true) by decide)] at H; exact H
                  clear H
                  have H := H1
                  clear H1
                  obtain rfl := Option.some.inj H
                  go_wp2_with (first | ((with_reducible refine gate_callee (f := 35) rfl ?_); refine goesL_ (some 67) rfl rfl Try.func35 (by kernel_rfl) rfl #[.slice A0 l0.length c0, .int .u64 a1] rfl (by (try simp only [List.map_toArray, List.map_cons, List.map_nil]); first | done | rfl | (simp only [List.length_drop, List.length_take]; rfl)) ?_; (with_reducible refine (dedupe_Of.calls _ _ l0 a1 t125 _ ?side1 ?side2 A37.out).mono ?_); (case side1 => repeat (first | exact (Kd.C_below HR0.out HB.out) | (with_reducible refine Kd.C_alloc ?_ _) | (with_reducible refine Kd.C_drewN ?_ _) | (with_reducible refine Kd.C_drew ?_))); (case side2 => exact HC0.out); rintro e w53 ⟨v126, rfl, ho0, hb⟩; refine ⟨_, rfl, ?_⟩; have n0_ := Aside0.mk (Kd.R_elder' (by (with_reducible repeat (first | apply Kd.R_alloc | apply Kd.R_drewN | apply Kd.R_drew)); exact HO_7.out) (Kd.R_base ho0) hb); have n1_ := Aside0.mk (Kd.R_lower (Kd.R_new' ho0 (Kd.R_lt (by (with_reducible repeat (first | apply Kd.R_alloc | apply Kd.R_drewN | apply Kd.R_drew)); exact HO_7.out))) (below_size (by repeat (first | (with_reducible first | exact HB.out | apply below_alloc | apply pw_below_drewN | apply below_drew1) | exact HB.out)))); have n2_ := Aside0.mk (below_step (by repeat (first | (with_reducible first | exact HB.out | apply below_alloc | apply pw_below_drewN | apply below_drew1) | exact HB.out)) hb); clear HO_7; clear HB; have HO_7 := n0_; have HO127 := n1_; have HB := n2_; clear n0_ n1_ n2_; (try clear hb); (try clear hb2); (try clear hk); (try clear hi); (try clear ho0)) | ((with_reducible refine gate_callee (f := 34) rfl ?_); refine goesL_ (some 68) rfl rfl Try.func34 (by kernel_rfl) rfl #[] rfl (by (try simp only [List.map_toArray, List.map_cons, List.map_nil]); first | done | rfl | (simp only [List.length_drop, List.length_take]; rfl)) ?_; (with_reducible refine (merkhetlaw09_fixed.calls  true _ A38.out).mono ?_); rintro e w54 ⟨rfl, hb⟩; refine ⟨_, rfl, ?_⟩; have n0_ := Aside0.mk (Kd.R_below (by (with_reducible repeat (first | apply Kd.R_alloc | apply Kd.R_drewN | apply Kd.R_drew)); exact HO_7.out) hb); have n1_ := Aside0.mk (Kd.R_below (by (with_reducible repeat (first | apply Kd.R_alloc | apply Kd.R_drewN | apply Kd.R_drew)); exact HO127.out) hb); have n2_ := Aside0.mk (below_step (by repeat (first | (with_reducible first | exact HB.out | apply below_alloc | apply pw_below_drewN | apply below_drew1) | exact HB.out)) hb); clear HO_7; clear HO127; clear HB; have HO_7 := n0_; have HO127 := n1_; have HB := n2_; clear n0_ n1_ n2_; (try clear hb); (try clear hb2); (try clear hk); (try clear hi); obtain ⟨Ao55, co55, eo55⟩ := Kd.R_slice HO_7.out; subst eo55) | (go_at_call 35; (with_reducible refine (dedupe_Of.calls _ _ x7_12 a1 t129 _ ?side1 ?side2 A40.out).mono ?_); (case side1 => repeat (first | exact (Kd.R_reads' HO_7.out).2.2 | (with_reducible refine Kd.C_alloc ?_ _) | (with_reducible refine Kd.C_drewN ?_ _) | (with_reducible refine Kd.C_drew ?_))); (case side2 => exact (Kd.R_reads' HO_7.out).2.1); rintro e w56 ⟨v130, rfl, ho0, hb⟩; have n0_ := Aside0.mk (Kd.R_elder' (by (with_reducible repeat (first | apply Kd.R_alloc | apply Kd.R_drewN | apply Kd.R_drew)); exact HO_7.out) (Kd.R_base ho0) hb); have n1_ := Aside0.mk (Kd.R_elder' (by (with_reducible repeat (first | apply Kd.R_alloc | apply Kd.R_drewN | apply Kd.R_drew)); exact HO127.out) (Kd.R_base ho0) hb); have n2_ := Aside0.mk (Kd.R_lower (Kd.R_new' (Kd.R_new' ho0 (Kd.R_lt (by (with_reducible repeat (first | apply Kd.R_alloc | apply Kd.R_drewN | apply Kd.R_drew)); exact HO_7.out))) (Kd.R_lt (by (with_reducible repeat (first | apply Kd.R_alloc | apply Kd.R_drewN | apply Kd.R_drew)); exact HO127.out))) (below_size (by repeat (first | (with_reducible first | exact HB.out | apply below_alloc | apply pw_below_drewN | apply below_drew1) | exact HB.out)))); have n3_ := Aside0.mk (below_step (by repeat (first | (with_reducible first | exact HB.out | apply below_alloc | apply pw_below_drewN | apply below_drew1) | exact HB.out)) hb); clear HO_7; clear HO127; clear HB; have HO_7 := n0_; have HO127 := n1_; have HO131 := n2_; have HB := n3_; clear n0_ n1_ n2_ n3_; (try clear hb); (try clear hb2); (try clear hk); (try clear hi); (try clear ho0); obtain ⟨Ao57, co57, eo57⟩ := Kd.R_slice HO127.out; subst eo57; obtain ⟨Ao58, co58, eo58⟩ := Kd.R_slice HO131.out; subst eo58) | (go_at_call 31; (with_reducible refine (merkhetref01_Same.calls kj12 _ _ t125 _ _ t129 false _ ?side1 ?side2 ?side3 ?side4 A41.out).mono ?_); (case side1 => repeat (first | exact (Kd.R_reads' HO127.out).2.2 | (with_reducible refine Kd.C_alloc ?_ _) | (with_reducible refine Kd.C_drewN ?_ _) | (with_reducible refine Kd.C_drew ?_))); (case side2 => exact (Kd.R_reads' HO127.out).2.1); (case side3 => repeat (first | exact (Kd.R_reads' HO131.out).2.2 | (with_reducible refine Kd.C_alloc ?_ _) | (with_reducible refine Kd.C_drewN ?_ _) | (with_reducible refine Kd.C_drew ?_))); (case side4 => exact (Kd.R_reads' HO131.out).2.1); rintro e w' ⟨rfl, ⟨nd, rfl⟩⟩))
                  go_ret
                  exact ⟨by first | rfl | (simp [errW_none, errW_some] <;> rfl) | (simp [*, errW_none, errW_some] <;> rfl), by repeat (first | (with_reducible first | exact HB.out | apply below_alloc | apply pw_below_drewN | apply below_drew1) | exact HB.out)⟩
              · replace c39 := Bool.eq_false_iff.mpr c39
                subst c39
                have H1 : (some false) = some r := by rw [if_neg (show ¬ (false = true) by decide)] at H; exact H
                clear H
                have H := H1
                clear H1
                obtain rfl := Option.some.inj H
                go_wp2_with (first | ((with_reducible refine gate_callee (f := 35) rfl ?_); refine goesL_ (some 67) rfl rfl Try.func35 (by kernel_rfl) rfl #[.slice A0 l0.length c0, .int .u64 a1] rfl (by (try simp only [List.map_toArray, List.map_cons, List.map_nil]); first | done | rfl | (simp only [List.length_drop, List.length_take]; rfl)) ?_; (with_reducible refine (dedupe_Of.calls _ _ l0 a1 t125 _ ?side1 ?side2 A37.out).mono ?_); (case side1 => repeat (first | exact (Kd.C_below HR0.out HB.out) | (with_reducible refine Kd.C_alloc ?_ _) | (with_reducible refine Kd.C_drewN ?_ _) | (with_reducible refine Kd.C_drew ?_))); (case side2 => exact HC0.out); rintro e w59 ⟨v126, rfl, ho0, hb⟩; refine ⟨_, rfl, ?_⟩; have n0_ := Aside0.mk (Kd.R_elder' (by (with_reducible repeat (first | apply Kd.R_alloc | apply Kd.R_drewN | apply Kd.R_drew)); exact HO_7.out) (Kd.R_base ho0) hb); have n1_ := Aside0.mk (Kd.R_lower (Kd.R_new' ho0 (Kd.R_lt (by (with_reducible repeat (first | apply Kd.R_alloc | apply Kd.R_drewN | apply Kd.R_drew)); exact HO_7.out))) (below_size (by repeat (first | (with_reducible first | exact HB.out | apply below_alloc | apply pw_below_drewN | apply below_drew1) | exact HB.out)))); have n2_ := Aside0.mk (below_step (by repeat (first | (with_reducible first | exact HB.out | apply below_alloc | apply pw_below_drewN | apply below_drew1) | exact HB.out)) hb); clear HO_7; clear HB; have HO_7 := n0_; have HO127 := n1_; have HB := n2_; clear n0_ n1_ n2_; (try clear hb); (try clear hb2); (try clear hk); (try clear hi); (try clear ho0)) | ((with_reducible refine gate_callee (f := 34) rfl ?_); refine goesL_ (some 68) rfl rfl Try.func34 (by kernel_rfl) rfl #[] rfl (by (try simp only [List.map_toArray, List.map_cons, List.map_nil]); first | done | rfl | (simp only [List.length_drop, List.length_take]; rfl)) ?_; (with_reducible refine (merkhetlaw09_fixed.calls  false _ A38.out).mono ?_); rintro e w60 ⟨rfl, hb⟩; refine ⟨_, rfl, ?_⟩; have n0_ := Aside0.mk (Kd.R_below (by (with_reducible repeat (first | apply Kd.R_alloc | apply Kd.R_drewN | apply Kd.R_drew)); exact HO_7.out) hb); have n1_ := Aside0.mk (Kd.R_below (by (with_reducible repeat (first | apply Kd.R_alloc | apply Kd.R_drewN | apply Kd.R_drew)); exact HO127.out) hb); have n2_ := Aside0.mk (below_step (by repeat (first | (with_reducible first | exact HB.out | apply below_alloc | apply pw_below_drewN | apply below_drew1) | exact HB.out)) hb); clear HO_7; clear HO127; clear HB; have HO_7 := n0_; have HO127 := n1_; have HB := n2_; clear n0_ n1_ n2_; (try clear hb); (try clear hb2); (try clear hk); (try clear hi)))
                go_ret
                exact ⟨by first | rfl | (simp [errW_none, errW_some] <;> rfl) | (simp [*, errW_none, errW_some] <;> rfl), by repeat (first | (with_reducible first | exact HB.out | apply below_alloc | apply pw_below_drewN | apply below_drew1) | exact HB.out)⟩
        · rw [if_neg c12] at H
          exact absurd H (by simp)

end Go.Proofs.Ytkpmaenhkjfncaa.T
