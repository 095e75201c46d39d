-- Written by wip/tools/gp.py, a program of this session round the kit's printer. Lean checks it.
import Derived.Test.YtkpmaenhkjfncaaMx0
import Derived.Laws.Cover1
import Derived.Test.YtkpmaenhkjfncaaMx1
import Derived.Test.YtkpmaenhkjfncaaQx7
namespace Go.Proofs.Ytkpmaenhkjfncaa.M
open Go.RowKit Go.Proofs.Ytkpmaenhkjfncaa.Q Go.Proofs.YtkpmaenhkjfncaaW.PrintWords Go.Proofs.YtkpmaenhkjfncaaW.PrintLast Go.Proofs.YtkpmaenhkjfncaaW.PrintMore
attribute [local go_sem] max2_int min2_int max_two min_two max_three min_three max_four min_four   -- for this text's walks alone
set_option linter.unusedVariables false
set_option linter.unusedSimpArgs false

/-! ### merkhetlaw13_HostsAll: function 5 -/
mutual
def merkhetlaw13_HostsAll.l0 : Nat → List (S27) → List Int → List (List Int) → List Int → List (List Int) → Int → Int → Option (Bool)
  | 0, _, _, _, _, _, _, _ => none
  | k + 1, x0, x3, x4, x5, x27, x28, x29 => if x29 < x28 then (if 0 ≤ x29 then (if x29 < (x27.length : Int) then (merkhetlaw13_HostsAll.l1 k x0 x3 x4 x5 x29 (rd_L5 x27 x29) x27 x28 x29 (rd_L5 x27 x29) ((rd_L5 x27 x29).length : Int) 0) else (none)) else (none)) else (merkhetlaw13_HostsAll.l2 k x5 (x5.length : Int) 0)
def merkhetlaw13_HostsAll.l1 : Nat → List (S27) → List Int → List (List Int) → List Int → Int → List Int → List (List Int) → Int → Int → List Int → Int → Int → Option (Bool)
  | 0, _, _, _, _, _, _, _, _, _, _, _, _ => none
  | k + 1, x0, x3, x4, x5, x6, x7, x27, x28, x29, x34, x35, x36 => if x36 < x35 then (if 0 ≤ x36 then (if x36 < (x34.length : Int) then (if (rd x34 x36) < 0 then (some false) else (if (rd x34 x36) ≥ (x0.length : Int) then (some false) else (if 0 ≤ (rd x34 x36) then (if (rd x34 x36) < (x3.length : Int) then (if (rd x3 (rd x34 x36)) = x6 then (if (rd x34 x36) < (x5.length : Int) then (merkhetlaw13_HostsAll.l1 k x0 x3 x4 (x5.set ((rd x34 x36) : Int).toNat (wrap64 ((rd x5 (rd x34 x36)) + 1))) x6 x7 x27 x28 x29 x34 x35 (wrap64 (x36 + 1))) else (none)) else (some false)) else (none)) else (none)))) else (none)) else (none)) else (if (x7.length : Int) = 0 then (some false) else (if x6 > 0 then (if 0 ≤ (wrap64 (x6 - 1)) then (if (wrap64 (x6 - 1)) < (x4.length : Int) then (if 0 < ((rd_L5 x4 (wrap64 (x6 - 1))).length : Int) then (if 0 ≤ (rd (rd_L5 x4 (wrap64 (x6 - 1))) 0) then (if (rd (rd_L5 x4 (wrap64 (x6 - 1))) 0) < (x0.length : Int) then (if 0 < (x7.length : Int) then (if 0 ≤ (rd x7 0) then (if (rd x7 0) < (x0.length : Int) then (if ((Op.bytesLess (((rd_T27 x0 (rd (rd_L5 x4 (wrap64 (x6 - 1))) 0)).f4).toList) (((rd_T27 x0 (rd x7 0)).f4).toList)) = true) then (merkhetlaw13_HostsAll.l0 k x0 x3 x4 x5 x27 x28 (wrap64 (x29 + 1))) else (some false)) else (none)) else (none)) else (none)) else (none)) else (none)) else (none)) else (none)) else (none)) else (merkhetlaw13_HostsAll.l0 k x0 x3 x4 x5 x27 x28 (wrap64 (x29 + 1)))))
def merkhetlaw13_HostsAll.l2 : Nat → List Int → Int → Int → Option (Bool)
  | 0, _, _, _ => none
  | k + 1, x92, x93, x94 => if x94 < x93 then (if 0 ≤ x94 then (if x94 < (x92.length : Int) then (if (rd x92 x94) = 1 then (merkhetlaw13_HostsAll.l2 k x92 x93 (wrap64 (x94 + 1))) else (some false)) else (none)) else (none)) else ((merkhetlaw13_fixed.f k).bind fun t133 => (some t133))
end
def merkhetlaw13_HostsAll.f (k : Nat) (l0 : List (S27)) : Option (Bool) := (merkhetlaw04_Great.f k l0).bind fun t111 => (if t111 = true then ((merkhetlaw13_fixed.f k).bind fun t112 => (some t112)) else ((hosts_Of.f l0).bind fun t113 => ((hosts_Groups.f l0).bind fun t116 => (if (t113.length : Int) = (l0.length : Int) then (if 0 ≤ (l0.length : Int) then (if ((l0.length : Int) : Int).toNat ≤ 35184372088832 then (merkhetlaw13_HostsAll.l0 k l0 t113 t116 (List.replicate ((l0.length : Int) : Int).toNat 0) t116 (t116.length : Int) 0) else (none)) else (none)) else (some false)))))
theorem merkhetlaw13_HostsAll.mono_l : ∀ k, (∀ y0 y1 y2 y3 y4 y5 y6, LeO (merkhetlaw13_HostsAll.l0 k y0 y1 y2 y3 y4 y5 y6) (merkhetlaw13_HostsAll.l0 (k + 1) y0 y1 y2 y3 y4 y5 y6)) ∧ (∀ y0 y1 y2 y3 y4 y5 y6 y7 y8 y9 y10 y11, LeO (merkhetlaw13_HostsAll.l1 k y0 y1 y2 y3 y4 y5 y6 y7 y8 y9 y10 y11) (merkhetlaw13_HostsAll.l1 (k + 1) y0 y1 y2 y3 y4 y5 y6 y7 y8 y9 y10 y11)) ∧ (∀ y0 y1 y2, LeO (merkhetlaw13_HostsAll.l2 k y0 y1 y2) (merkhetlaw13_HostsAll.l2 (k + 1) y0 y1 y2))
  | 0 => ⟨fun _ _ _ _ _ _ _ r h => by simp [merkhetlaw13_HostsAll.l0] at h, fun _ _ _ _ _ _ _ _ _ _ _ _ r h => by simp [merkhetlaw13_HostsAll.l1] at h, fun _ _ _ r h => by simp [merkhetlaw13_HostsAll.l2] at h⟩
  | k + 1 => by
    obtain ⟨ih0, ih1, ih2⟩ := merkhetlaw13_HostsAll.mono_l k
    refine ⟨?_, ?_, ?_⟩
    · intro y0 y1 y2 y3 y4 y5 y6
      unfold merkhetlaw13_HostsAll.l0
      repeat' first
      | (with_reducible exact ih0 _ _ _ _ _ _ _)
      | (with_reducible exact ih1 _ _ _ _ _ _ _ _ _ _ _ _)
      | (with_reducible exact ih2 _ _ _)
      | (with_reducible exact merkhetlaw04_Great.mono _ _)
      | (with_reducible exact merkhetlaw13_fixed.mono _)
      | (with_reducible exact LeO.refl _)
      | (with_reducible exact LeO.none _)
      | (with_reducible refine LeO.ite ?_ ?_)
      | (with_reducible refine LeO.bind ?_ (fun _ => ?_))
      | exact ih0 _ _ _ _ _ _ _
      | exact ih1 _ _ _ _ _ _ _ _ _ _ _ _
      | exact ih2 _ _ _
      | exact merkhetlaw04_Great.mono _ _
      | exact merkhetlaw13_fixed.mono _
      | exact LeO.none _
      | refine LeO.ite ?_ ?_
      | refine LeO.bind ?_ (fun _ => ?_)
    · intro y0 y1 y2 y3 y4 y5 y6 y7 y8 y9 y10 y11
      unfold merkhetlaw13_HostsAll.l1
      repeat' first
      | (with_reducible exact ih0 _ _ _ _ _ _ _)
      | (with_reducible exact ih1 _ _ _ _ _ _ _ _ _ _ _ _)
      | (with_reducible exact ih2 _ _ _)
      | (with_reducible exact merkhetlaw04_Great.mono _ _)
      | (with_reducible exact merkhetlaw13_fixed.mono _)
      | (with_reducible exact LeO.refl _)
      | (with_reducible exact LeO.none _)
      | (with_reducible refine LeO.ite ?_ ?_)
      | (with_reducible refine LeO.bind ?_ (fun _ => ?_))
      | exact ih0 _ _ _ _ _ _ _
      | exact ih1 _ _ _ _ _ _ _ _ _ _ _ _
      | exact ih2 _ _ _
      | exact merkhetlaw04_Great.mono _ _
      | exact merkhetlaw13_fixed.mono _
      | exact LeO.none _
      | refine LeO.ite ?_ ?_
      | refine LeO.bind ?_ (fun _ => ?_)
    · intro y0 y1 y2
      unfold merkhetlaw13_HostsAll.l2
      repeat' first
      | (with_reducible exact ih0 _ _ _ _ _ _ _)
      | (with_reducible exact ih1 _ _ _ _ _ _ _ _ _ _ _ _)
      | (with_reducible exact ih2 _ _ _)
      | (with_reducible exact merkhetlaw04_Great.mono _ _)
      | (with_reducible exact merkhetlaw13_fixed.mono _)
      | (with_reducible exact LeO.refl _)
      | (with_reducible exact LeO.none _)
      | (with_reducible refine LeO.ite ?_ ?_)
      | (with_reducible refine LeO.bind ?_ (fun _ => ?_))
      | exact ih0 _ _ _ _ _ _ _
      | exact ih1 _ _ _ _ _ _ _ _ _ _ _ _
      | exact ih2 _ _ _
      | exact merkhetlaw04_Great.mono _ _
      | exact merkhetlaw13_fixed.mono _
      | exact LeO.none _
      | refine LeO.ite ?_ ?_
      | refine LeO.bind ?_ (fun _ => ?_)
theorem merkhetlaw13_HostsAll.mono : ∀ a0 k, LeO (merkhetlaw13_HostsAll.f k a0) (merkhetlaw13_HostsAll.f (k + 1) a0) := by
  intro a0 k
  obtain ⟨ih0, ih1, ih2⟩ := merkhetlaw13_HostsAll.mono_l k
  unfold merkhetlaw13_HostsAll.f
  repeat' first
      | (with_reducible exact ih0 _ _ _ _ _ _ _)
      | (with_reducible exact ih1 _ _ _ _ _ _ _ _ _ _ _ _)
      | (with_reducible exact ih2 _ _ _)
      | (with_reducible exact merkhetlaw04_Great.mono _ _)
      | (with_reducible exact merkhetlaw13_fixed.mono _)
      | (with_reducible exact LeO.refl _)
      | (with_reducible exact LeO.none _)
      | (with_reducible refine LeO.ite ?_ ?_)
      | (with_reducible refine LeO.bind ?_ (fun _ => ?_))
      | exact ih0 _ _ _ _ _ _ _
      | exact ih1 _ _ _ _ _ _ _ _ _ _ _ _
      | exact ih2 _ _ _
      | exact merkhetlaw04_Great.mono _ _
      | exact merkhetlaw13_fixed.mono _
      | exact LeO.none _
      | refine LeO.ite ?_ ?_
      | refine LeO.bind ?_ (fun _ => ?_)
set_option maxHeartbeats 8000000 in
set_option maxRecDepth 100000 in
theorem merkhetlaw13_HostsAll.calls (k : Nat) (A0 : Option Addr) (c0 : Nat) (l0 : List (S27)) (r : Bool) (w : World) (hr0 : Kd.C k27 w A0 l0.length l0) (hc0 : l0.length ≤ c0) (h : merkhetlaw13_HostsAll.f k l0 = some r) :
    Calls Try.prog 5 #[.slice A0 l0.length c0] w fun e w' => e = .returned (.bool r) ∧ Below w.heap.size w w' := by
  have HR0 := Aside0.mk hr0
  have HC0 := Aside0.mk hc0
  clear hr0 hc0
  have HB := Aside0.mk (Below.refl w.heap.size w)
  have H : ((merkhetlaw04_Great.f k l0).bind fun t111 => (if t111 = true then ((merkhetlaw13_fixed.f k).bind fun t112 => (some t112)) else ((hosts_Of.f l0).bind fun t113 => ((hosts_Groups.f l0).bind fun t116 => (if (t113.length : Int) = (l0.length : Int) then (if 0 ≤ (l0.length : Int) then (if ((l0.length : Int) : Int).toNat ≤ 35184372088832 then (merkhetlaw13_HostsAll.l0 k l0 t113 t116 (List.replicate ((l0.length : Int) : Int).toNat 0) t116 (t116.length : Int) 0) else (none)) else (none)) else (some false)))))) = some r := h
  clear h
  replace H := Option.bind_eq_some_iff.mp H
  obtain ⟨t111, A20, H⟩ := H
  replace H : (if t111 = true then ((merkhetlaw13_fixed.f k).bind fun t112 => (some t112)) else ((hosts_Of.f l0).bind fun t113 => ((hosts_Groups.f l0).bind fun t116 => (if (t113.length : Int) = (l0.length : Int) then (if 0 ≤ (l0.length : Int) then (if ((l0.length : Int) : Int).toNat ≤ 35184372088832 then (merkhetlaw13_HostsAll.l0 k l0 t113 t116 (List.replicate ((l0.length : Int) : Int).toNat 0) t116 (t116.length : Int) 0) else (none)) else (none)) else (some false))))) = some r := H
  have A2 := Aside0.mk A20
  clear A20
  by_cases c3 : t111 = true
  · subst c3
    have H1 : ((merkhetlaw13_fixed.f k).bind fun t112 => (some t112)) = some r := by rw [if_pos rfl] at H; exact H
    clear H
    have H := H1
    clear H1
    replace H := Option.bind_eq_some_iff.mp H
    obtain ⟨t112, A40, H⟩ := H
    replace H : (some t112) = some r := H
    have A4 := Aside0.mk A40
    clear A40
    obtain rfl := Option.some.inj H
    go_enter Try.func5, Try.ntmps5
    go_wp2_with (first | (go_at_call 15; (with_reducible refine (merkhetlaw04_Great.calls k _ _ l0 true _ ?side1 ?side2 A2.out).mono ?_); (case side1 => repeat (first | exact HR0.out | (with_reducible refine Kd.C_alloc ?_ _) | (with_reducible refine Kd.C_drewN ?_ _) | (with_reducible refine Kd.C_drew ?_))); (case side2 => exact HC0.out); rintro e w5 ⟨rfl, hb⟩; have n0_ := Aside0.mk (below_step (by repeat (first | (with_reducible first | exact HB.out | apply below_alloc | apply pw_below_drewN | apply below_drew1) | exact HB.out)) hb); clear HB; have HB := n0_; clear n0_; (try clear hb); (try clear hb2); (try clear hk); (try clear hi)) | (go_at_call 13; (with_reducible refine (merkhetlaw13_fixed.calls k  t112 _ A4.out).mono ?_); rintro e w6 ⟨rfl, hb⟩; have n0_ := Aside0.mk (below_step (by repeat (first | (with_reducible first | exact HB.out | apply below_alloc | apply pw_below_drewN | apply below_drew1) | exact HB.out)) hb); clear HB; have HB := n0_; clear n0_; (try clear hb); (try clear hb2); (try clear hk); (try clear hi)))
    repeat (go_quiet (first | (go_at_call 15; (with_reducible refine (merkhetlaw04_Great.calls k _ _ l0 true _ ?side1 ?side2 A2.out).mono ?_); (case side1 => repeat (first | exact HR0.out | (with_reducible refine Kd.C_alloc ?_ _) | (with_reducible refine Kd.C_drewN ?_ _) | (with_reducible refine Kd.C_drew ?_))); (case side2 => exact HC0.out); rintro e w5 ⟨rfl, hb⟩; have n0_ := Aside0.mk (below_step (by repeat (first | (with_reducible first | exact HB.out | apply below_alloc | apply pw_below_drewN | apply below_drew1) | exact HB.out)) hb); clear HB; have HB := n0_; clear n0_; (try clear hb); (try clear hb2); (try clear hk); (try clear hi)) | (go_at_call 13; (with_reducible refine (merkhetlaw13_fixed.calls k  t112 _ A4.out).mono ?_); rintro e w6 ⟨rfl, hb⟩; have n0_ := Aside0.mk (below_step (by repeat (first | (with_reducible first | exact HB.out | apply below_alloc | apply pw_below_drewN | apply below_drew1) | exact HB.out)) hb); clear HB; have HB := n0_; clear n0_; (try clear hb); (try clear hb2); (try clear hk); (try clear hi))); try go_wp2_with (first | (go_at_call 15; (with_reducible refine (merkhetlaw04_Great.calls k _ _ l0 true _ ?side1 ?side2 A2.out).mono ?_); (case side1 => repeat (first | exact HR0.out | (with_reducible refine Kd.C_alloc ?_ _) | (with_reducible refine Kd.C_drewN ?_ _) | (with_reducible refine Kd.C_drew ?_))); (case side2 => exact HC0.out); rintro e w5 ⟨rfl, hb⟩; have n0_ := Aside0.mk (below_step (by repeat (first | (with_reducible first | exact HB.out | apply below_alloc | apply pw_below_drewN | apply below_drew1) | exact HB.out)) hb); clear HB; have HB := n0_; clear n0_; (try clear hb); (try clear hb2); (try clear hk); (try clear hi)) | (go_at_call 13; (with_reducible refine (merkhetlaw13_fixed.calls k  t112 _ A4.out).mono ?_); rintro e w6 ⟨rfl, hb⟩; have n0_ := Aside0.mk (below_step (by repeat (first | (with_reducible first | exact HB.out | apply below_alloc | apply pw_below_drewN | apply below_drew1) | exact HB.out)) hb); clear HB; have HB := n0_; clear n0_; (try clear hb); (try clear hb2); (try clear hk); (try clear hi))))
    go_ret
    exact ⟨by first | rfl | (simp [errW_none, errW_some] <;> rfl) | (simp [*, errW_none, errW_some] <;> rfl), by repeat (first | (with_reducible first | exact HB.out | apply below_alloc | apply pw_below_drewN | apply below_drew1) | exact HB.out)⟩
  · replace c3 := Bool.eq_false_iff.mpr c3
    subst c3
    have H1 : ((hosts_Of.f l0).bind fun t113 => ((hosts_Groups.f l0).bind fun t116 => (if (t113.length : Int) = (l0.length : Int) then (if 0 ≤ (l0.length : Int) then (if ((l0.length : Int) : Int).toNat ≤ 35184372088832 then (merkhetlaw13_HostsAll.l0 k l0 t113 t116 (List.replicate ((l0.length : Int) : Int).toNat 0) t116 (t116.length : Int) 0) else (none)) else (none)) else (some false)))) = some r := by rw [if_neg (show ¬ (false = true) by decide)] at H; exact H
    clear H
    have H := H1
    clear H1
    replace H := Option.bind_eq_some_iff.mp H
    obtain ⟨t113, A70, H⟩ := H
    replace H : ((hosts_Groups.f l0).bind fun t116 => (if (t113.length : Int) = (l0.length : Int) then (if 0 ≤ (l0.length : Int) then (if ((l0.length : Int) : Int).toNat ≤ 35184372088832 then (merkhetlaw13_HostsAll.l0 k l0 t113 t116 (List.replicate ((l0.length : Int) : Int).toNat 0) t116 (t116.length : Int) 0) else (none)) else (none)) else (some false))) = some r := H
    have A7 := Aside0.mk A70
    clear A70
    replace H := Option.bind_eq_some_iff.mp H
    obtain ⟨t116, A80, H⟩ := H
    replace H : (if (t113.length : Int) = (l0.length : Int) then (if 0 ≤ (l0.length : Int) then (if ((l0.length : Int) : Int).toNat ≤ 35184372088832 then (merkhetlaw13_HostsAll.l0 k l0 t113 t116 (List.replicate ((l0.length : Int) : Int).toNat 0) t116 (t116.length : Int) 0) else (none)) else (none)) else (some false)) = some r := H
    have A8 := Aside0.mk A80
    clear A80
    by_cases c9 : (t113.length : Int) = (l0.length : Int)
    · rw [if_pos c9] at H
      have c9b0 : ((t113.length : Int) == (l0.length : Int)) = true := beq_iff_eq.mpr c9
      have c9b1 : ((t113.length : Int) != (l0.length : Int)) = false := bne_eq_false_iff_eq.mpr c9
      have c9b2 : (t113.length == l0.length) = true := by first | simpa using c9 | (simp at c9 ⊢; omega)
      clear c9
      by_cases c10 : 0 ≤ (l0.length : Int)
      · rw [if_pos c10] at H
        have c10b0 := eq_true c10
        have c10b1 : decide (0 ≤ (l0.length : Int)) = true := decide_eq_true c10
        clear c10
        by_cases c11 : ((l0.length : Int) : Int).toNat ≤ 35184372088832
        · rw [if_pos c11] at H
          have c11b0 := eq_true c11
          have c11b1 : decide (((l0.length : Int) : Int).toNat ≤ 35184372088832) = true := decide_eq_true c11
          clear c11
          obtain ⟨y119, hy119⟩ : ∃ y_ : List Int, y_ = (List.replicate ((l0.length : Int) : Int).toNat 0) := ⟨_, rfl⟩
          replace H : (merkhetlaw13_HostsAll.l0 k l0 t113 t116 y119 t116 (t116.length : Int) 0) = some r := by first | (rw [hy119]; with_reducible exact H) | (have H2_ := (Option.bind_some _ _).symm.trans H; rw [hy119]; with_reducible exact H2_) | (have H2_ := (Option.bind_some _ _).symm.trans H; with_reducible exact H2_) | with_reducible exact H | (rw [hy119]; exact H) | exact H
          have Ny119 := Aside0.mk hy119
          clear hy119
          have H' := Aside0.mk H
          clear H
          go_enter Try.func5, Try.ntmps5
          go_wp2_with (first | (go_at_call 15; (with_reducible refine (merkhetlaw04_Great.calls k _ _ l0 false _ ?side1 ?side2 A2.out).mono ?_); (case side1 => repeat (first | exact HR0.out | (with_reducible refine Kd.C_alloc ?_ _) | (with_reducible refine Kd.C_drewN ?_ _) | (with_reducible refine Kd.C_drew ?_))); (case side2 => exact HC0.out); rintro e w12 ⟨rfl, hb⟩; have n0_ := Aside0.mk (below_step (by repeat (first | (with_reducible first | exact HB.out | apply below_alloc | apply pw_below_drewN | apply below_drew1) | exact HB.out)) hb); clear HB; have HB := n0_; clear n0_; (try clear hb); (try clear hb2); (try clear hk); (try clear hi)) | (go_at_call 19; (with_reducible refine (hosts_Of.calls _ _ l0 t113 _ ?side1 ?side2 A7.out).mono ?_); (case side1 => repeat (first | exact (Kd.C_below HR0.out HB.out) | (with_reducible refine Kd.C_alloc ?_ _) | (with_reducible refine Kd.C_drewN ?_ _) | (with_reducible refine Kd.C_drew ?_))); (case side2 => exact HC0.out); rintro e w13 ⟨v114, rfl, ho0, hb⟩; have n0_ := Aside0.mk (Kd.R_lower ho0 (below_size (by repeat (first | (with_reducible first | exact HB.out | apply below_alloc | apply pw_below_drewN | apply below_drew1) | exact HB.out)))); have n1_ := Aside0.mk (below_step (by repeat (first | (with_reducible first | exact HB.out | apply below_alloc | apply pw_below_drewN | apply below_drew1) | exact HB.out)) hb); clear HB; have HO115 := n0_; have HB := n1_; clear n0_ n1_; (try clear hb); (try clear hb2); (try clear hk); (try clear hi); (try clear ho0)) | (go_at_call 16; (with_reducible refine (hosts_Groups.calls _ _ l0 t116 _ ?side1 ?side2 A8.out).mono ?_); (case side1 => repeat (first | exact (Kd.C_below HR0.out HB.out) | (with_reducible refine Kd.C_alloc ?_ _) | (with_reducible refine Kd.C_drewN ?_ _) | (with_reducible refine Kd.C_drew ?_))); (case side2 => exact HC0.out); rintro e w14 ⟨v117, rfl, ho0, hb⟩; have n0_ := Aside0.mk (Kd.R_below (by (with_reducible repeat (first | apply Kd.R_alloc | apply Kd.R_drewN | apply Kd.R_drew)); exact HO115.out) hb); have n1_ := Aside0.mk (Kd.S_lower (Kd.S_new' ho0 (Kd.R_lt (by (with_reducible repeat (first | apply Kd.R_alloc | apply Kd.R_drewN | apply Kd.R_drew)); exact HO115.out))) (below_size (by repeat (first | (with_reducible first | exact HB.out | apply below_alloc | apply pw_below_drewN | apply below_drew1) | exact HB.out)))); have n2_ := Aside0.mk (below_step (by repeat (first | (with_reducible first | exact HB.out | apply below_alloc | apply pw_below_drewN | apply below_drew1) | exact HB.out)) hb); clear HO115; clear HB; have HO115 := n0_; have HO118 := n1_; have HB := n2_; clear n0_ n1_ n2_; (try clear hb); (try clear hb2); (try clear hk); (try clear hi); (try clear ho0); obtain ⟨Ao15, co15, eo15⟩ := Kd.R_slice HO115.out; subst eo15) | ((with_reducible refine gate_dst (N := 26) rfl ?_); (try (refine gate_guard (by rfl) ?_; dsimp only)); refine Kd.R_make (Kd.int .i64) _ 3 rfl (N := 26) rfl 34 _ _ rfl (l0.length : Int) rfl rfl Try.underlying34 (.int .i64 0) 8 info3 rfl (by decide) (by omega) 0 (ok := fun _ => True) (okp := fun _ => True) rfl (fun _ hk => hk) trivial (of_decide_eq_true (by first | (with_reducible assumption) | assumption)) (Nat.le_trans (Nat.mul_le_mul_right _ (of_decide_eq_true (by first | (with_reducible assumption) | assumption) : (l0.length : Int).toNat ≤ 35184372088832)) (by omega)) (Below.refl _ _) (Nat.le_refl _) ?_; intro v120 w16 ho17 hb hg_ hnew_; clear hg_ hnew_; (first | rw [← Ny119.out] at ho17 | (simp only [Int.reduceToNat] at ho17; rw [← Ny119.out] at ho17)); have n0_ := Aside0.mk (Kd.R_elder' (by (with_reducible repeat (first | apply Kd.R_alloc | apply Kd.R_drewN | apply Kd.R_drew)); exact HO115.out) (Kd.R_base ho17) hb); have n1_ := Aside0.mk (Kd.S_elder' (by (with_reducible repeat (first | apply Kd.S_alloc | apply Kd.S_drewN | apply Kd.S_drew)); exact HO118.out) (Kd.R_base ho17) hb); have n2_ := Aside0.mk (Kd.R_lower (Kd.R_new' ho17 (Kd.R_lt (by (with_reducible repeat (first | apply Kd.R_alloc | apply Kd.R_drewN | apply Kd.R_drew)); exact HO115.out))) (below_size (by repeat (first | (with_reducible first | exact HB.out | apply below_alloc | apply pw_below_drewN | apply below_drew1) | exact HB.out)))); have n3_ := Aside0.mk (below_step (by repeat (first | (with_reducible first | exact HB.out | apply below_alloc | apply pw_below_drewN | apply below_drew1) | exact HB.out)) hb); clear HO115; clear HO118; clear HB; have HO115 := n0_; have HO118 := n1_; have HO121 := n2_; have HB := n3_; clear n0_ n1_ n2_ n3_; clear hb ho17; obtain ⟨Ao18, co18, eo18⟩ := Kd.S_slice HO118.out; subst eo18))
          repeat (go_quiet (first | (go_at_call 15; (with_reducible refine (merkhetlaw04_Great.calls k _ _ l0 false _ ?side1 ?side2 A2.out).mono ?_); (case side1 => repeat (first | exact HR0.out | (with_reducible refine Kd.C_alloc ?_ _) | (with_reducible refine Kd.C_drewN ?_ _) | (with_reducible refine Kd.C_drew ?_))); (case side2 => exact HC0.out); rintro e w12 ⟨rfl, hb⟩; have n0_ := Aside0.mk (below_step (by repeat (first | (with_reducible first | exact HB.out | apply below_alloc | apply pw_below_drewN | apply below_drew1) | exact HB.out)) hb); clear HB; have HB := n0_; clear n0_; (try clear hb); (try clear hb2); (try clear hk); (try clear hi)) | (go_at_call 19; (with_reducible refine (hosts_Of.calls _ _ l0 t113 _ ?side1 ?side2 A7.out).mono ?_); (case side1 => repeat (first | exact (Kd.C_below HR0.out HB.out) | (with_reducible refine Kd.C_alloc ?_ _) | (with_reducible refine Kd.C_drewN ?_ _) | (with_reducible refine Kd.C_drew ?_))); (case side2 => exact HC0.out); rintro e w13 ⟨v114, rfl, ho0, hb⟩; have n0_ := Aside0.mk (Kd.R_lower ho0 (below_size (by repeat (first | (with_reducible first | exact HB.out | apply below_alloc | apply pw_below_drewN | apply below_drew1) | exact HB.out)))); have n1_ := Aside0.mk (below_step (by repeat (first | (with_reducible first | exact HB.out | apply below_alloc | apply pw_below_drewN | apply below_drew1) | exact HB.out)) hb); clear HB; have HO115 := n0_; have HB := n1_; clear n0_ n1_; (try clear hb); (try clear hb2); (try clear hk); (try clear hi); (try clear ho0)) | (go_at_call 16; (with_reducible refine (hosts_Groups.calls _ _ l0 t116 _ ?side1 ?side2 A8.out).mono ?_); (case side1 => repeat (first | exact (Kd.C_below HR0.out HB.out) | (with_reducible refine Kd.C_alloc ?_ _) | (with_reducible refine Kd.C_drewN ?_ _) | (with_reducible refine Kd.C_drew ?_))); (case side2 => exact HC0.out); rintro e w14 ⟨v117, rfl, ho0, hb⟩; have n0_ := Aside0.mk (Kd.R_below (by (with_reducible repeat (first | apply Kd.R_alloc | apply Kd.R_drewN | apply Kd.R_drew)); exact HO115.out) hb); have n1_ := Aside0.mk (Kd.S_lower (Kd.S_new' ho0 (Kd.R_lt (by (with_reducible repeat (first | apply Kd.R_alloc | apply Kd.R_drewN | apply Kd.R_drew)); exact HO115.out))) (below_size (by repeat (first | (with_reducible first | exact HB.out | apply below_alloc | apply pw_below_drewN | apply below_drew1) | exact HB.out)))); have n2_ := Aside0.mk (below_step (by repeat (first | (with_reducible first | exact HB.out | apply below_alloc | apply pw_below_drewN | apply below_drew1) | exact HB.out)) hb); clear HO115; clear HB; have HO115 := n0_; have HO118 := n1_; have HB := n2_; clear n0_ n1_ n2_; (try clear hb); (try clear hb2); (try clear hk); (try clear hi); (try clear ho0); obtain ⟨Ao15, co15, eo15⟩ := Kd.R_slice HO115.out; subst eo15) | ((with_reducible refine gate_dst (N := 26) rfl ?_); (try (refine gate_guard (by rfl) ?_; dsimp only)); refine Kd.R_make (Kd.int .i64) _ 3 rfl (N := 26) rfl 34 _ _ rfl (l0.length : Int) rfl rfl Try.underlying34 (.int .i64 0) 8 info3 rfl (by decide) (by omega) 0 (ok := fun _ => True) (okp := fun _ => True) rfl (fun _ hk => hk) trivial (of_decide_eq_true (by first | (with_reducible assumption) | assumption)) (Nat.le_trans (Nat.mul_le_mul_right _ (of_decide_eq_true (by first | (with_reducible assumption) | assumption) : (l0.length : Int).toNat ≤ 35184372088832)) (by omega)) (Below.refl _ _) (Nat.le_refl _) ?_; intro v120 w16 ho17 hb hg_ hnew_; clear hg_ hnew_; (first | rw [← Ny119.out] at ho17 | (simp only [Int.reduceToNat] at ho17; rw [← Ny119.out] at ho17)); have n0_ := Aside0.mk (Kd.R_elder' (by (with_reducible repeat (first | apply Kd.R_alloc | apply Kd.R_drewN | apply Kd.R_drew)); exact HO115.out) (Kd.R_base ho17) hb); have n1_ := Aside0.mk (Kd.S_elder' (by (with_reducible repeat (first | apply Kd.S_alloc | apply Kd.S_drewN | apply Kd.S_drew)); exact HO118.out) (Kd.R_base ho17) hb); have n2_ := Aside0.mk (Kd.R_lower (Kd.R_new' ho17 (Kd.R_lt (by (with_reducible repeat (first | apply Kd.R_alloc | apply Kd.R_drewN | apply Kd.R_drew)); exact HO115.out))) (below_size (by repeat (first | (with_reducible first | exact HB.out | apply below_alloc | apply pw_below_drewN | apply below_drew1) | exact HB.out)))); have n3_ := Aside0.mk (below_step (by repeat (first | (with_reducible first | exact HB.out | apply below_alloc | apply pw_below_drewN | apply below_drew1) | exact HB.out)) hb); clear HO115; clear HO118; clear HB; have HO115 := n0_; have HO118 := n1_; have HO121 := n2_; have HB := n3_; clear n0_ n1_ n2_ n3_; clear hb ho17; obtain ⟨Ao18, co18, eo18⟩ := Kd.S_slice HO118.out; subst eo18)); try go_wp2_with (first | (go_at_call 15; (with_reducible refine (merkhetlaw04_Great.calls k _ _ l0 false _ ?side1 ?side2 A2.out).mono ?_); (case side1 => repeat (first | exact HR0.out | (with_reducible refine Kd.C_alloc ?_ _) | (with_reducible refine Kd.C_drewN ?_ _) | (with_reducible refine Kd.C_drew ?_))); (case side2 => exact HC0.out); rintro e w12 ⟨rfl, hb⟩; have n0_ := Aside0.mk (below_step (by repeat (first | (with_reducible first | exact HB.out | apply below_alloc | apply pw_below_drewN | apply below_drew1) | exact HB.out)) hb); clear HB; have HB := n0_; clear n0_; (try clear hb); (try clear hb2); (try clear hk); (try clear hi)) | (go_at_call 19; (with_reducible refine (hosts_Of.calls _ _ l0 t113 _ ?side1 ?side2 A7.out).mono ?_); (case side1 => repeat (first | exact (Kd.C_below HR0.out HB.out) | (with_reducible refine Kd.C_alloc ?_ _) | (with_reducible refine Kd.C_drewN ?_ _) | (with_reducible refine Kd.C_drew ?_))); (case side2 => exact HC0.out); rintro e w13 ⟨v114, rfl, ho0, hb⟩; have n0_ := Aside0.mk (Kd.R_lower ho0 (below_size (by repeat (first | (with_reducible first | exact HB.out | apply below_alloc | apply pw_below_drewN | apply below_drew1) | exact HB.out)))); have n1_ := Aside0.mk (below_step (by repeat (first | (with_reducible first | exact HB.out | apply below_alloc | apply pw_below_drewN | apply below_drew1) | exact HB.out)) hb); clear HB; have HO115 := n0_; have HB := n1_; clear n0_ n1_; (try clear hb); (try clear hb2); (try clear hk); (try clear hi); (try clear ho0)) | (go_at_call 16; (with_reducible refine (hosts_Groups.calls _ _ l0 t116 _ ?side1 ?side2 A8.out).mono ?_); (case side1 => repeat (first | exact (Kd.C_below HR0.out HB.out) | (with_reducible refine Kd.C_alloc ?_ _) | (with_reducible refine Kd.C_drewN ?_ _) | (with_reducible refine Kd.C_drew ?_))); (case side2 => exact HC0.out); rintro e w14 ⟨v117, rfl, ho0, hb⟩; have n0_ := Aside0.mk (Kd.R_below (by (with_reducible repeat (first | apply Kd.R_alloc | apply Kd.R_drewN | apply Kd.R_drew)); exact HO115.out) hb); have n1_ := Aside0.mk (Kd.S_lower (Kd.S_new' ho0 (Kd.R_lt (by (with_reducible repeat (first | apply Kd.R_alloc | apply Kd.R_drewN | apply Kd.R_drew)); exact HO115.out))) (below_size (by repeat (first | (with_reducible first | exact HB.out | apply below_alloc | apply pw_below_drewN | apply below_drew1) | exact HB.out)))); have n2_ := Aside0.mk (below_step (by repeat (first | (with_reducible first | exact HB.out | apply below_alloc | apply pw_below_drewN | apply below_drew1) | exact HB.out)) hb); clear HO115; clear HB; have HO115 := n0_; have HO118 := n1_; have HB := n2_; clear n0_ n1_ n2_; (try clear hb); (try clear hb2); (try clear hk); (try clear hi); (try clear ho0); obtain ⟨Ao15, co15, eo15⟩ := Kd.R_slice HO115.out; subst eo15) | ((with_reducible refine gate_dst (N := 26) rfl ?_); (try (refine gate_guard (by rfl) ?_; dsimp only)); refine Kd.R_make (Kd.int .i64) _ 3 rfl (N := 26) rfl 34 _ _ rfl (l0.length : Int) rfl rfl Try.underlying34 (.int .i64 0) 8 info3 rfl (by decide) (by omega) 0 (ok := fun _ => True) (okp := fun _ => True) rfl (fun _ hk => hk) trivial (of_decide_eq_true (by first | (with_reducible assumption) | assumption)) (Nat.le_trans (Nat.mul_le_mul_right _ (of_decide_eq_true (by first | (with_reducible assumption) | assumption) : (l0.length : Int).toNat ≤ 35184372088832)) (by omega)) (Below.refl _ _) (Nat.le_refl _) ?_; intro v120 w16 ho17 hb hg_ hnew_; clear hg_ hnew_; (first | rw [← Ny119.out] at ho17 | (simp only [Int.reduceToNat] at ho17; rw [← Ny119.out] at ho17)); have n0_ := Aside0.mk (Kd.R_elder' (by (with_reducible repeat (first | apply Kd.R_alloc | apply Kd.R_drewN | apply Kd.R_drew)); exact HO115.out) (Kd.R_base ho17) hb); have n1_ := Aside0.mk (Kd.S_elder' (by (with_reducible repeat (first | apply Kd.S_alloc | apply Kd.S_drewN | apply Kd.S_drew)); exact HO118.out) (Kd.R_base ho17) hb); have n2_ := Aside0.mk (Kd.R_lower (Kd.R_new' ho17 (Kd.R_lt (by (with_reducible repeat (first | apply Kd.R_alloc | apply Kd.R_drewN | apply Kd.R_drew)); exact HO115.out))) (below_size (by repeat (first | (with_reducible first | exact HB.out | apply below_alloc | apply pw_below_drewN | apply below_drew1) | exact HB.out)))); have n3_ := Aside0.mk (below_step (by repeat (first | (with_reducible first | exact HB.out | apply below_alloc | apply pw_below_drewN | apply below_drew1) | exact HB.out)) hb); clear HO115; clear HO118; clear HB; have HO115 := n0_; have HO118 := n1_; have HO121 := n2_; have HB := n3_; clear n0_ n1_ n2_ n3_; clear hb ho17; obtain ⟨Ao18, co18, eo18⟩ := Kd.S_slice HO118.out; subst eo18)))
          go_loopg [29] k (fun kq v29 w' => ∃ (x5_1 : List Int) (x29_1 : Int), v29 = .int .i64 x29_1 ∧ Aside0 (merkhetlaw13_HostsAll.l0 kq l0 t113 t116 x5_1 t116 (t116.length : Int) x29_1 = some r) ∧ Aside0 (kq ≤ k) ∧ Aside0 (Kd.R (Kd.int .i64) 3 w' w.heap.size (fun k_ => some k_ ≠ (v120 : Value).ownBlock) (.slice Ao15 t113.length co15) t113) ∧ Aside0 (Kd.S (Kd.slice 3 (Kd.int .i64)) 34 w' w.heap.size (fun k_ => some k_ ≠ ((.slice Ao15 t113.length co15) : Value).ownBlock ∧ some k_ ≠ (v120 : Value).ownBlock) (.slice Ao18 t116.length co18) t116) ∧ Aside0 (Kd.R (Kd.int .i64) 3 w' w.heap.size (fun k_ => some k_ ≠ ((.slice Ao15 t113.length co15) : Value).ownBlock) v120 x5_1) ∧ Aside0 (Kd.S (Kd.slice 3 (Kd.int .i64)) 34 w' w.heap.size (fun k_ => some k_ ≠ ((.slice Ao15 t113.length co15) : Value).ownBlock ∧ some k_ ≠ (v120 : Value).ownBlock) (.slice Ao18 t116.length co18) t116) ∧ Aside0 (Below w.heap.size w w'))
          case atStart => exact ⟨(y119), (0), (by first | rfl | (simp; done) | (simp [*]; done)), H', ⟨Nat.le_refl _⟩, ⟨by (with_reducible repeat (first | apply Kd.R_alloc | apply Kd.R_drewN | apply Kd.R_drew)); exact Kd.R_mono HO115.out (fun _ hk => hk.2)⟩, ⟨by (with_reducible repeat (first | apply Kd.S_alloc | apply Kd.S_drewN | apply Kd.S_drew)); exact Kd.S_mono HO118.out (fun _ hk => ⟨hk.1.2, hk.2⟩)⟩, ⟨by (with_reducible repeat (first | apply Kd.R_alloc | apply Kd.R_drewN | apply Kd.R_drew)); exact Kd.R_mono HO121.out (fun _ hk => hk.2)⟩, ⟨by (with_reducible repeat (first | apply Kd.S_alloc | apply Kd.S_drewN | apply Kd.S_drew)); exact Kd.S_mono HO118.out (fun _ hk => ⟨hk.1.2, hk.2⟩)⟩, ⟨by repeat (first | (with_reducible first | exact HB.out | apply below_alloc | apply pw_below_drewN | apply below_drew1) | exact HB.out)⟩⟩
          case round =>
            clear H'
            try clear c1
            try clear p2
            try clear c3
            try clear c5
            try clear c9
            try clear c9b0
            try clear c9b1
            try clear c9b2
            try clear c10
            try clear c10b0
            try clear c10b1
            try clear c11
            try clear c11b0
            try clear c11b1
            obtain ⟨x5_1, x29_1, rfl, HA, HK1, HO_3, HO_4, HO_5, HO_27, HB⟩ := hrel
            cases gk with
            | zero => exact absurd HA.out (by simp [merkhetlaw13_HostsAll.l0])
            | succ k1 =>
              have H := HA.out
              clear HA
              simp only [merkhetlaw13_HostsAll.l0] at H
              by_cases c19 : x29_1 < (t116.length : Int)
              · rw [if_pos c19] at H
                have c19b0 : decide (x29_1 < (t116.length : Int)) = true := decide_eq_true c19
                clear c19
                by_cases c20 : 0 ≤ x29_1
                · rw [if_pos c20] at H
                  have c20b0 : decide (0 ≤ x29_1) = true := decide_eq_true c20
                  clear c20
                  by_cases c21 : x29_1 < (t116.length : Int)
                  · rw [if_pos c21] at H
                    have c21b0 : decide (x29_1 < (t116.length : Int)) = true := decide_eq_true c21
                    clear c21
                    have H' := Aside0.mk H
                    clear H
                    have p122 : 0 ≤ (x29_1 : Int) := of_decide_eq_true (by first | (with_reducible assumption) | assumption)
                    have q122 : x29_1 < (t116.length : Int) := of_decide_eq_true (by first | (with_reducible assumption) | assumption)
                    obtain ⟨ad122, A122_0, c122_0, e122, hx122_0, hl122_0, hi122_0⟩ := at_L5 (Kd.S_reads' HO_27.out).2.2 x29_1 p122 q122
                    cases e122
                    obtain ⟨ce122, hce122, hMe122, hcc122⟩ := Kd.S_get HO_27.out [] x29_1 p122 (by first | exact q122 | exact of_decide_eq_true (by first | (with_reducible assumption) | assumption) | (have e_ := (Kd.S_reads' HO_27.out).1; omega))
                    obtain ⟨ve122_0, rfl, ge122_0⟩ := hMe122
                    have hv122_0 := hcc122 0 _ rfl
                    rw [Nat.add_zero, show ((Kd.slice 3 (Kd.int .i64))).sz = 1 from rfl, Nat.mul_one] at hv122_0
                    replace hv122_0 := Option.some.inj (hv122_0.symm.trans hx122_0)
                    rw [hv122_0] at ge122_0
                    have HL122_0 := Aside0.mk (show Kd.R (Kd.int .i64) 3 _ _ _ _ (rd_L5 t116 x29_1) from ge122_0)
                    clear hv122_0 ge122_0
                    clear hcc122 hce122
                    have HR122_0 := Aside0.mk hi122_0
                    have HC122_0 := Aside0.mk hl122_0
                    clear hi122_0 hl122_0
                    replace p122 := eq_true p122
                    replace q122 := eq_true q122
                    go_wp2
                    repeat (go_quiet (fail); try go_wp2)
                    go_loopg [36] k1 (fun kq v36 w' => ∃ (x5_2 : List Int) (x36_2 : Int), v36 = .int .i64 x36_2 ∧ Aside0 (merkhetlaw13_HostsAll.l1 kq l0 t113 t116 x5_2 x29_1 (rd_L5 t116 x29_1) t116 (t116.length : Int) x29_1 (rd_L5 t116 x29_1) ((rd_L5 t116 x29_1).length : Int) x36_2 = some r) ∧ Aside0 (kq ≤ k1) ∧ Aside0 (Kd.R (Kd.int .i64) 3 w' w.heap.size (fun k_ => some k_ ≠ (v120 : Value).ownBlock) (.slice Ao15 t113.length co15) t113) ∧ Aside0 (Kd.S (Kd.slice 3 (Kd.int .i64)) 34 w' w.heap.size (fun k_ => some k_ ≠ ((.slice Ao15 t113.length co15) : Value).ownBlock ∧ some k_ ≠ (v120 : Value).ownBlock) (.slice (some ad122) t116.length co18) t116) ∧ Aside0 (Kd.R (Kd.int .i64) 3 w' w.heap.size (fun k_ => some k_ ≠ ((.slice Ao15 t113.length co15) : Value).ownBlock) v120 x5_2) ∧ Aside0 (Kd.S (Kd.slice 3 (Kd.int .i64)) 34 w' w.heap.size (fun k_ => some k_ ≠ ((.slice Ao15 t113.length co15) : Value).ownBlock ∧ some k_ ≠ (v120 : Value).ownBlock) (.slice (some ad122) t116.length co18) t116) ∧ Aside0 (Kd.R (Kd.int .i64) 3 w' w.heap.size (fun k_ => some k_ ≠ ((.slice Ao15 t113.length co15) : Value).ownBlock ∧ some k_ ≠ (v120 : Value).ownBlock) (.slice A122_0 (rd_L5 t116 x29_1).length c122_0) (rd_L5 t116 x29_1)) ∧ Aside0 (Below w.heap.size w w'))
                    case atStart => exact ⟨(x5_1), (0), (by first | rfl | (simp; done) | (simp [*]; done)), H', ⟨Nat.le_refl _⟩, ⟨by (with_reducible repeat (first | apply Kd.R_alloc | apply Kd.R_drewN | apply Kd.R_drew)); exact HO_3.out⟩, ⟨by (with_reducible repeat (first | apply Kd.S_alloc | apply Kd.S_drewN | apply Kd.S_drew)); exact HO_4.out⟩, ⟨by (with_reducible repeat (first | apply Kd.R_alloc | apply Kd.R_drewN | apply Kd.R_drew)); exact HO_5.out⟩, ⟨by (with_reducible repeat (first | apply Kd.S_alloc | apply Kd.S_drewN | apply Kd.S_drew)); exact HO_27.out⟩, ⟨by (with_reducible repeat (first | apply Kd.R_alloc | apply Kd.R_drewN | apply Kd.R_drew)); exact Kd.R_mono HL122_0.out (fun _ hk => hk.1)⟩, ⟨by repeat (first | (with_reducible first | exact HB.out | apply below_alloc | apply pw_below_drewN | apply below_drew1) | exact HB.out)⟩⟩
                    case round =>
                      clear H'
                      try clear c1
                      try clear p1
                      try clear q1
                      try clear hx1
                      try clear c2
                      try clear p2
                      try clear c3
                      try clear c5
                      try clear c9
                      try clear c9b0
                      try clear c9b1
                      try clear c9b2
                      try clear c10
                      try clear c10b0
                      try clear c10b1
                      try clear c11
                      try clear c11b0
                      try clear c11b1
                      try clear c12
                      try clear p12
                      try clear q12
                      try clear hx12
                      try clear c19
                      try clear c19b0
                      try clear c20
                      try clear c20b0
                      try clear c21
                      try clear c21b0
                      try clear hx122_0
                      try clear p122
                      try clear p2
                      try clear q122
                      obtain ⟨x5_2, x36_2, rfl, HA, HK2, HO_3, HO_4, HO_5, HO_27, HO_99, HB⟩ := hrel
                      cases gk with
                      | zero => exact absurd HA.out (by simp [merkhetlaw13_HostsAll.l1])
                      | succ k2 =>
                        have H := HA.out
                        clear HA
                        simp only [merkhetlaw13_HostsAll.l1] at H
                        by_cases c22 : x36_2 < ((rd_L5 t116 x29_1).length : Int)
                        · rw [if_pos c22] at H
                          have c22b0 : decide (x36_2 < ((rd_L5 t116 x29_1).length : Int)) = true := decide_eq_true c22
                          clear c22
                          by_cases c23 : 0 ≤ x36_2
                          · rw [if_pos c23] at H
                            have c23b0 : decide (0 ≤ x36_2) = true := decide_eq_true c23
                            clear c23
                            by_cases c24 : x36_2 < ((rd_L5 t116 x29_1).length : Int)
                            · rw [if_pos c24] at H
                              have c24b0 : decide (x36_2 < ((rd_L5 t116 x29_1).length : Int)) = true := decide_eq_true c24
                              clear c24
                              by_cases c25 : (rd (rd_L5 t116 x29_1) x36_2) < 0
                              · rw [if_pos c25] at H
                                have c25b0 : decide ((rd (rd_L5 t116 x29_1) x36_2) < 0) = true := decide_eq_true c25
                                clear c25
                                obtain rfl := Option.some.inj H
                                have p123 : 0 ≤ (x36_2 : Int) := of_decide_eq_true (by first | (with_reducible assumption) | assumption)
                                have q123 : x36_2 < ((rd_L5 t116 x29_1).length : Int) := of_decide_eq_true (by first | (with_reducible assumption) | assumption)
                                obtain ⟨ad123, e123, hx123_0⟩ := Kd.at_int (Kd.R_reads' HO_99.out).2.2 x36_2 p123 q123
                                cases e123
                                replace p123 := eq_true p123
                                replace q123 := eq_true q123
                                go_wp2
                                repeat (go_quiet (fail); try go_wp2)
                                go_ret
                                exact ⟨by first | rfl | (simp [errW_none, errW_some] <;> rfl) | (simp [*, errW_none, errW_some] <;> rfl), by repeat (first | (with_reducible first | exact HB.out | apply below_alloc | apply pw_below_drewN | apply below_drew1) | exact HB.out)⟩
                              · rw [if_neg c25] at H
                                have c25b0 : decide ((rd (rd_L5 t116 x29_1) x36_2) < 0) = false := decide_eq_false c25
                                clear c25
                                by_cases c26 : (rd (rd_L5 t116 x29_1) x36_2) ≥ (l0.length : Int)
                                · rw [if_pos c26] at H
                                  have c26b0 : decide ((l0.length : Int) ≤ (rd (rd_L5 t116 x29_1) x36_2)) = true := decide_eq_true c26
                                  clear c26
                                  obtain rfl := Option.some.inj H
                                  have p123 : 0 ≤ (x36_2 : Int) := of_decide_eq_true (by first | (with_reducible assumption) | assumption)
                                  have q123 : x36_2 < ((rd_L5 t116 x29_1).length : Int) := of_decide_eq_true (by first | (with_reducible assumption) | assumption)
                                  obtain ⟨ad123, e123, hx123_0⟩ := Kd.at_int (Kd.R_reads' HO_99.out).2.2 x36_2 p123 q123
                                  cases e123
                                  replace p123 := eq_true p123
                                  replace q123 := eq_true q123
                                  go_wp2
                                  repeat (go_quiet (fail); try go_wp2)
                                  go_ret
                                  exact ⟨by first | rfl | (simp [errW_none, errW_some] <;> rfl) | (simp [*, errW_none, errW_some] <;> rfl), by repeat (first | (with_reducible first | exact HB.out | apply below_alloc | apply pw_below_drewN | apply below_drew1) | exact HB.out)⟩
                                · rw [if_neg c26] at H
                                  have c26b0 : decide ((l0.length : Int) ≤ (rd (rd_L5 t116 x29_1) x36_2)) = false := decide_eq_false c26
                                  clear c26
                                  by_cases c27 : 0 ≤ (rd (rd_L5 t116 x29_1) x36_2)
                                  · rw [if_pos c27] at H
                                    have c27b0 : decide (0 ≤ (rd (rd_L5 t116 x29_1) x36_2)) = true := decide_eq_true c27
                                    clear c27
                                    by_cases c28 : (rd (rd_L5 t116 x29_1) x36_2) < (t113.length : Int)
                                    · rw [if_pos c28] at H
                                      have c28b0 : decide ((rd (rd_L5 t116 x29_1) x36_2) < (t113.length : Int)) = true := decide_eq_true c28
                                      clear c28
                                      by_cases c29 : (rd t113 (rd (rd_L5 t116 x29_1) x36_2)) = x29_1
                                      · rw [if_pos c29] at H
                                        have c29b0 : ((rd t113 (rd (rd_L5 t116 x29_1) x36_2)) == x29_1) = true := beq_iff_eq.mpr c29
                                        have c29b1 : ((rd t113 (rd (rd_L5 t116 x29_1) x36_2)) != x29_1) = false := bne_eq_false_iff_eq.mpr c29
                                        clear c29
                                        by_cases c30 : (rd (rd_L5 t116 x29_1) x36_2) < (x5_2.length : Int)
                                        · rw [if_pos c30] at H
                                          have c30b0 : decide ((rd (rd_L5 t116 x29_1) x36_2) < (x5_2.length : Int)) = true := decide_eq_true c30
                                          clear c30
                                          obtain ⟨y126, hy126⟩ : ∃ y_ : List Int, y_ = (x5_2.set ((rd (rd_L5 t116 x29_1) x36_2) : Int).toNat (wrap64 ((rd x5_2 (rd (rd_L5 t116 x29_1) x36_2)) + 1))) := ⟨_, rfl⟩
                                          replace H : (merkhetlaw13_HostsAll.l1 k2 l0 t113 t116 y126 x29_1 (rd_L5 t116 x29_1) t116 (t116.length : Int) x29_1 (rd_L5 t116 x29_1) ((rd_L5 t116 x29_1).length : Int) (wrap64 (x36_2 + 1))) = some r := by first | (rw [hy126]; with_reducible exact H) | (have H2_ := (Option.bind_some _ _).symm.trans H; rw [hy126]; with_reducible exact H2_) | (have H2_ := (Option.bind_some _ _).symm.trans H; with_reducible exact H2_) | with_reducible exact H | (rw [hy126]; exact H) | exact H
                                          have Ny126 := Aside0.mk hy126
                                          clear hy126
                                          have H' := Aside0.mk H
                                          clear H
                                          have p123 : 0 ≤ (x36_2 : Int) := of_decide_eq_true (by first | (with_reducible assumption) | assumption)
                                          have q123 : x36_2 < ((rd_L5 t116 x29_1).length : Int) := of_decide_eq_true (by first | (with_reducible assumption) | assumption)
                                          obtain ⟨ad123, e123, hx123_0⟩ := Kd.at_int (Kd.R_reads' HO_99.out).2.2 x36_2 p123 q123
                                          cases e123
                                          replace p123 := eq_true p123
                                          replace q123 := eq_true q123
                                          have p124 : 0 ≤ ((rd (rd_L5 t116 x29_1) x36_2) : Int) := of_decide_eq_true (by first | (with_reducible assumption) | assumption)
                                          have q124 : (rd (rd_L5 t116 x29_1) x36_2) < (t113.length : Int) := of_decide_eq_true (by first | (with_reducible assumption) | assumption)
                                          obtain ⟨ad124, e124, hx124_0⟩ := Kd.at_int (Kd.R_reads' HO_3.out).2.2 (rd (rd_L5 t116 x29_1) x36_2) p124 q124
                                          cases e124
                                          replace p124 := eq_true p124
                                          replace q124 := eq_true q124
                                          obtain ⟨Ao32, co32, eo32⟩ := Kd.R_slice HO_5.out
                                          subst eo32
                                          have p125 : 0 ≤ ((rd (rd_L5 t116 x29_1) x36_2) : Int) := of_decide_eq_true (by first | (with_reducible assumption) | assumption)
                                          have q125 : (rd (rd_L5 t116 x29_1) x36_2) < (x5_2.length : Int) := of_decide_eq_true (by first | (with_reducible assumption) | assumption)
                                          obtain ⟨ad125, e125, hx125_0⟩ := Kd.at_int (Kd.R_reads' HO_5.out).2.2 (rd (rd_L5 t116 x29_1) x36_2) p125 q125
                                          cases e125
                                          replace p125 := eq_true p125
                                          replace q125 := eq_true q125
                                          have p31 : 0 ≤ ((rd (rd_L5 t116 x29_1) x36_2) : Int) := of_decide_eq_true (by first | (with_reducible assumption) | assumption)
                                          have q31 : ((rd (rd_L5 t116 x29_1) x36_2) : Int) < ((x5_2.length : Int) : Int) := of_decide_eq_true (by first | (with_reducible assumption) | assumption)
                                          obtain ⟨go31, co31, eo31, gb31, gl31, cl31, HG31⟩ := Kd.R_form HO_5.out (by omega)
                                          (first | cases eo31 | (injection eo31 with ea_ en_ ec_; (first | subst ea_ | (injection ea_ with ea_; subst ea_)); subst ec_; clear en_))
                                          have GB31 := Aside0.mk gb31
                                          have GG31 := Aside0.mk HG31
                                          clear gb31 gl31 HG31
                                          (first | simp only [add_plain] at hx125_0 | skip)
                                          obtain ⟨hx31_0, hf31_0⟩ := Kd.R_celln 0 HO_5.out ((rd (rd_L5 t116 x29_1) x36_2) : Int) p31 q31
                                          replace p31 := eq_true p31
                                          replace q31 := eq_true q31
                                          have HP33 := Kd.R_putg HO_5.out ((rd (rd_L5 t116 x29_1) x36_2) : Int) (wrap64 ((rd x5_2 (rd (rd_L5 t116 x29_1) x36_2)) + 1))
                                          go_wp2_with (first | ((with_reducible refine gate_store (t := 3) (p := 61) rfl ?_); (try (rw [drewN_self wr]; generalize hq_ : World.drewN wr _ = wr; have n0_ := Aside0.mk (Kd.R_at hq_ HO_3.out); have n1_ := Aside0.mk (Kd.S_at hq_ HO_4.out); have n2_ := Aside0.mk (Kd.R_at hq_ HO_5.out); have n3_ := Aside0.mk (Kd.S_at hq_ HO_27.out); have n9_ := Aside0.mk (Kd.R_at hq_ HO_99.out); have n4_ := Aside0.mk (below_at hq_ HB.out); clear hq_ HO_3 HO_4 HO_5 HO_27 HO_99 HB; have HO_3 := n0_; have HO_4 := n1_; have HO_5 := n2_; have HO_27 := n3_; have HO_99 := n9_; have HB := n4_; clear n0_ n1_ n2_ n3_ n4_ n9_; (try (have HP33 := Kd.R_putg HO_5.out ((rd (rd_L5 t116 x29_1) x36_2) : Int) (wrap64 ((rd x5_2 (rd (rd_L5 t116 x29_1) x36_2)) + 1)))))); refine store_event (t := 3) (p := 61) (v := ?vo_w34) (w1 := (wr.setCell ⟨go31, ((rd (rd_L5 t116 x29_1) x36_2) : Int).toNat, none⟩ (.int .i64 (wrap64 ((rd x5_2 (rd (rd_L5 t116 x29_1) x36_2)) + 1))))) ?hg ?ho ?hn ?hr ?_; (case ho => rfl); (case hg => rfl); (case hn => rfl); (case hr => first | (go_simp; done) | (go_simp; rfl)); intro w34 hw; have hg : wr.grownBy w34 (some go31) := (by rw [hw]; exact HP33.2); have hp_ : Kd.R (Kd.int .i64) 3 w34 w.heap.size (fun k_ => some k_ ≠ (.slice (some ad124) t113.length co15 : Value).ownBlock) (.slice (some ⟨go31, 0, none⟩) x5_2.length co32) y126 := (by rw [hw, Ny126.out]; exact HP33.1); clear HP33; have n0_ := Aside0.mk (Kd.R_after (v := (.slice (some ⟨go31, 0, none⟩) x5_2.length co32)) (v1 := (.slice (some ⟨go31, 0, none⟩) x5_2.length co32)) (ok := (fun _ => True)) (by (with_reducible repeat (first | apply Kd.R_alloc | apply Kd.R_drewN | apply Kd.R_drew)); exact Kd.R_mono HO_3.out (fun _ hk => ⟨trivial, by first | exact hk | exact fun h_ => hk (h_.trans (own_len _ _ _ _ _))⟩)) hg (.inl rfl)); have n1_ := Aside0.mk (Kd.S_after (v := (.slice (some ⟨go31, 0, none⟩) x5_2.length co32)) (v1 := (.slice (some ⟨go31, 0, none⟩) x5_2.length co32)) (ok := (fun k_ => some k_ ≠ (.slice (some ad124) t113.length co15 : Value).ownBlock)) (by (with_reducible repeat (first | apply Kd.S_alloc | apply Kd.S_drewN | apply Kd.S_drew)); exact HO_4.out) hg (.inl rfl)); have n2_ := Aside0.mk (hp_); have n3_ := Aside0.mk (Kd.S_after (v := (.slice (some ⟨go31, 0, none⟩) x5_2.length co32)) (v1 := (.slice (some ⟨go31, 0, none⟩) x5_2.length co32)) (ok := (fun k_ => some k_ ≠ (.slice (some ad124) t113.length co15 : Value).ownBlock)) (by (with_reducible repeat (first | apply Kd.S_alloc | apply Kd.S_drewN | apply Kd.S_drew)); exact HO_27.out) hg (.inl rfl)); have n9_ := Aside0.mk (Kd.R_after (v := (.slice (some ⟨go31, 0, none⟩) x5_2.length co32)) (v1 := (.slice (some ⟨go31, 0, none⟩) x5_2.length co32)) (ok := (fun k_ => some k_ ≠ (.slice (some ad124) t113.length co15 : Value).ownBlock)) (by (with_reducible repeat (first | apply Kd.R_alloc | apply Kd.R_drewN | apply Kd.R_drew)); exact HO_99.out) hg (.inl rfl)); have n4_ := Aside0.mk ((by rw [hw]; exact below_set (HB.out) GB31.out : Below w.heap.size w w34)); clear HO_3; clear HO_4; clear HO_5; clear HO_27; clear HO_99; clear HB; have HO_3 := n0_; have HO_4 := n1_; have HO_5 := n2_; have HO_27 := n3_; have HO_99 := n9_; have HB := n4_; clear n0_ n1_ n2_ n3_ n4_ n9_; clear hg hw hp_))
                                          repeat (go_quiet (first | ((with_reducible refine gate_store (t := 3) (p := 61) rfl ?_); (try (rw [drewN_self wr]; generalize hq_ : World.drewN wr _ = wr; have n0_ := Aside0.mk (Kd.R_at hq_ HO_3.out); have n1_ := Aside0.mk (Kd.S_at hq_ HO_4.out); have n2_ := Aside0.mk (Kd.R_at hq_ HO_5.out); have n3_ := Aside0.mk (Kd.S_at hq_ HO_27.out); have n9_ := Aside0.mk (Kd.R_at hq_ HO_99.out); have n4_ := Aside0.mk (below_at hq_ HB.out); clear hq_ HO_3 HO_4 HO_5 HO_27 HO_99 HB; have HO_3 := n0_; have HO_4 := n1_; have HO_5 := n2_; have HO_27 := n3_; have HO_99 := n9_; have HB := n4_; clear n0_ n1_ n2_ n3_ n4_ n9_; (try (have HP33 := Kd.R_putg HO_5.out ((rd (rd_L5 t116 x29_1) x36_2) : Int) (wrap64 ((rd x5_2 (rd (rd_L5 t116 x29_1) x36_2)) + 1)))))); refine store_event (t := 3) (p := 61) (v := ?vo_w34) (w1 := (wr.setCell ⟨go31, ((rd (rd_L5 t116 x29_1) x36_2) : Int).toNat, none⟩ (.int .i64 (wrap64 ((rd x5_2 (rd (rd_L5 t116 x29_1) x36_2)) + 1))))) ?hg ?ho ?hn ?hr ?_; (case ho => rfl); (case hg => rfl); (case hn => rfl); (case hr => first | (go_simp; done) | (go_simp; rfl)); intro w34 hw; have hg : wr.grownBy w34 (some go31) := (by rw [hw]; exact HP33.2); have hp_ : Kd.R (Kd.int .i64) 3 w34 w.heap.size (fun k_ => some k_ ≠ (.slice (some ad124) t113.length co15 : Value).ownBlock) (.slice (some ⟨go31, 0, none⟩) x5_2.length co32) y126 := (by rw [hw, Ny126.out]; exact HP33.1); clear HP33; have n0_ := Aside0.mk (Kd.R_after (v := (.slice (some ⟨go31, 0, none⟩) x5_2.length co32)) (v1 := (.slice (some ⟨go31, 0, none⟩) x5_2.length co32)) (ok := (fun _ => True)) (by (with_reducible repeat (first | apply Kd.R_alloc | apply Kd.R_drewN | apply Kd.R_drew)); exact Kd.R_mono HO_3.out (fun _ hk => ⟨trivial, by first | exact hk | exact fun h_ => hk (h_.trans (own_len _ _ _ _ _))⟩)) hg (.inl rfl)); have n1_ := Aside0.mk (Kd.S_after (v := (.slice (some ⟨go31, 0, none⟩) x5_2.length co32)) (v1 := (.slice (some ⟨go31, 0, none⟩) x5_2.length co32)) (ok := (fun k_ => some k_ ≠ (.slice (some ad124) t113.length co15 : Value).ownBlock)) (by (with_reducible repeat (first | apply Kd.S_alloc | apply Kd.S_drewN | apply Kd.S_drew)); exact HO_4.out) hg (.inl rfl)); have n2_ := Aside0.mk (hp_); have n3_ := Aside0.mk (Kd.S_after (v := (.slice (some ⟨go31, 0, none⟩) x5_2.length co32)) (v1 := (.slice (some ⟨go31, 0, none⟩) x5_2.length co32)) (ok := (fun k_ => some k_ ≠ (.slice (some ad124) t113.length co15 : Value).ownBlock)) (by (with_reducible repeat (first | apply Kd.S_alloc | apply Kd.S_drewN | apply Kd.S_drew)); exact HO_27.out) hg (.inl rfl)); have n9_ := Aside0.mk (Kd.R_after (v := (.slice (some ⟨go31, 0, none⟩) x5_2.length co32)) (v1 := (.slice (some ⟨go31, 0, none⟩) x5_2.length co32)) (ok := (fun k_ => some k_ ≠ (.slice (some ad124) t113.length co15 : Value).ownBlock)) (by (with_reducible repeat (first | apply Kd.R_alloc | apply Kd.R_drewN | apply Kd.R_drew)); exact HO_99.out) hg (.inl rfl)); have n4_ := Aside0.mk ((by rw [hw]; exact below_set (HB.out) GB31.out : Below w.heap.size w w34)); clear HO_3; clear HO_4; clear HO_5; clear HO_27; clear HO_99; clear HB; have HO_3 := n0_; have HO_4 := n1_; have HO_5 := n2_; have HO_27 := n3_; have HO_99 := n9_; have HB := n4_; clear n0_ n1_ n2_ n3_ n4_ n9_; clear hg hw hp_)); try go_wp2_with (first | ((with_reducible refine gate_store (t := 3) (p := 61) rfl ?_); (try (rw [drewN_self wr]; generalize hq_ : World.drewN wr _ = wr; have n0_ := Aside0.mk (Kd.R_at hq_ HO_3.out); have n1_ := Aside0.mk (Kd.S_at hq_ HO_4.out); have n2_ := Aside0.mk (Kd.R_at hq_ HO_5.out); have n3_ := Aside0.mk (Kd.S_at hq_ HO_27.out); have n9_ := Aside0.mk (Kd.R_at hq_ HO_99.out); have n4_ := Aside0.mk (below_at hq_ HB.out); clear hq_ HO_3 HO_4 HO_5 HO_27 HO_99 HB; have HO_3 := n0_; have HO_4 := n1_; have HO_5 := n2_; have HO_27 := n3_; have HO_99 := n9_; have HB := n4_; clear n0_ n1_ n2_ n3_ n4_ n9_; (try (have HP33 := Kd.R_putg HO_5.out ((rd (rd_L5 t116 x29_1) x36_2) : Int) (wrap64 ((rd x5_2 (rd (rd_L5 t116 x29_1) x36_2)) + 1)))))); refine store_event (t := 3) (p := 61) (v := ?vo_w34) (w1 := (wr.setCell ⟨go31, ((rd (rd_L5 t116 x29_1) x36_2) : Int).toNat, none⟩ (.int .i64 (wrap64 ((rd x5_2 (rd (rd_L5 t116 x29_1) x36_2)) + 1))))) ?hg ?ho ?hn ?hr ?_; (case ho => rfl); (case hg => rfl); (case hn => rfl); (case hr => first | (go_simp; done) | (go_simp; rfl)); intro w34 hw; have hg : wr.grownBy w34 (some go31) := (by rw [hw]; exact HP33.2); have hp_ : Kd.R (Kd.int .i64) 3 w34 w.heap.size (fun k_ => some k_ ≠ (.slice (some ad124) t113.length co15 : Value).ownBlock) (.slice (some ⟨go31, 0, none⟩) x5_2.length co32) y126 := (by rw [hw, Ny126.out]; exact HP33.1); clear HP33; have n0_ := Aside0.mk (Kd.R_after (v := (.slice (some ⟨go31, 0, none⟩) x5_2.length co32)) (v1 := (.slice (some ⟨go31, 0, none⟩) x5_2.length co32)) (ok := (fun _ => True)) (by (with_reducible repeat (first | apply Kd.R_alloc | apply Kd.R_drewN | apply Kd.R_drew)); exact Kd.R_mono HO_3.out (fun _ hk => ⟨trivial, by first | exact hk | exact fun h_ => hk (h_.trans (own_len _ _ _ _ _))⟩)) hg (.inl rfl)); have n1_ := Aside0.mk (Kd.S_after (v := (.slice (some ⟨go31, 0, none⟩) x5_2.length co32)) (v1 := (.slice (some ⟨go31, 0, none⟩) x5_2.length co32)) (ok := (fun k_ => some k_ ≠ (.slice (some ad124) t113.length co15 : Value).ownBlock)) (by (with_reducible repeat (first | apply Kd.S_alloc | apply Kd.S_drewN | apply Kd.S_drew)); exact HO_4.out) hg (.inl rfl)); have n2_ := Aside0.mk (hp_); have n3_ := Aside0.mk (Kd.S_after (v := (.slice (some ⟨go31, 0, none⟩) x5_2.length co32)) (v1 := (.slice (some ⟨go31, 0, none⟩) x5_2.length co32)) (ok := (fun k_ => some k_ ≠ (.slice (some ad124) t113.length co15 : Value).ownBlock)) (by (with_reducible repeat (first | apply Kd.S_alloc | apply Kd.S_drewN | apply Kd.S_drew)); exact HO_27.out) hg (.inl rfl)); have n9_ := Aside0.mk (Kd.R_after (v := (.slice (some ⟨go31, 0, none⟩) x5_2.length co32)) (v1 := (.slice (some ⟨go31, 0, none⟩) x5_2.length co32)) (ok := (fun k_ => some k_ ≠ (.slice (some ad124) t113.length co15 : Value).ownBlock)) (by (with_reducible repeat (first | apply Kd.R_alloc | apply Kd.R_drewN | apply Kd.R_drew)); exact HO_99.out) hg (.inl rfl)); have n4_ := Aside0.mk ((by rw [hw]; exact below_set (HB.out) GB31.out : Below w.heap.size w w34)); clear HO_3; clear HO_4; clear HO_5; clear HO_27; clear HO_99; clear HB; have HO_3 := n0_; have HO_4 := n1_; have HO_5 := n2_; have HO_27 := n3_; have HO_99 := n9_; have HB := n4_; clear n0_ n1_ n2_ n3_ n4_ n9_; clear hg hw hp_)))
                                          go_roundg k2
                                          case measure => have := HK1.out; have := HK2.out; omega
                                          case rel => exact ⟨(y126), (wrap64 (x36_2 + 1)), (by first | rfl | (simp; done) | (simp [*]; done)), H', ⟨by have := HK1.out; have := HK2.out; omega⟩, ⟨by (with_reducible repeat (first | apply Kd.R_alloc | apply Kd.R_drewN | apply Kd.R_drew)); exact Kd.R_mono HO_3.out (fun _ hk => hk.2)⟩, ⟨by (with_reducible repeat (first | apply Kd.S_alloc | apply Kd.S_drewN | apply Kd.S_drew)); exact HO_4.out⟩, ⟨by (with_reducible repeat (first | apply Kd.R_alloc | apply Kd.R_drewN | apply Kd.R_drew)); exact HO_5.out⟩, ⟨by (with_reducible repeat (first | apply Kd.S_alloc | apply Kd.S_drewN | apply Kd.S_drew)); exact HO_27.out⟩, ⟨by (with_reducible repeat (first | apply Kd.R_alloc | apply Kd.R_drewN | apply Kd.R_drew)); exact HO_99.out⟩, ⟨by repeat (first | (with_reducible first | exact HB.out | apply below_alloc | apply pw_below_drewN | apply below_drew1) | exact HB.out)⟩⟩
                                        · rw [if_neg c30] at H
                                          exact absurd H (by simp)
                                      · rw [if_neg c29] at H
                                        have c29b0 : ((rd t113 (rd (rd_L5 t116 x29_1) x36_2)) == x29_1) = false := beq_eq_false_iff_ne.mpr c29
                                        have c29b1 : ((rd t113 (rd (rd_L5 t116 x29_1) x36_2)) != x29_1) = true := bne_iff_ne.mpr c29
                                        obtain rfl := Option.some.inj H
                                        have p123 : 0 ≤ (x36_2 : Int) := of_decide_eq_true (by first | (with_reducible assumption) | assumption)
                                        have q123 : x36_2 < ((rd_L5 t116 x29_1).length : Int) := of_decide_eq_true (by first | (with_reducible assumption) | assumption)
                                        obtain ⟨ad123, e123, hx123_0⟩ := Kd.at_int (Kd.R_reads' HO_99.out).2.2 x36_2 p123 q123
                                        cases e123
                                        replace p123 := eq_true p123
                                        replace q123 := eq_true q123
                                        have p124 : 0 ≤ ((rd (rd_L5 t116 x29_1) x36_2) : Int) := of_decide_eq_true (by first | (with_reducible assumption) | assumption)
                                        have q124 : (rd (rd_L5 t116 x29_1) x36_2) < (t113.length : Int) := of_decide_eq_true (by first | (with_reducible assumption) | assumption)
                                        obtain ⟨ad124, e124, hx124_0⟩ := Kd.at_int (Kd.R_reads' HO_3.out).2.2 (rd (rd_L5 t116 x29_1) x36_2) p124 q124
                                        cases e124
                                        replace p124 := eq_true p124
                                        replace q124 := eq_true q124
                                        go_wp2
                                        repeat (go_quiet (fail); try go_wp2)
                                        go_ret
                                        exact ⟨by first | rfl | (simp [errW_none, errW_some] <;> rfl) | (simp [*, errW_none, errW_some] <;> rfl), by repeat (first | (with_reducible first | exact HB.out | apply below_alloc | apply pw_below_drewN | apply below_drew1) | exact HB.out)⟩
                                    · rw [if_neg c28] at H
                                      exact absurd H (by simp)
                                  · rw [if_neg c27] at H
                                    exact absurd H (by simp)
                            · rw [if_neg c24] at H
                              exact absurd H (by simp)
                          · rw [if_neg c23] at H
                            exact absurd H (by simp)
                        · rw [if_neg c22] at H
                          have c22b0 : decide (x36_2 < ((rd_L5 t116 x29_1).length : Int)) = false := decide_eq_false c22
                          clear c22
                          by_cases c35 : ((rd_L5 t116 x29_1).length : Int) = 0
                          · rw [if_pos c35] at H
                            have c35b0 : (((rd_L5 t116 x29_1).length : Int) == 0) = true := beq_iff_eq.mpr c35
                            have c35b1 : (((rd_L5 t116 x29_1).length : Int) != 0) = false := bne_eq_false_iff_eq.mpr c35
                            clear c35
                            obtain rfl := Option.some.inj H
                            go_wp2
                            repeat (go_quiet (fail); try go_wp2)
                            go_ret
                            exact ⟨by first | rfl | (simp [errW_none, errW_some] <;> rfl) | (simp [*, errW_none, errW_some] <;> rfl), by repeat (first | (with_reducible first | exact HB.out | apply below_alloc | apply pw_below_drewN | apply below_drew1) | exact HB.out)⟩
                          · rw [if_neg c35] at H
                            have c35b0 : (((rd_L5 t116 x29_1).length : Int) == 0) = false := beq_eq_false_iff_ne.mpr c35
                            have c35b1 : (((rd_L5 t116 x29_1).length : Int) != 0) = true := bne_iff_ne.mpr c35
                            have c35b2 : ¬ ((rd_L5 t116 x29_1) = []) := fun h_ => c35 (by rw [h_]; rfl)
                            by_cases c36 : x29_1 > 0
                            · rw [if_pos c36] at H
                              have c36b0 : decide (0 < x29_1) = true := decide_eq_true c36
                              clear c36
                              obtain ⟨ji37, hji37⟩ : ∃ j_ : Int, (wrap64 (x29_1 - 1)) = j_ := ⟨_, rfl⟩
                              replace H : (if 0 ≤ (ji37) then (if (ji37) < (t116.length : Int) then (if 0 < ((rd_L5 t116 (ji37)).length : Int) then (if 0 ≤ (rd (rd_L5 t116 (ji37)) 0) then (if (rd (rd_L5 t116 (ji37)) 0) < (l0.length : Int) then (if 0 < ((rd_L5 t116 x29_1).length : Int) then (if 0 ≤ (rd (rd_L5 t116 x29_1) 0) then (if (rd (rd_L5 t116 x29_1) 0) < (l0.length : Int) then (if ((Op.bytesLess (((rd_T27 l0 (rd (rd_L5 t116 (ji37)) 0)).f4).toList) (((rd_T27 l0 (rd (rd_L5 t116 x29_1) 0)).f4).toList)) = true) then (merkhetlaw13_HostsAll.l0 k2 l0 t113 t116 x5_2 t116 (t116.length : Int) (wrap64 (x29_1 + 1))) else (some false)) else (none)) else (none)) else (none)) else (none)) else (none)) else (none)) else (none)) else (none)) = some r := by first | (rw [hji37] at H; exact H) | (simp only [hji37] at H ⊢; exact H)
                              have hji37w : (IntKind.i64.wrap (x29_1 - 1)) = ji37 := (i64_w _).trans hji37
                              by_cases c38 : 0 ≤ (ji37)
                              · rw [if_pos c38] at H
                                have c38b0 : decide (0 ≤ (ji37)) = true := decide_eq_true c38
                                clear c38
                                by_cases c39 : (ji37) < (t116.length : Int)
                                · rw [if_pos c39] at H
                                  have c39b0 : decide ((ji37) < (t116.length : Int)) = true := decide_eq_true c39
                                  clear c39
                                  by_cases c40 : 0 < ((rd_L5 t116 (ji37)).length : Int)
                                  · rw [if_pos c40] at H
                                    have c40b0 : decide (0 < ((rd_L5 t116 (ji37)).length : Int)) = true := decide_eq_true c40
                                    have c40b1 : decide (0 < (rd_L5 t116 (ji37)).length) = true := decide_eq_true (by omega)
                                    clear c40
                                    by_cases c41 : 0 ≤ (rd (rd_L5 t116 (ji37)) 0)
                                    · rw [if_pos c41] at H
                                      have c41b0 : decide (0 ≤ (rd (rd_L5 t116 (ji37)) 0)) = true := decide_eq_true c41
                                      clear c41
                                      by_cases c42 : (rd (rd_L5 t116 (ji37)) 0) < (l0.length : Int)
                                      · rw [if_pos c42] at H
                                        have c42b0 : decide ((rd (rd_L5 t116 (ji37)) 0) < (l0.length : Int)) = true := decide_eq_true c42
                                        clear c42
                                        by_cases c43 : 0 < ((rd_L5 t116 x29_1).length : Int)
                                        · rw [if_pos c43] at H
                                          have c43b0 : decide (0 < ((rd_L5 t116 x29_1).length : Int)) = true := decide_eq_true c43
                                          have c43b1 : decide (0 < (rd_L5 t116 x29_1).length) = true := decide_eq_true (by omega)
                                          clear c43
                                          by_cases c44 : 0 ≤ (rd (rd_L5 t116 x29_1) 0)
                                          · rw [if_pos c44] at H
                                            have c44b0 : decide (0 ≤ (rd (rd_L5 t116 x29_1) 0)) = true := decide_eq_true c44
                                            clear c44
                                            by_cases c45 : (rd (rd_L5 t116 x29_1) 0) < (l0.length : Int)
                                            · rw [if_pos c45] at H
                                              have c45b0 : decide ((rd (rd_L5 t116 x29_1) 0) < (l0.length : Int)) = true := decide_eq_true c45
                                              clear c45
                                              by_cases c46 : ((Op.bytesLess (((rd_T27 l0 (rd (rd_L5 t116 (ji37)) 0)).f4).toList) (((rd_T27 l0 (rd (rd_L5 t116 x29_1) 0)).f4).toList)) = true)
                                              · rw [if_pos c46] at H
                                                have c46b0 : (Op.bytesLess (((rd_T27 l0 (rd (rd_L5 t116 (ji37)) 0)).f4).toList) (((rd_T27 l0 (rd (rd_L5 t116 x29_1) 0)).f4).toList)) = true := c46
                                                clear c46
                                                have H' := Aside0.mk H
                                                clear H
                                                have p127 : 0 ≤ ((ji37) : Int) := of_decide_eq_true (by first | (with_reducible assumption) | assumption)
                                                have q127 : (ji37) < (t116.length : Int) := of_decide_eq_true (by first | (with_reducible assumption) | assumption)
                                                obtain ⟨ad127, A127_0, c127_0, e127, hx127_0, hl127_0, hi127_0⟩ := at_L5 (Kd.S_reads' HO_4.out).2.2 (ji37) p127 q127
                                                obtain rfl : ad122 = ad127 := (by injection e127)
                                                obtain ⟨ce127, hce127, hMe127, hcc127⟩ := Kd.S_get HO_4.out [] (ji37) p127 (by first | exact q127 | exact of_decide_eq_true (by first | (with_reducible assumption) | assumption) | (have e_ := (Kd.S_reads' HO_4.out).1; omega))
                                                obtain ⟨ve127_0, rfl, ge127_0⟩ := hMe127
                                                have hv127_0 := hcc127 0 _ rfl
                                                rw [Nat.add_zero, show ((Kd.slice 3 (Kd.int .i64))).sz = 1 from rfl, Nat.mul_one] at hv127_0
                                                replace hv127_0 := Option.some.inj (hv127_0.symm.trans hx127_0)
                                                rw [hv127_0] at ge127_0
                                                have HL127_0 := Aside0.mk (show Kd.R (Kd.int .i64) 3 _ _ _ _ (rd_L5 t116 (ji37)) from ge127_0)
                                                clear hv127_0 ge127_0
                                                clear hcc127 hce127
                                                have HR127_0 := Aside0.mk hi127_0
                                                have HC127_0 := Aside0.mk hl127_0
                                                clear hi127_0 hl127_0
                                                replace p127 := eq_true p127
                                                replace q127 := eq_true q127
                                                have p128 : 0 ≤ (0 : Int) := (by omega)
                                                have q128 : 0 < ((rd_L5 t116 (ji37)).length : Int) := of_decide_eq_true (by first | (with_reducible assumption) | assumption)
                                                obtain ⟨ad128, e128, hx128_0⟩ := Kd.at_int (by repeat (first | (with_reducible exact HR127_0.out) | (with_reducible refine Kd.C_alloc ?_ _) | (with_reducible refine Kd.C_drewN ?_ _) | (with_reducible refine Kd.C_drew ?_) | exact HR127_0.out)) 0 p128 q128
                                                cases e128
                                                have qi128 : (0 < (rd_L5 t116 (ji37)).length) = True := eq_true (by omega)
                                                (try rw [show ((0 : Int)).toNat = 0 from rfl] at hx128_0)
                                                (try rw [Addr.add_zero'] at hx128_0)
                                                replace p128 := eq_true p128
                                                replace q128 := eq_true q128
                                                have p129 : 0 ≤ ((rd (rd_L5 t116 (ji37)) 0) : Int) := of_decide_eq_true (by first | (with_reducible assumption) | assumption)
                                                have q129 : (rd (rd_L5 t116 (ji37)) 0) < (l0.length : Int) := of_decide_eq_true (by first | (with_reducible assumption) | assumption)
                                                obtain ⟨ad129, e129, hx129_0, hx129_1, hx129_2, hx129_3, hx129_4, hx129_5, hx129_6, hx129_7⟩ := at_T27 HR0.out (rd (rd_L5 t116 (ji37)) 0) p129 q129
                                                cases e129
                                                replace hx129_0 := (HB.out.cell (World.block_lt_of_cell? w _ hx129_0)).trans hx129_0
                                                replace hx129_1 := (HB.out.cell (World.block_lt_of_cell? w _ hx129_1)).trans hx129_1
                                                replace hx129_2 := (HB.out.cell (World.block_lt_of_cell? w _ hx129_2)).trans hx129_2
                                                replace hx129_3 := (HB.out.cell (World.block_lt_of_cell? w _ hx129_3)).trans hx129_3
                                                replace hx129_4 := (HB.out.cell (World.block_lt_of_cell? w _ hx129_4)).trans hx129_4
                                                replace hx129_5 := (HB.out.cell (World.block_lt_of_cell? w _ hx129_5)).trans hx129_5
                                                replace hx129_6 := (HB.out.cell (World.block_lt_of_cell? w _ hx129_6)).trans hx129_6
                                                replace hx129_7 := (HB.out.cell (World.block_lt_of_cell? w _ hx129_7)).trans hx129_7
                                                replace p129 := eq_true p129
                                                replace q129 := eq_true q129
                                                have p130 : 0 ≤ (0 : Int) := (by omega)
                                                have q130 : 0 < ((rd_L5 t116 x29_1).length : Int) := of_decide_eq_true (by first | (with_reducible assumption) | assumption)
                                                obtain ⟨ad130, e130, hx130_0⟩ := Kd.at_int (Kd.R_reads' HO_99.out).2.2 0 p130 q130
                                                cases e130
                                                have qi130 : (0 < (rd_L5 t116 x29_1).length) = True := eq_true (by omega)
                                                (try rw [show ((0 : Int)).toNat = 0 from rfl] at hx130_0)
                                                (try rw [Addr.add_zero'] at hx130_0)
                                                replace p130 := eq_true p130
                                                replace q130 := eq_true q130
                                                have p131 : 0 ≤ ((rd (rd_L5 t116 x29_1) 0) : Int) := of_decide_eq_true (by first | (with_reducible assumption) | assumption)
                                                have q131 : (rd (rd_L5 t116 x29_1) 0) < (l0.length : Int) := of_decide_eq_true (by first | (with_reducible assumption) | assumption)
                                                obtain ⟨ad131, e131, hx131_0, hx131_1, hx131_2, hx131_3, hx131_4, hx131_5, hx131_6, hx131_7⟩ := at_T27 HR0.out (rd (rd_L5 t116 x29_1) 0) p131 q131
                                                obtain rfl : ad129 = ad131 := (by injection e131)
                                                replace hx131_0 := (HB.out.cell (World.block_lt_of_cell? w _ hx131_0)).trans hx131_0
                                                replace hx131_1 := (HB.out.cell (World.block_lt_of_cell? w _ hx131_1)).trans hx131_1
                                                replace hx131_2 := (HB.out.cell (World.block_lt_of_cell? w _ hx131_2)).trans hx131_2
                                                replace hx131_3 := (HB.out.cell (World.block_lt_of_cell? w _ hx131_3)).trans hx131_3
                                                replace hx131_4 := (HB.out.cell (World.block_lt_of_cell? w _ hx131_4)).trans hx131_4
                                                replace hx131_5 := (HB.out.cell (World.block_lt_of_cell? w _ hx131_5)).trans hx131_5
                                                replace hx131_6 := (HB.out.cell (World.block_lt_of_cell? w _ hx131_6)).trans hx131_6
                                                replace hx131_7 := (HB.out.cell (World.block_lt_of_cell? w _ hx131_7)).trans hx131_7
                                                replace p131 := eq_true p131
                                                replace q131 := eq_true q131
                                                go_wp2
                                                repeat (go_quiet (fail); try go_wp2)
                                                go_roundg k2
                                                case measure => have := HK1.out; have := HK2.out; omega
                                                case rel => exact ⟨(x5_2), (wrap64 (x29_1 + 1)), (by first | rfl | (simp; done) | (simp [*]; done)), H', ⟨by have := HK1.out; have := HK2.out; omega⟩, ⟨by (with_reducible repeat (first | apply Kd.R_alloc | apply Kd.R_drewN | apply Kd.R_drew)); exact HO_3.out⟩, ⟨by (with_reducible repeat (first | apply Kd.S_alloc | apply Kd.S_drewN | apply Kd.S_drew)); exact HO_4.out⟩, ⟨by (with_reducible repeat (first | apply Kd.R_alloc | apply Kd.R_drewN | apply Kd.R_drew)); exact HO_5.out⟩, ⟨by (with_reducible repeat (first | apply Kd.S_alloc | apply Kd.S_drewN | apply Kd.S_drew)); exact HO_27.out⟩, ⟨by repeat (first | (with_reducible first | exact HB.out | apply below_alloc | apply pw_below_drewN | apply below_drew1) | exact HB.out)⟩⟩
                                              · rw [if_neg c46] at H
                                                have c46b0 : (Op.bytesLess (((rd_T27 l0 (rd (rd_L5 t116 (ji37)) 0)).f4).toList) (((rd_T27 l0 (rd (rd_L5 t116 x29_1) 0)).f4).toList)) = false := by simpa using c46
                                                clear c46
                                                obtain rfl := Option.some.inj H
                                                have p127 : 0 ≤ ((ji37) : Int) := of_decide_eq_true (by first | (with_reducible assumption) | assumption)
                                                have q127 : (ji37) < (t116.length : Int) := of_decide_eq_true (by first | (with_reducible assumption) | assumption)
                                                obtain ⟨ad127, A127_0, c127_0, e127, hx127_0, hl127_0, hi127_0⟩ := at_L5 (Kd.S_reads' HO_4.out).2.2 (ji37) p127 q127
                                                obtain rfl : ad122 = ad127 := (by injection e127)
                                                obtain ⟨ce127, hce127, hMe127, hcc127⟩ := Kd.S_get HO_4.out [] (ji37) p127 (by first | exact q127 | exact of_decide_eq_true (by first | (with_reducible assumption) | assumption) | (have e_ := (Kd.S_reads' HO_4.out).1; omega))
                                                obtain ⟨ve127_0, rfl, ge127_0⟩ := hMe127
                                                have hv127_0 := hcc127 0 _ rfl
                                                rw [Nat.add_zero, show ((Kd.slice 3 (Kd.int .i64))).sz = 1 from rfl, Nat.mul_one] at hv127_0
                                                replace hv127_0 := Option.some.inj (hv127_0.symm.trans hx127_0)
                                                rw [hv127_0] at ge127_0
                                                have HL127_0 := Aside0.mk (show Kd.R (Kd.int .i64) 3 _ _ _ _ (rd_L5 t116 (ji37)) from ge127_0)
                                                clear hv127_0 ge127_0
                                                clear hcc127 hce127
                                                have HR127_0 := Aside0.mk hi127_0
                                                have HC127_0 := Aside0.mk hl127_0
                                                clear hi127_0 hl127_0
                                                replace p127 := eq_true p127
                                                replace q127 := eq_true q127
                                                have p128 : 0 ≤ (0 : Int) := (by omega)
                                                have q128 : 0 < ((rd_L5 t116 (ji37)).length : Int) := of_decide_eq_true (by first | (with_reducible assumption) | assumption)
                                                obtain ⟨ad128, e128, hx128_0⟩ := Kd.at_int (by repeat (first | (with_reducible exact HR127_0.out) | (with_reducible refine Kd.C_alloc ?_ _) | (with_reducible refine Kd.C_drewN ?_ _) | (with_reducible refine Kd.C_drew ?_) | exact HR127_0.out)) 0 p128 q128
                                                cases e128
                                                have qi128 : (0 < (rd_L5 t116 (ji37)).length) = True := eq_true (by omega)
                                                (try rw [show ((0 : Int)).toNat = 0 from rfl] at hx128_0)
                                                (try rw [Addr.add_zero'] at hx128_0)
                                                replace p128 := eq_true p128
                                                replace q128 := eq_true q128
                                                have p129 : 0 ≤ ((rd (rd_L5 t116 (ji37)) 0) : Int) := of_decide_eq_true (by first | (with_reducible assumption) | assumption)
                                                have q129 : (rd (rd_L5 t116 (ji37)) 0) < (l0.length : Int) := of_decide_eq_true (by first | (with_reducible assumption) | assumption)
                                                obtain ⟨ad129, e129, hx129_0, hx129_1, hx129_2, hx129_3, hx129_4, hx129_5, hx129_6, hx129_7⟩ := at_T27 HR0.out (rd (rd_L5 t116 (ji37)) 0) p129 q129
                                                cases e129
                                                replace hx129_0 := (HB.out.cell (World.block_lt_of_cell? w _ hx129_0)).trans hx129_0
                                                replace hx129_1 := (HB.out.cell (World.block_lt_of_cell? w _ hx129_1)).trans hx129_1
                                                replace hx129_2 := (HB.out.cell (World.block_lt_of_cell? w _ hx129_2)).trans hx129_2
                                                replace hx129_3 := (HB.out.cell (World.block_lt_of_cell? w _ hx129_3)).trans hx129_3
                                                replace hx129_4 := (HB.out.cell (World.block_lt_of_cell? w _ hx129_4)).trans hx129_4
                                                replace hx129_5 := (HB.out.cell (World.block_lt_of_cell? w _ hx129_5)).trans hx129_5
                                                replace hx129_6 := (HB.out.cell (World.block_lt_of_cell? w _ hx129_6)).trans hx129_6
                                                replace hx129_7 := (HB.out.cell (World.block_lt_of_cell? w _ hx129_7)).trans hx129_7
                                                replace p129 := eq_true p129
                                                replace q129 := eq_true q129
                                                have p130 : 0 ≤ (0 : Int) := (by omega)
                                                have q130 : 0 < ((rd_L5 t116 x29_1).length : Int) := of_decide_eq_true (by first | (with_reducible assumption) | assumption)
                                                obtain ⟨ad130, e130, hx130_0⟩ := Kd.at_int (Kd.R_reads' HO_99.out).2.2 0 p130 q130
                                                cases e130
                                                have qi130 : (0 < (rd_L5 t116 x29_1).length) = True := eq_true (by omega)
                                                (try rw [show ((0 : Int)).toNat = 0 from rfl] at hx130_0)
                                                (try rw [Addr.add_zero'] at hx130_0)
                                                replace p130 := eq_true p130
                                                replace q130 := eq_true q130
                                                have p131 : 0 ≤ ((rd (rd_L5 t116 x29_1) 0) : Int) := of_decide_eq_true (by first | (with_reducible assumption) | assumption)
                                                have q131 : (rd (rd_L5 t116 x29_1) 0) < (l0.length : Int) := of_decide_eq_true (by first | (with_reducible assumption) | assumption)
                                                obtain ⟨ad131, e131, hx131_0, hx131_1, hx131_2, hx131_3, hx131_4, hx131_5, hx131_6, hx131_7⟩ := at_T27 HR0.out (rd (rd_L5 t116 x29_1) 0) p131 q131
                                                obtain rfl : ad129 = ad131 := (by injection e131)
                                                replace hx131_0 := (HB.out.cell (World.block_lt_of_cell? w _ hx131_0)).trans hx131_0
                                                replace hx131_1 := (HB.out.cell (World.block_lt_of_cell? w _ hx131_1)).trans hx131_1
                                                replace hx131_2 := (HB.out.cell (World.block_lt_of_cell? w _ hx131_2)).trans hx131_2
                                                replace hx131_3 := (HB.out.cell (World.block_lt_of_cell? w _ hx131_3)).trans hx131_3
                                                replace hx131_4 := (HB.out.cell (World.block_lt_of_cell? w _ hx131_4)).trans hx131_4
                                                replace hx131_5 := (HB.out.cell (World.block_lt_of_cell? w _ hx131_5)).trans hx131_5
                                                replace hx131_6 := (HB.out.cell (World.block_lt_of_cell? w _ hx131_6)).trans hx131_6
                                                replace hx131_7 := (HB.out.cell (World.block_lt_of_cell? w _ hx131_7)).trans hx131_7
                                                replace p131 := eq_true p131
                                                replace q131 := eq_true q131
                                                go_wp2
                                                repeat (go_quiet (fail); try go_wp2)
                                                go_ret
                                                exact ⟨by first | rfl | (simp [errW_none, errW_some] <;> rfl) | (simp only [← hji37]; first | rfl | (simp [errW_none, errW_some] <;> rfl)) | (simp [*, errW_none, errW_some] <;> rfl), by repeat (first | (with_reducible first | exact HB.out | apply below_alloc | apply pw_below_drewN | apply below_drew1) | exact HB.out)⟩
                                            · rw [if_neg c45] at H
                                              exact absurd H (by simp)
                                          · rw [if_neg c44] at H
                                            exact absurd H (by simp)
                                        · rw [if_neg c43] at H
                                          exact absurd H (by simp)
                                      · rw [if_neg c42] at H
                                        exact absurd H (by simp)
                                    · rw [if_neg c41] at H
                                      exact absurd H (by simp)
                                  · rw [if_neg c40] at H
                                    exact absurd H (by simp)
                                · rw [if_neg c39] at H
                                  exact absurd H (by simp)
                              · rw [if_neg c38] at H
                                exact absurd H (by simp)
                            · rw [if_neg c36] at H
                              have c36b0 : decide (0 < x29_1) = false := decide_eq_false c36
                              clear c36
                              have H' := Aside0.mk H
                              clear H
                              go_wp2
                              repeat (go_quiet (fail); try go_wp2)
                              go_roundg k2
                              case measure => have := HK1.out; have := HK2.out; omega
                              case rel => exact ⟨(x5_2), (wrap64 (x29_1 + 1)), (by first | rfl | (simp; done) | (simp [*]; done)), H', ⟨by have := HK1.out; have := HK2.out; omega⟩, ⟨by (with_reducible repeat (first | apply Kd.R_alloc | apply Kd.R_drewN | apply Kd.R_drew)); exact HO_3.out⟩, ⟨by (with_reducible repeat (first | apply Kd.S_alloc | apply Kd.S_drewN | apply Kd.S_drew)); exact HO_4.out⟩, ⟨by (with_reducible repeat (first | apply Kd.R_alloc | apply Kd.R_drewN | apply Kd.R_drew)); exact HO_5.out⟩, ⟨by (with_reducible repeat (first | apply Kd.S_alloc | apply Kd.S_drewN | apply Kd.S_drew)); exact HO_27.out⟩, ⟨by repeat (first | (with_reducible first | exact HB.out | apply below_alloc | apply pw_below_drewN | apply below_drew1) | exact HB.out)⟩⟩
                  · rw [if_neg c21] at H
                    exact absurd H (by simp)
                · rw [if_neg c20] at H
                  exact absurd H (by simp)
              · rw [if_neg c19] at H
                have c19b0 : decide (x29_1 < (t116.length : Int)) = false := decide_eq_false c19
                clear c19
                have H' := Aside0.mk H
                clear H
                obtain ⟨Ao47, co47, eo47⟩ := Kd.R_slice HO_5.out
                subst eo47
                go_wp2
                repeat (go_quiet (fail); try go_wp2)
                go_loopg [94] k1 (fun kq v94 w' => ∃ (x94_2 : Int), v94 = .int .i64 x94_2 ∧ Aside0 (merkhetlaw13_HostsAll.l2 kq x5_1 (x5_1.length : Int) x94_2 = some r) ∧ Aside0 (kq ≤ k1) ∧ Aside0 (Kd.R (Kd.int .i64) 3 w' w.heap.size (fun _ => True) (.slice Ao47 x5_1.length co47) x5_1) ∧ Aside0 (Below w.heap.size w w'))
                case atStart => exact ⟨(0), (by first | rfl | (simp; done) | (simp [*]; done)), H', ⟨Nat.le_refl _⟩, ⟨by (with_reducible repeat (first | apply Kd.R_alloc | apply Kd.R_drewN | apply Kd.R_drew)); exact Kd.R_mono HO_5.out (fun _ hk => trivial)⟩, ⟨by repeat (first | (with_reducible first | exact HB.out | apply below_alloc | apply pw_below_drewN | apply below_drew1) | exact HB.out)⟩⟩
                case round =>
                  clear H'
                  try clear c1
                  try clear p1
                  try clear q1
                  try clear hx1
                  try clear qi1
                  try clear c2
                  try clear p2
                  try clear c3
                  try clear p3
                  try clear q3
                  try clear hx3
                  try clear hf3
                  try clear c4
                  try clear c5
                  try clear p6
                  try clear c9
                  try clear c9b0
                  try clear c9b1
                  try clear c9b2
                  try clear c10
                  try clear c10b0
                  try clear c10b1
                  try clear c11
                  try clear c11b0
                  try clear c11b1
                  try clear c12
                  try clear p12
                  try clear q12
                  try clear hx12
                  try clear qi12
                  try clear p13
                  try clear q13
                  try clear hx13
                  try clear qi13
                  try clear c19
                  try clear c19b0
                  try clear c20
                  try clear c20b0
                  try clear c21
                  try clear c21b0
                  try clear c22
                  try clear c22b0
                  try clear c23
                  try clear c23b0
                  try clear c24
                  try clear c24b0
                  try clear c25
                  try clear c25b0
                  try clear c26
                  try clear c26b0
                  try clear c27
                  try clear c27b0
                  try clear c28
                  try clear c28b0
                  try clear c29
                  try clear c29b0
                  try clear c29b1
                  try clear c30
                  try clear c30b0
                  try clear p31
                  try clear q31
                  try clear hx31
                  try clear hf31
                  try clear c35
                  try clear c35b0
                  try clear c35b1
                  try clear c35b2
                  try clear c36
                  try clear c36b0
                  try clear c38
                  try clear c38b0
                  try clear c39
                  try clear c39b0
                  try clear c40
                  try clear c40b0
                  try clear c40b1
                  try clear c41
                  try clear c41b0
                  try clear c42
                  try clear c42b0
                  try clear c43
                  try clear c43b0
                  try clear c43b1
                  try clear c44
                  try clear c44b0
                  try clear c45
                  try clear c45b0
                  try clear c46
                  try clear c46b0
                  try clear hx122_0
                  try clear hx123_0
                  try clear hx124_0
                  try clear hx125_0
                  try clear hx127_0
                  try clear hx128_0
                  try clear hx129_0
                  try clear hx129_1
                  try clear hx129_2
                  try clear hx129_3
                  try clear hx129_4
                  try clear hx129_5
                  try clear hx129_6
                  try clear hx129_7
                  try clear hx130_0
                  try clear hx131_0
                  try clear hx131_1
                  try clear hx131_2
                  try clear hx131_3
                  try clear hx131_4
                  try clear hx131_5
                  try clear hx131_6
                  try clear hx131_7
                  try clear hx31_0
                  try clear p1
                  try clear p12
                  try clear p122
                  try clear p123
                  try clear p124
                  try clear p125
                  try clear p127
                  try clear p128
                  try clear p129
                  try clear p130
                  try clear p131
                  try clear p2
                  try clear p31
                  try clear q1
                  try clear q12
                  try clear q122
                  try clear q123
                  try clear q124
                  try clear q125
                  try clear q127
                  try clear q128
                  try clear q129
                  try clear q130
                  try clear q131
                  try clear q31
                  obtain ⟨x94_2, rfl, HA, HK2, HO_92, HB⟩ := hrel
                  cases gk with
                  | zero => exact absurd HA.out (by simp [merkhetlaw13_HostsAll.l2])
                  | succ k2 =>
                    have H := HA.out
                    clear HA
                    simp only [merkhetlaw13_HostsAll.l2] at H
                    by_cases c48 : x94_2 < (x5_1.length : Int)
                    · rw [if_pos c48] at H
                      have c48b0 : decide (x94_2 < (x5_1.length : Int)) = true := decide_eq_true c48
                      clear c48
                      by_cases c49 : 0 ≤ x94_2
                      · rw [if_pos c49] at H
                        have c49b0 : decide (0 ≤ x94_2) = true := decide_eq_true c49
                        clear c49
                        by_cases c50 : x94_2 < (x5_1.length : Int)
                        · rw [if_pos c50] at H
                          have c50b0 : decide (x94_2 < (x5_1.length : Int)) = true := decide_eq_true c50
                          clear c50
                          by_cases c51 : (rd x5_1 x94_2) = 1
                          · rw [if_pos c51] at H
                            have c51b0 : ((rd x5_1 x94_2) == 1) = true := beq_iff_eq.mpr c51
                            have c51b1 : ((rd x5_1 x94_2) != 1) = false := bne_eq_false_iff_eq.mpr c51
                            clear c51
                            have H' := Aside0.mk H
                            clear H
                            have p132 : 0 ≤ (x94_2 : Int) := of_decide_eq_true (by first | (with_reducible assumption) | assumption)
                            have q132 : x94_2 < (x5_1.length : Int) := of_decide_eq_true (by first | (with_reducible assumption) | assumption)
                            obtain ⟨ad132, e132, hx132_0⟩ := Kd.at_int (Kd.R_reads' HO_92.out).2.2 x94_2 p132 q132
                            cases e132
                            replace p132 := eq_true p132
                            replace q132 := eq_true q132
                            go_wp2
                            repeat (go_quiet (fail); try go_wp2)
                            go_roundg k2
                            case measure => have := HK1.out; have := HK2.out; omega
                            case rel => exact ⟨(wrap64 (x94_2 + 1)), (by first | rfl | (simp; done) | (simp [*]; done)), H', ⟨by have := HK1.out; have := HK2.out; omega⟩, ⟨by (with_reducible repeat (first | apply Kd.R_alloc | apply Kd.R_drewN | apply Kd.R_drew)); exact HO_92.out⟩, ⟨by repeat (first | (with_reducible first | exact HB.out | apply below_alloc | apply pw_below_drewN | apply below_drew1) | exact HB.out)⟩⟩
                          · rw [if_neg c51] at H
                            have c51b0 : ((rd x5_1 x94_2) == 1) = false := beq_eq_false_iff_ne.mpr c51
                            have c51b1 : ((rd x5_1 x94_2) != 1) = true := bne_iff_ne.mpr c51
                            obtain rfl := Option.some.inj H
                            have p132 : 0 ≤ (x94_2 : Int) := of_decide_eq_true (by first | (with_reducible assumption) | assumption)
                            have q132 : x94_2 < (x5_1.length : Int) := of_decide_eq_true (by first | (with_reducible assumption) | assumption)
                            obtain ⟨ad132, e132, hx132_0⟩ := Kd.at_int (Kd.R_reads' HO_92.out).2.2 x94_2 p132 q132
                            cases e132
                            replace p132 := eq_true p132
                            replace q132 := eq_true q132
                            go_wp2
                            repeat (go_quiet (fail); try go_wp2)
                            go_ret
                            exact ⟨by first | rfl | (simp [errW_none, errW_some] <;> rfl) | (simp [*, errW_none, errW_some] <;> rfl), by repeat (first | (with_reducible first | exact HB.out | apply below_alloc | apply pw_below_drewN | apply below_drew1) | exact HB.out)⟩
                        · rw [if_neg c50] at H
                          exact absurd H (by simp)
                      · rw [if_neg c49] at H
                        exact absurd H (by simp)
                    · rw [if_neg c48] at H
                      have c48b0 : decide (x94_2 < (x5_1.length : Int)) = false := decide_eq_false c48
                      clear c48
                      replace H := Option.bind_eq_some_iff.mp H
                      obtain ⟨t133, A520, H⟩ := H
                      replace H : (some t133) = some r := H
                      have A52 := Aside0.mk A520
                      clear A520
                      obtain rfl := Option.some.inj H
                      go_wp2_with (first | (go_at_call 13; (with_reducible refine (merkhetlaw13_fixed.calls k2  t133 _ A52.out).mono ?_); rintro e w53 ⟨rfl, hb⟩; have n0_ := Aside0.mk (Kd.R_below (by (with_reducible repeat (first | apply Kd.R_alloc | apply Kd.R_drewN | apply Kd.R_drew)); exact HO_92.out) hb); have n1_ := Aside0.mk (below_step (by repeat (first | (with_reducible first | exact HB.out | apply below_alloc | apply pw_below_drewN | apply below_drew1) | exact HB.out)) hb); clear HO_92; clear HB; have HO_92 := n0_; have HB := n1_; clear n0_ n1_; (try clear hb); (try clear hb2); (try clear hk); (try clear hi)))
                      repeat (go_quiet (first | (go_at_call 13; (with_reducible refine (merkhetlaw13_fixed.calls k2  t133 _ A52.out).mono ?_); rintro e w53 ⟨rfl, hb⟩; have n0_ := Aside0.mk (Kd.R_below (by (with_reducible repeat (first | apply Kd.R_alloc | apply Kd.R_drewN | apply Kd.R_drew)); exact HO_92.out) hb); have n1_ := Aside0.mk (below_step (by repeat (first | (with_reducible first | exact HB.out | apply below_alloc | apply pw_below_drewN | apply below_drew1) | exact HB.out)) hb); clear HO_92; clear HB; have HO_92 := n0_; have HB := n1_; clear n0_ n1_; (try clear hb); (try clear hb2); (try clear hk); (try clear hi))); try go_wp2_with (first | (go_at_call 13; (with_reducible refine (merkhetlaw13_fixed.calls k2  t133 _ A52.out).mono ?_); rintro e w53 ⟨rfl, hb⟩; have n0_ := Aside0.mk (Kd.R_below (by (with_reducible repeat (first | apply Kd.R_alloc | apply Kd.R_drewN | apply Kd.R_drew)); exact HO_92.out) hb); have n1_ := Aside0.mk (below_step (by repeat (first | (with_reducible first | exact HB.out | apply below_alloc | apply pw_below_drewN | apply below_drew1) | exact HB.out)) hb); clear HO_92; clear HB; have HO_92 := n0_; have HB := n1_; clear n0_ n1_; (try clear hb); (try clear hb2); (try clear hk); (try clear hi))))
                      go_ret
                      exact ⟨by first | rfl | (simp [errW_none, errW_some] <;> rfl) | (simp [*, errW_none, errW_some] <;> rfl), by repeat (first | (with_reducible first | exact HB.out | apply below_alloc | apply pw_below_drewN | apply below_drew1) | exact HB.out)⟩
        · rw [if_neg c11] at H
          exact absurd H (by simp)
      · rw [if_neg c10] at H
        exact absurd H (by simp)
    · rw [if_neg c9] at H
      have c9b0 : ((t113.length : Int) == (l0.length : Int)) = false := beq_eq_false_iff_ne.mpr c9
      have c9b1 : ((t113.length : Int) != (l0.length : Int)) = true := bne_iff_ne.mpr c9
      have c9b2 : (t113.length == l0.length) = false := by first | simpa using c9 | (simp at c9 ⊢; omega)
      obtain rfl := Option.some.inj H
      go_enter Try.func5, Try.ntmps5
      go_wp2_with (first | (go_at_call 15; (with_reducible refine (merkhetlaw04_Great.calls k _ _ l0 false _ ?side1 ?side2 A2.out).mono ?_); (case side1 => repeat (first | exact HR0.out | (with_reducible refine Kd.C_alloc ?_ _) | (with_reducible refine Kd.C_drewN ?_ _) | (with_reducible refine Kd.C_drew ?_))); (case side2 => exact HC0.out); rintro e w54 ⟨rfl, hb⟩; have n0_ := Aside0.mk (below_step (by repeat (first | (with_reducible first | exact HB.out | apply below_alloc | apply pw_below_drewN | apply below_drew1) | exact HB.out)) hb); clear HB; have HB := n0_; clear n0_; (try clear hb); (try clear hb2); (try clear hk); (try clear hi)) | (go_at_call 19; (with_reducible refine (hosts_Of.calls _ _ l0 t113 _ ?side1 ?side2 A7.out).mono ?_); (case side1 => repeat (first | exact (Kd.C_below HR0.out HB.out) | (with_reducible refine Kd.C_alloc ?_ _) | (with_reducible refine Kd.C_drewN ?_ _) | (with_reducible refine Kd.C_drew ?_))); (case side2 => exact HC0.out); rintro e w55 ⟨v114, rfl, ho0, hb⟩; have n0_ := Aside0.mk (Kd.R_lower ho0 (below_size (by repeat (first | (with_reducible first | exact HB.out | apply below_alloc | apply pw_below_drewN | apply below_drew1) | exact HB.out)))); have n1_ := Aside0.mk (below_step (by repeat (first | (with_reducible first | exact HB.out | apply below_alloc | apply pw_below_drewN | apply below_drew1) | exact HB.out)) hb); clear HB; have HO115 := n0_; have HB := n1_; clear n0_ n1_; (try clear hb); (try clear hb2); (try clear hk); (try clear hi); (try clear ho0)) | (go_at_call 16; (with_reducible refine (hosts_Groups.calls _ _ l0 t116 _ ?side1 ?side2 A8.out).mono ?_); (case side1 => repeat (first | exact (Kd.C_below HR0.out HB.out) | (with_reducible refine Kd.C_alloc ?_ _) | (with_reducible refine Kd.C_drewN ?_ _) | (with_reducible refine Kd.C_drew ?_))); (case side2 => exact HC0.out); rintro e w56 ⟨v117, rfl, ho0, hb⟩; have n0_ := Aside0.mk (Kd.R_below (by (with_reducible repeat (first | apply Kd.R_alloc | apply Kd.R_drewN | apply Kd.R_drew)); exact HO115.out) hb); have n1_ := Aside0.mk (Kd.S_lower (Kd.S_new' ho0 (Kd.R_lt (by (with_reducible repeat (first | apply Kd.R_alloc | apply Kd.R_drewN | apply Kd.R_drew)); exact HO115.out))) (below_size (by repeat (first | (with_reducible first | exact HB.out | apply below_alloc | apply pw_below_drewN | apply below_drew1) | exact HB.out)))); have n2_ := Aside0.mk (below_step (by repeat (first | (with_reducible first | exact HB.out | apply below_alloc | apply pw_below_drewN | apply below_drew1) | exact HB.out)) hb); clear HO115; clear HB; have HO115 := n0_; have HO118 := n1_; have HB := n2_; clear n0_ n1_ n2_; (try clear hb); (try clear hb2); (try clear hk); (try clear hi); (try clear ho0); obtain ⟨Ao57, co57, eo57⟩ := Kd.R_slice HO115.out; subst eo57))
      repeat (go_quiet (first | (go_at_call 15; (with_reducible refine (merkhetlaw04_Great.calls k _ _ l0 false _ ?side1 ?side2 A2.out).mono ?_); (case side1 => repeat (first | exact HR0.out | (with_reducible refine Kd.C_alloc ?_ _) | (with_reducible refine Kd.C_drewN ?_ _) | (with_reducible refine Kd.C_drew ?_))); (case side2 => exact HC0.out); rintro e w54 ⟨rfl, hb⟩; have n0_ := Aside0.mk (below_step (by repeat (first | (with_reducible first | exact HB.out | apply below_alloc | apply pw_below_drewN | apply below_drew1) | exact HB.out)) hb); clear HB; have HB := n0_; clear n0_; (try clear hb); (try clear hb2); (try clear hk); (try clear hi)) | (go_at_call 19; (with_reducible refine (hosts_Of.calls _ _ l0 t113 _ ?side1 ?side2 A7.out).mono ?_); (case side1 => repeat (first | exact (Kd.C_below HR0.out HB.out) | (with_reducible refine Kd.C_alloc ?_ _) | (with_reducible refine Kd.C_drewN ?_ _) | (with_reducible refine Kd.C_drew ?_))); (case side2 => exact HC0.out); rintro e w55 ⟨v114, rfl, ho0, hb⟩; have n0_ := Aside0.mk (Kd.R_lower ho0 (below_size (by repeat (first | (with_reducible first | exact HB.out | apply below_alloc | apply pw_below_drewN | apply below_drew1) | exact HB.out)))); have n1_ := Aside0.mk (below_step (by repeat (first | (with_reducible first | exact HB.out | apply below_alloc | apply pw_below_drewN | apply below_drew1) | exact HB.out)) hb); clear HB; have HO115 := n0_; have HB := n1_; clear n0_ n1_; (try clear hb); (try clear hb2); (try clear hk); (try clear hi); (try clear ho0)) | (go_at_call 16; (with_reducible refine (hosts_Groups.calls _ _ l0 t116 _ ?side1 ?side2 A8.out).mono ?_); (case side1 => repeat (first | exact (Kd.C_below HR0.out HB.out) | (with_reducible refine Kd.C_alloc ?_ _) | (with_reducible refine Kd.C_drewN ?_ _) | (with_reducible refine Kd.C_drew ?_))); (case side2 => exact HC0.out); rintro e w56 ⟨v117, rfl, ho0, hb⟩; have n0_ := Aside0.mk (Kd.R_below (by (with_reducible repeat (first | apply Kd.R_alloc | apply Kd.R_drewN | apply Kd.R_drew)); exact HO115.out) hb); have n1_ := Aside0.mk (Kd.S_lower (Kd.S_new' ho0 (Kd.R_lt (by (with_reducible repeat (first | apply Kd.R_alloc | apply Kd.R_drewN | apply Kd.R_drew)); exact HO115.out))) (below_size (by repeat (first | (with_reducible first | exact HB.out | apply below_alloc | apply pw_below_drewN | apply below_drew1) | exact HB.out)))); have n2_ := Aside0.mk (below_step (by repeat (first | (with_reducible first | exact HB.out | apply below_alloc | apply pw_below_drewN | apply below_drew1) | exact HB.out)) hb); clear HO115; clear HB; have HO115 := n0_; have HO118 := n1_; have HB := n2_; clear n0_ n1_ n2_; (try clear hb); (try clear hb2); (try clear hk); (try clear hi); (try clear ho0); obtain ⟨Ao57, co57, eo57⟩ := Kd.R_slice HO115.out; subst eo57)); try go_wp2_with (first | (go_at_call 15; (with_reducible refine (merkhetlaw04_Great.calls k _ _ l0 false _ ?side1 ?side2 A2.out).mono ?_); (case side1 => repeat (first | exact HR0.out | (with_reducible refine Kd.C_alloc ?_ _) | (with_reducible refine Kd.C_drewN ?_ _) | (with_reducible refine Kd.C_drew ?_))); (case side2 => exact HC0.out); rintro e w54 ⟨rfl, hb⟩; have n0_ := Aside0.mk (below_step (by repeat (first | (with_reducible first | exact HB.out | apply below_alloc | apply pw_below_drewN | apply below_drew1) | exact HB.out)) hb); clear HB; have HB := n0_; clear n0_; (try clear hb); (try clear hb2); (try clear hk); (try clear hi)) | (go_at_call 19; (with_reducible refine (hosts_Of.calls _ _ l0 t113 _ ?side1 ?side2 A7.out).mono ?_); (case side1 => repeat (first | exact (Kd.C_below HR0.out HB.out) | (with_reducible refine Kd.C_alloc ?_ _) | (with_reducible refine Kd.C_drewN ?_ _) | (with_reducible refine Kd.C_drew ?_))); (case side2 => exact HC0.out); rintro e w55 ⟨v114, rfl, ho0, hb⟩; have n0_ := Aside0.mk (Kd.R_lower ho0 (below_size (by repeat (first | (with_reducible first | exact HB.out | apply below_alloc | apply pw_below_drewN | apply below_drew1) | exact HB.out)))); have n1_ := Aside0.mk (below_step (by repeat (first | (with_reducible first | exact HB.out | apply below_alloc | apply pw_below_drewN | apply below_drew1) | exact HB.out)) hb); clear HB; have HO115 := n0_; have HB := n1_; clear n0_ n1_; (try clear hb); (try clear hb2); (try clear hk); (try clear hi); (try clear ho0)) | (go_at_call 16; (with_reducible refine (hosts_Groups.calls _ _ l0 t116 _ ?side1 ?side2 A8.out).mono ?_); (case side1 => repeat (first | exact (Kd.C_below HR0.out HB.out) | (with_reducible refine Kd.C_alloc ?_ _) | (with_reducible refine Kd.C_drewN ?_ _) | (with_reducible refine Kd.C_drew ?_))); (case side2 => exact HC0.out); rintro e w56 ⟨v117, rfl, ho0, hb⟩; have n0_ := Aside0.mk (Kd.R_below (by (with_reducible repeat (first | apply Kd.R_alloc | apply Kd.R_drewN | apply Kd.R_drew)); exact HO115.out) hb); have n1_ := Aside0.mk (Kd.S_lower (Kd.S_new' ho0 (Kd.R_lt (by (with_reducible repeat (first | apply Kd.R_alloc | apply Kd.R_drewN | apply Kd.R_drew)); exact HO115.out))) (below_size (by repeat (first | (with_reducible first | exact HB.out | apply below_alloc | apply pw_below_drewN | apply below_drew1) | exact HB.out)))); have n2_ := Aside0.mk (below_step (by repeat (first | (with_reducible first | exact HB.out | apply below_alloc | apply pw_below_drewN | apply below_drew1) | exact HB.out)) hb); clear HO115; clear HB; have HO115 := n0_; have HO118 := n1_; have HB := n2_; clear n0_ n1_ n2_; (try clear hb); (try clear hb2); (try clear hk); (try clear hi); (try clear ho0); obtain ⟨Ao57, co57, eo57⟩ := Kd.R_slice HO115.out; subst eo57)))
      go_ret
      exact ⟨by first | rfl | (simp [errW_none, errW_some] <;> rfl) | (simp [*, errW_none, errW_some] <;> rfl), by repeat (first | (with_reducible first | exact HB.out | apply below_alloc | apply pw_below_drewN | apply below_drew1) | exact HB.out)⟩

end Go.Proofs.Ytkpmaenhkjfncaa.M
