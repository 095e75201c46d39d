-- Written by wip/tools/gp.py, a program of this session round the kit's printer. Lean checks it.
import Derived.Test.YtkpmaenhkjfncaaRx0
import Derived.Test.YtkpmaenhkjfncaaQx6
import Derived.Test.YtkpmaenhkjfncaaQx7
import Derived.Test.YtkpmaenhkjfncaaQx8
namespace Go.Proofs.Ytkpmaenhkjfncaa.R
open Go.RowKit Go.Proofs.Ytkpmaenhkjfncaa.Q Go.Proofs.YtkpmaenhkjfncaaW.PrintWords Go.Proofs.YtkpmaenhkjfncaaW.PrintLast Go.Proofs.YtkpmaenhkjfncaaW.PrintMore
attribute [local go_sem] max2_int min2_int max_two min_two max_three min_three max_four min_four   -- for this text's walks alone
set_option linter.unusedVariables false
set_option linter.unusedSimpArgs false

/-! ### dedupe_Of: function 35 (given) -/
def dedupe_Of.f (l0 : List S27) (a1 : Int) : Option (List S27) := if l0.length ≤ 1759218604441 ∧ (∀ x ∈ l0, L.fitS x) then some (L.ofD l0 a1) else none
theorem dedupe_Of.calls (A0 : Option Addr) (c0 : Nat) (l0 : List (S27)) (a1 : Int) (r : List (S27)) (w : World) (hr0 : Kd.C k27 w A0 l0.length l0) (hc0 : l0.length ≤ c0) (h : dedupe_Of.f l0 a1 = some r) :
    Calls Try.prog 35 #[.slice A0 l0.length c0, .int .u64 a1] w fun e w' => ∃ v0_ : Value, e = .returned (v0_) ∧ Kd.R k27 27 w' w.heap.size (fun _ => True) v0_ r ∧ Below w.heap.size w w' := by
  unfold dedupe_Of.f at h
  split at h
  · rename_i hl
    obtain rfl := Option.some.inj h
    exact L.of_calls l0 a1 hl.1 hl.2 A0 c0 w hr0 hc0
  · exact absurd h (by simp)

/-! ### merkhetlaw09_fixed: function 34 -/
def merkhetlaw09_fixed.f  : Option (Bool) := (dedupe_Of.f (([(⟨1, 2, 0, 0, (⟨#[97]⟩ : ByteArray), (⟨#[98]⟩ : ByteArray), 5, 0⟩ : S27), (⟨1, 2, 0, 0, (⟨#[97]⟩ : ByteArray), (⟨#[98]⟩ : ByteArray), 3, 0⟩ : S27)] : List (S27))) 1).bind fun t104 => (if (t104.length : Int) = 1 then (if 0 < (t104.length : Int) then (some (((rd_T27 t104 0).f6) == 3)) else (none)) else (some false))
set_option maxHeartbeats 8000000 in
set_option maxRecDepth 100000 in
theorem merkhetlaw09_fixed.calls  (r : Bool) (w : World) (h : merkhetlaw09_fixed.f  = some r) :
    Calls Try.prog 34 #[] w fun e w' => e = .returned (.bool r) ∧ Below w.heap.size w w' := by
  have hu27 := Try.underlying27
  have HB := Aside0.mk (Below.refl w.heap.size w)
  have H : ((dedupe_Of.f (([(⟨1, 2, 0, 0, (⟨#[97]⟩ : ByteArray), (⟨#[98]⟩ : ByteArray), 5, 0⟩ : S27), (⟨1, 2, 0, 0, (⟨#[97]⟩ : ByteArray), (⟨#[98]⟩ : ByteArray), 3, 0⟩ : S27)] : List (S27))) 1).bind fun t104 => (if (t104.length : Int) = 1 then (if 0 < (t104.length : Int) then (some (((rd_T27 t104 0).f6) == 3)) else (none)) else (some false))) = some r := h
  clear h
  obtain ⟨y101, hy101⟩ : ∃ y_ : List (S27), y_ = (([(⟨1, 2, 0, 0, (⟨#[97]⟩ : ByteArray), (⟨#[98]⟩ : ByteArray), 5, 0⟩ : S27), (⟨1, 2, 0, 0, (⟨#[97]⟩ : ByteArray), (⟨#[98]⟩ : ByteArray), 3, 0⟩ : S27)] : List (S27))) := ⟨_, rfl⟩
  replace H : ((dedupe_Of.f y101 1).bind fun t104 => (if (t104.length : Int) = 1 then (if 0 < (t104.length : Int) then (some (((rd_T27 t104 0).f6) == 3)) else (none)) else (some false))) = some r := by first | (rw [hy101]; with_reducible exact H) | (have H2_ := (Option.bind_some _ _).symm.trans H; rw [hy101]; with_reducible exact H2_) | (have H2_ := (Option.bind_some _ _).symm.trans H; with_reducible exact H2_) | with_reducible exact H | (rw [hy101]; exact H) | exact H
  have Ny101 := Aside0.mk hy101
  clear hy101
  replace H := Option.bind_eq_some_iff.mp H
  obtain ⟨t104, A10, H⟩ := H
  replace H : (if (t104.length : Int) = 1 then (if 0 < (t104.length : Int) then (some (((rd_T27 t104 0).f6) == 3)) else (none)) else (some false)) = some r := H
  have A1 := Aside0.mk A10
  clear A10
  by_cases c2 : (t104.length : Int) = 1
  · rw [if_pos c2] at H
    have c2b0 : ((t104.length : Int) == 1) = true := beq_iff_eq.mpr c2
    have c2b1 : ((t104.length : Int) != 1) = false := bne_eq_false_iff_eq.mpr c2
    clear c2
    by_cases c3 : 0 < (t104.length : Int)
    · rw [if_pos c3] at H
      have c3b0 : decide (0 < (t104.length : Int)) = true := decide_eq_true c3
      have c3b1 : decide (0 < t104.length) = true := decide_eq_true (by omega)
      clear c3
      obtain rfl := Option.some.inj H
      go_enter Try.func34, Try.ntmps34
      go_wp2_with (first | ((with_reducible refine gate_dst (N := 4) rfl ?_); refine Kd.R_lit k27 _ 27 ?hg (N := 4) ?hd (xs := ([(⟨1, 2, 0, 0, (⟨#[97]⟩ : ByteArray), (⟨#[98]⟩ : ByteArray), 5, 0⟩ : S27), (⟨1, 2, 0, 0, (⟨#[97]⟩ : ByteArray), (⟨#[98]⟩ : ByteArray), 3, 0⟩ : S27)] : List (S27))) (inner := [.int .u64 1, .int .u64 2, .int .u64 0, .int .u8 0, .string (⟨#[97]⟩ : ByteArray), .string (⟨#[98]⟩ : ByteArray), .int .i64 5, .int .i64 0, .int .u64 1, .int .u64 2, .int .u64 0, .int .u8 0, .string (⟨#[97]⟩ : ByteArray), .string (⟨#[98]⟩ : ByteArray), .int .i64 3, .int .i64 0]) (ok := fun _ => True) (okp := fun _ => True) ?hr ?hp (fun _ hk => hk) trivial (Below.refl _ _) (Nat.le_refl _) (by simp) ?_; (case hd => rfl); (case hg => rfl); (case hr => first | (go_simp; done) | (go_simp; rfl)); (case hp => exact (Reps.c8 (show Kd.M k27 _ _ _ (⟨1, 2, 0, 0, (⟨#[97]⟩ : ByteArray), (⟨#[98]⟩ : ByteArray), 5, 0⟩ : S27) [.int .u64 1, .int .u64 2, .int .u64 0, .int .u8 0, .string (⟨#[97]⟩ : ByteArray), .string (⟨#[98]⟩ : ByteArray), .int .i64 5, .int .i64 0] from (k27_mkM _ _ _ (⟨1, 2, 0, 0, (⟨#[97]⟩ : ByteArray), (⟨#[98]⟩ : ByteArray), 5, 0⟩ : S27) )) (Reps.c8 (show Kd.M k27 _ _ _ (⟨1, 2, 0, 0, (⟨#[97]⟩ : ByteArray), (⟨#[98]⟩ : ByteArray), 3, 0⟩ : S27) [.int .u64 1, .int .u64 2, .int .u64 0, .int .u8 0, .string (⟨#[97]⟩ : ByteArray), .string (⟨#[98]⟩ : ByteArray), .int .i64 3, .int .i64 0] from (k27_mkM _ _ _ (⟨1, 2, 0, 0, (⟨#[97]⟩ : ByteArray), (⟨#[98]⟩ : ByteArray), 3, 0⟩ : S27) )) (Reps.none _ _)))); intro v102 w4 ho5 hb hg_ hnew_; clear hg_ hnew_; (first | rw [← Ny101.out] at ho5 | (simp only [Int.reduceToNat] at ho5; rw [← Ny101.out] at ho5)); have n0_ := Aside0.mk (Kd.R_lower ho5 (below_size (by repeat (first | (with_reducible first | exact HB.out | apply below_alloc | apply pw_below_drewN | apply below_drew1) | exact HB.out)))); have n1_ := Aside0.mk (below_step (by repeat (first | (with_reducible first | exact HB.out | apply below_alloc | apply pw_below_drewN | apply below_drew1) | exact HB.out)) hb); clear HB; have HO103 := n0_; have HB := n1_; clear n0_ n1_; clear hb ho5; obtain ⟨Ao6, co6, eo6⟩ := Kd.R_slice HO103.out; subst eo6) | ((with_reducible refine gate_callee (f := 35) rfl ?_); refine goesL_ (some 5) rfl rfl Try.func35 (by kernel_rfl) rfl #[.slice Ao6 y101.length co6, .int .u64 1] rfl (by (try simp only [List.map_toArray, List.map_cons, List.map_nil]); first | done | rfl | (simp only [List.length_drop, List.length_take]; rfl)) ?_; (with_reducible refine (dedupe_Of.calls _ _ y101 1 t104 _ ?side1 ?side2 A1.out).mono ?_); (case side1 => repeat (first | exact (Kd.R_reads' HO103.out).2.2 | (with_reducible refine Kd.C_alloc ?_ _) | (with_reducible refine Kd.C_drewN ?_ _) | (with_reducible refine Kd.C_drew ?_))); (case side2 => exact (Kd.R_reads' HO103.out).2.1); rintro e w7 ⟨v105, rfl, ho0, hb⟩; refine ⟨_, rfl, ?_⟩; have n0_ := Aside0.mk (Kd.R_elder' (by (with_reducible repeat (first | apply Kd.R_alloc | apply Kd.R_drewN | apply Kd.R_drew)); exact HO103.out) (Kd.R_base ho0) hb); have n1_ := Aside0.mk (Kd.R_lower (Kd.R_new' ho0 (Kd.R_lt (by (with_reducible repeat (first | apply Kd.R_alloc | apply Kd.R_drewN | apply Kd.R_drew)); exact HO103.out))) (below_size (by repeat (first | (with_reducible first | exact HB.out | apply below_alloc | apply pw_below_drewN | apply below_drew1) | exact HB.out)))); have n2_ := Aside0.mk (below_step (by repeat (first | (with_reducible first | exact HB.out | apply below_alloc | apply pw_below_drewN | apply below_drew1) | exact HB.out)) hb); clear HO103; clear HB; have HO103 := n0_; have HO106 := n1_; have HB := n2_; clear n0_ n1_ n2_; (try clear hb); (try clear hb2); (try clear hk); (try clear hi); (try clear ho0); obtain ⟨Ao8, co8, eo8⟩ := Kd.R_slice HO106.out; subst eo8; have p107 : 0 ≤ (0 : Int) := (by omega); have q107 : 0 < (t104.length : Int) := of_decide_eq_true (by first | (with_reducible assumption) | assumption); obtain ⟨ad107, e107, hx107_0, hx107_1, hx107_2, hx107_3, hx107_4, hx107_5, hx107_6, hx107_7⟩ := at_T27 (Kd.R_reads' HO106.out).2.2 0 p107 q107; cases e107; have qi107 : (0 < t104.length) = True := eq_true (by omega); (try rw [show ((0 : Int)).toNat = 0 from rfl] at hx107_0); (try rw [show 0 * 8 = 0 from rfl] at hx107_0); (try rw [Addr.add_zero'] at hx107_0); (try rw [show ((0 : Int)).toNat = 0 from rfl] at hx107_1); (try rw [show 0 * 8 = 0 from rfl] at hx107_1); (try rw [Addr.add_zero'] at hx107_1); (try rw [show ((0 : Int)).toNat = 0 from rfl] at hx107_2); (try rw [show 0 * 8 = 0 from rfl] at hx107_2); (try rw [Addr.add_zero'] at hx107_2); (try rw [show ((0 : Int)).toNat = 0 from rfl] at hx107_3); (try rw [show 0 * 8 = 0 from rfl] at hx107_3); (try rw [Addr.add_zero'] at hx107_3); (try rw [show ((0 : Int)).toNat = 0 from rfl] at hx107_4); (try rw [show 0 * 8 = 0 from rfl] at hx107_4); (try rw [Addr.add_zero'] at hx107_4); (try rw [show ((0 : Int)).toNat = 0 from rfl] at hx107_5); (try rw [show 0 * 8 = 0 from rfl] at hx107_5); (try rw [Addr.add_zero'] at hx107_5); (try rw [show ((0 : Int)).toNat = 0 from rfl] at hx107_6); (try rw [show 0 * 8 = 0 from rfl] at hx107_6); (try rw [Addr.add_zero'] at hx107_6); (try rw [show ((0 : Int)).toNat = 0 from rfl] at hx107_7); (try rw [show 0 * 8 = 0 from rfl] at hx107_7); (try rw [Addr.add_zero'] at hx107_7); replace p107 := eq_true p107; replace q107 := eq_true q107))
      go_ret
      exact ⟨by first | rfl | (simp [errW_none, errW_some] <;> rfl) | (simp [*, errW_none, errW_some] <;> rfl), by repeat (first | (with_reducible first | exact HB.out | apply below_alloc | apply pw_below_drewN | apply below_drew1) | exact HB.out)⟩
    · rw [if_neg c3] at H
      exact absurd H (by simp)
  · rw [if_neg c2] at H
    have c2b0 : ((t104.length : Int) == 1) = false := beq_eq_false_iff_ne.mpr c2
    have c2b1 : ((t104.length : Int) != 1) = true := bne_iff_ne.mpr c2
    obtain rfl := Option.some.inj H
    go_enter Try.func34, Try.ntmps34
    go_wp2_with (first | ((with_reducible refine gate_dst (N := 4) rfl ?_); refine Kd.R_lit k27 _ 27 ?hg (N := 4) ?hd (xs := ([(⟨1, 2, 0, 0, (⟨#[97]⟩ : ByteArray), (⟨#[98]⟩ : ByteArray), 5, 0⟩ : S27), (⟨1, 2, 0, 0, (⟨#[97]⟩ : ByteArray), (⟨#[98]⟩ : ByteArray), 3, 0⟩ : S27)] : List (S27))) (inner := [.int .u64 1, .int .u64 2, .int .u64 0, .int .u8 0, .string (⟨#[97]⟩ : ByteArray), .string (⟨#[98]⟩ : ByteArray), .int .i64 5, .int .i64 0, .int .u64 1, .int .u64 2, .int .u64 0, .int .u8 0, .string (⟨#[97]⟩ : ByteArray), .string (⟨#[98]⟩ : ByteArray), .int .i64 3, .int .i64 0]) (ok := fun _ => True) (okp := fun _ => True) ?hr ?hp (fun _ hk => hk) trivial (Below.refl _ _) (Nat.le_refl _) (by simp) ?_; (case hd => rfl); (case hg => rfl); (case hr => first | (go_simp; done) | (go_simp; rfl)); (case hp => exact (Reps.c8 (show Kd.M k27 _ _ _ (⟨1, 2, 0, 0, (⟨#[97]⟩ : ByteArray), (⟨#[98]⟩ : ByteArray), 5, 0⟩ : S27) [.int .u64 1, .int .u64 2, .int .u64 0, .int .u8 0, .string (⟨#[97]⟩ : ByteArray), .string (⟨#[98]⟩ : ByteArray), .int .i64 5, .int .i64 0] from (k27_mkM _ _ _ (⟨1, 2, 0, 0, (⟨#[97]⟩ : ByteArray), (⟨#[98]⟩ : ByteArray), 5, 0⟩ : S27) )) (Reps.c8 (show Kd.M k27 _ _ _ (⟨1, 2, 0, 0, (⟨#[97]⟩ : ByteArray), (⟨#[98]⟩ : ByteArray), 3, 0⟩ : S27) [.int .u64 1, .int .u64 2, .int .u64 0, .int .u8 0, .string (⟨#[97]⟩ : ByteArray), .string (⟨#[98]⟩ : ByteArray), .int .i64 3, .int .i64 0] from (k27_mkM _ _ _ (⟨1, 2, 0, 0, (⟨#[97]⟩ : ByteArray), (⟨#[98]⟩ : ByteArray), 3, 0⟩ : S27) )) (Reps.none _ _)))); intro v102 w9 ho10 hb hg_ hnew_; clear hg_ hnew_; (first | rw [← Ny101.out] at ho10 | (simp only [Int.reduceToNat] at ho10; rw [← Ny101.out] at ho10)); have n0_ := Aside0.mk (Kd.R_lower ho10 (below_size (by repeat (first | (with_reducible first | exact HB.out | apply below_alloc | apply pw_below_drewN | apply below_drew1) | exact HB.out)))); have n1_ := Aside0.mk (below_step (by repeat (first | (with_reducible first | exact HB.out | apply below_alloc | apply pw_below_drewN | apply below_drew1) | exact HB.out)) hb); clear HB; have HO103 := n0_; have HB := n1_; clear n0_ n1_; clear hb ho10; obtain ⟨Ao11, co11, eo11⟩ := Kd.R_slice HO103.out; subst eo11) | ((with_reducible refine gate_callee (f := 35) rfl ?_); refine goesL_ (some 5) rfl rfl Try.func35 (by kernel_rfl) rfl #[.slice Ao11 y101.length co11, .int .u64 1] rfl (by (try simp only [List.map_toArray, List.map_cons, List.map_nil]); first | done | rfl | (simp only [List.length_drop, List.length_take]; rfl)) ?_; (with_reducible refine (dedupe_Of.calls _ _ y101 1 t104 _ ?side1 ?side2 A1.out).mono ?_); (case side1 => repeat (first | exact (Kd.R_reads' HO103.out).2.2 | (with_reducible refine Kd.C_alloc ?_ _) | (with_reducible refine Kd.C_drewN ?_ _) | (with_reducible refine Kd.C_drew ?_))); (case side2 => exact (Kd.R_reads' HO103.out).2.1); rintro e w12 ⟨v105, rfl, ho0, hb⟩; refine ⟨_, rfl, ?_⟩; have n0_ := Aside0.mk (Kd.R_elder' (by (with_reducible repeat (first | apply Kd.R_alloc | apply Kd.R_drewN | apply Kd.R_drew)); exact HO103.out) (Kd.R_base ho0) hb); have n1_ := Aside0.mk (Kd.R_lower (Kd.R_new' ho0 (Kd.R_lt (by (with_reducible repeat (first | apply Kd.R_alloc | apply Kd.R_drewN | apply Kd.R_drew)); exact HO103.out))) (below_size (by repeat (first | (with_reducible first | exact HB.out | apply below_alloc | apply pw_below_drewN | apply below_drew1) | exact HB.out)))); have n2_ := Aside0.mk (below_step (by repeat (first | (with_reducible first | exact HB.out | apply below_alloc | apply pw_below_drewN | apply below_drew1) | exact HB.out)) hb); clear HO103; clear HB; have HO103 := n0_; have HO106 := n1_; have HB := n2_; clear n0_ n1_ n2_; (try clear hb); (try clear hb2); (try clear hk); (try clear hi); (try clear ho0); obtain ⟨Ao13, co13, eo13⟩ := Kd.R_slice HO106.out; subst eo13))
    go_ret
    exact ⟨by first | rfl | (simp [errW_none, errW_some] <;> rfl) | (simp [*, errW_none, errW_some] <;> rfl), by repeat (first | (with_reducible first | exact HB.out | apply below_alloc | apply pw_below_drewN | apply below_drew1) | exact HB.out)⟩

/-! ### merkhetlaw09_DedupeOf: function 9 -/
def merkhetlaw09_DedupeOf.l0 : Nat → List (S27) → List (S27) → List (S27) → Bool → Int → Int → Option (Bool)
  | 0, _, _, _, _, _, _ => none
  | k + 1, x0, x5, x6, x7, x24, x25 => if x25 < x24 then (if 0 ≤ x25 then (if x25 < (x6.length : Int) then (merkhetlaw09_DedupeOf.l0 k x0 x5 (x6.set (x25 : Int).toNat (⟨(rd_T27 x6 x25).f0, 0, (rd_T27 x6 x25).f2, (rd_T27 x6 x25).f3, (rd_T27 x6 x25).f4, (rd_T27 x6 x25).f5, (rd_T27 x6 x25).f6, (rd_T27 x6 x25).f7⟩ : S27)) x7 x24 (wrap64 (x25 + 1))) else (none)) else (none)) else ((merkhetlaw09_fixed.f).bind fun t124 => (if t124 = true then (if x7 = true then ((merkhetref01_Same.f k x0 x5).bind fun t125 => (some t125)) else (some false)) else (some false)))
def merkhetlaw09_DedupeOf.f (k : Nat) (l0 : List (S27)) (a1 : Int) : Option (Bool) := (merkhetlaw04_Great.f k l0).bind fun t108 => (if t108 = true then ((merkhetlaw09_fixed.f).bind fun t109 => (some t109)) else ((some (([] : List (S27)) : List (S27))).bind fun y110 => (if y110.length + l0.length < 1759218604441 then ((some (y110 ++ l0 : List (S27))).bind fun y113 => ((dedupe_Of.f l0 a1).bind fun t116 => ((merkhetref09_Of.f k y113 a1).bind fun t119 => ((merkhetref01_Same.f k t116 t119).bind fun t122 => (merkhetlaw09_DedupeOf.l0 k l0 y113 t116 t122 (t116.length : Int) 0))))) else (none))))
theorem merkhetlaw09_DedupeOf.mono_l : ∀ k, (∀ y0 y1 y2 y3 y4 y5, LeO (merkhetlaw09_DedupeOf.l0 k y0 y1 y2 y3 y4 y5) (merkhetlaw09_DedupeOf.l0 (k + 1) y0 y1 y2 y3 y4 y5))
  | 0 => fun _ _ _ _ _ _ r h => by simp [merkhetlaw09_DedupeOf.l0] at h
  | k + 1 => by
    have ih0 := merkhetlaw09_DedupeOf.mono_l k
    · intro y0 y1 y2 y3 y4 y5
      unfold merkhetlaw09_DedupeOf.l0
      repeat' first
      | (with_reducible exact ih0 _ _ _ _ _ _)
      | (with_reducible exact merkhetlaw04_Great.mono _ _)
      | (with_reducible exact merkhetref01_Same.mono _ _ _)
      | (with_reducible exact merkhetref09_Of.mono _ _ _)
      | (with_reducible exact LeO.refl _)
      | (with_reducible exact LeO.none _)
      | (with_reducible refine LeO.ite ?_ ?_)
      | (with_reducible refine LeO.bind ?_ (fun _ => ?_))
      | exact ih0 _ _ _ _ _ _
      | exact merkhetlaw04_Great.mono _ _
      | exact merkhetref01_Same.mono _ _ _
      | exact merkhetref09_Of.mono _ _ _
      | exact LeO.none _
      | refine LeO.ite ?_ ?_
      | refine LeO.bind ?_ (fun _ => ?_)
theorem merkhetlaw09_DedupeOf.mono : ∀ a0 a1 k, LeO (merkhetlaw09_DedupeOf.f k a0 a1) (merkhetlaw09_DedupeOf.f (k + 1) a0 a1) := by
  intro a0 a1 k
  have ih0 := merkhetlaw09_DedupeOf.mono_l k
  unfold merkhetlaw09_DedupeOf.f
  repeat' first
      | (with_reducible exact ih0 _ _ _ _ _ _)
      | (with_reducible exact merkhetlaw04_Great.mono _ _)
      | (with_reducible exact merkhetref01_Same.mono _ _ _)
      | (with_reducible exact merkhetref09_Of.mono _ _ _)
      | (with_reducible exact LeO.refl _)
      | (with_reducible exact LeO.none _)
      | (with_reducible refine LeO.ite ?_ ?_)
      | (with_reducible refine LeO.bind ?_ (fun _ => ?_))
      | exact ih0 _ _ _ _ _ _
      | exact merkhetlaw04_Great.mono _ _
      | exact merkhetref01_Same.mono _ _ _
      | exact merkhetref09_Of.mono _ _ _
      | exact LeO.none _
      | refine LeO.ite ?_ ?_
      | refine LeO.bind ?_ (fun _ => ?_)
set_option maxHeartbeats 8000000 in
set_option maxRecDepth 100000 in
theorem merkhetlaw09_DedupeOf.calls (k : Nat) (A0 : Option Addr) (c0 : Nat) (l0 : List (S27)) (a1 : Int) (r : Bool) (w : World) (hr0 : Kd.C k27 w A0 l0.length l0) (hc0 : l0.length ≤ c0) (h : merkhetlaw09_DedupeOf.f k l0 a1 = some r) :
    Calls Try.prog 9 #[.slice A0 l0.length c0, .int .u64 a1] w fun e w' => e = .returned (.bool r) ∧ Below w.heap.size w w' := by
  have HR0 := Aside0.mk hr0
  have HC0 := Aside0.mk hc0
  clear hr0 hc0
  have HB := Aside0.mk (Below.refl w.heap.size w)
  have H : ((merkhetlaw04_Great.f k l0).bind fun t108 => (if t108 = true then ((merkhetlaw09_fixed.f).bind fun t109 => (some t109)) else ((some (([] : List (S27)) : List (S27))).bind fun y110 => (if y110.length + l0.length < 1759218604441 then ((some (y110 ++ l0 : List (S27))).bind fun y113 => ((dedupe_Of.f l0 a1).bind fun t116 => ((merkhetref09_Of.f k y113 a1).bind fun t119 => ((merkhetref01_Same.f k t116 t119).bind fun t122 => (merkhetlaw09_DedupeOf.l0 k l0 y113 t116 t122 (t116.length : Int) 0))))) else (none))))) = some r := h
  clear h
  replace H := Option.bind_eq_some_iff.mp H
  obtain ⟨t108, A30, H⟩ := H
  replace H : (if t108 = true then ((merkhetlaw09_fixed.f).bind fun t109 => (some t109)) else ((some (([] : List (S27)) : List (S27))).bind fun y110 => (if y110.length + l0.length < 1759218604441 then ((some (y110 ++ l0 : List (S27))).bind fun y113 => ((dedupe_Of.f l0 a1).bind fun t116 => ((merkhetref09_Of.f k y113 a1).bind fun t119 => ((merkhetref01_Same.f k t116 t119).bind fun t122 => (merkhetlaw09_DedupeOf.l0 k l0 y113 t116 t122 (t116.length : Int) 0))))) else (none)))) = some r := H
  have A3 := Aside0.mk A30
  clear A30
  by_cases c4 : t108 = true
  · subst c4
    have H1 : ((merkhetlaw09_fixed.f).bind fun t109 => (some t109)) = some r := by rw [if_pos rfl] at H; exact H
    clear H
    have H := H1
    clear H1
    replace H := Option.bind_eq_some_iff.mp H
    obtain ⟨t109, A50, H⟩ := H
    replace H : (some t109) = some r := H
    have A5 := Aside0.mk A50
    clear A50
    obtain rfl := Option.some.inj H
    go_enter Try.func9, Try.ntmps9
    go_wp2_with (first | ((with_reducible refine gate_callee (f := 15) rfl ?_); refine goesL_ (some 10) rfl rfl Try.func15 (by kernel_rfl) rfl #[.slice A0 l0.length c0] rfl (by (try simp only [List.map_toArray, List.map_cons, List.map_nil]); first | done | rfl | (simp only [List.length_drop, List.length_take]; rfl)) ?_; (with_reducible refine (merkhetlaw04_Great.calls k _ _ l0 true _ ?side1 ?side2 A3.out).mono ?_); (case side1 => repeat (first | exact HR0.out | (with_reducible refine Kd.C_alloc ?_ _) | (with_reducible refine Kd.C_drewN ?_ _) | (with_reducible refine Kd.C_drew ?_))); (case side2 => exact HC0.out); rintro e w6 ⟨rfl, hb⟩; refine ⟨_, rfl, ?_⟩; have n0_ := Aside0.mk (below_step (by repeat (first | (with_reducible first | exact HB.out | apply below_alloc | apply pw_below_drewN | apply below_drew1) | exact HB.out)) hb); clear HB; have HB := n0_; clear n0_; (try clear hb); (try clear hb2); (try clear hk); (try clear hi)) | ((with_reducible refine gate_callee (f := 34) rfl ?_); refine goesL_ (some 11) rfl rfl Try.func34 (by kernel_rfl) rfl #[] rfl (by (try simp only [List.map_toArray, List.map_cons, List.map_nil]); first | done | rfl | (simp only [List.length_drop, List.length_take]; rfl)) ?_; (with_reducible refine (merkhetlaw09_fixed.calls  t109 _ A5.out).mono ?_); rintro e w7 ⟨rfl, hb⟩; refine ⟨_, rfl, ?_⟩; have n0_ := Aside0.mk (below_step (by repeat (first | (with_reducible first | exact HB.out | apply below_alloc | apply pw_below_drewN | apply below_drew1) | exact HB.out)) hb); clear HB; have HB := n0_; clear n0_; (try clear hb); (try clear hb2); (try clear hk); (try clear hi)))
    go_ret
    exact ⟨by first | rfl | (simp [errW_none, errW_some] <;> rfl) | (simp [*, errW_none, errW_some] <;> rfl), by repeat (first | (with_reducible first | exact HB.out | apply below_alloc | apply pw_below_drewN | apply below_drew1) | exact HB.out)⟩
  · replace c4 := Bool.eq_false_iff.mpr c4
    subst c4
    have H1 : ((some (([] : List (S27)) : List (S27))).bind fun y110 => (if y110.length + l0.length < 1759218604441 then ((some (y110 ++ l0 : List (S27))).bind fun y113 => ((dedupe_Of.f l0 a1).bind fun t116 => ((merkhetref09_Of.f k y113 a1).bind fun t119 => ((merkhetref01_Same.f k t116 t119).bind fun t122 => (merkhetlaw09_DedupeOf.l0 k l0 y113 t116 t122 (t116.length : Int) 0))))) else (none))) = some r := by rw [if_neg (show ¬ (false = true) by decide)] at H; exact H
    clear H
    have H := H1
    clear H1
    obtain ⟨y110, hy110⟩ : ∃ y_ : List (S27), y_ = (([] : List (S27))) := ⟨_, rfl⟩
    replace H : (if y110.length + l0.length < 1759218604441 then ((some (y110 ++ l0 : List (S27))).bind fun y113 => ((dedupe_Of.f l0 a1).bind fun t116 => ((merkhetref09_Of.f k y113 a1).bind fun t119 => ((merkhetref01_Same.f k t116 t119).bind fun t122 => (merkhetlaw09_DedupeOf.l0 k l0 y113 t116 t122 (t116.length : Int) 0))))) else (none)) = some r := by first | (rw [hy110]; with_reducible exact H) | (have H2_ := (Option.bind_some _ _).symm.trans H; rw [hy110]; with_reducible exact H2_) | (have H2_ := (Option.bind_some _ _).symm.trans H; with_reducible exact H2_) | with_reducible exact H | (rw [hy110]; exact H) | exact H
    have Ny110 := Aside0.mk hy110
    clear hy110
    by_cases c8 : y110.length + l0.length < 1759218604441
    · rw [if_pos c8] at H
      have LMc8 := Aside0.mk c8
      clear c8
      obtain ⟨y113, hy113⟩ : ∃ y_ : List (S27), y_ = (y110 ++ l0) := ⟨_, rfl⟩
      replace H : ((dedupe_Of.f l0 a1).bind fun t116 => ((merkhetref09_Of.f k y113 a1).bind fun t119 => ((merkhetref01_Same.f k t116 t119).bind fun t122 => (merkhetlaw09_DedupeOf.l0 k l0 y113 t116 t122 (t116.length : Int) 0)))) = some r := by first | (rw [hy113]; with_reducible exact H) | (have H2_ := (Option.bind_some _ _).symm.trans H; rw [hy113]; with_reducible exact H2_) | (have H2_ := (Option.bind_some _ _).symm.trans H; with_reducible exact H2_) | with_reducible exact H | (rw [hy113]; exact H) | exact H
      have Ny113 := Aside0.mk hy113
      clear hy113
      replace H := Option.bind_eq_some_iff.mp H
      obtain ⟨t116, A90, H⟩ := H
      replace H : ((merkhetref09_Of.f k y113 a1).bind fun t119 => ((merkhetref01_Same.f k t116 t119).bind fun t122 => (merkhetlaw09_DedupeOf.l0 k l0 y113 t116 t122 (t116.length : Int) 0))) = some r := H
      have A9 := Aside0.mk A90
      clear A90
      replace H := Option.bind_eq_some_iff.mp H
      obtain ⟨t119, A100, H⟩ := H
      replace H : ((merkhetref01_Same.f k t116 t119).bind fun t122 => (merkhetlaw09_DedupeOf.l0 k l0 y113 t116 t122 (t116.length : Int) 0)) = some r := H
      have A10 := Aside0.mk A100
      clear A100
      replace H := Option.bind_eq_some_iff.mp H
      obtain ⟨t122, A110, H⟩ := H
      replace H : (merkhetlaw09_DedupeOf.l0 k l0 y113 t116 t122 (t116.length : Int) 0) = some r := H
      have A11 := Aside0.mk A110
      clear A110
      have H' := Aside0.mk H
      clear H
      go_enter Try.func9, Try.ntmps9
      go_wp2_with (first | ((with_reducible refine gate_callee (f := 15) rfl ?_); refine goesL_ (some 10) rfl rfl Try.func15 (by kernel_rfl) rfl #[.slice A0 l0.length c0] rfl (by (try simp only [List.map_toArray, List.map_cons, List.map_nil]); first | done | rfl | (simp only [List.length_drop, List.length_take]; rfl)) ?_; (with_reducible refine (merkhetlaw04_Great.calls k _ _ l0 false _ ?side1 ?side2 A3.out).mono ?_); (case side1 => repeat (first | exact HR0.out | (with_reducible refine Kd.C_alloc ?_ _) | (with_reducible refine Kd.C_drewN ?_ _) | (with_reducible refine Kd.C_drew ?_))); (case side2 => exact HC0.out); rintro e w12 ⟨rfl, hb⟩; refine ⟨_, rfl, ?_⟩; have n0_ := Aside0.mk (below_step (by repeat (first | (with_reducible first | exact HB.out | apply below_alloc | apply pw_below_drewN | apply below_drew1) | exact HB.out)) hb); clear HB; have HB := n0_; clear n0_; (try clear hb); (try clear hb2); (try clear hk); (try clear hi)) | ((with_reducible refine gate_dst (N := 12) rfl ?_); refine Kd.R_lit k27 _ 27 ?hg (N := 12) ?hd (xs := ([] : List (S27))) (inner := []) (ok := fun _ => True) (okp := fun _ => True) ?hr ?hp (fun _ hk => hk) trivial (Below.refl _ _) (Nat.le_refl _) (by simp) ?_; (case hd => rfl); (case hg => rfl); (case hr => first | (go_simp; done) | (go_simp; rfl)); (case hp => exact (Reps.none _ _)); intro v111 w13 ho14 hb hg_ hnew_; clear hg_ hnew_; (first | rw [← Ny110.out] at ho14 | (simp only [Int.reduceToNat] at ho14; rw [← Ny110.out] at ho14)); have n0_ := Aside0.mk (Kd.R_lower ho14 (below_size (by repeat (first | (with_reducible first | exact HB.out | apply below_alloc | apply pw_below_drewN | apply below_drew1) | exact HB.out)))); have n1_ := Aside0.mk (below_step (by repeat (first | (with_reducible first | exact HB.out | apply below_alloc | apply pw_below_drewN | apply below_drew1) | exact HB.out)) hb); clear HB; have HO112 := n0_; have HB := n1_; clear n0_ n1_; clear hb ho14) | ((with_reducible refine gate_builtin (b := .append) (xs := #[.tmp 12, .tmp 13]) rfl ?_); at_builtin; refine Kd.R_append_rows k27 (w0 := w) w.heap.size rfl (.tmp 12) (.tmp 13) 23 27 (.agg #[(.int .u64 0), (.int .u64 0), (.int .u64 0), (.int .u8 0), (.string ⟨#[]⟩), (.string ⟨#[]⟩), (.int .i64 0), (.int .i64 0)]) 80 rfl Try.underlying23 info27 rfl (by decide) (by omega) v111 y110 l0 _ _ _ (fun _ => True) (fun _ => False) rfl rfl ?aO ?aR (fun _ _ h => h) (fun _ h => h.elim) ?aF ?aB ?aS ?aL ?_; (case aR => repeat (first | exact (Kd.C_below HR0.out HB.out) | (with_reducible refine Kd.C_alloc ?_ _) | (with_reducible refine Kd.C_drewN ?_ _) | (with_reducible refine Kd.C_drew ?_))); (case aB => exact (by repeat (first | (with_reducible first | exact HB.out | apply below_alloc | apply pw_below_drewN | apply below_drew1) | exact HB.out))); (case aF => exact (fun _ _ => trivial)); (case aO => exact (by (with_reducible repeat (first | apply Kd.R_alloc | apply Kd.R_drewN | apply Kd.R_drew)); exact HO112.out)); (case aS => exact (below_size (by repeat (first | (with_reducible first | exact HB.out | apply below_alloc | apply pw_below_drewN | apply below_drew1) | exact HB.out)))); (case aL => have := LMc8.out; omega); intro v114 w15 ho hb hg hat; rw [← Ny113.out] at ho; have n0_ := Aside0.mk (hb); have n1_ := Aside0.mk (ho); clear HB; clear HO112; have HB := n0_; have HO115 := n1_; clear n0_ n1_; clear ho hb hg hat) | ((with_reducible refine gate_callee (f := 35) rfl ?_); refine goesL_ (some 17) rfl rfl Try.func35 (by kernel_rfl) rfl #[.slice A0 l0.length c0, .int .u64 a1] rfl (by (try simp only [List.map_toArray, List.map_cons, List.map_nil]); first | done | rfl | (simp only [List.length_drop, List.length_take]; rfl)) ?_; (with_reducible refine (dedupe_Of.calls _ _ l0 a1 t116 _ ?side1 ?side2 A9.out).mono ?_); (case side1 => repeat (first | exact (Kd.C_below HR0.out HB.out) | (with_reducible refine Kd.C_alloc ?_ _) | (with_reducible refine Kd.C_drewN ?_ _) | (with_reducible refine Kd.C_drew ?_))); (case side2 => exact HC0.out); rintro e w16 ⟨v117, rfl, ho0, hb⟩; refine ⟨_, rfl, ?_⟩; have n0_ := Aside0.mk (Kd.R_elder' (by (with_reducible repeat (first | apply Kd.R_alloc | apply Kd.R_drewN | apply Kd.R_drew)); exact HO115.out) (Kd.R_base ho0) hb); have n1_ := Aside0.mk (Kd.R_lower (Kd.R_new' ho0 (Kd.R_lt (by (with_reducible repeat (first | apply Kd.R_alloc | apply Kd.R_drewN | apply Kd.R_drew)); exact HO115.out))) (below_size (by repeat (first | (with_reducible first | exact HB.out | apply below_alloc | apply pw_below_drewN | apply below_drew1) | exact HB.out)))); have n2_ := Aside0.mk (below_step (by repeat (first | (with_reducible first | exact HB.out | apply below_alloc | apply pw_below_drewN | apply below_drew1) | exact HB.out)) hb); clear HO115; clear HB; have HO115 := n0_; have HO118 := n1_; have HB := n2_; clear n0_ n1_ n2_; (try clear hb); (try clear hb2); (try clear hk); (try clear hi); (try clear ho0); obtain ⟨Ao17, co17, eo17⟩ := Kd.R_slice HO115.out; subst eo17) | ((with_reducible refine gate_callee (f := 36) rfl ?_); refine goesL_ (some 21) rfl rfl Try.func36 (by kernel_rfl) rfl #[.slice Ao17 y113.length co17, .int .u64 a1] rfl (by (try simp only [List.map_toArray, List.map_cons, List.map_nil]); first | done | rfl | (simp only [List.length_drop, List.length_take]; rfl)) ?_; (with_reducible refine (merkhetref09_Of.calls k _ _ y113 a1 t119 _ ?side1 ?side2 A10.out).mono ?_); (case side1 => repeat (first | exact (Kd.R_reads' HO115.out).2.2 | (with_reducible refine Kd.C_alloc ?_ _) | (with_reducible refine Kd.C_drewN ?_ _) | (with_reducible refine Kd.C_drew ?_))); (case side2 => exact (Kd.R_reads' HO115.out).2.1); rintro e w18 ⟨v120, rfl, ho0, hb⟩; refine ⟨_, rfl, ?_⟩; have n0_ := Aside0.mk (Kd.R_elder' (by (with_reducible repeat (first | apply Kd.R_alloc | apply Kd.R_drewN | apply Kd.R_drew)); exact HO115.out) (Kd.R_base ho0) hb); have n1_ := Aside0.mk (Kd.R_elder' (by (with_reducible repeat (first | apply Kd.R_alloc | apply Kd.R_drewN | apply Kd.R_drew)); exact HO118.out) (Kd.R_base ho0) hb); have n2_ := Aside0.mk (Kd.R_lower (Kd.R_new' (Kd.R_new' ho0 (Kd.R_lt (by (with_reducible repeat (first | apply Kd.R_alloc | apply Kd.R_drewN | apply Kd.R_drew)); exact HO115.out))) (Kd.R_lt (by (with_reducible repeat (first | apply Kd.R_alloc | apply Kd.R_drewN | apply Kd.R_drew)); exact HO118.out))) (below_size (by repeat (first | (with_reducible first | exact HB.out | apply below_alloc | apply pw_below_drewN | apply below_drew1) | exact HB.out)))); have n3_ := Aside0.mk (below_step (by repeat (first | (with_reducible first | exact HB.out | apply below_alloc | apply pw_below_drewN | apply below_drew1) | exact HB.out)) hb); clear HO115; clear HO118; clear HB; have HO115 := n0_; have HO118 := n1_; have HO121 := n2_; have HB := n3_; clear n0_ n1_ n2_ n3_; (try clear hb); (try clear hb2); (try clear hk); (try clear hi); (try clear ho0); obtain ⟨Ao19, co19, eo19⟩ := Kd.R_slice HO118.out; subst eo19; obtain ⟨Ao20, co20, eo20⟩ := Kd.R_slice HO121.out; subst eo20) | ((with_reducible refine gate_callee (f := 31) rfl ?_); refine goesL_ (some 22) rfl rfl Try.func31 (by kernel_rfl) rfl #[.slice Ao19 t116.length co19, .slice Ao20 t119.length co20] rfl (by (try simp only [List.map_toArray, List.map_cons, List.map_nil]); first | done | rfl | (simp only [List.length_drop, List.length_take]; rfl)) ?_; (with_reducible refine (merkhetref01_Same.calls k _ _ t116 _ _ t119 t122 _ ?side1 ?side2 ?side3 ?side4 A11.out).mono ?_); (case side1 => repeat (first | exact (Kd.R_reads' HO118.out).2.2 | (with_reducible refine Kd.C_alloc ?_ _) | (with_reducible refine Kd.C_drewN ?_ _) | (with_reducible refine Kd.C_drew ?_))); (case side2 => exact (Kd.R_reads' HO118.out).2.1); (case side3 => repeat (first | exact (Kd.R_reads' HO121.out).2.2 | (with_reducible refine Kd.C_alloc ?_ _) | (with_reducible refine Kd.C_drewN ?_ _) | (with_reducible refine Kd.C_drew ?_))); (case side4 => exact (Kd.R_reads' HO121.out).2.1); rintro e w' ⟨rfl, ⟨nd, rfl⟩⟩; refine ⟨_, rfl, ?_⟩))
      go_loopg [25] k (fun kq v25 w' => ∃ (x6_1 : List (S27)) (x25_1 : Int), v25 = .int .i64 x25_1 ∧ Aside0 (merkhetlaw09_DedupeOf.l0 kq l0 y113 x6_1 t122 (t116.length : Int) x25_1 = some r) ∧ Aside0 (kq ≤ k) ∧ Aside0 (Kd.R k27 27 w' w.heap.size (fun k_ => some k_ ≠ ((.slice Ao19 t116.length co19) : Value).ownBlock) (.slice Ao17 y113.length co17) y113) ∧ Aside0 (Kd.R k27 27 w' w.heap.size (fun k_ => some k_ ≠ ((.slice Ao17 y113.length co17) : Value).ownBlock) (.slice Ao19 t116.length co19) x6_1) ∧ Aside0 (Below w.heap.size w w'))
      case atStart => exact ⟨(t116), (0), (by first | rfl | (simp; done) | (simp [*]; done)), H', ⟨Nat.le_refl _⟩, ⟨by (with_reducible repeat (first | apply Kd.R_alloc | apply Kd.R_drewN | apply Kd.R_drew)); exact Kd.R_mono HO115.out (fun _ hk => hk.1.2)⟩, ⟨by (with_reducible repeat (first | apply Kd.R_alloc | apply Kd.R_drewN | apply Kd.R_drew)); exact Kd.R_mono HO118.out (fun _ hk => hk.1.2)⟩, ⟨by repeat (first | (with_reducible first | exact HB.out | apply below_alloc | apply pw_below_drewN | apply below_drew1) | exact HB.out)⟩⟩
      case round =>
        clear H'
        try clear c1
        try clear p2
        try clear c3
        try clear c4
        try clear c8
        try clear c9
        try clear c15
        obtain ⟨x6_1, x25_1, rfl, HA, HK1, HO_5, HO_6, HB⟩ := hrel
        have hl6_1 := (Kd.R_reads' HO_6.out).1
        rw [hl6_1] at HO_6
        (try simp only [hl6_1])
        (try simp only [hl6_1] at HO_5)
        cases gk with
        | zero => exact absurd HA.out (by simp [merkhetlaw09_DedupeOf.l0])
        | succ k1 =>
          have H := HA.out
          clear HA
          simp only [merkhetlaw09_DedupeOf.l0] at H
          by_cases c21 : x25_1 < (t116.length : Int)
          · rw [if_pos c21] at H
            have c21b0 : decide (x25_1 < (t116.length : Int)) = true := decide_eq_true c21
            have c21b0z := c21b0
            (try simp only [hl6_1] at c21b0z)
            clear c21
            by_cases c22 : 0 ≤ x25_1
            · rw [if_pos c22] at H
              have c22b0 : decide (0 ≤ x25_1) = true := decide_eq_true c22
              clear c22
              by_cases c23 : x25_1 < (x6_1.length : Int)
              · rw [if_pos c23] at H
                have c23b0 : decide (x25_1 < (x6_1.length : Int)) = true := decide_eq_true c23
                have c23b0z := c23b0
                (try simp only [hl6_1] at c23b0z)
                clear c23
                obtain ⟨y123, hy123⟩ : ∃ y_ : List (S27), y_ = (x6_1.set (x25_1 : Int).toNat (⟨(rd_T27 x6_1 x25_1).f0, 0, (rd_T27 x6_1 x25_1).f2, (rd_T27 x6_1 x25_1).f3, (rd_T27 x6_1 x25_1).f4, (rd_T27 x6_1 x25_1).f5, (rd_T27 x6_1 x25_1).f6, (rd_T27 x6_1 x25_1).f7⟩ : S27)) := ⟨_, rfl⟩
                replace H : (merkhetlaw09_DedupeOf.l0 k1 l0 y113 y123 t122 (t116.length : Int) (wrap64 (x25_1 + 1))) = some r := by first | (rw [hy123]; with_reducible exact H) | (have H2_ := (Option.bind_some _ _).symm.trans H; rw [hy123]; with_reducible exact H2_) | (have H2_ := (Option.bind_some _ _).symm.trans H; with_reducible exact H2_) | with_reducible exact H | (rw [hy123]; exact H) | exact H
                have Ny123 := Aside0.mk hy123
                clear hy123
                have H' := Aside0.mk H
                clear H
                have p24 : 0 ≤ (x25_1 : Int) := of_decide_eq_true (by first | (with_reducible assumption) | assumption)
                have q24 : (x25_1 : Int) < ((x6_1.length : Int) : Int) := of_decide_eq_true (by first | (with_reducible assumption) | assumption)
                obtain ⟨go24, co24, eo24, gb24, gl24, cl24, HG24⟩ := Kd.R_form HO_6.out (by omega)
                (first | cases eo24 | (injection eo24 with ea_ en_ ec_; (first | subst ea_ | (injection ea_ with ea_; subst ea_)); subst ec_; clear en_))
                have GB24 := Aside0.mk gb24
                have GG24 := Aside0.mk HG24
                clear gb24 gl24 HG24
                obtain ⟨ce24, hcl24, hM24, hcc24, hfr24⟩ := Kd.R_elem HO_6.out z27 (x25_1 : Int) p24 q24
                obtain rfl := k27_openM hM24
                have hx24_0 : wr.cell? ⟨go24, (x25_1 : Int).toNat * 8, none⟩ = some (.int .u64 ((rd_T27 x6_1 x25_1).f0)) := hcc24 0 _ rfl
                have hx24_1 : wr.cell? ⟨go24, (x25_1 : Int).toNat * 8 + 1, none⟩ = some (.int .u64 ((rd_T27 x6_1 x25_1).f1)) := hcc24 1 _ rfl
                have hx24_2 : wr.cell? ⟨go24, (x25_1 : Int).toNat * 8 + 2, none⟩ = some (.int .u64 ((rd_T27 x6_1 x25_1).f2)) := hcc24 2 _ rfl
                have hx24_3 : wr.cell? ⟨go24, (x25_1 : Int).toNat * 8 + 3, none⟩ = some (.int .u8 ((rd_T27 x6_1 x25_1).f3)) := hcc24 3 _ rfl
                have hx24_4 : wr.cell? ⟨go24, (x25_1 : Int).toNat * 8 + 4, none⟩ = some (.string ((rd_T27 x6_1 x25_1).f4)) := hcc24 4 _ rfl
                have hx24_5 : wr.cell? ⟨go24, (x25_1 : Int).toNat * 8 + 5, none⟩ = some (.string ((rd_T27 x6_1 x25_1).f5)) := hcc24 5 _ rfl
                have hx24_6 : wr.cell? ⟨go24, (x25_1 : Int).toNat * 8 + 6, none⟩ = some (.int .i64 ((rd_T27 x6_1 x25_1).f6)) := hcc24 6 _ rfl
                have hx24_7 : wr.cell? ⟨go24, (x25_1 : Int).toNat * 8 + 7, none⟩ = some (.int .i64 ((rd_T27 x6_1 x25_1).f7)) := hcc24 7 _ rfl
                have hf24_0 : wr.frozen? ⟨go24, (x25_1 : Int).toNat * 8, none⟩ = false := hfr24 0
                have hf24_1 : wr.frozen? ⟨go24, (x25_1 : Int).toNat * 8 + 1, none⟩ = false := hfr24 1
                have hf24_2 : wr.frozen? ⟨go24, (x25_1 : Int).toNat * 8 + 2, none⟩ = false := hfr24 2
                have hf24_3 : wr.frozen? ⟨go24, (x25_1 : Int).toNat * 8 + 3, none⟩ = false := hfr24 3
                have hf24_4 : wr.frozen? ⟨go24, (x25_1 : Int).toNat * 8 + 4, none⟩ = false := hfr24 4
                have hf24_5 : wr.frozen? ⟨go24, (x25_1 : Int).toNat * 8 + 5, none⟩ = false := hfr24 5
                have hf24_6 : wr.frozen? ⟨go24, (x25_1 : Int).toNat * 8 + 6, none⟩ = false := hfr24 6
                have hf24_7 : wr.frozen? ⟨go24, (x25_1 : Int).toNat * 8 + 7, none⟩ = false := hfr24 7
                clear hcl24 hcc24 hfr24 hM24
                replace p24 := eq_true p24
                replace q24 := eq_true q24
                have HX25 := Aside0.mk (show Kd.R k27 27 wr w.heap.size (fun k_ => some k_ ≠ (.slice Ao17 y113.length co17 : Value).ownBlock) (.slice (some ⟨go24, 0, none⟩) x6_1.length co19) x6_1 from (by (with_reducible repeat (first | apply Kd.R_alloc | apply Kd.R_drewN | apply Kd.R_drew)); exact HO_6.out))
                obtain ⟨ce25, hcl25, hM25, hcc25, hfr25⟩ := Kd.R_elem HX25.out z27 (x25_1 : Int) (of_decide_eq_true (by first | (with_reducible assumption) | assumption)) (by have h_ : (x25_1 : Int) < ((x6_1.length : Int) : Int) := of_decide_eq_true (by first | (with_reducible assumption) | assumption); first | exact h_ | (have e_ := (Kd.R_reads' HO_6.out).1; omega) | simpa using h_)
                obtain rfl := k27_openM hM25
                have HP25 := Kd.R_seg HX25.out (x25_1 : Int) (of_decide_eq_true (by first | (with_reducible assumption) | assumption)) (by have h_ : (x25_1 : Int) < ((x6_1.length : Int) : Int) := of_decide_eq_true (by first | (with_reducible assumption) | assumption); first | exact h_ | (have e_ := (Kd.R_reads' HO_6.out).1; omega) | simpa using h_) (seg := [.int .u64 0]) (j := 1) hcl25 hcc25 (show 2 ≤ 8 from by decide) (x' := (⟨(rd_T27 x6_1 x25_1).f0, 0, (rd_T27 x6_1 x25_1).f2, (rd_T27 x6_1 x25_1).f3, (rd_T27 x6_1 x25_1).f4, (rd_T27 x6_1 x25_1).f5, (rd_T27 x6_1 x25_1).f6, (rd_T27 x6_1 x25_1).f7⟩ : S27)) (k27_mkM _ _ _ (⟨(rd_T27 x6_1 x25_1).f0, 0, (rd_T27 x6_1 x25_1).f2, (rd_T27 x6_1 x25_1).f3, (rd_T27 x6_1 x25_1).f4, (rd_T27 x6_1 x25_1).f5, (rd_T27 x6_1 x25_1).f6, (rd_T27 x6_1 x25_1).f7⟩ : S27) ) (fun _ hk => hk)
                have hx25_1 := hcc25 1 _ rfl
                (try simp only [show (k27).sz = 8 from rfl, Nat.mul_one, Nat.add_zero] at hx25_1)
                have hf25_1 := hfr25 1
                (try simp only [show (k27).sz = 8 from rfl, Nat.mul_one, Nat.add_zero] at hf25_1)
                clear hcl25 hcc25 hfr25 hM25
                go_wp2_with (first | ((with_reducible refine gate_store (t := 25) (p := 31) rfl ?_); refine store_event (t := 25) (p := 31) (v := ?vo_w26) (w1 := (wr.setCell ⟨go24, (x25_1 : Int).toNat * 8 + 1, none⟩ (.int .u64 0))) ?hg ?ho ?hn ?hr ?_; (case ho => rfl); (case hg => rfl); (case hn => rfl); (case hr => first | (go_simp; done) | (go_simp; rfl)); intro w26 hw; have hg : wr.grownBy w26 (some go24) := (by rw [hw]; exact HP25.2); have hp_ : Kd.R k27 27 w26 w.heap.size (fun k_ => some k_ ≠ (.slice Ao17 y113.length co17 : Value).ownBlock) (.slice (some ⟨go24, 0, none⟩) x6_1.length co19) y123 := (by rw [hw, Ny123.out]; exact HP25.1); clear HP25; have n0_ := Aside0.mk (Kd.R_after (v := (.slice (some ⟨go24, 0, none⟩) x6_1.length co19)) (v1 := (.slice (some ⟨go24, 0, none⟩) x6_1.length co19)) (ok := (fun _ => True)) (by (with_reducible repeat (first | apply Kd.R_alloc | apply Kd.R_drewN | apply Kd.R_drew)); exact Kd.R_mono HO_5.out (fun _ hk => ⟨trivial, by first | exact hk | exact fun h_ => hk (h_.trans (own_len _ _ _ _ _))⟩)) hg (.inl rfl)); have n1_ := Aside0.mk (hp_); have n2_ := Aside0.mk ((by rw [hw]; exact below_set (HB.out) GB24.out : Below w.heap.size w w26)); clear HO_5; clear HO_6; clear HB; have HO_5 := n0_; have HO_6 := n1_; have HB := n2_; clear n0_ n1_ n2_; clear hg hw hp_))
                (try simp only [← hl6_1])
                go_roundg k1
                case measure => have := HK1.out; omega
                case rel => exact ⟨(y123), (wrap64 (x25_1 + 1)), (by first | rfl | (simp; done) | (simp [*]; done)), H', ⟨by have := HK1.out; omega⟩, ⟨by (try simp only [hl6_1]); (with_reducible repeat (first | apply Kd.R_alloc | apply Kd.R_drewN | apply Kd.R_drew)); exact Kd.R_mono HO_5.out (fun _ hk => hk.2)⟩, ⟨by (try simp only [hl6_1]); (with_reducible repeat (first | apply Kd.R_alloc | apply Kd.R_drewN | apply Kd.R_drew)); exact HO_6.out⟩, ⟨by repeat (first | (with_reducible first | exact HB.out | apply below_alloc | apply pw_below_drewN | apply below_drew1) | exact HB.out)⟩⟩
              · rw [if_neg c23] at H
                exact absurd H (by simp)
            · rw [if_neg c22] at H
              exact absurd H (by simp)
          · rw [if_neg c21] at H
            have c21b0 : decide (x25_1 < (t116.length : Int)) = false := decide_eq_false c21
            have c21b0z := c21b0
            (try simp only [hl6_1] at c21b0z)
            clear c21
            replace H := Option.bind_eq_some_iff.mp H
            obtain ⟨t124, A270, H⟩ := H
            replace H : (if t124 = true then (if t122 = true then ((merkhetref01_Same.f k1 l0 y113).bind fun t125 => (some t125)) else (some false)) else (some false)) = some r := H
            have A27 := Aside0.mk A270
            clear A270
            by_cases c28 : t124 = true
            · subst c28
              have H1 : (if t122 = true then ((merkhetref01_Same.f k1 l0 y113).bind fun t125 => (some t125)) else (some false)) = some r := by rw [if_pos rfl] at H; exact H
              clear H
              have H := H1
              clear H1
              by_cases c29 : t122 = true
              · subst c29
                have H1 : ((merkhetref01_Same.f k1 l0 y113).bind fun t125 => (some t125)) = some r := by rw [if_pos rfl] at H; exact H
                clear H
                have H := H1
                clear H1
                replace H := Option.bind_eq_some_iff.mp H
                obtain ⟨t125, A300, H⟩ := H
                replace H : (some t125) = some r := H
                have A30 := Aside0.mk A300
                clear A300
                obtain rfl := Option.some.inj H
                go_wp2_with (first | ((with_reducible refine gate_callee (f := 34) rfl ?_); refine goesL_ (some 33) rfl rfl Try.func34 (by kernel_rfl) rfl #[] rfl (by (try simp only [List.map_toArray, List.map_cons, List.map_nil]); first | done | rfl | (simp only [List.length_drop, List.length_take]; rfl)) ?_; (with_reducible refine (merkhetlaw09_fixed.calls  true _ A27.out).mono ?_); rintro e w31 ⟨rfl, hb⟩; refine ⟨_, rfl, ?_⟩; have n0_ := Aside0.mk (Kd.R_below (by (with_reducible repeat (first | apply Kd.R_alloc | apply Kd.R_drewN | apply Kd.R_drew)); exact HO_5.out) hb); have n1_ := Aside0.mk (Kd.R_below (by (with_reducible repeat (first | apply Kd.R_alloc | apply Kd.R_drewN | apply Kd.R_drew)); exact HO_6.out) hb); have n2_ := Aside0.mk (below_step (by repeat (first | (with_reducible first | exact HB.out | apply below_alloc | apply pw_below_drewN | apply below_drew1) | exact HB.out)) hb); clear HO_5; clear HO_6; clear HB; have HO_5 := n0_; have HO_6 := n1_; have HB := n2_; clear n0_ n1_ n2_; (try clear hb); (try clear hb2); (try clear hk); (try clear hi)) | (go_at_call 31; (with_reducible refine (merkhetref01_Same.calls k1 _ _ l0 _ _ y113 t125 _ ?side1 ?side2 ?side3 ?side4 A30.out).mono ?_); (case side1 => repeat (first | exact (Kd.C_below HR0.out HB.out) | (with_reducible refine Kd.C_alloc ?_ _) | (with_reducible refine Kd.C_drewN ?_ _) | (with_reducible refine Kd.C_drew ?_))); (case side2 => exact HC0.out); (case side3 => repeat (first | exact (Kd.R_reads' HO_5.out).2.2 | (with_reducible refine Kd.C_alloc ?_ _) | (with_reducible refine Kd.C_drewN ?_ _) | (with_reducible refine Kd.C_drew ?_))); (case side4 => exact (Kd.R_reads' HO_5.out).2.1); rintro e w' ⟨rfl, ⟨nd, rfl⟩⟩))
                go_ret
                exact ⟨by first | rfl | (simp [errW_none, errW_some] <;> rfl) | (simp [*, errW_none, errW_some] <;> rfl), by repeat (first | (with_reducible first | exact HB.out | apply below_alloc | apply pw_below_drewN | apply below_drew1) | exact HB.out)⟩
              · replace c29 := Bool.eq_false_iff.mpr c29
                subst c29
                have H1 : (some false) = some r := by rw [if_neg (show ¬ (false = true) by decide)] at H; exact H
                clear H
                have H := H1
                clear H1
                obtain rfl := Option.some.inj H
                go_wp2_with (first | ((with_reducible refine gate_callee (f := 34) rfl ?_); refine goesL_ (some 33) rfl rfl Try.func34 (by kernel_rfl) rfl #[] rfl (by (try simp only [List.map_toArray, List.map_cons, List.map_nil]); first | done | rfl | (simp only [List.length_drop, List.length_take]; rfl)) ?_; (with_reducible refine (merkhetlaw09_fixed.calls  true _ A27.out).mono ?_); rintro e w32 ⟨rfl, hb⟩; refine ⟨_, rfl, ?_⟩; have n0_ := Aside0.mk (Kd.R_below (by (with_reducible repeat (first | apply Kd.R_alloc | apply Kd.R_drewN | apply Kd.R_drew)); exact HO_5.out) hb); have n1_ := Aside0.mk (Kd.R_below (by (with_reducible repeat (first | apply Kd.R_alloc | apply Kd.R_drewN | apply Kd.R_drew)); exact HO_6.out) hb); have n2_ := Aside0.mk (below_step (by repeat (first | (with_reducible first | exact HB.out | apply below_alloc | apply pw_below_drewN | apply below_drew1) | exact HB.out)) hb); clear HO_5; clear HO_6; clear HB; have HO_5 := n0_; have HO_6 := n1_; have HB := n2_; clear n0_ n1_ n2_; (try clear hb); (try clear hb2); (try clear hk); (try clear hi)))
                go_ret
                exact ⟨by first | rfl | (simp [errW_none, errW_some] <;> rfl) | (simp [*, errW_none, errW_some] <;> rfl), by repeat (first | (with_reducible first | exact HB.out | apply below_alloc | apply pw_below_drewN | apply below_drew1) | exact HB.out)⟩
            · replace c28 := Bool.eq_false_iff.mpr c28
              subst c28
              have H1 : (some false) = some r := by rw [if_neg (show ¬ (false = true) by decide)] at H; exact H
              clear H
              have H := H1
              clear H1
              obtain rfl := Option.some.inj H
              go_wp2_with (first | ((with_reducible refine gate_callee (f := 34) rfl ?_); refine goesL_ (some 33) rfl rfl Try.func34 (by kernel_rfl) rfl #[] rfl (by (try simp only [List.map_toArray, List.map_cons, List.map_nil]); first | done | rfl | (simp only [List.length_drop, List.length_take]; rfl)) ?_; (with_reducible refine (merkhetlaw09_fixed.calls  false _ A27.out).mono ?_); rintro e w33 ⟨rfl, hb⟩; refine ⟨_, rfl, ?_⟩; have n0_ := Aside0.mk (Kd.R_below (by (with_reducible repeat (first | apply Kd.R_alloc | apply Kd.R_drewN | apply Kd.R_drew)); exact HO_5.out) hb); have n1_ := Aside0.mk (Kd.R_below (by (with_reducible repeat (first | apply Kd.R_alloc | apply Kd.R_drewN | apply Kd.R_drew)); exact HO_6.out) hb); have n2_ := Aside0.mk (below_step (by repeat (first | (with_reducible first | exact HB.out | apply below_alloc | apply pw_below_drewN | apply below_drew1) | exact HB.out)) hb); clear HO_5; clear HO_6; clear HB; have HO_5 := n0_; have HO_6 := n1_; have HB := n2_; clear n0_ n1_ n2_; (try clear hb); (try clear hb2); (try clear hk); (try clear hi)))
              go_ret
              exact ⟨by first | rfl | (simp [errW_none, errW_some] <;> rfl) | (simp [*, errW_none, errW_some] <;> rfl), by repeat (first | (with_reducible first | exact HB.out | apply below_alloc | apply pw_below_drewN | apply below_drew1) | exact HB.out)⟩
    · rw [if_neg c8] at H
      exact absurd H (by simp)

end Go.Proofs.Ytkpmaenhkjfncaa.R
