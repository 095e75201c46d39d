/- Texts joined by wip/tools/merge.py: Tx1 TOpens SpanT RefH RefS RefG BndF BndG PureShiftStarts. -/
import Derived.Test.YtjgpggjjgimibaaJShiftStarts1
import Derived.Test.YtjgpggjjgimibaaJShiftStarts2
import Derived.Test.YtjgpggjjgimibaaJShiftStarts0
import Derived.KernelRfl
-- Written by wip/tools/gp.py, a program of this session round the kit's printer. Lean checks it.
namespace Go.Proofs.Ytjgpggjjgimibaa.T
open Go.RowKit Go.Proofs.Ytjgpggjjgimibaa.Q Go.Proofs.YtjgpggjjgimibaaW.PrintWords Go.Proofs.YtjgpggjjgimibaaW.PrintLast Go.Proofs.YtjgpggjjgimibaaW.PrintMore
attribute [local go_sem] max2_int min2_int max_two min_two max_three min_three max_four min_four   -- for this text's walks alone
set_option linter.unusedVariables false
set_option linter.unusedSimpArgs false

/-! ### shift_Starts: function 24 (given) -/
def shift_Starts.f (l0 : List S42) (l1 : List Int) : Option (List Int × Bool) := if (∀ s ∈ l0, L.fitS s) ∧ l0.length ≤ 1000000000 ∧ l1.length ≤ 1000000000 then some (L.startsB l0 l1) else none
theorem shift_Starts.calls (A0 : Option Addr) (c0 : Nat) (l0 : List (S42)) (A1 : Option Addr) (c1 : Nat) (l1 : List Int) (r1 : List Int) (r2 : Bool) (w : World) (hr0 : Kd.C k42 w A0 l0.length l0) (hc0 : l0.length ≤ c0) (hr1 : Kd.C (Kd.int .i64) w A1 l1.length l1) (hc1 : l1.length ≤ c1) (h : shift_Starts.f l0 l1 = some (r1, r2)) :
    Calls Try.prog 24 #[.slice A0 l0.length c0, .slice A1 l1.length c1] w fun e w' => ∃ v0_ : Value, e = .returned (.tuple #[v0_, .bool r2]) ∧ Kd.R (Kd.int .i64) 2 w' w.heap.size (fun _ => True) v0_ r1 ∧ Below w.heap.size w w' := by
  unfold shift_Starts.f at h
  split at h
  · rename_i hl
    have e := Option.some.inj h
    have c := L.starts_calls l0 l1 hl.1 hl.2.1 hl.2.2 A0 A1 c0 c1 w hr0 hc0 hr1
    rw [e] at c
    exact c
  · cases h

/-! ### merkhetlaw18_fixed: function 23 -/
def merkhetlaw18_fixed.f (k : Nat)  : Option (Bool) := (shift_Starts.f (([(⟨1, 1, 0, 0, (⟨#[97]⟩ : ByteArray), (⟨#[98]⟩ : ByteArray), 5, 0⟩ : S42)] : List (S42))) (([(-3)] : List Int))).bind fun bt107 => (if bt107.2 = true then ((merkhetref15_Same.f k bt107.1 (([2] : List Int))).bind fun t114 => (some t114)) else (some false))
theorem merkhetlaw18_fixed.mono : ∀ k, LeO (merkhetlaw18_fixed.f k ) (merkhetlaw18_fixed.f (k + 1) ) := by
  intro  k
  unfold merkhetlaw18_fixed.f
  repeat' first
      | (with_reducible exact merkhetref15_Same.mono _ _ _)
      | (with_reducible exact LeO.refl _)
      | (with_reducible exact LeO.none _)
      | (with_reducible refine LeO.ite ?_ ?_)
      | (with_reducible refine LeO.bind ?_ (fun _ => ?_))
      | exact merkhetref15_Same.mono _ _ _
      | exact LeO.none _
      | refine LeO.ite ?_ ?_
      | refine LeO.bind ?_ (fun _ => ?_)
set_option maxHeartbeats 8000000 in
set_option maxRecDepth 100000 in
theorem merkhetlaw18_fixed.calls (k : Nat)  (r : Bool) (w : World) (h : merkhetlaw18_fixed.f k  = some r) :
    Calls Try.prog 23 #[] w fun e w' => e = .returned (.bool r) ∧ Below w.heap.size w w' := by
  have hu42 := Try.underlying42
  have HB := Aside0.mk (Below.refl w.heap.size w)
  have H : ((shift_Starts.f (([(⟨1, 1, 0, 0, (⟨#[97]⟩ : ByteArray), (⟨#[98]⟩ : ByteArray), 5, 0⟩ : S42)] : List (S42))) (([(-3)] : List Int))).bind fun bt107 => (if bt107.2 = true then ((merkhetref15_Same.f k bt107.1 (([2] : List Int))).bind fun t114 => (some t114)) else (some false))) = some r := h
  clear h
  obtain ⟨y101, hy101⟩ : ∃ y_ : List (S42), y_ = (([(⟨1, 1, 0, 0, (⟨#[97]⟩ : ByteArray), (⟨#[98]⟩ : ByteArray), 5, 0⟩ : S42)] : List (S42))) := ⟨_, rfl⟩
  replace H : ((shift_Starts.f y101 (([(-3)] : List Int))).bind fun bt107 => (if bt107.2 = true then ((merkhetref15_Same.f k bt107.1 (([2] : List Int))).bind fun t114 => (some t114)) else (some false))) = some r := by first | (rw [hy101]; with_reducible exact H) | (have H2_ := (Option.bind_some _ _).symm.trans H; rw [hy101]; with_reducible exact H2_) | (have H2_ := (Option.bind_some _ _).symm.trans H; with_reducible exact H2_) | with_reducible exact H | (rw [hy101]; exact H) | exact H
  have Ny101 := Aside0.mk hy101
  clear hy101
  obtain ⟨y104, hy104⟩ : ∃ y_ : List Int, y_ = (([(-3)] : List Int)) := ⟨_, rfl⟩
  replace H : ((shift_Starts.f y101 y104).bind fun bt107 => (if bt107.2 = true then ((merkhetref15_Same.f k bt107.1 (([2] : List Int))).bind fun t114 => (some t114)) else (some false))) = some r := by first | (rw [hy104]; with_reducible exact H) | (have H2_ := (Option.bind_some _ _).symm.trans H; rw [hy104]; with_reducible exact H2_) | (have H2_ := (Option.bind_some _ _).symm.trans H; with_reducible exact H2_) | with_reducible exact H | (rw [hy104]; exact H) | exact H
  have Ny104 := Aside0.mk hy104
  clear hy104
  replace H := Option.bind_eq_some_iff.mp H
  obtain ⟨⟨t107, t108⟩, A10, H⟩ := H
  replace H : (if t108 = true then ((merkhetref15_Same.f k t107 (([2] : List Int))).bind fun t114 => (some t114)) else (some false)) = some r := H
  have A1 := Aside0.mk A10
  clear A10
  by_cases c2 : t108 = true
  · subst c2
    have H1 : ((merkhetref15_Same.f k t107 (([2] : List Int))).bind fun t114 => (some t114)) = some r := by rw [if_pos rfl] at H; exact H
    clear H
    have H := H1
    clear H1
    obtain ⟨y111, hy111⟩ : ∃ y_ : List Int, y_ = (([2] : List Int)) := ⟨_, rfl⟩
    replace H : ((merkhetref15_Same.f k t107 y111).bind fun t114 => (some t114)) = some r := by first | (rw [hy111]; with_reducible exact H) | (have H2_ := (Option.bind_some _ _).symm.trans H; rw [hy111]; with_reducible exact H2_) | (have H2_ := (Option.bind_some _ _).symm.trans H; with_reducible exact H2_) | with_reducible exact H | (rw [hy111]; exact H) | exact H
    have Ny111 := Aside0.mk hy111
    clear hy111
    replace H := Option.bind_eq_some_iff.mp H
    obtain ⟨t114, A30, H⟩ := H
    replace H : (some t114) = some r := H
    have A3 := Aside0.mk A30
    clear A30
    obtain rfl := Option.some.inj H
    go_enter Try.func23, Try.ntmps23
    go_wp2_with (first | ((with_reducible refine gate_dst (N := 5) rfl ?_); (try (refine gate_guard (by rfl) ?_; dsimp only)); refine Kd.R_lit k42 _ 42 ?hg (N := 5) ?hd (xs := ([(⟨1, 1, 0, 0, (⟨#[97]⟩ : ByteArray), (⟨#[98]⟩ : ByteArray), 5, 0⟩ : S42)] : List (S42))) (inner := [.int .u64 1, .int .u64 1, .int .u64 0, .int .u8 0, .string (⟨#[97]⟩ : ByteArray), .string (⟨#[98]⟩ : ByteArray), .int .i64 5, .int .i64 0]) (ok := fun _ => True) (okp := fun _ => True) ?hr ?hp (fun _ hk => hk) trivial (Below.refl _ _) (Nat.le_refl _) (by simp) ?_; (case hd => rfl); (case hg => rfl); (case hr => first | (go_simp; done) | (go_simp; rfl)); (case hp => exact (Reps.c8 (show Kd.M k42 _ _ _ (⟨1, 1, 0, 0, (⟨#[97]⟩ : ByteArray), (⟨#[98]⟩ : ByteArray), 5, 0⟩ : S42) [.int .u64 1, .int .u64 1, .int .u64 0, .int .u8 0, .string (⟨#[97]⟩ : ByteArray), .string (⟨#[98]⟩ : ByteArray), .int .i64 5, .int .i64 0] from (k42_mkM _ _ _ (⟨1, 1, 0, 0, (⟨#[97]⟩ : ByteArray), (⟨#[98]⟩ : ByteArray), 5, 0⟩ : S42) )) (Reps.none _ _))); intro v102 w4 ho5 hb hg_ hnew_; clear hg_ hnew_; (first | rw [← Ny101.out] at ho5 | (simp only [Int.reduceToNat] at ho5; rw [← Ny101.out] at ho5)); have n0_ := Aside0.mk (Kd.R_lower ho5 (below_size (by repeat (first | (with_reducible first | exact HB.out | apply below_alloc | apply pw_below_drewN | apply below_drew1) | exact HB.out)))); have n1_ := Aside0.mk (below_step (by repeat (first | (with_reducible first | exact HB.out | apply below_alloc | apply pw_below_drewN | apply below_drew1) | exact HB.out)) hb); clear HB; have HO103 := n0_; have HB := n1_; clear n0_ n1_; clear hb ho5) | ((with_reducible refine gate_dst (N := 6) rfl ?_); (try (refine gate_guard (by rfl) ?_; dsimp only)); refine Kd.R_lit (Kd.int .i64) _ 2 ?hg (N := 6) ?hd (xs := ([(-3)] : List Int)) (inner := [.int .i64 (-3)]) (ok := fun _ => True) (okp := fun _ => True) ?hr ?hp (fun _ hk => hk) trivial (Below.refl _ _) (Nat.le_refl _) (by simp) ?_; (case hd => rfl); (case hg => rfl); (case hr => first | (go_simp; done) | (go_simp; rfl)); (case hp => exact (Reps.one (show Kd.M (Kd.int .i64) _ _ _ (-3) [.int .i64 (-3)] from rfl) (Reps.none _ _))); intro v105 w6 ho7 hb hg_ hnew_; clear hg_ hnew_; (first | rw [← Ny104.out] at ho7 | (simp only [Int.reduceToNat] at ho7; rw [← Ny104.out] at ho7)); have n0_ := Aside0.mk (Kd.R_below (by (with_reducible repeat (first | apply Kd.R_alloc | apply Kd.R_drewN | apply Kd.R_drew)); exact HO103.out) hb); have n1_ := Aside0.mk (Kd.R_lower ho7 (below_size (by repeat (first | (with_reducible first | exact HB.out | apply below_alloc | apply pw_below_drewN | apply below_drew1) | exact HB.out)))); have n2_ := Aside0.mk (below_step (by repeat (first | (with_reducible first | exact HB.out | apply below_alloc | apply pw_below_drewN | apply below_drew1) | exact HB.out)) hb); clear HO103; clear HB; have HO103 := n0_; have HO106 := n1_; have HB := n2_; clear n0_ n1_ n2_; clear hb ho7; obtain ⟨Ao8, co8, eo8⟩ := Kd.R_slice HO103.out; subst eo8; obtain ⟨Ao9, co9, eo9⟩ := Kd.R_slice HO106.out; subst eo9) | ((with_reducible refine gate_callee (f := 24) rfl ?_); refine goesL_ (some 7) rfl rfl Try.func24 (by kernel_rfl) rfl #[.slice Ao8 y101.length co8, .slice Ao9 y104.length co9] rfl (by (try simp only [List.map_toArray, List.map_cons, List.map_nil]); first | done | rfl | (simp only [List.length_drop, List.length_take]; rfl)) ?_; (with_reducible refine (shift_Starts.calls _ _ y101 _ _ y104 t107 true _ ?side1 ?side2 ?side3 ?side4 A1.out).mono ?_); (case side1 => repeat (first | exact (Kd.R_reads' HO103.out).2.2 | (with_reducible refine Kd.C_alloc ?_ _) | (with_reducible refine Kd.C_drewN ?_ _) | (with_reducible refine Kd.C_drew ?_))); (case side2 => exact (Kd.R_reads' HO103.out).2.1); (case side3 => repeat (first | exact (Kd.R_reads' HO106.out).2.2 | (with_reducible refine Kd.C_alloc ?_ _) | (with_reducible refine Kd.C_drewN ?_ _) | (with_reducible refine Kd.C_drew ?_))); (case side4 => exact (Kd.R_reads' HO106.out).2.1); rintro e w10 ⟨v109, rfl, ho0, hb⟩; refine ⟨_, rfl, ?_⟩; have n0_ := Aside0.mk (Kd.R_below (by (with_reducible repeat (first | apply Kd.R_alloc | apply Kd.R_drewN | apply Kd.R_drew)); exact HO103.out) hb); have n1_ := Aside0.mk (Kd.R_elder' (by (with_reducible repeat (first | apply Kd.R_alloc | apply Kd.R_drewN | apply Kd.R_drew)); exact HO106.out) (Kd.R_base ho0) hb); have n2_ := Aside0.mk (Kd.R_lower (Kd.R_new' ho0 (Kd.R_lt (by (with_reducible repeat (first | apply Kd.R_alloc | apply Kd.R_drewN | apply Kd.R_drew)); exact HO106.out))) (below_size (by repeat (first | (with_reducible first | exact HB.out | apply below_alloc | apply pw_below_drewN | apply below_drew1) | exact HB.out)))); have n3_ := Aside0.mk (below_step (by repeat (first | (with_reducible first | exact HB.out | apply below_alloc | apply pw_below_drewN | apply below_drew1) | exact HB.out)) hb); clear HO103; clear HO106; clear HB; have HO103 := n0_; have HO106 := n1_; have HO110 := n2_; have HB := n3_; clear n0_ n1_ n2_ n3_; (try clear hb); (try clear hb2); (try clear hk); (try clear hi); (try clear ho0)) | ((with_reducible refine gate_dst (N := 13) rfl ?_); (try (refine gate_guard (by rfl) ?_; dsimp only)); refine Kd.R_lit (Kd.int .i64) _ 2 ?hg (N := 13) ?hd (xs := ([2] : List Int)) (inner := [.int .i64 2]) (ok := fun _ => True) (okp := fun _ => True) ?hr ?hp (fun _ hk => hk) trivial (Below.refl _ _) (Nat.le_refl _) (by simp) ?_; (case hd => rfl); (case hg => rfl); (case hr => first | (go_simp; done) | (go_simp; rfl)); (case hp => exact (Reps.one (show Kd.M (Kd.int .i64) _ _ _ 2 [.int .i64 2] from rfl) (Reps.none _ _))); intro v112 w11 ho12 hb hg_ hnew_; clear hg_ hnew_; (first | rw [← Ny111.out] at ho12 | (simp only [Int.reduceToNat] at ho12; rw [← Ny111.out] at ho12)); have n0_ := Aside0.mk (Kd.R_below (by (with_reducible repeat (first | apply Kd.R_alloc | apply Kd.R_drewN | apply Kd.R_drew)); exact HO103.out) hb); have n1_ := Aside0.mk (Kd.R_elder' (by (with_reducible repeat (first | apply Kd.R_alloc | apply Kd.R_drewN | apply Kd.R_drew)); exact HO106.out) (Kd.R_base ho12) hb); have n2_ := Aside0.mk (Kd.R_elder' (by (with_reducible repeat (first | apply Kd.R_alloc | apply Kd.R_drewN | apply Kd.R_drew)); exact HO110.out) (Kd.R_base ho12) hb); have n3_ := Aside0.mk (Kd.R_lower (Kd.R_new' (Kd.R_new' ho12 (Kd.R_lt (by (with_reducible repeat (first | apply Kd.R_alloc | apply Kd.R_drewN | apply Kd.R_drew)); exact HO106.out))) (Kd.R_lt (by (with_reducible repeat (first | apply Kd.R_alloc | apply Kd.R_drewN | apply Kd.R_drew)); exact HO110.out))) (below_size (by repeat (first | (with_reducible first | exact HB.out | apply below_alloc | apply pw_below_drewN | apply below_drew1) | exact HB.out)))); have n4_ := Aside0.mk (below_step (by repeat (first | (with_reducible first | exact HB.out | apply below_alloc | apply pw_below_drewN | apply below_drew1) | exact HB.out)) hb); clear HO103; clear HO106; clear HO110; clear HB; have HO103 := n0_; have HO106 := n1_; have HO110 := n2_; have HO113 := n3_; have HB := n4_; clear n0_ n1_ n2_ n3_ n4_; clear hb ho12; obtain ⟨Ao13, co13, eo13⟩ := Kd.R_slice HO110.out; subst eo13; obtain ⟨Ao14, co14, eo14⟩ := Kd.R_slice HO113.out; subst eo14) | (go_at_call 26; (with_reducible refine (merkhetref15_Same.calls k _ _ t107 _ _ y111 t114 _ ?side1 ?side2 ?side3 ?side4 A3.out).mono ?_); (case side1 => repeat (first | exact (Kd.R_reads' HO110.out).2.2 | (with_reducible refine Kd.C_alloc ?_ _) | (with_reducible refine Kd.C_drewN ?_ _) | (with_reducible refine Kd.C_drew ?_))); (case side2 => exact (Kd.R_reads' HO110.out).2.1); (case side3 => repeat (first | exact (Kd.R_reads' HO113.out).2.2 | (with_reducible refine Kd.C_alloc ?_ _) | (with_reducible refine Kd.C_drewN ?_ _) | (with_reducible refine Kd.C_drew ?_))); (case side4 => exact (Kd.R_reads' HO113.out).2.1); rintro e w' ⟨rfl, ⟨nd, rfl⟩⟩))
    go_ret
    exact ⟨by first | rfl | (simp [errW_none, errW_some] <;> rfl) | (simp [*, errW_none, errW_some] <;> rfl), by repeat (first | (with_reducible first | exact HB.out | apply below_alloc | apply pw_below_drewN | apply below_drew1) | exact HB.out)⟩
  · replace c2 := Bool.eq_false_iff.mpr c2
    subst c2
    have H1 : (some false) = some r := by rw [if_neg (show ¬ (false = true) by decide)] at H; exact H
    clear H
    have H := H1
    clear H1
    obtain rfl := Option.some.inj H
    go_enter Try.func23, Try.ntmps23
    go_wp2_with (first | ((with_reducible refine gate_dst (N := 5) rfl ?_); (try (refine gate_guard (by rfl) ?_; dsimp only)); refine Kd.R_lit k42 _ 42 ?hg (N := 5) ?hd (xs := ([(⟨1, 1, 0, 0, (⟨#[97]⟩ : ByteArray), (⟨#[98]⟩ : ByteArray), 5, 0⟩ : S42)] : List (S42))) (inner := [.int .u64 1, .int .u64 1, .int .u64 0, .int .u8 0, .string (⟨#[97]⟩ : ByteArray), .string (⟨#[98]⟩ : ByteArray), .int .i64 5, .int .i64 0]) (ok := fun _ => True) (okp := fun _ => True) ?hr ?hp (fun _ hk => hk) trivial (Below.refl _ _) (Nat.le_refl _) (by simp) ?_; (case hd => rfl); (case hg => rfl); (case hr => first | (go_simp; done) | (go_simp; rfl)); (case hp => exact (Reps.c8 (show Kd.M k42 _ _ _ (⟨1, 1, 0, 0, (⟨#[97]⟩ : ByteArray), (⟨#[98]⟩ : ByteArray), 5, 0⟩ : S42) [.int .u64 1, .int .u64 1, .int .u64 0, .int .u8 0, .string (⟨#[97]⟩ : ByteArray), .string (⟨#[98]⟩ : ByteArray), .int .i64 5, .int .i64 0] from (k42_mkM _ _ _ (⟨1, 1, 0, 0, (⟨#[97]⟩ : ByteArray), (⟨#[98]⟩ : ByteArray), 5, 0⟩ : S42) )) (Reps.none _ _))); intro v102 w15 ho16 hb hg_ hnew_; clear hg_ hnew_; (first | rw [← Ny101.out] at ho16 | (simp only [Int.reduceToNat] at ho16; rw [← Ny101.out] at ho16)); have n0_ := Aside0.mk (Kd.R_lower ho16 (below_size (by repeat (first | (with_reducible first | exact HB.out | apply below_alloc | apply pw_below_drewN | apply below_drew1) | exact HB.out)))); have n1_ := Aside0.mk (below_step (by repeat (first | (with_reducible first | exact HB.out | apply below_alloc | apply pw_below_drewN | apply below_drew1) | exact HB.out)) hb); clear HB; have HO103 := n0_; have HB := n1_; clear n0_ n1_; clear hb ho16) | ((with_reducible refine gate_dst (N := 6) rfl ?_); (try (refine gate_guard (by rfl) ?_; dsimp only)); refine Kd.R_lit (Kd.int .i64) _ 2 ?hg (N := 6) ?hd (xs := ([(-3)] : List Int)) (inner := [.int .i64 (-3)]) (ok := fun _ => True) (okp := fun _ => True) ?hr ?hp (fun _ hk => hk) trivial (Below.refl _ _) (Nat.le_refl _) (by simp) ?_; (case hd => rfl); (case hg => rfl); (case hr => first | (go_simp; done) | (go_simp; rfl)); (case hp => exact (Reps.one (show Kd.M (Kd.int .i64) _ _ _ (-3) [.int .i64 (-3)] from rfl) (Reps.none _ _))); intro v105 w17 ho18 hb hg_ hnew_; clear hg_ hnew_; (first | rw [← Ny104.out] at ho18 | (simp only [Int.reduceToNat] at ho18; rw [← Ny104.out] at ho18)); have n0_ := Aside0.mk (Kd.R_below (by (with_reducible repeat (first | apply Kd.R_alloc | apply Kd.R_drewN | apply Kd.R_drew)); exact HO103.out) hb); have n1_ := Aside0.mk (Kd.R_lower ho18 (below_size (by repeat (first | (with_reducible first | exact HB.out | apply below_alloc | apply pw_below_drewN | apply below_drew1) | exact HB.out)))); have n2_ := Aside0.mk (below_step (by repeat (first | (with_reducible first | exact HB.out | apply below_alloc | apply pw_below_drewN | apply below_drew1) | exact HB.out)) hb); clear HO103; clear HB; have HO103 := n0_; have HO106 := n1_; have HB := n2_; clear n0_ n1_ n2_; clear hb ho18; obtain ⟨Ao19, co19, eo19⟩ := Kd.R_slice HO103.out; subst eo19; obtain ⟨Ao20, co20, eo20⟩ := Kd.R_slice HO106.out; subst eo20) | ((with_reducible refine gate_callee (f := 24) rfl ?_); refine goesL_ (some 7) rfl rfl Try.func24 (by kernel_rfl) rfl #[.slice Ao19 y101.length co19, .slice Ao20 y104.length co20] rfl (by (try simp only [List.map_toArray, List.map_cons, List.map_nil]); first | done | rfl | (simp only [List.length_drop, List.length_take]; rfl)) ?_; (with_reducible refine (shift_Starts.calls _ _ y101 _ _ y104 t107 false _ ?side1 ?side2 ?side3 ?side4 A1.out).mono ?_); (case side1 => repeat (first | exact (Kd.R_reads' HO103.out).2.2 | (with_reducible refine Kd.C_alloc ?_ _) | (with_reducible refine Kd.C_drewN ?_ _) | (with_reducible refine Kd.C_drew ?_))); (case side2 => exact (Kd.R_reads' HO103.out).2.1); (case side3 => repeat (first | exact (Kd.R_reads' HO106.out).2.2 | (with_reducible refine Kd.C_alloc ?_ _) | (with_reducible refine Kd.C_drewN ?_ _) | (with_reducible refine Kd.C_drew ?_))); (case side4 => exact (Kd.R_reads' HO106.out).2.1); rintro e w21 ⟨v109, rfl, ho0, hb⟩; refine ⟨_, rfl, ?_⟩; have n0_ := Aside0.mk (Kd.R_below (by (with_reducible repeat (first | apply Kd.R_alloc | apply Kd.R_drewN | apply Kd.R_drew)); exact HO103.out) hb); have n1_ := Aside0.mk (Kd.R_elder' (by (with_reducible repeat (first | apply Kd.R_alloc | apply Kd.R_drewN | apply Kd.R_drew)); exact HO106.out) (Kd.R_base ho0) hb); have n2_ := Aside0.mk (Kd.R_lower (Kd.R_new' ho0 (Kd.R_lt (by (with_reducible repeat (first | apply Kd.R_alloc | apply Kd.R_drewN | apply Kd.R_drew)); exact HO106.out))) (below_size (by repeat (first | (with_reducible first | exact HB.out | apply below_alloc | apply pw_below_drewN | apply below_drew1) | exact HB.out)))); have n3_ := Aside0.mk (below_step (by repeat (first | (with_reducible first | exact HB.out | apply below_alloc | apply pw_below_drewN | apply below_drew1) | exact HB.out)) hb); clear HO103; clear HO106; clear HB; have HO103 := n0_; have HO106 := n1_; have HO110 := n2_; have HB := n3_; clear n0_ n1_ n2_ n3_; (try clear hb); (try clear hb2); (try clear hk); (try clear hi); (try clear ho0)))
    go_ret
    exact ⟨by first | rfl | (simp [errW_none, errW_some] <;> rfl) | (simp [*, errW_none, errW_some] <;> rfl), by repeat (first | (with_reducible first | exact HB.out | apply below_alloc | apply pw_below_drewN | apply below_drew1) | exact HB.out)⟩

/-! ### merkhetlaw18_ShiftStarts: function 7 -/
def merkhetlaw18_ShiftStarts.j0 : Nat → List (S42) → List Int → Bool → Option (Bool)
  | 0, _, _, _ => none
  | k + 1, x0, x1, x15 => if x15 = true then ((merkhetlaw18_fixed.f k).bind fun t116 => (some t116)) else ((shift_Starts.f x0 x1).bind fun bt117 => ((merkhetref18_Starts.f k x0 x1).bind fun bt121 => ((merkhetlaw18_fixed.f k).bind fun t125 => (if t125 = true then ((merkhetref15_Same.f k bt117.1 bt121.1).bind fun t126 => (if t126 = true then (some (bt117.2 == bt121.2)) else (some false))) else (some false)))))
def merkhetlaw18_ShiftStarts.f (k : Nat) (l0 : List (S42)) (l1 : List Int) : Option (Bool) := (merkhetlaw04_Great.f k l0).bind fun t115 => (if t115 = true then (merkhetlaw18_ShiftStarts.j0 k l0 l1 true) else (merkhetlaw18_ShiftStarts.j0 k l0 l1 (decide ((l1.length : Int) > 60))))
theorem merkhetlaw18_ShiftStarts.mono_l : ∀ k, (∀ y0 y1 y2, LeO (merkhetlaw18_ShiftStarts.j0 k y0 y1 y2) (merkhetlaw18_ShiftStarts.j0 (k + 1) y0 y1 y2))
  | 0 => fun _ _ _ r h => by simp [merkhetlaw18_ShiftStarts.j0] at h
  | k + 1 => by
    have ih0 := merkhetlaw18_ShiftStarts.mono_l k
    · intro y0 y1 y2
      unfold merkhetlaw18_ShiftStarts.j0
      repeat' first
      | (with_reducible exact ih0 _ _ _)
      | (with_reducible exact merkhetlaw04_Great.mono _ _)
      | (with_reducible exact merkhetlaw18_fixed.mono _)
      | (with_reducible exact merkhetref15_Same.mono _ _ _)
      | (with_reducible exact merkhetref18_Starts.mono _ _ _)
      | (with_reducible exact LeO.refl _)
      | (with_reducible exact LeO.none _)
      | (with_reducible refine LeO.ite ?_ ?_)
      | (with_reducible refine LeO.bind ?_ (fun _ => ?_))
      | exact ih0 _ _ _
      | exact merkhetlaw04_Great.mono _ _
      | exact merkhetlaw18_fixed.mono _
      | exact merkhetref15_Same.mono _ _ _
      | exact merkhetref18_Starts.mono _ _ _
      | exact LeO.none _
      | refine LeO.ite ?_ ?_
      | refine LeO.bind ?_ (fun _ => ?_)
theorem merkhetlaw18_ShiftStarts.mono : ∀ a0 a1 k, LeO (merkhetlaw18_ShiftStarts.f k a0 a1) (merkhetlaw18_ShiftStarts.f (k + 1) a0 a1) := by
  intro a0 a1 k
  have ih0 := merkhetlaw18_ShiftStarts.mono_l k
  unfold merkhetlaw18_ShiftStarts.f
  repeat' first
      | (with_reducible exact ih0 _ _ _)
      | (with_reducible exact merkhetlaw04_Great.mono _ _)
      | (with_reducible exact merkhetlaw18_fixed.mono _)
      | (with_reducible exact merkhetref15_Same.mono _ _ _)
      | (with_reducible exact merkhetref18_Starts.mono _ _ _)
      | (with_reducible exact LeO.refl _)
      | (with_reducible exact LeO.none _)
      | (with_reducible refine LeO.ite ?_ ?_)
      | (with_reducible refine LeO.bind ?_ (fun _ => ?_))
      | exact ih0 _ _ _
      | exact merkhetlaw04_Great.mono _ _
      | exact merkhetlaw18_fixed.mono _
      | exact merkhetref15_Same.mono _ _ _
      | exact merkhetref18_Starts.mono _ _ _
      | exact LeO.none _
      | refine LeO.ite ?_ ?_
      | refine LeO.bind ?_ (fun _ => ?_)
set_option maxHeartbeats 8000000 in
set_option maxRecDepth 100000 in
theorem merkhetlaw18_ShiftStarts.calls (k : Nat) (A0 : Option Addr) (c0 : Nat) (l0 : List (S42)) (A1 : Option Addr) (c1 : Nat) (l1 : List Int) (r : Bool) (w : World) (hr0 : Kd.C k42 w A0 l0.length l0) (hc0 : l0.length ≤ c0) (hr1 : Kd.C (Kd.int .i64) w A1 l1.length l1) (hc1 : l1.length ≤ c1) (h : merkhetlaw18_ShiftStarts.f k l0 l1 = some r) :
    Calls Try.prog 7 #[.slice A0 l0.length c0, .slice A1 l1.length c1] w fun e w' => e = .returned (.bool r) ∧ Below w.heap.size w w' := by
  have HR0 := Aside0.mk hr0
  have HC0 := Aside0.mk hc0
  clear hr0 hc0
  have HR1 := Aside0.mk hr1
  have HC1 := Aside0.mk hc1
  clear hr1 hc1
  have HB := Aside0.mk (Below.refl w.heap.size w)
  have H : ((merkhetlaw04_Great.f k l0).bind fun t115 => (if t115 = true then (merkhetlaw18_ShiftStarts.j0 k l0 l1 true) else (merkhetlaw18_ShiftStarts.j0 k l0 l1 (decide ((l1.length : Int) > 60))))) = some r := h
  clear h
  have HC3 := Aside0.mk H
  clear H
  go_enter Try.func7, Try.ntmps7
  go_upto_region 1 with (fail)
  go_cut [15] (fun v15 wc => ∃ (kq : Nat) (x15_2 : Bool), v15 = .bool x15_2 ∧ Aside0 (merkhetlaw18_ShiftStarts.j0 kq l0 l1 x15_2 = some r) ∧ Aside0 (kq ≤ k) ∧ Aside0 (Below w.heap.size w wc))
  case first =>
    have H := HC3.out
    clear HC3
    replace H := Option.bind_eq_some_iff.mp H
    obtain ⟨t115, A40, H⟩ := H
    replace H : (if t115 = true then (merkhetlaw18_ShiftStarts.j0 k l0 l1 true) else (merkhetlaw18_ShiftStarts.j0 k l0 l1 (decide ((l1.length : Int) > 60)))) = some r := H
    have A4 := Aside0.mk A40
    clear A40
    by_cases c5 : t115 = true
    · subst c5
      have H1 : (merkhetlaw18_ShiftStarts.j0 k l0 l1 true) = some r := by rw [if_pos rfl] at H; exact H
      clear H
      have H := H1
      clear H1
      have H' := Aside0.mk H
      clear H
      go_wp2_with (first | ((with_reducible refine gate_callee (f := 11) rfl ?_); refine goesL_ (some 10) rfl rfl Try.func11 (by kernel_rfl) rfl #[.slice A0 l0.length c0] rfl (by (try simp only [List.map_toArray, List.map_cons, List.map_nil]); first | done | rfl | (simp only [List.length_drop, List.length_take]; rfl)) ?_; (with_reducible refine (merkhetlaw04_Great.calls k _ _ l0 true _ ?side1 ?side2 A4.out).mono ?_); (case side1 => repeat (first | exact (Kd.C_below HR0.out HB.out) | (with_reducible refine Kd.C_alloc ?_ _) | (with_reducible refine Kd.C_drewN ?_ _) | (with_reducible refine Kd.C_drew ?_))); (case side2 => exact HC0.out); rintro e w6 ⟨rfl, hb⟩; refine ⟨_, rfl, ?_⟩; have n0_ := Aside0.mk (below_step (by repeat (first | (with_reducible first | exact HB.out | apply below_alloc | apply pw_below_drewN | apply below_drew1) | exact HB.out)) hb); clear HB; have HB := n0_; clear n0_; (try clear hb); (try clear hb2); (try clear hk); (try clear hi)))
      go_meet
      case rel => exact ⟨_, (true), (by first | rfl | (simp; done) | (simp [*]; done)), H', ⟨by first | omega | exact Nat.le_refl _⟩, ⟨by repeat (first | (with_reducible first | exact HB.out | apply below_alloc | apply pw_below_drewN | apply below_drew1) | exact HB.out)⟩⟩
    · replace c5 := Bool.eq_false_iff.mpr c5
      subst c5
      have H1 : (merkhetlaw18_ShiftStarts.j0 k l0 l1 (decide ((l1.length : Int) > 60))) = some r := by rw [if_neg (show ¬ (false = true) by decide)] at H; exact H
      clear H
      have H := H1
      clear H1
      have H' := Aside0.mk H
      clear H
      go_wp2_with (first | ((with_reducible refine gate_callee (f := 11) rfl ?_); refine goesL_ (some 10) rfl rfl Try.func11 (by kernel_rfl) rfl #[.slice A0 l0.length c0] rfl (by (try simp only [List.map_toArray, List.map_cons, List.map_nil]); first | done | rfl | (simp only [List.length_drop, List.length_take]; rfl)) ?_; (with_reducible refine (merkhetlaw04_Great.calls k _ _ l0 false _ ?side1 ?side2 A4.out).mono ?_); (case side1 => repeat (first | exact (Kd.C_below HR0.out HB.out) | (with_reducible refine Kd.C_alloc ?_ _) | (with_reducible refine Kd.C_drewN ?_ _) | (with_reducible refine Kd.C_drew ?_))); (case side2 => exact HC0.out); rintro e w7 ⟨rfl, hb⟩; refine ⟨_, rfl, ?_⟩; have n0_ := Aside0.mk (below_step (by repeat (first | (with_reducible first | exact HB.out | apply below_alloc | apply pw_below_drewN | apply below_drew1) | exact HB.out)) hb); clear HB; have HB := n0_; clear n0_; (try clear hb); (try clear hb2); (try clear hk); (try clear hi)))
      go_meet
      case rel => exact ⟨_, (decide ((l1.length : Int) > 60)), (by first | rfl | (simp; done) | (simp [*]; done)), H', ⟨by first | omega | exact Nat.le_refl _⟩, ⟨by repeat (first | (with_reducible first | exact HB.out | apply below_alloc | apply pw_below_drewN | apply below_drew1) | exact HB.out)⟩⟩
  case rest =>
    clear HC3
    try clear c1
    try clear p2
    try clear c5
    try clear c7
    obtain ⟨kq, x15_2, rfl, HA, HJ2, HB⟩ := hcut
    cases kq with
    | zero => exact absurd HA.out (by simp [merkhetlaw18_ShiftStarts.j0])
    | succ kj2 =>
      have H := HA.out
      clear HA
      simp only [merkhetlaw18_ShiftStarts.j0] at H
      by_cases c8 : x15_2 = true
      · subst c8
        have H1 : ((merkhetlaw18_fixed.f kj2).bind fun t116 => (some t116)) = some r := by rw [if_pos rfl] at H; exact H
        clear H
        have H := H1
        clear H1
        replace H := Option.bind_eq_some_iff.mp H
        obtain ⟨t116, A90, H⟩ := H
        replace H : (some t116) = some r := H
        have A9 := Aside0.mk A90
        clear A90
        obtain rfl := Option.some.inj H
        go_wp2_with (first | ((with_reducible refine gate_callee (f := 23) rfl ?_); refine goesL_ (some 16) rfl rfl Try.func23 (by kernel_rfl) rfl #[] rfl (by (try simp only [List.map_toArray, List.map_cons, List.map_nil]); first | done | rfl | (simp only [List.length_drop, List.length_take]; rfl)) ?_; (with_reducible refine (merkhetlaw18_fixed.calls kj2  t116 _ A9.out).mono ?_); rintro e w10 ⟨rfl, hb⟩; refine ⟨_, rfl, ?_⟩; have n0_ := Aside0.mk (below_step (by repeat (first | (with_reducible first | exact HB.out | apply below_alloc | apply pw_below_drewN | apply below_drew1) | exact HB.out)) hb); clear HB; have HB := n0_; clear n0_; (try clear hb); (try clear hb2); (try clear hk); (try clear hi)))
        go_ret
        exact ⟨by first | rfl | (simp [errW_none, errW_some] <;> rfl) | (simp [*, errW_none, errW_some] <;> rfl), by repeat (first | (with_reducible first | exact HB.out | apply below_alloc | apply pw_below_drewN | apply below_drew1) | exact HB.out)⟩
      · replace c8 := Bool.eq_false_iff.mpr c8
        subst c8
        have H1 : ((shift_Starts.f l0 l1).bind fun bt117 => ((merkhetref18_Starts.f kj2 l0 l1).bind fun bt121 => ((merkhetlaw18_fixed.f kj2).bind fun t125 => (if t125 = true then ((merkhetref15_Same.f kj2 bt117.1 bt121.1).bind fun t126 => (if t126 = true then (some (bt117.2 == bt121.2)) else (some false))) else (some false))))) = some r := by rw [if_neg (show ¬ (false = true) by decide)] at H; exact H
        clear H
        have H := H1
        clear H1
        replace H := Option.bind_eq_some_iff.mp H
        obtain ⟨⟨t117, t118⟩, A110, H⟩ := H
        replace H : ((merkhetref18_Starts.f kj2 l0 l1).bind fun bt121 => ((merkhetlaw18_fixed.f kj2).bind fun t125 => (if t125 = true then ((merkhetref15_Same.f kj2 t117 bt121.1).bind fun t126 => (if t126 = true then (some (t118 == bt121.2)) else (some false))) else (some false)))) = some r := H
        have A11 := Aside0.mk A110
        clear A110
        replace H := Option.bind_eq_some_iff.mp H
        obtain ⟨⟨t121, t122⟩, A120, H⟩ := H
        replace H : ((merkhetlaw18_fixed.f kj2).bind fun t125 => (if t125 = true then ((merkhetref15_Same.f kj2 t117 t121).bind fun t126 => (if t126 = true then (some (t118 == t122)) else (some false))) else (some false))) = some r := H
        have A12 := Aside0.mk A120
        clear A120
        replace H := Option.bind_eq_some_iff.mp H
        obtain ⟨t125, A130, H⟩ := H
        replace H : (if t125 = true then ((merkhetref15_Same.f kj2 t117 t121).bind fun t126 => (if t126 = true then (some (t118 == t122)) else (some false))) else (some false)) = some r := H
        have A13 := Aside0.mk A130
        clear A130
        by_cases c14 : t125 = true
        · subst c14
          have H1 : ((merkhetref15_Same.f kj2 t117 t121).bind fun t126 => (if t126 = true then (some (t118 == t122)) else (some false))) = some r := by rw [if_pos rfl] at H; exact H
          clear H
          have H := H1
          clear H1
          replace H := Option.bind_eq_some_iff.mp H
          obtain ⟨t126, A150, H⟩ := H
          replace H : (if t126 = true then (some (t118 == t122)) else (some false)) = some r := H
          have A15 := Aside0.mk A150
          clear A150
          by_cases c16 : t126 = true
          · subst c16
            have H1 : (some (t118 == t122)) = some r := by rw [if_pos rfl] at H; exact H
            clear H
            have H := H1
            clear H1
            obtain rfl := Option.some.inj H
            go_wp2_with (first | ((with_reducible refine gate_callee (f := 24) rfl ?_); refine goesL_ (some 20) rfl rfl Try.func24 (by kernel_rfl) rfl #[.slice A0 l0.length c0, .slice A1 l1.length c1] rfl (by (try simp only [List.map_toArray, List.map_cons, List.map_nil]); first | done | rfl | (simp only [List.length_drop, List.length_take]; rfl)) ?_; (with_reducible refine (shift_Starts.calls _ _ l0 _ _ l1 t117 t118 _ ?side1 ?side2 ?side3 ?side4 A11.out).mono ?_); (case side1 => repeat (first | exact (Kd.C_below HR0.out HB.out) | (with_reducible refine Kd.C_alloc ?_ _) | (with_reducible refine Kd.C_drewN ?_ _) | (with_reducible refine Kd.C_drew ?_))); (case side2 => exact HC0.out); (case side3 => repeat (first | exact (Kd.C_below HR1.out HB.out) | (with_reducible refine Kd.C_alloc ?_ _) | (with_reducible refine Kd.C_drewN ?_ _) | (with_reducible refine Kd.C_drew ?_))); (case side4 => exact HC1.out); rintro e w17 ⟨v119, rfl, ho0, hb⟩; refine ⟨_, rfl, ?_⟩; have n0_ := Aside0.mk (Kd.R_lower ho0 (below_size (by repeat (first | (with_reducible first | exact HB.out | apply below_alloc | apply pw_below_drewN | apply below_drew1) | exact HB.out)))); have n1_ := Aside0.mk (below_step (by repeat (first | (with_reducible first | exact HB.out | apply below_alloc | apply pw_below_drewN | apply below_drew1) | exact HB.out)) hb); clear HB; have HO120 := n0_; have HB := n1_; clear n0_ n1_; (try clear hb); (try clear hb2); (try clear hk); (try clear hi); (try clear ho0)) | ((with_reducible refine gate_callee (f := 25) rfl ?_); refine goesL_ (some 26) rfl rfl Try.func25 (by kernel_rfl) rfl #[.slice A0 l0.length c0, .slice A1 l1.length c1] rfl (by (try simp only [List.map_toArray, List.map_cons, List.map_nil]); first | done | rfl | (simp only [List.length_drop, List.length_take]; rfl)) ?_; (with_reducible refine (merkhetref18_Starts.calls kj2 _ _ l0 _ _ l1 t121 t122 _ ?side1 ?side2 ?side3 ?side4 A12.out).mono ?_); (case side1 => repeat (first | exact (Kd.C_below HR0.out HB.out) | (with_reducible refine Kd.C_alloc ?_ _) | (with_reducible refine Kd.C_drewN ?_ _) | (with_reducible refine Kd.C_drew ?_))); (case side2 => exact HC0.out); (case side3 => repeat (first | exact (Kd.C_below HR1.out HB.out) | (with_reducible refine Kd.C_alloc ?_ _) | (with_reducible refine Kd.C_drewN ?_ _) | (with_reducible refine Kd.C_drew ?_))); (case side4 => exact HC1.out); rintro e w18 ⟨v123, rfl, ho0, hb⟩; refine ⟨_, rfl, ?_⟩; have n0_ := Aside0.mk (Kd.R_elder' (by (with_reducible repeat (first | apply Kd.R_alloc | apply Kd.R_drewN | apply Kd.R_drew)); exact HO120.out) (Kd.R_base ho0) hb); have n1_ := Aside0.mk (Kd.R_lower (Kd.R_new' ho0 (Kd.R_lt (by (with_reducible repeat (first | apply Kd.R_alloc | apply Kd.R_drewN | apply Kd.R_drew)); exact HO120.out))) (below_size (by repeat (first | (with_reducible first | exact HB.out | apply below_alloc | apply pw_below_drewN | apply below_drew1) | exact HB.out)))); have n2_ := Aside0.mk (below_step (by repeat (first | (with_reducible first | exact HB.out | apply below_alloc | apply pw_below_drewN | apply below_drew1) | exact HB.out)) hb); clear HO120; clear HB; have HO120 := n0_; have HO124 := n1_; have HB := n2_; clear n0_ n1_ n2_; (try clear hb); (try clear hb2); (try clear hk); (try clear hi); (try clear ho0)) | ((with_reducible refine gate_callee (f := 23) rfl ?_); refine goesL_ (some 29) rfl rfl Try.func23 (by kernel_rfl) rfl #[] rfl (by (try simp only [List.map_toArray, List.map_cons, List.map_nil]); first | done | rfl | (simp only [List.length_drop, List.length_take]; rfl)) ?_; (with_reducible refine (merkhetlaw18_fixed.calls kj2  true _ A13.out).mono ?_); rintro e w19 ⟨rfl, hb⟩; refine ⟨_, rfl, ?_⟩; have n0_ := Aside0.mk (Kd.R_below (by (with_reducible repeat (first | apply Kd.R_alloc | apply Kd.R_drewN | apply Kd.R_drew)); exact HO120.out) hb); have n1_ := Aside0.mk (Kd.R_below (by (with_reducible repeat (first | apply Kd.R_alloc | apply Kd.R_drewN | apply Kd.R_drew)); exact HO124.out) hb); have n2_ := Aside0.mk (below_step (by repeat (first | (with_reducible first | exact HB.out | apply below_alloc | apply pw_below_drewN | apply below_drew1) | exact HB.out)) hb); clear HO120; clear HO124; clear HB; have HO120 := n0_; have HO124 := n1_; have HB := n2_; clear n0_ n1_ n2_; (try clear hb); (try clear hb2); (try clear hk); (try clear hi); obtain ⟨Ao20, co20, eo20⟩ := Kd.R_slice HO120.out; subst eo20; obtain ⟨Ao21, co21, eo21⟩ := Kd.R_slice HO124.out; subst eo21) | (go_at_call 26; (with_reducible refine (merkhetref15_Same.calls kj2 _ _ t117 _ _ t121 true _ ?side1 ?side2 ?side3 ?side4 A15.out).mono ?_); (case side1 => repeat (first | exact (Kd.R_reads' HO120.out).2.2 | (with_reducible refine Kd.C_alloc ?_ _) | (with_reducible refine Kd.C_drewN ?_ _) | (with_reducible refine Kd.C_drew ?_))); (case side2 => exact (Kd.R_reads' HO120.out).2.1); (case side3 => repeat (first | exact (Kd.R_reads' HO124.out).2.2 | (with_reducible refine Kd.C_alloc ?_ _) | (with_reducible refine Kd.C_drewN ?_ _) | (with_reducible refine Kd.C_drew ?_))); (case side4 => exact (Kd.R_reads' HO124.out).2.1); rintro e w' ⟨rfl, ⟨nd, rfl⟩⟩))
            go_ret
            exact ⟨by first | rfl | (simp [errW_none, errW_some] <;> rfl) | (simp [*, errW_none, errW_some] <;> rfl), by repeat (first | (with_reducible first | exact HB.out | apply below_alloc | apply pw_below_drewN | apply below_drew1) | exact HB.out)⟩
          · replace c16 := Bool.eq_false_iff.mpr c16
            subst c16
            have H1 : (some false) = some r := by rw [if_neg (show ¬ (false = true) by decide)] at H; exact H
            clear H
            have H := H1
            clear H1
            obtain rfl := Option.some.inj H
            go_wp2_with (first | ((with_reducible refine gate_callee (f := 24) rfl ?_); refine goesL_ (some 20) rfl rfl Try.func24 (by kernel_rfl) rfl #[.slice A0 l0.length c0, .slice A1 l1.length c1] rfl (by (try simp only [List.map_toArray, List.map_cons, List.map_nil]); first | done | rfl | (simp only [List.length_drop, List.length_take]; rfl)) ?_; (with_reducible refine (shift_Starts.calls _ _ l0 _ _ l1 t117 t118 _ ?side1 ?side2 ?side3 ?side4 A11.out).mono ?_); (case side1 => repeat (first | exact (Kd.C_below HR0.out HB.out) | (with_reducible refine Kd.C_alloc ?_ _) | (with_reducible refine Kd.C_drewN ?_ _) | (with_reducible refine Kd.C_drew ?_))); (case side2 => exact HC0.out); (case side3 => repeat (first | exact (Kd.C_below HR1.out HB.out) | (with_reducible refine Kd.C_alloc ?_ _) | (with_reducible refine Kd.C_drewN ?_ _) | (with_reducible refine Kd.C_drew ?_))); (case side4 => exact HC1.out); rintro e w22 ⟨v119, rfl, ho0, hb⟩; refine ⟨_, rfl, ?_⟩; have n0_ := Aside0.mk (Kd.R_lower ho0 (below_size (by repeat (first | (with_reducible first | exact HB.out | apply below_alloc | apply pw_below_drewN | apply below_drew1) | exact HB.out)))); have n1_ := Aside0.mk (below_step (by repeat (first | (with_reducible first | exact HB.out | apply below_alloc | apply pw_below_drewN | apply below_drew1) | exact HB.out)) hb); clear HB; have HO120 := n0_; have HB := n1_; clear n0_ n1_; (try clear hb); (try clear hb2); (try clear hk); (try clear hi); (try clear ho0)) | ((with_reducible refine gate_callee (f := 25) rfl ?_); refine goesL_ (some 26) rfl rfl Try.func25 (by kernel_rfl) rfl #[.slice A0 l0.length c0, .slice A1 l1.length c1] rfl (by (try simp only [List.map_toArray, List.map_cons, List.map_nil]); first | done | rfl | (simp only [List.length_drop, List.length_take]; rfl)) ?_; (with_reducible refine (merkhetref18_Starts.calls kj2 _ _ l0 _ _ l1 t121 t122 _ ?side1 ?side2 ?side3 ?side4 A12.out).mono ?_); (case side1 => repeat (first | exact (Kd.C_below HR0.out HB.out) | (with_reducible refine Kd.C_alloc ?_ _) | (with_reducible refine Kd.C_drewN ?_ _) | (with_reducible refine Kd.C_drew ?_))); (case side2 => exact HC0.out); (case side3 => repeat (first | exact (Kd.C_below HR1.out HB.out) | (with_reducible refine Kd.C_alloc ?_ _) | (with_reducible refine Kd.C_drewN ?_ _) | (with_reducible refine Kd.C_drew ?_))); (case side4 => exact HC1.out); rintro e w23 ⟨v123, rfl, ho0, hb⟩; refine ⟨_, rfl, ?_⟩; have n0_ := Aside0.mk (Kd.R_elder' (by (with_reducible repeat (first | apply Kd.R_alloc | apply Kd.R_drewN | apply Kd.R_drew)); exact HO120.out) (Kd.R_base ho0) hb); have n1_ := Aside0.mk (Kd.R_lower (Kd.R_new' ho0 (Kd.R_lt (by (with_reducible repeat (first | apply Kd.R_alloc | apply Kd.R_drewN | apply Kd.R_drew)); exact HO120.out))) (below_size (by repeat (first | (with_reducible first | exact HB.out | apply below_alloc | apply pw_below_drewN | apply below_drew1) | exact HB.out)))); have n2_ := Aside0.mk (below_step (by repeat (first | (with_reducible first | exact HB.out | apply below_alloc | apply pw_below_drewN | apply below_drew1) | exact HB.out)) hb); clear HO120; clear HB; have HO120 := n0_; have HO124 := n1_; have HB := n2_; clear n0_ n1_ n2_; (try clear hb); (try clear hb2); (try clear hk); (try clear hi); (try clear ho0)) | ((with_reducible refine gate_callee (f := 23) rfl ?_); refine goesL_ (some 29) rfl rfl Try.func23 (by kernel_rfl) rfl #[] rfl (by (try simp only [List.map_toArray, List.map_cons, List.map_nil]); first | done | rfl | (simp only [List.length_drop, List.length_take]; rfl)) ?_; (with_reducible refine (merkhetlaw18_fixed.calls kj2  true _ A13.out).mono ?_); rintro e w24 ⟨rfl, hb⟩; refine ⟨_, rfl, ?_⟩; have n0_ := Aside0.mk (Kd.R_below (by (with_reducible repeat (first | apply Kd.R_alloc | apply Kd.R_drewN | apply Kd.R_drew)); exact HO120.out) hb); have n1_ := Aside0.mk (Kd.R_below (by (with_reducible repeat (first | apply Kd.R_alloc | apply Kd.R_drewN | apply Kd.R_drew)); exact HO124.out) hb); have n2_ := Aside0.mk (below_step (by repeat (first | (with_reducible first | exact HB.out | apply below_alloc | apply pw_below_drewN | apply below_drew1) | exact HB.out)) hb); clear HO120; clear HO124; clear HB; have HO120 := n0_; have HO124 := n1_; have HB := n2_; clear n0_ n1_ n2_; (try clear hb); (try clear hb2); (try clear hk); (try clear hi); obtain ⟨Ao25, co25, eo25⟩ := Kd.R_slice HO120.out; subst eo25; obtain ⟨Ao26, co26, eo26⟩ := Kd.R_slice HO124.out; subst eo26) | (go_at_call 26; (with_reducible refine (merkhetref15_Same.calls kj2 _ _ t117 _ _ t121 false _ ?side1 ?side2 ?side3 ?side4 A15.out).mono ?_); (case side1 => repeat (first | exact (Kd.R_reads' HO120.out).2.2 | (with_reducible refine Kd.C_alloc ?_ _) | (with_reducible refine Kd.C_drewN ?_ _) | (with_reducible refine Kd.C_drew ?_))); (case side2 => exact (Kd.R_reads' HO120.out).2.1); (case side3 => repeat (first | exact (Kd.R_reads' HO124.out).2.2 | (with_reducible refine Kd.C_alloc ?_ _) | (with_reducible refine Kd.C_drewN ?_ _) | (with_reducible refine Kd.C_drew ?_))); (case side4 => exact (Kd.R_reads' HO124.out).2.1); rintro e w' ⟨rfl, ⟨nd, rfl⟩⟩))
            go_ret
            exact ⟨by first | rfl | (simp [errW_none, errW_some] <;> rfl) | (simp [*, errW_none, errW_some] <;> rfl), by repeat (first | (with_reducible first | exact HB.out | apply below_alloc | apply pw_below_drewN | apply below_drew1) | exact HB.out)⟩
        · replace c14 := Bool.eq_false_iff.mpr c14
          subst c14
          have H1 : (some false) = some r := by rw [if_neg (show ¬ (false = true) by decide)] at H; exact H
          clear H
          have H := H1
          clear H1
          obtain rfl := Option.some.inj H
          go_wp2_with (first | ((with_reducible refine gate_callee (f := 24) rfl ?_); refine goesL_ (some 20) rfl rfl Try.func24 (by kernel_rfl) rfl #[.slice A0 l0.length c0, .slice A1 l1.length c1] rfl (by (try simp only [List.map_toArray, List.map_cons, List.map_nil]); first | done | rfl | (simp only [List.length_drop, List.length_take]; rfl)) ?_; (with_reducible refine (shift_Starts.calls _ _ l0 _ _ l1 t117 t118 _ ?side1 ?side2 ?side3 ?side4 A11.out).mono ?_); (case side1 => repeat (first | exact (Kd.C_below HR0.out HB.out) | (with_reducible refine Kd.C_alloc ?_ _) | (with_reducible refine Kd.C_drewN ?_ _) | (with_reducible refine Kd.C_drew ?_))); (case side2 => exact HC0.out); (case side3 => repeat (first | exact (Kd.C_below HR1.out HB.out) | (with_reducible refine Kd.C_alloc ?_ _) | (with_reducible refine Kd.C_drewN ?_ _) | (with_reducible refine Kd.C_drew ?_))); (case side4 => exact HC1.out); rintro e w27 ⟨v119, rfl, ho0, hb⟩; refine ⟨_, rfl, ?_⟩; have n0_ := Aside0.mk (Kd.R_lower ho0 (below_size (by repeat (first | (with_reducible first | exact HB.out | apply below_alloc | apply pw_below_drewN | apply below_drew1) | exact HB.out)))); have n1_ := Aside0.mk (below_step (by repeat (first | (with_reducible first | exact HB.out | apply below_alloc | apply pw_below_drewN | apply below_drew1) | exact HB.out)) hb); clear HB; have HO120 := n0_; have HB := n1_; clear n0_ n1_; (try clear hb); (try clear hb2); (try clear hk); (try clear hi); (try clear ho0)) | ((with_reducible refine gate_callee (f := 25) rfl ?_); refine goesL_ (some 26) rfl rfl Try.func25 (by kernel_rfl) rfl #[.slice A0 l0.length c0, .slice A1 l1.length c1] rfl (by (try simp only [List.map_toArray, List.map_cons, List.map_nil]); first | done | rfl | (simp only [List.length_drop, List.length_take]; rfl)) ?_; (with_reducible refine (merkhetref18_Starts.calls kj2 _ _ l0 _ _ l1 t121 t122 _ ?side1 ?side2 ?side3 ?side4 A12.out).mono ?_); (case side1 => repeat (first | exact (Kd.C_below HR0.out HB.out) | (with_reducible refine Kd.C_alloc ?_ _) | (with_reducible refine Kd.C_drewN ?_ _) | (with_reducible refine Kd.C_drew ?_))); (case side2 => exact HC0.out); (case side3 => repeat (first | exact (Kd.C_below HR1.out HB.out) | (with_reducible refine Kd.C_alloc ?_ _) | (with_reducible refine Kd.C_drewN ?_ _) | (with_reducible refine Kd.C_drew ?_))); (case side4 => exact HC1.out); rintro e w28 ⟨v123, rfl, ho0, hb⟩; refine ⟨_, rfl, ?_⟩; have n0_ := Aside0.mk (Kd.R_elder' (by (with_reducible repeat (first | apply Kd.R_alloc | apply Kd.R_drewN | apply Kd.R_drew)); exact HO120.out) (Kd.R_base ho0) hb); have n1_ := Aside0.mk (Kd.R_lower (Kd.R_new' ho0 (Kd.R_lt (by (with_reducible repeat (first | apply Kd.R_alloc | apply Kd.R_drewN | apply Kd.R_drew)); exact HO120.out))) (below_size (by repeat (first | (with_reducible first | exact HB.out | apply below_alloc | apply pw_below_drewN | apply below_drew1) | exact HB.out)))); have n2_ := Aside0.mk (below_step (by repeat (first | (with_reducible first | exact HB.out | apply below_alloc | apply pw_below_drewN | apply below_drew1) | exact HB.out)) hb); clear HO120; clear HB; have HO120 := n0_; have HO124 := n1_; have HB := n2_; clear n0_ n1_ n2_; (try clear hb); (try clear hb2); (try clear hk); (try clear hi); (try clear ho0)) | ((with_reducible refine gate_callee (f := 23) rfl ?_); refine goesL_ (some 29) rfl rfl Try.func23 (by kernel_rfl) rfl #[] rfl (by (try simp only [List.map_toArray, List.map_cons, List.map_nil]); first | done | rfl | (simp only [List.length_drop, List.length_take]; rfl)) ?_; (with_reducible refine (merkhetlaw18_fixed.calls kj2  false _ A13.out).mono ?_); rintro e w29 ⟨rfl, hb⟩; refine ⟨_, rfl, ?_⟩; have n0_ := Aside0.mk (Kd.R_below (by (with_reducible repeat (first | apply Kd.R_alloc | apply Kd.R_drewN | apply Kd.R_drew)); exact HO120.out) hb); have n1_ := Aside0.mk (Kd.R_below (by (with_reducible repeat (first | apply Kd.R_alloc | apply Kd.R_drewN | apply Kd.R_drew)); exact HO124.out) hb); have n2_ := Aside0.mk (below_step (by repeat (first | (with_reducible first | exact HB.out | apply below_alloc | apply pw_below_drewN | apply below_drew1) | exact HB.out)) hb); clear HO120; clear HO124; clear HB; have HO120 := n0_; have HO124 := n1_; have HB := n2_; clear n0_ n1_ n2_; (try clear hb); (try clear hb2); (try clear hk); (try clear hi)))
          go_ret
          exact ⟨by first | rfl | (simp [errW_none, errW_some] <;> rfl) | (simp [*, errW_none, errW_some] <;> rfl), by repeat (first | (with_reducible first | exact HB.out | apply below_alloc | apply pw_below_drewN | apply below_drew1) | exact HB.out)⟩

end Go.Proofs.Ytjgpggjjgimibaa.T

-- Written by wip/tools/row.py, a program of this session. Lean checks it.
namespace Go.Proofs.Ytjgpggjjgimibaa.T
open Go.RowKit Go.Proofs.YtjgpggjjgimibaaW.PrintWords Go.Proofs.YtjgpggjjgimibaaW.Open Go.Proofs.Ytjgpggjjgimibaa.Q
set_option linter.unusedVariables false

end Go.Proofs.Ytjgpggjjgimibaa.T

/- What the document's order of texts comes to, as plain Lean. -/
namespace Go.Proofs.Ytjgpggjjgimibaa.L
open Go.RowKit Go.Proofs.Ytjgpggjjgimibaa.Q Go.Proofs.YtjgpggjjgimibaaW.PrintWords Go.Proofs.YtjgpggjjgimibaaW.PrintLast Go.Proofs.YtjgpggjjgimibaaW.PrintMore Go.Proofs.YtjgpggjjgimibaaW.Lib
set_option linter.unusedVariables false

abbrev Span := S42
theorem rdS_nat (l : List Span) (i : Nat) (h : i < l.length) : rd_T42 l (i : Int) = l[i] := by simp [rd_T42, List.getD, h]
theorem data_drop (s : ByteArray) (i : Nat) (h : i < s.size) : ∃ x : UInt8, s.data.toList.drop i = x :: s.data.toList.drop (i + 1) ∧ (x.toNat : Int) = bt s (i : Int) := by
  have h' : i < s.data.toList.length := by simpa using h
  refine ⟨s.data.toList[i], List.drop_eq_getElem_cons h', ?_⟩
  rw [← bt_at s (i : Int) (by simpa using h)]
  simp [ByteArray.getElem_eq_getElem_data]
theorem text_l0 (a b : ByteArray) (ha : a.size ≤ 140737488351232) (hb : b.size ≤ 140737488351232) : ∀ (d i : Nat), a.size - i = d → i ≤ a.size → i ≤ b.size →
    Ev (fun k => merkhetref01_Text.l0 k a b (i : Int)) (Go.Lib.compareBytes (a.data.toList.drop i) (b.data.toList.drop i)) := by
  have stop : ∀ i : Nat, i ≤ a.size → i ≤ b.size → ¬ (i < a.size ∧ i < b.size) → (if (a.size : Int) < (b.size : Int) then (-1 : Int) else if (a.size : Int) > (b.size : Int) then 1 else 0) = Go.Lib.compareBytes (a.data.toList.drop i) (b.data.toList.drop i) := by
    intro i h1 h2 h3
    by_cases e1 : i < a.size
    · obtain ⟨x, hx, _⟩ := data_drop a i e1
      rw [hx, List.drop_of_length_le (l := b.data.toList) (by simp; omega), if_neg (by omega), if_pos (by omega)]; rfl
    · by_cases e2 : i < b.size
      · obtain ⟨x, hx, _⟩ := data_drop b i e2
        rw [hx, List.drop_of_length_le (l := a.data.toList) (by simp; omega), if_pos (by omega)]; rfl
      · rw [List.drop_of_length_le (l := a.data.toList) (by simp; omega), List.drop_of_length_le (l := b.data.toList) (by simp; omega), if_neg (by omega), if_neg (by omega)]; rfl
  have fin : ∀ i : Nat, i ≤ a.size → i ≤ b.size → ¬ (i < a.size ∧ i < b.size) → Ev (fun k => merkhetref01_Text.j1 k a b (i : Int) false) (Go.Lib.compareBytes (a.data.toList.drop i) (b.data.toList.drop i)) := by
    intro i h1 h2 h3
    refine Ev.step (f := fun _ => if (a.size : Int) < (b.size : Int) then some (-1) else if (a.size : Int) > (b.size : Int) then some 1 else some 0) (fun k => by simp [merkhetref01_Text.j1]) ?_
    rw [← stop i h1 h2 h3]
    refine Ev.ite (fun e => ?_) (fun e => ?_)
    · rw [if_pos e]; exact Ev.now _
    · rw [if_neg e]
      refine Ev.ite (fun e => ?_) (fun e => ?_)
      · rw [if_pos e]; exact Ev.now _
      · rw [if_neg e]; exact Ev.now _
  intro d
  induction d with
  | zero =>
    intro i hd h1 h2
    refine Ev.step (f := fun k => merkhetref01_Text.j1 k a b (i : Int) false) (fun k => by simp only [merkhetref01_Text.l0]; rw [if_neg (by omega)]) (fin i h1 h2 (by omega))
  | succ d ih =>
    intro i hd h1 h2
    refine Ev.step (f := fun k => merkhetref01_Text.j1 k a b (i : Int) (decide ((i : Int) < (b.size : Int)))) (fun k => by simp only [merkhetref01_Text.l0]; rw [if_pos (by omega)]) ?_
    by_cases e : i < b.size
    · rw [decide_eq_true (by omega : (i : Int) < (b.size : Int))]
      obtain ⟨x, hx, ex⟩ := data_drop a i (by omega)
      obtain ⟨y, hy, ey⟩ := data_drop b i e
      refine Ev.step (f := fun k => if bt a (i : Int) < bt b (i : Int) then some (-1) else if bt a (i : Int) > bt b (i : Int) then some 1 else merkhetref01_Text.l0 k a b ((i + 1 : Nat) : Int)) (fun k => ?_) ?_
      · simp only [merkhetref01_Text.j1]
        rw [if_pos trivial, if_pos (by omega), if_pos (by omega), if_pos (by omega), wrap_id (by omega) (by omega)]; rfl
      · rw [hx, hy]
        simp only [Go.Lib.compareBytes, UInt8.lt_iff_toNat_lt]
        refine Ev.ite (fun e1 => ?_) (fun e1 => ?_)
        · rw [if_pos (by omega)]; exact Ev.now _
        · rw [if_neg (by omega)]
          refine Ev.ite (fun e2 => ?_) (fun e2 => ?_)
          · rw [if_pos (by omega)]; exact Ev.now _
          · rw [if_neg (by omega)]; exact ih (i + 1) (by omega) (by omega) (by omega)
    · rw [decide_eq_false (by omega : ¬ (i : Int) < (b.size : Int))]
      exact fin i h1 h2 (by omega)
theorem text_ev (a b : ByteArray) (ha : a.size ≤ 140737488351232) (hb : b.size ≤ 140737488351232) : Ev (fun k => merkhetref01_Text.f k a b) (cmpB a b) := by
  have := text_l0 a b ha hb a.size 0 (by omega) (by omega) (by omega)
  simpa [merkhetref01_Text.f, cmpB] using this
end Go.Proofs.Ytjgpggjjgimibaa.L

/- The document's hosts, as plain lists. -/
namespace Go.Proofs.Ytjgpggjjgimibaa.L
open Go.RowKit Go.Proofs.Ytjgpggjjgimibaa.Q Go.Proofs.YtjgpggjjgimibaaW.PrintWords Go.Proofs.YtjgpggjjgimibaaW.PrintLast Go.Proofs.YtjgpggjjgimibaaW.PrintMore Go.Proofs.YtjgpggjjgimibaaW.Lib
set_option linter.unusedVariables false

/-- The place of a text; -1. -/
def placeZ (l : List ByteArray) (s : ByteArray) : Int := if numB l s < l.length then (numB l s : Int) else -1
theorem numB_cons (x : ByteArray) (l : List ByteArray) (s : ByteArray) : numB (x :: l) s = if x = s then 0 else numB l s + 1 := by
  unfold numB
  rw [List.findIdx_cons]
  by_cases h : x = s
  · simp [h]
  · simp [h]
theorem text_eq {s t : ByteArray} : s.toList = t.toList ↔ s = t := by
  rw [toList_data, toList_data]
  constructor
  · intro h
    cases s; cases t
    simp_all
  · rintro rfl; rfl
theorem place_ev (l : List ByteArray) (s : ByteArray) (hl : l.length ≤ 1000000000) : Ev (fun k => merkhetref09_Place.f k l s) (placeZ l s) := by
  have key : ∀ (d i : Nat), l.length - i = d → i ≤ l.length → Ev (fun k => merkhetref09_Place.l0 k l s (i : Int)) (if numB (l.drop i) s < (l.drop i).length then ((i + numB (l.drop i) s : Nat) : Int) else -1) := by
    intro d
    induction d with
    | zero =>
      intro i hd hi
      rw [List.drop_of_length_le (by omega), if_neg (by simp)]
      refine Ev.succ ?_
      simp only [merkhetref09_Place.l0]
      exact Ev.neg (by omega) (Ev.now _)
    | succ d ih =>
      intro i hd hi
      have hil : i < l.length := by omega
      have hr : rdOf ByteArray.empty l (i : Int) = l[i] := by simp [rdOf, List.getD, hil]
      refine Ev.succ ?_
      simp only [merkhetref09_Place.l0, hr]
      refine Ev.pos (by omega) (Ev.pos (by omega) ?_)
      rw [List.drop_eq_getElem_cons hil, numB_cons, List.length_cons]
      refine Ev.ite (fun h => ?_) (fun h => ?_)
      · rw [if_pos (text_eq.1 h), if_pos (by omega)]
        exact Ev.cast (Ev.now _) (by simp)
      · rw [if_neg (fun h2 => h (text_eq.2 h2)), wrap_id (by omega) (by omega)]
        have h1 := ih (i + 1) (by omega) (by omega)
        refine Ev.cast h1 ?_
        by_cases h3 : numB (l.drop (i + 1)) s < (l.drop (i + 1)).length
        · rw [if_pos h3, if_pos (by omega)]; congr 1; omega
        · rw [if_neg h3, if_neg (by omega)]
  have := key l.length 0 (by omega) (by omega)
  unfold merkhetref09_Place.f placeZ
  simpa using this

theorem placeZ_mem (l : List ByteArray) (s : ByteArray) : 0 ≤ placeZ l s ↔ s ∈ l := by
  unfold placeZ
  constructor
  · intro h
    by_cases h2 : numB l s < l.length
    · have := List.findIdx_getElem (p := fun h => decide (h = s)) (w := h2)
      have h3 : l[numB l s] = s := of_decide_eq_true this
      rw [← h3]; exact List.getElem_mem _
    · rw [if_neg h2] at h; omega
  · intro h
    rw [if_pos (numB_lt h)]; omega
theorem hostsB_fold (l : List Span) : (l.map (·.f4)).foldl (insH cmpB) [] = hostsB l := by
  obtain ⟨h1, h2, _⟩ := foldH cmpB_is (l.map (·.f4)) [] List.Pairwise.nil
  refine h1.one cmpB_is (hostsB_rise l) fun x => ?_
  rw [h2, hostsB_mem, List.mem_map]
  simp
theorem rhosts_ev (x : List Span) (hx : x.length ≤ 1000000) (hw : ∀ s ∈ x, s.f4.size ≤ 140737488351232) : Ev (fun k => merkhetref09_Hosts.f k x) (hostsB x) := by
  have key : ∀ (d i : Nat), x.length - i = d → i ≤ x.length → ∀ a : List ByteArray, a.length ≤ i → (∀ s ∈ a, s.size ≤ 140737488351232) → Ev (fun k => merkhetref09_Hosts.l0 k x a (i : Int)) (((x.drop i).map (·.f4)).foldl (insH cmpB) a) := by
    intro d
    induction d with
    | zero =>
      intro i hd hi a ha _
      refine Ev.succ ?_
      simp only [merkhetref09_Hosts.l0]
      rw [List.drop_of_length_le (by omega)]
      exact Ev.neg (by omega) (Ev.now _)
    | succ d ih =>
      intro i hd hi a ha haw
      have hix : i < x.length := by omega
      have ws := hw x[i] (List.getElem_mem hix)
      rw [List.drop_eq_getElem_cons hix, List.map_cons, List.foldl_cons]
      have hins : (insH cmpB a x[i].f4).length ≤ i + 1 := by have := insH_length (c := cmpB) a x[i].f4; omega
      have hinw : ∀ s ∈ insH cmpB a x[i].f4, s.size ≤ 140737488351232 := by
        intro s hs
        rcases (insH_mem a x[i].f4 s).1 hs with hs | rfl
        · exact haw s hs
        · exact ws
      have next := ih (i + 1) (by omega) (by omega) _ hins hinw
      generalize hres : ((x.drop (i + 1)).map (·.f4)).foldl (insH cmpB) (insH cmpB a x[i].f4) = res at next
      refine Ev.succ ?_
      simp only [merkhetref09_Hosts.l0, rdS_nat x i hix]
      refine Ev.pos (by omega) (Ev.pos (by omega) (Ev.bind (place_ev a x[i].f4 (by omega)) (Ev.ite (fun h => ?_) (fun h => ?_))))
      · have hm := (placeZ_mem a x[i].f4).1 h
        have hst : insH cmpB a x[i].f4 = a := by unfold insH; rw [if_pos hm]
        rw [hst] at next
        rw [wrap_id (by omega) (by omega)]
        exact next
      · have hm : x[i].f4 ∉ a := fun h2 => h ((placeZ_mem a x[i].f4).2 h2)
        have hst : insH cmpB a x[i].f4 = a.take (posG cmpB a x[i].f4 a.length) ++ x[i].f4 :: a.drop (posG cmpB a x[i].f4 a.length) := by unfold insH; rw [if_neg hm]
        rw [hst] at next
        have fin : ∀ j : Nat, j ≤ a.length → posG cmpB a x[i].f4 a.length = j → Ev (fun k => if 0 ≤ (j : Int) then (if (j : Int) ≤ (a.length : Int) then ((some (a.drop (j : Int).toNat : List ByteArray)).bind fun y227 => (if ([] : List ByteArray).length + y227.length < 8796093022208 then ((some (([] : List ByteArray) ++ y227 : List ByteArray)).bind fun y231 => ((some (a.take (j : Int).toNat : List ByteArray)).bind fun y234 => (if y234.length < 8796093022208 then ((some (y234 ++ [x[i].f4] : List ByteArray)).bind fun y238 => (if y238.length + y231.length < 8796093022208 then (merkhetref09_Hosts.l0 k x (y238 ++ y231) (wrap64 ((i : Int) + 1))) else (none))) else (none)))) else (none))) else (none)) else (none)) res := by
          intro j hj hp
          rw [hp] at next
          refine Ev.pos (by omega) (Ev.pos (by omega) ?_)
          simp only [Option.bind_some, Int.toNat_natCast]
          refine Ev.pos (by simp; omega) (Ev.pos (by simp; omega) (Ev.pos (by simp; omega) ?_))
          rw [wrap_id (by omega) (by omega)]
          refine Ev.congr (fun k => ?_) next
          simp
        have inner : ∀ j : Nat, j ≤ a.length → posG cmpB a x[i].f4 a.length = posG cmpB a x[i].f4 j → Ev (fun k => merkhetref09_Hosts.l1 k x a (i : Int) (j : Int)) res := by
          intro j
          induction j with
          | zero =>
            intro hj hp
            refine Ev.succ ?_
            simp only [merkhetref09_Hosts.l1, rdS_nat x i hix]
            refine Ev.neg (by omega) ?_
            simp only [Option.bind_some]
            have := fin 0 (by omega) (by rw [hp]; rfl)
            simp only [Option.bind_some] at this
            refine Ev.congr (fun k => ?_) this
            simp only [show (0 : Int) ≤ (i : Int) by omega, show (i : Int) < (x.length : Int) by omega, if_true]
          | succ j ihj =>
            intro hj hp
            have hja : j < a.length := by omega
            have hr : rdOf ByteArray.empty a (j : Int) = a[j] := by simp [rdOf, List.getD, hja]
            have hg : a.getD j x[i].f4 = a[j] := by simp [List.getD, hja]
            refine Ev.succ ?_
            simp only [merkhetref09_Hosts.l1]
            refine Ev.pos (by omega) ?_
            rw [wrap_id (by omega) (by omega), show ((j + 1 : Nat) : Int) - 1 = (j : Int) by omega]
            refine Ev.pos (by omega) (Ev.pos (by omega) (Ev.pos (by omega) (Ev.pos (by omega) ?_)))
            simp only [rdS_nat x i hix, hr]
            refine Ev.bind (text_ev a[j] x[i].f4 (haw _ (List.getElem_mem _)) ws) (Ev.ite (fun e => ?_) (fun e => ?_))
            · exact ihj (by omega) (by rw [hp, posG_succ, hg, if_pos e])
            · simp only [Option.bind_some]
              have := fin (j + 1) (by omega) (by rw [hp, posG_succ, hg, if_neg e])
              simp only [Option.bind_some] at this
              exact this
        exact inner a.length (Nat.le_refl _) rfl
  have := key x.length 0 (by omega) (by omega) [] (by simp) (by simp)
  rw [List.drop_zero, hostsB_fold] at this
  exact this
end Go.Proofs.Ytjgpggjjgimibaa.L

/- The document's starts by offsets, as plain lists. -/
namespace Go.Proofs.Ytjgpggjjgimibaa.L
open Go.RowKit Go.Proofs.Ytjgpggjjgimibaa.Q Go.Proofs.YtjgpggjjgimibaaW.PrintWords Go.Proofs.YtjgpggjjgimibaaW.PrintLast Go.Proofs.YtjgpggjjgimibaaW.PrintMore Go.Proofs.YtjgpggjjgimibaaW.Lib
set_option linter.unusedVariables false

theorem rmay18_ev (l : List S42) (hl : l.length ≤ 1000000000) (hf : ∀ s ∈ l, fitR s) : Ev (fun k => merkhetref18_May.f k l) (mayA l) := by
  unfold merkhetref18_May.f
  have key : ∀ (d i : Nat), l.length - i = d → i ≤ l.length → Ev (fun k => merkhetref18_May.l0 k l (i : Int)) ((l.drop i).all mayS) := by
    intro d
    induction d with
    | zero =>
      intro i hd hi
      refine Ev.succ ?_
      simp only [merkhetref18_May.l0]
      rw [List.drop_of_length_le (by omega)]
      exact Ev.neg (by omega) (Ev.now _)
    | succ d ih =>
      intro i hd hi
      have hlt : i < l.length := by omega
      have hr : rd_T42 l (i : Int) = l[i] := by simp [rd_T42, List.getD, hlt]
      have h1 := ih (i + 1) (by omega) (by omega)
      have h2 := rmayS_ev l[i] (hf _ (List.getElem_mem hlt))
      refine Ev.succ ?_
      simp only [merkhetref18_May.l0, hr]
      rw [List.drop_eq_getElem_cons hlt, List.all_cons]
      refine Ev.pos (by omega) (Ev.pos (by omega) (Ev.bind h2 (Ev.ite (fun h => ?_) (fun h => ?_))))
      · rw [wrap_id (by omega) (by omega)]
        refine Ev.cast h1 ?_
        rw [h]; simp
      · refine Ev.cast (Ev.now _) ?_
        rw [Bool.eq_false_iff.2 h]; simp
  exact key l.length 0 (by omega) (by omega)
theorem same15_ev (a b : List Int) (ha : a.length ≤ 1000000000) : ∃ r, Ev (fun k => merkhetref15_Same.f k a b) r ∧ (r = true ↔ a = b) := by
  unfold merkhetref15_Same.f
  by_cases h : (a.length : Int) = (b.length : Int)
  · have key : ∀ (d i : Nat), a.length - i = d → i ≤ a.length → ∃ r, Ev (fun k => merkhetref15_Same.l0 k a b (i : Int)) r ∧ (r = true ↔ a.drop i = b.drop i) := by
      intro d
      induction d with
      | zero =>
        intro i hd hi
        refine ⟨true, Ev.succ ?_, ?_⟩
        · simp only [merkhetref15_Same.l0]
          exact Ev.neg (by omega) (Ev.now _)
        · rw [List.drop_of_length_le (by omega), List.drop_of_length_le (by omega)]
          simp
      | succ d ih =>
        intro i hd hi
        have hil : i < a.length := by omega
        have hib : i < b.length := by omega
        have hr : rd a (i : Int) = a[i] := by simp [rd, List.getD, hil]
        have hr2 : rd b (i : Int) = b[i] := by simp [rd, List.getD, hib]
        obtain ⟨r, h1, h2⟩ := ih (i + 1) (by omega) (by omega)
        have ea := List.drop_eq_getElem_cons hil
        have eb := List.drop_eq_getElem_cons hib
        by_cases e : a[i] = b[i]
        · refine ⟨r, Ev.succ ?_, ?_⟩
          · simp only [merkhetref15_Same.l0, hr, hr2]
            refine Ev.pos (by omega) (Ev.pos (by omega) (Ev.pos (by omega) (Ev.pos e ?_)))
            rw [wrap_id (by omega) (by omega)]
            exact h1
          · rw [h2, ea, eb, List.cons.injEq]
            exact ⟨fun h => ⟨e, h⟩, fun h => h.2⟩
        · refine ⟨false, Ev.succ ?_, ?_⟩
          · simp only [merkhetref15_Same.l0, hr, hr2]
            exact Ev.pos (by omega) (Ev.pos (by omega) (Ev.pos (by omega) (Ev.neg e (Ev.now _))))
          · rw [ea, eb, List.cons.injEq]
            exact ⟨fun h => absurd h (by simp), fun h => absurd h.1 e⟩
    obtain ⟨r, h1, h2⟩ := key a.length 0 (by omega) (by omega)
    exact ⟨r, Ev.pos h h1, by simpa using h2⟩
  · refine ⟨false, Ev.neg h (Ev.now _), ⟨by simp, ?_⟩⟩
    rintro rfl
    exact absurd rfl h
theorem same15_self (a : List Int) (ha : a.length ≤ 1000000000) : Ev (fun k => merkhetref15_Same.f k a a) true := by
  obtain ⟨r, h1, h2⟩ := same15_ev a a ha
  exact Ev.cast h1 (h2.2 rfl)
theorem numS_lt {l : List S42} {s : S42} (hs : s ∈ l) : numB (hostsB l) s.f4 < (hostsB l).length :=
  List.findIdx_lt_length_of_exists ⟨s.f4, (hostsB_mem l _).2 ⟨s, hs, rfl⟩, by simp⟩
theorem rstarts_ev (l : List S42) (offs : List Int) (hl : l.length ≤ 1000000) (ho : offs.length ≤ 1000000) (hf : ∀ s ∈ l, fitR s) : Ev (fun k => merkhetref18_Starts.f k l offs) (startsB l offs) := by
  unfold merkhetref18_Starts.f
  have hhl := hostsB_length l
  have skip : startsB l offs = ([], false) → Ev (fun k => merkhetref18_Starts.j0 k l offs (hostsB l) true) (startsB l offs) := by
    intro h
    rw [h]
    refine Ev.succ ?_
    simp only [merkhetref18_Starts.j0]
    exact Ev.pos trivial (Ev.now _)
  refine Ev.bind (rhosts_ev l hl (fun s hs => (hf s hs).1.2.1)) (Ev.bind (rmay18_ev l (by omega) hf) (Ev.ite (fun hm => ?_) (fun hm => skip ?_)))
  rotate_left
  · unfold startsB; rw [if_neg (fun h => hm h.1)]
  by_cases he : offs.length = (hostsB l).length
  rotate_left
  · rw [show ((((hostsB l).length : Nat) : Int) != ((offs.length : Nat) : Int)) = true from by rw [bne_iff_ne]; omega]
    refine skip ?_
    unfold startsB; rw [if_neg (fun h => he h.2.1)]
  rw [show ((((hostsB l).length : Nat) : Int) != ((offs.length : Nat) : Int)) = false from by rw [he]; simp]
  refine Ev.succ ?_
  simp only [merkhetref18_Starts.j0]
  refine Ev.neg (by simp) ?_
  have two : offs.any beyondB = false → ∀ (d i : Nat), l.length - i = d → i ≤ l.length → Ev (fun k => merkhetref18_Starts.l1 k l offs (hostsB l) ((startsL l offs).take i) (i : Int)) (startsB l offs) := by
    intro hb d
    have hsl : (startsL l offs).length = l.length := by simp [startsL]
    induction d with
    | zero =>
      intro i hd hi
      refine Ev.succ ?_
      simp only [merkhetref18_Starts.l1]
      refine Ev.neg (by omega) (Ev.cast (Ev.now _) ?_)
      rw [List.take_of_length_le (by omega)]
      unfold startsB; rw [if_pos ⟨hm, he, hb⟩]
    | succ d ih =>
      intro i hd hi
      have hlt : i < l.length := by omega
      have hr : rd_T42 l (i : Int) = l[i] := by simp [rd_T42, List.getD, hlt]
      have h1 := ih (i + 1) (by omega) (by omega)
      have hnb := numS_lt (List.getElem_mem hlt)
      have hpz : placeZ (hostsB l) l[i].f4 = (numB (hostsB l) l[i].f4 : Int) := by unfold placeZ; rw [if_pos hnb]
      have hp := place_ev (hostsB l) l[i].f4 (by omega)
      rw [hpz] at hp
      have hrn : rd (numsL l) (i : Int) = (numB (hostsB l) l[i].f4 : Int) := by simp [rd, List.getD, numsL, hlt]
      have hnext : (startsL l offs).take (i + 1) = (startsL l offs).take i ++ [wrap64 (l[i].f6 + rd offs (numB (hostsB l) l[i].f4 : Int))] := by
        rw [List.take_succ_eq_append_getElem (by omega)]
        have : (startsL l offs)[i]'(by omega) = startAt offs (numsL l) (rd_T42 l (i : Int)) i := by simp [startsL]
        rw [this, hr]
        unfold startAt
        rw [hrn]
      rw [hnext] at h1
      refine Ev.succ ?_
      simp only [merkhetref18_Starts.l1, hr]
      refine Ev.pos (by omega) (Ev.pos (by omega) (Ev.bind hp (Ev.pos (by omega) (Ev.pos (by omega) (Ev.pos ?_ ?_)))))
      · rw [List.length_take]; omega
      · rw [wrap_id (i := (i : Int) + 1) (by omega) (by omega)]
        exact h1
  have one : ∀ (d i : Nat), offs.length - i = d → i ≤ offs.length → (offs.take i).any beyondB = false → Ev (fun k => merkhetref18_Starts.l0 k l offs (hostsB l) (i : Int)) (startsB l offs) := by
    intro d
    induction d with
    | zero =>
      intro i hd hi hb
      rw [List.take_of_length_le (by omega)] at hb
      refine Ev.succ ?_
      simp only [merkhetref18_Starts.l0]
      exact Ev.neg (by omega) (two hb l.length 0 (by omega) (by omega))
    | succ d ih =>
      intro i hd hi hb
      have hlt : i < offs.length := by omega
      have hr : rd offs (i : Int) = offs[i] := by simp [rd, List.getD, hlt]
      have bad : beyondB offs[i] = true → startsB l offs = ([], false) := by
        intro h
        unfold startsB
        rw [if_neg]
        intro h2
        have := List.any_eq_false.1 h2.2.2 offs[i] (List.getElem_mem hlt)
        exact this h
      refine Ev.succ ?_
      simp only [merkhetref18_Starts.l0, hr]
      refine Ev.pos (by omega) (Ev.pos (by omega) (Ev.ite (fun c1 => ?_) (fun c1 => Ev.ite (fun c2 => ?_) (fun c2 => ?_))))
      · rw [bad (by unfold beyondB; rw [decide_eq_true (show 288230376151711744 < offs[i] from c1)]; rfl)]; exact Ev.now _
      · rw [bad (by unfold beyondB; rw [decide_eq_true c2]; simp)]; exact Ev.now _
      · rw [wrap_id (by omega) (by omega)]
        refine ih (i + 1) (by omega) (by omega) ?_
        rw [List.take_succ_eq_append_getElem hlt, List.any_append, hb, Bool.false_or, List.any_cons, List.any_nil, Bool.or_false]
        unfold beyondB
        rw [decide_eq_false (by omega), decide_eq_false (by omega)]; rfl
  exact one offs.length 0 (by omega) (by omega) (by simp)
end Go.Proofs.Ytjgpggjjgimibaa.L

/- The guard of layer 4, as plain lists. -/
namespace Go.Proofs.Ytjgpggjjgimibaa.L
open Go.RowKit Go.Proofs.Ytjgpggjjgimibaa.Q Go.Proofs.YtjgpggjjgimibaaW.PrintWords Go.Proofs.YtjgpggjjgimibaaW.PrintLast Go.Proofs.YtjgpggjjgimibaaW.PrintMore Go.Proofs.YtjgpggjjgimibaaW.Lib
set_option linter.unusedVariables false

theorem great_ev (l : List Span) : ∃ b, Ev (fun k => merkhetlaw04_Great.f k l) b ∧ (b = false → l.length ≤ 60 ∧ ∀ x ∈ l, x.f4.size ≤ 100 ∧ x.f5.size ≤ 100) := by
  unfold merkhetlaw04_Great.f
  by_cases h : (l.length : Int) > 60
  · exact ⟨true, Ev.pos h (Ev.now _), by simp⟩
  · have key : ∀ (d i : Nat), l.length - i = d → i ≤ l.length → ∃ b, Ev (fun k => merkhetlaw04_Great.l0 k l (l.length : Int) (i : Int)) b ∧ (b = false → ∀ x ∈ l.drop i, x.f4.size ≤ 100 ∧ x.f5.size ≤ 100) := by
      intro d
      induction d with
      | zero =>
        intro i hd hi
        refine ⟨false, Ev.succ ?_, fun _ x hx => ?_⟩
        · simp only [merkhetlaw04_Great.l0]
          exact Ev.neg (by omega) (Ev.now _)
        · rw [List.drop_of_length_le (by omega)] at hx; cases hx
      | succ d ih =>
        intro i hd hi
        have hil : i < l.length := by omega
        obtain ⟨b, hb, hb2⟩ := ih (i + 1) (by omega) (by omega)
        by_cases h4 : ((l[i].f4.size : Nat) : Int) > 100
        · refine ⟨true, Ev.succ ?_, by simp⟩
          simp only [merkhetlaw04_Great.l0, rdS_nat l i hil]
          exact Ev.pos (by omega) (Ev.pos (by omega) (Ev.pos (by omega) (Ev.pos h4 (Ev.now _))))
        · by_cases h5 : ((l[i].f5.size : Nat) : Int) > 100
          · refine ⟨true, Ev.succ ?_, by simp⟩
            simp only [merkhetlaw04_Great.l0, rdS_nat l i hil]
            exact Ev.pos (by omega) (Ev.pos (by omega) (Ev.pos (by omega) (Ev.neg h4 (Ev.pos h5 (Ev.now _)))))
          · refine ⟨b, Ev.succ ?_, fun e x hx => ?_⟩
            · simp only [merkhetlaw04_Great.l0, rdS_nat l i hil]
              refine Ev.pos (by omega) (Ev.pos (by omega) (Ev.pos (by omega) (Ev.neg h4 (Ev.neg h5 ?_))))
              rw [wrap_id (by omega) (by omega)]
              exact hb
            · rw [List.drop_eq_getElem_cons hil] at hx
              rcases List.mem_cons.1 hx with rfl | hx
              · omega
              · exact hb2 e x hx
    obtain ⟨b, hb, hb2⟩ := key l.length 0 (by omega) (by omega)
    refine ⟨b, Ev.neg h hb, fun e => ⟨by omega, fun x hx => hb2 e x (by simpa using hx)⟩⟩

end Go.Proofs.Ytjgpggjjgimibaa.L

/- bound.Of: the walk. -/
namespace Go.Proofs.Ytjgpggjjgimibaa.L
open Go.RowKit Go.Proofs.Ytjgpggjjgimibaa.Q Go.Proofs.YtjgpggjjgimibaaW.PrintWords Go.Proofs.YtjgpggjjgimibaaW.PrintLast Go.Proofs.YtjgpggjjgimibaaW.PrintMore Go.Proofs.YtjgpggjjgimibaaW.MapB Go.Proofs.YtjgpggjjgimibaaW.Lib
set_option linter.unusedVariables false
set_option linter.unusedSimpArgs false
end Go.Proofs.Ytjgpggjjgimibaa.L

/- The chapter's example for bound.Of, plain. -/
namespace Go.Proofs.Ytjgpggjjgimibaa.L
open Go.RowKit Go.Proofs.Ytjgpggjjgimibaa.Q Go.Proofs.YtjgpggjjgimibaaW.PrintWords Go.Proofs.YtjgpggjjgimibaaW.PrintLast Go.Proofs.YtjgpggjjgimibaaW.PrintMore Go.Proofs.YtjgpggjjgimibaaW.MapB Go.Proofs.YtjgpggjjgimibaaW.Lib
set_option linter.unusedVariables false
theorem hostsB_fold' (l : List S42) : (l.map (·.f4)).foldl (insH cmpB) [] = hostsB l := by
  obtain ⟨h1, h2, _⟩ := foldH cmpB_is (l.map (·.f4)) [] List.Pairwise.nil
  refine h1.one cmpB_is (hostsB_rise l) fun x => ?_
  rw [h2, hostsB_mem, List.mem_map]
  simp
end Go.Proofs.Ytjgpggjjgimibaa.L

/- ShiftStarts, the plain part: starts by offsets are the document's. -/
namespace Go.Proofs.Ytjgpggjjgimibaa.Pure
set_option linter.unusedVariables false
open Go.RowKit Go.Proofs.Ytjgpggjjgimibaa.Q Go.Proofs.Ytjgpggjjgimibaa.T Go.Proofs.YtjgpggjjgimibaaW.PrintWords Go.Proofs.YtjgpggjjgimibaaW.PrintLast Go.Proofs.YtjgpggjjgimibaaW.PrintMore Go.Proofs.YtjgpggjjgimibaaW.Lib Go.Proofs.Ytjgpggjjgimibaa.L

theorem fit_wf {s : S42} (h : wf42 s) : fitR s := by
  refine ⟨⟨h.2.1, h.2.2.2.2.1, h.2.2.2.2.2.1⟩, ?_⟩
  have := h.2.2.2.1
  simp [Lit.wf, IntKind.min, IntKind.max, IntKind.signed, IntKind.bits] at this
  exact this.1
def exS : S42 := ⟨1, 1, 0, 0, ⟨#[97]⟩, ⟨#[98]⟩, 5, 0⟩
theorem exS_starts : startsB [exS] [-3] = ([2], true) := by
  have hh : hostsB [exS] = [⟨#[97]⟩] := by
    rw [← hostsB_fold']
    kernel_rfl
  have hn : numsL [exS] = [0] := by
    unfold numsL
    rw [hh]
    kernel_rfl
  unfold startsB
  rw [if_pos ⟨(by kernel_rfl : mayA [exS] = true), by rw [hh]; rfl, by decide⟩]
  have e : startsL [exS] [-3] = [2] := by
    unfold startsL
    rw [hn]
    kernel_rfl
  rw [e]
theorem fixed18 : Ev (fun k => merkhetlaw18_fixed.f k) true := by
  unfold merkhetlaw18_fixed.f shift_Starts.f
  rw [if_pos ⟨by intro x hx; simp only [List.mem_cons, List.not_mem_nil, or_false] at hx; rcases hx with rfl; exact ⟨by decide, by decide, by decide⟩, by decide, by decide⟩]
  rw [show startsB [(⟨1, 1, 0, 0, ⟨#[97]⟩, ⟨#[98]⟩, 5, 0⟩ : S42)] [-3] = ([2], true) from exS_starts]
  exact Ev.bind (Ev.now _) (Ev.pos rfl (Ev.bind (same15_self _ (by decide)) (Ev.now _)))
theorem ShiftStarts (l0 : List (S42)) (l1 : List (Int)) (w0 : (l0.length ≤ maxLen ∧ l0.length * 80 ≤ reachBytes ∧ ∀ x ∈ l0, wf42 x)) (w1 : (l1.length ≤ maxLen ∧ l1.length * 8 ≤ reachBytes ∧ ∀ x ∈ l1, (Lit.int .i64 x).wf = true)) : ∃ k, merkhetlaw18_ShiftStarts.f k l0 l1 = some true := by
  obtain ⟨_, _, hw⟩ := w0
  refine Ev.rounds (g := fun k => merkhetlaw18_ShiftStarts.f k l0 l1) ?_
  unfold merkhetlaw18_ShiftStarts.f
  have hfr : ∀ s ∈ l0, fitR s := fun s hs => fit_wf (hw s hs)
  have hf : ∀ s ∈ l0, fitS s := fun s hs => (hfr s hs).1
  have skip : Ev (fun k => merkhetlaw18_ShiftStarts.j0 k l0 l1 true) true := by
    refine Ev.succ ?_
    simp only [merkhetlaw18_ShiftStarts.j0]
    exact Ev.pos trivial (Ev.bind fixed18 (Ev.now _))
  obtain ⟨b, hb, hb2⟩ := great_ev l0
  refine Ev.bind hb (Ev.ite (fun h => skip) (fun h => ?_))
  obtain ⟨h60, _⟩ := hb2 (by simpa using h)
  by_cases h2 : (l1.length : Int) > 60
  · rw [decide_eq_true h2]; exact skip
  rw [decide_eq_false h2]
  refine Ev.succ ?_
  simp only [merkhetlaw18_ShiftStarts.j0]
  have hsl : (startsB l0 l1).1.length ≤ 60 := by
    unfold startsB startsL
    split
    · simpa using h60
    · simp
  refine Ev.neg (by simp) (Ev.bind (a := startsB l0 l1) (Ev.const ?_) (Ev.bind (rstarts_ev l0 l1 (by omega) (by omega) hfr) (Ev.bind fixed18 (Ev.pos rfl (Ev.bind (same15_self _ (by omega)) (Ev.pos rfl (Ev.cast (Ev.now _) (by simp))))))))
  unfold shift_Starts.f; rw [if_pos ⟨hf, by omega, by omega⟩]
end Go.Proofs.Ytjgpggjjgimibaa.Pure

