-- Written by wip/tools/gp.py, a program of this session round the kit's printer. Lean checks it.
import Derived.Test.YtkpmaenhkjfncaaMx0
import Derived.Test.YtkpmaenhkjfncaaQx7
namespace Go.Proofs.Ytkpmaenhkjfncaa.M
open Go.RowKit Go.Proofs.Ytkpmaenhkjfncaa.Q Go.Proofs.YtkpmaenhkjfncaaW.PrintWords Go.Proofs.YtkpmaenhkjfncaaW.PrintLast Go.Proofs.YtkpmaenhkjfncaaW.PrintMore
attribute [local go_sem] max2_int min2_int max_two min_two max_three min_three max_four min_four   -- for this text's walks alone
set_option linter.unusedVariables false
set_option linter.unusedSimpArgs false

/-! ### hosts_Of: function 19 (given) -/
def hosts_Of.f (l0 : List S27) : Option (List Int) := if l0.length ≤ 1759218604441 ∧ (∀ x ∈ l0, L.fitS x) then some (L.numsL l0) else none
theorem hosts_Of.calls (A0 : Option Addr) (c0 : Nat) (l0 : List (S27)) (r : List Int) (w : World) (hr0 : Kd.C k27 w A0 l0.length l0) (hc0 : l0.length ≤ c0) (h : hosts_Of.f l0 = some r) :
    Calls Try.prog 19 #[.slice A0 l0.length c0] w fun e w' => ∃ v0_ : Value, e = .returned (v0_) ∧ Kd.R (Kd.int .i64) 3 w' w.heap.size (fun _ => True) v0_ r ∧ Below w.heap.size w w' := by
  unfold hosts_Of.f at h
  split at h
  · rename_i hl
    obtain rfl := Option.some.inj h
    exact L.nums_calls l0 hl.1 hl.2 A0 c0 w hr0 hc0
  · exact absurd h (by simp)

/-! ### merkhetlaw13_fixed: function 13 -/
def merkhetlaw13_fixed.f (k : Nat)  : Option (Bool) := (hosts_Of.f (([(⟨0, 0, 0, 0, (⟨#[98]⟩ : ByteArray), (⟨#[]⟩ : ByteArray), 0, 0⟩ : S27), (⟨0, 0, 0, 0, (⟨#[97]⟩ : ByteArray), (⟨#[]⟩ : ByteArray), 0, 0⟩ : S27), (⟨0, 0, 0, 0, (⟨#[98]⟩ : ByteArray), (⟨#[]⟩ : ByteArray), 0, 0⟩ : S27)] : List (S27)))).bind fun t104 => ((merkhetref10_Same.f k t104 (([1, 0, 1] : List Int))).bind fun t110 => (some t110))
theorem merkhetlaw13_fixed.mono : ∀ k, LeO (merkhetlaw13_fixed.f k ) (merkhetlaw13_fixed.f (k + 1) ) := by
  intro  k
  unfold merkhetlaw13_fixed.f
  repeat' first
      | (with_reducible exact merkhetref10_Same.mono _ _ _)
      | (with_reducible exact LeO.refl _)
      | (with_reducible exact LeO.none _)
      | (with_reducible refine LeO.ite ?_ ?_)
      | (with_reducible refine LeO.bind ?_ (fun _ => ?_))
      | exact merkhetref10_Same.mono _ _ _
      | exact LeO.none _
      | refine LeO.ite ?_ ?_
      | refine LeO.bind ?_ (fun _ => ?_)
set_option maxHeartbeats 8000000 in
set_option maxRecDepth 100000 in
theorem merkhetlaw13_fixed.calls (k : Nat)  (r : Bool) (w : World) (h : merkhetlaw13_fixed.f k  = some r) :
    Calls Try.prog 13 #[] w fun e w' => e = .returned (.bool r) ∧ Below w.heap.size w w' := by
  have hu27 := Try.underlying27
  have HB := Aside0.mk (Below.refl w.heap.size w)
  have H : ((hosts_Of.f (([(⟨0, 0, 0, 0, (⟨#[98]⟩ : ByteArray), (⟨#[]⟩ : ByteArray), 0, 0⟩ : S27), (⟨0, 0, 0, 0, (⟨#[97]⟩ : ByteArray), (⟨#[]⟩ : ByteArray), 0, 0⟩ : S27), (⟨0, 0, 0, 0, (⟨#[98]⟩ : ByteArray), (⟨#[]⟩ : ByteArray), 0, 0⟩ : S27)] : List (S27)))).bind fun t104 => ((merkhetref10_Same.f k t104 (([1, 0, 1] : List Int))).bind fun t110 => (some t110))) = some r := h
  clear h
  obtain ⟨y101, hy101⟩ : ∃ y_ : List (S27), y_ = (([(⟨0, 0, 0, 0, (⟨#[98]⟩ : ByteArray), (⟨#[]⟩ : ByteArray), 0, 0⟩ : S27), (⟨0, 0, 0, 0, (⟨#[97]⟩ : ByteArray), (⟨#[]⟩ : ByteArray), 0, 0⟩ : S27), (⟨0, 0, 0, 0, (⟨#[98]⟩ : ByteArray), (⟨#[]⟩ : ByteArray), 0, 0⟩ : S27)] : List (S27))) := ⟨_, rfl⟩
  replace H : ((hosts_Of.f y101).bind fun t104 => ((merkhetref10_Same.f k t104 (([1, 0, 1] : List Int))).bind fun t110 => (some t110))) = some r := by first | (rw [hy101]; with_reducible exact H) | (have H2_ := (Option.bind_some _ _).symm.trans H; rw [hy101]; with_reducible exact H2_) | (have H2_ := (Option.bind_some _ _).symm.trans H; with_reducible exact H2_) | with_reducible exact H | (rw [hy101]; exact H) | exact H
  have Ny101 := Aside0.mk hy101
  clear hy101
  replace H := Option.bind_eq_some_iff.mp H
  obtain ⟨t104, A10, H⟩ := H
  replace H : ((merkhetref10_Same.f k t104 (([1, 0, 1] : List Int))).bind fun t110 => (some t110)) = some r := H
  have A1 := Aside0.mk A10
  clear A10
  obtain ⟨y107, hy107⟩ : ∃ y_ : List Int, y_ = (([1, 0, 1] : List Int)) := ⟨_, rfl⟩
  replace H : ((merkhetref10_Same.f k t104 y107).bind fun t110 => (some t110)) = some r := by first | (rw [hy107]; with_reducible exact H) | (have H2_ := (Option.bind_some _ _).symm.trans H; rw [hy107]; with_reducible exact H2_) | (have H2_ := (Option.bind_some _ _).symm.trans H; with_reducible exact H2_) | with_reducible exact H | (rw [hy107]; exact H) | exact H
  have Ny107 := Aside0.mk hy107
  clear hy107
  replace H := Option.bind_eq_some_iff.mp H
  obtain ⟨t110, A20, H⟩ := H
  replace H : (some t110) = some r := H
  have A2 := Aside0.mk A20
  clear A20
  obtain rfl := Option.some.inj H
  go_enter Try.func13, Try.ntmps13
  go_wp2_with (first | ((with_reducible refine gate_dst (N := 4) rfl ?_); refine Kd.R_lit k27 _ 27 ?hg (N := 4) ?hd (xs := ([(⟨0, 0, 0, 0, (⟨#[98]⟩ : ByteArray), (⟨#[]⟩ : ByteArray), 0, 0⟩ : S27), (⟨0, 0, 0, 0, (⟨#[97]⟩ : ByteArray), (⟨#[]⟩ : ByteArray), 0, 0⟩ : S27), (⟨0, 0, 0, 0, (⟨#[98]⟩ : ByteArray), (⟨#[]⟩ : ByteArray), 0, 0⟩ : S27)] : List (S27))) (inner := [.int .u64 0, .int .u64 0, .int .u64 0, .int .u8 0, .string (⟨#[98]⟩ : ByteArray), .string (⟨#[]⟩ : ByteArray), .int .i64 0, .int .i64 0, .int .u64 0, .int .u64 0, .int .u64 0, .int .u8 0, .string (⟨#[97]⟩ : ByteArray), .string (⟨#[]⟩ : ByteArray), .int .i64 0, .int .i64 0, .int .u64 0, .int .u64 0, .int .u64 0, .int .u8 0, .string (⟨#[98]⟩ : ByteArray), .string (⟨#[]⟩ : ByteArray), .int .i64 0, .int .i64 0]) (ok := fun _ => True) (okp := fun _ => True) ?hr ?hp (fun _ hk => hk) trivial (Below.refl _ _) (Nat.le_refl _) (by simp) ?_; (case hd => rfl); (case hg => rfl); (case hr => first | (go_simp; done) | (go_simp; rfl)); (case hp => exact (Reps.c8 (show Kd.M k27 _ _ _ (⟨0, 0, 0, 0, (⟨#[98]⟩ : ByteArray), (⟨#[]⟩ : ByteArray), 0, 0⟩ : S27) [.int .u64 0, .int .u64 0, .int .u64 0, .int .u8 0, .string (⟨#[98]⟩ : ByteArray), .string (⟨#[]⟩ : ByteArray), .int .i64 0, .int .i64 0] from (k27_mkM _ _ _ (⟨0, 0, 0, 0, (⟨#[98]⟩ : ByteArray), (⟨#[]⟩ : ByteArray), 0, 0⟩ : S27) )) (Reps.c8 (show Kd.M k27 _ _ _ (⟨0, 0, 0, 0, (⟨#[97]⟩ : ByteArray), (⟨#[]⟩ : ByteArray), 0, 0⟩ : S27) [.int .u64 0, .int .u64 0, .int .u64 0, .int .u8 0, .string (⟨#[97]⟩ : ByteArray), .string (⟨#[]⟩ : ByteArray), .int .i64 0, .int .i64 0] from (k27_mkM _ _ _ (⟨0, 0, 0, 0, (⟨#[97]⟩ : ByteArray), (⟨#[]⟩ : ByteArray), 0, 0⟩ : S27) )) (Reps.c8 (show Kd.M k27 _ _ _ (⟨0, 0, 0, 0, (⟨#[98]⟩ : ByteArray), (⟨#[]⟩ : ByteArray), 0, 0⟩ : S27) [.int .u64 0, .int .u64 0, .int .u64 0, .int .u8 0, .string (⟨#[98]⟩ : ByteArray), .string (⟨#[]⟩ : ByteArray), .int .i64 0, .int .i64 0] from (k27_mkM _ _ _ (⟨0, 0, 0, 0, (⟨#[98]⟩ : ByteArray), (⟨#[]⟩ : ByteArray), 0, 0⟩ : S27) )) (Reps.none _ _))))); intro v102 w3 ho4 hb hg_ hnew_; clear hg_ hnew_; (first | rw [← Ny101.out] at ho4 | (simp only [Int.reduceToNat] at ho4; rw [← Ny101.out] at ho4)); have n0_ := Aside0.mk (Kd.R_lower ho4 (below_size (by repeat (first | (with_reducible first | exact HB.out | apply below_alloc | apply pw_below_drewN | apply below_drew1) | exact HB.out)))); have n1_ := Aside0.mk (below_step (by repeat (first | (with_reducible first | exact HB.out | apply below_alloc | apply pw_below_drewN | apply below_drew1) | exact HB.out)) hb); clear HB; have HO103 := n0_; have HB := n1_; clear n0_ n1_; clear hb ho4; obtain ⟨Ao5, co5, eo5⟩ := Kd.R_slice HO103.out; subst eo5) | ((with_reducible refine gate_callee (f := 19) rfl ?_); refine goesL_ (some 5) rfl rfl Try.func19 (by kernel_rfl) rfl #[.slice Ao5 y101.length co5] rfl (by (try simp only [List.map_toArray, List.map_cons, List.map_nil]); first | done | rfl | (simp only [List.length_drop, List.length_take]; rfl)) ?_; (with_reducible refine (hosts_Of.calls _ _ y101 t104 _ ?side1 ?side2 A1.out).mono ?_); (case side1 => repeat (first | exact (Kd.R_reads' HO103.out).2.2 | (with_reducible refine Kd.C_alloc ?_ _) | (with_reducible refine Kd.C_drewN ?_ _) | (with_reducible refine Kd.C_drew ?_))); (case side2 => exact (Kd.R_reads' HO103.out).2.1); rintro e w6 ⟨v105, rfl, ho0, hb⟩; refine ⟨_, rfl, ?_⟩; have n0_ := Aside0.mk (Kd.R_below (by (with_reducible repeat (first | apply Kd.R_alloc | apply Kd.R_drewN | apply Kd.R_drew)); exact HO103.out) hb); have n1_ := Aside0.mk (Kd.R_lower ho0 (below_size (by repeat (first | (with_reducible first | exact HB.out | apply below_alloc | apply pw_below_drewN | apply below_drew1) | exact HB.out)))); have n2_ := Aside0.mk (below_step (by repeat (first | (with_reducible first | exact HB.out | apply below_alloc | apply pw_below_drewN | apply below_drew1) | exact HB.out)) hb); clear HO103; clear HB; have HO103 := n0_; have HO106 := n1_; have HB := n2_; clear n0_ n1_ n2_; (try clear hb); (try clear hb2); (try clear hk); (try clear hi); (try clear ho0)) | ((with_reducible refine gate_dst (N := 6) rfl ?_); refine Kd.R_lit (Kd.int .i64) _ 3 ?hg (N := 6) ?hd (xs := ([1, 0, 1] : List Int)) (inner := [.int .i64 1, .int .i64 0, .int .i64 1]) (ok := fun _ => True) (okp := fun _ => True) ?hr ?hp (fun _ hk => hk) trivial (Below.refl _ _) (Nat.le_refl _) (by simp) ?_; (case hd => rfl); (case hg => rfl); (case hr => first | (go_simp; done) | (go_simp; rfl)); (case hp => exact (Reps.one (show Kd.M (Kd.int .i64) _ _ _ 1 [.int .i64 1] from rfl) (Reps.one (show Kd.M (Kd.int .i64) _ _ _ 0 [.int .i64 0] from rfl) (Reps.one (show Kd.M (Kd.int .i64) _ _ _ 1 [.int .i64 1] from rfl) (Reps.none _ _))))); intro v108 w7 ho8 hb hg_ hnew_; clear hg_ hnew_; (first | rw [← Ny107.out] at ho8 | (simp only [Int.reduceToNat] at ho8; rw [← Ny107.out] at ho8)); have n0_ := Aside0.mk (Kd.R_below (by (with_reducible repeat (first | apply Kd.R_alloc | apply Kd.R_drewN | apply Kd.R_drew)); exact HO103.out) hb); have n1_ := Aside0.mk (Kd.R_elder' (by (with_reducible repeat (first | apply Kd.R_alloc | apply Kd.R_drewN | apply Kd.R_drew)); exact HO106.out) (Kd.R_base ho8) hb); have n2_ := Aside0.mk (Kd.R_lower (Kd.R_new' ho8 (Kd.R_lt (by (with_reducible repeat (first | apply Kd.R_alloc | apply Kd.R_drewN | apply Kd.R_drew)); exact HO106.out))) (below_size (by repeat (first | (with_reducible first | exact HB.out | apply below_alloc | apply pw_below_drewN | apply below_drew1) | exact HB.out)))); have n3_ := Aside0.mk (below_step (by repeat (first | (with_reducible first | exact HB.out | apply below_alloc | apply pw_below_drewN | apply below_drew1) | exact HB.out)) hb); clear HO103; clear HO106; clear HB; have HO103 := n0_; have HO106 := n1_; have HO109 := n2_; have HB := n3_; clear n0_ n1_ n2_ n3_; clear hb ho8; obtain ⟨Ao9, co9, eo9⟩ := Kd.R_slice HO106.out; subst eo9; obtain ⟨Ao10, co10, eo10⟩ := Kd.R_slice HO109.out; subst eo10) | ((with_reducible refine gate_callee (f := 18) rfl ?_); refine goesL_ (some 7) rfl rfl Try.func18 (by kernel_rfl) rfl #[.slice Ao9 t104.length co9, .slice Ao10 y107.length co10] rfl (by (try simp only [List.map_toArray, List.map_cons, List.map_nil]); first | done | rfl | (simp only [List.length_drop, List.length_take]; rfl)) ?_; (with_reducible refine (merkhetref10_Same.calls k _ _ t104 _ _ y107 t110 _ ?side1 ?side2 ?side3 ?side4 A2.out).mono ?_); (case side1 => repeat (first | exact (Kd.R_reads' HO106.out).2.2 | (with_reducible refine Kd.C_alloc ?_ _) | (with_reducible refine Kd.C_drewN ?_ _) | (with_reducible refine Kd.C_drew ?_))); (case side2 => exact (Kd.R_reads' HO106.out).2.1); (case side3 => repeat (first | exact (Kd.R_reads' HO109.out).2.2 | (with_reducible refine Kd.C_alloc ?_ _) | (with_reducible refine Kd.C_drewN ?_ _) | (with_reducible refine Kd.C_drew ?_))); (case side4 => exact (Kd.R_reads' HO109.out).2.1); rintro e w' ⟨rfl, ⟨nd, rfl⟩⟩; refine ⟨_, rfl, ?_⟩))
  go_ret
  exact ⟨by first | rfl | (simp [errW_none, errW_some] <;> rfl) | (simp [*, errW_none, errW_some] <;> rfl), by repeat (first | (with_reducible first | exact HB.out | apply below_alloc | apply pw_below_drewN | apply below_drew1) | exact HB.out)⟩

/-! ### hosts_Groups: function 16 (given) -/
def hosts_Groups.f (l0 : List S27) : Option (List (List Int)) := if l0.length ≤ 1759218604441 ∧ (∀ x ∈ l0, L.fitS x) then some (L.groupsL l0) else none
theorem hosts_Groups.calls (A0 : Option Addr) (c0 : Nat) (l0 : List (S27)) (r : List (List Int)) (w : World) (hr0 : Kd.C k27 w A0 l0.length l0) (hc0 : l0.length ≤ c0) (h : hosts_Groups.f l0 = some r) :
    Calls Try.prog 16 #[.slice A0 l0.length c0] w fun e w' => ∃ v0_ : Value, e = .returned (v0_) ∧ Kd.S (Kd.slice 3 (Kd.int .i64)) 34 w' w.heap.size (fun _ => True) v0_ r ∧ Below w.heap.size w w' := by
  unfold hosts_Groups.f at h
  split at h
  · rename_i hl
    obtain rfl := Option.some.inj h
    exact L.groups_calls l0 hl.1 hl.2 A0 c0 w hr0 hc0
  · exact absurd h (by simp)

end Go.Proofs.Ytkpmaenhkjfncaa.M
