/- plane: the example, and the laws of points and turns. -/
import Derived.Test.YtkcnfdffemddlaaPlaneE
import Derived.Deep.RegionHeld3
namespace Go.Proofs.Ytkcnfdffemddlaa.Pl
open Go.RowKit Go.Proofs.YtkcnfdffemddlaaW.PrintWords Go.Proofs.YtkcnfdffemddlaaW.Lib Go.Proofs.YtkcnfdffemddlaaW.Flt
set_option linter.unusedVariables false

set_option maxRecDepth 100000 in
theorem fixed_calls (w : World) : Calls Try.prog 16 #[] w fun e w' => e = .returned (.bool true) ∧ w' = w := by
  have q1 : ∀ w, _ := Point_calls 3 5
  have q2 := Turn_calls (enc 3) (enc 5) 1 (enc_lt _ (by decide)) (enc_lt _ (by decide))
  have q3 := Coords_calls (enc (-5)) (enc 3) (enc_lt _ (by decide)) (enc_lt _ (by decide))
  have e1 : pointV 3 5 = (enc 3, enc 5, true) := pointV_ok (by decide) (by decide)
  have e2 : turnV (enc 3) (enc 5) 1 = (enc (-5), enc 3) := by
    unfold turnV
    rw [ptB_enc _ (by decide), ptB_enc _ (by decide), truncI_V (.inl rfl) (by decide : (3 : Int).natAbs < 2 ^ 52), truncI_V (.inl rfl) (by decide : (5 : Int).natAbs < 2 ^ 52)]
    rw [show quarters 1 = 1 by unfold quarters wrap64; rfl]
    rfl
  have e3 : coordsV (enc (-5)) (enc 3) = (-5, 3, true) := by
    unfold coordsV
    rw [ptB_enc _ (by decide), ptB_enc _ (by decide), truncI_V (.inl rfl) (by decide : (3 : Int).natAbs < 2 ^ 52), truncI_V (.inl rfl) (by decide : (-5 : Int).natAbs < 2 ^ 52)]
    rfl
  rw [e1] at q1
  rw [e2] at q2
  rw [e3] at q3
  have Q1 := Aside0.mk q1
  have Q2 := Aside0.mk q2
  have Q3 := Aside0.mk q3
  clear q1 q2 q3 e1 e2 e3
  generalize enc 3 = a at *
  generalize enc 5 = b at *
  generalize enc (-5) = c at *
  go_enter Try.func16, Try.ntmps16
  go_wp2_with (first
    | (go_at_call 11; refine (Q1.out _).mono ?_; rintro e w' ⟨rfl, rfl⟩)
    | (go_at_call 26; refine (Q2.out _).mono ?_; rintro e w' ⟨rfl, rfl⟩)
    | (go_at_call 13; refine (Q3.out _).mono ?_; rintro e w' ⟨rfl, rfl⟩))
  all_goals (first | (go_ret; exact ⟨rfl, rfl⟩) | trace_state)

theorem alloc2_0 (w : World) (x y : Value) (t : TypeId) : (w.alloc (.cells #[x, y] t)).cell? ⟨w.heap.size, 0, none⟩ = some x := by go_simp
theorem alloc2_1 (w : World) (x y : Value) (t : TypeId) : (w.alloc (.cells #[x, y] t)).cell? ⟨w.heap.size, 1, none⟩ = some y := by go_simp
set_option maxRecDepth 100000 in
theorem PlanePoints_calls (x y : Int) (a b : Nat) (ha : a < 2 ^ 64) (hb : b < 2 ^ 64) (w : World) : Calls Try.prog 3 #[.int .i64 x, .int .i64 y, .agg #[.int .u64 a, .int .u64 b]] w fun e w' => e = .returned (.bool true) ∧ Own w w' := by
  have Q1 := Aside0.mk (Point_calls x y)
  have Q2 := Aside0.mk (rPoint_calls x y)
  have Q3 := Aside0.mk (Coords_calls a b ha hb)
  have Q4 := Aside0.mk (rCoords_calls a b ha hb)
  have Q5 := Aside0.mk (Of_calls a b)
  have Q6 := Aside0.mk (Told_calls)
  have Q7 := Aside0.mk fixed_calls
  rw [rcoords_eq] at Q4
  generalize pointV x y = P at *
  generalize coordsV a b = C at *
  obtain ⟨p1, p2, p3⟩ := P
  obtain ⟨d1, d2, d3⟩ := C
  clear ha hb
  go_enter Try.func3, Try.ntmps3
  go_wp2_with fail
  generalize hW : w.alloc (.cells #[.int .u64 a, .int .u64 b] 24) = W
  have ho : Own w W := hW ▸ ((Own.refl w).alloc _)
  have c0 : W.cell? ⟨w.heap.size, 0, none⟩ = some (.int .u64 a) := by rw [← hW]; clear hW; go_simp
  have c1 : W.cell? ⟨w.heap.size, 1, none⟩ = some (.int .u64 b) := by rw [← hW]; clear hW; go_simp
  have HB := Aside0.mk ho
  obtain ⟨g, hg⟩ : ∃ g, w.heap.size = g := ⟨_, rfl⟩
  have HG := Aside0.mk hg
  rw [hg] at c0 c1 ⊢
  clear hW ho hg
  go_wp2_with (first
    | (go_at_call 11; refine (Q1.out _).mono ?_; rintro e w1 ⟨rfl, rfl⟩)
    | (go_at_call 13; refine (Q3.out _).mono ?_; rintro e w1 ⟨rfl, rfl⟩)
    | (go_at_call 16; refine (Q7.out _).mono ?_; rintro e w1 ⟨rfl, rfl⟩)
    | (go_at_call 12; refine (Q2.out _).mono ?_; rintro e w1 ⟨rfl, hb⟩
       replace c0 := Own.cell hb c0; replace c1 := Own.cell hb c1; replace HB := Aside0.mk (HB.out.trans hb); clear hb
       have z0 := fun o => Own.cell ((Own.refl w1).alloc o) c0; have z1 := fun o => Own.cell ((Own.refl w1).alloc o) c1; obtain ⟨k, hk⟩ : ∃ k, w1.heap.size = k := ⟨_, rfl⟩)
    | (go_at_call 14; refine (Q5.out _).mono ?_; rintro e w1 ⟨rfl, hb⟩
       replace c0 := Own.cell hb (z0 _); replace c1 := Own.cell hb (z1 _); replace HB := Aside0.mk ((HB.out.alloc _).trans hb); have m0 := Own.cell hb (alloc2_0 _ _ _ _); have m1 := Own.cell hb (alloc2_1 _ _ _ _); rw [hk] at m0 m1; clear hb z0 z1)
    | (go_at_call 15; refine (Q4.out _).mono ?_; rintro e w1 ⟨rfl, hb⟩
       replace c0 := Own.cell hb c0; replace c1 := Own.cell hb c1; replace m0 := Own.cell hb m0; replace m1 := Own.cell hb m1; replace HB := Aside0.mk (HB.out.trans hb); clear hb)
    | (go_at_call 17; refine (Q6.out _ _ _).mono ?_; rintro e w1 ⟨rfl, hb⟩
       replace c0 := Own.cell hb c0; replace c1 := Own.cell hb c1; replace m0 := Own.cell hb m0; replace m1 := Own.cell hb m1; replace HB := Aside0.mk (HB.out.trans hb); clear hb))
  rename_i wl
  go_region_held3 (fun w' => Own w w' ∧ w'.cell? ⟨k, 0, none⟩ = some (.int .u64 p1) ∧ w'.cell? ⟨k, 1, none⟩ = some (.int .u64 p2))
    (first | exact ⟨HB.out.drew, m0, m1⟩ | (obtain ⟨h0, h1, h2⟩ := ‹_ ∧ _ ∧ _›; exact ⟨h0.trans hb, Own.cell hb h1, Own.cell hb h2⟩) | assumption)
    (first
      | (go_at_call 16; refine (Q7.out _).mono ?_; rintro e w2 ⟨rfl, rfl⟩)
      | (go_at_call 17; refine (Q6.out _ _ _).mono ?_; rintro e w2 ⟨rfl, hb⟩))
  all_goals
    have HH := Aside0.mk (And.left ‹_ ∧ _ ∧ _›)
    go_wp2_with fail
    go_ret
    exact ⟨rfl, HH.out⟩
end Go.Proofs.Ytkcnfdffemddlaa.Pl
