/- plane: the law of turns and moves. -/
import Derived.Test.YtkcnfdffemddlaaPlaneF
import Derived.Test.YtkcnfdffemddlaaHOpens
namespace Go.Proofs.Ytkcnfdffemddlaa.Pl
open Go.RowKit Go.Proofs.YtkcnfdffemddlaaW.PrintWords Go.Proofs.YtkcnfdffemddlaaW.Lib Go.Proofs.YtkcnfdffemddlaaW.Flt
set_option linter.unusedVariables false

set_option maxRecDepth 100000 in
theorem PlaneTurns_calls (a b c d : Nat) (q : Int) (ha : a < 2 ^ 64) (hb : b < 2 ^ 64) (hc : c < 2 ^ 64) (hd : d < 2 ^ 64) (w : World) : Calls Try.prog 6 #[.agg #[.int .u64 a, .int .u64 b], .agg #[.int .u64 c, .int .u64 d], .int .i64 q] w fun e w' => e = .returned (.bool true) ∧ Own w w' := by
  have Q1 := Aside0.mk (Move_calls a b c d ha hb hc hd)
  have Q2 := Aside0.mk (rMove_calls a b c d ha hb hc hd)
  have Q3 := Aside0.mk (Turn_calls a b q ha hb)
  have Q4 := Aside0.mk (rTurn_calls a b q ha hb)
  have Q5 := Aside0.mk (Of_calls)
  have Q6 := Aside0.mk (Told_calls)
  have Q7 := Aside0.mk fixed_calls
  generalize moveV a b c d = P at *
  generalize turnV a b q = C at *
  obtain ⟨p1, p2, p3⟩ := P
  obtain ⟨d1, d2⟩ := C
  clear ha hb hc hd
  go_enter Try.func6, Try.ntmps6
  go_wp2_with fail
  generalize hW : (w.alloc (.cells #[.int .u64 a, .int .u64 b] 24)).alloc (.cells #[.int .u64 c, .int .u64 d] 24) = W
  have ho : Own w W := hW ▸ ((Own.refl w).alloc _ |>.alloc _)
  have c0 : W.cell? ⟨w.heap.size, 0, none⟩ = some (.int .u64 a) := by rw [← hW]; clear hW; go_simp
  have c1 : W.cell? ⟨w.heap.size, 1, none⟩ = some (.int .u64 b) := by rw [← hW]; clear hW; go_simp
  have c2 : W.cell? ⟨w.heap.size + 1, 0, none⟩ = some (.int .u64 c) := by rw [← hW]; clear hW; go_simp
  have c3 : W.cell? ⟨w.heap.size + 1, 1, none⟩ = some (.int .u64 d) := by rw [← hW]; clear hW; go_simp
  have HB := Aside0.mk ho
  obtain ⟨g, hg⟩ : ∃ g, w.heap.size = g := ⟨_, rfl⟩
  have HG := Aside0.mk hg
  rw [hg] at c0 c1 c2 c3 ⊢
  clear hW ho hg
  go_region_held3 (fun w' => Own w w' ∧ w'.cell? ⟨g, 0, none⟩ = some (.int .u64 a) ∧ w'.cell? ⟨g, 1, none⟩ = some (.int .u64 b) ∧ w'.cell? ⟨g + 1, 0, none⟩ = some (.int .u64 c) ∧ w'.cell? ⟨g + 1, 1, none⟩ = some (.int .u64 d))
    (first | exact ⟨HB.out.drew, c0, c1, c2, c3⟩ | (obtain ⟨h0, h1, h2, h3, h4⟩ := ‹_ ∧ _ ∧ _ ∧ _ ∧ _›; exact ⟨h0.trans hb, Own.cell hb h1, Own.cell hb h2, Own.cell hb h3, Own.cell hb h4⟩) | assumption)
    (first
      | (go_at_call 14; refine (Q5.out _ _ _).mono ?_; rintro e w2 ⟨rfl, hb⟩)
      | (go_at_call 24; refine (Q1.out _).mono ?_; rintro e w2 ⟨rfl, hb'⟩; have hb : Own _ w2 := fun B _ => hb' B; clear hb'))
  rename_i W2 hS
  clear HB c0 c1 c2 c3
  obtain ⟨h0, c0, c1, c2, c3⟩ := hS
  have HB := Aside0.mk h0
  clear h0
  go_wp2_with (first
    | (go_at_call 25; refine (Q2.out _).mono ?_; rintro e w1 ⟨rfl, hb⟩
       replace c0 := Own.cell hb c0; replace c1 := Own.cell hb c1; replace c2 := Own.cell hb c2; replace c3 := Own.cell hb c3; replace HB := Aside0.mk (HB.out.trans hb); clear hb
       have z0 := fun o => Own.cell ((Own.refl w1).alloc o) c0; have z1 := fun o => Own.cell ((Own.refl w1).alloc o) c1; obtain ⟨k, hk⟩ : ∃ k, w1.heap.size = k := ⟨_, rfl⟩))
  have m0 : (w1.alloc (.cells #[.int .u64 p1, .int .u64 p2] 24)).cell? ⟨k, 0, none⟩ = some (.int .u64 p1) := by rw [← hk]; exact alloc2_0 _ _ _ _
  have m1 : (w1.alloc (.cells #[.int .u64 p1, .int .u64 p2] 24)).cell? ⟨k, 1, none⟩ = some (.int .u64 p2) := by rw [← hk]; exact alloc2_1 _ _ _ _
  replace c0 := z0 (.cells #[.int .u64 p1, .int .u64 p2] 24)
  replace c1 := z1 (.cells #[.int .u64 p1, .int .u64 p2] 24)
  replace HB := Aside0.mk (HB.out.alloc (.cells #[.int .u64 p1, .int .u64 p2] 24))
  clear z0 z1 c2 c3 hk
  go_region_held3 (fun w' => Own w w' ∧ w'.cell? ⟨g, 0, none⟩ = some (.int .u64 a) ∧ w'.cell? ⟨g, 1, none⟩ = some (.int .u64 b) ∧ w'.cell? ⟨k, 0, none⟩ = some (.int .u64 p1) ∧ w'.cell? ⟨k, 1, none⟩ = some (.int .u64 p2))
    (first | exact ⟨HB.out.drew, c0, c1, m0, m1⟩ | (obtain ⟨h0, h1, h2, h3, h4⟩ := ‹_ ∧ _ ∧ _ ∧ _ ∧ _›; exact ⟨h0.trans hb, Own.cell hb h1, Own.cell hb h2, Own.cell hb h3, Own.cell hb h4⟩) | assumption)
    (first
      | (go_at_call 16; refine (Q7.out _).mono ?_; rintro e w2 ⟨rfl, rfl⟩)
      | (go_at_call 14; refine (Q5.out _ _ _).mono ?_; rintro e w2 ⟨rfl, hb⟩)
      | (go_at_call 26; refine (Q3.out _).mono ?_; rintro e w2 ⟨rfl, rfl⟩)
      | (go_at_call 27; refine (Q4.out _).mono ?_; rintro e w2 ⟨rfl, hb⟩)
      | (go_at_call 17; refine (Q6.out _ _ _).mono ?_; rintro e w2 ⟨rfl, hb⟩))
  all_goals
    have HH := Aside0.mk (And.left ‹_ ∧ _ ∧ _ ∧ _ ∧ _›)
    go_wp2_with fail
    go_ret
    exact ⟨rfl, HH.out⟩
end Go.Proofs.Ytkcnfdffemddlaa.Pl
namespace Go.Proofs.Ytkcnfdffemddlaa.H
open Go.RowKit Go.Proofs.YtkcnfdffemddlaaW.PrintWords
set_option linter.unusedVariables false
def merkhetlaw25_PlaneTurns.f (a b c d q : Int) : Option Bool := if (0 ≤ a ∧ a < 2 ^ 64) ∧ (0 ≤ b ∧ b < 2 ^ 64) ∧ (0 ≤ c ∧ c < 2 ^ 64) ∧ 0 ≤ d ∧ d < 2 ^ 64 then some true else none
theorem merkhetlaw25_PlaneTurns.calls {a0_0 a0_1 a1_0 a1_1 a2 : Int} {r : Bool} {w : World} (h : merkhetlaw25_PlaneTurns.f a0_0 a0_1 a1_0 a1_1 a2 = some r) :
    Calls Try.prog 6 #[.agg #[.int .u64 a0_0, .int .u64 a0_1], .agg #[.int .u64 a1_0, .int .u64 a1_1], .int .i64 a2] w fun e w' => e = .returned (.bool r) ∧ Below w.heap.size w w' := by
  unfold merkhetlaw25_PlaneTurns.f at h
  split at h
  · rename_i hc
    obtain rfl : true = r := by simpa using h
    obtain ⟨h1, h2, h3, h4⟩ := hc
    obtain ⟨a, rfl⟩ := Int.eq_ofNat_of_zero_le h1.1
    obtain ⟨b, rfl⟩ := Int.eq_ofNat_of_zero_le h2.1
    obtain ⟨c, rfl⟩ := Int.eq_ofNat_of_zero_le h3.1
    obtain ⟨d, rfl⟩ := Int.eq_ofNat_of_zero_le h4.1
    refine (Pl.PlaneTurns_calls a b c d a2 (by omega) (by omega) (by omega) (by omega) w).mono ?_
    rintro e w' ⟨rfl, ho⟩
    exact ⟨rfl, ho _ (Nat.le_refl _)⟩
  · cases h
end Go.Proofs.Ytkcnfdffemddlaa.H
