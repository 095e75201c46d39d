/- PlaneBoxes' contract, in the form that the row asks. -/
import Derived.Test.YtkcnfdffemddlaaPlaneZ
import Derived.Test.YtkcnfdffemddlaaHOpens
namespace Go.Proofs.Ytkcnfdffemddlaa.Pl
open Go.RowKit Go.Proofs.YtkcnfdffemddlaaW.PrintWords Go.Proofs.YtkcnfdffemddlaaW.Lib Go.Proofs.YtkcnfdffemddlaaW.Flt
set_option linter.unusedVariables false
set_option maxRecDepth 100000 in
set_option maxHeartbeats 4000000 in
theorem PlaneBoxes_zero (A : Option Addr) (c : Nat) (w : World) : Calls Try.prog 8 #[.slice A 0 c] w fun e w' => e = .returned (.bool true) ∧ Own w w' := by
  have Q6 := Aside0.mk (Told_calls)
  have Q7 := Aside0.mk fixed_calls
  go_enter Try.func8, Try.ntmps8
  go_wp2_with fail
  refine wp_loop_once ?_
  go_wp2_with (first
    | (go_at_call 28; refine (Box_nil _ _).mono ?_; rintro e w1 ⟨rfl, h⟩; obtain rfl := h.symm)
    | (go_at_call 29; refine (rBox_nil _ _ _).mono ?_; rintro e w1 ⟨rfl, hb⟩; have HO := Aside0.mk (Own.trans (Own.refl w) hb); clear hb; obtain ⟨k1, hk1⟩ : ∃ k1, w1.heap.size = k1 := ⟨_, rfl⟩))
  have m0 : ((w1.alloc (.cells #[.int .u64 0, .int .u64 0] 24)).alloc (.cells #[.int .u64 0, .int .u64 0] 24)).cell? ⟨k1, 0, none⟩ = some (.int .u64 0) := by rw [← hk1]; clear hk1; go_simp
  have m1 : ((w1.alloc (.cells #[.int .u64 0, .int .u64 0] 24)).alloc (.cells #[.int .u64 0, .int .u64 0] 24)).cell? ⟨k1, 1, none⟩ = some (.int .u64 0) := by rw [← hk1]; clear hk1; go_simp
  have m2 : ((w1.alloc (.cells #[.int .u64 0, .int .u64 0] 24)).alloc (.cells #[.int .u64 0, .int .u64 0] 24)).cell? ⟨k1 + 1, 0, none⟩ = some (.int .u64 0) := by rw [← hk1]; clear hk1; go_simp
  have m3 : ((w1.alloc (.cells #[.int .u64 0, .int .u64 0] 24)).alloc (.cells #[.int .u64 0, .int .u64 0] 24)).cell? ⟨k1 + 1, 1, none⟩ = some (.int .u64 0) := by rw [← hk1]; clear hk1; go_simp
  replace HO := Aside0.mk ((HO.out.alloc (.cells #[.int .u64 0, .int .u64 0] 24)).alloc (.cells #[.int .u64 0, .int .u64 0] 24))
  generalize (w1.alloc (.cells #[.int .u64 0, .int .u64 0] 24)).alloc (.cells #[.int .u64 0, .int .u64 0] 24) = W5 at *
  clear hk1
  go_region_held3 (fun w' => Own w w' ∧ w'.cell? ⟨k1, 0, none⟩ = some (.int .u64 0) ∧ w'.cell? ⟨k1, 1, none⟩ = some (.int .u64 0) ∧ w'.cell? ⟨k1 + 1, 0, none⟩ = some (.int .u64 0) ∧ w'.cell? ⟨k1 + 1, 1, none⟩ = some (.int .u64 0))
    (first | exact ⟨HO.out.drew, m0, m1, m2, m3⟩ | (obtain ⟨h0, h1, h2, h3, h4⟩ := ‹_ ∧ _ ∧ _ ∧ _ ∧ _›; exact ⟨h0.trans hb, Own.cell hb h1, Own.cell hb h2, Own.cell hb h3, Own.cell hb h4⟩) | assumption)
    (first
      | (go_at_call 16; refine (Q7.out _).mono ?_; rintro e w2 ⟨rfl, rfl⟩)
      | (go_at_call 17; refine (Q6.out _ _ _).mono ?_; rintro e w2 ⟨rfl, hb⟩))
  all_goals
    have HH := Aside0.mk (And.left ‹_ ∧ _ ∧ _ ∧ _ ∧ _›)
    go_wp2_with fail
    go_ret
    exact ⟨rfl, HH.out⟩
end Go.Proofs.Ytkcnfdffemddlaa.Pl
namespace Go.Proofs.Ytkcnfdffemddlaa.H
open Go.RowKit Go.Proofs.YtkcnfdffemddlaaW.PrintWords
set_option linter.unusedVariables false
def u64s (x : S24) : Bool := decide (0 ≤ x.f0 ∧ x.f0 < 2 ^ 64 ∧ 0 ≤ x.f1 ∧ x.f1 < 2 ^ 64)
def merkhetlaw25_PlaneBoxes.f (l : List S24) : Option Bool := if l.all u64s = true ∧ l.length ≤ maxLen then some true else none
theorem merkhetlaw25_PlaneBoxes.calls {A0 : Option Addr} {c0 : Nat} {l0 : List S24} {r : Bool} {w : World} (hr0 : Kd.C k24 w A0 l0.length l0) (hc0 : l0.length ≤ c0) (h : merkhetlaw25_PlaneBoxes.f l0 = some r) :
    Calls Try.prog 8 #[.slice A0 l0.length c0] w fun e w' => e = .returned (.bool r) ∧ Below w.heap.size w w' := by
  unfold merkhetlaw25_PlaneBoxes.f at h
  split at h
  · rename_i hc
    obtain rfl : true = r := by simpa using h
    have fin : ∀ e w', (e = Ending.returned (.bool true) ∧ Pl.Own w w') → (e = .returned (.bool true) ∧ Below w.heap.size w w') := fun e w' hh => ⟨hh.1, hh.2 _ (Nat.le_refl _)⟩
    by_cases hn : 100 < l0.length
    · exact (Pl.PlaneBoxes_many A0 l0.length c0 w hn).mono fin
    · rcases Nat.eq_zero_or_pos l0.length with h0 | h0
      · rw [h0]; exact (Pl.PlaneBoxes_zero A0 c0 w).mono fin
      · let z : S24 := ⟨0, 0⟩
        let f : Nat → Nat × Nat := fun j => ((l0.getD j z).f0.toNat, (l0.getD j z).f1.toNat)
        have hu : ∀ j, j < l0.length → u64s (l0.getD j z) = true := by
          intro j hj
          rw [List.getD_eq_getElem?_getD, List.getElem?_eq_getElem hj]
          exact List.all_eq_true.1 hc.1 _ (List.getElem_mem hj)
        have get : ∀ j, j < l0.length → ∃ ad, A0 = some ad ∧ w.cell? (ad.add (j * 2)) = some (.int .u64 ((f j).1 : Int)) ∧ w.cell? (ad.add (j * 2 + 1)) = some (.int .u64 ((f j).2 : Int)) := by
          intro j hj
          obtain ⟨ad, c, e, _, hK, hcl⟩ := Kd.C_get hr0 z (j : Int) (by omega) (by omega)
          have hq := of_decide_eq_true (hu j hj)
          have e0 := k24_open hK
          rw [Int.toNat_natCast] at e0 hcl
          have hcl' : ∀ i u, c[i]? = some u → w.cell? (ad.add (j * 2 + i)) = some u := hcl
          subst e0
          refine ⟨ad, e, ?_, ?_⟩
          · have q := hcl' 0 _ rfl
            rw [Nat.add_zero] at q
            rw [q]; show some (Value.int .u64 (l0.getD j z).f0) = some (.int .u64 ((l0.getD j z).f0.toNat : Int)); rw [Int.toNat_of_nonneg hq.1]
          · rw [hcl' 1 _ rfl]; show some (Value.int .u64 (l0.getD j z).f1) = some (.int .u64 ((l0.getD j z).f1.toNat : Int)); rw [Int.toNat_of_nonneg hq.2.2.1]
        obtain ⟨ad, rfl, g0, _⟩ := get 0 h0
        obtain ⟨b, off, spot⟩ := ad
        have hs : spot = none := by
          have g : w.cell? ⟨b, off, spot⟩ = some (.int .u64 ((f 0).1 : Int)) := g0
          cases spot with
          | none => rfl
          | some x =>
            unfold World.cell? at g
            split at g
            · simp at g
            · cases g
        subst hs
        have ha : ∀ j i : Nat, (⟨b, off, none⟩ : Addr).add (j * 2 + i) = ⟨b, off + j * 2 + i, none⟩ := by
          intro j i
          unfold Addr.add
          split
          · rename_i e; have : j = 0 := by omega
            subst this; have : i = 0 := by omega
            subst this; rfl
          · simp [Nat.add_assoc]
        refine (Pl.PlaneBoxes_few b off l0.length c0 f w (by omega) hc0 h0 ?_ ?_).mono fin
        · intro j hj
          have hq := of_decide_eq_true (hu j hj)
          show (l0.getD j z).f0.toNat < 2 ^ 64 ∧ (l0.getD j z).f1.toNat < 2 ^ 64
          omega
        · intro j hj
          obtain ⟨ad, e, q0, q1⟩ := get j hj
          obtain rfl := Option.some.inj e
          rw [← ha j 1, ← Nat.add_zero (off + j * 2), ← ha j 0]
          exact ⟨q0, q1⟩
  · cases h
end Go.Proofs.Ytkcnfdffemddlaa.H
