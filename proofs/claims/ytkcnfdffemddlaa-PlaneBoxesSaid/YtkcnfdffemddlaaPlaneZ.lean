/- plane: the law of boxes. -/
import Derived.Test.YtkcnfdffemddlaaPlaneY
import Derived.Test.YtkcnfdffemddlaaPlaneF
import Derived.OwnWalk
namespace Go.Proofs.Ytkcnfdffemddlaa.Pl
open Go.RowKit Go.Proofs.YtkcnfdffemddlaaW.PrintWords Go.Proofs.YtkcnfdffemddlaaW.Lib Go.Proofs.YtkcnfdffemddlaaW.Flt
set_option linter.unusedVariables false

theorem owns_own {w w1 : World} {base : Nat} {e : TypeId} {size : Nat} {v : Value} {n : Nat} {xs : List Value} (hb : Own w w1) (h : w.ownsRow base e size v n xs) : w1.ownsRow base e size v n xs := by
  obtain ⟨hl, h | ⟨g, cap, cur, h1, h2, h3, h4⟩⟩ := h
  · exact ⟨hl, .inl h⟩
  · exact ⟨hl, .inr ⟨g, cap, cur, h1, h2, by rw [(hb _ (Nat.le_refl _)).block _ (Array.getElem?_eq_some_iff.1 h3).1]; exact h3, h4⟩⟩
theorem owns_cell {w : World} {base : Nat} {e : TypeId} {v : Value} {n : Nat} {xs : List Value} (h : w.ownsRow base e 1 v n xs) (hn : 0 < n) :
    ∃ g cap, v = .slice (some ⟨g, 0, none⟩) n cap ∧ n ≤ cap ∧ ∀ j u, xs[j]? = some u → w.cell? ((⟨g, 0, none⟩ : Addr).add j) = some u := by
  obtain ⟨hl, ⟨_, h⟩ | ⟨g, cap, cur, h1, h2, h3, h4, h5, h6, h7⟩⟩ := h
  · omega
  · refine ⟨g, cap, h1, h4, fun j u hj => ?_⟩
    have hj' : cur[j]? = some u := by
      rw [← h7, List.getElem?_take] at hj
      split at hj
      · rw [← Array.getElem?_toList]; exact hj
      · cases hj
    have ha : (⟨g, 0, none⟩ : Addr).add j = ⟨g, j, none⟩ := by
      unfold Addr.add; split
      · rename_i e; subst e; rfl
      · simp
    rw [ha]
    unfold World.cell?
    simp only [h3]
    simpa using hj'
set_option maxRecDepth 100000 in
theorem rBox_nil (A : Option Addr) (c : Nat) (w : World) : Calls Try.prog 29 #[.slice A 0 c] w fun e w' => e = .returned (.tuple #[.agg #[.int .u64 0, .int .u64 0], .agg #[.int .u64 0, .int .u64 0], .bool false]) ∧ Own w w' := by
  go_enter Try.func29, Try.ntmps29
  go_wp2_with fail
  all_goals
    refine bodyPost_ret (results_cell3 rfl _ _ _ _ _ (.agg #[.int .u64 0, .int .u64 0]) (.agg #[.int .u64 0, .int .u64 0]) rfl rfl ?_ ?_) rfl ⟨rfl, ?_⟩
    · go_simp
    · go_simp
    · exact ((Own.refl w).alloc _).alloc _
set_option maxRecDepth 100000 in
set_option maxHeartbeats 4000000 in
theorem PlaneBoxes_many (A : Option Addr) (n c : Nat) (w : World) (hn : 100 < n) : Calls Try.prog 8 #[.slice A n c] w fun e w' => e = .returned (.bool true) ∧ Own w w' := by
  have hd : decide ((100 : Int) < (n : Int)) = true := decide_eq_true (by omega)
  go_enter Try.func8, Try.ntmps8
  go_wp2_with (go_at_call 16; refine (fixed_calls _).mono ?_; rintro e w1 ⟨rfl, rfl⟩)
  go_ret
  exact ⟨rfl, Own.refl _⟩
/-- The first k numbers, as complex values. -/
def cells (f : Nat → Nat × Nat) (k : Nat) : List Value := (List.range k).map fun j => .complex .f64 (f j).1 (f j).2
theorem cells_succ (f : Nat → Nat × Nat) (k : Nat) : cells f (k + 1) = cells f k ++ [.complex .f64 (f k).1 (f k).2] := by unfold cells; rw [List.range_succ, List.map_append]; rfl
theorem cells_get (f : Nat → Nat × Nat) (n j : Nat) (h : j < n) : (cells f n)[j]? = some (.complex .f64 (f j).1 (f j).2) := by unfold cells; simp [List.getElem?_range h]
theorem owns_alloc {w : World} {base : Nat} {e : TypeId} {size : Nat} {v : Value} {n : Nat} {xs : List Value} (h : w.ownsRow base e size v n xs) (o : Obj) : (w.alloc o).ownsRow base e size v n xs := owns_own ((Own.refl w).alloc o) h
theorem Own.grown {w a b : World} {v : Value} {e : TypeId} {size n : Nat} {xs : List Value} (ho : Own w a) (hv : a.ownsRow w.heap.size e size v n xs) (hg : a.grownBy b v.ownBlock) : Own w b := by
  intro B hB
  refine (ho B hB).grown hg (Nat.le_trans hB ho.size) fun k hk => ?_
  obtain ⟨_, ⟨rfl, _⟩ | ⟨g, cap, cur, rfl, h2, _⟩⟩ := hv
  · cases hk
  · obtain rfl : g = k := by simpa [Value.ownBlock] using hk
    omega
set_option maxRecDepth 100000 in
set_option maxHeartbeats 8000000 in
theorem PlaneBoxes_few (b off n c : Nat) (f : Nat → Nat × Nat) (w : World) (hn : n ≤ 100) (hnc : n ≤ c) (hn0 : 0 < n) (hf : ∀ j, j < n → (f j).1 < 2 ^ 64 ∧ (f j).2 < 2 ^ 64)
    (hcell : ∀ j, j < n → w.cell? ⟨b, off + j * 2, none⟩ = some (.int .u64 (f j).1) ∧ w.cell? ⟨b, off + j * 2 + 1, none⟩ = some (.int .u64 (f j).2)) :
    Calls Try.prog 8 #[.slice (some ⟨b, off, none⟩) n c] w fun e w' => e = .returned (.bool true) ∧ Own w w' := by
  have hd : decide ((100 : Int) < (n : Int)) = false := decide_eq_false (by omega)
  have HF := Aside0.mk hf
  have HC := Aside0.mk hcell
  obtain ⟨i0, hi, hz⟩ : ∃ i, Try.prog.info? 25 = some i ∧ (i.zero, i.size, i.bytes) = (some (.complex .f64 0 0), 1, 16) := by
    have h : (Try.prog.info? 25).map (fun i => (i.zero, i.size, i.bytes)) = some (some (.complex .f64 0 0), 1, 16) := by kernel_rfl
    cases h2 : Try.prog.info? 25 with
    | none => rw [h2] at h; cases h
    | some i => rw [h2] at h; exact ⟨i, rfl, by simpa using h⟩
  obtain ⟨z1, z2⟩ := Prod.mk.inj hz
  obtain ⟨z2, z3⟩ := Prod.mk.inj z2
  have HI := Aside0.mk hi
  have Z1 := Aside0.mk z1
  have Z2 := Aside0.mk z2
  have Z3 := Aside0.mk z3
  clear hf hcell hi hz z1 z2 z3
  go_enter Try.func8, Try.ntmps8
  go_wp2_with fail
  go_loopw [3, 18] (fun va vi wr => ∃ k : Nat, k ≤ n ∧ vi = .int .i64 k ∧ wr.ownsRow w.heap.size 25 1 va k (cells f k) ∧ Own w wr) (fun _ i _ => n - (intOf i).toNat)
  case atStart => exact ⟨0, by omega, rfl, ⟨rfl, .inl ⟨rfl, rfl⟩⟩, Own.refl w⟩
  case round =>
    obtain ⟨k, hk, rfl, hown, ho⟩ := hrel
    have HO := Aside0.mk ho
    have HR := Aside0.mk hown
    by_cases hkn : k < n
    · obtain ⟨g0, g1⟩ := HC.out k hkn
      replace g0 := Own.cell ho g0
      replace g1 := Own.cell ho g1
      clear ho hown
      go_wp2_with (first
        | (go_at_call 14; refine (Of_calls _ _ _).mono ?_; rintro e w2 ⟨rfl, hb⟩; replace HR := Aside0.mk (owns_own hb (owns_alloc HR.out _)); replace HO := Aside0.mk ((HO.out.alloc _).trans hb); clear hb g0 g1)
        | (at_builtin; refine wpList_append_own _ rfl _ _ 53 rfl w.heap.size 25 i0 (.complex .f64 0 0) 1 16 Try.underlying53 HI.out Z1.out Z2.out Z3.out rfl (by decide) _ _ _ rfl (owns_alloc HR.out _) ⟨w2.heap.size, 0, none⟩ 1 1 [.complex .f64 (f k).1 (f k).2] rfl rfl ?c1 ?c2 ?c3 ?c4 ?c5 ?_))
      case c1 =>
        intro j u hj
        match j, hj with
        | 0, hj =>
          obtain rfl : Value.complex .f64 (f k).1 (f k).2 = u := by simpa using hj
          clear hj
          simp [Addr.add]
        | j + 1, hj => simp at hj
      case c2 =>
        intro u hu
        obtain rfl : u = Value.complex .f64 (f k).1 (f k).2 := by simpa using hu
        rfl
      case c3 => show k + 1 ≤ maxLen; simp only [maxLen]; omega
      case c4 => omega
      case c5 => have := HO.out.size; simp; omega
      intro v' w' h1 h2 h3
      rw [← cells_succ] at h1
      have HR2 := Aside0.mk h1
      have HO2 := Aside0.mk (Own.grown (HO.out.alloc _) (owns_alloc HR.out _) h2)
      clear h1 h2 h3 HR HO
      go_wp2_with fail
      all_goals
        go_roundw
        case rel => exact ⟨k + 1, by omega, rfl, HR2.out, HO2.out⟩
        case measure => simp only [intOf]; (try dsimp only); omega
    · obtain rfl : k = n := by omega
      obtain ⟨gb, cap, rfl, hcap, hcl⟩ := owns_cell hown hn0
      have hcl' : ∀ j, j < k → wr.cell? ((⟨gb, 0, none⟩ : Addr).add j) = some (.complex .f64 (f j).1 (f j).2) := fun j hj => hcl j _ (cells_get f k j hj)
      have hl : ∀ j, j < k → wr.cell? ⟨b, off + j * 2, none⟩ = some (.int .u64 (f j).1) ∧ wr.cell? ⟨b, off + j * 2 + 1, none⟩ = some (.int .u64 (f j).2) := fun j hj => ⟨ho.cell (HC.out j hj).1, ho.cell (HC.out j hj).2⟩
      have Q1 := Aside0.mk (Box_calls ⟨gb, 0, none⟩ k cap f wr (by omega) hcap HF.out hcl')
      have Q2 := Aside0.mk (rBox_calls b off k c f wr (by omega) hnc hn0 HF.out hl)
      have Q6 := Aside0.mk (Told_calls)
      have Q7 := Aside0.mk fixed_calls
      generalize boxV f k = V at *
      obtain ⟨⟨v1, v2⟩, ⟨v3, v4⟩, v5⟩ := V
      clear ho hown hcl hcl' hl HR
      go_wp2_with (first
        | (go_at_call 28; refine Q1.out.mono ?_; rintro e w1 ⟨rfl, rfl⟩)
        | (go_at_call 29; refine Q2.out.mono ?_; rintro e w1 ⟨rfl, hb⟩; replace HO := Aside0.mk (HO.out.trans hb); clear hb; obtain ⟨k1, hk1⟩ : ∃ k1, w1.heap.size = k1 := ⟨_, rfl⟩))
      have m0 : ((w1.alloc (.cells #[.int .u64 v1, .int .u64 v2] 24)).alloc (.cells #[.int .u64 v3, .int .u64 v4] 24)).cell? ⟨k1, 0, none⟩ = some (.int .u64 v1) := by rw [← hk1]; clear hk1 hn0; go_simp
      have m1 : ((w1.alloc (.cells #[.int .u64 v1, .int .u64 v2] 24)).alloc (.cells #[.int .u64 v3, .int .u64 v4] 24)).cell? ⟨k1, 1, none⟩ = some (.int .u64 v2) := by rw [← hk1]; clear hk1 hn0; go_simp
      have m2 : ((w1.alloc (.cells #[.int .u64 v1, .int .u64 v2] 24)).alloc (.cells #[.int .u64 v3, .int .u64 v4] 24)).cell? ⟨k1 + 1, 0, none⟩ = some (.int .u64 v3) := by rw [← hk1]; clear hk1 hn0; go_simp
      have m3 : ((w1.alloc (.cells #[.int .u64 v1, .int .u64 v2] 24)).alloc (.cells #[.int .u64 v3, .int .u64 v4] 24)).cell? ⟨k1 + 1, 1, none⟩ = some (.int .u64 v4) := by rw [← hk1]; clear hk1 hn0; go_simp
      replace HO := Aside0.mk ((HO.out.alloc (.cells #[.int .u64 v1, .int .u64 v2] 24)).alloc (.cells #[.int .u64 v3, .int .u64 v4] 24))
      generalize ((w1.alloc (.cells #[.int .u64 v1, .int .u64 v2] 24)).alloc (.cells #[.int .u64 v3, .int .u64 v4] 24)) = W5 at *
      clear hk1
      go_region_held3 (fun w' => Own w w' ∧ w'.cell? ⟨k1, 0, none⟩ = some (.int .u64 v1) ∧ w'.cell? ⟨k1, 1, none⟩ = some (.int .u64 v2) ∧ w'.cell? ⟨k1 + 1, 0, none⟩ = some (.int .u64 v3) ∧ w'.cell? ⟨k1 + 1, 1, none⟩ = some (.int .u64 v4))
        (first | exact ⟨HO.out.drew, m0, m1, m2, m3⟩ | (obtain ⟨h0, h1, h2, h3, h4⟩ := ‹_ ∧ _ ∧ _ ∧ _ ∧ _›; exact ⟨h0.trans hb, Own.cell hb h1, Own.cell hb h2, Own.cell hb h3, Own.cell hb h4⟩) | assumption)
        (first
          | (go_at_call 16; refine (Q7.out _).mono ?_; rintro e w2 ⟨rfl, rfl⟩)
          | (go_at_call 17; refine (Q6.out _ _ _).mono ?_; rintro e w2 ⟨rfl, hb⟩))
      all_goals
        have HH := Aside0.mk (And.left ‹_ ∧ _ ∧ _ ∧ _ ∧ _›)
        go_wp2_with fail
        go_ret
        exact ⟨rfl, HH.out⟩
end Go.Proofs.Ytkcnfdffemddlaa.Pl
