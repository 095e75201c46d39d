/- plane: the document's functions: Of, Told, part, Coords, Point, Turn, Move. -/
import Derived.Test.YtkcnfdffemddlaaPlaneC
import Derived.StillTailTactics
namespace Go.Proofs.Ytkcnfdffemddlaa.Pl
open Go.RowKit Go.Proofs.YtkcnfdffemddlaaW.PrintWords Go.Proofs.YtkcnfdffemddlaaW.Lib Go.Proofs.YtkcnfdffemddlaaW.Flt
set_option linter.unusedVariables false

theorem results_cell1 {fn : Func} {a : Tmp} {t : TypeId} (h : fn.results = #[.cell a t]) (tmps : Array Value) (P : Program) (w : World) (ad : Addr) (v : Value) (ha : tmps.getD a undef = .pointer (some ad)) (hl : (loadVar t ad).run P w = .ok v w) :
    (results fn tmps).run P w = .ok v w := by
  have ha' : tmps[a]?.getD undef = .pointer (some ad) := by rw [← ha]; simp
  have e : ∀ ad w, (asAddr (.pointer (some ad))).run P w = .ok ad w := fun _ _ => rfl
  simp [results, h, ha', hl, e]
theorem results_cell2 {fn : Func} {a b : Tmp} {t : TypeId} (h : fn.results = #[.cell a t, .tmp b]) (tmps : Array Value) (P : Program) (w : World) (ad : Addr) (v : Value) (ha : tmps.getD a undef = .pointer (some ad)) (hl : (loadVar t ad).run P w = .ok v w) :
    (results fn tmps).run P w = .ok (.tuple #[v, tmps.getD b undef]) w := by
  have ha' : tmps[a]?.getD undef = .pointer (some ad) := by rw [← ha]; simp
  have e : ∀ ad w, (asAddr (.pointer (some ad))).run P w = .ok ad w := fun _ _ => rfl
  simp [results, h, ha', hl, e]
set_option maxRecDepth 100000 in
theorem Of_calls (a b : Nat) (w : World) : Calls Try.prog 14 #[.agg #[.int .u64 a, .int .u64 b]] w fun e w' => e = .returned (.complex .f64 a b) ∧ ∀ B, B ≤ w.heap.size → Below B w w' := by
  have q := run_frombits
  go_enter Try.func14, Try.ntmps14
  go_wp2_with fail
  generalize hW2 : w.alloc (.cells #[.int .u64 a, .int .u64 b] 24) = W2
  have hb : ∀ B, B ≤ w.heap.size → Below B w W2 := fun B h => hW2 ▸ (Below.refl B w).alloc h _
  have ca0 : W2.drew.cell? ⟨w.heap.size, 0, none⟩ = some (.int .u64 a) := by rw [← hW2]; simp
  have ca1 : W2.drew.cell? ⟨w.heap.size, 1, none⟩ = some (.int .u64 b) := by rw [← hW2]; simp
  have HB := Aside0.mk hb
  clear hW2 hb
  refine wp_region_still_tail 7 (by kernel_rfl) (by kernel_rfl) ?_
  simp only [List.take_succ_cons, List.take_zero, List.drop_succ_cons, List.drop_zero]
  change wpStill _ _ W2.drew _ _ _
  iterate 7 still_step
  refine wpStill_nil ?_
  change wpList _ _ _ _ _ W2.drew
  go_wp2_with fail
  go_ret
  exact ⟨rfl, fun B h => (HB.out B h).drew⟩
set_option maxRecDepth 100000 in
theorem Told_calls (a b : Nat) (w : World) : Calls Try.prog 17 #[.complex .f64 a b] w fun e w' => e = .returned (.agg #[.int .u64 a, .int .u64 b]) ∧ ∀ B, B ≤ w.heap.size → Below B w w' := by
  have q := run_bits
  go_enter Try.func17, Try.ntmps17
  go_wp2_with fail
  refine bodyPost_ret (results_cell1 rfl _ _ _ _ _ rfl ?_) rfl ⟨rfl, fun B h => (Below.refl B w).alloc h _⟩
  go_simp
def partV (a : Nat) : Int × Bool := if inR a then (truncI a, decide (enc (truncI a) = a)) else (0, false)
set_option maxRecDepth 100000 in
theorem part_calls (a : Nat) (ha : a < 2 ^ 64) (w : World) : Calls Try.prog 39 #[.int .u64 a] w fun e w' => e = .returned (.tuple #[.int .i64 (partV a).1, .bool (partV a).2]) ∧ w' = w := by
  have q1 := run_bits
  have q2 := run_frombits
  obtain ⟨o1, h1⟩ : ∃ o, FloatKind.f64.format.order a 13920626448202203136 = o := ⟨_, rfl⟩
  obtain ⟨o2, h2⟩ : ∃ o, FloatKind.f64.format.order a 4697254411347427328 = o := ⟨_, rfl⟩
  have hI : inR a = (isGe o1 && isLe o2) := by unfold inR; rw [enc_lo, enc_hi, ← h1, ← h2]; rfl
  cases hR : inR a
  · have e0 : partV a = (0, false) := by unfold partV; rw [hR]; rfl
    have hg : ¬ ((o1 = some .gt ∨ o1 = some .eq) ∧ (o2 = some .lt ∨ o2 = some .eq)) := by
      rintro ⟨a1, a2⟩
      rw [hR] at hI
      rcases a1 with rfl | rfl <;> rcases a2 with rfl | rfl <;> cases hI
    rw [e0]
    clear hI hR ha e0
    go_enter Try.func39, Try.ntmps39
    go_wp2_with fail
    all_goals (first | (go_ret2; exact ⟨rfl, rfl⟩) | (exfalso; apply hg; rcases o1 with _ | _ | _ | _ <;> rcases o2 with _ | _ | _ | _ <;> simp_all; done) | trace_state)
  · have e0 : partV a = (truncI a, decide (enc (truncI a) = a)) := by unfold partV; rw [hR]; rfl
    obtain ⟨hl, ht⟩ := trunc_le ha hR
    have c1 : ∀ w, (convert 65 3 (.float .f64 a)).run Try.prog w = .ok (.int .i64 (truncI a)) w := fun w => run_convert_float_int (P := Try.prog) w 65 3 .f64 .i64 a _ (by kernel_rfl) (by kernel_rfl) (by
      unfold floatToIntVal
      rw [show FloatKind.f64.decode a = Ieee.double.read a from rfl, ht]
      show (if (-(2 ^ 63) : Int) ≤ truncI a ∧ truncI a ≤ 2 ^ 63 - 1 then some (truncI a) else none) = _
      rw [if_pos (by omega)])
    have c2 : floatOfInt .f64 (truncI a) = enc (truncI a) := nearest_enc _ (by omega)
    have g1 : (o1 = some .gt ∨ o1 = some .eq) := by
      rw [hR] at hI
      have := (Bool.and_eq_true _ _ ▸ hI.symm : isGe o1 = true ∧ isLe o2 = true).1
      unfold isGe at this; simpa using this
    have g2 : (o2 = some .lt ∨ o2 = some .eq) := by
      rw [hR] at hI
      have := (Bool.and_eq_true _ _ ▸ hI.symm : isGe o1 = true ∧ isLe o2 = true).2
      unfold isLe at this; simpa using this
    rw [e0]
    clear hI hR ha e0 hl ht
    generalize truncI a = x at *
    generalize hy : enc x = y at *
    go_enter Try.func39, Try.ntmps39
    go_wp2_with fail
    · exfalso
      rcases g1 with rfl | rfl <;> rcases g2 with rfl | rfl <;> simp_all
    · go_ret2
      refine ⟨?_, rfl⟩
      have : ((y : Int) == (a : Int)) = decide (y = a) := by
        by_cases e : y = a
        · subst e; simp
        · rw [decide_eq_false e]; simp; omega
      rw [← this]; rfl

def rcoordsV (a b : Nat) : Int × Int × Bool := if (partV a).2 && (partV b).2 then ((partV a).1, (partV b).1, true) else (0, 0, false)
set_option maxRecDepth 100000 in
theorem rCoords_calls (a b : Nat) (ha : a < 2 ^ 64) (hb : b < 2 ^ 64) (w : World) : Calls Try.prog 15 #[.agg #[.int .u64 a, .int .u64 b]] w fun e w' => e = .returned (.tuple #[.int .i64 (rcoordsV a b).1, .int .i64 (rcoordsV a b).2.1, .bool (rcoordsV a b).2.2]) ∧ ∀ B, B ≤ w.heap.size → Below B w w' := by
  have Q1 := Aside0.mk (part_calls a ha)
  have Q2 := Aside0.mk (part_calls b hb)
  go_enter Try.func15, Try.ntmps15
  go_wp2_with (go_at_call 39; (first | with_reducible refine (Q1.out _).mono ?_ | with_reducible refine (Q2.out _).mono ?_); rintro e w' ⟨rfl, rfl⟩)
  all_goals (go_ret3; refine ⟨?_, fun B h => (Below.refl B w).alloc h _⟩)
  all_goals (simp_all [rcoordsV]; try done)
theorem rcoords_eq (a b : Nat) : rcoordsV a b = coordsV a b := by
  have h : ∀ a, (partV a).2 = ptB a ∧ (ptB a = true → (partV a).1 = truncI a) := by
    intro a
    unfold partV ptB
    cases inR a <;> simp
  unfold rcoordsV coordsV
  rw [(h a).1, (h b).1]
  cases h1 : ptB a
  · rfl
  · cases h2 : ptB b
    · rfl
    · rw [(h a).2 h1, (h b).2 h2]
set_option maxRecDepth 100000 in
theorem rPoint_calls (x y : Int) (w : World) : Calls Try.prog 12 #[.int .i64 x, .int .i64 y] w fun e w' => e = .returned (.tuple #[.agg #[.int .u64 (pointV x y).1, .int .u64 (pointV x y).2.1], .bool (pointV x y).2.2]) ∧ ∀ B, B ≤ w.heap.size → Below B w w' := by
  have q := run_bits
  cases h : okI x && okI y
  · have e0 : pointV x y = (0, 0, false) := by unfold pointV; rw [h]; rfl
    rw [e0]
    have hn : ¬ (x ≤ 1048576 ∧ -1048576 ≤ x ∧ y ≤ 1048576 ∧ -1048576 ≤ y) := by
      intro hc
      unfold okI at h
      rw [decide_eq_true (by omega), decide_eq_true (by omega), decide_eq_true (by omega), decide_eq_true (by omega)] at h
      cases h
    clear e0 h
    go_enter Try.func12, Try.ntmps12
    go_wp2_with fail
    all_goals first
      | (exfalso; omega)
      | (refine bodyPost_ret (results_cell2 rfl _ _ _ _ _ rfl ?h) rfl ⟨rfl, fun B h => (Below.refl B w).alloc h _⟩
         case h => go_simp)
      | trace_state
  · have e0 : pointV x y = (enc x, enc y, true) := by unfold pointV; rw [h]; rfl
    have hh := (Bool.and_eq_true _ _ ▸ h : okI x = true ∧ okI y = true)
    have hx := okI_abs hh.1
    have hy := okI_abs hh.2
    have c1 : floatOfInt .f64 x = enc x := nearest_enc x (by omega)
    have c2 : floatOfInt .f64 y = enc y := nearest_enc y (by omega)
    rw [e0]
    generalize enc x = ex at *
    generalize enc y = ey at *
    clear h e0 hh
    go_enter Try.func12, Try.ntmps12
    go_wp2_with fail
    all_goals first
      | (exfalso; omega)
      | (refine bodyPost_ret (results_cell2 rfl _ _ _ _ _ rfl ?h) rfl ⟨rfl, fun B h => (Below.refl B w).alloc h _⟩
         case h => go_simp)
      | trace_state
end Go.Proofs.Ytkcnfdffemddlaa.Pl
