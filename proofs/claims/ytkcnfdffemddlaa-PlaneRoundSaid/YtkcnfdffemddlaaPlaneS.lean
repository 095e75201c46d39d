/- plane: the law of rounds, joined. -/
import Derived.Test.YtkcnfdffemddlaaPlaneR
namespace Go.Proofs.Ytkcnfdffemddlaa.Pl
open Go.RowKit Go.Proofs.YtkcnfdffemddlaaW.PrintWords Go.Proofs.YtkcnfdffemddlaaW.Lib Go.Proofs.YtkcnfdffemddlaaW.Flt
set_option linter.unusedVariables false

set_option maxRecDepth 100000 in
set_option maxHeartbeats 4000000 in
theorem PlaneRound_calls (p0 p1 b0 b1 q0 q1 : Int) (hp0 : -(2 ^ 31) ≤ p0 ∧ p0 < 2 ^ 31) (hp1 : -(2 ^ 31) ≤ p1 ∧ p1 < 2 ^ 31) (hb0 : -(2 ^ 31) ≤ b0 ∧ b0 < 2 ^ 31) (hb1 : -(2 ^ 31) ≤ b1 ∧ b1 < 2 ^ 31)
    (hq0 : -(2 ^ 15) ≤ q0 ∧ q0 < 2 ^ 15) (hq1 : -(2 ^ 15) ≤ q1 ∧ q1 < 2 ^ 15) (w : World) :
    Calls Try.prog 7 #[.agg #[.int .i32 p0, .int .i32 p1], .agg #[.int .i32 b0, .int .i32 b1], .agg #[.int .i16 q0, .int .i16 q1]] w fun e w' => e = .returned (.bool true) ∧ Own w w' := by
  have ht : ∀ z : Int, -(2 ^ 31) ≤ z ∧ z < 2 ^ 31 → (z.tmod 524288).natAbs ≤ 524288 ∧ wrap64 (z.tmod 524288) = z.tmod 524288 := by
    intro z hz
    have h1 := Int.tmod_lt_of_pos z (show (0 : Int) < 524288 by decide)
    have h2 := Int.lt_tmod_of_pos z (show (0 : Int) < 524288 by decide)
    refine ⟨by omega, by unfold wrap64; omega⟩
  obtain ⟨n0, e0⟩ := ht p0 hp0
  obtain ⟨n1, e1⟩ := ht p1 hp1
  obtain ⟨n2, e2⟩ := ht b0 hb0
  obtain ⟨n3, e3⟩ := ht b1 hb1
  have e4 : wrap64 q0 = q0 := by unfold wrap64; omega
  have e5 : wrap64 q1 = q1 := by unfold wrap64; omega
  have e6 : wrap64 (q0 + q1) = q0 + q1 := by unfold wrap64; omega
  generalize hx : p0.tmod 524288 = x at *
  generalize hy : p1.tmod 524288 = y at *
  generalize hu : b0.tmod 524288 = u at *
  generalize hv : b1.tmod 524288 = v at *
  have big : ∀ z : Int, z.natAbs ≤ 1048576 → z.natAbs < 2 ^ 52 := fun z h => by omega
  -- what the calls hand back
  have Q1 : ∀ w, _ := Point_calls x y
  have Q2 : ∀ w, _ := Point_calls u v
  rw [pointV_ok (by omega) (by omega)] at Q1 Q2
  obtain ⟨k, hk⟩ : ∃ k, (quarters q0).toNat = k := ⟨_, rfl⟩
  have ra := rot_abs 524288 k (x, y) n0 n1
  have rb := rot_abs 524288 k (u, v) n2 n3
  have Q3 : ∀ w, _ := Move_calls (enc x) (enc y) (enc u) (enc v) (enc_lt _ (by omega)) (enc_lt _ (by omega)) (enc_lt _ (by omega)) (enc_lt _ (by omega))
  rw [moveV_enc (by omega) (by omega) (by omega) (by omega) (by omega) (by omega)] at Q3
  have Q4 : ∀ w, _ := Turn_calls (enc x) (enc y) q0 (enc_lt _ (by omega)) (enc_lt _ (by omega))
  have Q5 : ∀ w, _ := Turn_calls (enc u) (enc v) q0 (enc_lt _ (by omega)) (enc_lt _ (by omega))
  rw [turnV_enc _ (by omega) (by omega), hk] at Q4 Q5
  have Q7 : ∀ w, _ := Turn_calls (enc (x + u)) (enc (y + v)) q0 (enc_lt _ (by omega)) (enc_lt _ (by omega))
  rw [turnV_enc _ (by omega) (by omega), hk, rot_add] at Q7
  have Q8 : ∀ w, _ := Turn_calls (enc x) (enc y) 4 (enc_lt _ (by omega)) (enc_lt _ (by omega))
  rw [turnV_enc _ (by omega) (by omega), show (quarters 4).toNat = 0 by rw [quarters_emod]; rfl] at Q8
  have Q10 : ∀ w, _ := Turn_calls (enc x) (enc y) (q0 + q1) (enc_lt _ (by omega)) (enc_lt _ (by omega))
  rw [turnV_enc _ (by omega) (by omega), ← rot_quarters, hk] at Q10
  change ∀ w, Calls _ _ _ w fun e w' => e = .returned (.complex .f64 (enc x) (enc y)) ∧ w' = w at Q8
  obtain ⟨⟨r1, r2⟩, hr⟩ : ∃ p, rot k (x, y) = p := ⟨_, rfl⟩
  obtain ⟨⟨s1, s2⟩, hs⟩ : ∃ p, rot k (u, v) = p := ⟨_, rfl⟩
  rw [hr] at ra Q4 Q7 Q10
  rw [hs] at rb Q5 Q7
  dsimp only at ra rb Q4 Q5 Q7 Q10
  have Q6 : ∀ w, _ := Move_calls (enc r1) (enc r2) (enc s1) (enc s2) (enc_lt _ (by omega)) (enc_lt _ (by omega)) (enc_lt _ (by omega)) (enc_lt _ (by omega))
  rw [moveV_enc (by omega) (by omega) (by omega) (by omega) (by omega) (by omega)] at Q6
  have Q9 : ∀ w, _ := Turn_calls (enc r1) (enc r2) q1 (enc_lt _ (by omega)) (enc_lt _ (by omega))
  rw [turnV_enc _ (by omega) (by omega)] at Q9
  have rz := rot_abs 1048576 (quarters q1).toNat (r1, r2) (by show r1.natAbs ≤ _; omega) (by show r2.natAbs ≤ _; omega)
  obtain ⟨⟨z1, z2⟩, hz⟩ : ∃ p, rot (quarters q1).toNat (r1, r2) = p := ⟨_, rfl⟩
  rw [hz] at rz Q9 Q10
  have E1 := fun t w => run_ceql Try.prog t (enc x) (enc y) w (enc_self _ (by omega)) (enc_self _ (by omega))
  have E2 := fun t w => run_ceql Try.prog t (enc (r1 + s1)) (enc (r2 + s2)) w (enc_self _ (by omega)) (enc_self _ (by omega))
  have E3 := fun t w => run_ceql Try.prog t (enc z1) (enc z2) w (enc_self _ (by have := rz.1; dsimp only at this; omega)) (enc_self _ (by have := rz.2; dsimp only at this; omega))
  dsimp only at Q9 Q10
  exact PlaneRound_walk p0 p1 b0 b1 q0 q1 x y u v _ _ _ _ _ _ _ _ _ _ _ _ _ _ hx hy hu hv e0 e1 e2 e3 e4 e5 e6 Q1 Q2 Q3 Q4 Q5 Q6 Q7 Q8 Q9 Q10 E1 E2 E3 w
end Go.Proofs.Ytkcnfdffemddlaa.Pl
