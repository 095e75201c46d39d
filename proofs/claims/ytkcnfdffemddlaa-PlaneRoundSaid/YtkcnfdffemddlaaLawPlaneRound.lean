/- PlaneRound: the row of this law: whatever the input, the call answers true, and the input reads as before. Conditions: those of the given row, none of ours. -/
-- Written by wip/tools/row.py, a program of this session. Lean checks it.
import Derived.Test.YtkcnfdffemddlaaRows
import Derived.Test.YtkcnfdffemddlaaPlaneU
import Derived.Test.YtkcnfdffemddlaaGOpens
import Derived.Test.YtkcnfdffemddlaaPurePlaneRound
import Derived.Test.YtkcnfdffemddlaaWSized
import Derived.Test.YtkcnfdffemddlaaArr2
import Derived.WalkKit
import Derived.ProofKit
import Derived.OpenShut
import Derived.ShutString
import Derived.ChangeOld
import Derived.Below
import Derived.SizedLaws
namespace Go.Proofs.Ytkcnfdffemddlaa.planeRound
open Go.ChangeShapes Go.WideShapes Go.ChangeAt Go.RowKit Go.Proofs.YtkcnfdffemddlaaW.PrintWords Go.Proofs.YtkcnfdffemddlaaW.Open Go.Proofs.Ytkcnfdffemddlaa.G
open Go.ChangeMaps (open_string shut_string)
set_option linter.unusedVariables false
theorem own : ownKnob Try.prog.godebug = none := by kernel_rfl
theorem laidOut : laidOutB Try.prog = true := by kernel_rfl
set_option maxRecDepth 100000 in
theorem lifted (os : Os) (started : os.Started) (H : Type) (enc : TypeId × Value → H) :
    ReturnsInHanded {} Try.checked os 7 .any (Rows.planeRoundSpec.pre6 enc Try.prog Try.f7 Rows.planeRoundRow.domain false) (Rows.planeRoundSpec.post enc Try.prog Try.f7 false true false false) := by
  refine returnsInHanded_of_change_sized (C := Try.checked) own started (by kernel_rfl) Try.func7
    (ChangeSpec.witness6 (enc := enc) (C := Try.checked) false ⟨#[], #[(.agg #[(.int .i32 0), (.int .i32 0)]), (.agg #[(.int .i32 0), (.int .i32 0)]), (.agg #[(.int .i16 0), (.int .i16 0)])], []⟩ 8 (by kernel_rfl) (by kernel_rfl) (by kernel_rfl) (by kernel_rfl)) ?_
  intro W base args ds gs before hval0 hW hcnd hsz0 _
  have hsz : (DataW.weightsEach Try.prog (Try.f7.params.toList ++ Rows.planeRoundSpec.plain.varTypes Try.prog) (ds ++ gs)).all (· ≤ reachBytes) = true := hsz0
  have hval : ∀ (j : Nat) t v, Try.f7.params[j]? = some t → args[j]? = some v → Value.okWide Try.prog W .any base t v := hval0
  have hW' := hW
  obtain ⟨p, q, hA0, hV, rfl, hfz, hnd⟩ := hW
  have hA : DataW.TrodAll enc Try.prog W 0 (fun _ => true) true Try.f7.params.toList args.toList ds p := hA0
  rw [Try.params7] at hA hval hsz
  obtain ⟨v0, vs0, d0, ds0, p0, q0, hargs, rfl, rfl, h0, r0⟩ := trodAll_cons hA
  obtain ⟨v1, vs1, d1, ds1, p1, q1, rfl, rfl, rfl, h1, r1⟩ := trodAll_cons r0
  obtain ⟨v2, vs2, d2, ds2, p2, q2, rfl, rfl, rfl, h2, r2⟩ := trodAll_cons r1
  obtain ⟨rfl, rfl, rfl⟩ := trodAll_nil r2
  obtain rfl : args = #[v0, v1, v2] := by cases args; simp_all
  obtain ⟨rfl, rfl⟩ := trodVars_none hV
  have k0 := h0
  have lt0 : ∀ x ∈ p0, x.block < W.heap.size := by obtain ⟨m, hm⟩ := k0; exact DataW.trod_lt m _ _ _ hm
  obtain ⟨cs0, rfl, _⟩ := okWide_array Try.underlying48 (hval 0 48 v0 rfl rfl)
  obtain ⟨cs0⟩ := cs0
  obtain ⟨x0, hK0, w0⟩ := open_agg opens48 h0 (weights_le hsz (j := 0) rfl rfl)
  have e0 : cs0 = _ := k48_open hK0
  subst e0
  have k1 := h1
  have lt1 : ∀ x ∈ p1, x.block < W.heap.size := by obtain ⟨m, hm⟩ := k1; exact DataW.trod_lt m _ _ _ hm
  obtain ⟨cs1, rfl, _⟩ := okWide_array Try.underlying48 (hval 1 48 v1 rfl rfl)
  obtain ⟨cs1⟩ := cs1
  obtain ⟨x1, hK1, w1⟩ := open_agg opens48 h1 (weights_le hsz (j := 1) rfl rfl)
  have e1 : cs1 = _ := k48_open hK1
  subst e1
  have k2 := h2
  have lt2 : ∀ x ∈ p2, x.block < W.heap.size := by obtain ⟨m, hm⟩ := k2; exact DataW.trod_lt m _ _ _ hm
  obtain ⟨cs2, rfl, _⟩ := okWide_array Try.underlying50 (hval 2 50 v2 rfl rfl)
  obtain ⟨cs2⟩ := cs2
  obtain ⟨x2, hK2, w2⟩ := open_agg opens50 h2 (weights_le hsz (j := 2) rfl rfl)
  have e2 : cs2 = _ := k50_open hK2
  subst e2
  clear hA0 hval0 hsz0 hsz
  have h : merkhetlaw25_PlaneRound.f x0.f0 x0.f1 x1.f0 x1.f1 x2.f0 x2.f1 = some true := Pure.PlaneRound x0 x1 x2 w0 w1 w2
  refine (merkhetlaw25_PlaneRound.calls (a0_0 := x0.f0) (a0_1 := x0.f1) (a1_0 := x1.f0) (a1_1 := x1.f1) (a2_0 := x2.f0) (a2_1 := x2.f1) (r := true) (w := W) (h := h)).mono fun e W' hp => ?_
  obtain ⟨he, bel0⟩ := hp
  have bel : Below W.heap.size W W' := bel0
  subst he
  exact ⟨_, rfl, _, _, _, [], _, [], hW', trodAll_mk1 (shut_bool Try.underlying4 _), (trodAll_cons_mk (Below.trod laidOut (by kernel_rfl) (of_decide_eq_true (by kernel_rfl)) k0 bel lt0) (trodAll_cons_mk (Below.trod laidOut (by kernel_rfl) (of_decide_eq_true (by kernel_rfl)) k1 bel lt1) (trodAll_cons_mk (Below.trod laidOut (by kernel_rfl) (of_decide_eq_true (by kernel_rfl)) k2 bel lt2) trodAll_mk0))), rfl, bel.frame _, fun h => by cases h⟩
theorem over : Rows.planeRoundRow.holds Try.pinned (OpenSpec.ofChange Rows.planeRoundSpec) :=
  OpenClaim.holds_of_wide 7 Try.f7 rfl rfl rfl rfl rfl rfl rfl ⟨rfl, rfl, rfl, rfl, rfl⟩ rfl rfl rfl rfl rfl (by kernel_rfl) Try.func7 (by kernel_rfl)
    (of_decide_eq_true (by kernel_rfl)) (by unfold Func.isWrapper; first | (rw [if_pos (by decide +kernel)]; kernel_rfl) | (rw [if_neg (by decide +kernel)]; exact ⟨rfl, rfl⟩))
    (fun os started H enc _ => lifted os started H enc)
theorem proved : Rows.PlaneRoundSaid := over
#print axioms proved
end Go.Proofs.Ytkcnfdffemddlaa.planeRound
namespace Go.Proofs.Ytkcnfdffemddlaa
/-- The row, under a short name, for the claim. -/
theorem planeRound_holds : Rows.PlaneRoundSaid := planeRound.proved
end Go.Proofs.Ytkcnfdffemddlaa
