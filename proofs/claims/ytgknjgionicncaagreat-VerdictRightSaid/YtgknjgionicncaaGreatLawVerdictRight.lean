/- VerdictRight: the row of this law: whatever the input, the call answers true, and the input reads as before. Conditions: those of the given row, none of ours. -/
-- Written by wip/tools/row.py, a program of this session. Lean checks it.
import Derived.Test.YtgknjgionicncaaGreatRows
import Derived.Test.YtgknjgionicncaaGreatJVerdictRight28
import Derived.Test.YtgknjgionicncaaGreatJVerdictRight23
import Derived.WalkKit
import Derived.ProofKit
import Derived.OpenShut
import Derived.ShutString
import Derived.ChangeOld
import Derived.Below
import Derived.SizedLaws
namespace Go.Proofs.YtgknjgionicncaaGreat.verdictRight
open Go.ChangeShapes Go.WideShapes Go.ChangeAt Go.RowKit Go.Proofs.YtgknjgionicncaaGreatW.PrintWords Go.Proofs.YtgknjgionicncaaGreatW.Open Go.Proofs.YtgknjgionicncaaGreat.R Go.Proofs.YtgknjgionicncaaGreat.Q Go.Proofs.YtgknjgionicncaaGreat.X Go.Proofs.YtgknjgionicncaaGreat.V
open Go.ChangeMaps (open_string shut_string)
set_option linter.unusedVariables false
theorem own : ownKnob Tryz.prog.godebug = none := by kernel_rfl
theorem laidOut : laidOutB Tryz.prog = true := by kernel_rfl
set_option maxRecDepth 100000 in
theorem lifted (os : Os) (started : os.Started) (H : Type) (enc : TypeId × Value → H) :
    ReturnsInHanded {} Tryz.checked os 6 .any (Rows.verdictRightSpec.pre6 enc Tryz.prog Tryz.f6 Rows.verdictRightRow.domain false) (Rows.verdictRightSpec.post enc Tryz.prog Tryz.f6 false true false false) := by
  refine returnsInHanded_of_change_sized (C := Tryz.checked) own started (by kernel_rfl) Tryz.func6
    (ChangeSpec.witness6 (enc := enc) (C := Tryz.checked) false ⟨#[], #[(.slice none 0 0), (.int .u64 0), (.int .u8 0)], []⟩ 8 (by kernel_rfl) (by kernel_rfl) (by kernel_rfl) (by kernel_rfl)) ?_
  intro W base args ds gs before hval0 hW hcnd hsz0 _
  have hsz : (DataW.weightsEach Tryz.prog (Tryz.f6.params.toList ++ Rows.verdictRightSpec.plain.varTypes Tryz.prog) (ds ++ gs)).all (· ≤ reachBytes) = true := hsz0
  have hval : ∀ (j : Nat) t v, Tryz.f6.params[j]? = some t → args[j]? = some v → Value.okWide Tryz.prog W .any base t v := hval0
  have hW' := hW
  obtain ⟨p, q, hA0, hV, rfl, hfz, hnd⟩ := hW
  have hA : DataW.TrodAll enc Tryz.prog W 0 (fun _ => true) true Tryz.f6.params.toList args.toList ds p := hA0
  rw [Tryz.params6] at hA hval hsz
  obtain ⟨v0, vs0, d0, ds0, p0, q0, hargs, rfl, rfl, h0, r0⟩ := trodAll_cons hA
  obtain ⟨v1, vs1, d1, ds1, p1, q1, rfl, rfl, rfl, h1, r1⟩ := trodAll_cons r0
  obtain ⟨v2, vs2, d2, ds2, p2, q2, rfl, rfl, rfl, h2, r2⟩ := trodAll_cons r1
  obtain ⟨rfl, rfl, rfl⟩ := trodAll_nil r2
  obtain rfl : args = #[v0, v1, v2] := by cases args; simp_all
  obtain ⟨rfl, rfl⟩ := trodVars_none hV
  have k0 := h0
  have lt0 : ∀ x ∈ p0, x.block < W.heap.size := by obtain ⟨m, hm⟩ := k0; exact DataW.trod_lt m _ _ _ hm
  obtain ⟨A0, len0, c0, rfl⟩ := okWide_slice Tryz.underlying22 (hval 0 22 v0 rfl rfl)
  obtain ⟨l0, rfl, hc0, hr0, w0⟩ := open_row (Opens.slice (B := 80) Tryz.underlying22 (by kernel_rfl) (by kernel_rfl) opens36) h0 (weights_le hsz (j := 0) rfl rfl)
  obtain ⟨a1, rfl, rfl, rfl, w1⟩ := open_int Tryz.underlying23 (hval 1 23 v1 rfl rfl) h1
  obtain ⟨a2, rfl, rfl, rfl, w2⟩ := open_int Tryz.underlying5 (hval 2 5 v2 rfl rfl) h2
  clear hA0 hval0 hsz0 hsz
  obtain ⟨k, h⟩ : ∃ k, merkhetlaw20_VerdictRight.f k l0 a1 a2 = some true := Pure.VerdictRight l0 a1 a2 w0 w1 w2
  refine (merkhetlaw20_VerdictRight.calls (k := k) (l0 := l0) (hr0 := hr0) (hc0 := hc0) (a1 := a1) (a2 := a2) (r := true) (w := W) (h := h)).mono fun e W' hp => ?_
  obtain ⟨he, bel0⟩ := hp
  have bel : Below W.heap.size W W' := bel0
  subst he
  exact ⟨_, rfl, _, _, _, [], _, [], hW', trodAll_mk1 (shut_bool Tryz.underlying4 _), (trodAll_cons_mk (Below.trod laidOut (by kernel_rfl) (of_decide_eq_true (by kernel_rfl)) k0 bel lt0) (trodAll_cons_mk (shut_int Tryz.underlying23 w1) (trodAll_cons_mk (shut_int Tryz.underlying5 w2) trodAll_mk0))), rfl, bel.frame _, fun h => by cases h⟩
theorem over : Rows.verdictRightRow.holds Tryz.pinned (OpenSpec.ofChange Rows.verdictRightSpec) :=
  OpenClaim.holds_of_wide 6 Tryz.f6 rfl rfl rfl rfl rfl rfl rfl ⟨rfl, rfl, rfl, rfl, rfl⟩ rfl rfl rfl rfl rfl (by kernel_rfl) Tryz.func6 (by kernel_rfl)
    (of_decide_eq_true (by kernel_rfl)) (by unfold Func.isWrapper; first | (rw [if_pos (by decide +kernel)]; kernel_rfl) | (rw [if_neg (by decide +kernel)]; exact ⟨rfl, rfl⟩))
    (fun os started H enc _ => lifted os started H enc)
theorem proved : Rows.VerdictRightSaid := over
#print axioms proved
end Go.Proofs.YtgknjgionicncaaGreat.verdictRight
namespace Go.Proofs.YtgknjgionicncaaGreat
/-- The row, under a short name, for the claim. -/
theorem verdictRight_holds : Rows.VerdictRightSaid := verdictRight.proved
end Go.Proofs.YtgknjgionicncaaGreat
