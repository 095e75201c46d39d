/- ReplyOne: the row of this law: whatever the input, the call answers true, and the input reads as before. Conditions: those of the given row, none of ours. -/
-- Written by wip/tools/row.py, a program of this session. Lean checks it.
import Derived.Test.YtljkikcclnbdaaaDoorRows
import Derived.Test.YtljkikcclnbdaaaDoorJReplyOne28
import Derived.Test.YtljkikcclnbdaaaDoorJReplyOne30
import Derived.Test.YtljkikcclnbdaaaDoorJReplyOne24
import Derived.WalkKit
import Derived.ProofKit
import Derived.OpenShut
import Derived.ShutString
import Derived.ChangeOld
import Derived.Below
import Derived.SizedLaws
import Derived.LaidMore
import Derived.LaidLaws
import Derived.LaidHandle
import Derived.Stop.Joined
import Derived.SevenTiedAt
import Derived.Test.YtljkikcclnbdaaaDoorTie
import Derived.Test.YtljkikcclnbdaaaDoorCards
namespace Go.Proofs.YtljkikcclnbdaaaDoor.replyOne
open Go.ChangeShapes Go.WideShapes Go.ChangeAt Go.RowKit Go.Proofs.YtljkikcclnbdaaaDoorW.PrintWords Go.Proofs.YtljkikcclnbdaaaDoorW.Open Go.Proofs.YtljkikcclnbdaaaDoor.O Go.Proofs.YtljkikcclnbdaaaDoor.Q Go.Proofs.YtljkikcclnbdaaaDoor.P Go.Proofs.YtljkikcclnbdaaaDoor.W
open Go.ChangeMaps (open_string shut_string)
set_option linter.unusedVariables false
theorem own : ownKnob Tryd.prog.godebug = none := by kernel_rfl
theorem laidOut : laidOutB Tryd.prog = true := by kernel_rfl
def laidV : List (String × DataW Unit) := [("bytes.ErrTooLarge", Rows.laid_bytes_ErrTooLarge)]
/-- The door's own heap meets the condition. -/
theorem door_met (os : Os) (args : Array Value) : laidMetH Tryd.prog laidV ((World.doorLaid Tryd.prog 28 os).forCall (fun _ _ => 0) ⟨#[], args, []⟩).memory :=
  laidMetH_of_parts3 (fuel := 8) (laidMet_of_run' 8 (by kernel_rfl) (by kernel_rfl)) (by kernel_rfl) (by kernel_rfl)
set_option maxRecDepth 100000 in
theorem lifted (os : Os) (started : os.Started) (H : Type) (enc : TypeId × Value → H) :
    ReturnsInHanded {} Tryd.checked os 3 .any (fun w args => (Rows.replyOneSpec.pre enc Tryd.prog Tryd.f3 [] false w args ∧ laidMetH Tryd.prog laidV w) ∧ sizedMet enc Tryd.prog Tryd.f3 (OpenSpec.ofChange Rows.replyOneSpec) false w args) (Rows.replyOneSpec.post enc Tryd.prog Tryd.f3 false true false false) := by
  refine returnsInHanded_of_change_and (C := Tryd.checked) (X := fun w _ => laidMetH Tryd.prog laidV w) (fun _ _ _ hh h => h.of_heap hh) own started (by kernel_rfl) Tryd.func3
    (ChangeSpec.witness_shaped (enc := enc) (C := Tryd.checked) (os := os) (X := fun w _ => laidMetH Tryd.prog laidV w) false (World.doorLaid Tryd.prog 28 os) #[(.agg #[(.int .i64 0), (.slice none 0 0), (.slice none 0 0), (.slice none 0 0), (.slice none 0 0), (.slice none 0 0)]), (.agg #[(.int .i64 0), (.slice none 0 0), (.slice none 0 0), (.slice none 0 0), (.slice none 0 0), (.slice none 0 0)])] 8 rfl (World.shaped_of_RefB (by kernel_rfl) (by kernel_rfl)) (by kernel_rfl) (by kernel_rfl) (by kernel_rfl) (door_met os _)) ?_
  intro W base args ds gs before hval0 hW hcnd hsz0 _ _
  have hsz : (DataW.weightsEach Tryd.prog (Tryd.f3.params.toList ++ Rows.replyOneSpec.plain.varTypes Tryd.prog) (ds ++ gs)).all (· ≤ reachBytes) = true := hsz0
  have hval : ∀ (j : Nat) t v, Tryd.f3.params[j]? = some t → args[j]? = some v → Value.okWide Tryd.prog W .any base t v := hval0
  have hW' := hW
  obtain ⟨p, q, hA0, hV, rfl, hfz, hnd⟩ := hW
  have hA : DataW.TrodAll enc Tryd.prog W 0 (fun _ => true) true Tryd.f3.params.toList args.toList ds p := hA0
  rw [Tryd.params3] at hA hval hsz
  obtain ⟨v0, vs0, d0, ds0, p0, q0, hargs, rfl, rfl, h0, r0⟩ := trodAll_cons hA
  obtain ⟨v1, vs1, d1, ds1, p1, q1, rfl, rfl, rfl, h1, r1⟩ := trodAll_cons r0
  obtain ⟨rfl, rfl, rfl⟩ := trodAll_nil r1
  obtain rfl : args = #[v0, v1] := by cases args; simp_all
  obtain ⟨rfl, rfl⟩ := trodVars_none hV
  have k0 := h0
  have lt0 : ∀ x ∈ p0, x.block < W.heap.size := by obtain ⟨m, hm⟩ := k0; exact DataW.trod_lt m _ _ _ hm
  obtain ⟨cs0, rfl, _⟩ := okWide_struct Tryd.underlying27 (hval 0 27 v0 rfl rfl)
  obtain ⟨cs0⟩ := cs0
  obtain ⟨x0, hK0, w0⟩ := open_agg opens27 h0 (weights_le hsz (j := 0) rfl rfl)
  obtain ⟨A0_1, c0_1, A0_2, c0_2, A0_3, c0_3, A0_4, c0_4, A0_5, c0_5, e00, hc0_1, hr0_1, hc0_2, hr0_2, hc0_3, hr0_3, hc0_4, hr0_4, hc0_5, hr0_5⟩ := k27_open hK0
  have e0 : cs0 = _ := e00
  subst e0
  have k1 := h1
  have lt1 : ∀ x ∈ p1, x.block < W.heap.size := by obtain ⟨m, hm⟩ := k1; exact DataW.trod_lt m _ _ _ hm
  obtain ⟨cs1, rfl, _⟩ := okWide_struct Tryd.underlying27 (hval 1 27 v1 rfl rfl)
  obtain ⟨cs1⟩ := cs1
  obtain ⟨x1, hK1, w1⟩ := open_agg opens27 h1 (weights_le hsz (j := 1) rfl rfl)
  obtain ⟨A1_1, c1_1, A1_2, c1_2, A1_3, c1_3, A1_4, c1_4, A1_5, c1_5, e10, hc1_1, hr1_1, hc1_2, hr1_2, hc1_3, hr1_3, hc1_4, hr1_4, hc1_5, hr1_5⟩ := k27_open hK1
  have e1 : cs1 = _ := e10
  subst e1
  clear hA0 hval0 hsz0 hsz
  obtain ⟨k, h⟩ : ∃ k, merkhetlaw21_ReplyOne.f k x0.f0 x0.f1 x0.f2 x0.f3 x0.f4 x0.f5 x1.f0 x1.f1 x1.f2 x1.f3 x1.f4 x1.f5 = some true := Pure.ReplyOne x0 x1 w0 w1
  refine (merkhetlaw21_ReplyOne.calls (k := k) (a0_0 := x0.f0) (l0_1 := x0.f1) (hr0_1 := hr0_1) (hc0_1 := hc0_1) (l0_2 := x0.f2) (hr0_2 := hr0_2) (hc0_2 := hc0_2) (l0_3 := x0.f3) (hr0_3 := hr0_3) (hc0_3 := hc0_3) (l0_4 := x0.f4) (hr0_4 := hr0_4) (hc0_4 := hc0_4) (l0_5 := x0.f5) (hr0_5 := hr0_5) (hc0_5 := hc0_5) (a1_0 := x1.f0) (l1_1 := x1.f1) (hr1_1 := hr1_1) (hc1_1 := hc1_1) (l1_2 := x1.f2) (hr1_2 := hr1_2) (hc1_2 := hc1_2) (l1_3 := x1.f3) (hr1_3 := hr1_3) (hc1_3 := hc1_3) (l1_4 := x1.f4) (hr1_4 := hr1_4) (hc1_4 := hc1_4) (l1_5 := x1.f5) (hr1_5 := hr1_5) (hc1_5 := hc1_5) (r := true) (w := W) (h := h)).mono fun e W' hp => ?_
  obtain ⟨he, bel0⟩ := hp
  have bel : Below W.heap.size W W' := bel0
  subst he
  exact ⟨_, rfl, _, _, _, [], _, [], hW', trodAll_mk1 (shut_bool Tryd.underlying4 _), (trodAll_cons_mk (Below.trod laidOut (by kernel_rfl) (of_decide_eq_true (by kernel_rfl)) k0 bel lt0) (trodAll_cons_mk (Below.trod laidOut (by kernel_rfl) (of_decide_eq_true (by kernel_rfl)) k1 bel lt1) trodAll_mk0)), rfl, bel.frame _, fun h => by cases h⟩
theorem over : Rows.replyOneRow.holds Tryd.pinned (OpenSpec.ofChange Rows.replyOneSpec) :=
  OpenClaim.holds_of_wide 3 Tryd.f3 rfl rfl rfl rfl rfl rfl rfl ⟨rfl, rfl, rfl, rfl, rfl⟩ rfl rfl rfl rfl rfl (by kernel_rfl) Tryd.func3 (by kernel_rfl)
    (of_decide_eq_true (by kernel_rfl)) (by unfold Func.isWrapper; first | (rw [if_pos (by decide +kernel)]; kernel_rfl) | (rw [if_neg (by decide +kernel)]; exact ⟨rfl, rfl⟩))
    (fun os started H enc _ => lifted os started H enc)
theorem proved : Rows.ReplyOneSaid := over
end Go.Proofs.YtljkikcclnbdaaaDoor.replyOne
namespace Go.Proofs.YtljkikcclnbdaaaDoor
set_option maxRecDepth 100000 in
/-- The card: the row, its listed variable tied to the program's text. -/
theorem replyOne_holds : Rows.ReplyOneCardSaid :=
  Claim7.holds_tied_plain_at .later [] [.sentinel] true (true, "39905cd812a43cdceeb0892f662c92e75b7b9a1e64271666aa16f4c4dff36e24") true
    replyOne.proved (fun _ h => by cases h) (by kernel_rfl) (fun _ h => by cases h) replyOne_row_tie rfl ⟨rfl, rfl⟩ (by kernel_rfl) rfl
    (fun f fn hf hfn => by
      obtain rfl : f = 3 := Option.some.inj ((show Tryd.prog.funcNamed "merkhet/merkhetlaw21.ReplyOne" = some 3 by kernel_rfl).symm.trans hf) |>.symm
      obtain rfl : fn = Tryd.f3 := (Option.some.inj (Tryd.func3.symm.trans hfn)).symm
      exact ⟨by kernel_rfl, fun j t ht => by
        rw [Tryd.params3] at ht
        have hm := List.mem_of_getElem? (by simpa using ht : ([27, 27] : List Nat)[j]? = some t)
        have hw : ∀ t ∈ ([27, 27] : List Nat), Tryd.prog.wantsStandIn t = false := by
          intro t ht
          simp only [List.mem_cons, List.not_mem_nil, or_false, or_self] at ht
          rcases ht with rfl
          all_goals kernel_rfl
        exact hw t hm⟩)
    (by kernel_rfl)
end Go.Proofs.YtljkikcclnbdaaaDoor
