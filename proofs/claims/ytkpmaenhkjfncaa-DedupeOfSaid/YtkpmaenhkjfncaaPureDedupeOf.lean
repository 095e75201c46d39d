/- DedupeOf, the plain part: the program's records that count are the document's. -/
import Derived.Test.YtkpmaenhkjfncaaRefL
import Derived.Test.YtkpmaenhkjfncaaRefG
import Derived.Test.YtkpmaenhkjfncaaROpens
import Derived.Test.YtkpmaenhkjfncaaRx1
namespace Go.Proofs.Ytkpmaenhkjfncaa.Pure
set_option linter.unusedVariables false
open Go.RowKit Go.Proofs.Ytkpmaenhkjfncaa.Q Go.Proofs.Ytkpmaenhkjfncaa.R Go.Proofs.YtkpmaenhkjfncaaW.PrintWords Go.Proofs.YtkpmaenhkjfncaaW.PrintLast Go.Proofs.YtkpmaenhkjfncaaW.PrintMore Go.Proofs.YtkpmaenhkjfncaaW.Lib Go.Proofs.Ytkpmaenhkjfncaa.L

theorem fixed09 : merkhetlaw09_fixed.f = some true := by
  unfold merkhetlaw09_fixed.f dedupe_Of.f
  rw [if_pos ⟨by decide, by intro x hx; simp only [List.mem_cons, List.not_mem_nil, or_false] at hx; rcases hx with rfl | rfl <;> exact ⟨by decide, by decide, by decide⟩⟩]
  unfold ofD
  rw [sortL_eq]
  kernel_rfl
theorem ofD_f {l : List Span} {t : Int} (h1 : l.length ≤ 60) (hw : ∀ s ∈ l, wf27 s) : dedupe_Of.f l t = some (ofD l t) := by
  unfold dedupe_Of.f
  rw [if_pos ⟨by omega, fun x hx => ⟨(hw x hx).2.1, (hw x hx).2.2.2.2.1, (hw x hx).2.2.2.2.2.1⟩⟩]

theorem DedupeOf (l0 : List (S27)) (a1 : Int) (w0 : (l0.length ≤ maxLen ∧ l0.length * 80 ≤ reachBytes ∧ ∀ x ∈ l0, wf27 x)) (w1 : (Lit.int .u64 a1).wf = true) : ∃ k, merkhetlaw09_DedupeOf.f k l0 a1 = some true := by
  obtain ⟨_, _, hw⟩ := w0
  refine Ev.rounds (g := fun k => merkhetlaw09_DedupeOf.f k l0 a1) ?_
  unfold merkhetlaw09_DedupeOf.f
  obtain ⟨b, hb, hb2⟩ := great_ev l0
  refine Ev.bind hb (Ev.ite (fun h => Ev.bind (Ev.const fixed09) (Ev.now _)) (fun h => ?_))
  obtain ⟨h60, _⟩ := hb2 (by simpa using h)
  simp only [Option.bind_some, List.nil_append, List.length_nil]
  have tail : ∀ (d i : Nat) (x6 : List Span), (ofD l0 a1).length - i = d → i ≤ (ofD l0 a1).length → x6.length = (ofD l0 a1).length → Ev (fun k => merkhetlaw09_DedupeOf.l0 k l0 l0 x6 true ((ofD l0 a1).length : Int) (i : Int)) true := by
    have hlen := ofD_length l0 a1
    intro d
    induction d with
    | zero =>
      intro i x6 hd hi hx
      refine Ev.succ ?_
      simp only [merkhetlaw09_DedupeOf.l0]
      refine Ev.neg (by omega) (Ev.bind (Ev.const fixed09) (Ev.pos rfl (Ev.pos trivial (Ev.bind (same_ev l0 l0 (by unfold maxLen; omega)) ?_))))
      rw [sameB_self]; exact Ev.now _
    | succ d ih =>
      intro i x6 hd hi hx
      refine Ev.succ ?_
      simp only [merkhetlaw09_DedupeOf.l0]
      refine Ev.pos (by omega) (Ev.pos (by omega) (Ev.pos (by omega) ?_))
      rw [wrap_id (by omega) (by omega)]
      exact ih (i + 1) _ (by omega) (by omega) (by simp [hx])
  refine Ev.pos (by omega) (Ev.bind (Ev.const (ofD_f h60 hw)) (Ev.bind (rof_ev l0 a1 (by omega) hw) ?_))
  rw [ofR_eq]
  refine Ev.bind (same_ev _ _ (by have := ofD_length l0 a1; unfold maxLen; omega)) ?_
  rw [sameB_self]
  exact tail (ofD l0 a1).length 0 _ (by omega) (by omega) rfl
end Go.Proofs.Ytkpmaenhkjfncaa.Pure
