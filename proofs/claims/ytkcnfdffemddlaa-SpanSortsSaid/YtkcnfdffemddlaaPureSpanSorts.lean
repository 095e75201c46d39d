/- SpanSorts, the plain part: the program's spans in order are the document's. -/
import Derived.Test.YtkcnfdffemddlaaSpanL4
import Derived.Test.YtkcnfdffemddlaaSortG
import Derived.Test.YtkcnfdffemddlaaROpens
import Derived.Test.YtkcnfdffemddlaaQx4
import Derived.Test.YtkcnfdffemddlaaRx1
namespace Go.Proofs.Ytkcnfdffemddlaa.Pure
set_option linter.unusedVariables false
open Go.RowKit Go.Proofs.Ytkcnfdffemddlaa.Q Go.Proofs.Ytkcnfdffemddlaa.R Go.Proofs.YtkcnfdffemddlaaW.PrintWords Go.Proofs.YtkcnfdffemddlaaW.PrintLast Go.Proofs.YtkcnfdffemddlaaW.PrintMore Go.Proofs.YtkcnfdffemddlaaW.Lib Go.Proofs.Ytkcnfdffemddlaa.L

theorem sortL_eq (l : List Span) : sortL l = sortR l := by
  have hs : (sortL l).Pairwise leS := by
    have h := List.pairwise_mergeSort (le := fun x y => !ltOf cmpS y x) (fun a b c h1 h2 => by
      simp only [ltOf, Bool.not_eq_true', decide_eq_false_iff_not, Int.not_lt] at *
      have a1 := cmpS_is.anti a b; have a2 := cmpS_is.anti b c; have a3 := cmpS_is.anti a c
      have t := cmpS_is.trans a b c (by omega) (by omega)
      omega) (fun a b => by
      simp only [ltOf, Bool.or_eq_true, Bool.not_eq_true', decide_eq_false_iff_not, Int.not_lt]
      have a1 := cmpS_is.anti a b
      omega) l
    refine h.imp ?_
    intro a b hab
    simp only [ltOf, Bool.not_eq_true', decide_eq_false_iff_not, Int.not_lt] at hab
    have a1 := cmpS_is.anti a b
    show cmpS a b ≤ 0
    omega
  exact sorted_one hs (sortR_sorted l) ((List.mergeSort_perm l _).trans (sortR_perm l).symm)

theorem SpanSorts (l0 : List (S39)) (w0 : (l0.length ≤ maxLen ∧ l0.length * 80 ≤ reachBytes ∧ ∀ x ∈ l0, wf39 x)) : ∃ k, merkhetlaw01_SpanSorts.f k l0 = some true := by
  obtain ⟨_, _, hw⟩ := w0
  refine Ev.rounds (g := fun k => merkhetlaw01_SpanSorts.f k l0) ?_
  unfold merkhetlaw01_SpanSorts.f
  refine Ev.ite (fun h => Ev.bind fixed01 (Ev.now _)) (fun h => ?_)
  have h60 : l0.length ≤ 60 := by omega
  -- behind the loop that turns what was told
  have tail : ∀ (d i : Nat) (x6 : List Span), l0.length - i = d → i ≤ l0.length → x6.length = l0.length → Ev (fun k => merkhetlaw01_SpanSorts.l1 k l0 l0 x6 true (l0.length : Int) (i : Int)) true := by
    intro d
    induction d with
    | zero =>
      intro i x6 hd hi hx
      refine Ev.succ ?_
      simp only [merkhetlaw01_SpanSorts.l1]
      refine Ev.neg (by omega) (Ev.bind fixed01 (Ev.pos rfl (Ev.pos trivial (Ev.bind (same_ev l0 l0 (by unfold maxLen; omega)) ?_))))
      rw [sameB_self]; exact Ev.now _
    | succ d ih =>
      intro i x6 hd hi hx
      refine Ev.succ ?_
      simp only [merkhetlaw01_SpanSorts.l1]
      refine Ev.pos (by omega) (Ev.pos (by omega) (Ev.pos (by omega) ?_))
      rw [wrap_id (by omega) (by omega)]
      exact ih (i + 1) _ (by omega) (by omega) (by simp [hx])
  have loop : ∀ (d i : Nat), l0.length - i = d → i ≤ l0.length → Ev (fun k => merkhetlaw01_SpanSorts.l0 k l0 l0 (l0.length : Int) (i : Int)) true := by
    intro d
    induction d with
    | zero =>
      intro i hd hi
      refine Ev.succ ?_
      simp only [merkhetlaw01_SpanSorts.l0]
      refine Ev.neg (by omega) ?_
      simp only [Option.bind_some]
      refine Ev.pos (by simp; omega) ?_
      simp only [List.nil_append]
      refine Ev.bind (a := sortL l0) (Ev.const (by unfold span_Sort.f; rw [if_pos (by omega)])) (Ev.bind (rsort_ev l0 (by omega) hw) ?_)
      have hl : (sortL l0).length = l0.length := List.length_mergeSort _
      rw [sortL_eq] at *
      refine Ev.bind (same_ev _ _ (by rw [hl]; unfold maxLen; omega)) ?_
      rw [sameB_self, hl]
      exact tail l0.length 0 _ (by omega) (by omega) hl
    | succ d ih =>
      intro i hd hi
      refine Ev.succ ?_
      simp only [merkhetlaw01_SpanSorts.l0]
      refine Ev.pos (by omega) (Ev.pos (by omega) (Ev.pos (by omega) ?_))
      generalize rd_T39 l0 (i : Int) = s
      obtain ⟨b, hb⟩ : ∃ b, merkhetlaw01_long.f s.f0 s.f1 s.f2 s.f3 s.f4 s.f5 s.f6 s.f7 = some b := by unfold merkhetlaw01_long.f; split <;> exact ⟨_, rfl⟩
      refine Ev.bind (Ev.const hb) (Ev.ite (fun _ => Ev.bind fixed01 (Ev.now _)) (fun _ => ?_))
      rw [wrap_id (by omega) (by omega)]
      exact ih (i + 1) (by omega) (by omega)
  exact loop l0.length 0 (by omega) (by omega)
end Go.Proofs.Ytkcnfdffemddlaa.Pure
