/- SpanMay, the plain part: a span may be by the program just if it may be by the document; its end is its start and its length. -/
import Derived.Test.YtkcnfdffemddlaaSpanL2
import Derived.Test.YtkcnfdffemddlaaQx6
namespace Go.Proofs.Ytkcnfdffemddlaa.Pure
open Go.RowKit Go.Proofs.Ytkcnfdffemddlaa.Q Go.Proofs.YtkcnfdffemddlaaW.PrintWords Go.Proofs.YtkcnfdffemddlaaW.PrintLast Go.Proofs.YtkcnfdffemddlaaW.PrintMore Go.Proofs.YtkcnfdffemddlaaW.Lib Go.Proofs.Ytkcnfdffemddlaa.L

theorem SpanMay (x0 : S39) (w0 : wf39 x0) : ∃ k, merkhetlaw01_SpanMay.f k x0.f0 x0.f1 x0.f2 x0.f3 x0.f4 x0.f5 x0.f6 x0.f7 = some true := by
  obtain ⟨_, _, _, h3, h4, h5, h6, h7⟩ := w0
  obtain ⟨t, i, p, c, h, n, s, d⟩ := x0
  have hc := wf_u8 h3
  have hh : h.size ≤ 140737488351232 := h4
  have hn : n.size ≤ 140737488351232 := h5
  refine Ev.rounds (g := fun k => merkhetlaw01_SpanMay.f k t i p c h n s d) ?_
  unfold merkhetlaw01_SpanMay.f
  obtain ⟨b, hb⟩ : ∃ b, merkhetlaw01_long.f t i p c h n s d = some b := by unfold merkhetlaw01_long.f; split <;> exact ⟨_, rfl⟩
  refine Ev.bind (Ev.const hb) (Ev.ite (fun e => Ev.bind fixed01 (Ev.now _)) (fun e => ?_))
  refine Ev.bind (end_ev t i p c h n s d hh hn) (Ev.bind (may_ev t i p c h n s d hh hn) (Ev.bind (rmay_ev t i p c h n s d hc.1 hh hn) ?_))
  refine Ev.neg (by simp) (Ev.bind (rmay_ev t i p c h n s d hc.1 hh hn) ?_)
  cases hm : mayB t i p c h n s d with
  | true =>
    simp only [if_true]
    refine Ev.neg (by simp) (Ev.bind fixed01 (Ev.pos rfl ?_))
    have hle := mayB_le hm
    rw [wrap_id (by omega) (by omega)]
    exact Ev.pos (by omega) (Ev.pos (by omega) (Ev.now _))
  | false =>
    simp only [Bool.false_eq_true, if_false]
    refine Ev.neg (by simp) (Ev.bind fixed01 (Ev.pos rfl (Ev.now _)))
end Go.Proofs.Ytkcnfdffemddlaa.Pure
