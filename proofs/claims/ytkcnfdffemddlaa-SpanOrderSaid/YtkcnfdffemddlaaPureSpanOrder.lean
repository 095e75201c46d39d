/- SpanOrder, the plain part: the program's order of spans is the document's, and an order. -/
import Derived.Test.YtkcnfdffemddlaaSpanL3
import Derived.Test.YtkcnfdffemddlaaQx4
import Derived.Test.YtkcnfdffemddlaaQx9
namespace Go.Proofs.Ytkcnfdffemddlaa.Pure
set_option linter.unusedVariables false
open Go.RowKit Go.Proofs.Ytkcnfdffemddlaa.Q Go.Proofs.YtkcnfdffemddlaaW.PrintWords Go.Proofs.YtkcnfdffemddlaaW.PrintLast Go.Proofs.YtkcnfdffemddlaaW.PrintMore Go.Proofs.YtkcnfdffemddlaaW.Lib Go.Proofs.Ytkcnfdffemddlaa.L

theorem order_j1 (a b : S39) (h1 : a.f4.size ≤ 140737488351232) (h2 : a.f5.size ≤ 140737488351232) (h3 : b.f4.size ≤ 140737488351232) (h4 : b.f5.size ≤ 140737488351232) :
    Ev (fun k => merkhetlaw01_SpanOrder.j1 k (cmpS a b) true a.f0 a.f1 a.f2 a.f3 a.f4 a.f5 a.f6 a.f7 b.f0 b.f1 b.f2 b.f3 b.f4 b.f5 b.f6 b.f7) true := by
  refine Ev.succ ?_
  simp only [merkhetlaw01_SpanOrder.j1]
  refine Ev.bind fixed01 (Ev.pos rfl (Ev.bind (rcmp_ev a b h1 h2 h3 h4) (Ev.pos rfl (Ev.bind (cmp_ev b a) (Ev.pos ?_ ?_)))))
  · have := cmpS_is.rng a b
    rw [wrap_id (by omega) (by omega)]; exact cmpS_is.anti a b
  · refine Ev.pos trivial (Ev.cast (Ev.now _) ?_)
    have hz := cmpS_is.zero a b
    have e : (a.f0 == b.f0 && (a.f1 == b.f1 && (a.f2 == b.f2 && (a.f3 == b.f3 && (a.f4.toList == b.f4.toList && (a.f5.toList == b.f5.toList && (a.f6 == b.f6 && a.f7 == b.f7))))))) = true ↔ a = b := by
      rw [toList_inj, toList_inj]
      cases a; cases b
      simp
    by_cases h : a = b
    · rw [hz.2 h, e.2 h]; rfl
    · have h1 : ¬ cmpS a b = 0 := fun h' => h (hz.1 h')
      rw [Bool.eq_false_iff.2 (fun h' => h (e.1 h')), beq_eq_false_iff_ne.2 h1]; rfl

theorem SpanOrder (x0 : S39) (x1 : S39) (x2 : S39) (w0 : wf39 x0) (w1 : wf39 x1) (w2 : wf39 x2) :
    ∃ k, merkhetlaw01_SpanOrder.f k x0.f0 x0.f1 x0.f2 x0.f3 x0.f4 x0.f5 x0.f6 x0.f7 x1.f0 x1.f1 x1.f2 x1.f3 x1.f4 x1.f5 x1.f6 x1.f7 x2.f0 x2.f1 x2.f2 x2.f3 x2.f4 x2.f5 x2.f6 x2.f7 = some true := by
  obtain ⟨_, _, _, _, a4, a5, _⟩ := w0
  obtain ⟨_, _, _, _, b4, b5, _⟩ := w1
  have J1 := order_j1 x0 x1 a4 a5 b4 b5
  have J0 : ∀ b : Bool, Ev (fun k => merkhetlaw01_SpanOrder.j0 k b x0.f0 x0.f1 x0.f2 x0.f3 x0.f4 x0.f5 x0.f6 x0.f7 x1.f0 x1.f1 x1.f2 x1.f3 x1.f4 x1.f5 x1.f6 x1.f7 x2.f0 x2.f1 x2.f2 x2.f3 x2.f4 x2.f5 x2.f6 x2.f7) true := by
    intro b
    refine Ev.succ ?_
    simp only [merkhetlaw01_SpanOrder.j0]
    refine Ev.ite (fun _ => Ev.bind fixed01 (Ev.now _)) (fun _ => ?_)
    refine Ev.bind (cmp_ev x0 x1) (Ev.bind (cmp_ev x1 x2) (Ev.bind (cmp_ev x0 x2) ?_))
    have t1 := cmpS_is.trans x0 x1 x2
    have t2 := cmpS_is.trans x2 x1 x0
    have n1 := cmpS_is.anti x0 x1
    have n2 := cmpS_is.anti x1 x2
    have n3 := cmpS_is.anti x0 x2
    have up : 0 ≤ cmpS x0 x1 → 0 ≤ cmpS x1 x2 → 0 ≤ cmpS x0 x2 := fun h1 h2 => by have := t2 (by omega) (by omega); omega
    generalize cmpS x1 x2 = y at *
    generalize cmpS x0 x2 = z at *
    repeat' (refine Ev.ite (fun _ => ?_) (fun _ => ?_))
    all_goals first
      | exact J1
      | (have hz : decide (z ≥ 0) = true := decide_eq_true (by omega)
         rw [hz]; exact J1)
      | (exfalso; omega)
  refine Ev.rounds (g := fun k => merkhetlaw01_SpanOrder.f k x0.f0 x0.f1 x0.f2 x0.f3 x0.f4 x0.f5 x0.f6 x0.f7 x1.f0 x1.f1 x1.f2 x1.f3 x1.f4 x1.f5 x1.f6 x1.f7 x2.f0 x2.f1 x2.f2 x2.f3 x2.f4 x2.f5 x2.f6 x2.f7) ?_
  unfold merkhetlaw01_SpanOrder.f
  have hl : ∀ x : S39, ∃ b, merkhetlaw01_long.f x.f0 x.f1 x.f2 x.f3 x.f4 x.f5 x.f6 x.f7 = some b := fun x => by unfold merkhetlaw01_long.f; split <;> exact ⟨_, rfl⟩
  obtain ⟨c0, h0⟩ := hl x0
  obtain ⟨c1, h1⟩ := hl x1
  obtain ⟨c2, h2⟩ := hl x2
  refine Ev.bind (Ev.const h0) (Ev.ite (fun _ => J0 _) (fun _ => ?_))
  refine Ev.bind (Ev.const h1) (Ev.ite (fun _ => J0 _) (fun _ => ?_))
  exact Ev.bind (Ev.const h2) (J0 _)
end Go.Proofs.Ytkcnfdffemddlaa.Pure
