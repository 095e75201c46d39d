/- BoundHolds, the plain part: whether edges hold for offsets is the document's. -/
import Derived.Test.YtjgpggjjgimibaaBndP
import Derived.Test.YtjgpggjjgimibaaHOpens
import Derived.Test.YtjgpggjjgimibaaHx1
namespace Go.Proofs.Ytjgpggjjgimibaa.Pure
set_option linter.unusedVariables false
open Go.RowKit Go.Proofs.Ytjgpggjjgimibaa.Q Go.Proofs.Ytjgpggjjgimibaa.H Go.Proofs.YtjgpggjjgimibaaW.PrintWords Go.Proofs.YtjgpggjjgimibaaW.PrintLast Go.Proofs.YtjgpggjjgimibaaW.PrintMore Go.Proofs.YtjgpggjjgimibaaW.Lib Go.Proofs.Ytjgpggjjgimibaa.L

theorem inI_of {n : Int} (h : (Lit.int .i64 n).wf = true) : inI n := by
  simp [Lit.wf, IntKind.min, IntKind.max, IntKind.signed, IntKind.bits] at h
  unfold inI; omega
theorem BoundHolds (l0 : List (S37)) (l1 : List (Int)) (w0 : (l0.length ≤ maxLen ∧ l0.length * 48 ≤ reachBytes ∧ ∀ x ∈ l0, wf37 x)) (w1 : (l1.length ≤ maxLen ∧ l1.length * 8 ≤ reachBytes ∧ ∀ x ∈ l1, (Lit.int .i64 x).wf = true)) : ∃ k, merkhetlaw14_BoundHolds.f k l0 l1 = some true := by
  obtain ⟨_, _, h0⟩ := w0
  obtain ⟨_, _, h1⟩ := w1
  have hi : ∀ x ∈ l1, inI x := fun x hx => inI_of (h1 x hx)
  have he : ∀ e ∈ l0, inI e.f2 := fun e h => inI_of (h0 e h).2.2.1
  refine Ev.rounds (g := fun k => merkhetlaw14_BoundHolds.f k l0 l1) ?_
  unfold merkhetlaw14_BoundHolds.f
  have fx : Ev (fun _ => merkhetlaw14_fixed.f) true := Ev.now _
  have skip : Ev (fun k => merkhetlaw14_BoundHolds.j0 k l0 l1 true) true := by
    refine Ev.succ ?_
    simp only [merkhetlaw14_BoundHolds.j0]
    exact Ev.pos trivial (Ev.bind fx (Ev.now _))
  refine Ev.ite (fun _ => skip) (fun hl => ?_)
  by_cases h2 : (l1.length : Int) > 100
  · rw [decide_eq_true h2]; exact skip
  rw [decide_eq_false h2]
  refine Ev.succ ?_
  simp only [merkhetlaw14_BoundHolds.j0]
  refine Ev.neg (by simp) ?_
  have loop : ∀ (d i : Nat), l0.length - i = d → i ≤ l0.length → Ev (fun k => merkhetlaw14_BoundHolds.l0 k l0 l1 l0 (l0.length : Int) (i : Int)) true := by
    intro d
    induction d with
    | zero =>
      intro i hd hi'
      refine Ev.succ ?_
      simp only [merkhetlaw14_BoundHolds.l0]
      refine Ev.neg (by omega) (Ev.bind fx (Ev.pos rfl (Ev.bind (a := l0.all (fun e => holdsB e l1)) (Ev.const ?_) (Ev.bind (rall_ev l0 l1 hi he (by omega)) (Ev.cast (Ev.now _) ?_)))))
      · unfold bound_All.f; rw [if_pos ⟨hi, he, by omega⟩]
      · simp
    | succ d ih =>
      intro i hd hi'
      have hlt : i < l0.length := by omega
      have hr : rd_T37 l0 (i : Int) = l0[i] := by simp [rd_T37, List.getD, hlt]
      have h3 := he l0[i] (List.getElem_mem hlt)
      have h4 := rholds_ev l0[i] l1 hi h3
      have h5 := ih (i + 1) (by omega) (by omega)
      refine Ev.succ ?_
      simp only [merkhetlaw14_BoundHolds.l0, hr]
      refine Ev.pos (by omega) (Ev.pos (by omega) (Ev.pos (by omega) (Ev.bind (a := holdsB l0[i] l1) (Ev.const ?_) (Ev.bind h4 (Ev.neg (by simp) ?_)))))
      · unfold bound_Holds.f; rw [if_pos ⟨hi, h3⟩]
      · rw [wrap_id (by omega) (by omega)]
        exact h5
  exact loop l0.length 0 (by omega) (by omega)
end Go.Proofs.Ytjgpggjjgimibaa.Pure
