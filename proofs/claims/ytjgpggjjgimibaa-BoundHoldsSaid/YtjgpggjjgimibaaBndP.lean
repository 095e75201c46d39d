/- The document's less, Holds and All of edges, as plain answers. -/
import Derived.Test.YtjgpggjjgimibaaBndA
import Derived.Test.YtjgpggjjgimibaaQx2
import Derived.Test.YtjgpggjjgimibaaQx3
namespace Go.Proofs.Ytjgpggjjgimibaa.L
open Go.RowKit Go.Proofs.Ytjgpggjjgimibaa.Q Go.Proofs.YtjgpggjjgimibaaW.PrintWords Go.Proofs.YtjgpggjjgimibaaW.PrintLast Go.Proofs.YtjgpggjjgimibaaW.PrintMore Go.Proofs.YtjgpggjjgimibaaW.Lib
set_option linter.unusedVariables false

theorem less_ev (a b c : Int) (ha : inI a) (hb : inI b) (hc : inI c) : Ev (fun k => merkhetref14_less.f k a b c) (decide (a + b < c)) := by
  obtain ⟨a1, a2⟩ := ha
  obtain ⟨b1, b2⟩ := hb
  obtain ⟨c1, c2⟩ := hc
  have hw : wrap64 (a + b) = a + b ∨ (a + b ≥ 9223372036854775808 ∧ wrap64 (a + b) = a + b - 18446744073709551616) ∨ (a + b < -9223372036854775808 ∧ wrap64 (a + b) = a + b + 18446744073709551616) := by unfold wrap64; omega
  have j : ∀ (s : Int) (t : Bool), s = wrap64 (a + b) → (t = true → a + b < c) → (t = false → ¬ (a < 0 ∧ b < 0 ∧ s ≥ 0)) → Ev (fun k => merkhetref14_less.j0 k a b c s t) (decide (a + b < c)) := by
    intro s t hs h1 h2
    refine Ev.succ ?_
    simp only [merkhetref14_less.j0]
    cases t with
    | true => exact Ev.pos rfl (Ev.cast (Ev.now _) (decide_eq_true (h1 rfl)).symm)
    | false =>
      have h3 := h2 rfl
      refine Ev.neg (by simp) (Ev.ite (fun x => Ev.ite (fun y => Ev.ite (fun z => Ev.cast (Ev.now _) ?_) (fun z => Ev.cast (Ev.now _) ?_)) (fun y => Ev.cast (Ev.now _) ?_)) (fun x => Ev.cast (Ev.now _) ?_))
      · exact (decide_eq_false (by omega)).symm
      all_goals
        congr 1
        rw [eq_iff_iff]
        omega
  unfold merkhetref14_less.f
  refine Ev.ite (fun x => Ev.ite (fun y => j _ _ rfl (fun h => ?_) (fun h => ?_)) (fun y => j _ _ rfl (by simp) (fun _ => by omega))) (fun x => j _ _ rfl (by simp) (fun _ => by omega))
  · have := of_decide_eq_true h; omega
  · have := of_decide_eq_false h; omega
theorem rholds_ev (e : S37) (l : List Int) (hi : ∀ x ∈ l, inI x) (he : inI e.f2) : Ev (fun k => merkhetref14_Holds.f k e.f0 e.f1 e.f2 e.f3.f0 e.f3.f1 e.f4 l) (holdsB e l) := by
  have skip : holdsB e l = false → Ev (fun k => merkhetref14_Holds.j0 k l true e.f0 e.f1 e.f2 e.f3.f0 e.f3.f1 e.f4) (holdsB e l) := by
    intro h
    rw [h]
    refine Ev.succ ?_
    simp only [merkhetref14_Holds.j0]
    exact Ev.pos trivial (Ev.now _)
  unfold merkhetref14_Holds.f
  refine Ev.ite (fun x => skip ?_) (fun x => Ev.ite (fun y => skip ?_) (fun y => Ev.ite (fun z => skip ?_) (fun z => ?_)))
  · unfold holdsB; rw [if_neg (by omega)]
  · unfold holdsB; rw [if_neg (by omega)]
  · unfold holdsB; rw [if_neg (by omega)]
  · by_cases u : e.f1 ≥ (l.length : Int)
    · rw [decide_eq_true u]
      refine skip ?_
      unfold holdsB; rw [if_neg (by omega)]
    · rw [decide_eq_false u]
      have m1 : rd l e.f1 ∈ l := by
        have : e.f1.toNat < l.length := by omega
        rw [show rd l e.f1 = l[e.f1.toNat] by simp [rd, List.getD, this]]
        exact List.getElem_mem _
      have m0 : rd l e.f0 ∈ l := by
        have : e.f0.toNat < l.length := by omega
        rw [show rd l e.f0 = l[e.f0.toNat] by simp [rd, List.getD, this]]
        exact List.getElem_mem _
      refine Ev.succ ?_
      simp only [merkhetref14_Holds.j0]
      refine Ev.neg (by simp) (Ev.pos (by omega) (Ev.pos (by omega) (Ev.pos (by omega) (Ev.pos (by omega) (Ev.bind (less_ev _ _ _ (hi _ m0) he (hi _ m1)) (Ev.cast (Ev.now _) ?_))))))
      unfold holdsB
      rw [if_pos ⟨by omega, by omega, by omega, by omega⟩]
      by_cases q : rd l e.f1 ≤ rd l e.f0 + e.f2
      · rw [decide_eq_true q, decide_eq_false (by omega)]; rfl
      · rw [decide_eq_false q, decide_eq_true (by omega)]; rfl
theorem rall_ev (es : List S37) (l : List Int) (hi : ∀ x ∈ l, inI x) (he : ∀ e ∈ es, inI e.f2) (hn : es.length ≤ 1000000000) : Ev (fun k => merkhetref14_All.f k es l) (es.all (fun e => holdsB e l)) := by
  unfold merkhetref14_All.f
  have key : ∀ (d i : Nat), es.length - i = d → i ≤ es.length → Ev (fun k => merkhetref14_All.l0 k es l (i : Int)) ((es.drop i).all (fun e => holdsB e l)) := by
    intro d
    induction d with
    | zero =>
      intro i hd hil
      refine Ev.succ ?_
      simp only [merkhetref14_All.l0]
      rw [List.drop_of_length_le (by omega)]
      exact Ev.neg (by omega) (Ev.now _)
    | succ d ih =>
      intro i hd hil
      have hlt : i < es.length := by omega
      have hr : rd_T37 es (i : Int) = es[i] := by simp [rd_T37, List.getD, hlt]
      have h1 := ih (i + 1) (by omega) (by omega)
      have h2 := rholds_ev es[i] l hi (he _ (List.getElem_mem hlt))
      refine Ev.succ ?_
      simp only [merkhetref14_All.l0, hr]
      rw [List.drop_eq_getElem_cons hlt, List.all_cons]
      refine Ev.pos (by omega) (Ev.pos (by omega) (Ev.bind h2 (Ev.ite (fun h => ?_) (fun h => ?_))))
      · rw [wrap_id (by omega) (by omega)]
        refine Ev.cast h1 ?_
        rw [h]; simp
      · refine Ev.cast (Ev.now _) ?_
        rw [Bool.eq_false_iff.2 h]; simp
  exact key es.length 0 (by omega) (by omega)
end Go.Proofs.Ytjgpggjjgimibaa.L
