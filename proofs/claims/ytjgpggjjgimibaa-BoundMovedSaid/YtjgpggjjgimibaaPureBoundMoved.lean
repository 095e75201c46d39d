/- BoundMoved, the plain part: edges hold as before when one number is added to all offsets. -/
import Derived.Test.YtjgpggjjgimibaaBndA
import Derived.Test.YtjgpggjjgimibaaMOpens
import Derived.Test.YtjgpggjjgimibaaMx1
namespace Go.Proofs.Ytjgpggjjgimibaa.Pure
set_option linter.unusedVariables false
open Go.RowKit Go.Proofs.Ytjgpggjjgimibaa.Q Go.Proofs.Ytjgpggjjgimibaa.M Go.Proofs.YtjgpggjjgimibaaW.PrintWords Go.Proofs.YtjgpggjjgimibaaW.PrintLast Go.Proofs.YtjgpggjjgimibaaW.PrintMore Go.Proofs.YtjgpggjjgimibaaW.Lib Go.Proofs.Ytjgpggjjgimibaa.L

theorem inI_of {n : Int} (h : (Lit.int .i64 n).wf = true) : inI n := by
  simp [Lit.wf, IntKind.min, IntKind.max, IntKind.signed, IntKind.bits] at h
  unfold inI; omega
theorem rd_map (l : List Int) (f : Int → Int) (x : Int) (h0 : 0 ≤ x) (h1 : x < l.length) : rd (l.map f) x = f (rd l x) := by
  have : x.toNat < l.length := by omega
  simp [rd, List.getD, this]
theorem holds_moved (e : S37) (l : List Int) (b : Int) : holdsB e (l.map (· + b)) = holdsB e l := by
  unfold holdsB
  rw [List.length_map]
  by_cases h : 0 ≤ e.f0 ∧ 0 ≤ e.f1 ∧ e.f0 < l.length ∧ e.f1 < l.length
  · rw [if_pos h, if_pos h, rd_map l _ _ h.1 h.2.2.1, rd_map l _ _ h.2.1 h.2.2.2]
    congr 1
    rw [eq_iff_iff]
    omega
  · rw [if_neg h, if_neg h]
theorem BoundMoved (l0 : List (S37)) (l1 : List (Int)) (a2 : Int) (w0 : (l0.length ≤ maxLen ∧ l0.length * 48 ≤ reachBytes ∧ ∀ x ∈ l0, wf37 x)) (w1 : (l1.length ≤ maxLen ∧ l1.length * 8 ≤ reachBytes ∧ ∀ x ∈ l1, (Lit.int .i64 x).wf = true)) (w2 : (Lit.int .i32 a2).wf = true) : ∃ k, merkhetlaw14_BoundMoved.f k l0 l1 a2 = some true := by
  obtain ⟨_, _, h0⟩ := w0
  obtain ⟨_, _, h1⟩ := w1
  have hi : ∀ x ∈ l1, inI x := fun x hx => inI_of (h1 x hx)
  have he : ∀ e ∈ l0, inI e.f2 := fun e h => inI_of (h0 e h).2.2.1
  have ha : -2147483648 ≤ a2 ∧ a2 ≤ 2147483647 := by
    simp [Lit.wf, IntKind.min, IntKind.max, IntKind.signed, IntKind.bits] at w2
    omega
  refine Ev.rounds (g := fun k => merkhetlaw14_BoundMoved.f k l0 l1 a2) ?_
  unfold merkhetlaw14_BoundMoved.f
  have fx : Ev (fun _ => merkhetlaw14_fixed.f) true := Ev.now _
  have skip : Ev (fun k => merkhetlaw14_BoundMoved.j0 k l0 l1 a2 true) true := by
    refine Ev.succ ?_
    simp only [merkhetlaw14_BoundMoved.j0]
    exact Ev.pos trivial (Ev.bind fx (Ev.now _))
  refine Ev.ite (fun _ => skip) (fun hl => ?_)
  by_cases h2 : (l1.length : Int) > 100
  · rw [decide_eq_true h2]; exact skip
  rw [decide_eq_false h2]
  refine Ev.succ ?_
  simp only [merkhetlaw14_BoundMoved.j0]
  refine Ev.neg (by simp) ?_
  have loop1 : (∀ x ∈ l1, inI (x + a2)) → ∀ (d i : Nat), l0.length - i = d → i ≤ l0.length → Ev (fun k => merkhetlaw14_BoundMoved.l1 k l0 l1 (l1.map (· + a2)) l0 (l0.length : Int) (i : Int)) true := by
    intro hm
    have hi2 : ∀ x ∈ l1.map (· + a2), inI x := by
      intro x hx
      obtain ⟨y, hy, rfl⟩ := List.mem_map.1 hx
      exact hm y hy
    intro d
    induction d with
    | zero =>
      intro i hd hi'
      refine Ev.succ ?_
      simp only [merkhetlaw14_BoundMoved.l1]
      refine Ev.neg (by omega) (Ev.bind fx (Ev.pos rfl (Ev.bind (a := l0.all (fun e => holdsB e l1)) (Ev.const ?_) (Ev.bind (a := l0.all (fun e => holdsB e (l1.map (· + a2)))) (Ev.const ?_) (Ev.cast (Ev.now _) ?_)))))
      · unfold bound_All.f; rw [if_pos ⟨hi, he, by omega⟩]
      · unfold bound_All.f; rw [if_pos ⟨hi2, he, by omega⟩]
      · simp [holds_moved]
    | succ d ih =>
      intro i hd hi'
      have hlt : i < l0.length := by omega
      have hr : rd_T37 l0 (i : Int) = l0[i] := by simp [rd_T37, List.getD, hlt]
      have h3 := he l0[i] (List.getElem_mem hlt)
      have h5 := ih (i + 1) (by omega) (by omega)
      refine Ev.succ ?_
      simp only [merkhetlaw14_BoundMoved.l1, hr]
      refine Ev.pos (by omega) (Ev.pos (by omega) (Ev.pos (by omega) (Ev.bind (a := holdsB l0[i] l1) (Ev.const ?_) (Ev.bind (a := holdsB l0[i] (l1.map (· + a2))) (Ev.const ?_) (Ev.neg (by rw [holds_moved]; simp) ?_)))))
      · unfold bound_Holds.f; rw [if_pos ⟨hi, h3⟩]
      · unfold bound_Holds.f; rw [if_pos ⟨hi2, h3⟩]
      · rw [wrap_id (by omega) (by omega)]
        exact h5
  have loop0 : ∀ (d i : Nat), l1.length - i = d → i ≤ l1.length → (∀ x ∈ l1.take i, inI (x + a2)) → Ev (fun k => merkhetlaw14_BoundMoved.l0 k l0 l1 a2 ((l1.take i).map (· + a2)) l1 (l1.length : Int) (i : Int)) true := by
    intro d
    induction d with
    | zero =>
      intro i hd hi' hm
      refine Ev.succ ?_
      simp only [merkhetlaw14_BoundMoved.l0]
      rw [List.take_of_length_le (by omega)] at hm ⊢
      exact Ev.neg (by omega) (loop1 hm l0.length 0 (by omega) (by omega))
    | succ d ih =>
      intro i hd hi' hm
      have hlt : i < l1.length := by omega
      have hr : rd l1 (i : Int) = l1[i] := by simp [rd, List.getD, hlt]
      refine Ev.succ ?_
      simp only [merkhetlaw14_BoundMoved.l0, hr]
      refine Ev.pos (by omega) (Ev.pos (by omega) (Ev.pos (by omega) (Ev.ite (fun _ => Ev.bind fx (Ev.now _)) (fun c1 => Ev.ite (fun _ => Ev.bind fx (Ev.now _)) (fun c2 => Ev.pos ?_ ?_)))))
      · rw [List.length_map, List.length_take]; omega
      · rw [wrap_id (i := (i : Int) + 1) (by omega) (by omega), wrap_id (i := a2) (by omega) (by omega), wrap_id (i := l1[i] + a2) (by omega) (by omega)]
        have h5 := ih (i + 1) (by omega) (by omega) (by
          intro x hx
          rw [List.take_succ_eq_append_getElem hlt] at hx
          rcases List.mem_append.1 hx with h | h
          · exact hm x h
          · rw [List.mem_singleton.1 h]; unfold inI; omega)
        rw [List.take_succ_eq_append_getElem hlt, List.map_append] at h5
        exact h5
  exact loop0 l1.length 0 (by omega) (by omega) (by simp)
end Go.Proofs.Ytjgpggjjgimibaa.Pure
