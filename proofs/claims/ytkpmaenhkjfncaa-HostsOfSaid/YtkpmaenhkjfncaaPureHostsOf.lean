/- HostsOf, the plain part: the program's numbers and groups of hosts are the document's. -/
import Derived.Test.YtkpmaenhkjfncaaRefI
import Derived.Test.YtkpmaenhkjfncaaRefG
import Derived.Test.YtkpmaenhkjfncaaRefK
import Derived.Test.YtkpmaenhkjfncaaNOpens
import Derived.Test.YtkpmaenhkjfncaaNx1
namespace Go.Proofs.Ytkpmaenhkjfncaa.Pure
set_option linter.unusedVariables false
open Go.RowKit Go.Proofs.Ytkpmaenhkjfncaa.Q Go.Proofs.Ytkpmaenhkjfncaa.N Go.Proofs.YtkpmaenhkjfncaaW.PrintWords Go.Proofs.YtkpmaenhkjfncaaW.PrintLast Go.Proofs.YtkpmaenhkjfncaaW.PrintMore Go.Proofs.YtkpmaenhkjfncaaW.Lib Go.Proofs.Ytkpmaenhkjfncaa.L

theorem fixed13 : Ev (fun k => merkhetlaw13_fixed.f k) true := by
  unfold merkhetlaw13_fixed.f hosts_Of.f
  rw [if_pos ⟨by decide, by intro x hx; simp only [List.mem_cons, List.not_mem_nil, or_false] at hx; rcases hx with rfl | rfl | rfl <;> exact ⟨by decide, by decide, by decide⟩⟩]
  refine Ev.bind (a := [1, 0, 1]) (Ev.const ?_) (Ev.bind (sameI_self _ (by decide)) (Ev.now _))
  unfold numsL
  rw [← hostsB_fold']
  kernel_rfl
theorem HostsOf (l0 : List (S27)) (w0 : (l0.length ≤ maxLen ∧ l0.length * 80 ≤ reachBytes ∧ ∀ x ∈ l0, wf27 x)) : ∃ k, merkhetlaw13_HostsOf.f k l0 = some true := by
  obtain ⟨_, _, hw⟩ := w0
  refine Ev.rounds (g := fun k => merkhetlaw13_HostsOf.f k l0) ?_
  unfold merkhetlaw13_HostsOf.f
  obtain ⟨b, hb, hb2⟩ := great_ev l0
  refine Ev.bind hb (Ev.ite (fun h => Ev.bind fixed13 (Ev.now _)) (fun h => ?_))
  obtain ⟨h60, _⟩ := hb2 (by simpa using h)
  have hfit : ∀ x ∈ l0, fitS x := fun x hx => ⟨(hw x hx).2.1, (hw x hx).2.2.2.2.1, (hw x hx).2.2.2.2.2.1⟩
  have hsz : ∀ s ∈ l0, s.f4.size ≤ 140737488351232 := fun s hs => (hw s hs).2.2.2.2.1
  have hgl : (groupsL l0).length = (hostsB l0).length := by unfold groupsL; rw [List.length_map]
  have hhl := hostsB_length l0
  have loop : ∀ (d i : Nat), (groupsL l0).length - i = d → i ≤ (groupsL l0).length → Ev (fun k => merkhetlaw13_HostsOf.l0 k (groupsL l0) (groupsL l0) ((groupsL l0).length : Int) (i : Int)) true := by
    intro d
    induction d with
    | zero =>
      intro i hd hi
      refine Ev.succ ?_
      simp only [merkhetlaw13_HostsOf.l0]
      exact Ev.neg (by omega) (Ev.bind fixed13 (Ev.now _))
    | succ d ih =>
      intro i hd hi
      refine Ev.succ ?_
      simp only [merkhetlaw13_HostsOf.l0]
      have hlen : (rd_L5 (groupsL l0) (i : Int)).length ≤ 1000000000 := by
        have hig : i < (groupsL l0).length := by omega
        have he : rd_L5 (groupsL l0) (i : Int) = (groupsL l0)[i] := by simp [rd_L5, List.getD, hig]
        rw [he, show (groupsL l0)[i] = gAt l0 l0.length ((hostsB l0)[i]'(by omega)) from List.getElem_map _]
        have := gAt_length l0 l0.length ((hostsB l0)[i]'(by omega))
        omega
      refine Ev.pos (by omega) (Ev.pos (by omega) (Ev.pos (by omega) (Ev.pos (by omega) (Ev.bind (sameI_self _ hlen) (Ev.pos rfl ?_)))))
      rw [wrap_id (by omega) (by omega)]
      exact ih (i + 1) (by omega) (by omega)
  refine Ev.bind (a := groupsL l0) (Ev.const (by unfold hosts_Groups.f; rw [if_pos ⟨by omega, hfit⟩])) (Ev.bind (rgroups_ev l0 (by omega) hsz) (Ev.pos rfl ?_))
  refine Ev.bind (a := numsL l0) (Ev.const (by unfold hosts_Of.f; rw [if_pos ⟨by omega, hfit⟩])) (Ev.bind (rof13_ev l0 (by omega) hsz) (Ev.bind (sameI_self _ (by unfold numsL; rw [List.length_map]; omega)) ?_))
  refine Ev.succ ?_
  simp only [merkhetlaw13_HostsOf.j0]
  exact Ev.neg (by simp) (loop _ 0 rfl (by omega))
end Go.Proofs.Ytkpmaenhkjfncaa.Pure
