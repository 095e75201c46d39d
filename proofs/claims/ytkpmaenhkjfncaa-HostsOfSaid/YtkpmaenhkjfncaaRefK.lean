/- The document's numbers and groups of hosts, as plain lists. -/
import Derived.Test.YtkpmaenhkjfncaaRefH
import Derived.Test.YtkpmaenhkjfncaaGrpP
import Derived.Test.YtkpmaenhkjfncaaQx11
namespace Go.Proofs.Ytkpmaenhkjfncaa.L
open Go.RowKit Go.Proofs.Ytkpmaenhkjfncaa.Q Go.Proofs.YtkpmaenhkjfncaaW.PrintWords Go.Proofs.YtkpmaenhkjfncaaW.PrintLast Go.Proofs.YtkpmaenhkjfncaaW.PrintMore Go.Proofs.YtkpmaenhkjfncaaW.Lib
set_option linter.unusedVariables false

theorem rof13_ev (x : List Span) (hx : x.length ≤ 1000000) (hw : ∀ s ∈ x, s.f4.size ≤ 140737488351232) : Ev (fun k => merkhetref13_Of.f k x) (numsL x) := by
  have key : ∀ (d i : Nat), x.length - i = d → i ≤ x.length → Ev (fun k => merkhetref13_Of.l0 k x (hostsB x) ((numsL x).take i) (i : Int)) (numsL x) := by
    intro d
    induction d with
    | zero =>
      intro i hd hi
      refine Ev.succ ?_
      simp only [merkhetref13_Of.l0]
      rw [List.take_of_length_le (by unfold numsL; rw [List.length_map]; omega)]
      exact Ev.neg (by omega) (Ev.now _)
    | succ d ih =>
      intro i hd hi
      have hix : i < x.length := by omega
      have hm : x[i].f4 ∈ hostsB x := (hostsB_mem x _).2 ⟨x[i], List.getElem_mem hix, rfl⟩
      have hp : placeZ (hostsB x) x[i].f4 = (numB (hostsB x) x[i].f4 : Int) := by unfold placeZ; rw [if_pos (numB_lt hm)]
      have hn : (numsL x).take (i + 1) = (numsL x).take i ++ [(numB (hostsB x) x[i].f4 : Int)] := by
        rw [List.take_succ_eq_append_getElem (by unfold numsL; rw [List.length_map]; exact hix)]
        congr 2
        unfold numsL
        rw [List.getElem_map]
      refine Ev.succ ?_
      simp only [merkhetref13_Of.l0, rdS_nat x i hix]
      refine Ev.pos (by omega) (Ev.pos (by omega) (Ev.bind (place_ev (hostsB x) x[i].f4 (by have := hostsB_length x; omega)) (Ev.pos (by simp; omega) ?_)))
      rw [wrap_id (by omega) (by omega), hp, ← hn]
      exact ih (i + 1) (by omega) (by omega)
  unfold merkhetref13_Of.f
  refine Ev.bind (rhosts_ev x hx hw) ?_
  have := key x.length 0 (by omega) (by omega)
  simpa using this

theorem rgroups_ev (x : List Span) (hx : x.length ≤ 1000000) (hw : ∀ s ∈ x, s.f4.size ≤ 140737488351232) : Ev (fun k => merkhetref13_Groups.f k x) (groupsL x) := by
  have hgl : (groupsL x).length = (hostsB x).length := by unfold groupsL; rw [List.length_map]
  have hhl := hostsB_length x
  have key : ∀ (d j : Nat), (hostsB x).length - j = d → j ≤ (hostsB x).length → Ev (fun k => merkhetref13_Groups.l0 k x ((groupsL x).take j) (hostsB x) (j : Int)) (groupsL x) := by
    intro d
    induction d with
    | zero =>
      intro j hd hj
      refine Ev.succ ?_
      simp only [merkhetref13_Groups.l0]
      rw [List.take_of_length_le (by omega)]
      exact Ev.neg (by omega) (Ev.now _)
    | succ d ih =>
      intro j hd hj
      have hjh : j < (hostsB x).length := by omega
      have hr : rdOf ByteArray.empty (hostsB x) (j : Int) = (hostsB x)[j] := by simp [rdOf, List.getD, hjh]
      have hn : (groupsL x).take (j + 1) = (groupsL x).take j ++ [gAt x x.length (hostsB x)[j]] := by
        rw [List.take_succ_eq_append_getElem (by omega)]
        congr 2
        unfold groupsL
        rw [List.getElem_map]
      have inner : ∀ (e i : Nat), x.length - i = e → i ≤ x.length → Ev (fun k => merkhetref13_Groups.l1 k x ((groupsL x).take j) (hostsB x) (j : Int) (gAt x i (hostsB x)[j]) (i : Int)) (groupsL x) := by
        intro e
        induction e with
        | zero =>
          intro i he hi
          obtain rfl : i = x.length := by omega
          refine Ev.succ ?_
          simp only [merkhetref13_Groups.l1]
          refine Ev.neg (by omega) (Ev.pos (by simp; omega) ?_)
          rw [wrap_id (by omega) (by omega), ← hn]
          exact ih (j + 1) (by omega) (by omega)
        | succ e ihe =>
          intro i he hi
          have hix : i < x.length := by omega
          have hgd : x.getD i z27 = x[i] := by simp [List.getD, hix]
          have next := ihe (i + 1) (by omega) (by omega)
          rw [gAt_succ, hgd] at next
          have hgl2 := gAt_length x i (hostsB x)[j]
          refine Ev.succ ?_
          simp only [merkhetref13_Groups.l1, rdS_nat x i hix, hr]
          refine Ev.pos (by omega) (Ev.pos (by omega) (Ev.pos (by omega) (Ev.pos (by omega) ?_)))
          rw [wrap_id (by omega) (by omega)]
          refine Ev.ite (fun h => ?_) (fun h => ?_)
          · rw [if_pos (text_eq.1 h)] at next
            exact Ev.pos (by omega) next
          · have h' : ¬ x[i].f4 = (hostsB x)[j] := fun h2 => h (text_eq.2 h2)
            rw [if_neg h'] at next
            exact next
      refine Ev.succ ?_
      simp only [merkhetref13_Groups.l0]
      have := inner x.length 0 (by omega) (by omega)
      exact Ev.pos (by omega) this
  unfold merkhetref13_Groups.f
  refine Ev.bind (rhosts_ev x hx hw) ?_
  have := key (hostsB x).length 0 (by omega) (by omega)
  simpa using this
end Go.Proofs.Ytkpmaenhkjfncaa.L
