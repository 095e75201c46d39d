/- DedupeHosts, the plain part: the program's hosts, and the place of any text, are the document's. -/
import Derived.Test.YtkpmaenhkjfncaaRefH
import Derived.Test.YtkpmaenhkjfncaaRefG
import Derived.Test.YtkpmaenhkjfncaaDedL
import Derived.Test.YtkpmaenhkjfncaaHOpens
import Derived.Test.YtkpmaenhkjfncaaHx1
namespace Go.Proofs.Ytkpmaenhkjfncaa.Pure
set_option linter.unusedVariables false
open Go.RowKit Go.Proofs.Ytkpmaenhkjfncaa.Q Go.Proofs.Ytkpmaenhkjfncaa.H Go.Proofs.YtkpmaenhkjfncaaW.PrintWords Go.Proofs.YtkpmaenhkjfncaaW.PrintLast Go.Proofs.YtkpmaenhkjfncaaW.PrintMore Go.Proofs.YtkpmaenhkjfncaaW.Lib Go.Proofs.Ytkpmaenhkjfncaa.L

theorem fixed09 : merkhetlaw09_fixed.f = some true := by
  unfold merkhetlaw09_fixed.f dedupe_Of.f
  rw [if_pos ⟨by decide, by intro x hx; simp only [List.mem_cons, List.not_mem_nil, or_false] at hx; rcases hx with rfl | rfl <;> exact ⟨by decide, by decide, by decide⟩⟩]
  unfold ofD
  rw [sortL_eq]
  kernel_rfl
theorem index_ev (l : List ByteArray) (s : ByteArray) (hl : l.length ≤ 1000000000) : Ev (fun k => slices_Index_string_string.f k l s) (placeZ l s) := by
  have key : ∀ (d i : Nat), l.length - i = d → i ≤ l.length → Ev (fun k => slices_Index_string_string.l0 k l s (l.length : Int) (i : Int)) (if numB (l.drop i) s < (l.drop i).length then ((i + numB (l.drop i) s : Nat) : Int) else -1) := by
    intro d
    induction d with
    | zero =>
      intro i hd hi
      rw [List.drop_of_length_le (by omega), if_neg (by simp)]
      refine Ev.succ ?_
      simp only [slices_Index_string_string.l0]
      exact Ev.neg (by omega) (Ev.now _)
    | succ d ih =>
      intro i hd hi
      have hil : i < l.length := by omega
      have hr : rdOf ByteArray.empty l (i : Int) = l[i] := by simp [rdOf, List.getD, hil]
      refine Ev.succ ?_
      simp only [slices_Index_string_string.l0, hr]
      refine Ev.pos (by omega) (Ev.pos (by omega) (Ev.pos (by omega) ?_))
      rw [List.drop_eq_getElem_cons hil, numB_cons, List.length_cons]
      refine Ev.ite (fun h => ?_) (fun h => ?_)
      · rw [if_pos (text_eq.1 h).symm, if_pos (by omega)]
        exact Ev.cast (Ev.now _) (by simp)
      · have h' : ¬ l[i] = s := fun h2 => h (text_eq.2 h2.symm)
        rw [if_neg h', wrap_id (by omega) (by omega)]
        have h1 := ih (i + 1) (by omega) (by omega)
        refine Ev.cast h1 ?_
        by_cases h3 : numB (l.drop (i + 1)) s < (l.drop (i + 1)).length
        · rw [if_pos h3, if_pos (by omega)]; congr 1; omega
        · rw [if_neg h3, if_neg (by omega)]
  have := key l.length 0 (by omega) (by omega)
  unfold slices_Index_string_string.f placeZ
  simpa using this

theorem DedupeHosts (l0 : List (S27)) (l1 : List ByteArray) (a2 : ByteArray) (w0 : (l0.length ≤ maxLen ∧ l0.length * 80 ≤ reachBytes ∧ ∀ x ∈ l0, wf27 x)) (w1 : (l1.length ≤ maxLen ∧ l1.length * 16 ≤ reachBytes ∧ ∀ x ∈ l1, x.size ≤ reachBytes)) (w2 : a2.size ≤ reachBytes) : ∃ k, merkhetlaw09_DedupeHosts.f k l0 l1 a2 = some true := by
  obtain ⟨_, _, hw⟩ := w0
  refine Ev.rounds (g := fun k => merkhetlaw09_DedupeHosts.f k l0 l1 a2) ?_
  unfold merkhetlaw09_DedupeHosts.f
  obtain ⟨b, hb, hb2⟩ := great_ev l0
  have out : Ev (fun k => merkhetlaw09_DedupeHosts.j0 k l0 l1 a2 true) true := by
    refine Ev.succ ?_
    simp only [merkhetlaw09_DedupeHosts.j0]
    exact Ev.pos trivial (Ev.bind (Ev.const fixed09) (Ev.now _))
  refine Ev.bind hb (Ev.ite (fun h => out) (fun h => ?_))
  obtain ⟨h60, _⟩ := hb2 (by simpa using h)
  by_cases hn : (l1.length : Int) > 60
  · rw [decide_eq_true hn]; exact out
  · rw [decide_eq_false hn]
    refine Ev.succ ?_
    simp only [merkhetlaw09_DedupeHosts.j0]
    refine Ev.neg (by simp) (Ev.bind (a := hostsB l0) (Ev.const (by unfold dedupe_Hosts.f; rw [if_pos (by omega)])) (Ev.bind (Ev.const fixed09) (Ev.pos rfl (Ev.bind (rhosts_ev l0 (by omega) (fun s hs => (hw s hs).2.2.2.2.1)) ?_))))
    obtain ⟨r, hr, hr2⟩ := sameT_ev (hostsB l0) (hostsB l0) (by have := hostsB_length l0; omega)
    obtain rfl : r = true := hr2.2 rfl
    refine Ev.bind hr (Ev.pos rfl (Ev.bind (a := placeZ l1 a2) ?_ (Ev.bind (place_ev l1 a2 (by omega)) ?_)))
    · unfold dedupe_Place.f
      exact Ev.bind (index_ev l1 a2 (by omega)) (Ev.now _)
    · exact Ev.cast (Ev.now _) (by simp)
end Go.Proofs.Ytkpmaenhkjfncaa.Pure
