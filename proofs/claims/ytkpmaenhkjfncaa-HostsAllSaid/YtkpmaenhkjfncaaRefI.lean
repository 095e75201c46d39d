/- The document's comparison of places, as plain lists; what hosts.Of gives of the chapter's example. -/
import Derived.Test.YtkpmaenhkjfncaaNumP
import Derived.Test.YtkpmaenhkjfncaaLibB
import Derived.Test.YtkpmaenhkjfncaaQx7
namespace Go.Proofs.Ytkpmaenhkjfncaa.L
open Go.RowKit Go.Proofs.Ytkpmaenhkjfncaa.Q Go.Proofs.YtkpmaenhkjfncaaW.PrintWords Go.Proofs.YtkpmaenhkjfncaaW.PrintLast Go.Proofs.YtkpmaenhkjfncaaW.PrintMore Go.Proofs.YtkpmaenhkjfncaaW.Lib
set_option linter.unusedVariables false

theorem sameI_ev (a b : List Int) (ha : a.length ≤ 1000000000) : ∃ r, Ev (fun k => merkhetref10_Same.f k a b) r ∧ (r = true ↔ a = b) := by
  unfold merkhetref10_Same.f
  by_cases h : (a.length : Int) = (b.length : Int)
  · have key : ∀ (d i : Nat), a.length - i = d → i ≤ a.length → ∃ r, Ev (fun k => merkhetref10_Same.l0 k a b (i : Int)) r ∧ (r = true ↔ a.drop i = b.drop i) := by
      intro d
      induction d with
      | zero =>
        intro i hd hi
        refine ⟨true, Ev.succ ?_, ?_⟩
        · simp only [merkhetref10_Same.l0]
          exact Ev.neg (by omega) (Ev.now _)
        · rw [List.drop_of_length_le (by omega), List.drop_of_length_le (by omega)]
          simp
      | succ d ih =>
        intro i hd hi
        have hil : i < a.length := by omega
        have hib : i < b.length := by omega
        have hr : rd a (i : Int) = a[i] := by simp [rd, List.getD, hil]
        have hr2 : rd b (i : Int) = b[i] := by simp [rd, List.getD, hib]
        obtain ⟨r, h1, h2⟩ := ih (i + 1) (by omega) (by omega)
        have ea := List.drop_eq_getElem_cons hil
        have eb := List.drop_eq_getElem_cons hib
        by_cases e : a[i] = b[i]
        · refine ⟨r, Ev.succ ?_, ?_⟩
          · simp only [merkhetref10_Same.l0, hr, hr2]
            refine Ev.pos (by omega) (Ev.pos (by omega) (Ev.pos (by omega) (Ev.pos e ?_)))
            rw [wrap_id (by omega) (by omega)]
            exact h1
          · rw [h2, ea, eb, List.cons.injEq]
            exact ⟨fun h => ⟨e, h⟩, fun h => h.2⟩
        · refine ⟨false, Ev.succ ?_, ?_⟩
          · simp only [merkhetref10_Same.l0, hr, hr2]
            exact Ev.pos (by omega) (Ev.pos (by omega) (Ev.pos (by omega) (Ev.neg e (Ev.now _))))
          · rw [ea, eb, List.cons.injEq]
            exact ⟨fun h => absurd h (by simp), fun h => absurd h.1 e⟩
    obtain ⟨r, h1, h2⟩ := key a.length 0 (by omega) (by omega)
    exact ⟨r, Ev.pos h h1, by simpa using h2⟩
  · refine ⟨false, Ev.neg h (Ev.now _), ⟨by simp, ?_⟩⟩
    rintro rfl
    exact absurd rfl h
theorem sameI_self (a : List Int) (ha : a.length ≤ 1000000000) : Ev (fun k => merkhetref10_Same.f k a a) true := by
  obtain ⟨r, h1, h2⟩ := sameI_ev a a ha
  obtain rfl := h2.2 rfl
  exact h1
theorem hostsB_fold' (l : List S27) : (l.map (·.f4)).foldl (insH cmpB) [] = hostsB l := by
  obtain ⟨h1, h2, _⟩ := foldH cmpB_is (l.map (·.f4)) [] List.Pairwise.nil
  refine h1.one cmpB_is (hostsB_rise l) fun x => ?_
  rw [h2, hostsB_mem, List.mem_map]
  simp
end Go.Proofs.Ytkpmaenhkjfncaa.L
