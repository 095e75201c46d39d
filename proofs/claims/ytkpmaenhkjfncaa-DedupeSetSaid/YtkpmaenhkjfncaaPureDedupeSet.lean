/- DedupeSet, the plain part: what counts hangs on what is there alone, not on the order nor on how often. -/
import Derived.Test.YtkpmaenhkjfncaaRefG
import Derived.Test.YtkpmaenhkjfncaaDedL
import Derived.Test.YtkpmaenhkjfncaaTOpens
import Derived.Test.YtkpmaenhkjfncaaTx1
import Derived.Test.YtkpmaenhkjfncaaTx2
namespace Go.Proofs.Ytkpmaenhkjfncaa.Pure
set_option linter.unusedVariables false
open Go.RowKit Go.Proofs.Ytkpmaenhkjfncaa.Q Go.Proofs.Ytkpmaenhkjfncaa.T Go.Proofs.YtkpmaenhkjfncaaW.PrintWords Go.Proofs.YtkpmaenhkjfncaaW.PrintLast Go.Proofs.YtkpmaenhkjfncaaW.PrintMore Go.Proofs.YtkpmaenhkjfncaaW.Lib Go.Proofs.Ytkpmaenhkjfncaa.L

theorem fixed09 : merkhetlaw09_fixed.f = some true := by
  unfold merkhetlaw09_fixed.f dedupe_Of.f
  rw [if_pos ⟨by decide, by intro x hx; simp only [List.mem_cons, List.not_mem_nil, or_false] at hx; rcases hx with rfl | rfl <;> exact ⟨by decide, by decide, by decide⟩⟩]
  unfold ofD
  rw [sortL_eq]
  kernel_rfl
/-- Two places change their records. -/
theorem swap_mem (l : List Span) (a b : Nat) (ha : a < l.length) (hb : b < l.length) (x : Span) : x ∈ (l.set a (l.getD b z27)).set b (l.getD a z27) ↔ x ∈ l := by
  have h := List.set_set_perm ha hb
  have ea : l.getD a z27 = l[a] := by simp [List.getD, ha]
  have eb : l.getD b z27 = l[b] := by simp [List.getD, hb]
  rw [ea, eb]
  exact h.mem_iff
theorem rd_at (l : List Span) (i : Int) : rd_T27 l i = l.getD i.toNat z27 := rfl

theorem DedupeSet (l0 : List (S27)) (a1 : Int) (l2 : List (Int)) (w0 : (l0.length ≤ maxLen ∧ l0.length * 80 ≤ reachBytes ∧ ∀ x ∈ l0, wf27 x)) (w1 : (Lit.int .u64 a1).wf = true) (w2 : (l2.length ≤ maxLen ∧ l2.length * 1 ≤ reachBytes ∧ ∀ x ∈ l2, (Lit.int .u8 x).wf = true)) : ∃ k, merkhetlaw09_DedupeSet.f k l0 a1 l2 = some true := by
  obtain ⟨_, _, hw⟩ := w0
  obtain ⟨_, _, hu⟩ := w2
  have hfit : ∀ x ∈ l0, fitS x := fun x hx => ⟨(hw x hx).2.1, (hw x hx).2.2.2.2.1, (hw x hx).2.2.2.2.2.1⟩
  refine Ev.rounds (g := fun k => merkhetlaw09_DedupeSet.f k l0 a1 l2) ?_
  unfold merkhetlaw09_DedupeSet.f
  obtain ⟨b, hb, hb2⟩ := great_ev l0
  have skip : Ev (fun k => merkhetlaw09_DedupeSet.j0 k l0 a1 l2 true) true := by
    refine Ev.succ ?_
    simp only [merkhetlaw09_DedupeSet.j0]
    exact Ev.pos trivial (Ev.bind (Ev.const fixed09) (Ev.now _))
  refine Ev.bind hb (Ev.ite (fun h => skip) (fun h => ?_))
  obtain ⟨h60, _⟩ := hb2 (by simpa using h)
  by_cases h100 : (l2.length : Int) > 100
  · rw [decide_eq_true h100]; exact skip
  rw [decide_eq_false h100]
  -- behind the loop
  have tail : ∀ (x7 : List Span), x7.length ≤ 200 → (∀ x, x ∈ x7 ↔ x ∈ l0) → Ev (fun k => merkhetlaw09_DedupeSet.j2 k l0 a1 x7) true := by
    intro x7 hx hm
    have e1 : dedupe_Of.f l0 a1 = some (ofD l0 a1) := by unfold dedupe_Of.f; rw [if_pos ⟨by omega, hfit⟩]
    have e2 : dedupe_Of.f x7 a1 = some (ofD l0 a1) := by
      unfold dedupe_Of.f
      rw [if_pos ⟨by omega, fun x hx => hfit x ((hm x).1 hx)⟩, ofD_one hm]
    have hlen := ofD_length l0 a1
    have e3 : dedupe_Of.f (ofD l0 a1) a1 = some (ofD l0 a1) := by
      unfold dedupe_Of.f
      rw [if_pos ⟨by omega, fun x hx => hfit x (((ofD_counts l0 a1).mem_iff cmpS_is x).1 hx).1⟩, ofD_again]
    have e4 : Ev (fun k => merkhetref01_Same.f k (ofD l0 a1) (ofD l0 a1)) true := by
      have := same_ev (ofD l0 a1) (ofD l0 a1) (by unfold maxLen; omega)
      rwa [sameB_self] at this
    refine Ev.succ ?_
    simp only [merkhetlaw09_DedupeSet.j2]
    exact Ev.bind (Ev.const e1) (Ev.bind (Ev.const fixed09) (Ev.pos rfl (Ev.bind (Ev.const e2) (Ev.bind e4 (Ev.pos rfl (Ev.bind (Ev.const e3) (Ev.bind e4 (Ev.now _))))))))
  have loop : ∀ (d i : Nat) (x7 : List Span), l2.length - i = d → i ≤ l2.length → x7.length = l0.length + i → (∀ x, x ∈ x7 ↔ x ∈ l0) → Ev (fun k => merkhetlaw09_DedupeSet.l0 k l0 a1 x7 l2 (l2.length : Int) (i : Int)) true := by
    intro d
    induction d with
    | zero =>
      intro i x7 hd hi hx hm
      refine Ev.succ ?_
      simp only [merkhetlaw09_DedupeSet.l0]
      exact Ev.neg (by omega) (tail x7 (by omega) hm)
    | succ d ih =>
      intro i x7 hd hi hx hm
      have hil : i < l2.length := by omega
      refine Ev.succ ?_
      simp only [merkhetlaw09_DedupeSet.l0]
      refine Ev.pos (by omega) (Ev.pos (by omega) (Ev.pos (by omega) ?_))
      by_cases h0 : (l0.length : Int) = 0
      · exact Ev.pos h0 (tail x7 (by omega) hm)
      refine Ev.neg h0 ?_
      have hr : rd l2 (i : Int) = l2[i] := by simp [rd, List.getD, hil]
      have hwf := wf_u8 (hu l2[i] (List.getElem_mem hil))
      rw [hr, wrap_id (by omega) (by omega)]
      obtain ⟨q, hq⟩ : ∃ q : Nat, l2[i] = (q : Int) := ⟨l2[i].toNat, by omega⟩
      rw [hq, ← Int.ofNat_tmod, ← Int.ofNat_tmod]
      have hpos : 0 < l0.length := by omega
      have hb1 : q % l0.length < l0.length := Nat.mod_lt _ hpos
      have ha1 : i % l0.length < l0.length := Nat.mod_lt _ hpos
      have hmem : rd_T27 l0 ((q % l0.length : Nat) : Int) ∈ l0 := by
        have : rd_T27 l0 ((q % l0.length : Nat) : Int) = l0[q % l0.length] := by
          rw [rd_at, Int.toNat_natCast]; simp [List.getD, hb1]
        rw [this]; exact List.getElem_mem _
      have hsw : ∀ x, x ∈ (x7.set (i % l0.length) (rd_T27 x7 ((q % l0.length : Nat) : Int))).set (q % l0.length) (rd_T27 x7 ((i % l0.length : Nat) : Int)) ↔ x ∈ l0 := by
        intro x
        rw [rd_at, rd_at, Int.toNat_natCast, Int.toNat_natCast, swap_mem x7 _ _ (by omega) (by omega), hm]
      refine Ev.pos (by omega) (Ev.pos (by omega) (Ev.pos (by omega) (Ev.pos (by omega) ?_)))
      rw [Int.toNat_natCast, Int.toNat_natCast]
      refine Ev.bind (Ev.now _) (Ev.pos (by omega) (Ev.pos (by rw [List.length_set, List.length_set]; omega) ?_))
      rw [wrap_id (by omega) (by omega)]
      refine ih (i + 1) _ (by omega) (by omega) (by simp; omega) ?_
      intro x
      rw [List.mem_append, List.mem_singleton]
      constructor
      · rintro (h | h)
        · exact (hsw x).1 h
        · rw [h]; exact hmem
      · exact fun h => .inl ((hsw x).2 h)
  refine Ev.succ ?_
  simp only [merkhetlaw09_DedupeSet.j0]
  refine Ev.neg (by simp) (Ev.bind (Ev.now _) (Ev.pos (by simp; omega) ?_))
  exact loop l2.length 0 l0 (by omega) (by omega) (by simp) (fun x => Iff.rfl)
end Go.Proofs.Ytkpmaenhkjfncaa.Pure
