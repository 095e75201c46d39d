/- The document's records that count, as plain lists. -/
import Derived.Test.YtkpmaenhkjfncaaDedL
import Derived.Test.YtkpmaenhkjfncaaQx8
namespace Go.Proofs.Ytkpmaenhkjfncaa.L
open Go.RowKit Go.Proofs.Ytkpmaenhkjfncaa.Q Go.Proofs.YtkpmaenhkjfncaaW.PrintWords Go.Proofs.YtkpmaenhkjfncaaW.PrintLast Go.Proofs.YtkpmaenhkjfncaaW.PrintMore Go.Proofs.YtkpmaenhkjfncaaW.Lib
set_option linter.unusedVariables false

/-- The document's records that count. -/
def ofR (l : List Span) (t : Int) : List Span := (sortR (l.filter (okS t))).foldl (stepF (·.f1)) []
theorem ofR_eq (l : List Span) (t : Int) : ofR l t = ofD l t := by
  have hs : (sortR (l.filter (okS t))).Pairwise leS := sortR_sorted _
  have hm : ∀ x, x ∈ sortR (l.filter (okS t)) ↔ x ∈ l ∧ okS t x = true := fun x => by
    rw [(sortR_perm _).mem_iff, List.mem_filter]
  have h := stepF_counts (c := cmpS) (id := (·.f1)) (ok := okS t) cmpS_is (sortR (l.filter (okS t))) [] [] (by rw [List.nil_append]; exact hs) (fun x hx => ((hm x).1 hx).2) counts_nil (List.nil_sublist _)
  simp only [List.nil_append] at h
  have h1 : Counts cmpS (·.f1) (okS t) l (ofR l t) := h.1.from (fun x hx => by rw [hm]; exact ⟨fun h => h.1, fun h => ⟨h, hx⟩⟩)
  exact h1.one cmpS_is (ofD_counts l t) (hs.sublist h.2) (ofD_sorted l t) (fun _ => Iff.rfl)

theorem rof_ev (x : List Span) (t : Int) (hx : x.length ≤ 1000) (hw : ∀ s ∈ x, wf27 s) : Ev (fun k => merkhetref09_Of.f k x t) (ofR x t) := by
  have hr : reachBytes = 140737488351232 := rfl
  -- the second loop
  have firsts : ∀ (y : List Span), y.length ≤ 1000 → ∀ (d i : Nat), y.length - i = d → i ≤ y.length → ∀ o : List Span, o.length ≤ i → Ev (fun k => merkhetref09_Of.l1 k y o (i : Int)) ((y.drop i).foldl (stepF (·.f1)) o) := by
    intro y hy d
    induction d with
    | zero =>
      intro i hd hi o ho
      refine Ev.succ ?_
      simp only [merkhetref09_Of.l1]
      rw [List.drop_of_length_le (by omega)]
      exact Ev.neg (by omega) (Ev.now _)
    | succ d ih =>
      intro i hd hi o ho
      have hiy : i < y.length := by omega
      rw [List.drop_eq_getElem_cons hiy, List.foldl_cons]
      have hnext := fun o' (h' : o'.length ≤ i + 1) => ih (i + 1) (by omega) (by omega) o' h'
      generalize hres : (y.drop (i + 1)).foldl (stepF (·.f1)) (stepF (·.f1) o y[i]) = res
      have inner : ∀ (e j : Nat) (b : Bool), o.length - j = e → j ≤ o.length → (b || (o.drop j).any (fun z => decide (z.f1 = y[i].f1))) = o.any (fun z => decide (z.f1 = y[i].f1)) → Ev (fun k => merkhetref09_Of.l2 k y o (i : Int) b (j : Int)) res := by
        intro e
        induction e with
        | zero =>
          intro j b he hj hb
          rw [List.drop_of_length_le (by omega), List.any_nil, Bool.or_false] at hb
          refine Ev.succ ?_
          simp only [merkhetref09_Of.l2, rdS_nat y i hiy]
          refine Ev.neg (by omega) ?_
          rw [wrap_id (by omega) (by omega)]
          refine Ev.ite (fun h => ?_) (fun h => ?_)
          · have hst : stepF (·.f1) o y[i] = o := by unfold stepF; rw [if_pos (by rw [← hb]; exact h)]
            rw [hst] at hres
            rw [← hres]
            exact hnext o (by omega)
          · have hst : stepF (·.f1) o y[i] = o ++ [y[i]] := by unfold stepF; rw [if_neg (by rw [← hb]; exact h)]
            rw [hst] at hres
            rw [← hres]
            exact Ev.pos (by omega) (Ev.pos (by omega) (Ev.pos (by omega) (hnext _ (by simp; omega))))
        | succ e ihe =>
          intro j b he hj hb
          have hjo : j < o.length := by omega
          rw [List.drop_eq_getElem_cons hjo, List.any_cons] at hb
          refine Ev.succ ?_
          simp only [merkhetref09_Of.l2, rdS_nat y i hiy, rdS_nat o j hjo]
          refine Ev.pos (by omega) (Ev.pos (by omega) (Ev.pos (by omega) (Ev.pos (by omega) ?_)))
          rw [wrap_id (by omega) (by omega)]
          refine Ev.ite (fun h => ?_) (fun h => ?_)
          · exact ihe (j + 1) true (by omega) (by omega) (by rw [← hb, decide_eq_true h]; simp)
          · exact ihe (j + 1) b (by omega) (by omega) (by rw [← hb, decide_eq_false h, Bool.false_or])
      refine Ev.succ ?_
      simp only [merkhetref09_Of.l1]
      exact Ev.pos (by omega) (inner o.length 0 false (by omega) (by omega) (by simp))
  -- the first loop
  have key : ∀ (d i : Nat), x.length - i = d → i ≤ x.length → ∀ a : List Span, a.length ≤ i → (∀ s ∈ a, wf27 s) → Ev (fun k => merkhetref09_Of.l0 k x t a (i : Int)) ((sortR (a ++ (x.drop i).filter (okS t))).foldl (stepF (·.f1)) []) := by
    intro d
    induction d with
    | zero =>
      intro i hd hi a ha haw
      refine Ev.succ ?_
      simp only [merkhetref09_Of.l0]
      rw [List.drop_of_length_le (by omega), List.filter_nil, List.append_nil]
      refine Ev.neg (by omega) (Ev.bind (rsort_ev a (by omega) haw) ?_)
      have hl : (sortR a).length = a.length := (sortR_perm a).length_eq
      have := firsts (sortR a) (by rw [hl]; omega) (sortR a).length 0 (by omega) (by omega) [] (by simp)
      simpa using this
    | succ d ih =>
      intro i hd hi a ha haw
      have hix : i < x.length := by omega
      have ws := hw x[i] (List.getElem_mem hix)
      have skip := ih (i + 1) (by omega) (by omega) a (by omega) haw
      have take := ih (i + 1) (by omega) (by omega) (a ++ [x[i]]) (by simp; omega) (fun s hs => by
        rcases List.mem_append.1 hs with hs | hs
        · exact haw s hs
        · obtain rfl := List.mem_singleton.1 hs; exact ws)
      refine Ev.succ ?_
      simp only [merkhetref09_Of.l0, rdS_nat x i hix]
      rw [List.drop_eq_getElem_cons hix, List.filter_cons]
      refine Ev.pos (by omega) (Ev.pos (by omega) ?_)
      rw [wrap_id (by omega) (by omega)]
      refine Ev.ite (fun h => ?_) (fun h => ?_)
      · refine Ev.bind (rmay_ev _ _ _ _ _ _ _ _ (wf_u8 ws.2.2.2.1).1 ws.2.2.2.2.1 ws.2.2.2.2.2.1) (Ev.ite (fun h2 => ?_) (fun h2 => ?_))
        · have hok : okS t x[i] = true := by unfold okS; rw [h2, decide_eq_true h]; rfl
          rw [if_pos hok]
          refine Ev.pos (by omega) ?_
          rw [show a ++ x[i] :: (x.drop (i + 1)).filter (okS t) = a ++ [x[i]] ++ (x.drop (i + 1)).filter (okS t) by simp]
          exact take
        · have hok : ¬ okS t x[i] = true := by unfold okS; rw [Bool.and_eq_true]; exact fun h3 => h2 h3.2
          rw [if_neg hok]
          exact skip
      · have hok : ¬ okS t x[i] = true := by unfold okS; rw [decide_eq_false h, Bool.false_and]; simp
        rw [if_neg hok]
        exact skip
  have := key x.length 0 (by omega) (by omega) [] (by simp) (by simp)
  simpa [merkhetref09_Of.f, ofR] using this
end Go.Proofs.Ytkpmaenhkjfncaa.L
