/- Texts joined by wip/tools/merge.py: PureStatsTallies. -/
import Derived.Test.YtmfdhcgdibefiaaJStatsTallies28
import Derived.Test.YtmfdhcgdibefiaaJStatsTallies25
/- StatsTallies, the plain part: the tallies are the document's. -/
namespace Go.Proofs.Ytmfdhcgdibefiaa.Pure
set_option linter.unusedVariables false
open Go.RowKit Go.Proofs.Ytmfdhcgdibefiaa.Q Go.Proofs.Ytmfdhcgdibefiaa.R Go.Proofs.Ytmfdhcgdibefiaa.T Go.Proofs.Ytmfdhcgdibefiaa.U Go.Proofs.YtmfdhcgdibefiaaW.PrintWords Go.Proofs.YtmfdhcgdibefiaaW.PrintLast Go.Proofs.YtmfdhcgdibefiaaW.PrintMore Go.Proofs.YtmfdhcgdibefiaaW.Lib Go.Proofs.Ytmfdhcgdibefiaa.L
theorem rdSp {l : List S37} {i : Nat} (h : i < l.length) : rd_T37 l (i : Int) = l[i] := by simp [rd_T37, List.getD, h]
theorem rdTx {l : List ByteArray} {i : Nat} (h : i < l.length) : rdOf ByteArray.empty l (i : Int) = l[i] := by simp [rdOf, List.getD, h]
theorem fitR_wf {s : S37} (h : wf37 s) : fitS s ∧ 0 ≤ s.f3 := by
  refine ⟨⟨h.2.1, h.2.2.2.2.1, h.2.2.2.2.2.1⟩, ?_⟩
  have := h.2.2.2.1
  simp [Lit.wf, IntKind.min, IntKind.max, IntKind.signed, IntKind.bits] at this
  exact this.1
theorem goodL_take (l : List S37) (j : Nat) (h : j < l.length) : goodL (l.take (j + 1)) = if mayS l[j] = true then goodL (l.take j) ++ [l[j]] else goodL (l.take j) := by
  have := goodL_next l (j : Int) (by omega) (by omega)
  rw [rdSp h] at this
  exact this
/-- Two alike are the same. -/
theorem same27_self (a : List Tal) (ha : a.length ≤ 1000000000) : Ev (fun k => merkhetref27_Same.f k a a) true := by
  unfold merkhetref27_Same.f
  refine Ev.pos rfl ?_
  have key : ∀ (d i : Nat), a.length - i = d → i ≤ a.length → Ev (fun k => merkhetref27_Same.l0 k a a (i : Int)) true := by
    intro d
    induction d with
    | zero =>
      intro i hd hi
      refine Ev.succ ?_
      simp only [merkhetref27_Same.l0]
      exact Ev.neg (by omega) (Ev.now _)
    | succ d ih =>
      intro i hd hi
      have hn := ih (i + 1) (by omega) (by omega)
      refine Ev.succ ?_
      simp only [merkhetref27_Same.l0]
      refine Ev.pos (by omega) (Ev.pos (by omega) (Ev.pos (by omega) (Ev.neg (by simp) ?_)))
      rw [wrap_id (i := (i : Int) + 1) (by omega) (by omega)]
      exact hn
  exact key a.length 0 (by omega) (by omega)
/-- The document's tallies. -/
theorem rtals_ev (l : List S37) (hl : l.length ≤ 60) (hf : ∀ s ∈ l, fitS s ∧ 0 ≤ s.f3) : Ev (fun k => merkhetref27_Of.f k l) (talsL l) := by
  unfold merkhetref27_Of.f
  have gl := goodL_length l
  have gf : ∀ s ∈ goodL l, fitS s := fun s hs => (hf s (goodL_mem hs).1).1
  have gd : ∀ s ∈ goodL l, 0 ≤ s.f7 ∧ s.f7 ≤ 1125899906842624 := fun s hs => ⟨(mayB_le (goodL_mem hs).2).2.2.1, (mayB_le (goodL_mem hs).2).2.2.2⟩
  have hbl := hostsB_length (goodL l)
  -- the second loop
  have second : ∀ (d i : Nat), (hostsB (goodL l)).length - i = d → i ≤ (hostsB (goodL l)).length → Ev (fun k => merkhetref27_Of.l1 k (goodL l) (((hostsB (goodL l)).take i).map (talOf (goodL l))) (hostsB (goodL l)) (i : Int)) (talsL l) := by
    intro d
    induction d with
    | zero =>
      intro i hd hi
      have e : i = (hostsB (goodL l)).length := by omega
      subst e
      refine Ev.succ ?_
      simp only [merkhetref27_Of.l1]
      rw [List.take_length]
      exact Ev.neg (by omega) (Ev.now _)
    | succ d ih =>
      intro i hd hi
      have hlt : i < (hostsB (goodL l)).length := by omega
      have hn := ih (i + 1) (by omega) (by omega)
      refine Ev.succ ?_
      simp only [merkhetref27_Of.l1]
      refine Ev.pos (by omega) (Ev.pos (by omega) ?_)
      rw [rdTx hlt]
      rw [List.take_succ_eq_append_getElem hlt, List.map_append] at hn
      have hlen : (((hostsB (goodL l)).take i).map (talOf (goodL l))).length = i := by rw [List.length_map, List.length_take]; omega
      generalize (((hostsB (goodL l)).take i).map (talOf (goodL l))) = out at *
      -- the inner loop
      have inner : ∀ (e j : Nat), (goodL l).length - j = e → j ≤ (goodL l).length → Ev (fun k => merkhetref27_Of.l2 k (goodL l) out (hostsB (goodL l)) (i : Int) (j : Int) (hostsB (goodL l))[i] (talOf ((goodL l).take j) (hostsB (goodL l))[i]).f1 (talOf ((goodL l).take j) (hostsB (goodL l))[i]).f2 (talOf ((goodL l).take j) (hostsB (goodL l))[i]).f3 (talOf ((goodL l).take j) (hostsB (goodL l))[i]).f4) (talsL l) := by
        intro e
        induction e with
        | zero =>
          intro j he hj
          have ej : j = (goodL l).length := by omega
          subst ej
          refine Ev.succ ?_
          simp only [merkhetref27_Of.l2]
          rw [List.take_length]
          refine Ev.neg (by omega) (Ev.pos (by omega) ?_)
          rw [wrap_id (i := (i : Int) + 1) (by omega) (by omega)]
          have hh := talOf_host (goodL l) (hostsB (goodL l))[i]
          have e2 : (⟨(hostsB (goodL l))[i], (talOf (goodL l) (hostsB (goodL l))[i]).f1, (talOf (goodL l) (hostsB (goodL l))[i]).f2, (talOf (goodL l) (hostsB (goodL l))[i]).f3, (talOf (goodL l) (hostsB (goodL l))[i]).f4⟩ : Tal) = talOf (goodL l) (hostsB (goodL l))[i] := by
            generalize talOf (goodL l) (hostsB (goodL l))[i] = t at *
            cases t
            simp only at hh
            rw [hh]
          rw [e2]
          exact hn
        | succ e ihe =>
          intro j he hj
          have hjl : j < (goodL l).length := by omega
          have hn2 := ihe (j + 1) (by omega) (by omega)
          have hin := talOf_in ((goodL l).take j) (hostsB (goodL l))[i] (fun s hs => (gd s (List.mem_of_mem_take hs)).1)
          have hd7 := gd (goodL l)[j] (List.getElem_mem hjl)
          have htl : ((goodL l).take j).length ≤ 60 := by rw [List.length_take]; omega
          obtain ⟨a1, a2, a3, a4, a5, a6, a7⟩ := hin
          rw [List.take_succ_eq_append_getElem hjl, talOf_snoc] at hn2
          refine Ev.succ ?_
          simp only [merkhetref27_Of.l2]
          refine Ev.pos (by omega) (Ev.pos (by omega) (Ev.pos (by omega) (Ev.pos (by omega) ?_)))
          rw [rdSp hjl, rdTx hlt]
          refine Ev.ite (fun h => ?_) (fun h => ?_)
          · have hx := text_eq.1 h
            rw [if_pos hx] at hn2
            generalize ht : talOf ((goodL l).take j) (hostsB (goodL l))[i] = t at *
            have go : Ev (fun k => merkhetref27_Of.j3 k (goodL l) out (hostsB (goodL l)) (i : Int) (j : Int) (hostsB (goodL l))[i] (wrap64 (t.f1 + 1)) (talStep t (goodL l)[j]).f2 t.f3 t.f4 (goodL l)[j].f0 (goodL l)[j].f1 (goodL l)[j].f2 (goodL l)[j].f3 (goodL l)[j].f4 (goodL l)[j].f5 (goodL l)[j].f6 (goodL l)[j].f7) (talsL l) := by
              refine Ev.succ ?_
              simp only [merkhetref27_Of.j3]
              rw [wrap_id (i := (j : Int) + 1) (by omega) (by omega), wrap_id (i := t.f1 + 1) (by omega) (by omega), wrap_id (i := t.f3 + 1) (by omega) (by omega), wrap_id (i := t.f4 + 1) (by omega) (by omega)]
              simp only [talStep] at hn2 ⊢
              refine Ev.ite (fun k1 => Ev.ite (fun k2 => absurd k2 (by omega)) (fun k2 => ?_)) (fun k1 => Ev.ite (fun k2 => ?_) (fun k2 => ?_))
              · rw [if_pos k1, if_neg k2] at hn2; exact hn2
              · rw [if_neg k1, if_pos k2] at hn2; exact hn2
              · rw [if_neg k1, if_neg k2] at hn2; exact hn2
            rw [wrap_id (i := 9223372036854775807 - (goodL l)[j].f7) (by omega) (by omega)]
            refine Ev.ite (fun k1 => ?_) (fun k1 => ?_)
            · have e3 : (talStep t (goodL l)[j]).f2 = 9223372036854775807 := by simp only [talStep]; rw [if_pos k1]
              rw [e3] at go
              exact go
            · have e3 : (talStep t (goodL l)[j]).f2 = t.f2 + (goodL l)[j].f7 := by simp only [talStep]; rw [if_neg k1]
              rw [e3] at go
              rw [wrap_id (i := t.f2 + (goodL l)[j].f7) (by omega) (by omega)]
              exact go
          · have hx : ¬ (goodL l)[j].f4 = (hostsB (goodL l))[i] := fun q => h (text_eq.2 q)
            rw [if_neg hx] at hn2
            rw [wrap_id (i := (j : Int) + 1) (by omega) (by omega)]
            exact hn2
      exact inner (goodL l).length 0 (by omega) (by omega)
  -- the first loop
  have first : ∀ (d j : Nat), l.length - j = d → j ≤ l.length → Ev (fun k => merkhetref27_Of.l0 k l (goodL (l.take j)) (j : Int)) (talsL l) := by
    intro d
    induction d with
    | zero =>
      intro j hd hj
      have e : j = l.length := by omega
      subst e
      refine Ev.succ ?_
      simp only [merkhetref27_Of.l0]
      rw [List.take_length]
      exact Ev.neg (by omega) (Ev.bind (rhosts_ev (goodL l) (by omega) (fun s hs => (gf s hs).2.1)) (second (hostsB (goodL l)).length 0 (by omega) (by omega)))
    | succ d ih =>
      intro j hd hj
      have hlt : j < l.length := by omega
      have hn := ih (j + 1) (by omega) (by omega)
      have hg := goodL_length (l.take j)
      rw [List.length_take] at hg
      rw [goodL_take l j hlt] at hn
      have hm := hf l[j] (List.getElem_mem hlt)
      refine Ev.succ ?_
      simp only [merkhetref27_Of.l0]
      refine Ev.pos (by omega) (Ev.pos (by omega) ?_)
      rw [rdSp hlt, wrap_id (i := (j : Int) + 1) (by omega) (by omega)]
      refine Ev.bind (rmayS_ev l[j] hm) (Ev.ite (fun h => ?_) (fun h => ?_))
      · rw [if_pos h] at hn
        exact Ev.pos (by omega) hn
      · rw [if_neg h] at hn
        exact hn
  exact first l.length 0 (by omega) (by omega)
theorem StatsTallies (l0 : List (S37)) (w0 : (l0.length ≤ maxLen ∧ l0.length * 80 ≤ reachBytes ∧ ∀ x ∈ l0, wf37 x)) : ∃ k, merkhetlaw27_StatsTallies.f k l0 = some true := by
  obtain ⟨_, _, hw⟩ := w0
  refine Ev.rounds (g := fun k => merkhetlaw27_StatsTallies.f k l0) ?_
  unfold merkhetlaw27_StatsTallies.f
  have hfr : ∀ s ∈ l0, fitS s ∧ 0 ≤ s.f3 := fun s hs => fitR_wf (hw s hs)
  obtain ⟨b, hb, hb2⟩ := great_ev l0
  refine Ev.bind hb (Ev.ite (fun h => Ev.bind fixed27 (Ev.now _)) (fun h => ?_))
  obtain ⟨h60, _⟩ := hb2 (by simpa using h)
  have hof : stats_Of.f l0 = some (talsL l0) := by
    unfold stats_Of.f
    rw [if_pos ⟨by omega, fun s hs => (hfr s hs).1⟩]
  have tl := tals_length l0
  exact Ev.bind fixed27 (Ev.pos rfl (Ev.bind (Ev.const hof) (Ev.bind (rtals_ev l0 h60 hfr) (Ev.bind (same27_self _ (by omega)) (Ev.now _)))))

end Go.Proofs.Ytmfdhcgdibefiaa.Pure

