/- Texts joined by wip/tools/merge.py: PureStatsSums. -/
import Derived.Test.YtmfdhcgdibefiaaJStatsSums27
/- StatsSums, the plain part: all tallies together have all spans that may be, and all their durations. -/
namespace Go.Proofs.Ytmfdhcgdibefiaa.Pure
set_option linter.unusedVariables false
open Go.RowKit Go.Proofs.Ytmfdhcgdibefiaa.Q Go.Proofs.Ytmfdhcgdibefiaa.R Go.Proofs.Ytmfdhcgdibefiaa.S Go.Proofs.YtmfdhcgdibefiaaW.PrintWords Go.Proofs.YtmfdhcgdibefiaaW.PrintLast Go.Proofs.YtmfdhcgdibefiaaW.PrintMore Go.Proofs.YtmfdhcgdibefiaaW.Lib Go.Proofs.Ytmfdhcgdibefiaa.L

theorem less_cmp : ∀ a b : List UInt8, Go.Lib.compareBytes a b < 0 → Op.bytesLess a b = true
  | [], [] => by simp [Go.Lib.compareBytes]
  | [], _ :: _ => by simp [Op.bytesLess]
  | _ :: _, [] => by simp [Go.Lib.compareBytes]
  | x :: a, y :: b => by
    have ih := less_cmp a b
    intro h
    simp only [Go.Lib.compareBytes] at h
    simp only [Op.bytesLess, Bool.or_eq_true, Bool.and_eq_true, decide_eq_true_eq, beq_iff_eq]
    by_cases h1 : x < y
    · exact Or.inl h1
    · rw [if_neg h1] at h
      by_cases h2 : y < x
      · rw [if_pos h2] at h; omega
      · rw [if_neg h2] at h
        refine Or.inr ⟨?_, ih h⟩
        have := mt UInt8.lt_iff_toNat_lt.2 h1
        have := mt UInt8.lt_iff_toNat_lt.2 h2
        exact UInt8.toNat_inj.1 (by omega)
theorem less_of_cmp {a b : ByteArray} (h : cmpB a b < 0) : Op.bytesLess a.toList b.toList = true := by
  rw [toList_data, toList_data]
  exact less_cmp _ _ h
theorem rdTal {l : List Tal} {i : Nat} (h : i < l.length) : rd_T44 l (i : Int) = l[i] := by simp [rd_T44, List.getD, h]
theorem rdSp {l : List S37} {i : Nat} (h : i < l.length) : rd_T37 l (i : Int) = l[i] := by simp [rd_T37, List.getD, h]
theorem take_sum {α : Type} (p : α → Int) (l : List α) (j : Nat) (h : j < l.length) : sumL ((l.take (j + 1)).map p) = sumL ((l.take j).map p) + p l[j] := by
  rw [List.take_succ_eq_append_getElem h, List.map_append, sumL_app]
  simp [sumL_cons, sumL_nil]
theorem kinds (s : S37) (h : mayS s = true) (h0 : 0 ≤ s.f3) : kind1 s + kind2 s = if s.f3 = 0 then 0 else 1 := by
  have : ¬ s.f3 > 2 := by
    simp [mayS, mayB] at h
    omega
  unfold kind1 kind2
  (repeat' split) <;> omega
theorem fitR_wf {s : S37} (h : wf37 s) : fitS s ∧ 0 ≤ s.f3 := by
  refine ⟨⟨h.2.1, h.2.2.2.2.1, h.2.2.2.2.2.1⟩, ?_⟩
  have := h.2.2.2.1
  simp [Lit.wf, IntKind.min, IntKind.max, IntKind.signed, IntKind.bits] at this
  exact this.1
theorem of_one {l : List S37} (hl : l.length ≤ 1759218604441) (hf : ∀ x ∈ l, fitS x) : stats_Of.f l = some (talsL l) := by
  unfold stats_Of.f
  rw [if_pos ⟨hl, hf⟩]
theorem goodL_take (l : List S37) (j : Nat) (h : j < l.length) : goodL (l.take (j + 1)) = if mayS l[j] = true then goodL (l.take j) ++ [l[j]] else goodL (l.take j) := by
  have := goodL_next l (j : Int) (by omega) (by omega)
  rw [rdSp h] at this
  exact this
theorem StatsSums (l0 : List (S37)) (w0 : (l0.length ≤ maxLen ∧ l0.length * 80 ≤ reachBytes ∧ ∀ x ∈ l0, wf37 x)) : ∃ k, merkhetlaw27_StatsSums.f k l0 = some true := by
  obtain ⟨_, _, hw⟩ := w0
  refine Ev.rounds (g := fun k => merkhetlaw27_StatsSums.f k l0) ?_
  unfold merkhetlaw27_StatsSums.f
  have hfr : ∀ s ∈ l0, fitS s ∧ 0 ≤ s.f3 := fun s hs => fitR_wf (hw s hs)
  have hf : ∀ s ∈ l0, fitS s := fun s hs => (hfr s hs).1
  obtain ⟨b, hb, hb2⟩ := great_ev l0
  refine Ev.bind hb (Ev.ite (fun h => Ev.bind fixed27 (Ev.now _)) (fun h => ?_))
  obtain ⟨h60, _⟩ := hb2 (by simpa using h)
  have hof : stats_Of.f l0 = some (talsL l0) := of_one (by omega) hf
  refine Ev.bind (Ev.const hof) ?_
  obtain ⟨t1, t2, t3⟩ := tals_sum l0 (by omega)
  have tl := tals_length l0
  have trise := tals_rise l0
  have tin : ∀ t ∈ talsL l0, 1 ≤ t.f1 ∧ TalIn (goodL l0).length t := fun t ht => ⟨tal_pos ht, tals_in ht⟩
  have gl := goodL_length l0
  have gd : ∀ s ∈ goodL l0, 0 ≤ s.f7 ∧ s.f7 ≤ 1125899906842624 := fun s hs => ⟨(mayB_le (goodL_mem hs).2).2.2.1, (mayB_le (goodL_mem hs).2).2.2.2⟩
  have gk : ∀ s ∈ goodL l0, kind1 s + kind2 s = if s.f3 = 0 then 0 else 1 := fun s hs => kinds s (goodL_mem hs).2 (hfr s (goodL_mem hs).1).2
  have b2 : sumL ((goodL l0).map fun s => s.f7) ≤ 60 * 1125899906842624 := by
    have := sumL_le (l := (goodL l0).map fun s => s.f7) (B := 1125899906842624) (fun x hx => by obtain ⟨s, hs, rfl⟩ := List.mem_map.1 hx; exact (gd s hs).2)
    rw [List.length_map] at this
    omega
  have b3 : sumL ((goodL l0).map fun s => kind1 s + kind2 s) ≤ 60 := by
    have := sumL_le (l := (goodL l0).map fun s => kind1 s + kind2 s) (B := 1) (fun x hx => by obtain ⟨s, hs, rfl⟩ := List.mem_map.1 hx; rw [gk s hs]; split <;> omega)
    rw [List.length_map] at this
    omega
  -- the second loop
  have second : ∀ (d j : Nat), l0.length - j = d → j ≤ l0.length → Ev (fun k => merkhetlaw27_StatsSums.l1 k (sumL ((talsL l0).map (·.f1))) (sumL ((talsL l0).map (·.f2))) (sumL ((talsL l0).map fun t => t.f3 + t.f4))
      ((goodL (l0.take j)).length : Int) (sumL ((goodL (l0.take j)).map fun s => s.f7)) (sumL ((goodL (l0.take j)).map fun s => kind1 s + kind2 s)) l0 (l0.length : Int) (j : Int)) true := by
    intro d
    induction d with
    | zero =>
      intro j hd hj
      have e : j = l0.length := by omega
      subst e
      refine Ev.succ ?_
      simp only [merkhetlaw27_StatsSums.l1]
      rw [List.take_length]
      refine Ev.neg (by omega) (Ev.bind fixed27 (Ev.pos rfl (Ev.pos t1 (Ev.pos t2 (Ev.cast (Ev.now _) ?_)))))
      rw [t3]; simp
    | succ d ih =>
      intro j hd hj
      have hlt : j < l0.length := by omega
      have hn := ih (j + 1) (by omega) (by omega)
      have hm : l0[j] ∈ l0 := List.getElem_mem hlt
      have hone : stats_Of.f [l0[j]] = some (talsL [l0[j]]) := of_one (by simp) (fun x hx => by rw [List.mem_singleton] at hx; rw [hx]; exact hf _ hm)
      have e1 := tals_one l0[j]
      have e2 := goodL_take l0 j hlt
      have hgl := goodL_length (l0.take j)
      rw [List.length_take] at hgl
      have gd' : ∀ s ∈ goodL (l0.take j), 0 ≤ s.f7 ∧ s.f7 ≤ 1125899906842624 := fun s hs => ⟨(mayB_le (goodL_mem hs).2).2.2.1, (mayB_le (goodL_mem hs).2).2.2.2⟩
      have gk' : ∀ s ∈ goodL (l0.take j), 0 ≤ kind1 s + kind2 s ∧ kind1 s + kind2 s ≤ 1 := fun s hs => by
        rw [kinds s (goodL_mem hs).2 (hfr s (List.mem_of_mem_take (goodL_mem hs).1)).2]; split <;> omega
      have c1 : 0 ≤ sumL ((goodL (l0.take j)).map fun s => s.f7) := sumL_nonneg (fun x hx => by obtain ⟨s, hs, rfl⟩ := List.mem_map.1 hx; exact (gd' s hs).1)
      have c2 : sumL ((goodL (l0.take j)).map fun s => s.f7) ≤ 60 * 1125899906842624 := by
        have := sumL_le (l := (goodL (l0.take j)).map fun s => s.f7) (B := 1125899906842624) (fun x hx => by obtain ⟨s, hs, rfl⟩ := List.mem_map.1 hx; exact (gd' s hs).2)
        rw [List.length_map] at this
        omega
      have c3 : 0 ≤ sumL ((goodL (l0.take j)).map fun s => kind1 s + kind2 s) := sumL_nonneg (fun x hx => by obtain ⟨s, hs, rfl⟩ := List.mem_map.1 hx; exact (gk' s hs).1)
      have c4 : sumL ((goodL (l0.take j)).map fun s => kind1 s + kind2 s) ≤ 60 := by
        have := sumL_le (l := (goodL (l0.take j)).map fun s => kind1 s + kind2 s) (B := 1) (fun x hx => by obtain ⟨s, hs, rfl⟩ := List.mem_map.1 hx; exact (gk' s hs).2)
        rw [List.length_map] at this
        omega
      refine Ev.succ ?_
      simp only [merkhetlaw27_StatsSums.l1]
      refine Ev.pos (by omega) (Ev.pos (by omega) (Ev.pos (by omega) ?_))
      rw [rdSp hlt]
      refine Ev.bind (Ev.const hone) ?_
      rw [wrap_id (i := (j : Int) + 1) (by omega) (by omega)]
      by_cases hy : mayS l0[j] = true
      · have h7 := (mayB_le hy).2.2
        have hk := kinds l0[j] hy (hfr _ hm).2
        rw [e2, if_pos hy, List.length_append, List.map_append, List.map_append, sumL_app, sumL_app] at hn
        simp only [List.map_cons, List.map_nil, sumL_cons, sumL_nil, List.length_cons, List.length_nil, Int.natCast_add, Int.add_zero] at hn
        rw [wrap_id (i := ((goodL (l0.take j)).length : Int) + 1) (by omega) (by omega), wrap_id (i := sumL ((goodL (l0.take j)).map fun s => s.f7) + l0[j].f7) (by omega) (by omega)]
        refine Ev.neg (fun q => ?_) (Ev.ite (fun q => ?_) (fun q => ?_))
        · have := e1.1 (List.length_eq_zero_iff.1 (by omega))
          rw [hy] at this; cases this
        · rw [hk, if_pos q, Int.add_zero] at hn
          exact hn
        · rw [wrap_id (i := sumL ((goodL (l0.take j)).map fun s => kind1 s + kind2 s) + 1) (by omega) (by omega)]
          rw [hk, if_neg q] at hn
          exact hn
      · rw [e2, if_neg hy] at hn
        refine Ev.pos ?_ hn
        have := e1.2 (by simpa using hy)
        rw [this]; rfl
  -- the first loop
  have first : ∀ (d j : Nat), (talsL l0).length - j = d → j ≤ (talsL l0).length → Ev (fun k => merkhetlaw27_StatsSums.l0 k l0 (sumL (((talsL l0).take j).map (·.f1))) (sumL (((talsL l0).take j).map (·.f2))) (sumL (((talsL l0).take j).map fun t => t.f3 + t.f4)) (talsL l0) ((talsL l0).length : Int) (j : Int)) true := by
    intro d
    induction d with
    | zero =>
      intro j hd hj
      have e : j = (talsL l0).length := by omega
      subst e
      refine Ev.succ ?_
      simp only [merkhetlaw27_StatsSums.l0]
      rw [List.take_length]
      exact Ev.neg (by omega) (second l0.length 0 (by omega) (by omega))
    | succ d ih =>
      intro j hd hj
      have hlt : j < (talsL l0).length := by omega
      have hn := ih (j + 1) (by omega) (by omega)
      have hm : (talsL l0)[j] ∈ talsL l0 := List.getElem_mem hlt
      obtain ⟨p1, hin⟩ := tin _ hm
      rw [take_sum (fun t : Tal => t.f1) _ j hlt, take_sum (fun t : Tal => t.f2) _ j hlt, take_sum (fun t : Tal => t.f3 + t.f4) _ j hlt] at hn
      have q1 := sumL_take (l := (talsL l0).map fun t : Tal => t.f1) (fun x hx => by obtain ⟨t, ht, rfl⟩ := List.mem_map.1 hx; exact (tin t ht).2.n0) j
      have q1' := sumL_take (l := (talsL l0).map fun t : Tal => t.f1) (fun x hx => by obtain ⟨t, ht, rfl⟩ := List.mem_map.1 hx; exact (tin t ht).2.n0) (j + 1)
      have q2 := sumL_take (l := (talsL l0).map fun t : Tal => t.f2) (fun x hx => by obtain ⟨t, ht, rfl⟩ := List.mem_map.1 hx; exact (tin t ht).2.d0) j
      have q2' := sumL_take (l := (talsL l0).map fun t : Tal => t.f2) (fun x hx => by obtain ⟨t, ht, rfl⟩ := List.mem_map.1 hx; exact (tin t ht).2.d0) (j + 1)
      have n3 : ∀ x ∈ (talsL l0).map (fun t : Tal => t.f3 + t.f4), 0 ≤ x := fun x hx => by obtain ⟨t, ht, rfl⟩ := List.mem_map.1 hx; have h1 := (tin t ht).2.c0; have h2 := (tin t ht).2.s0; show 0 ≤ t.f3 + t.f4; omega
      have q3 := sumL_take n3 j
      have q3' := sumL_take n3 (j + 1)
      rw [← List.map_take] at q1 q1' q2 q2' q3 q3'
      rw [take_sum (fun t : Tal => t.f1) _ j hlt] at q1'
      rw [take_sum (fun t : Tal => t.f2) _ j hlt] at q2'
      rw [take_sum (fun t : Tal => t.f3 + t.f4) _ j hlt] at q3'
      have z1 := hin.c0
      have z2 := hin.s0
      have z3 := hin.cs
      have z4 := hin.n1
      rw [t1] at q1 q1'
      rw [t2] at q2 q2'
      rw [t3] at q3 q3'
      have hgo : ∀ (x y : ByteArray) (u0 u1 u2 u3 : Int), Ev (fun k => merkhetlaw27_StatsSums.j1 k l0 (sumL (((talsL l0).take j).map fun t : Tal => t.f1)) (sumL (((talsL l0).take j).map fun t : Tal => t.f2)) (sumL (((talsL l0).take j).map fun t : Tal => t.f3 + t.f4)) (talsL l0) ((talsL l0).length : Int) (j : Int) false (talsL l0)[j].f0 (talsL l0)[j].f1 (talsL l0)[j].f2 (talsL l0)[j].f3 (talsL l0)[j].f4) true := by
        intro _ _ _ _ _ _
        refine Ev.succ ?_
        simp only [merkhetlaw27_StatsSums.j1]
        refine Ev.neg (by simp) ?_
        rw [wrap_id (i := sumL (((talsL l0).take j).map fun t : Tal => t.f1) + (talsL l0)[j].f1) (by omega) (by omega), wrap_id (i := sumL (((talsL l0).take j).map fun t : Tal => t.f2) + (talsL l0)[j].f2) (by omega) (by omega), wrap_id (i := sumL (((talsL l0).take j).map fun t : Tal => t.f3 + t.f4) + (talsL l0)[j].f3) (by omega) (by omega), Int.add_assoc, wrap_id (i := sumL (((talsL l0).take j).map fun t : Tal => t.f3 + t.f4) + ((talsL l0)[j].f3 + (talsL l0)[j].f4)) (by omega) (by omega), wrap_id (i := (j : Int) + 1) (by omega) (by omega)]
        exact hn
      have hdec : decide (wrap64 ((talsL l0)[j].f3 + (talsL l0)[j].f4) > (talsL l0)[j].f1) = false := by
        rw [wrap_id (i := (talsL l0)[j].f3 + (talsL l0)[j].f4) (by omega) (by omega)]
        exact decide_eq_false (by omega)
      refine Ev.succ ?_
      simp only [merkhetlaw27_StatsSums.l0]
      refine Ev.pos (by omega) (Ev.pos (by omega) (Ev.pos (by omega) ?_))
      rw [rdTal hlt, hdec]
      refine Ev.ite (fun h0 => ?_) (fun h0 => ?_)
      · refine Ev.bind (Ev.const hof) ?_
        have hj1 : ((j : Int) - 1) = ((j - 1 : Nat) : Int) := by omega
        rw [wrap_id (i := (j : Int) - 1) (by omega) (by omega), hj1, rdTal (l := talsL l0) (i := j - 1) (by omega)]
        have hr := List.pairwise_iff_getElem.1 trise (j - 1) j (by omega) hlt (by omega)
        exact Ev.pos (by omega) (Ev.pos (by omega) (Ev.pos (less_of_cmp hr) (Ev.neg (by omega) (Ev.neg (by omega) (Ev.neg (by omega) (hgo .empty .empty 0 0 0 0))))))
      · exact Ev.neg (by omega) (Ev.neg (by omega) (Ev.neg (by omega) (hgo .empty .empty 0 0 0 0)))
  exact first (talsL l0).length 0 (by omega) (by omega)

end Go.Proofs.Ytmfdhcgdibefiaa.Pure

