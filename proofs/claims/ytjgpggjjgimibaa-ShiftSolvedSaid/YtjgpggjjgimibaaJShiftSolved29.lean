/- Texts joined by wip/tools/merge.py: RlxR SpanT RefH RefS RefG BndG RefK EdgeRV PureShiftSolved. -/
import Derived.Test.YtjgpggjjgimibaaJShiftSolved28
import Derived.Test.YtjgpggjjgimibaaJShiftSolved12
import Derived.Test.YtjgpggjjgimibaaJShiftSolved22
import Derived.Test.YtjgpggjjgimibaaJShiftSolved24
import Derived.Test.YtjgpggjjgimibaaJShiftSolved26
import Derived.Test.YtjgpggjjgimibaaJShiftSolved25
/- The document's layers and greatest offsets, plain. -/
namespace Go.Proofs.Ytjgpggjjgimibaa.L
open Go.RowKit Go.Proofs.Ytjgpggjjgimibaa.Q Go.Proofs.Ytjgpggjjgimibaa.X Go.Proofs.YtjgpggjjgimibaaW.PrintWords Go.Proofs.YtjgpggjjgimibaaW.PrintLast Go.Proofs.YtjgpggjjgimibaaW.PrintMore Go.Proofs.YtjgpggjjgimibaaW.Lib
set_option linter.unusedVariables false

theorem rmay15_ev (n : Int) (es : List Edge) (he : es.length ≤ 1000000000) : Ev (fun k => merkhetref15_May.f k n es) (rmayB n es) := by
  unfold merkhetref15_May.f
  have no : rmayB n es = false → Ev (fun k => merkhetref15_May.j0 k n es true) (rmayB n es) := by
    intro h
    rw [h]
    refine Ev.succ ?_
    simp only [merkhetref15_May.j0]
    exact Ev.pos trivial (Ev.now _)
  refine Ev.ite (fun c => no ?_) (fun c => ?_)
  · unfold rmayB; rw [if_neg (by omega)]
  by_cases c2 : n > 32
  · rw [decide_eq_true c2]
    refine no ?_
    unfold rmayB; rw [if_neg (by omega)]
  rw [decide_eq_false c2]
  refine Ev.succ ?_
  simp only [merkhetref15_May.j0]
  refine Ev.neg (by simp) ?_
  have hb : rmayB n es = !es.any (badE n) := by unfold rmayB; rw [if_pos ⟨by omega, by omega⟩]
  rw [hb]
  have key : ∀ (d i : Nat), es.length - i = d → i ≤ es.length → Ev (fun k => merkhetref15_May.l0 k n es (i : Int)) (!(es.drop i).any (badE n)) := by
    intro d
    induction d with
    | zero =>
      intro i hd hi
      refine Ev.succ ?_
      simp only [merkhetref15_May.l0]
      rw [List.drop_of_length_le (by omega)]
      exact Ev.neg (by omega) (Ev.now _)
    | succ d ih =>
      intro i hd hi
      have hlt : i < es.length := by omega
      have hr : rd_T37 es (i : Int) = es[i] := by simp [rd_T37, List.getD, hlt]
      have h1 := ih (i + 1) (by omega) (by omega)
      refine Ev.succ ?_
      simp only [merkhetref15_May.l0, hr]
      rw [List.drop_eq_getElem_cons hlt, List.any_cons]
      generalize es[i] = e at *
      have bad : badE n e = true → Ev (fun _ => some false) (!(badE n e || (es.drop (i + 1)).any (badE n))) := by
        intro h
        rw [h]; exact Ev.now _
      have ok : ¬ (e.f0 < 0) → ¬ (e.f0 ≥ n) → ¬ (e.f1 < 0) → ¬ (e.f1 ≥ n) → ¬ (e.f2 > 4503599627370496) → ¬ (e.f2 < -4503599627370496) → badE n e = false := by
        intro a b c d e' f
        unfold badE
        simp only [Bool.or_eq_false_iff, decide_eq_false_iff_not]
        omega
      refine Ev.pos (by omega) (Ev.pos (by omega) (Ev.ite (fun a1 => bad ?_) (fun a1 => Ev.ite (fun a2 => bad ?_) (fun a2 => Ev.ite (fun a3 => bad ?_) (fun a3 => Ev.ite (fun a4 => bad ?_) (fun a4 => Ev.ite (fun a5 => bad ?_) (fun a5 => Ev.ite (fun a6 => bad ?_) (fun a6 => ?_))))))))
      · unfold badE; rw [decide_eq_true (show min e.f0 e.f1 < 0 by omega)]; rfl
      · unfold badE; rw [decide_eq_true (show n ≤ max e.f0 e.f1 by omega)]; simp
      · unfold badE; rw [decide_eq_true (show min e.f0 e.f1 < 0 by omega)]; rfl
      · unfold badE; rw [decide_eq_true (show n ≤ max e.f0 e.f1 by omega)]; simp
      · unfold badE; rw [decide_eq_true (show 4503599627370496 < e.f2 by omega)]; simp
      · unfold badE; rw [decide_eq_true (show e.f2 < -4503599627370496 by omega)]; simp
      · rw [wrap_id (by omega) (by omega), ok a1 a2 a3 a4 a5 a6, Bool.false_or]
        exact h1
  exact key es.length 0 (by omega) (by omega)
theorem least_ev (had : List Int) (es : List Edge) (he : es.length ≤ 1000000000) (hin : inE had.length es) (h : Int) (h0 : 0 ≤ h) (h1 : h < had.length) : Ev (fun k => merkhetref15_least.f k had es h) (leastL had es h es.length) := by
  unfold merkhetref15_least.f
  refine Ev.pos h0 (Ev.pos h1 ?_)
  have key : ∀ (d i : Nat), es.length - i = d → i ≤ es.length → Ev (fun k => merkhetref15_least.l0 k had es h (leastL had es h i).1 (leastL had es h i).2 (i : Int)) (leastL had es h es.length) := by
    intro d
    induction d with
    | zero =>
      intro i hd hi
      refine Ev.succ ?_
      simp only [merkhetref15_least.l0]
      refine Ev.neg (by omega) (Ev.cast (Ev.now _) ?_)
      rw [show i = es.length by omega]
    | succ d ih =>
      intro i hd hi
      have h2 := ih (i + 1) (by omega) (by omega)
      have hx : 0 ≤ (rdE es (i : Int)).f0 ∧ (rdE es (i : Int)).f0 < had.length ∧ 0 ≤ (rdE es (i : Int)).f1 ∧ (rdE es (i : Int)).f1 < had.length := hin _ (rdE_mem es i (by omega) (by omega))
      have hs : leastL had es h (i + 1) = if (rdE es i).f1 = h ∧ wrap64 (rd had (rdE es i).f0 + (rdE es i).f2) < (leastL had es h i).1 then (wrap64 (rd had (rdE es i).f0 + (rdE es i).f2), (i : Int)) else leastL had es h i := rfl
      rw [hs] at h2
      refine Ev.succ ?_
      simp only [merkhetref15_least.l0]
      change Ev (fun k => if (i : Int) < (es.length : Int) then (if 0 ≤ (i : Int) then (if (rdE es (i : Int)).f1 = h then (if 0 ≤ (rdE es (i : Int)).f0 then (if (rdE es (i : Int)).f0 < (had.length : Int) then (if wrap64 (rd had (rdE es (i : Int)).f0 + (rdE es (i : Int)).f2) < (leastL had es h i).1 then merkhetref15_least.l0 k had es h (wrap64 (rd had (rdE es (i : Int)).f0 + (rdE es (i : Int)).f2)) (i : Int) (wrap64 ((i : Int) + 1)) else merkhetref15_least.l0 k had es h (leastL had es h i).1 (leastL had es h i).2 (wrap64 ((i : Int) + 1))) else none) else none) else merkhetref15_least.l0 k had es h (leastL had es h i).1 (leastL had es h i).2 (wrap64 ((i : Int) + 1))) else none) else some ((leastL had es h i).1, (leastL had es h i).2)) _
      rw [wrap_id (i := (i : Int) + 1) (by omega) (by omega)]
      generalize rdE es (i : Int) = e at *
      refine Ev.pos (by omega) (Ev.pos (by omega) (Ev.ite (fun c => Ev.pos hx.1 (Ev.pos hx.2.1 (Ev.ite (fun c2 => ?_) (fun c2 => ?_)))) (fun c => ?_)))
      · rw [if_pos ⟨c, c2⟩] at h2; exact h2
      · rw [if_neg (fun h => c2 h.2)] at h2; exact h2
      · rw [if_neg (fun h => c h.1)] at h2; exact h2
  exact key es.length 0 (by omega) (by omega)
theorem rlayers_ev (n : Int) (es : List Edge) (he : es.length ≤ 1000000000) : Ev (fun k => merkhetref15_Layers.f k n es) (laysB n es) := by
  unfold merkhetref15_Layers.f
  refine Ev.bind (rmay15_ev n es he) ?_
  by_cases hm : rmayB n es = true
  rotate_left
  · refine Ev.neg hm (Ev.cast (Ev.now _) ?_)
    unfold laysB; rw [if_neg hm]
  obtain ⟨h0, h32, hin, _⟩ := inE_of_may hm
  refine Ev.pos hm ?_
  have hl : laysB n es = rowsL n.toNat es (n.toNat + 1) := by unfold laysB; rw [if_pos hm]
  rw [hl]
  have one : ∀ (d i : Nat), n.toNat + 1 - i = d → 1 ≤ i → i ≤ n.toNat + 1 → Ev (fun k => merkhetref15_Layers.l1 k n es (rowsL n.toNat es i).1 (rowsL n.toNat es i).2 (i : Int)) (rowsL n.toNat es (n.toNat + 1)) := by
    intro d
    induction d with
    | zero =>
      intro i hd h1 hi
      refine Ev.succ ?_
      simp only [merkhetref15_Layers.l1]
      refine Ev.neg (by omega) (Ev.cast (Ev.now _) ?_)
      rw [show i = n.toNat + 1 by omega]
    | succ d ih =>
      intro i hd h1 hi
      have h2 := ih (i + 1) (by omega) (by omega) (by omega)
      obtain ⟨hll, hll2⟩ := layL_len n.toNat es (i - 1)
      have hr := rd_rows n.toNat es i ((i : Int) - 1) (by omega) (by omega)
      rw [show ((i : Int) - 1).toNat = i - 1 by omega] at hr
      have hlen : (rowsL n.toNat es i).1.length = i ∧ (rowsL n.toNat es i).2.length = i := by simp [rowsL]
      have hs := rowsL_succ n.toNat es i
      have hin2 : inE (layL n.toNat es (i - 1)).1.length es := by rw [hll]; exact hin
      have hrow := nextL_rows (layL n.toNat es (i - 1)).1 es hin2
      have hlay : layL n.toNat es i = nextL (layL n.toNat es (i - 1)).1 es es.length := by
        rw [show i = (i - 1) + 1 by omega]; rfl
      rw [hll] at hrow
      rw [← hlay] at hrow
      have two : ∀ (d j : Nat), n.toNat - j = d → j ≤ n.toNat → Ev (fun k => merkhetref15_Layers.l2 k n es (rowsL n.toNat es i).1 (rowsL n.toNat es i).2 (i : Int) ((List.range j).map (fun h : Nat => (leastL (layL n.toNat es (i - 1)).1 es h es.length).1)) ((List.range j).map (fun h : Nat => (leastL (layL n.toNat es (i - 1)).1 es h es.length).2)) (j : Int)) (rowsL n.toNat es (n.toNat + 1)) := by
        intro d
        induction d with
        | zero =>
          intro j hd hj
          refine Ev.succ ?_
          simp only [merkhetref15_Layers.l2]
          rw [show j = n.toNat by omega, ← hrow.1, ← hrow.2]
          refine Ev.neg (by omega) (Ev.pos (by omega) (Ev.pos (by omega) ?_))
          rw [wrap_id (by omega) (by omega), hs.1, hs.2]
          exact h2
        | succ d ihj =>
          intro j hd hj
          have h3 := ihj (j + 1) (by omega) (by omega)
          rw [List.range_succ, List.map_append, List.map_append] at h3
          refine Ev.succ ?_
          simp only [merkhetref15_Layers.l2]
          rw [wrap_id (i := (i : Int) - 1) (by omega) (by omega)]
          simp only [hr]
          refine Ev.pos (by omega) (Ev.pos (by omega) (Ev.pos (by omega) (Ev.bind (least_ev (layL n.toNat es (i - 1)).1 es he hin2 j (by omega) (by rw [hll]; omega)) (Ev.pos (by simp; omega) (Ev.pos (by simp; omega) ?_)))))
          rw [wrap_id (i := (j : Int) + 1) (by omega) (by omega)]
          exact h3
      refine Ev.succ ?_
      simp only [merkhetref15_Layers.l1]
      exact Ev.pos (by omega) (two n.toNat 0 (by omega) (by omega))
  have zero : ∀ (d i : Nat), n.toNat - i = d → i ≤ n.toNat → Ev (fun k => merkhetref15_Layers.l0 k n es (List.replicate i 0) (List.replicate i (-1)) (i : Int)) (rowsL n.toNat es (n.toNat + 1)) := by
    intro d
    induction d with
    | zero =>
      intro i hd hi
      refine Ev.succ ?_
      simp only [merkhetref15_Layers.l0]
      rw [show i = n.toNat by omega]
      exact Ev.neg (by omega) (one n.toNat 1 (by omega) (by omega) (by omega))
    | succ d ih =>
      intro i hd hi
      have h2 := ih (i + 1) (by omega) (by omega)
      rw [List.replicate_succ', List.replicate_succ'] at h2
      refine Ev.succ ?_
      simp only [merkhetref15_Layers.l0]
      refine Ev.pos (by omega) (Ev.pos (by simp; omega) (Ev.pos (by simp; omega) ?_))
      rw [wrap_id (by omega) (by omega)]
      exact h2
  exact zero n.toNat 0 (by omega) (by omega)
theorem rsolve_ev (n : Int) (es : List Edge) (he : es.length ≤ 1000000000) : Ev (fun k => merkhetref15_Solve.f k n es) (solveB n es) := by
  unfold merkhetref15_Solve.f
  refine Ev.bind (rlayers_ev n es he) ?_
  by_cases hm : rmayB n es = true
  rotate_left
  · have h1 : laysB n es = ([], []) := by unfold laysB; rw [if_neg hm]
    have h2 : solveB n es = ([], false) := by unfold solveB; rw [if_neg (fun h => hm h.1)]
    rw [h1, h2]
    exact Ev.pos rfl (Ev.now _)
  obtain ⟨h0, h32, hin, _⟩ := inE_of_may hm
  have h1 : laysB n es = rowsL n.toNat es (n.toNat + 1) := by unfold laysB; rw [if_pos hm]
  rw [h1]
  have hlen : (rowsL n.toNat es (n.toNat + 1)).1.length = n.toNat + 1 := by simp [rowsL]
  have hr := rd_rows n.toNat es (n.toNat + 1) n h0 (by omega)
  obtain ⟨ll, _⟩ := layL_len n.toNat es n.toNat
  have key : ∀ (d i : Nat), n.toNat - i = d → i ≤ n.toNat → (∀ j : Nat, j < i → rd (layL n.toNat es n.toNat).1 j = rd (layL n.toNat es (n.toNat - 1)).1 j) → Ev (fun k => merkhetref15_Solve.l0 k n (rowsL n.toNat es (n.toNat + 1)).1 (i : Int)) (solveB n es) := by
    intro d
    induction d with
    | zero =>
      intro i hd hi hall
      have hy : solveB n es = ((layL n.toNat es n.toNat).1, true) := by
        have hh : n > 0 → (layL n.toNat es n.toNat).1 = (layL n.toNat es (n.toNat - 1)).1 := by
          intro hp
          refine ext_rd _ _ (by rw [ll, (layL_len _ _ _).1]) ?_
          intro j hj
          exact hall j (by omega)
        unfold solveB
        rw [if_pos ⟨hm, hh⟩]
      rw [hy]
      refine Ev.succ ?_
      simp only [merkhetref15_Solve.l0, hr]
      exact Ev.neg (by omega) (Ev.pos h0 (Ev.pos (by omega) (Ev.now _)))
    | succ d ih =>
      intro i hd hi hall
      have hp : n > 0 := by omega
      have hr2 := rd_rows n.toNat es (n.toNat + 1) (n - 1) (by omega) (by omega)
      rw [show (n - 1).toNat = n.toNat - 1 by omega] at hr2
      obtain ⟨ll2, _⟩ := layL_len n.toNat es (n.toNat - 1)
      have hlay : layL n.toNat es n.toNat = nextL (layL n.toNat es (n.toNat - 1)).1 es es.length := by
        rw [show n.toNat = (n.toNat - 1) + 1 by omega]; rfl
      have hle := next_le (layL n.toNat es (n.toNat - 1)).1 es (by rw [ll2]; exact hin) i (by omega) (by rw [ll2]; omega)
      rw [← hlay] at hle
      refine Ev.succ ?_
      simp only [merkhetref15_Solve.l0]
      rw [wrap_id (i := n - 1) (by omega) (by omega)]
      simp only [hr, hr2]
      refine Ev.pos (by omega) (Ev.pos h0 (Ev.pos (by omega) (Ev.pos (by omega) (Ev.pos (by omega) (Ev.pos (by omega) (Ev.pos (by omega) (Ev.pos (by omega) (Ev.ite (fun c => ?_) (fun c => ?_)))))))))
      · have hno : solveB n es = ([], false) := by
          unfold solveB
          rw [if_neg]
          rintro ⟨_, h⟩
          have h' := h hp
          exact absurd c (by rw [h']; omega)
        rw [hno]; exact Ev.now _
      · rw [wrap_id (by omega) (by omega)]
        refine ih (i + 1) (by omega) (by omega) ?_
        intro j hj
        rcases Nat.lt_or_ge j i with h | h
        · exact hall j h
        · obtain rfl : j = i := by omega
          omega
  exact Ev.neg (by omega) (key n.toNat 0 (by omega) (by omega) (fun j hj => by omega))
end Go.Proofs.Ytjgpggjjgimibaa.L

/- What the document's order of texts comes to, as plain Lean. -/
namespace Go.Proofs.Ytjgpggjjgimibaa.L
open Go.RowKit Go.Proofs.Ytjgpggjjgimibaa.Q Go.Proofs.YtjgpggjjgimibaaW.PrintWords Go.Proofs.YtjgpggjjgimibaaW.PrintLast Go.Proofs.YtjgpggjjgimibaaW.PrintMore Go.Proofs.YtjgpggjjgimibaaW.Lib
set_option linter.unusedVariables false

abbrev Span := S42
theorem rdS_nat (l : List Span) (i : Nat) (h : i < l.length) : rd_T42 l (i : Int) = l[i] := by simp [rd_T42, List.getD, h]
theorem data_drop (s : ByteArray) (i : Nat) (h : i < s.size) : ∃ x : UInt8, s.data.toList.drop i = x :: s.data.toList.drop (i + 1) ∧ (x.toNat : Int) = bt s (i : Int) := by
  have h' : i < s.data.toList.length := by simpa using h
  refine ⟨s.data.toList[i], List.drop_eq_getElem_cons h', ?_⟩
  rw [← bt_at s (i : Int) (by simpa using h)]
  simp [ByteArray.getElem_eq_getElem_data]
theorem text_l0 (a b : ByteArray) (ha : a.size ≤ 140737488351232) (hb : b.size ≤ 140737488351232) : ∀ (d i : Nat), a.size - i = d → i ≤ a.size → i ≤ b.size →
    Ev (fun k => merkhetref01_Text.l0 k a b (i : Int)) (Go.Lib.compareBytes (a.data.toList.drop i) (b.data.toList.drop i)) := by
  have stop : ∀ i : Nat, i ≤ a.size → i ≤ b.size → ¬ (i < a.size ∧ i < b.size) → (if (a.size : Int) < (b.size : Int) then (-1 : Int) else if (a.size : Int) > (b.size : Int) then 1 else 0) = Go.Lib.compareBytes (a.data.toList.drop i) (b.data.toList.drop i) := by
    intro i h1 h2 h3
    by_cases e1 : i < a.size
    · obtain ⟨x, hx, _⟩ := data_drop a i e1
      rw [hx, List.drop_of_length_le (l := b.data.toList) (by simp; omega), if_neg (by omega), if_pos (by omega)]; rfl
    · by_cases e2 : i < b.size
      · obtain ⟨x, hx, _⟩ := data_drop b i e2
        rw [hx, List.drop_of_length_le (l := a.data.toList) (by simp; omega), if_pos (by omega)]; rfl
      · rw [List.drop_of_length_le (l := a.data.toList) (by simp; omega), List.drop_of_length_le (l := b.data.toList) (by simp; omega), if_neg (by omega), if_neg (by omega)]; rfl
  have fin : ∀ i : Nat, i ≤ a.size → i ≤ b.size → ¬ (i < a.size ∧ i < b.size) → Ev (fun k => merkhetref01_Text.j1 k a b (i : Int) false) (Go.Lib.compareBytes (a.data.toList.drop i) (b.data.toList.drop i)) := by
    intro i h1 h2 h3
    refine Ev.step (f := fun _ => if (a.size : Int) < (b.size : Int) then some (-1) else if (a.size : Int) > (b.size : Int) then some 1 else some 0) (fun k => by simp [merkhetref01_Text.j1]) ?_
    rw [← stop i h1 h2 h3]
    refine Ev.ite (fun e => ?_) (fun e => ?_)
    · rw [if_pos e]; exact Ev.now _
    · rw [if_neg e]
      refine Ev.ite (fun e => ?_) (fun e => ?_)
      · rw [if_pos e]; exact Ev.now _
      · rw [if_neg e]; exact Ev.now _
  intro d
  induction d with
  | zero =>
    intro i hd h1 h2
    refine Ev.step (f := fun k => merkhetref01_Text.j1 k a b (i : Int) false) (fun k => by simp only [merkhetref01_Text.l0]; rw [if_neg (by omega)]) (fin i h1 h2 (by omega))
  | succ d ih =>
    intro i hd h1 h2
    refine Ev.step (f := fun k => merkhetref01_Text.j1 k a b (i : Int) (decide ((i : Int) < (b.size : Int)))) (fun k => by simp only [merkhetref01_Text.l0]; rw [if_pos (by omega)]) ?_
    by_cases e : i < b.size
    · rw [decide_eq_true (by omega : (i : Int) < (b.size : Int))]
      obtain ⟨x, hx, ex⟩ := data_drop a i (by omega)
      obtain ⟨y, hy, ey⟩ := data_drop b i e
      refine Ev.step (f := fun k => if bt a (i : Int) < bt b (i : Int) then some (-1) else if bt a (i : Int) > bt b (i : Int) then some 1 else merkhetref01_Text.l0 k a b ((i + 1 : Nat) : Int)) (fun k => ?_) ?_
      · simp only [merkhetref01_Text.j1]
        rw [if_pos trivial, if_pos (by omega), if_pos (by omega), if_pos (by omega), wrap_id (by omega) (by omega)]; rfl
      · rw [hx, hy]
        simp only [Go.Lib.compareBytes, UInt8.lt_iff_toNat_lt]
        refine Ev.ite (fun e1 => ?_) (fun e1 => ?_)
        · rw [if_pos (by omega)]; exact Ev.now _
        · rw [if_neg (by omega)]
          refine Ev.ite (fun e2 => ?_) (fun e2 => ?_)
          · rw [if_pos (by omega)]; exact Ev.now _
          · rw [if_neg (by omega)]; exact ih (i + 1) (by omega) (by omega) (by omega)
    · rw [decide_eq_false (by omega : ¬ (i : Int) < (b.size : Int))]
      exact fin i h1 h2 (by omega)
theorem text_ev (a b : ByteArray) (ha : a.size ≤ 140737488351232) (hb : b.size ≤ 140737488351232) : Ev (fun k => merkhetref01_Text.f k a b) (cmpB a b) := by
  have := text_l0 a b ha hb a.size 0 (by omega) (by omega) (by omega)
  simpa [merkhetref01_Text.f, cmpB] using this
end Go.Proofs.Ytjgpggjjgimibaa.L

/- The document's hosts, as plain lists. -/
namespace Go.Proofs.Ytjgpggjjgimibaa.L
open Go.RowKit Go.Proofs.Ytjgpggjjgimibaa.Q Go.Proofs.YtjgpggjjgimibaaW.PrintWords Go.Proofs.YtjgpggjjgimibaaW.PrintLast Go.Proofs.YtjgpggjjgimibaaW.PrintMore Go.Proofs.YtjgpggjjgimibaaW.Lib
set_option linter.unusedVariables false

/-- The place of a text; -1. -/
def placeZ (l : List ByteArray) (s : ByteArray) : Int := if numB l s < l.length then (numB l s : Int) else -1
theorem numB_cons (x : ByteArray) (l : List ByteArray) (s : ByteArray) : numB (x :: l) s = if x = s then 0 else numB l s + 1 := by
  unfold numB
  rw [List.findIdx_cons]
  by_cases h : x = s
  · simp [h]
  · simp [h]
theorem text_eq {s t : ByteArray} : s.toList = t.toList ↔ s = t := by
  rw [toList_data, toList_data]
  constructor
  · intro h
    cases s; cases t
    simp_all
  · rintro rfl; rfl
theorem place_ev (l : List ByteArray) (s : ByteArray) (hl : l.length ≤ 1000000000) : Ev (fun k => merkhetref09_Place.f k l s) (placeZ l s) := by
  have key : ∀ (d i : Nat), l.length - i = d → i ≤ l.length → Ev (fun k => merkhetref09_Place.l0 k l s (i : Int)) (if numB (l.drop i) s < (l.drop i).length then ((i + numB (l.drop i) s : Nat) : Int) else -1) := by
    intro d
    induction d with
    | zero =>
      intro i hd hi
      rw [List.drop_of_length_le (by omega), if_neg (by simp)]
      refine Ev.succ ?_
      simp only [merkhetref09_Place.l0]
      exact Ev.neg (by omega) (Ev.now _)
    | succ d ih =>
      intro i hd hi
      have hil : i < l.length := by omega
      have hr : rdOf ByteArray.empty l (i : Int) = l[i] := by simp [rdOf, List.getD, hil]
      refine Ev.succ ?_
      simp only [merkhetref09_Place.l0, hr]
      refine Ev.pos (by omega) (Ev.pos (by omega) ?_)
      rw [List.drop_eq_getElem_cons hil, numB_cons, List.length_cons]
      refine Ev.ite (fun h => ?_) (fun h => ?_)
      · rw [if_pos (text_eq.1 h), if_pos (by omega)]
        exact Ev.cast (Ev.now _) (by simp)
      · rw [if_neg (fun h2 => h (text_eq.2 h2)), wrap_id (by omega) (by omega)]
        have h1 := ih (i + 1) (by omega) (by omega)
        refine Ev.cast h1 ?_
        by_cases h3 : numB (l.drop (i + 1)) s < (l.drop (i + 1)).length
        · rw [if_pos h3, if_pos (by omega)]; congr 1; omega
        · rw [if_neg h3, if_neg (by omega)]
  have := key l.length 0 (by omega) (by omega)
  unfold merkhetref09_Place.f placeZ
  simpa using this

theorem placeZ_mem (l : List ByteArray) (s : ByteArray) : 0 ≤ placeZ l s ↔ s ∈ l := by
  unfold placeZ
  constructor
  · intro h
    by_cases h2 : numB l s < l.length
    · have := List.findIdx_getElem (p := fun h => decide (h = s)) (w := h2)
      have h3 : l[numB l s] = s := of_decide_eq_true this
      rw [← h3]; exact List.getElem_mem _
    · rw [if_neg h2] at h; omega
  · intro h
    rw [if_pos (numB_lt h)]; omega
theorem hostsB_fold (l : List Span) : (l.map (·.f4)).foldl (insH cmpB) [] = hostsB l := by
  obtain ⟨h1, h2, _⟩ := foldH cmpB_is (l.map (·.f4)) [] List.Pairwise.nil
  refine h1.one cmpB_is (hostsB_rise l) fun x => ?_
  rw [h2, hostsB_mem, List.mem_map]
  simp
theorem rhosts_ev (x : List Span) (hx : x.length ≤ 1000000) (hw : ∀ s ∈ x, s.f4.size ≤ 140737488351232) : Ev (fun k => merkhetref09_Hosts.f k x) (hostsB x) := by
  have key : ∀ (d i : Nat), x.length - i = d → i ≤ x.length → ∀ a : List ByteArray, a.length ≤ i → (∀ s ∈ a, s.size ≤ 140737488351232) → Ev (fun k => merkhetref09_Hosts.l0 k x a (i : Int)) (((x.drop i).map (·.f4)).foldl (insH cmpB) a) := by
    intro d
    induction d with
    | zero =>
      intro i hd hi a ha _
      refine Ev.succ ?_
      simp only [merkhetref09_Hosts.l0]
      rw [List.drop_of_length_le (by omega)]
      exact Ev.neg (by omega) (Ev.now _)
    | succ d ih =>
      intro i hd hi a ha haw
      have hix : i < x.length := by omega
      have ws := hw x[i] (List.getElem_mem hix)
      rw [List.drop_eq_getElem_cons hix, List.map_cons, List.foldl_cons]
      have hins : (insH cmpB a x[i].f4).length ≤ i + 1 := by have := insH_length (c := cmpB) a x[i].f4; omega
      have hinw : ∀ s ∈ insH cmpB a x[i].f4, s.size ≤ 140737488351232 := by
        intro s hs
        rcases (insH_mem a x[i].f4 s).1 hs with hs | rfl
        · exact haw s hs
        · exact ws
      have next := ih (i + 1) (by omega) (by omega) _ hins hinw
      generalize hres : ((x.drop (i + 1)).map (·.f4)).foldl (insH cmpB) (insH cmpB a x[i].f4) = res at next
      refine Ev.succ ?_
      simp only [merkhetref09_Hosts.l0, rdS_nat x i hix]
      refine Ev.pos (by omega) (Ev.pos (by omega) (Ev.bind (place_ev a x[i].f4 (by omega)) (Ev.ite (fun h => ?_) (fun h => ?_))))
      · have hm := (placeZ_mem a x[i].f4).1 h
        have hst : insH cmpB a x[i].f4 = a := by unfold insH; rw [if_pos hm]
        rw [hst] at next
        rw [wrap_id (by omega) (by omega)]
        exact next
      · have hm : x[i].f4 ∉ a := fun h2 => h ((placeZ_mem a x[i].f4).2 h2)
        have hst : insH cmpB a x[i].f4 = a.take (posG cmpB a x[i].f4 a.length) ++ x[i].f4 :: a.drop (posG cmpB a x[i].f4 a.length) := by unfold insH; rw [if_neg hm]
        rw [hst] at next
        have fin : ∀ j : Nat, j ≤ a.length → posG cmpB a x[i].f4 a.length = j → Ev (fun k => if 0 ≤ (j : Int) then (if (j : Int) ≤ (a.length : Int) then ((some (a.drop (j : Int).toNat : List ByteArray)).bind fun y227 => (if ([] : List ByteArray).length + y227.length < 8796093022208 then ((some (([] : List ByteArray) ++ y227 : List ByteArray)).bind fun y231 => ((some (a.take (j : Int).toNat : List ByteArray)).bind fun y234 => (if y234.length < 8796093022208 then ((some (y234 ++ [x[i].f4] : List ByteArray)).bind fun y238 => (if y238.length + y231.length < 8796093022208 then (merkhetref09_Hosts.l0 k x (y238 ++ y231) (wrap64 ((i : Int) + 1))) else (none))) else (none)))) else (none))) else (none)) else (none)) res := by
          intro j hj hp
          rw [hp] at next
          refine Ev.pos (by omega) (Ev.pos (by omega) ?_)
          simp only [Option.bind_some, Int.toNat_natCast]
          refine Ev.pos (by simp; omega) (Ev.pos (by simp; omega) (Ev.pos (by simp; omega) ?_))
          rw [wrap_id (by omega) (by omega)]
          refine Ev.congr (fun k => ?_) next
          simp
        have inner : ∀ j : Nat, j ≤ a.length → posG cmpB a x[i].f4 a.length = posG cmpB a x[i].f4 j → Ev (fun k => merkhetref09_Hosts.l1 k x a (i : Int) (j : Int)) res := by
          intro j
          induction j with
          | zero =>
            intro hj hp
            refine Ev.succ ?_
            simp only [merkhetref09_Hosts.l1, rdS_nat x i hix]
            refine Ev.neg (by omega) ?_
            simp only [Option.bind_some]
            have := fin 0 (by omega) (by rw [hp]; rfl)
            simp only [Option.bind_some] at this
            refine Ev.congr (fun k => ?_) this
            simp only [show (0 : Int) ≤ (i : Int) by omega, show (i : Int) < (x.length : Int) by omega, if_true]
          | succ j ihj =>
            intro hj hp
            have hja : j < a.length := by omega
            have hr : rdOf ByteArray.empty a (j : Int) = a[j] := by simp [rdOf, List.getD, hja]
            have hg : a.getD j x[i].f4 = a[j] := by simp [List.getD, hja]
            refine Ev.succ ?_
            simp only [merkhetref09_Hosts.l1]
            refine Ev.pos (by omega) ?_
            rw [wrap_id (by omega) (by omega), show ((j + 1 : Nat) : Int) - 1 = (j : Int) by omega]
            refine Ev.pos (by omega) (Ev.pos (by omega) (Ev.pos (by omega) (Ev.pos (by omega) ?_)))
            simp only [rdS_nat x i hix, hr]
            refine Ev.bind (text_ev a[j] x[i].f4 (haw _ (List.getElem_mem _)) ws) (Ev.ite (fun e => ?_) (fun e => ?_))
            · exact ihj (by omega) (by rw [hp, posG_succ, hg, if_pos e])
            · simp only [Option.bind_some]
              have := fin (j + 1) (by omega) (by rw [hp, posG_succ, hg, if_neg e])
              simp only [Option.bind_some] at this
              exact this
        exact inner a.length (Nat.le_refl _) rfl
  have := key x.length 0 (by omega) (by omega) [] (by simp) (by simp)
  rw [List.drop_zero, hostsB_fold] at this
  exact this
end Go.Proofs.Ytjgpggjjgimibaa.L

/- The document's starts by offsets, as plain lists. -/
namespace Go.Proofs.Ytjgpggjjgimibaa.L
open Go.RowKit Go.Proofs.Ytjgpggjjgimibaa.Q Go.Proofs.YtjgpggjjgimibaaW.PrintWords Go.Proofs.YtjgpggjjgimibaaW.PrintLast Go.Proofs.YtjgpggjjgimibaaW.PrintMore Go.Proofs.YtjgpggjjgimibaaW.Lib
set_option linter.unusedVariables false

theorem rmay18_ev (l : List S42) (hl : l.length ≤ 1000000000) (hf : ∀ s ∈ l, fitR s) : Ev (fun k => merkhetref18_May.f k l) (mayA l) := by
  unfold merkhetref18_May.f
  have key : ∀ (d i : Nat), l.length - i = d → i ≤ l.length → Ev (fun k => merkhetref18_May.l0 k l (i : Int)) ((l.drop i).all mayS) := by
    intro d
    induction d with
    | zero =>
      intro i hd hi
      refine Ev.succ ?_
      simp only [merkhetref18_May.l0]
      rw [List.drop_of_length_le (by omega)]
      exact Ev.neg (by omega) (Ev.now _)
    | succ d ih =>
      intro i hd hi
      have hlt : i < l.length := by omega
      have hr : rd_T42 l (i : Int) = l[i] := by simp [rd_T42, List.getD, hlt]
      have h1 := ih (i + 1) (by omega) (by omega)
      have h2 := rmayS_ev l[i] (hf _ (List.getElem_mem hlt))
      refine Ev.succ ?_
      simp only [merkhetref18_May.l0, hr]
      rw [List.drop_eq_getElem_cons hlt, List.all_cons]
      refine Ev.pos (by omega) (Ev.pos (by omega) (Ev.bind h2 (Ev.ite (fun h => ?_) (fun h => ?_))))
      · rw [wrap_id (by omega) (by omega)]
        refine Ev.cast h1 ?_
        rw [h]; simp
      · refine Ev.cast (Ev.now _) ?_
        rw [Bool.eq_false_iff.2 h]; simp
  exact key l.length 0 (by omega) (by omega)
theorem same15_ev (a b : List Int) (ha : a.length ≤ 1000000000) : ∃ r, Ev (fun k => merkhetref15_Same.f k a b) r ∧ (r = true ↔ a = b) := by
  unfold merkhetref15_Same.f
  by_cases h : (a.length : Int) = (b.length : Int)
  · have key : ∀ (d i : Nat), a.length - i = d → i ≤ a.length → ∃ r, Ev (fun k => merkhetref15_Same.l0 k a b (i : Int)) r ∧ (r = true ↔ a.drop i = b.drop i) := by
      intro d
      induction d with
      | zero =>
        intro i hd hi
        refine ⟨true, Ev.succ ?_, ?_⟩
        · simp only [merkhetref15_Same.l0]
          exact Ev.neg (by omega) (Ev.now _)
        · rw [List.drop_of_length_le (by omega), List.drop_of_length_le (by omega)]
          simp
      | succ d ih =>
        intro i hd hi
        have hil : i < a.length := by omega
        have hib : i < b.length := by omega
        have hr : rd a (i : Int) = a[i] := by simp [rd, List.getD, hil]
        have hr2 : rd b (i : Int) = b[i] := by simp [rd, List.getD, hib]
        obtain ⟨r, h1, h2⟩ := ih (i + 1) (by omega) (by omega)
        have ea := List.drop_eq_getElem_cons hil
        have eb := List.drop_eq_getElem_cons hib
        by_cases e : a[i] = b[i]
        · refine ⟨r, Ev.succ ?_, ?_⟩
          · simp only [merkhetref15_Same.l0, hr, hr2]
            refine Ev.pos (by omega) (Ev.pos (by omega) (Ev.pos (by omega) (Ev.pos e ?_)))
            rw [wrap_id (by omega) (by omega)]
            exact h1
          · rw [h2, ea, eb, List.cons.injEq]
            exact ⟨fun h => ⟨e, h⟩, fun h => h.2⟩
        · refine ⟨false, Ev.succ ?_, ?_⟩
          · simp only [merkhetref15_Same.l0, hr, hr2]
            exact Ev.pos (by omega) (Ev.pos (by omega) (Ev.pos (by omega) (Ev.neg e (Ev.now _))))
          · rw [ea, eb, List.cons.injEq]
            exact ⟨fun h => absurd h (by simp), fun h => absurd h.1 e⟩
    obtain ⟨r, h1, h2⟩ := key a.length 0 (by omega) (by omega)
    exact ⟨r, Ev.pos h h1, by simpa using h2⟩
  · refine ⟨false, Ev.neg h (Ev.now _), ⟨by simp, ?_⟩⟩
    rintro rfl
    exact absurd rfl h
theorem same15_self (a : List Int) (ha : a.length ≤ 1000000000) : Ev (fun k => merkhetref15_Same.f k a a) true := by
  obtain ⟨r, h1, h2⟩ := same15_ev a a ha
  exact Ev.cast h1 (h2.2 rfl)
end Go.Proofs.Ytjgpggjjgimibaa.L

/- The guard of layer 4, as plain lists. -/
namespace Go.Proofs.Ytjgpggjjgimibaa.L
open Go.RowKit Go.Proofs.Ytjgpggjjgimibaa.Q Go.Proofs.YtjgpggjjgimibaaW.PrintWords Go.Proofs.YtjgpggjjgimibaaW.PrintLast Go.Proofs.YtjgpggjjgimibaaW.PrintMore Go.Proofs.YtjgpggjjgimibaaW.Lib
set_option linter.unusedVariables false

theorem great_ev (l : List Span) : ∃ b, Ev (fun k => merkhetlaw04_Great.f k l) b ∧ (b = false → l.length ≤ 60 ∧ ∀ x ∈ l, x.f4.size ≤ 100 ∧ x.f5.size ≤ 100) := by
  unfold merkhetlaw04_Great.f
  by_cases h : (l.length : Int) > 60
  · exact ⟨true, Ev.pos h (Ev.now _), by simp⟩
  · have key : ∀ (d i : Nat), l.length - i = d → i ≤ l.length → ∃ b, Ev (fun k => merkhetlaw04_Great.l0 k l (l.length : Int) (i : Int)) b ∧ (b = false → ∀ x ∈ l.drop i, x.f4.size ≤ 100 ∧ x.f5.size ≤ 100) := by
      intro d
      induction d with
      | zero =>
        intro i hd hi
        refine ⟨false, Ev.succ ?_, fun _ x hx => ?_⟩
        · simp only [merkhetlaw04_Great.l0]
          exact Ev.neg (by omega) (Ev.now _)
        · rw [List.drop_of_length_le (by omega)] at hx; cases hx
      | succ d ih =>
        intro i hd hi
        have hil : i < l.length := by omega
        obtain ⟨b, hb, hb2⟩ := ih (i + 1) (by omega) (by omega)
        by_cases h4 : ((l[i].f4.size : Nat) : Int) > 100
        · refine ⟨true, Ev.succ ?_, by simp⟩
          simp only [merkhetlaw04_Great.l0, rdS_nat l i hil]
          exact Ev.pos (by omega) (Ev.pos (by omega) (Ev.pos (by omega) (Ev.pos h4 (Ev.now _))))
        · by_cases h5 : ((l[i].f5.size : Nat) : Int) > 100
          · refine ⟨true, Ev.succ ?_, by simp⟩
            simp only [merkhetlaw04_Great.l0, rdS_nat l i hil]
            exact Ev.pos (by omega) (Ev.pos (by omega) (Ev.pos (by omega) (Ev.neg h4 (Ev.pos h5 (Ev.now _)))))
          · refine ⟨b, Ev.succ ?_, fun e x hx => ?_⟩
            · simp only [merkhetlaw04_Great.l0, rdS_nat l i hil]
              refine Ev.pos (by omega) (Ev.pos (by omega) (Ev.pos (by omega) (Ev.neg h4 (Ev.neg h5 ?_))))
              rw [wrap_id (by omega) (by omega)]
              exact hb
            · rw [List.drop_eq_getElem_cons hil] at hx
              rcases List.mem_cons.1 hx with rfl | hx
              · omega
              · exact hb2 e x hx
    obtain ⟨b, hb, hb2⟩ := key l.length 0 (by omega) (by omega)
    refine ⟨b, Ev.neg h hb, fun e => ⟨by omega, fun x hx => hb2 e x (by simpa using hx)⟩⟩

end Go.Proofs.Ytjgpggjjgimibaa.L

/- The chapter's example for bound.Of, plain. -/
namespace Go.Proofs.Ytjgpggjjgimibaa.L
open Go.RowKit Go.Proofs.Ytjgpggjjgimibaa.Q Go.Proofs.YtjgpggjjgimibaaW.PrintWords Go.Proofs.YtjgpggjjgimibaaW.PrintLast Go.Proofs.YtjgpggjjgimibaaW.PrintMore Go.Proofs.YtjgpggjjgimibaaW.MapB Go.Proofs.YtjgpggjjgimibaaW.Lib
set_option linter.unusedVariables false
theorem hostsB_fold' (l : List S42) : (l.map (·.f4)).foldl (insH cmpB) [] = hostsB l := by
  obtain ⟨h1, h2, _⟩ := foldH cmpB_is (l.map (·.f4)) [] List.Pairwise.nil
  refine h1.one cmpB_is (hostsB_rise l) fun x => ?_
  rw [h2, hostsB_mem, List.mem_map]
  simp
end Go.Proofs.Ytjgpggjjgimibaa.L

/- The document's numbers and groups of hosts, as plain lists. -/
namespace Go.Proofs.Ytjgpggjjgimibaa.L
open Go.RowKit Go.Proofs.Ytjgpggjjgimibaa.Q Go.Proofs.YtjgpggjjgimibaaW.PrintWords Go.Proofs.YtjgpggjjgimibaaW.PrintLast Go.Proofs.YtjgpggjjgimibaaW.PrintMore Go.Proofs.YtjgpggjjgimibaaW.Lib
set_option linter.unusedVariables false

theorem rof13_ev (x : List Span) (hx : x.length ≤ 1000000) (hw : ∀ s ∈ x, s.f4.size ≤ 140737488351232) : Ev (fun k => merkhetref13_Of.f k x) (numsL x) := by
  have key : ∀ (d i : Nat), x.length - i = d → i ≤ x.length → Ev (fun k => merkhetref13_Of.l0 k x (hostsB x) ((numsL x).take i) (i : Int)) (numsL x) := by
    intro d
    induction d with
    | zero =>
      intro i hd hi
      refine Ev.succ ?_
      simp only [merkhetref13_Of.l0]
      rw [List.take_of_length_le (by unfold numsL; rw [List.length_map]; omega)]
      exact Ev.neg (by omega) (Ev.now _)
    | succ d ih =>
      intro i hd hi
      have hix : i < x.length := by omega
      have hm : x[i].f4 ∈ hostsB x := (hostsB_mem x _).2 ⟨x[i], List.getElem_mem hix, rfl⟩
      have hp : placeZ (hostsB x) x[i].f4 = (numB (hostsB x) x[i].f4 : Int) := by unfold placeZ; rw [if_pos (numB_lt hm)]
      have hn : (numsL x).take (i + 1) = (numsL x).take i ++ [(numB (hostsB x) x[i].f4 : Int)] := by
        rw [List.take_succ_eq_append_getElem (by unfold numsL; rw [List.length_map]; exact hix)]
        congr 2
        unfold numsL
        rw [List.getElem_map]
      refine Ev.succ ?_
      simp only [merkhetref13_Of.l0, rdS_nat x i hix]
      refine Ev.pos (by omega) (Ev.pos (by omega) (Ev.bind (place_ev (hostsB x) x[i].f4 (by have := hostsB_length x; omega)) (Ev.pos (by simp; omega) ?_)))
      rw [wrap_id (by omega) (by omega), hp, ← hn]
      exact ih (i + 1) (by omega) (by omega)
  unfold merkhetref13_Of.f
  refine Ev.bind (rhosts_ev x hx hw) ?_
  have := key x.length 0 (by omega) (by omega)
  simpa using this

end Go.Proofs.Ytjgpggjjgimibaa.L

/- The document's edges, as a plain list. -/
namespace Go.Proofs.Ytjgpggjjgimibaa.V
open Go.RowKit Go.Proofs.Ytjgpggjjgimibaa.Q Go.Proofs.YtjgpggjjgimibaaW.PrintWords Go.Proofs.YtjgpggjjgimibaaW.PrintLast Go.Proofs.YtjgpggjjgimibaaW.PrintMore Go.Proofs.YtjgpggjjgimibaaW.Lib Go.Proofs.Ytjgpggjjgimibaa.L
set_option linter.unusedVariables false

theorem edgesB_le (m : S42 → Bool) (l : List S42) (nums : List Int) : ∀ ps : List S35, (edgesB m l nums ps).length ≤ 2 * ps.length
  | [] => by simp [edgesB]
  | p :: ps => by
    have ih := edgesB_le m l nums ps
    have h1 : (edgesAt m l nums p).length ≤ 2 := by unfold edgesAt; split <;> simp
    have h2 : edgesB m l nums (p :: ps) = edgesAt m l nums p ++ edgesB m l nums ps := by simp [edgesB]
    rw [h2, List.length_append, List.length_cons]
    omega
theorem redges_ev (l : List S42) (hl : l.length ≤ 1000000) (hf : ∀ s ∈ l, fitR s) (ps : List S35) (hps : ps.length ≤ 1000000) : Ev (fun k => merkhetref14_Of.f k l ps) (edgesB mayS l (numsL l) ps) := by
  unfold merkhetref14_Of.f
  refine Ev.bind (rof13_ev l hl (fun s hs => (hf s hs).1.2.1)) ?_
  have hnl : (numsL l).length = l.length := by unfold numsL; rw [List.length_map]
  generalize numsL l = nums at *
  have key : ∀ (d i : Nat), ps.length - i = d → i ≤ ps.length → Ev (fun k => merkhetref14_Of.l0 k l ps nums (edgesB mayS l nums (ps.take i)) (i : Int)) (edgesB mayS l nums ps) := by
    intro d
    induction d with
    | zero =>
      intro i hd hi
      refine Ev.succ ?_
      simp only [merkhetref14_Of.l0]
      refine Ev.neg (by omega) (Ev.cast (Ev.now _) ?_)
      rw [List.take_of_length_le (by omega)]
    | succ d ih =>
      intro i hd hi
      have hlt : i < ps.length := by omega
      have h2 := ih (i + 1) (by omega) (by omega)
      have hr : rd_T35 ps (i : Int) = ps[i] := by simp [rd_T35, List.getD, hlt]
      rw [List.take_succ_eq_append_getElem hlt, edgesB_snoc] at h2
      have hle := edgesB_le mayS l nums (ps.take i)
      rw [List.length_take] at hle
      refine Ev.succ ?_
      simp only [merkhetref14_Of.l0, hr]
      generalize ps[i] = p at *
      refine Ev.pos (by omega) (Ev.pos (by omega) (Ev.bind (a := gapsB mayS l p.f0 p.f1) (Ev.const ?_) ?_))
      · unfold merkhetref12_Gaps.f; rw [if_pos hf]
      · rw [wrap_id (by omega) (by omega)]
        refine Ev.ite (fun c => ?_) (fun c => ?_)
        · obtain ⟨i0, i1, i2, i3⟩ := gapsB_in _ _ _ _ c
          have hea : edgesAt mayS l nums p = [⟨rd nums p.f1, rd nums p.f0, (gapsB mayS l p.f0 p.f1).1, p, false⟩, ⟨rd nums p.f0, rd nums p.f1, (gapsB mayS l p.f0 p.f1).2.1, p, true⟩] := by unfold edgesAt; rw [if_pos c]
          rw [hea] at h2
          refine Ev.pos i2 (Ev.pos (by omega) (Ev.pos i0 (Ev.pos (by omega) (Ev.pos (by omega) (Ev.bind (Ev.now _) (Ev.pos ?_ ?_))))))
          · rw [List.length_append, List.length_singleton]; omega
          · rw [List.append_assoc]
            exact h2
        · have hea : edgesAt mayS l nums p = [] := by unfold edgesAt; rw [if_neg c]
          rw [hea, List.append_nil] at h2
          exact h2
  exact key ps.length 0 (by omega) (by omega)
end Go.Proofs.Ytjgpggjjgimibaa.V

/- ShiftSolved, the plain part: the greatest offsets are the document's. -/
namespace Go.Proofs.Ytjgpggjjgimibaa.Pure
set_option linter.unusedVariables false
open Go.RowKit Go.Proofs.Ytjgpggjjgimibaa.Q Go.Proofs.Ytjgpggjjgimibaa.X Go.Proofs.Ytjgpggjjgimibaa.V Go.Proofs.YtjgpggjjgimibaaW.PrintWords Go.Proofs.YtjgpggjjgimibaaW.PrintLast Go.Proofs.YtjgpggjjgimibaaW.PrintMore Go.Proofs.YtjgpggjjgimibaaW.Lib Go.Proofs.Ytjgpggjjgimibaa.L

theorem fit_wf {s : S42} (h : wf42 s) : fitR s := by
  refine ⟨⟨h.2.1, h.2.2.2.2.1, h.2.2.2.2.2.1⟩, ?_⟩
  have := h.2.2.2.1
  simp [Lit.wf, IntKind.min, IntKind.max, IntKind.signed, IntKind.bits] at this
  exact this.1
def exS : S42 := ⟨1, 1, 0, 0, ⟨#[97]⟩, ⟨#[98]⟩, 5, 0⟩
theorem exS_starts : startsB [exS] [-3] = ([2], true) := by
  have hh : hostsB [exS] = [⟨#[97]⟩] := by
    rw [← hostsB_fold']
    kernel_rfl
  have hn : numsL [exS] = [0] := by
    unfold numsL
    rw [hh]
    kernel_rfl
  unfold startsB
  rw [if_pos ⟨(by kernel_rfl : mayA [exS] = true), by rw [hh]; rfl, by decide⟩]
  have e : startsL [exS] [-3] = [2] := by
    unfold startsL
    rw [hn]
    kernel_rfl
  rw [e]
theorem fixed18 : Ev (fun k => merkhetlaw18_fixed.f k) true := by
  unfold merkhetlaw18_fixed.f shift_Starts.f
  rw [if_pos ⟨by intro x hx; simp only [List.mem_cons, List.not_mem_nil, or_false] at hx; rcases hx with rfl; exact ⟨by decide, by decide, by decide⟩, by decide, by decide⟩]
  rw [show startsB [(⟨1, 1, 0, 0, ⟨#[97]⟩, ⟨#[98]⟩, 5, 0⟩ : S42)] [-3] = ([2], true) from exS_starts]
  exact Ev.bind (Ev.now _) (Ev.pos rfl (Ev.bind (same15_self _ (by decide)) (Ev.now _)))
def edgesP (l : List S42) (ps : List Int) : List L.Edge := edgesB mayS l (numsL l) (pairsB l ps)
def solvedB (l : List S42) (ps : List Int) : List Int × Bool := if mayA l = true then solveB ((hostsB l).length : Int) (edgesP l ps) else ([], false)
theorem edgesP_le (l : List S42) (ps : List Int) (hl : l.length ≤ 60) : (edgesP l ps).length ≤ 120 := by
  have h1 := edgesB_le mayS l (numsL l) (pairsB l ps)
  have h2 := pairsB_length l ps
  unfold edgesP
  omega
theorem solved_ev (l : List S42) (ps : List Int) (hl : l.length ≤ 60) (hp : ps.length ≤ 1000000) (hf : ∀ s ∈ l, fitS s) : Ev (fun k => shift_Solved.f k l ps) (solvedB l ps) := by
  unfold shift_Solved.f
  have h2 := pairsB_length l ps
  have h3 := edgesP_le l ps hl
  refine Ev.bind (a := mayA l) (Ev.const (by unfold shift_may.f; rw [if_pos ⟨by omega, hf⟩])) ?_
  unfold solvedB
  refine Ev.ite (fun c => ?_) (fun c => ?_)
  · rw [if_pos c]
    exact Ev.bind (a := hostsB l) (Ev.const (by unfold dedupe_Hosts.f; rw [if_pos (by omega)])) (Ev.bind (a := pairsB l ps) (Ev.const (by unfold rpc_Of.f; rw [if_pos ⟨by omega, hf, hp⟩])) (Ev.bind (a := edgesP l ps) (Ev.const (by unfold bound_Of.f; rw [if_pos ⟨by omega, hf, by omega⟩]; rfl)) (Ev.bind (solve_ev _ _ (by omega)) (Ev.now _))))
  · rw [if_neg c]; exact Ev.now _
theorem rsolved_ev (l : List S42) (ps : List Int) (hl : l.length ≤ 60) (hp : ps.length ≤ 1000000) (hf : ∀ s ∈ l, fitR s) : Ev (fun k => merkhetref18_Solved.f k l ps) (solvedB l ps) := by
  unfold merkhetref18_Solved.f
  have h2 := pairsB_length l ps
  have h3 := edgesP_le l ps hl
  refine Ev.bind (rmay18_ev l (by omega) hf) ?_
  unfold solvedB
  refine Ev.ite (fun c => ?_) (fun c => ?_)
  · rw [if_pos c]
    refine Ev.bind (rhosts_ev l (by omega) (fun s hs => (hf s hs).1.2.1)) (Ev.bind (a := edgesP l ps) ?_ (Ev.bind (rsolve_ev _ _ (by omega)) (Ev.now _)))
    unfold merkhetref18_Edges.f
    exact Ev.bind (rpairs_ev l (by omega) hf ps hp) (Ev.bind (redges_ev l (by omega) hf _ (by omega)) (Ev.now _))
  · rw [if_neg c]; exact Ev.now _
theorem solvedB_len (l : List S42) (ps : List Int) (hl : l.length ≤ 60) : (solvedB l ps).1.length ≤ 60 := by
  have h := hostsB_length l
  unfold solvedB solveB
  split
  · split
    · show (layL _ _ _).1.length ≤ 60
      rw [(layL_len _ _ _).1]; omega
    · simp
  · simp
theorem ShiftSolved (l0 : List (S42)) (l1 : List (Int)) (w0 : (l0.length ≤ maxLen ∧ l0.length * 80 ≤ reachBytes ∧ ∀ x ∈ l0, wf42 x)) (w1 : (l1.length ≤ maxLen ∧ l1.length * 8 ≤ reachBytes ∧ ∀ x ∈ l1, (Lit.int .i64 x).wf = true)) : ∃ k, merkhetlaw18_ShiftSolved.f k l0 l1 = some true := by
  obtain ⟨_, _, hw⟩ := w0
  refine Ev.rounds (g := fun k => merkhetlaw18_ShiftSolved.f k l0 l1) ?_
  unfold merkhetlaw18_ShiftSolved.f
  have hfr : ∀ s ∈ l0, fitR s := fun s hs => fit_wf (hw s hs)
  have hf : ∀ s ∈ l0, fitS s := fun s hs => (hfr s hs).1
  have skip : Ev (fun k => merkhetlaw18_ShiftSolved.j0 k l0 l1 true) true := by
    refine Ev.succ ?_
    simp only [merkhetlaw18_ShiftSolved.j0]
    exact Ev.pos trivial (Ev.bind fixed18 (Ev.now _))
  obtain ⟨b, hb, hb2⟩ := great_ev l0
  refine Ev.bind hb (Ev.ite (fun h => skip) (fun h => ?_))
  obtain ⟨h60, _⟩ := hb2 (by simpa using h)
  by_cases h2 : (l1.length : Int) > 60
  · rw [decide_eq_true h2]; exact skip
  rw [decide_eq_false h2]
  have hpl := parL_length l0
  have s1 := solvedB_len l0 l1 h60
  have s2 := solvedB_len l0 (parL l0) h60
  refine Ev.succ ?_
  simp only [merkhetlaw18_ShiftSolved.j0]
  refine Ev.neg (by simp) (Ev.bind (solved_ev l0 l1 h60 (by omega) hf) (Ev.bind (rsolved_ev l0 l1 h60 (by omega) hfr) (Ev.bind (par_ev l0 (by omega)) (Ev.bind (solved_ev l0 (parL l0) h60 (by omega) hf) (Ev.bind (par_ev l0 (by omega)) (Ev.bind (rsolved_ev l0 (parL l0) h60 (by omega) hfr) (Ev.bind fixed18 (Ev.pos rfl (Ev.bind (same15_self _ (by omega)) (Ev.pos rfl (Ev.pos (by simp) (Ev.bind (same15_self _ (by omega)) (Ev.pos rfl (Ev.cast (Ev.now _) (by simp)))))))))))))))
end Go.Proofs.Ytjgpggjjgimibaa.Pure

