/- Texts joined by wip/tools/merge.py: XOpens VOpens ZOpens RlxP RlxR SpanT RefH RefS RefG BndG RefK EdgeRV PureShiftSolved SolP Yx0 YOpens Yx1 PureShiftRight FeasP PureShiftGreatest. -/
import Derived.Test.YtjgpggjjgimibaaJShiftGreatest22
import Derived.Test.YtjgpggjjgimibaaJShiftGreatest25
import Derived.KernelRfl
import Derived.Test.YtjgpggjjgimibaaJShiftGreatest26
import Derived.Test.YtjgpggjjgimibaaJShiftGreatest27
import Derived.Test.YtjgpggjjgimibaaJShiftGreatest0
import Derived.Test.YtjgpggjjgimibaaJShiftGreatest23
import Derived.Test.YtjgpggjjgimibaaProg
import Derived.Below
import Derived.Deep.Draws
import Derived.Deep.AppendLies
import Derived.Maps.AppendAt
import Derived.OwnWalk
import Derived.Laws.BytesArg
import Derived.Laws.MakeOwn
import Derived.Laws.OwnMore
import Derived.Deep.OwnRows
import Derived.Tactics
import Derived.Lib.ConvBytes
import Derived.Laws.Slices
import Derived.WalkKit
import Derived.RowKit3
import Derived.Deep.LoopGhost
import Derived.Deep.QuietTactic
import Derived.BigQuiet
import Derived.WideLaws
import Derived.Deep.DeepCutAuto
import Derived.Deep.CutBlock
import Derived.Deep.RegionHeld3
import Derived.Laws.Rows
import Derived.Lib.AppendStr
import Derived.ArgAppend
import Derived.Laws.IdiomCopy
import Derived.OrdersHeld
import Derived.Laws.BitsLemmas
import Derived.RowKit
import Derived.Test.YtjgpggjjgimibaaJShiftGreatest1
import Derived.Test.YtjgpggjjgimibaaJShiftGreatest2
import Derived.Test.YtjgpggjjgimibaaJShiftGreatest3
import Derived.Test.YtjgpggjjgimibaaJShiftGreatest4
import Derived.Test.YtjgpggjjgimibaaJShiftGreatest5
import Derived.Test.YtjgpggjjgimibaaJShiftGreatest6
import Derived.Test.YtjgpggjjgimibaaJShiftGreatest7
import Derived.Test.YtjgpggjjgimibaaJShiftGreatest8
import Derived.Test.YtjgpggjjgimibaaJShiftGreatest9
import Derived.Test.YtjgpggjjgimibaaJShiftGreatest10
import Derived.Test.YtjgpggjjgimibaaJShiftGreatest11
import Derived.Test.YtjgpggjjgimibaaJShiftGreatest12
import Derived.Test.YtjgpggjjgimibaaJShiftGreatest13
import Derived.Test.YtjgpggjjgimibaaJShiftGreatest14
import Derived.Test.YtjgpggjjgimibaaJShiftGreatest15
import Derived.Test.YtjgpggjjgimibaaJShiftGreatest16
import Derived.Test.YtjgpggjjgimibaaJShiftGreatest17
import Derived.Test.YtjgpggjjgimibaaJShiftGreatest18
import Derived.Test.YtjgpggjjgimibaaJShiftGreatest19
import Derived.Test.YtjgpggjjgimibaaJShiftGreatest20
import Derived.Test.YtjgpggjjgimibaaJShiftGreatest21
import Derived.Test.YtjgpggjjgimibaaJShiftGreatest28
-- Written by wip/tools/row.py, a program of this session. Lean checks it.
namespace Go.Proofs.Ytjgpggjjgimibaa.X
open Go.RowKit Go.Proofs.YtjgpggjjgimibaaW.PrintWords Go.Proofs.YtjgpggjjgimibaaW.Open Go.Proofs.Ytjgpggjjgimibaa.Q
set_option linter.unusedVariables false

end Go.Proofs.Ytjgpggjjgimibaa.X

-- Written by wip/tools/row.py, a program of this session. Lean checks it.
namespace Go.Proofs.Ytjgpggjjgimibaa.V
open Go.RowKit Go.Proofs.YtjgpggjjgimibaaW.PrintWords Go.Proofs.YtjgpggjjgimibaaW.Open Go.Proofs.Ytjgpggjjgimibaa.Q Go.Proofs.Ytjgpggjjgimibaa.X
set_option linter.unusedVariables false

end Go.Proofs.Ytjgpggjjgimibaa.V

-- Written by wip/tools/row.py, a program of this session. Lean checks it.
namespace Go.Proofs.Ytjgpggjjgimibaa.Z
open Go.RowKit Go.Proofs.YtjgpggjjgimibaaW.PrintWords Go.Proofs.YtjgpggjjgimibaaW.Open Go.Proofs.Ytjgpggjjgimibaa.Q Go.Proofs.Ytjgpggjjgimibaa.X Go.Proofs.Ytjgpggjjgimibaa.V
set_option linter.unusedVariables false

end Go.Proofs.Ytjgpggjjgimibaa.Z

/- Layers and greatest offsets, plain: the program's and the document's come to the same. -/
namespace Go.Proofs.Ytjgpggjjgimibaa.L
open Go.RowKit Go.Proofs.Ytjgpggjjgimibaa.Q Go.Proofs.Ytjgpggjjgimibaa.X Go.Proofs.YtjgpggjjgimibaaW.PrintWords Go.Proofs.YtjgpggjjgimibaaW.PrintLast Go.Proofs.YtjgpggjjgimibaaW.PrintMore Go.Proofs.YtjgpggjjgimibaaW.Lib
set_option linter.unusedVariables false

abbrev Edge := S37
abbrev rdE (l : List Edge) (i : Int) : Edge := rd_T37 l i
theorem rd_set (l : List Int) (i j v : Int) (h0 : 0 ≤ i) (h1 : i < l.length) (hj : 0 ≤ j) : rd (l.set i.toNat v) j = if i = j then v else rd l j := by
  have hi : i.toNat < l.length := by omega
  unfold rd
  by_cases h : i = j
  · subst h
    rw [if_pos rfl, List.getD_eq_getElem?_getD, List.getElem?_set_self hi]; rfl
  · rw [if_neg h, List.getD_eq_getElem?_getD, List.getD_eq_getElem?_getD, List.getElem?_set_ne (by omega)]
theorem rd_rep (n : Nat) (v : Int) (i : Int) (h0 : 0 ≤ i) (h1 : i < n) : rd (List.replicate n v) i = v := by
  have hi : i.toNat < n := by omega
  simp [rd, List.getD, hi]
theorem rd_map_range (n : Nat) (f : Nat → Int) (i : Int) (h0 : 0 ≤ i) (h1 : i < n) : rd ((List.range n).map f) i = f i.toNat := by
  have hi : i.toNat < n := by omega
  simp [rd, List.getD, hi]
theorem ext_rd (a b : List Int) (hl : a.length = b.length) (h : ∀ i : Nat, i < a.length → rd a i = rd b i) : a = b := by
  refine List.ext_getElem hl ?_
  intro i h1 h2
  have := h i h1
  simpa [rd, List.getD, h1, h2] using this
/-- What a host has behind a layer, and by which edge. -/
def leastL (had : List Int) (es : List Edge) (h : Int) : Nat → Int × Int
  | 0 => (rd had h, -1)
  | m + 1 => if (rdE es m).f1 = h ∧ wrap64 (rd had (rdE es m).f0 + (rdE es m).f2) < (leastL had es h m).1 then (wrap64 (rd had (rdE es m).f0 + (rdE es m).f2), (m : Int)) else leastL had es h m
theorem leastL_le (had : List Int) (es : List Edge) (h : Int) : ∀ m, (leastL had es h m).1 ≤ rd had h
  | 0 => Int.le_refl _
  | m + 1 => by
    have ih := leastL_le had es h m
    simp only [leastL]
    split
    · rename_i c; exact Int.le_trans (Int.le_of_lt c.2) ih
    · exact ih
theorem next_least (had : List Int) (es : List Edge) (hin : inE had.length es) : ∀ m, m ≤ es.length → ∀ h : Int, 0 ≤ h → h < had.length → rd (nextL had es m).1 h = (leastL had es h m).1 ∧ rd (nextL had es m).2 h = (leastL had es h m).2
  | 0, _, h, h0, h1 => ⟨rfl, rd_rep _ _ _ h0 h1⟩
  | m + 1, hm, h, h0, h1 => by
    obtain ⟨i1, i2⟩ := next_least had es hin m (by omega) h h0 h1
    obtain ⟨l1, l2⟩ := nextL_len had es m
    have he : 0 ≤ (rdE es (m : Int)).f0 ∧ (rdE es (m : Int)).f0 < had.length ∧ 0 ≤ (rdE es (m : Int)).f1 ∧ (rdE es (m : Int)).f1 < had.length := hin _ (rdE_mem es m (by omega) (by omega))
    show rd (stepN had (nextL had es m) (m : Int) (rdE es (m : Int))).1 h = _ ∧ rd (stepN had (nextL had es m) (m : Int) (rdE es (m : Int))).2 h = _
    simp only [leastL, stepN]
    generalize rdE es (m : Int) = e at *
    by_cases q : e.f1 = h
    · subst q
      rw [← i1]
      by_cases c : wrap64 (rd had e.f0 + e.f2) < rd (nextL had es m).1 e.f1
      · rw [if_pos c, if_pos ⟨rfl, c⟩]
        refine ⟨?_, ?_⟩
        · show rd (List.set _ _ _) _ = _
          rw [rd_set _ _ _ _ he.2.2.1 (by rw [l1]; exact he.2.2.2) he.2.2.1, if_pos rfl]
        · show rd (List.set _ _ _) _ = _
          rw [rd_set _ _ _ _ he.2.2.1 (by rw [l2]; exact he.2.2.2) he.2.2.1, if_pos rfl]
      · rw [if_neg c, if_neg (fun h => c h.2)]
        exact ⟨i1, i2⟩
    · have hq : ¬ (e.f1 = h ∧ wrap64 (rd had e.f0 + e.f2) < (leastL had es h m).1) := fun h' => q h'.1
      by_cases c : wrap64 (rd had e.f0 + e.f2) < rd (nextL had es m).1 e.f1
      · rw [if_pos c, if_neg hq]
        refine ⟨?_, ?_⟩
        · show rd (List.set _ _ _) _ = _
          rw [rd_set _ _ _ _ he.2.2.1 (by rw [l1]; exact he.2.2.2) h0, if_neg q]; exact i1
        · show rd (List.set _ _ _) _ = _
          rw [rd_set _ _ _ _ he.2.2.1 (by rw [l2]; exact he.2.2.2) h0, if_neg q]; exact i2
      · rw [if_neg c, if_neg hq]
        exact ⟨i1, i2⟩
theorem next_le (had : List Int) (es : List Edge) (hin : inE had.length es) (h : Int) (h0 : 0 ≤ h) (h1 : h < had.length) : rd (nextL had es es.length).1 h ≤ rd had h := by
  rw [(next_least had es hin es.length (Nat.le_refl _) h h0 h1).1]
  exact leastL_le had es h es.length
/-- Layer by layer. -/
def layL (n : Nat) (es : List Edge) : Nat → List Int × List Int
  | 0 => (List.replicate n 0, List.replicate n (-1))
  | k + 1 => nextL (layL n es k).1 es es.length
theorem layL_len (n : Nat) (es : List Edge) : ∀ k, (layL n es k).1.length = n ∧ (layL n es k).2.length = n
  | 0 => ⟨List.length_replicate, List.length_replicate⟩
  | k + 1 => by
    obtain ⟨h1, h2⟩ := nextL_len (layL n es k).1 es es.length
    have ih := layL_len n es k
    exact ⟨h1.trans ih.1, h2.trans ih.1⟩
theorem inE_of_may {n : Int} {es : List Edge} (h : rmayB n es = true) : 0 ≤ n ∧ n ≤ 32 ∧ inE n.toNat es ∧ ∀ e ∈ es, -4503599627370496 ≤ e.f2 ∧ e.f2 ≤ 4503599627370496 := by
  unfold rmayB at h
  split at h
  · rename_i hn
    have hb : ∀ e ∈ es, badE n e = false := by
      intro e he
      have h2 : es.any (badE n) = false := by simpa using h
      simpa using List.any_eq_false.1 h2 e he
    have hs : ∀ e ∈ es, 0 ≤ min e.f0 e.f1 ∧ max e.f0 e.f1 < n ∧ e.f2 ≤ 4503599627370496 ∧ -4503599627370496 ≤ e.f2 := by
      intro e he
      have := hb e he
      unfold badE at this
      simp only [Bool.or_eq_false_iff, decide_eq_false_iff_not] at this
      omega
    exact ⟨hn.1, hn.2, fun e he => by have := hs e he; omega, fun e he => by have := hs e he; omega⟩
  · cases h
theorem rmay_of {n : Int} {es : List Edge} (hn : 0 ≤ n ∧ n ≤ 32) (h : ∀ e ∈ es, 0 ≤ e.f0 ∧ e.f0 < n ∧ 0 ≤ e.f1 ∧ e.f1 < n ∧ e.f2 ≤ 4503599627370496 ∧ -4503599627370496 ≤ e.f2) : rmayB n es = true := by
  unfold rmayB
  rw [if_pos hn]
  have : es.any (badE n) = false := by
    rw [List.any_eq_false]
    intro e he
    have := h e he
    unfold badE
    simp only [Bool.or_eq_true, decide_eq_true_eq]
    omega
  rw [this]; rfl
def rowsL (n : Nat) (es : List Edge) (k : Nat) : List (List Int) × List (List Int) := ((List.range k).map (fun i => (layL n es i).1), (List.range k).map (fun i => (layL n es i).2))
theorem rowsL_succ (n : Nat) (es : List Edge) (k : Nat) : (rowsL n es k).1 ++ [(layL n es k).1] = (rowsL n es (k + 1)).1 ∧ (rowsL n es k).2 ++ [(layL n es k).2] = (rowsL n es (k + 1)).2 := by
  simp [rowsL, List.range_succ]
theorem rd_rows (n : Nat) (es : List Edge) (k : Nat) (i : Int) (h0 : 0 ≤ i) (h1 : i < k) : rd_L8 (rowsL n es k).1 i = (layL n es i.toNat).1 := by
  have hi : i.toNat < k := by omega
  simp [rd_L8, rowsL, List.getD, hi]
/-- The layers, or none. -/
def laysB (n : Int) (es : List Edge) : List (List Int) × List (List Int) := if rmayB n es = true then rowsL n.toNat es (n.toNat + 1) else ([], [])
theorem layers_ev (n : Int) (es : List Edge) (he : es.length ≤ 1000000000) : Ev (fun k => relax_Layers.f k n es) (laysB n es) := by
  unfold relax_Layers.f
  refine Ev.bind (a := rmayB n es) (Ev.const (by unfold relax_May.f; rw [if_pos he])) ?_
  by_cases hm : rmayB n es = true
  rotate_left
  · refine Ev.neg hm (Ev.cast (Ev.now _) ?_)
    unfold laysB; rw [if_neg hm]
  obtain ⟨h0, h32, hin, _⟩ := inE_of_may hm
  refine Ev.pos hm (Ev.bind (a := List.replicate n.toNat 0) (Ev.const (by unfold relax_row_int64.f; rw [if_pos ⟨h0, by omega⟩])) (Ev.bind (a := List.replicate n.toNat (-1)) (Ev.const (by unfold relax_row_int.f; rw [if_pos ⟨h0, by omega⟩])) ?_))
  have hl : laysB n es = rowsL n.toNat es (n.toNat + 1) := by unfold laysB; rw [if_pos hm]
  rw [hl]
  have key : ∀ (d i : Nat), n.toNat - i = d → i ≤ n.toNat → Ev (fun k => relax_Layers.l0 k es (rowsL n.toNat es (i + 1)).1 (rowsL n.toNat es (i + 1)).2 n (i : Int)) (rowsL n.toNat es (n.toNat + 1)) := by
    intro d
    induction d with
    | zero =>
      intro i hd hi
      refine Ev.succ ?_
      simp only [relax_Layers.l0]
      refine Ev.neg (by omega) (Ev.cast (Ev.now _) ?_)
      rw [show i = n.toNat by omega]
    | succ d ih =>
      intro i hd hi
      have h2 := ih (i + 1) (by omega) (by omega)
      have hr := rd_rows n.toNat es (i + 1) i (by omega) (by omega)
      have hlen : (rowsL n.toNat es (i + 1)).1.length = i + 1 ∧ (rowsL n.toNat es (i + 1)).2.length = i + 1 := by simp [rowsL]
      have hs := rowsL_succ n.toNat es (i + 1)
      refine Ev.succ ?_
      simp only [relax_Layers.l0, hr]
      refine Ev.pos (by omega) (Ev.pos (by omega) (Ev.pos (by omega) (Ev.bind (a := nextL (layL n.toNat es (i : Int).toNat).1 es es.length) (Ev.const ?_) (Ev.pos (by omega) (Ev.pos (by omega) ?_)))))
      · unfold relax_next.f
        rw [if_pos ⟨by rw [(layL_len _ _ _).1]; omega, he, by rw [(layL_len _ _ _).1]; exact hin⟩]
      · rw [wrap_id (by omega) (by omega)]
        rw [← hs.1, ← hs.2] at h2
        exact h2
  exact key n.toNat 0 (by omega) (by omega)
/-- The greatest offsets; false. -/
def solveB (n : Int) (es : List Edge) : List Int × Bool :=
  if rmayB n es = true ∧ (n > 0 → (layL n.toNat es n.toNat).1 = (layL n.toNat es (n.toNat - 1)).1) then ((layL n.toNat es n.toNat).1, true) else ([], false)
instance (n : Int) (es : List Edge) : Decidable (rmayB n es = true ∧ (n > 0 → (layL n.toNat es n.toNat).1 = (layL n.toNat es (n.toNat - 1)).1)) := inferInstance
theorem equal_ev (a b : List Int) (ha : a.length ≤ 1000000000) : ∃ r, Ev (fun k => slices_Equal_int64_int64.f k a b) r ∧ (r = true ↔ a = b) := by
  unfold slices_Equal_int64_int64.f
  by_cases h : (a.length : Int) = (b.length : Int)
  · have key : ∀ (d i : Nat), a.length - i = d → i ≤ a.length → ∃ r, Ev (fun k => slices_Equal_int64_int64.l0 k a b (a.length : Int) (i : Int)) r ∧ (r = true ↔ a.drop i = b.drop i) := by
      intro d
      induction d with
      | zero =>
        intro i hd hi
        refine ⟨true, Ev.succ ?_, ?_⟩
        · simp only [slices_Equal_int64_int64.l0]
          exact Ev.neg (by omega) (Ev.now _)
        · rw [List.drop_of_length_le (by omega), List.drop_of_length_le (by omega)]
          simp
      | succ d ih =>
        intro i hd hi
        have hil : i < a.length := by omega
        have hib : i < b.length := by omega
        have hr : rd a (i : Int) = a[i] := by simp [rd, List.getD, hil]
        have hr2 : rd b (i : Int) = b[i] := by simp [rd, List.getD, hib]
        obtain ⟨r, h1, h2⟩ := ih (i + 1) (by omega) (by omega)
        have ea := List.drop_eq_getElem_cons hil
        have eb := List.drop_eq_getElem_cons hib
        by_cases e : a[i] = b[i]
        · refine ⟨r, Ev.succ ?_, ?_⟩
          · simp only [slices_Equal_int64_int64.l0, hr, hr2]
            refine Ev.pos (by omega) (Ev.pos (by omega) (Ev.pos (by omega) (Ev.pos (by omega) (Ev.pos e ?_))))
            rw [wrap_id (by omega) (by omega)]
            exact h1
          · rw [h2, ea, eb, List.cons.injEq]
            exact ⟨fun h => ⟨e, h⟩, fun h => h.2⟩
        · refine ⟨false, Ev.succ ?_, ?_⟩
          · simp only [slices_Equal_int64_int64.l0, hr, hr2]
            exact Ev.pos (by omega) (Ev.pos (by omega) (Ev.pos (by omega) (Ev.pos (by omega) (Ev.neg e (Ev.now _)))))
          · rw [ea, eb, List.cons.injEq]
            exact ⟨fun h => absurd h (by simp), fun h => absurd h.1 e⟩
    obtain ⟨r, h1, h2⟩ := key a.length 0 (by omega) (by omega)
    exact ⟨r, Ev.pos h h1, by simpa using h2⟩
  · refine ⟨false, Ev.neg h (Ev.now _), ⟨by simp, ?_⟩⟩
    rintro rfl
    exact absurd rfl h
theorem solve_ev (n : Int) (es : List Edge) (he : es.length ≤ 1000000000) : Ev (fun k => relax_Solve.f k n es) (solveB n es) := by
  unfold relax_Solve.f
  refine Ev.bind (layers_ev n es he) ?_
  by_cases hm : rmayB n es = true
  rotate_left
  · have h1 : laysB n es = ([], []) := by unfold laysB; rw [if_neg hm]
    have h2 : solveB n es = ([], false) := by unfold solveB; rw [if_neg (fun h => hm h.1)]
    rw [h1, h2]
    refine Ev.pos rfl (Ev.succ ?_)
    simp only [relax_Solve.j0]
    exact Ev.pos trivial (Ev.now _)
  obtain ⟨h0, h32, hin, _⟩ := inE_of_may hm
  have h1 : laysB n es = rowsL n.toNat es (n.toNat + 1) := by unfold laysB; rw [if_pos hm]
  rw [h1]
  have hlen : (rowsL n.toNat es (n.toNat + 1)).1.length = n.toNat + 1 := by simp [rowsL]
  have hr := rd_rows n.toNat es (n.toNat + 1) n h0 (by omega)
  have yes : solveB n es = ((layL n.toNat es n.toNat).1, true) → Ev (fun k => relax_Solve.j0 k n (rowsL n.toNat es (n.toNat + 1)).1 false) (solveB n es) := by
    intro h
    rw [h]
    refine Ev.succ ?_
    simp only [relax_Solve.j0, hr]
    exact Ev.neg (by simp) (Ev.pos h0 (Ev.pos (by omega) (Ev.now _)))
  refine Ev.neg (by omega) (Ev.ite (fun hp => ?_) (fun hp => ?_))
  · have hr2 := rd_rows n.toNat es (n.toNat + 1) (n - 1) (by omega) (by omega)
    rw [wrap_id (by omega) (by omega)]
    obtain ⟨r, e1, e2⟩ := equal_ev (layL n.toNat es n.toNat).1 (layL n.toNat es (n.toNat - 1)).1 (by rw [(layL_len _ _ _).1]; omega)
    rw [show (n - 1).toNat = n.toNat - 1 by omega] at hr2
    simp only [hr, hr2]
    refine Ev.pos h0 (Ev.pos (by omega) (Ev.pos (by omega) (Ev.pos (by omega) (Ev.bind e1 ?_))))
    cases r with
    | true =>
      refine yes ?_
      unfold solveB; rw [if_pos ⟨hm, fun _ => e2.1 rfl⟩]
    | false =>
      have h2 : solveB n es = ([], false) := by unfold solveB; rw [if_neg (fun h => by have := e2.2 (h.2 hp); cases this)]
      rw [h2]
      refine Ev.succ ?_
      simp only [relax_Solve.j0]
      exact Ev.pos rfl (Ev.now _)
  · refine yes ?_
    unfold solveB; rw [if_pos ⟨hm, fun h => absurd h hp⟩]
end Go.Proofs.Ytjgpggjjgimibaa.L

/- The document's layers and greatest offsets, plain. -/
namespace Go.Proofs.Ytjgpggjjgimibaa.L
open Go.RowKit Go.Proofs.Ytjgpggjjgimibaa.Q Go.Proofs.Ytjgpggjjgimibaa.X Go.Proofs.YtjgpggjjgimibaaW.PrintWords Go.Proofs.YtjgpggjjgimibaaW.PrintLast Go.Proofs.YtjgpggjjgimibaaW.PrintMore Go.Proofs.YtjgpggjjgimibaaW.Lib
set_option linter.unusedVariables false
end Go.Proofs.Ytjgpggjjgimibaa.L

/- What the document's order of texts comes to, as plain Lean. -/
namespace Go.Proofs.Ytjgpggjjgimibaa.L
open Go.RowKit Go.Proofs.Ytjgpggjjgimibaa.Q Go.Proofs.YtjgpggjjgimibaaW.PrintWords Go.Proofs.YtjgpggjjgimibaaW.PrintLast Go.Proofs.YtjgpggjjgimibaaW.PrintMore Go.Proofs.YtjgpggjjgimibaaW.Lib
set_option linter.unusedVariables false

abbrev Span := S42
theorem rdS_nat (l : List Span) (i : Nat) (h : i < l.length) : rd_T42 l (i : Int) = l[i] := by simp [rd_T42, List.getD, h]
theorem data_drop (s : ByteArray) (i : Nat) (h : i < s.size) : ∃ x : UInt8, s.data.toList.drop i = x :: s.data.toList.drop (i + 1) ∧ (x.toNat : Int) = bt s (i : Int) := by
  have h' : i < s.data.toList.length := by simpa using h
  refine ⟨s.data.toList[i], List.drop_eq_getElem_cons h', ?_⟩
  rw [← bt_at s (i : Int) (by simpa using h)]
  simp [ByteArray.getElem_eq_getElem_data]
theorem text_l0 (a b : ByteArray) (ha : a.size ≤ 140737488351232) (hb : b.size ≤ 140737488351232) : ∀ (d i : Nat), a.size - i = d → i ≤ a.size → i ≤ b.size →
    Ev (fun k => merkhetref01_Text.l0 k a b (i : Int)) (Go.Lib.compareBytes (a.data.toList.drop i) (b.data.toList.drop i)) := by
  have stop : ∀ i : Nat, i ≤ a.size → i ≤ b.size → ¬ (i < a.size ∧ i < b.size) → (if (a.size : Int) < (b.size : Int) then (-1 : Int) else if (a.size : Int) > (b.size : Int) then 1 else 0) = Go.Lib.compareBytes (a.data.toList.drop i) (b.data.toList.drop i) := by
    intro i h1 h2 h3
    by_cases e1 : i < a.size
    · obtain ⟨x, hx, _⟩ := data_drop a i e1
      rw [hx, List.drop_of_length_le (l := b.data.toList) (by simp; omega), if_neg (by omega), if_pos (by omega)]; rfl
    · by_cases e2 : i < b.size
      · obtain ⟨x, hx, _⟩ := data_drop b i e2
        rw [hx, List.drop_of_length_le (l := a.data.toList) (by simp; omega), if_pos (by omega)]; rfl
      · rw [List.drop_of_length_le (l := a.data.toList) (by simp; omega), List.drop_of_length_le (l := b.data.toList) (by simp; omega), if_neg (by omega), if_neg (by omega)]; rfl
  have fin : ∀ i : Nat, i ≤ a.size → i ≤ b.size → ¬ (i < a.size ∧ i < b.size) → Ev (fun k => merkhetref01_Text.j1 k a b (i : Int) false) (Go.Lib.compareBytes (a.data.toList.drop i) (b.data.toList.drop i)) := by
    intro i h1 h2 h3
    refine Ev.step (f := fun _ => if (a.size : Int) < (b.size : Int) then some (-1) else if (a.size : Int) > (b.size : Int) then some 1 else some 0) (fun k => by simp [merkhetref01_Text.j1]) ?_
    rw [← stop i h1 h2 h3]
    refine Ev.ite (fun e => ?_) (fun e => ?_)
    · rw [if_pos e]; exact Ev.now _
    · rw [if_neg e]
      refine Ev.ite (fun e => ?_) (fun e => ?_)
      · rw [if_pos e]; exact Ev.now _
      · rw [if_neg e]; exact Ev.now _
  intro d
  induction d with
  | zero =>
    intro i hd h1 h2
    refine Ev.step (f := fun k => merkhetref01_Text.j1 k a b (i : Int) false) (fun k => by simp only [merkhetref01_Text.l0]; rw [if_neg (by omega)]) (fin i h1 h2 (by omega))
  | succ d ih =>
    intro i hd h1 h2
    refine Ev.step (f := fun k => merkhetref01_Text.j1 k a b (i : Int) (decide ((i : Int) < (b.size : Int)))) (fun k => by simp only [merkhetref01_Text.l0]; rw [if_pos (by omega)]) ?_
    by_cases e : i < b.size
    · rw [decide_eq_true (by omega : (i : Int) < (b.size : Int))]
      obtain ⟨x, hx, ex⟩ := data_drop a i (by omega)
      obtain ⟨y, hy, ey⟩ := data_drop b i e
      refine Ev.step (f := fun k => if bt a (i : Int) < bt b (i : Int) then some (-1) else if bt a (i : Int) > bt b (i : Int) then some 1 else merkhetref01_Text.l0 k a b ((i + 1 : Nat) : Int)) (fun k => ?_) ?_
      · simp only [merkhetref01_Text.j1]
        rw [if_pos trivial, if_pos (by omega), if_pos (by omega), if_pos (by omega), wrap_id (by omega) (by omega)]; rfl
      · rw [hx, hy]
        simp only [Go.Lib.compareBytes, UInt8.lt_iff_toNat_lt]
        refine Ev.ite (fun e1 => ?_) (fun e1 => ?_)
        · rw [if_pos (by omega)]; exact Ev.now _
        · rw [if_neg (by omega)]
          refine Ev.ite (fun e2 => ?_) (fun e2 => ?_)
          · rw [if_pos (by omega)]; exact Ev.now _
          · rw [if_neg (by omega)]; exact ih (i + 1) (by omega) (by omega) (by omega)
    · rw [decide_eq_false (by omega : ¬ (i : Int) < (b.size : Int))]
      exact fin i h1 h2 (by omega)
theorem text_ev (a b : ByteArray) (ha : a.size ≤ 140737488351232) (hb : b.size ≤ 140737488351232) : Ev (fun k => merkhetref01_Text.f k a b) (cmpB a b) := by
  have := text_l0 a b ha hb a.size 0 (by omega) (by omega) (by omega)
  simpa [merkhetref01_Text.f, cmpB] using this
end Go.Proofs.Ytjgpggjjgimibaa.L

/- The document's hosts, as plain lists. -/
namespace Go.Proofs.Ytjgpggjjgimibaa.L
open Go.RowKit Go.Proofs.Ytjgpggjjgimibaa.Q Go.Proofs.YtjgpggjjgimibaaW.PrintWords Go.Proofs.YtjgpggjjgimibaaW.PrintLast Go.Proofs.YtjgpggjjgimibaaW.PrintMore Go.Proofs.YtjgpggjjgimibaaW.Lib
set_option linter.unusedVariables false

/-- The place of a text; -1. -/
def placeZ (l : List ByteArray) (s : ByteArray) : Int := if numB l s < l.length then (numB l s : Int) else -1
theorem numB_cons (x : ByteArray) (l : List ByteArray) (s : ByteArray) : numB (x :: l) s = if x = s then 0 else numB l s + 1 := by
  unfold numB
  rw [List.findIdx_cons]
  by_cases h : x = s
  · simp [h]
  · simp [h]
theorem text_eq {s t : ByteArray} : s.toList = t.toList ↔ s = t := by
  rw [toList_data, toList_data]
  constructor
  · intro h
    cases s; cases t
    simp_all
  · rintro rfl; rfl
theorem place_ev (l : List ByteArray) (s : ByteArray) (hl : l.length ≤ 1000000000) : Ev (fun k => merkhetref09_Place.f k l s) (placeZ l s) := by
  have key : ∀ (d i : Nat), l.length - i = d → i ≤ l.length → Ev (fun k => merkhetref09_Place.l0 k l s (i : Int)) (if numB (l.drop i) s < (l.drop i).length then ((i + numB (l.drop i) s : Nat) : Int) else -1) := by
    intro d
    induction d with
    | zero =>
      intro i hd hi
      rw [List.drop_of_length_le (by omega), if_neg (by simp)]
      refine Ev.succ ?_
      simp only [merkhetref09_Place.l0]
      exact Ev.neg (by omega) (Ev.now _)
    | succ d ih =>
      intro i hd hi
      have hil : i < l.length := by omega
      have hr : rdOf ByteArray.empty l (i : Int) = l[i] := by simp [rdOf, List.getD, hil]
      refine Ev.succ ?_
      simp only [merkhetref09_Place.l0, hr]
      refine Ev.pos (by omega) (Ev.pos (by omega) ?_)
      rw [List.drop_eq_getElem_cons hil, numB_cons, List.length_cons]
      refine Ev.ite (fun h => ?_) (fun h => ?_)
      · rw [if_pos (text_eq.1 h), if_pos (by omega)]
        exact Ev.cast (Ev.now _) (by simp)
      · rw [if_neg (fun h2 => h (text_eq.2 h2)), wrap_id (by omega) (by omega)]
        have h1 := ih (i + 1) (by omega) (by omega)
        refine Ev.cast h1 ?_
        by_cases h3 : numB (l.drop (i + 1)) s < (l.drop (i + 1)).length
        · rw [if_pos h3, if_pos (by omega)]; congr 1; omega
        · rw [if_neg h3, if_neg (by omega)]
  have := key l.length 0 (by omega) (by omega)
  unfold merkhetref09_Place.f placeZ
  simpa using this

theorem placeZ_mem (l : List ByteArray) (s : ByteArray) : 0 ≤ placeZ l s ↔ s ∈ l := by
  unfold placeZ
  constructor
  · intro h
    by_cases h2 : numB l s < l.length
    · have := List.findIdx_getElem (p := fun h => decide (h = s)) (w := h2)
      have h3 : l[numB l s] = s := of_decide_eq_true this
      rw [← h3]; exact List.getElem_mem _
    · rw [if_neg h2] at h; omega
  · intro h
    rw [if_pos (numB_lt h)]; omega
theorem hostsB_fold (l : List Span) : (l.map (·.f4)).foldl (insH cmpB) [] = hostsB l := by
  obtain ⟨h1, h2, _⟩ := foldH cmpB_is (l.map (·.f4)) [] List.Pairwise.nil
  refine h1.one cmpB_is (hostsB_rise l) fun x => ?_
  rw [h2, hostsB_mem, List.mem_map]
  simp
theorem rhosts_ev (x : List Span) (hx : x.length ≤ 1000000) (hw : ∀ s ∈ x, s.f4.size ≤ 140737488351232) : Ev (fun k => merkhetref09_Hosts.f k x) (hostsB x) := by
  have key : ∀ (d i : Nat), x.length - i = d → i ≤ x.length → ∀ a : List ByteArray, a.length ≤ i → (∀ s ∈ a, s.size ≤ 140737488351232) → Ev (fun k => merkhetref09_Hosts.l0 k x a (i : Int)) (((x.drop i).map (·.f4)).foldl (insH cmpB) a) := by
    intro d
    induction d with
    | zero =>
      intro i hd hi a ha _
      refine Ev.succ ?_
      simp only [merkhetref09_Hosts.l0]
      rw [List.drop_of_length_le (by omega)]
      exact Ev.neg (by omega) (Ev.now _)
    | succ d ih =>
      intro i hd hi a ha haw
      have hix : i < x.length := by omega
      have ws := hw x[i] (List.getElem_mem hix)
      rw [List.drop_eq_getElem_cons hix, List.map_cons, List.foldl_cons]
      have hins : (insH cmpB a x[i].f4).length ≤ i + 1 := by have := insH_length (c := cmpB) a x[i].f4; omega
      have hinw : ∀ s ∈ insH cmpB a x[i].f4, s.size ≤ 140737488351232 := by
        intro s hs
        rcases (insH_mem a x[i].f4 s).1 hs with hs | rfl
        · exact haw s hs
        · exact ws
      have next := ih (i + 1) (by omega) (by omega) _ hins hinw
      generalize hres : ((x.drop (i + 1)).map (·.f4)).foldl (insH cmpB) (insH cmpB a x[i].f4) = res at next
      refine Ev.succ ?_
      simp only [merkhetref09_Hosts.l0, rdS_nat x i hix]
      refine Ev.pos (by omega) (Ev.pos (by omega) (Ev.bind (place_ev a x[i].f4 (by omega)) (Ev.ite (fun h => ?_) (fun h => ?_))))
      · have hm := (placeZ_mem a x[i].f4).1 h
        have hst : insH cmpB a x[i].f4 = a := by unfold insH; rw [if_pos hm]
        rw [hst] at next
        rw [wrap_id (by omega) (by omega)]
        exact next
      · have hm : x[i].f4 ∉ a := fun h2 => h ((placeZ_mem a x[i].f4).2 h2)
        have hst : insH cmpB a x[i].f4 = a.take (posG cmpB a x[i].f4 a.length) ++ x[i].f4 :: a.drop (posG cmpB a x[i].f4 a.length) := by unfold insH; rw [if_neg hm]
        rw [hst] at next
        have fin : ∀ j : Nat, j ≤ a.length → posG cmpB a x[i].f4 a.length = j → Ev (fun k => if 0 ≤ (j : Int) then (if (j : Int) ≤ (a.length : Int) then ((some (a.drop (j : Int).toNat : List ByteArray)).bind fun y227 => (if ([] : List ByteArray).length + y227.length < 8796093022208 then ((some (([] : List ByteArray) ++ y227 : List ByteArray)).bind fun y231 => ((some (a.take (j : Int).toNat : List ByteArray)).bind fun y234 => (if y234.length < 8796093022208 then ((some (y234 ++ [x[i].f4] : List ByteArray)).bind fun y238 => (if y238.length + y231.length < 8796093022208 then (merkhetref09_Hosts.l0 k x (y238 ++ y231) (wrap64 ((i : Int) + 1))) else (none))) else (none)))) else (none))) else (none)) else (none)) res := by
          intro j hj hp
          rw [hp] at next
          refine Ev.pos (by omega) (Ev.pos (by omega) ?_)
          simp only [Option.bind_some, Int.toNat_natCast]
          refine Ev.pos (by simp; omega) (Ev.pos (by simp; omega) (Ev.pos (by simp; omega) ?_))
          rw [wrap_id (by omega) (by omega)]
          refine Ev.congr (fun k => ?_) next
          simp
        have inner : ∀ j : Nat, j ≤ a.length → posG cmpB a x[i].f4 a.length = posG cmpB a x[i].f4 j → Ev (fun k => merkhetref09_Hosts.l1 k x a (i : Int) (j : Int)) res := by
          intro j
          induction j with
          | zero =>
            intro hj hp
            refine Ev.succ ?_
            simp only [merkhetref09_Hosts.l1, rdS_nat x i hix]
            refine Ev.neg (by omega) ?_
            simp only [Option.bind_some]
            have := fin 0 (by omega) (by rw [hp]; rfl)
            simp only [Option.bind_some] at this
            refine Ev.congr (fun k => ?_) this
            simp only [show (0 : Int) ≤ (i : Int) by omega, show (i : Int) < (x.length : Int) by omega, if_true]
          | succ j ihj =>
            intro hj hp
            have hja : j < a.length := by omega
            have hr : rdOf ByteArray.empty a (j : Int) = a[j] := by simp [rdOf, List.getD, hja]
            have hg : a.getD j x[i].f4 = a[j] := by simp [List.getD, hja]
            refine Ev.succ ?_
            simp only [merkhetref09_Hosts.l1]
            refine Ev.pos (by omega) ?_
            rw [wrap_id (by omega) (by omega), show ((j + 1 : Nat) : Int) - 1 = (j : Int) by omega]
            refine Ev.pos (by omega) (Ev.pos (by omega) (Ev.pos (by omega) (Ev.pos (by omega) ?_)))
            simp only [rdS_nat x i hix, hr]
            refine Ev.bind (text_ev a[j] x[i].f4 (haw _ (List.getElem_mem _)) ws) (Ev.ite (fun e => ?_) (fun e => ?_))
            · exact ihj (by omega) (by rw [hp, posG_succ, hg, if_pos e])
            · simp only [Option.bind_some]
              have := fin (j + 1) (by omega) (by rw [hp, posG_succ, hg, if_neg e])
              simp only [Option.bind_some] at this
              exact this
        exact inner a.length (Nat.le_refl _) rfl
  have := key x.length 0 (by omega) (by omega) [] (by simp) (by simp)
  rw [List.drop_zero, hostsB_fold] at this
  exact this
end Go.Proofs.Ytjgpggjjgimibaa.L

/- The document's starts by offsets, as plain lists. -/
namespace Go.Proofs.Ytjgpggjjgimibaa.L
open Go.RowKit Go.Proofs.Ytjgpggjjgimibaa.Q Go.Proofs.YtjgpggjjgimibaaW.PrintWords Go.Proofs.YtjgpggjjgimibaaW.PrintLast Go.Proofs.YtjgpggjjgimibaaW.PrintMore Go.Proofs.YtjgpggjjgimibaaW.Lib
set_option linter.unusedVariables false

theorem rmay18_ev (l : List S42) (hl : l.length ≤ 1000000000) (hf : ∀ s ∈ l, fitR s) : Ev (fun k => merkhetref18_May.f k l) (mayA l) := by
  unfold merkhetref18_May.f
  have key : ∀ (d i : Nat), l.length - i = d → i ≤ l.length → Ev (fun k => merkhetref18_May.l0 k l (i : Int)) ((l.drop i).all mayS) := by
    intro d
    induction d with
    | zero =>
      intro i hd hi
      refine Ev.succ ?_
      simp only [merkhetref18_May.l0]
      rw [List.drop_of_length_le (by omega)]
      exact Ev.neg (by omega) (Ev.now _)
    | succ d ih =>
      intro i hd hi
      have hlt : i < l.length := by omega
      have hr : rd_T42 l (i : Int) = l[i] := by simp [rd_T42, List.getD, hlt]
      have h1 := ih (i + 1) (by omega) (by omega)
      have h2 := rmayS_ev l[i] (hf _ (List.getElem_mem hlt))
      refine Ev.succ ?_
      simp only [merkhetref18_May.l0, hr]
      rw [List.drop_eq_getElem_cons hlt, List.all_cons]
      refine Ev.pos (by omega) (Ev.pos (by omega) (Ev.bind h2 (Ev.ite (fun h => ?_) (fun h => ?_))))
      · rw [wrap_id (by omega) (by omega)]
        refine Ev.cast h1 ?_
        rw [h]; simp
      · refine Ev.cast (Ev.now _) ?_
        rw [Bool.eq_false_iff.2 h]; simp
  exact key l.length 0 (by omega) (by omega)
theorem same15_ev (a b : List Int) (ha : a.length ≤ 1000000000) : ∃ r, Ev (fun k => merkhetref15_Same.f k a b) r ∧ (r = true ↔ a = b) := by
  unfold merkhetref15_Same.f
  by_cases h : (a.length : Int) = (b.length : Int)
  · have key : ∀ (d i : Nat), a.length - i = d → i ≤ a.length → ∃ r, Ev (fun k => merkhetref15_Same.l0 k a b (i : Int)) r ∧ (r = true ↔ a.drop i = b.drop i) := by
      intro d
      induction d with
      | zero =>
        intro i hd hi
        refine ⟨true, Ev.succ ?_, ?_⟩
        · simp only [merkhetref15_Same.l0]
          exact Ev.neg (by omega) (Ev.now _)
        · rw [List.drop_of_length_le (by omega), List.drop_of_length_le (by omega)]
          simp
      | succ d ih =>
        intro i hd hi
        have hil : i < a.length := by omega
        have hib : i < b.length := by omega
        have hr : rd a (i : Int) = a[i] := by simp [rd, List.getD, hil]
        have hr2 : rd b (i : Int) = b[i] := by simp [rd, List.getD, hib]
        obtain ⟨r, h1, h2⟩ := ih (i + 1) (by omega) (by omega)
        have ea := List.drop_eq_getElem_cons hil
        have eb := List.drop_eq_getElem_cons hib
        by_cases e : a[i] = b[i]
        · refine ⟨r, Ev.succ ?_, ?_⟩
          · simp only [merkhetref15_Same.l0, hr, hr2]
            refine Ev.pos (by omega) (Ev.pos (by omega) (Ev.pos (by omega) (Ev.pos e ?_)))
            rw [wrap_id (by omega) (by omega)]
            exact h1
          · rw [h2, ea, eb, List.cons.injEq]
            exact ⟨fun h => ⟨e, h⟩, fun h => h.2⟩
        · refine ⟨false, Ev.succ ?_, ?_⟩
          · simp only [merkhetref15_Same.l0, hr, hr2]
            exact Ev.pos (by omega) (Ev.pos (by omega) (Ev.pos (by omega) (Ev.neg e (Ev.now _))))
          · rw [ea, eb, List.cons.injEq]
            exact ⟨fun h => absurd h (by simp), fun h => absurd h.1 e⟩
    obtain ⟨r, h1, h2⟩ := key a.length 0 (by omega) (by omega)
    exact ⟨r, Ev.pos h h1, by simpa using h2⟩
  · refine ⟨false, Ev.neg h (Ev.now _), ⟨by simp, ?_⟩⟩
    rintro rfl
    exact absurd rfl h
theorem same15_self (a : List Int) (ha : a.length ≤ 1000000000) : Ev (fun k => merkhetref15_Same.f k a a) true := by
  obtain ⟨r, h1, h2⟩ := same15_ev a a ha
  exact Ev.cast h1 (h2.2 rfl)
theorem numS_lt {l : List S42} {s : S42} (hs : s ∈ l) : numB (hostsB l) s.f4 < (hostsB l).length :=
  List.findIdx_lt_length_of_exists ⟨s.f4, (hostsB_mem l _).2 ⟨s, hs, rfl⟩, by simp⟩
theorem rstarts_ev (l : List S42) (offs : List Int) (hl : l.length ≤ 1000000) (ho : offs.length ≤ 1000000) (hf : ∀ s ∈ l, fitR s) : Ev (fun k => merkhetref18_Starts.f k l offs) (startsB l offs) := by
  unfold merkhetref18_Starts.f
  have hhl := hostsB_length l
  have skip : startsB l offs = ([], false) → Ev (fun k => merkhetref18_Starts.j0 k l offs (hostsB l) true) (startsB l offs) := by
    intro h
    rw [h]
    refine Ev.succ ?_
    simp only [merkhetref18_Starts.j0]
    exact Ev.pos trivial (Ev.now _)
  refine Ev.bind (rhosts_ev l hl (fun s hs => (hf s hs).1.2.1)) (Ev.bind (rmay18_ev l (by omega) hf) (Ev.ite (fun hm => ?_) (fun hm => skip ?_)))
  rotate_left
  · unfold startsB; rw [if_neg (fun h => hm h.1)]
  by_cases he : offs.length = (hostsB l).length
  rotate_left
  · rw [show ((((hostsB l).length : Nat) : Int) != ((offs.length : Nat) : Int)) = true from by rw [bne_iff_ne]; omega]
    refine skip ?_
    unfold startsB; rw [if_neg (fun h => he h.2.1)]
  rw [show ((((hostsB l).length : Nat) : Int) != ((offs.length : Nat) : Int)) = false from by rw [he]; simp]
  refine Ev.succ ?_
  simp only [merkhetref18_Starts.j0]
  refine Ev.neg (by simp) ?_
  have two : offs.any beyondB = false → ∀ (d i : Nat), l.length - i = d → i ≤ l.length → Ev (fun k => merkhetref18_Starts.l1 k l offs (hostsB l) ((startsL l offs).take i) (i : Int)) (startsB l offs) := by
    intro hb d
    have hsl : (startsL l offs).length = l.length := by simp [startsL]
    induction d with
    | zero =>
      intro i hd hi
      refine Ev.succ ?_
      simp only [merkhetref18_Starts.l1]
      refine Ev.neg (by omega) (Ev.cast (Ev.now _) ?_)
      rw [List.take_of_length_le (by omega)]
      unfold startsB; rw [if_pos ⟨hm, he, hb⟩]
    | succ d ih =>
      intro i hd hi
      have hlt : i < l.length := by omega
      have hr : rd_T42 l (i : Int) = l[i] := by simp [rd_T42, List.getD, hlt]
      have h1 := ih (i + 1) (by omega) (by omega)
      have hnb := numS_lt (List.getElem_mem hlt)
      have hpz : placeZ (hostsB l) l[i].f4 = (numB (hostsB l) l[i].f4 : Int) := by unfold placeZ; rw [if_pos hnb]
      have hp := place_ev (hostsB l) l[i].f4 (by omega)
      rw [hpz] at hp
      have hrn : rd (numsL l) (i : Int) = (numB (hostsB l) l[i].f4 : Int) := by simp [rd, List.getD, numsL, hlt]
      have hnext : (startsL l offs).take (i + 1) = (startsL l offs).take i ++ [wrap64 (l[i].f6 + rd offs (numB (hostsB l) l[i].f4 : Int))] := by
        rw [List.take_succ_eq_append_getElem (by omega)]
        have : (startsL l offs)[i]'(by omega) = startAt offs (numsL l) (rd_T42 l (i : Int)) i := by simp [startsL]
        rw [this, hr]
        unfold startAt
        rw [hrn]
      rw [hnext] at h1
      refine Ev.succ ?_
      simp only [merkhetref18_Starts.l1, hr]
      refine Ev.pos (by omega) (Ev.pos (by omega) (Ev.bind hp (Ev.pos (by omega) (Ev.pos (by omega) (Ev.pos ?_ ?_)))))
      · rw [List.length_take]; omega
      · rw [wrap_id (i := (i : Int) + 1) (by omega) (by omega)]
        exact h1
  have one : ∀ (d i : Nat), offs.length - i = d → i ≤ offs.length → (offs.take i).any beyondB = false → Ev (fun k => merkhetref18_Starts.l0 k l offs (hostsB l) (i : Int)) (startsB l offs) := by
    intro d
    induction d with
    | zero =>
      intro i hd hi hb
      rw [List.take_of_length_le (by omega)] at hb
      refine Ev.succ ?_
      simp only [merkhetref18_Starts.l0]
      exact Ev.neg (by omega) (two hb l.length 0 (by omega) (by omega))
    | succ d ih =>
      intro i hd hi hb
      have hlt : i < offs.length := by omega
      have hr : rd offs (i : Int) = offs[i] := by simp [rd, List.getD, hlt]
      have bad : beyondB offs[i] = true → startsB l offs = ([], false) := by
        intro h
        unfold startsB
        rw [if_neg]
        intro h2
        have := List.any_eq_false.1 h2.2.2 offs[i] (List.getElem_mem hlt)
        exact this h
      refine Ev.succ ?_
      simp only [merkhetref18_Starts.l0, hr]
      refine Ev.pos (by omega) (Ev.pos (by omega) (Ev.ite (fun c1 => ?_) (fun c1 => Ev.ite (fun c2 => ?_) (fun c2 => ?_))))
      · rw [bad (by unfold beyondB; rw [decide_eq_true (show 288230376151711744 < offs[i] from c1)]; rfl)]; exact Ev.now _
      · rw [bad (by unfold beyondB; rw [decide_eq_true c2]; simp)]; exact Ev.now _
      · rw [wrap_id (by omega) (by omega)]
        refine ih (i + 1) (by omega) (by omega) ?_
        rw [List.take_succ_eq_append_getElem hlt, List.any_append, hb, Bool.false_or, List.any_cons, List.any_nil, Bool.or_false]
        unfold beyondB
        rw [decide_eq_false (by omega), decide_eq_false (by omega)]; rfl
  exact one offs.length 0 (by omega) (by omega) (by simp)
end Go.Proofs.Ytjgpggjjgimibaa.L

/- The guard of layer 4, as plain lists. -/
namespace Go.Proofs.Ytjgpggjjgimibaa.L
open Go.RowKit Go.Proofs.Ytjgpggjjgimibaa.Q Go.Proofs.YtjgpggjjgimibaaW.PrintWords Go.Proofs.YtjgpggjjgimibaaW.PrintLast Go.Proofs.YtjgpggjjgimibaaW.PrintMore Go.Proofs.YtjgpggjjgimibaaW.Lib
set_option linter.unusedVariables false

theorem great_ev (l : List Span) : ∃ b, Ev (fun k => merkhetlaw04_Great.f k l) b ∧ (b = false → l.length ≤ 60 ∧ ∀ x ∈ l, x.f4.size ≤ 100 ∧ x.f5.size ≤ 100) := by
  unfold merkhetlaw04_Great.f
  by_cases h : (l.length : Int) > 60
  · exact ⟨true, Ev.pos h (Ev.now _), by simp⟩
  · have key : ∀ (d i : Nat), l.length - i = d → i ≤ l.length → ∃ b, Ev (fun k => merkhetlaw04_Great.l0 k l (l.length : Int) (i : Int)) b ∧ (b = false → ∀ x ∈ l.drop i, x.f4.size ≤ 100 ∧ x.f5.size ≤ 100) := by
      intro d
      induction d with
      | zero =>
        intro i hd hi
        refine ⟨false, Ev.succ ?_, fun _ x hx => ?_⟩
        · simp only [merkhetlaw04_Great.l0]
          exact Ev.neg (by omega) (Ev.now _)
        · rw [List.drop_of_length_le (by omega)] at hx; cases hx
      | succ d ih =>
        intro i hd hi
        have hil : i < l.length := by omega
        obtain ⟨b, hb, hb2⟩ := ih (i + 1) (by omega) (by omega)
        by_cases h4 : ((l[i].f4.size : Nat) : Int) > 100
        · refine ⟨true, Ev.succ ?_, by simp⟩
          simp only [merkhetlaw04_Great.l0, rdS_nat l i hil]
          exact Ev.pos (by omega) (Ev.pos (by omega) (Ev.pos (by omega) (Ev.pos h4 (Ev.now _))))
        · by_cases h5 : ((l[i].f5.size : Nat) : Int) > 100
          · refine ⟨true, Ev.succ ?_, by simp⟩
            simp only [merkhetlaw04_Great.l0, rdS_nat l i hil]
            exact Ev.pos (by omega) (Ev.pos (by omega) (Ev.pos (by omega) (Ev.neg h4 (Ev.pos h5 (Ev.now _)))))
          · refine ⟨b, Ev.succ ?_, fun e x hx => ?_⟩
            · simp only [merkhetlaw04_Great.l0, rdS_nat l i hil]
              refine Ev.pos (by omega) (Ev.pos (by omega) (Ev.pos (by omega) (Ev.neg h4 (Ev.neg h5 ?_))))
              rw [wrap_id (by omega) (by omega)]
              exact hb
            · rw [List.drop_eq_getElem_cons hil] at hx
              rcases List.mem_cons.1 hx with rfl | hx
              · omega
              · exact hb2 e x hx
    obtain ⟨b, hb, hb2⟩ := key l.length 0 (by omega) (by omega)
    refine ⟨b, Ev.neg h hb, fun e => ⟨by omega, fun x hx => hb2 e x (by simpa using hx)⟩⟩

end Go.Proofs.Ytjgpggjjgimibaa.L

/- The chapter's example for bound.Of, plain. -/
namespace Go.Proofs.Ytjgpggjjgimibaa.L
open Go.RowKit Go.Proofs.Ytjgpggjjgimibaa.Q Go.Proofs.YtjgpggjjgimibaaW.PrintWords Go.Proofs.YtjgpggjjgimibaaW.PrintLast Go.Proofs.YtjgpggjjgimibaaW.PrintMore Go.Proofs.YtjgpggjjgimibaaW.MapB Go.Proofs.YtjgpggjjgimibaaW.Lib
set_option linter.unusedVariables false
theorem hostsB_fold' (l : List S42) : (l.map (·.f4)).foldl (insH cmpB) [] = hostsB l := by
  obtain ⟨h1, h2, _⟩ := foldH cmpB_is (l.map (·.f4)) [] List.Pairwise.nil
  refine h1.one cmpB_is (hostsB_rise l) fun x => ?_
  rw [h2, hostsB_mem, List.mem_map]
  simp
end Go.Proofs.Ytjgpggjjgimibaa.L

/- The document's numbers and groups of hosts, as plain lists. -/
namespace Go.Proofs.Ytjgpggjjgimibaa.L
open Go.RowKit Go.Proofs.Ytjgpggjjgimibaa.Q Go.Proofs.YtjgpggjjgimibaaW.PrintWords Go.Proofs.YtjgpggjjgimibaaW.PrintLast Go.Proofs.YtjgpggjjgimibaaW.PrintMore Go.Proofs.YtjgpggjjgimibaaW.Lib
set_option linter.unusedVariables false
end Go.Proofs.Ytjgpggjjgimibaa.L

/- The document's edges, as a plain list. -/
namespace Go.Proofs.Ytjgpggjjgimibaa.V
open Go.RowKit Go.Proofs.Ytjgpggjjgimibaa.Q Go.Proofs.YtjgpggjjgimibaaW.PrintWords Go.Proofs.YtjgpggjjgimibaaW.PrintLast Go.Proofs.YtjgpggjjgimibaaW.PrintMore Go.Proofs.YtjgpggjjgimibaaW.Lib Go.Proofs.Ytjgpggjjgimibaa.L
set_option linter.unusedVariables false

theorem edgesB_le (m : S42 → Bool) (l : List S42) (nums : List Int) : ∀ ps : List S35, (edgesB m l nums ps).length ≤ 2 * ps.length
  | [] => by simp [edgesB]
  | p :: ps => by
    have ih := edgesB_le m l nums ps
    have h1 : (edgesAt m l nums p).length ≤ 2 := by unfold edgesAt; split <;> simp
    have h2 : edgesB m l nums (p :: ps) = edgesAt m l nums p ++ edgesB m l nums ps := by simp [edgesB]
    rw [h2, List.length_append, List.length_cons]
    omega
end Go.Proofs.Ytjgpggjjgimibaa.V

/- ShiftSolved, the plain part: the greatest offsets are the document's. -/
namespace Go.Proofs.Ytjgpggjjgimibaa.Pure
set_option linter.unusedVariables false
open Go.RowKit Go.Proofs.Ytjgpggjjgimibaa.Q Go.Proofs.Ytjgpggjjgimibaa.X Go.Proofs.Ytjgpggjjgimibaa.V Go.Proofs.YtjgpggjjgimibaaW.PrintWords Go.Proofs.YtjgpggjjgimibaaW.PrintLast Go.Proofs.YtjgpggjjgimibaaW.PrintMore Go.Proofs.YtjgpggjjgimibaaW.Lib Go.Proofs.Ytjgpggjjgimibaa.L

theorem fit_wf {s : S42} (h : wf42 s) : fitR s := by
  refine ⟨⟨h.2.1, h.2.2.2.2.1, h.2.2.2.2.2.1⟩, ?_⟩
  have := h.2.2.2.1
  simp [Lit.wf, IntKind.min, IntKind.max, IntKind.signed, IntKind.bits] at this
  exact this.1
def exS : S42 := ⟨1, 1, 0, 0, ⟨#[97]⟩, ⟨#[98]⟩, 5, 0⟩
theorem exS_starts : startsB [exS] [-3] = ([2], true) := by
  have hh : hostsB [exS] = [⟨#[97]⟩] := by
    rw [← hostsB_fold']
    kernel_rfl
  have hn : numsL [exS] = [0] := by
    unfold numsL
    rw [hh]
    kernel_rfl
  unfold startsB
  rw [if_pos ⟨(by kernel_rfl : mayA [exS] = true), by rw [hh]; rfl, by decide⟩]
  have e : startsL [exS] [-3] = [2] := by
    unfold startsL
    rw [hn]
    kernel_rfl
  rw [e]
theorem fixed18 : Ev (fun k => merkhetlaw18_fixed.f k) true := by
  unfold merkhetlaw18_fixed.f shift_Starts.f
  rw [if_pos ⟨by intro x hx; simp only [List.mem_cons, List.not_mem_nil, or_false] at hx; rcases hx with rfl; exact ⟨by decide, by decide, by decide⟩, by decide, by decide⟩]
  rw [show startsB [(⟨1, 1, 0, 0, ⟨#[97]⟩, ⟨#[98]⟩, 5, 0⟩ : S42)] [-3] = ([2], true) from exS_starts]
  exact Ev.bind (Ev.now _) (Ev.pos rfl (Ev.bind (same15_self _ (by decide)) (Ev.now _)))
def edgesP (l : List S42) (ps : List Int) : List L.Edge := edgesB mayS l (numsL l) (pairsB l ps)
def solvedB (l : List S42) (ps : List Int) : List Int × Bool := if mayA l = true then solveB ((hostsB l).length : Int) (edgesP l ps) else ([], false)
theorem edgesP_le (l : List S42) (ps : List Int) (hl : l.length ≤ 60) : (edgesP l ps).length ≤ 120 := by
  have h1 := edgesB_le mayS l (numsL l) (pairsB l ps)
  have h2 := pairsB_length l ps
  unfold edgesP
  omega
theorem solved_ev (l : List S42) (ps : List Int) (hl : l.length ≤ 60) (hp : ps.length ≤ 1000000) (hf : ∀ s ∈ l, fitS s) : Ev (fun k => shift_Solved.f k l ps) (solvedB l ps) := by
  unfold shift_Solved.f
  have h2 := pairsB_length l ps
  have h3 := edgesP_le l ps hl
  refine Ev.bind (a := mayA l) (Ev.const (by unfold shift_may.f; rw [if_pos ⟨by omega, hf⟩])) ?_
  unfold solvedB
  refine Ev.ite (fun c => ?_) (fun c => ?_)
  · rw [if_pos c]
    exact Ev.bind (a := hostsB l) (Ev.const (by unfold dedupe_Hosts.f; rw [if_pos (by omega)])) (Ev.bind (a := pairsB l ps) (Ev.const (by unfold rpc_Of.f; rw [if_pos ⟨by omega, hf, hp⟩])) (Ev.bind (a := edgesP l ps) (Ev.const (by unfold bound_Of.f; rw [if_pos ⟨by omega, hf, by omega⟩]; rfl)) (Ev.bind (solve_ev _ _ (by omega)) (Ev.now _))))
  · rw [if_neg c]; exact Ev.now _
end Go.Proofs.Ytjgpggjjgimibaa.Pure

/- What solved offsets are: bounds, all edges hold, none is needed if all weights are from 0. -/
namespace Go.Proofs.Ytjgpggjjgimibaa.L
open Go.RowKit Go.Proofs.Ytjgpggjjgimibaa.Q Go.Proofs.YtjgpggjjgimibaaW.PrintWords Go.Proofs.YtjgpggjjgimibaaW.PrintLast Go.Proofs.YtjgpggjjgimibaaW.PrintMore Go.Proofs.YtjgpggjjgimibaaW.Lib
set_option linter.unusedVariables false

def smallE (es : List Edge) : Prop := ∀ e ∈ es, -4503599627370496 ≤ e.f2 ∧ e.f2 ≤ 4503599627370496
theorem rdE_in (es : List Edge) (m : Nat) (h : m < es.length) : rdE es (m : Int) ∈ es := rdE_mem es m (by omega) (by omega)
/-- A layer's numbers: from lo on, not above 0. -/
def within (n : Nat) (had : List Int) (lo : Int) : Prop := ∀ j : Int, 0 ≤ j → j < n → lo ≤ rd had j ∧ rd had j ≤ 0
theorem least_within (had : List Int) (es : List Edge) (hin : inE had.length es) (hs : smallE es) (lo : Int) (hlo : -288230376151711744 ≤ lo) (hw : within had.length had lo) (h : Int) (h0 : 0 ≤ h) (h1 : h < had.length) : ∀ m, m ≤ es.length → lo - 4503599627370496 ≤ (leastL had es h m).1 ∧ (leastL had es h m).1 ≤ 0
  | 0, _ => by have := hw h h0 h1; simp only [leastL]; omega
  | m + 1, hm => by
    have ih := least_within had es hin hs lo hlo hw h h0 h1 m (by omega)
    have hi : 0 ≤ (rdE es (m : Int)).f0 ∧ (rdE es (m : Int)).f0 < had.length ∧ 0 ≤ (rdE es (m : Int)).f1 ∧ (rdE es (m : Int)).f1 < had.length := hin _ (rdE_in es m (by omega))
    have hk := hs _ (rdE_in es m (by omega))
    have hf := hw _ hi.1 hi.2.1
    simp only [leastL]
    split
    · rename_i c
      have hw' := wrap_id (i := rd had (rdE es (m : Int)).f0 + (rdE es (m : Int)).f2) (by omega) (by omega)
      rw [hw'] at c ⊢
      show _ ∧ rd had (rdE es (m : Int)).f0 + (rdE es (m : Int)).f2 ≤ 0
      constructor
      · show lo - 4503599627370496 ≤ rd had (rdE es (m : Int)).f0 + (rdE es (m : Int)).f2; omega
      · omega
    · exact ih
theorem lay_within (n : Nat) (es : List Edge) (hin : inE n es) (hs : smallE es) : ∀ k : Nat, k ≤ 33 → within n (layL n es k).1 (-4503599627370496 * (k : Int))
  | 0, _ => by
    intro j h0 h1
    have h : rd (layL n es 0).1 j = 0 := rd_rep n 0 j h0 h1
    omega
  | k + 1, hk => by
    have ih := lay_within n es hin hs k (by omega)
    obtain ⟨l1, _⟩ := layL_len n es k
    intro j h0 h1
    have hin' : inE (layL n es k).1.length es := by rw [l1]; exact hin
    have h := least_within (layL n es k).1 es hin' hs (-4503599627370496 * (k : Int)) (by omega) (by rw [l1]; exact ih) j h0 (by rw [l1]; exact h1) es.length (Nat.le_refl _)
    show _ ≤ rd (nextL (layL n es k).1 es es.length).1 j ∧ rd (nextL (layL n es k).1 es es.length).1 j ≤ 0
    rw [(next_least _ es hin' es.length (Nat.le_refl _) j h0 (by rw [l1]; exact h1)).1]
    omega
theorem leastL_mono (had : List Int) (es : List Edge) (h : Int) (i : Nat) : ∀ d, (leastL had es h (i + d)).1 ≤ (leastL had es h i).1
  | 0 => Int.le_refl _
  | d + 1 => by
    have ih := leastL_mono had es h i d
    show (leastL had es h (i + d + 1)).1 ≤ _
    simp only [leastL]
    split
    · rename_i c; exact Int.le_trans (Int.le_of_lt c.2) ih
    · exact ih
theorem leastL_edge (had : List Int) (es : List Edge) (i m : Nat) (hi : i < m) : (leastL had es (rdE es (i : Int)).f1 m).1 ≤ wrap64 (rd had (rdE es (i : Int)).f0 + (rdE es (i : Int)).f2) := by
  have h1 := leastL_mono had es (rdE es (i : Int)).f1 (i + 1) (m - (i + 1))
  rw [show i + 1 + (m - (i + 1)) = m by omega] at h1
  refine Int.le_trans h1 ?_
  simp only [leastL]
  split
  · exact Int.le_refl _
  · rename_i c
    have : ¬ (wrap64 (rd had (rdE es (i : Int)).f0 + (rdE es (i : Int)).f2) < (leastL had es (rdE es (i : Int)).f1 i).1) := fun h => c (by simpa using h)
    omega
theorem mem_rdE {es : List Edge} {e : Edge} (h : e ∈ es) : ∃ i : Nat, i < es.length ∧ rdE es (i : Int) = e := by
  obtain ⟨i, hi, rfl⟩ := List.mem_iff_getElem.1 h
  exact ⟨i, hi, by simp [rd_T37, List.getD, hi]⟩
end Go.Proofs.Ytjgpggjjgimibaa.L

-- Written by wip/tools/gp.py, a program of this session round the kit's printer. Lean checks it.
namespace Go.Proofs.Ytjgpggjjgimibaa.Y
open Go.RowKit Go.Proofs.Ytjgpggjjgimibaa.Q Go.Proofs.Ytjgpggjjgimibaa.X Go.Proofs.Ytjgpggjjgimibaa.V Go.Proofs.YtjgpggjjgimibaaW.PrintWords Go.Proofs.YtjgpggjjgimibaaW.PrintLast Go.Proofs.YtjgpggjjgimibaaW.PrintMore
attribute [local go_sem] max2_int min2_int max_two min_two max_three min_three max_four min_four   -- for this text's walks alone
set_option linter.unusedVariables false
set_option linter.unusedSimpArgs false




-- the values' own types

end Go.Proofs.Ytjgpggjjgimibaa.Y

-- Written by wip/tools/row.py, a program of this session. Lean checks it.
namespace Go.Proofs.Ytjgpggjjgimibaa.Y
open Go.RowKit Go.Proofs.YtjgpggjjgimibaaW.PrintWords Go.Proofs.YtjgpggjjgimibaaW.Open Go.Proofs.Ytjgpggjjgimibaa.Q Go.Proofs.Ytjgpggjjgimibaa.X Go.Proofs.Ytjgpggjjgimibaa.V
set_option linter.unusedVariables false

end Go.Proofs.Ytjgpggjjgimibaa.Y

-- Written by wip/tools/gp.py, a program of this session round the kit's printer. Lean checks it.
namespace Go.Proofs.Ytjgpggjjgimibaa.Y
open Go.RowKit Go.Proofs.Ytjgpggjjgimibaa.Q Go.Proofs.Ytjgpggjjgimibaa.X Go.Proofs.Ytjgpggjjgimibaa.V Go.Proofs.YtjgpggjjgimibaaW.PrintWords Go.Proofs.YtjgpggjjgimibaaW.PrintLast Go.Proofs.YtjgpggjjgimibaaW.PrintMore
attribute [local go_sem] max2_int min2_int max_two min_two max_three min_three max_four min_four   -- for this text's walks alone
set_option linter.unusedVariables false
set_option linter.unusedSimpArgs false
end Go.Proofs.Ytjgpggjjgimibaa.Y

/- ShiftRight, the plain part: what solved offsets do to pairs and starts. -/
namespace Go.Proofs.Ytjgpggjjgimibaa.Pure
set_option linter.unusedVariables false
open Go.RowKit Go.Proofs.Ytjgpggjjgimibaa.Q Go.Proofs.Ytjgpggjjgimibaa.X Go.Proofs.Ytjgpggjjgimibaa.V Go.Proofs.Ytjgpggjjgimibaa.Y Go.Proofs.YtjgpggjjgimibaaW.PrintWords Go.Proofs.YtjgpggjjgimibaaW.PrintLast Go.Proofs.YtjgpggjjgimibaaW.PrintMore Go.Proofs.YtjgpggjjgimibaaW.Lib Go.Proofs.Ytjgpggjjgimibaa.L

abbrev rdSp (l : List S42) (i : Int) : S42 := rd_T42 l i
theorem pairsP_mem {l : List S42} {ps : List Int} {p : S35} (h : p ∈ pairsB l ps) : 0 ≤ p.f0 ∧ p.f0 < l.length ∧ 0 ≤ p.f1 ∧ p.f1 < l.length ∧ mayS (rdSp l p.f0) = true ∧ mayS (rdSp l p.f1) = true := by
  unfold pairsB at h
  split at h
  · rename_i h1
    obtain ⟨i, hi, hp⟩ := List.mem_flatMap.1 h
    have hi' := List.mem_range.1 hi
    unfold pairAt at hp
    split at hp
    · rename_i h2
      rw [List.mem_singleton.1 hp]
      have h3 := inP_rd (ps := ps) (by rw [← h1.1]; exact h1.2) i (by omega) (by omega)
      exact ⟨h2.1, by show rd ps i < _; omega, by show (0 : Int) ≤ (i : Int); omega, by show (i : Int) < _; omega, h2.2.2.2.2, h2.2.2.2.1⟩
    · cases hp
  · cases h
theorem mayS_le {s : S42} (h : mayS s = true) : 0 ≤ s.f6 ∧ s.f6 < 1125899906842624 ∧ 0 ≤ s.f7 ∧ s.f7 ≤ 1125899906842624 := mayB_le h
/-- A pair's lead and rest, without wraps. -/
theorem gaps_of {l : List S42} {p : S35} (h0 : 0 ≤ p.f0) (h1 : p.f0 < l.length) (h2 : 0 ≤ p.f1) (h3 : p.f1 < l.length) (mx : mayS (rdSp l p.f0) = true) (my : mayS (rdSp l p.f1) = true) :
    gapsB mayS l p.f0 p.f1 = ((rdSp l p.f1).f6 - (rdSp l p.f0).f6, (rdSp l p.f0).f7 - (rdSp l p.f1).f7 - ((rdSp l p.f1).f6 - (rdSp l p.f0).f6), true) := by
  have bx := mayS_le mx
  have bY := mayS_le my
  unfold gapsB findS
  simp only [h0, h1, h2, h3, mx, my, and_self, if_true]
  rw [wrap_id (i := (rdSp l p.f1).f6 - (rdSp l p.f0).f6) (by omega) (by omega), wrap_id (i := (rdSp l p.f0).f7 - (rdSp l p.f1).f7) (by omega) (by omega), wrap_id (by omega) (by omega)]
theorem edges_from {l : List S42} {nums : List Int} {ps : List S35} {e : L.Edge} (h : e ∈ edgesB mayS l nums ps) (hps : ∀ p ∈ ps, 0 ≤ p.f0 ∧ p.f0 < l.length ∧ 0 ≤ p.f1 ∧ p.f1 < l.length ∧ mayS (rdSp l p.f0) = true ∧ mayS (rdSp l p.f1) = true) :
    ∃ p ∈ ps, e = ⟨rd nums p.f1, rd nums p.f0, (rdSp l p.f1).f6 - (rdSp l p.f0).f6, p, false⟩ ∨ e = ⟨rd nums p.f0, rd nums p.f1, (rdSp l p.f0).f7 - (rdSp l p.f1).f7 - ((rdSp l p.f1).f6 - (rdSp l p.f0).f6), p, true⟩ := by
  obtain ⟨p, hp, he⟩ := List.mem_flatMap.1 h
  obtain ⟨h0, h1, h2, h3, mx, my⟩ := hps p hp
  have hg := gaps_of h0 h1 h2 h3 mx my
  unfold edgesAt at he
  rw [hg] at he
  simp only [if_true, List.mem_cons, List.not_mem_nil, or_false] at he
  exact ⟨p, hp, he⟩
theorem rd_nums (l : List S42) (i : Int) (h0 : 0 ≤ i) (h1 : i < l.length) : 0 ≤ rd (numsL l) i ∧ rd (numsL l) i < (hostsB l).length := by
  have hl : (numsL l).length = l.length := by unfold numsL; rw [List.length_map]
  refine numsL_in l _ ?_
  have hx : i.toNat < (numsL l).length := by omega
  rw [show rd (numsL l) i = (numsL l)[i.toNat] by simp [rd, List.getD, hx]]
  exact List.getElem_mem _
end Go.Proofs.Ytjgpggjjgimibaa.Pure

/- If some offsets fit, the last layer stands still: the greatest offsets are there, and none of those that fit is above them. -/
namespace Go.Proofs.Ytjgpggjjgimibaa.L
open Go.RowKit Go.Proofs.Ytjgpggjjgimibaa.Q Go.Proofs.YtjgpggjjgimibaaW.PrintWords Go.Proofs.YtjgpggjjgimibaaW.PrintLast Go.Proofs.YtjgpggjjgimibaaW.PrintMore Go.Proofs.YtjgpggjjgimibaaW.Lib
set_option linter.unusedVariables false
set_option linter.unusedSectionVars false

theorem pig : ∀ (n : Nat) (l : List Int), l.Nodup → (∀ x ∈ l, 0 ≤ x ∧ x < n) → l.length ≤ n
  | 0, l, _, h => by
    cases l with
    | nil => simp
    | cons x l => have := h x (List.mem_cons_self ..); omega
  | n + 1, l, nd, h => by
    by_cases hm : (n : Int) ∈ l
    · have h1 := pig n (l.erase (n : Int)) (nd.sublist List.erase_sublist) (fun x hx => by
        have h2 := h x (List.mem_of_mem_erase hx)
        have h3 : x ≠ (n : Int) := fun e => by
          rw [e] at hx
          exact absurd hx (List.Nodup.not_mem_erase nd)
        omega)
      rw [List.length_erase_of_mem hm] at h1
      omega
    · have h1 := pig n l nd (fun x hx => by
        have h2 := h x hx
        have h3 : x ≠ (n : Int) := fun e => hm (e ▸ hx)
        omega)
      omega
theorem least_attain (had : List Int) (es : List Edge) (h : Int) : ∀ m, m ≤ es.length → (leastL had es h m).1 < rd had h → ∃ e ∈ es, e.f1 = h ∧ (leastL had es h m).1 = wrap64 (rd had e.f0 + e.f2)
  | 0, _, hl => by simp only [leastL] at hl; omega
  | m + 1, hm, hl => by
    simp only [leastL] at hl ⊢
    split at hl
    · rename_i c
      rw [if_pos c]
      exact ⟨_, rdE_in es m (by omega), c.1, rfl⟩
    · rename_i c
      rw [if_neg c]
      exact least_attain had es h m (by omega) hl
section
variable {n : Nat} {es : List Edge} (hn : n ≤ 32) (hin : inE n es) (hs : smallE es)
include hn hin hs
theorem lay_step_le (k : Nat) (j : Int) (h0 : 0 ≤ j) (h1 : j < n) : rd (layL n es (k + 1)).1 j ≤ rd (layL n es k).1 j := by
  obtain ⟨l1, _⟩ := layL_len n es k
  exact next_le _ es (by rw [l1]; exact hin) j h0 (by rw [l1]; exact h1)
theorem lay_edge (k : Nat) (hk : k ≤ 32) {e : Edge} (he : e ∈ es) : rd (layL n es (k + 1)).1 e.f1 ≤ rd (layL n es k).1 e.f0 + e.f2 := by
  obtain ⟨l1, _⟩ := layL_len n es k
  have hr := hin e he
  have hin' : inE (layL n es k).1.length es := by rw [l1]; exact hin
  have hb := lay_within n es hin hs k (by omega) e.f0 hr.1 hr.2.1
  have hw := hs e he
  obtain ⟨i, hi, rfl⟩ := mem_rdE he
  have h3 := leastL_edge (layL n es k).1 es i es.length hi
  rw [← (next_least _ es hin' es.length (Nat.le_refl _) _ hr.2.2.1 (by rw [l1]; exact hr.2.2.2)).1, wrap_id (by omega) (by omega)] at h3
  exact h3
theorem lay_attain (k : Nat) (hk : k ≤ 32) (h : Int) (h0 : 0 ≤ h) (h1 : h < n) (hl : rd (layL n es (k + 1)).1 h < rd (layL n es k).1 h) : ∃ e ∈ es, e.f1 = h ∧ rd (layL n es (k + 1)).1 h = rd (layL n es k).1 e.f0 + e.f2 := by
  obtain ⟨l1, _⟩ := layL_len n es k
  have hin' : inE (layL n es k).1.length es := by rw [l1]; exact hin
  have hn' := (next_least (layL n es k).1 es hin' es.length (Nat.le_refl _) h h0 (by rw [l1]; exact h1)).1
  have e0 : rd (layL n es (k + 1)).1 h = (leastL (layL n es k).1 es h es.length).1 := hn'
  rw [e0] at hl ⊢
  obtain ⟨e, he, h2, h3⟩ := least_attain _ es h es.length (Nat.le_refl _) hl
  have hr := hin e he
  have hb := lay_within n es hin hs k (by omega) e.f0 hr.1 hr.2.1
  have hw := hs e he
  rw [wrap_id (by omega) (by omega)] at h3
  exact ⟨e, he, h2, h3⟩
theorem lay_anti (i : Nat) (j : Int) (h0 : 0 ≤ j) (h1 : j < n) : ∀ d, rd (layL n es (i + d)).1 j ≤ rd (layL n es i).1 j
  | 0 => Int.le_refl _
  | d + 1 => Int.le_trans (lay_step_le hn hin hs (i + d) j h0 h1) (lay_anti i j h0 h1 d)
variable {x : Int → Int} (hx : ∀ e ∈ es, x e.f1 ≤ x e.f0 + e.f2)
include hx
/-- A chain of hosts, each one's number lowered by the one ahead. -/
theorem lay_chain : ∀ (k : Nat), k ≤ 31 → ∀ h : Int, 0 ≤ h → h < n → rd (layL n es (k + 1)).1 h < rd (layL n es k).1 h → ∃ g : Nat → Int, g (k + 1) = h ∧ (∀ i, i ≤ k + 1 → 0 ≤ g i ∧ g i < n) ∧ (∀ i, i ≤ k → rd (layL n es (i + 1)).1 (g (i + 1)) < rd (layL n es i).1 (g (i + 1)) ∧ rd (layL n es i).1 (g i) - x (g i) ≤ rd (layL n es (i + 1)).1 (g (i + 1)) - x (g (i + 1)))
  | 0, _, h, h0, h1, hl => by
    obtain ⟨e, he, hf, ha⟩ := lay_attain hn hin hs 0 (by omega) h h0 h1 hl
    have hr := hin e he
    have hxe := hx e he
    rw [hf] at hxe
    refine ⟨fun i => if i = 0 then e.f0 else h, rfl, ?_, ?_⟩
    · intro i _
      dsimp only
      split
      · exact ⟨hr.1, hr.2.1⟩
      · exact ⟨h0, h1⟩
    · intro i hi
      obtain rfl : i = 0 := by omega
      refine ⟨hl, ?_⟩
      show rd (layL n es 0).1 e.f0 - x e.f0 ≤ rd (layL n es (0 + 1)).1 h - x h
      omega
  | k + 1, hk, h, h0, h1, hl => by
    obtain ⟨e, he, hf, ha⟩ := lay_attain hn hin hs (k + 1) (by omega) h h0 h1 hl
    have hr := hin e he
    have hxe := hx e he
    have hed := lay_edge hn hin hs k (by omega) he
    rw [hf] at hxe hed
    obtain ⟨g, g1, g2, g3⟩ := lay_chain k (by omega) e.f0 hr.1 hr.2.1 (by omega)
    refine ⟨fun i => if i = k + 2 then h else g i, by simp, ?_, ?_⟩
    · intro i hi
      dsimp only
      split
      · exact ⟨h0, h1⟩
      · exact g2 i (by omega)
    · intro i hi
      rcases Nat.lt_or_ge i (k + 1) with hik | hik
      · have := g3 i (by omega)
        dsimp only
        rw [if_neg (by omega), if_neg (by omega)]
        exact this
      · obtain rfl : i = k + 1 := by omega
        dsimp only
        rw [if_pos rfl, if_neg (by omega), g1]
        exact ⟨hl, by omega⟩
theorem lay_still (hn0 : 0 < n) : (layL n es n).1 = (layL n es (n - 1)).1 := by
  refine ext_rd _ _ (by rw [(layL_len _ _ _).1, (layL_len _ _ _).1]) ?_
  intro i hi
  rw [(layL_len _ _ _).1] at hi
  have hle := lay_step_le hn hin hs (n - 1) i (by omega) (by omega)
  rw [show n - 1 + 1 = n by omega] at hle
  rcases Int.lt_or_le (rd (layL n es n).1 (i : Int)) (rd (layL n es (n - 1)).1 (i : Int)) with hl | hl
  · exfalso
    obtain ⟨g, g1, g2, g3⟩ := lay_chain hn hin hs hx (n - 1) (by omega) i (by omega) (by omega) (by rw [show n - 1 + 1 = n by omega]; exact hl)
    have mono : ∀ (a d : Nat), a + d ≤ n → rd (layL n es a).1 (g a) - x (g a) ≤ rd (layL n es (a + d)).1 (g (a + d)) - x (g (a + d)) := by
      intro a d
      induction d with
      | zero => intro _; exact Int.le_refl _
      | succ d ih =>
        intro h
        have h1 := ih (by omega)
        have h2 := (g3 (a + d) (by omega)).2
        exact Int.le_trans h1 h2
    have dist : ∀ a b : Nat, a < b → b ≤ n → g a ≠ g b := by
      intro a b hab hb he
      have h1 := mono a (b - a) (by omega)
      rw [show a + (b - a) = b by omega, he] at h1
      have h2 := (g3 (b - 1) (by omega)).1
      rw [show b - 1 + 1 = b by omega] at h2
      have hr := g2 b (by omega)
      have h3 := lay_anti hn hin hs a (g b) hr.1 hr.2 (b - 1 - a)
      rw [show a + (b - 1 - a) = b - 1 by omega] at h3
      omega
    have nd : ((List.range (n + 1)).map g).Nodup := by
      rw [List.Nodup, List.pairwise_map]
      refine List.Pairwise.imp_of_mem ?_ List.pairwise_lt_range
      intro a b ha hb hab
      exact dist a b hab (by have := List.mem_range.1 hb; omega)
    have hlen := pig n _ nd (by
      intro y hy
      obtain ⟨a, ha, rfl⟩ := List.mem_map.1 hy
      exact g2 a (by have := List.mem_range.1 ha; omega))
    simp at hlen
    omega
  · omega
/-- What fits isn't above any layer. -/
theorem lay_above (hx0 : ∀ h : Int, 0 ≤ h → h < n → x h ≤ 0) : ∀ k : Nat, k ≤ 33 → ∀ h : Int, 0 ≤ h → h < n → x h ≤ rd (layL n es k).1 h
  | 0, _, h, h0, h1 => by
    have : rd (layL n es 0).1 h = 0 := rd_rep n 0 h h0 h1
    have := hx0 h h0 h1
    omega
  | k + 1, hk, h, h0, h1 => by
    have ih := lay_above hx0 k (by omega)
    have hle := lay_step_le hn hin hs k h h0 h1
    rcases Int.lt_or_le (rd (layL n es (k + 1)).1 h) (rd (layL n es k).1 h) with hl | hl
    · obtain ⟨e, he, hf, ha⟩ := lay_attain hn hin hs k (by omega) h h0 h1 hl
      have hr := hin e he
      have h2 := ih e.f0 hr.1 hr.2.1
      have h3 := hx e he
      rw [hf] at h3
      omega
    · have := ih h h0 h1
      omega
end
/-- Offsets that fit: so there are solved ones, and these are the greatest. -/
theorem solve_feasible {n : Int} {es : List Edge} (hm : rmayB n es = true) {x : Int → Int} (hx : ∀ e ∈ es, x e.f1 ≤ x e.f0 + e.f2) (hx0 : ∀ h : Int, 0 ≤ h → h < n → x h ≤ 0) : ∃ o, solveB n es = (o, true) ∧ o.length = n.toNat ∧ ∀ h : Int, 0 ≤ h → h < n → x h ≤ rd o h := by
  obtain ⟨h0, h32, hin, hs⟩ := inE_of_may hm
  have hy : solveB n es = ((layL n.toNat es n.toNat).1, true) := by
    unfold solveB
    rw [if_pos ⟨hm, fun hp => lay_still (by omega) hin hs hx (by omega)⟩]
  refine ⟨_, hy, (layL_len _ _ _).1, ?_⟩
  intro h j0 j1
  exact lay_above (by omega) hin hs hx (fun h a b => hx0 h a (by omega)) n.toNat (by omega) h j0 (by omega)
end Go.Proofs.Ytjgpggjjgimibaa.L

/- ShiftGreatest, the plain part: what fits isn't above the solved offsets, and there are solved ones. -/
namespace Go.Proofs.Ytjgpggjjgimibaa.Pure
set_option linter.unusedVariables false
open Go.RowKit Go.Proofs.Ytjgpggjjgimibaa.Q Go.Proofs.Ytjgpggjjgimibaa.X Go.Proofs.Ytjgpggjjgimibaa.V Go.Proofs.Ytjgpggjjgimibaa.Z Go.Proofs.YtjgpggjjgimibaaW.PrintWords Go.Proofs.YtjgpggjjgimibaaW.PrintLast Go.Proofs.YtjgpggjjgimibaaW.PrintMore Go.Proofs.YtjgpggjjgimibaaW.Lib Go.Proofs.Ytjgpggjjgimibaa.L

theorem rstarts_any (l : List S42) (offs : List Int) (hl : l.length ≤ 60) (hf : ∀ s ∈ l, fitR s) : Ev (fun k => merkhetref18_Starts.f k l offs) (startsB l offs) := by
  by_cases ho : offs.length ≤ 1000000
  · exact rstarts_ev l offs (by omega) ho hf
  · have hhl := hostsB_length l
    have hb : startsB l offs = ([], false) := by unfold startsB; rw [if_neg (fun h => by have := h.2.1; omega)]
    rw [hb]
    unfold merkhetref18_Starts.f
    have skip : Ev (fun k => merkhetref18_Starts.j0 k l offs (hostsB l) true) ([], false) := by
      refine Ev.succ ?_
      simp only [merkhetref18_Starts.j0]
      exact Ev.pos trivial (Ev.now _)
    refine Ev.bind (rhosts_ev l (by omega) (fun s hs => (hf s hs).1.2.1)) (Ev.bind (rmay18_ev l (by omega) hf) (Ev.ite (fun hm => ?_) (fun hm => skip)))
    rw [show ((((hostsB l).length : Nat) : Int) != ((offs.length : Nat) : Int)) = true from by rw [bne_iff_ne]; omega]
    exact skip
theorem ShiftGreatest (l0 : List (S42)) (l1 : List (Int)) (w0 : (l0.length ≤ maxLen ∧ l0.length * 80 ≤ reachBytes ∧ ∀ x ∈ l0, wf42 x)) (w1 : (l1.length ≤ maxLen ∧ l1.length * 8 ≤ reachBytes ∧ ∀ x ∈ l1, (Lit.int .i64 x).wf = true)) : ∃ k, merkhetlaw18_ShiftGreatest.f k l0 l1 = some true := by
  obtain ⟨_, _, hw⟩ := w0
  have hl1 : l1.length < 9223372036854775808 := Nat.lt_of_le_of_lt w1.1 (by decide)
  refine Ev.rounds (g := fun k => merkhetlaw18_ShiftGreatest.f k l0 l1) ?_
  unfold merkhetlaw18_ShiftGreatest.f
  have hfr : ∀ s ∈ l0, fitR s := fun s hs => fit_wf (hw s hs)
  have hf : ∀ s ∈ l0, fitS s := fun s hs => (hfr s hs).1
  have fx : Ev (fun k => (merkhetlaw18_fixed.f k).bind fun t => (some t)) true := Ev.bind fixed18 (Ev.now _)
  have skip : Ev (fun k => merkhetlaw18_ShiftGreatest.j0 k l0 l1 true) true := by
    refine Ev.succ ?_
    simp only [merkhetlaw18_ShiftGreatest.j0]
    exact Ev.pos trivial fx
  obtain ⟨b, hb, hb2⟩ := great_ev l0
  refine Ev.bind hb (Ev.ite (fun h => skip) (fun h => ?_))
  obtain ⟨h60, _⟩ := hb2 (by simpa using h)
  refine Ev.bind (rmay18_ev l0 (by omega) hfr) (Ev.ite (fun hm => ?_) (fun _ => skip))
  refine Ev.bind (a := tooB l0) (Ev.const (by unfold merkhetlaw18_tooMany.f; rw [if_pos ⟨by omega, hf⟩])) ?_
  cases ht : tooB l0 with
  | true => exact skip
  | false =>
  have h32 := tooB_hosts ht
  refine Ev.succ ?_
  simp only [merkhetlaw18_ShiftGreatest.j0]
  refine Ev.neg (by simp) ?_
  have hpl := parL_length l0
  have hhl := hostsB_length l0
  have hpbl := pairsB_length l0 (parL l0)
  have hpm : ∀ p ∈ pairsB l0 (parL l0), 0 ≤ p.f0 ∧ p.f0 < l0.length ∧ 0 ≤ p.f1 ∧ p.f1 < l0.length ∧ mayS (rdSp l0 p.f0) = true ∧ mayS (rdSp l0 p.f1) = true := fun p hp => pairsP_mem hp
  have hall : ∀ s ∈ l0, mayS s = true := by
    intro s hs
    unfold mayA at hm
    exact List.all_eq_true.1 hm s hs
  have hsl : (startsL l0 l1).length = l0.length := by simp [startsL]
  -- what follows the pairs
  have last : (∀ j : Nat, j < l1.length → -144115188075855872 ≤ rd l1 j ∧ rd l1 j ≤ 0) → l1.length = (hostsB l0).length → (∀ p ∈ pairsB l0 (parL l0), rd (startsL l0 l1) p.f0 ≤ rd (startsL l0 l1) p.f1 ∧ rd (startsL l0 l1) p.f1 + (rdSp l0 p.f1).f7 ≤ rd (startsL l0 l1) p.f0 + (rdSp l0 p.f0).f7) →
      (∀ i : Int, 0 ≤ i → i < l0.length → rd (startsL l0 l1) i = (rdSp l0 i).f6 + rd l1 (rd (numsL l0) i)) →
      Ev (fun k => (shift_Solved.f k l0 (parL l0)).bind fun bt129 => (if bt129.2 = true then (merkhetlaw18_ShiftGreatest.j3 k l1 bt129.1 ((bt129.1.length : Int) != (l1.length : Int))) else (merkhetlaw18_ShiftGreatest.j3 k l1 bt129.1 true))) true := by
    intro hwi hlen hps hrs
    have hmay : rmayB ((hostsB l0).length : Int) (edgesP l0 (parL l0)) = true := by
      refine rmay_of ⟨by omega, by omega⟩ ?_
      intro e he
      obtain ⟨p, hp, h⟩ := edges_from he hpm
      obtain ⟨a0, a1, a2, a3, mx, my⟩ := hpm p hp
      have bx := mayS_le mx
      have bY := mayS_le my
      have n0 := rd_nums l0 p.f0 a0 a1
      have n1 := rd_nums l0 p.f1 a2 a3
      rcases h with rfl | rfl
      · refine ⟨n1.1, n1.2, n0.1, n0.2, ?_, ?_⟩ <;> dsimp only <;> omega
      · refine ⟨n0.1, n0.2, n1.1, n1.2, ?_, ?_⟩ <;> dsimp only <;> omega
    obtain ⟨o, h1, h2, h3⟩ := solve_feasible (x := fun h => rd l1 h) hmay (by
      intro e he
      obtain ⟨p, hp, h⟩ := edges_from he hpm
      obtain ⟨a0, a1, a2, a3, mx, my⟩ := hpm p hp
      have hq := hps p hp
      have r0 := hrs p.f0 a0 a1
      have r1 := hrs p.f1 a2 a3
      rcases h with rfl | rfl
      · dsimp only; omega
      · dsimp only; omega) (by
      intro h j0 j1
      have := (hwi h.toNat (by omega)).2
      rw [show ((h.toNat : Nat) : Int) = h by omega] at this
      exact this)
    have hsv : solvedB l0 (parL l0) = (o, true) := by
      unfold solvedB
      rw [if_pos hm]
      exact h1
    rw [Int.toNat_natCast] at h2
    refine Ev.bind (solved_ev l0 (parL l0) h60 (by omega) hf) ?_
    rw [hsv]
    refine Ev.pos rfl ?_
    rw [show ((((o, true).1.length : Nat) : Int) != ((l1.length : Nat) : Int)) = false by dsimp only; rw [h2, hlen]; simp]
    refine Ev.succ ?_
    simp only [merkhetlaw18_ShiftGreatest.j3]
    refine Ev.neg (by simp) ?_
    have key : ∀ (d i : Nat), l1.length - i = d → i ≤ l1.length → Ev (fun k => merkhetlaw18_ShiftGreatest.l2 k o l1 (l1.length : Int) (i : Int)) true := by
      intro d
      induction d with
      | zero =>
        intro i hd hi
        refine Ev.succ ?_
        simp only [merkhetlaw18_ShiftGreatest.l2]
        exact Ev.neg (by omega) fx
      | succ d ih =>
        intro i hd hi
        have h4 := ih (i + 1) (by omega) (by omega)
        have h5 := h3 (i : Int) (by omega) (by omega)
        refine Ev.succ ?_
        simp only [merkhetlaw18_ShiftGreatest.l2]
        refine Ev.pos (by omega) (Ev.pos (by omega) (Ev.pos (by omega) (Ev.pos (by omega) (Ev.neg (by omega) ?_))))
        rw [wrap_id (by omega) (by omega)]
        exact h4
    exact key l1.length 0 (by omega) (by omega)
  -- the pairs
  have two : (∀ j : Nat, j < l1.length → -144115188075855872 ≤ rd l1 j ∧ rd l1 j ≤ 0) → l1.length = (hostsB l0).length → ∀ (d i : Nat), (pairsB l0 (parL l0)).length - i = d → i ≤ (pairsB l0 (parL l0)).length → (∀ p ∈ (pairsB l0 (parL l0)).take i, rd (startsL l0 l1) p.f0 ≤ rd (startsL l0 l1) p.f1 ∧ rd (startsL l0 l1) p.f1 + (rdSp l0 p.f1).f7 ≤ rd (startsL l0 l1) p.f0 + (rdSp l0 p.f0).f7) →
      Ev (fun k => merkhetlaw18_ShiftGreatest.l1 k l0 l1 (startsL l0 l1) (parL l0) (pairsB l0 (parL l0)) ((pairsB l0 (parL l0)).length : Int) (i : Int)) true := by
    intro hwi hlen
    have hrs : ∀ i : Int, 0 ≤ i → i < l0.length → rd (startsL l0 l1) i = (rdSp l0 i).f6 + rd l1 (rd (numsL l0) i) ∧ 0 ≤ (rdSp l0 i).f6 ∧ (rdSp l0 i).f6 < 1125899906842624 ∧ 0 ≤ (rdSp l0 i).f7 ∧ (rdSp l0 i).f7 ≤ 1125899906842624 ∧ -144115188075855872 ≤ rd l1 (rd (numsL l0) i) ∧ rd l1 (rd (numsL l0) i) ≤ 0 := by
      intro i h0 h1
      have hb := mayS_le (hall _ (show rdSp l0 i ∈ l0 from by
        have hx : i.toNat < l0.length := by omega
        rw [show rdSp l0 i = l0[i.toNat] by simp [rd_T42, List.getD, hx]]
        exact List.getElem_mem _))
      have hn := rd_nums l0 i h0 h1
      have hw := hwi (rd (numsL l0) i).toNat (by omega)
      rw [show (((rd (numsL l0) i).toNat : Nat) : Int) = rd (numsL l0) i by omega] at hw
      refine ⟨?_, hb.1, hb.2.1, hb.2.2.1, hb.2.2.2, hw.1, hw.2⟩
      have hx : i.toNat < l0.length := by omega
      have e1 : rd (startsL l0 l1) i = startAt l1 (numsL l0) (rdSp l0 (i.toNat : Int)) (i.toNat : Int) := by
        unfold startsL
        rw [rd_map_range _ _ _ h0 h1]
      rw [e1, show ((i.toNat : Nat) : Int) = i by omega]
      unfold startAt
      exact wrap_id (by omega) (by omega)
    intro d
    induction d with
    | zero =>
      intro i hd hi hq
      rw [List.take_of_length_le (by omega)] at hq
      refine Ev.succ ?_
      simp only [merkhetlaw18_ShiftGreatest.l1]
      exact Ev.neg (by omega) (last hwi hlen hq (fun i h0 h1 => (hrs i h0 h1).1))
    | succ d ih =>
      intro i hd hi hq
      have hlt : i < (pairsB l0 (parL l0)).length := by omega
      have hr : rd_T35 (pairsB l0 (parL l0)) (i : Int) = (pairsB l0 (parL l0))[i] := by simp [rd_T35, List.getD, hlt]
      have hmem := List.getElem_mem hlt
      have ht := List.take_succ_eq_append_getElem hlt
      refine Ev.succ ?_
      simp only [merkhetlaw18_ShiftGreatest.l1, hr]
      generalize (pairsB l0 (parL l0))[i] = p at *
      obtain ⟨a0, a1, a2, a3, mx, my⟩ := hpm p hmem
      have r0 := hrs p.f0 a0 a1
      have r1 := hrs p.f1 a2 a3
      have next := ih (i + 1) (by omega) (by omega)
      refine Ev.pos (by omega) (Ev.pos (by omega) (Ev.pos (by omega) (Ev.pos a2 (Ev.pos (by omega) (Ev.pos a0 (Ev.pos (by omega) (Ev.ite (fun _ => fx) (fun c1 => Ev.pos a3 (Ev.pos a1 ?_)))))))))
      rw [wrap_id (i := rd (startsL l0 l1) p.f1 + (rdSp l0 p.f1).f7) (by omega) (by omega), wrap_id (i := rd (startsL l0 l1) p.f0 + (rdSp l0 p.f0).f7) (by omega) (by omega), wrap_id (i := (i : Int) + 1) (by omega) (by omega)]
      refine Ev.ite (fun _ => fx) (fun c2 => next ?_)
      intro p' hp'
      rw [ht] at hp'
      rcases List.mem_append.1 hp' with h' | h'
      · exact hq p' h'
      · rw [List.mem_singleton.1 h']
        exact ⟨by omega, by omega⟩
  -- the numbers
  have one : ∀ (d i : Nat), l1.length - i = d → i ≤ l1.length → (∀ j : Nat, j < i → -144115188075855872 ≤ rd l1 j ∧ rd l1 j ≤ 0) → Ev (fun k => merkhetlaw18_ShiftGreatest.l0 k l0 l1 l1 (l1.length : Int) (i : Int)) true := by
    intro d
    induction d with
    | zero =>
      intro i hd hi hq
      have e : i = l1.length := by omega
      rw [e] at hq
      refine Ev.succ ?_
      simp only [merkhetlaw18_ShiftGreatest.l0]
      refine Ev.neg (by omega) (Ev.bind (rstarts_any l0 l1 h60 hfr) (Ev.ite (fun c => ?_) (fun _ => fx)))
      have hst : startsB l0 l1 = (startsL l0 l1, true) ∧ l1.length = (hostsB l0).length := by
        unfold startsB at c ⊢
        split at c
        · rename_i hc
          rw [if_pos hc]
          exact ⟨rfl, hc.2.1⟩
        · cases c
      rw [hst.1]
      exact Ev.bind (par_ev l0 (by omega)) (Ev.bind (rpairs_ev l0 (by omega) hfr _ (by omega)) (two hq hst.2 (pairsB l0 (parL l0)).length 0 (by omega) (by omega) (by simp)))
    | succ d ih =>
      intro i hd hi hq
      have h2 := ih (i + 1) (by omega) (by omega)
      refine Ev.succ ?_
      simp only [merkhetlaw18_ShiftGreatest.l0]
      refine Ev.pos (by omega) (Ev.pos (by omega) (Ev.pos (by omega) (Ev.ite (fun _ => fx) (fun c1 => Ev.ite (fun _ => fx) (fun c2 => ?_)))))
      rw [wrap_id (by omega) (by omega)]
      refine h2 ?_
      intro j hj
      rcases Nat.lt_or_ge j i with h | h
      · exact hq j h
      · obtain rfl : j = i := by omega
        exact ⟨by omega, by omega⟩
  exact one l1.length 0 (by omega) (by omega) (by omega)
end Go.Proofs.Ytjgpggjjgimibaa.Pure

