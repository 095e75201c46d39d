/- Texts joined by wip/tools/merge.py: RlxP SolP FeasP LoopP LoopQ LoopR RefH May18 Ref15 Qx14 RefS ShRP VerP VerQ RefG BndG VerF PureVerdictSet. -/
import Derived.Test.YtgknjgionicncaaGreatJVerdictSet12
import Derived.Test.YtgknjgionicncaaGreatJVerdictSet25
import Derived.Test.YtgknjgionicncaaGreatJVerdictSet26
import Derived.Test.YtgknjgionicncaaGreatJVerdictSet27
import Derived.Test.YtgknjgionicncaaGreatJVerdictSet24
import Derived.Test.YtgknjgionicncaaGreatJVerdictSet22
import Derived.Test.YtgknjgionicncaaGreatJVerdictSet28
namespace Go.Proofs.YtgknjgionicncaaGreat.L
open Go.RowKit Go.Proofs.YtgknjgionicncaaGreat.Q Go.Proofs.YtgknjgionicncaaGreat.X Go.Proofs.YtgknjgionicncaaGreatW.PrintWords Go.Proofs.YtgknjgionicncaaGreatW.PrintLast Go.Proofs.YtgknjgionicncaaGreatW.PrintMore Go.Proofs.YtgknjgionicncaaGreatW.Lib
set_option linter.unusedVariables false
abbrev Edge := S72
abbrev rdE (l : List Edge) (i : Int) : Edge := rd_T72 l i
theorem rd_set (l : List Int) (i j v : Int) (h0 : 0 ≤ i) (h1 : i < l.length) (hj : 0 ≤ j) : rd (l.set i.toNat v) j = if i = j then v else rd l j := by
 have hi : i.toNat < l.length := by omega
 unfold rd
 by_cases h : i = j
 ·subst h
  rw [if_pos rfl, List.getD_eq_getElem?_getD, List.getElem?_set_self hi]; rfl
 ·rw [if_neg h, List.getD_eq_getElem?_getD, List.getD_eq_getElem?_getD, List.getElem?_set_ne (by omega)]
theorem rd_rep (n : Nat) (v : Int) (i : Int) (h0 : 0 ≤ i) (h1 : i < n) : rd (List.replicate n v) i = v := by
 have hi : i.toNat < n := by omega
 simp [rd, List.getD, hi]
theorem rd_map_range (n : Nat) (f : Nat → Int) (i : Int) (h0 : 0 ≤ i) (h1 : i < n) : rd ((List.range n).map f) i = f i.toNat := by
 have hi : i.toNat < n := by omega
 simp [rd, List.getD, hi]
theorem ext_rd (a b : List Int) (hl : a.length = b.length) (h : ∀ i : Nat, i < a.length → rd a i = rd b i) : a = b := by
 refine List.ext_getElem hl ?_
 intro i h1 h2
 have := h i h1
 simpa [rd, List.getD, h1, h2] using this
def leastL (had : List Int) (es : List Edge) (h : Int) : Nat → Int × Int
 | 0 => (rd had h, -1)
 | m + 1 => if (rdE es m).f1 = h ∧ wrap64 (rd had (rdE es m).f0 + (rdE es m).f2) < (leastL had es h m).1 then (wrap64 (rd had (rdE es m).f0 + (rdE es m).f2), (m : Int)) else leastL had es h m
theorem next_least (had : List Int) (es : List Edge) (hin : inE had.length es) : ∀ m, m ≤ es.length → ∀ h : Int, 0 ≤ h → h < had.length → rd (nextL had es m).1 h = (leastL had es h m).1 ∧ rd (nextL had es m).2 h = (leastL had es h m).2
 | 0, _, h, h0, h1 => ⟨rfl, rd_rep _ _ _ h0 h1⟩
 | m + 1, hm, h, h0, h1 => by
  obtain ⟨i1, i2⟩ := next_least had es hin m (by omega) h h0 h1
  obtain ⟨l1, l2⟩ := nextL_len had es m
  have he : 0 ≤ (rdE es (m : Int)).f0 ∧ (rdE es (m : Int)).f0 < had.length ∧ 0 ≤ (rdE es (m : Int)).f1 ∧ (rdE es (m : Int)).f1 < had.length := hin _ (rdE_mem es m (by omega) (by omega))
  show rd (stepN had (nextL had es m) (m : Int) (rdE es (m : Int))).1 h = _ ∧ rd (stepN had (nextL had es m) (m : Int) (rdE es (m : Int))).2 h = _
  simp only [leastL, stepN]
  generalize rdE es (m : Int) = e at *
  by_cases q : e.f1 = h
  ·subst q
   rw [← i1]
   by_cases c : wrap64 (rd had e.f0 + e.f2) < rd (nextL had es m).1 e.f1
   ·rw [if_pos c, if_pos ⟨rfl, c⟩]
    refine ⟨?_, ?_⟩
    ·show rd (List.set _ _ _) _ = _
     rw [rd_set _ _ _ _ he.2.2.1 (by rw [l1]; exact he.2.2.2) he.2.2.1, if_pos rfl]
    ·show rd (List.set _ _ _) _ = _
     rw [rd_set _ _ _ _ he.2.2.1 (by rw [l2]; exact he.2.2.2) he.2.2.1, if_pos rfl]
   ·rw [if_neg c, if_neg (fun h => c h.2)]
    exact ⟨i1, i2⟩
  ·have hq : ¬ (e.f1 = h ∧ wrap64 (rd had e.f0 + e.f2) < (leastL had es h m).1) := fun h' => q h'.1
   by_cases c : wrap64 (rd had e.f0 + e.f2) < rd (nextL had es m).1 e.f1
   ·rw [if_pos c, if_neg hq]
    refine ⟨?_, ?_⟩
    ·show rd (List.set _ _ _) _ = _
     rw [rd_set _ _ _ _ he.2.2.1 (by rw [l1]; exact he.2.2.2) h0, if_neg q]; exact i1
    ·show rd (List.set _ _ _) _ = _
     rw [rd_set _ _ _ _ he.2.2.1 (by rw [l2]; exact he.2.2.2) h0, if_neg q]; exact i2
   ·rw [if_neg c, if_neg hq]
    exact ⟨i1, i2⟩
theorem nextL_rows (had : List Int) (es : List Edge) (hin : inE had.length es) : (nextL had es es.length).1 = (List.range had.length).map (fun h : Nat => (leastL had es h es.length).1) ∧ (nextL had es es.length).2 = (List.range had.length).map (fun h : Nat => (leastL had es h es.length).2) := by
 obtain ⟨l1, l2⟩ := nextL_len had es es.length
 constructor
 ·refine ext_rd _ _ (by simp [l1]) ?_
  intro i hi
  rw [l1] at hi
  rw [(next_least had es hin es.length (Nat.le_refl _) i (by omega) (by omega)).1, rd_map_range _ _ _ (by omega) (by omega)]
  simp
 ·refine ext_rd _ _ (by simp [l2]) ?_
  intro i hi
  rw [l2] at hi
  rw [(next_least had es hin es.length (Nat.le_refl _) i (by omega) (by omega)).2, rd_map_range _ _ _ (by omega) (by omega)]
  simp
def layL (n : Nat) (es : List Edge) : Nat → List Int × List Int
 | 0 => (List.replicate n 0, List.replicate n (-1))
 | k + 1 => nextL (layL n es k).1 es es.length
theorem layL_len (n : Nat) (es : List Edge) : ∀ k, (layL n es k).1.length = n ∧ (layL n es k).2.length = n
 | 0 => ⟨List.length_replicate, List.length_replicate⟩
 | k + 1 => by
  obtain ⟨h1, h2⟩ := nextL_len (layL n es k).1 es es.length
  have ih := layL_len n es k
  exact ⟨h1.trans ih.1, h2.trans ih.1⟩
theorem inE_of_may {n : Int} {es : List Edge} (h : rmayB n es = true) : 0 ≤ n ∧ n ≤ 32 ∧ inE n.toNat es ∧ ∀ e ∈ es, -4503599627370496 ≤ e.f2 ∧ e.f2 ≤ 4503599627370496 := by
 unfold rmayB at h
 split at h
 ·rename_i hn
  have hb : ∀ e ∈ es, badE n e = false := by
   intro e he
   have h2 : es.any (badE n) = false := by simpa using h
   simpa using List.any_eq_false.1 h2 e he
  have hs : ∀ e ∈ es, 0 ≤ min e.f0 e.f1 ∧ max e.f0 e.f1 < n ∧ e.f2 ≤ 4503599627370496 ∧ -4503599627370496 ≤ e.f2 := by
   intro e he
   have := hb e he
   unfold badE at this
   simp only [Bool.or_eq_false_iff, decide_eq_false_iff_not] at this
   omega
  exact ⟨hn.1, hn.2, fun e he => by have := hs e he; omega, fun e he => by have := hs e he; omega⟩
 ·cases h
def rowsL (n : Nat) (es : List Edge) (k : Nat) : List (List Int) × List (List Int) := ((List.range k).map (fun i => (layL n es i).1), (List.range k).map (fun i => (layL n es i).2))
theorem rowsL_succ (n : Nat) (es : List Edge) (k : Nat) : (rowsL n es k).1 ++ [(layL n es k).1] = (rowsL n es (k + 1)).1 ∧ (rowsL n es k).2 ++ [(layL n es k).2] = (rowsL n es (k + 1)).2 := by
 simp [rowsL, List.range_succ]
theorem rd_rows (n : Nat) (es : List Edge) (k : Nat) (i : Int) (h0 : 0 ≤ i) (h1 : i < k) : rd_L8 (rowsL n es k).1 i = (layL n es i.toNat).1 := by
 have hi : i.toNat < k := by omega
 simp [rd_L8, rowsL, List.getD, hi]
def laysB (n : Int) (es : List Edge) : List (List Int) × List (List Int) := if rmayB n es = true then rowsL n.toNat es (n.toNat + 1) else ([], [])
theorem layers_ev (n : Int) (es : List Edge) (he : es.length ≤ 1000000000) : Ev (fun k => relax_Layers.f k n es) (laysB n es) := by
 unfold relax_Layers.f
 refine Ev.bind (a := rmayB n es) (Ev.const (by unfold relax_May.f; rw [if_pos he])) ?_
 by_cases hm : rmayB n es = true
 rotate_left
 ·refine Ev.neg hm (Ev.cast (Ev.now _) ?_)
  unfold laysB; rw [if_neg hm]
 obtain ⟨h0, h32, hin, _⟩ := inE_of_may hm
 refine Ev.pos hm (Ev.bind (a := List.replicate n.toNat 0) (Ev.const (by unfold relax_row_int64.f; rw [if_pos ⟨h0, by omega⟩])) (Ev.bind (a := List.replicate n.toNat (-1)) (Ev.const (by unfold relax_row_int.f; rw [if_pos ⟨h0, by omega⟩])) ?_))
 have hl : laysB n es = rowsL n.toNat es (n.toNat + 1) := by unfold laysB; rw [if_pos hm]
 rw [hl]
 have key : ∀ (d i : Nat), n.toNat - i = d → i ≤ n.toNat → Ev (fun k => relax_Layers.l0 k es (rowsL n.toNat es (i + 1)).1 (rowsL n.toNat es (i + 1)).2 n (i : Int)) (rowsL n.toNat es (n.toNat + 1)) := by
  intro d
  induction d with
  | zero =>
   intro i hd hi
   refine Ev.succ ?_
   simp only [relax_Layers.l0]
   refine Ev.neg (by omega) (Ev.cast (Ev.now _) ?_)
   rw [show i = n.toNat by omega]
  | succ d ih =>
   intro i hd hi
   have h2 := ih (i + 1) (by omega) (by omega)
   have hr := rd_rows n.toNat es (i + 1) i (by omega) (by omega)
   have hlen : (rowsL n.toNat es (i + 1)).1.length = i + 1 ∧ (rowsL n.toNat es (i + 1)).2.length = i + 1 := by simp [rowsL]
   have hs := rowsL_succ n.toNat es (i + 1)
   refine Ev.succ ?_
   simp only [relax_Layers.l0, hr]
   refine Ev.pos (by omega) (Ev.pos (by omega) (Ev.pos (by omega) (Ev.bind (a := nextL (layL n.toNat es (i : Int).toNat).1 es es.length) (Ev.const ?_) (Ev.pos (by omega) (Ev.pos (by omega) ?_)))))
   ·unfold relax_next.f
    rw [if_pos ⟨by rw [(layL_len _ _ _).1]; omega, he, by rw [(layL_len _ _ _).1]; exact hin⟩]
   ·rw [wrap_id (by omega) (by omega)]
    rw [← hs.1, ← hs.2] at h2
    exact h2
 exact key n.toNat 0 (by omega) (by omega)
def solveB (n : Int) (es : List Edge) : List Int × Bool :=
 if rmayB n es = true ∧ (n > 0 → (layL n.toNat es n.toNat).1 = (layL n.toNat es (n.toNat - 1)).1) then ((layL n.toNat es n.toNat).1, true) else ([], false)
instance (n : Int) (es : List Edge) : Decidable (rmayB n es = true ∧ (n > 0 → (layL n.toNat es n.toNat).1 = (layL n.toNat es (n.toNat - 1)).1)) := inferInstance
theorem equal_ev (a b : List Int) (ha : a.length ≤ 1000000000) : ∃ r, Ev (fun k => slices_Equal_int64_int64.f k a b) r ∧ (r = true ↔ a = b) := by
 unfold slices_Equal_int64_int64.f
 by_cases h : (a.length : Int) = (b.length : Int)
 ·have key : ∀ (d i : Nat), a.length - i = d → i ≤ a.length → ∃ r, Ev (fun k => slices_Equal_int64_int64.l0 k a b (a.length : Int) (i : Int)) r ∧ (r = true ↔ a.drop i = b.drop i) := by
   intro d
   induction d with
   | zero =>
    intro i hd hi
    refine ⟨true, Ev.succ ?_, ?_⟩
    ·simp only [slices_Equal_int64_int64.l0]
     exact Ev.neg (by omega) (Ev.now _)
    ·rw [List.drop_of_length_le (by omega), List.drop_of_length_le (by omega)]
     simp
   | succ d ih =>
    intro i hd hi
    have hil : i < a.length := by omega
    have hib : i < b.length := by omega
    have hr : rd a (i : Int) = a[i] := by simp [rd, List.getD, hil]
    have hr2 : rd b (i : Int) = b[i] := by simp [rd, List.getD, hib]
    obtain ⟨r, h1, h2⟩ := ih (i + 1) (by omega) (by omega)
    have ea := List.drop_eq_getElem_cons hil
    have eb := List.drop_eq_getElem_cons hib
    by_cases e : a[i] = b[i]
    ·refine ⟨r, Ev.succ ?_, ?_⟩
     ·simp only [slices_Equal_int64_int64.l0, hr, hr2]
      refine Ev.pos (by omega) (Ev.pos (by omega) (Ev.pos (by omega) (Ev.pos (by omega) (Ev.pos e ?_))))
      rw [wrap_id (by omega) (by omega)]
      exact h1
     ·rw [h2, ea, eb, List.cons.injEq]
      exact ⟨fun h => ⟨e, h⟩, fun h => h.2⟩
    ·refine ⟨false, Ev.succ ?_, ?_⟩
     ·simp only [slices_Equal_int64_int64.l0, hr, hr2]
      exact Ev.pos (by omega) (Ev.pos (by omega) (Ev.pos (by omega) (Ev.pos (by omega) (Ev.neg e (Ev.now _)))))
     ·rw [ea, eb, List.cons.injEq]
      exact ⟨fun h => absurd h (by simp), fun h => absurd h.1 e⟩
  obtain ⟨r, h1, h2⟩ := key a.length 0 (by omega) (by omega)
  exact ⟨r, Ev.pos h h1, by simpa using h2⟩
 ·refine ⟨false, Ev.neg h (Ev.now _), ⟨by simp, ?_⟩⟩
  rintro rfl
  exact absurd rfl h
theorem solve_ev (n : Int) (es : List Edge) (he : es.length ≤ 1000000000) : Ev (fun k => relax_Solve.f k n es) (solveB n es) := by
 unfold relax_Solve.f
 refine Ev.bind (layers_ev n es he) ?_
 by_cases hm : rmayB n es = true
 rotate_left
 ·have h1 : laysB n es = ([], []) := by unfold laysB; rw [if_neg hm]
  have h2 : solveB n es = ([], false) := by unfold solveB; rw [if_neg (fun h => hm h.1)]
  rw [h1, h2]
  refine Ev.pos rfl (Ev.succ ?_)
  simp only [relax_Solve.j0]
  exact Ev.pos trivial (Ev.now _)
 obtain ⟨h0, h32, hin, _⟩ := inE_of_may hm
 have h1 : laysB n es = rowsL n.toNat es (n.toNat + 1) := by unfold laysB; rw [if_pos hm]
 rw [h1]
 have hlen : (rowsL n.toNat es (n.toNat + 1)).1.length = n.toNat + 1 := by simp [rowsL]
 have hr := rd_rows n.toNat es (n.toNat + 1) n h0 (by omega)
 have yes : solveB n es = ((layL n.toNat es n.toNat).1, true) → Ev (fun k => relax_Solve.j0 k n (rowsL n.toNat es (n.toNat + 1)).1 false) (solveB n es) := by
  intro h
  rw [h]
  refine Ev.succ ?_
  simp only [relax_Solve.j0, hr]
  exact Ev.neg (by simp) (Ev.pos h0 (Ev.pos (by omega) (Ev.now _)))
 refine Ev.neg (by omega) (Ev.ite (fun hp => ?_) (fun hp => ?_))
 ·have hr2 := rd_rows n.toNat es (n.toNat + 1) (n - 1) (by omega) (by omega)
  rw [wrap_id (by omega) (by omega)]
  obtain ⟨r, e1, e2⟩ := equal_ev (layL n.toNat es n.toNat).1 (layL n.toNat es (n.toNat - 1)).1 (by rw [(layL_len _ _ _).1]; omega)
  rw [show (n - 1).toNat = n.toNat - 1 by omega] at hr2
  simp only [hr, hr2]
  refine Ev.pos h0 (Ev.pos (by omega) (Ev.pos (by omega) (Ev.pos (by omega) (Ev.bind e1 ?_))))
  cases r with
  | true =>
   refine yes ?_
   unfold solveB; rw [if_pos ⟨hm, fun _ => e2.1 rfl⟩]
  | false =>
   have h2 : solveB n es = ([], false) := by unfold solveB; rw [if_neg (fun h => by have := e2.2 (h.2 hp); cases this)]
   rw [h2]
   refine Ev.succ ?_
   simp only [relax_Solve.j0]
   exact Ev.pos rfl (Ev.now _)
 ·refine yes ?_
  unfold solveB; rw [if_pos ⟨hm, fun h => absurd h hp⟩]
end Go.Proofs.YtgknjgionicncaaGreat.L
namespace Go.Proofs.YtgknjgionicncaaGreat.L
open Go.RowKit Go.Proofs.YtgknjgionicncaaGreat.Q Go.Proofs.YtgknjgionicncaaGreatW.PrintWords Go.Proofs.YtgknjgionicncaaGreatW.PrintLast Go.Proofs.YtgknjgionicncaaGreatW.PrintMore Go.Proofs.YtgknjgionicncaaGreatW.Lib
set_option linter.unusedVariables false
def smallE (es : List Edge) : Prop := ∀ e ∈ es, -4503599627370496 ≤ e.f2 ∧ e.f2 ≤ 4503599627370496
theorem rdE_in (es : List Edge) (m : Nat) (h : m < es.length) : rdE es (m : Int) ∈ es := rdE_mem es m (by omega) (by omega)
def within (n : Nat) (had : List Int) (lo : Int) : Prop := ∀ j : Int, 0 ≤ j → j < n → lo ≤ rd had j ∧ rd had j ≤ 0
theorem least_within (had : List Int) (es : List Edge) (hin : inE had.length es) (hs : smallE es) (lo : Int) (hlo : -288230376151711744 ≤ lo) (hw : within had.length had lo) (h : Int) (h0 : 0 ≤ h) (h1 : h < had.length) : ∀ m, m ≤ es.length → lo - 4503599627370496 ≤ (leastL had es h m).1 ∧ (leastL had es h m).1 ≤ 0
 | 0, _ => by have := hw h h0 h1; simp only [leastL]; omega
 | m + 1, hm => by
  have ih := least_within had es hin hs lo hlo hw h h0 h1 m (by omega)
  have hi : 0 ≤ (rdE es (m : Int)).f0 ∧ (rdE es (m : Int)).f0 < had.length ∧ 0 ≤ (rdE es (m : Int)).f1 ∧ (rdE es (m : Int)).f1 < had.length := hin _ (rdE_in es m (by omega))
  have hk := hs _ (rdE_in es m (by omega))
  have hf := hw _ hi.1 hi.2.1
  simp only [leastL]
  split
  ·rename_i c
   have hw' := wrap_id (i := rd had (rdE es (m : Int)).f0 + (rdE es (m : Int)).f2) (by omega) (by omega)
   rw [hw'] at c ⊢
   show _ ∧ rd had (rdE es (m : Int)).f0 + (rdE es (m : Int)).f2 ≤ 0
   constructor
   ·show lo - 4503599627370496 ≤ rd had (rdE es (m : Int)).f0 + (rdE es (m : Int)).f2; omega
   ·omega
  ·exact ih
theorem lay_within (n : Nat) (es : List Edge) (hin : inE n es) (hs : smallE es) : ∀ k : Nat, k ≤ 33 → within n (layL n es k).1 (-4503599627370496 * (k : Int))
 | 0, _ => by
  intro j h0 h1
  have h : rd (layL n es 0).1 j = 0 := rd_rep n 0 j h0 h1
  omega
 | k + 1, hk => by
  have ih := lay_within n es hin hs k (by omega)
  obtain ⟨l1, _⟩ := layL_len n es k
  intro j h0 h1
  have hin' : inE (layL n es k).1.length es := by rw [l1]; exact hin
  have h := least_within (layL n es k).1 es hin' hs (-4503599627370496 * (k : Int)) (by omega) (by rw [l1]; exact ih) j h0 (by rw [l1]; exact h1) es.length (Nat.le_refl _)
  show _ ≤ rd (nextL (layL n es k).1 es es.length).1 j ∧ rd (nextL (layL n es k).1 es es.length).1 j ≤ 0
  rw [(next_least _ es hin' es.length (Nat.le_refl _) j h0 (by rw [l1]; exact h1)).1]
  omega
theorem leastL_mono (had : List Int) (es : List Edge) (h : Int) (i : Nat) : ∀ d, (leastL had es h (i + d)).1 ≤ (leastL had es h i).1
 | 0 => Int.le_refl _
 | d + 1 => by
  have ih := leastL_mono had es h i d
  show (leastL had es h (i + d + 1)).1 ≤ _
  simp only [leastL]
  split
  ·rename_i c; exact Int.le_trans (Int.le_of_lt c.2) ih
  ·exact ih
theorem leastL_edge (had : List Int) (es : List Edge) (i m : Nat) (hi : i < m) : (leastL had es (rdE es (i : Int)).f1 m).1 ≤ wrap64 (rd had (rdE es (i : Int)).f0 + (rdE es (i : Int)).f2) := by
 have h1 := leastL_mono had es (rdE es (i : Int)).f1 (i + 1) (m - (i + 1))
 rw [show i + 1 + (m - (i + 1)) = m by omega] at h1
 refine Int.le_trans h1 ?_
 simp only [leastL]
 split
 ·exact Int.le_refl _
 ·rename_i c
  have : ¬ (wrap64 (rd had (rdE es (i : Int)).f0 + (rdE es (i : Int)).f2) < (leastL had es (rdE es (i : Int)).f1 i).1) := fun h => c (by simpa using h)
  omega
theorem mem_rdE {es : List Edge} {e : Edge} (h : e ∈ es) : ∃ i : Nat, i < es.length ∧ rdE es (i : Int) = e := by
 obtain ⟨i, hi, rfl⟩ := List.mem_iff_getElem.1 h
 exact ⟨i, hi, by simp [rd_T72, List.getD, hi]⟩
theorem solved_facts {n : Int} {es : List Edge} {o : List Int} (h : solveB n es = (o, true)) : 0 ≤ n ∧ n ≤ 32 ∧ inE n.toNat es ∧ smallE es ∧ o = (layL n.toNat es n.toNat).1 ∧ (n > 0 → o = (layL n.toNat es (n.toNat - 1)).1) ∧ o.length = n.toNat ∧ within n.toNat o (-144115188075855872) ∧ (∀ e ∈ es, rd o e.f1 ≤ rd o e.f0 + e.f2) := by
 unfold solveB at h
 split at h
 ·rename_i hc
  obtain ⟨h0, h32, hin, hs⟩ := inE_of_may hc.1
  have ho : o = (layL n.toNat es n.toNat).1 := by injection h with h _; exact h.symm
  obtain ⟨l1, _⟩ := layL_len n.toNat es n.toNat
  have hw := lay_within n.toNat es hin hs n.toNat (by omega)
  refine ⟨h0, h32, hin, hs, ho, fun hp => ho.trans (hc.2 hp), by rw [ho, l1], ?_, ?_⟩
  ·intro j j0 j1
   have := hw j j0 j1
   rw [← ho] at this
   omega
  ·intro e he
   have hr := hin e he
   have hp : n > 0 := by omega
   have ho2 := ho.trans (hc.2 hp)
   obtain ⟨i, hi, rfl⟩ := mem_rdE he
   obtain ⟨l2, _⟩ := layL_len n.toNat es (n.toNat - 1)
   have hin' : inE (layL n.toNat es (n.toNat - 1)).1.length es := by rw [l2]; exact hin
   have hlay : layL n.toNat es n.toNat = nextL (layL n.toNat es (n.toNat - 1)).1 es es.length := by
    rw [show n.toNat = (n.toNat - 1) + 1 by omega]; rfl
   have h3 := leastL_edge (layL n.toNat es (n.toNat - 1)).1 es i es.length hi
   rw [← (next_least _ es hin' es.length (Nat.le_refl _) _ hr.2.2.1 (by rw [l2]; exact hr.2.2.2)).1, ← hlay, ← ho, ← ho2] at h3
   have hb := hw _ hr.1 hr.2.1
   rw [← ho] at hb
   have hk := hs _ he
   rw [wrap_id (by omega) (by omega)] at h3
   exact h3
 ·injection h with _ h; cases h
set_option linter.unusedSectionVars false
section
variable {n : Nat} {es : List Edge} (hn : n ≤ 32) (hin : inE n es) (hs : smallE es)
include hn hin hs
variable {x : Int → Int} (hx : ∀ e ∈ es, x e.f1 ≤ x e.f0 + e.f2)
include hx
end
end Go.Proofs.YtgknjgionicncaaGreat.L
namespace Go.Proofs.YtgknjgionicncaaGreat.L
open Go.RowKit Go.Proofs.YtgknjgionicncaaGreat.Q Go.Proofs.YtgknjgionicncaaGreat.X Go.Proofs.YtgknjgionicncaaGreat.V Go.Proofs.YtgknjgionicncaaGreatW.PrintWords Go.Proofs.YtgknjgionicncaaGreatW.PrintLast Go.Proofs.YtgknjgionicncaaGreatW.PrintMore Go.Proofs.YtgknjgionicncaaGreatW.Lib
set_option linter.unusedVariables false
def placeI : List Int → Int → Int
 | [], _ => -1
 | x :: l, v => if v = x then 0 else if placeI l v < 0 then -1 else placeI l v + 1
theorem placeI_ge (v : Int) : ∀ l, -1 ≤ placeI l v ∧ placeI l v < l.length
 | [] => ⟨Int.le_refl _, by simp [placeI]⟩
 | x :: l => by
  have ih := placeI_ge v l
  simp only [placeI, List.length_cons]
  split
  ·omega
  ·split <;> omega
theorem placeI_mem (v : Int) : ∀ l, 0 ≤ placeI l v ↔ v ∈ l
 | [] => by simp [placeI]
 | x :: l => by
  have ih := placeI_mem v l
  have h1 := (placeI_ge v l).1
  simp only [placeI, List.mem_cons]
  split
  ·rename_i h; simp [h]
  ·rename_i h
   split
   ·rename_i h2
    constructor
    ·intro h3; omega
    ·rintro (h3 | h3)
     ·exact absurd h3 h
     ·have := ih.2 h3; omega
   ·exact ⟨fun _ => .inr (ih.1 (by omega)), fun _ => by omega⟩
theorem indexI_ev (l : List Int) (v : Int) (hl : l.length ≤ 1000000000) : Ev (fun k => slices_Index_int_int.f k l v) (placeI l v) := by
 have key : ∀ (d i : Nat), l.length - i = d → i ≤ l.length → Ev (fun k => slices_Index_int_int.l0 k l v (l.length : Int) (i : Int)) (if placeI (l.drop i) v < 0 then -1 else placeI (l.drop i) v + i) := by
  intro d
  induction d with
  | zero =>
   intro i hd hi
   rw [List.drop_of_length_le (by omega)]
   refine Ev.succ ?_
   simp only [slices_Index_int_int.l0]
   exact Ev.neg (by omega) (Ev.now _)
  | succ d ih =>
   intro i hd hi
   have hil : i < l.length := by omega
   have hr : rd l (i : Int) = l[i] := by simp [rd, List.getD, hil]
   refine Ev.succ ?_
   simp only [slices_Index_int_int.l0, hr]
   refine Ev.pos (by omega) (Ev.pos (by omega) (Ev.pos (by omega) ?_))
   rw [List.drop_eq_getElem_cons hil]
   have hp : placeI (l[i] :: l.drop (i + 1)) v = (if v = l[i] then 0 else if placeI (l.drop (i + 1)) v < 0 then -1 else placeI (l.drop (i + 1)) v + 1) := rfl
   have h1 := ih (i + 1) (by omega) (by omega)
   have g1 := (placeI_ge v (l.drop (i + 1))).1
   refine Ev.ite (fun h => ?_) (fun h => ?_)
   ·rw [if_pos h] at hp
    exact Ev.cast (Ev.now _) (by rw [hp]; simp only [Int.lt_irrefl, if_false]; omega)
   ·rw [if_neg h] at hp
    rw [wrap_id (by omega) (by omega)]
    refine Ev.cast h1 ?_
    generalize placeI (l[i] :: l.drop (i + 1)) v = z at *
    generalize placeI (l.drop (i + 1)) v = y at *
    by_cases h3 : y < 0
    ·rw [if_pos h3] at hp
     rw [if_pos h3, if_pos (by omega)]
    ·rw [if_neg h3] at hp
     rw [if_neg h3, if_neg (by omega)]
     omega
 have h := key l.length 0 (by omega) (by omega)
 rw [List.drop_zero] at h
 unfold slices_Index_int_int.f
 refine Ev.cast h ?_
 have := (placeI_ge v l).1
 split <;> omega
theorem containsI_ev (l : List Int) (v : Int) (hl : l.length ≤ 1000000000) : Ev (fun k => slices_Contains_int_int.f k l v) (decide (v ∈ l)) := by
 unfold slices_Contains_int_int.f
 refine Ev.bind (indexI_ev l v hl) (Ev.cast (Ev.now _) ?_)
 have := placeI_mem v l
 by_cases h : v ∈ l
 ·have h1 := this.2 h
  simp only [h, decide_true, decide_eq_true_eq]; omega
 ·have h1 : ¬ 0 ≤ placeI l v := fun h2 => h (this.1 h2)
  simp only [h, decide_false, decide_eq_false_iff_not]; omega
def revAt (l : List Edge) (i : Nat) : List Edge := (List.range l.length).map fun p => if p < i ∨ l.length - i ≤ p then rdE l ((l.length - 1 - p : Nat) : Int) else rdE l (p : Int)
theorem revAt_len (l : List Edge) (i : Nat) : (revAt l i).length = l.length := by simp [revAt]
theorem rdE_get (l : List Edge) (p : Nat) (h : p < l.length) : rdE l (p : Int) = l[p] := by simp [rdE, rd_T72, List.getD, h]
theorem rdE_revAt (l : List Edge) (i p : Nat) (h : p < l.length) : rdE (revAt l i) (p : Int) = if p < i ∨ l.length - i ≤ p then rdE l ((l.length - 1 - p : Nat) : Int) else rdE l (p : Int) := by
 rw [rdE_get _ p (by rw [revAt_len]; exact h)]
 simp [revAt]
theorem revAt_zero (l : List Edge) : revAt l 0 = l := by
 refine List.ext_getElem (revAt_len l 0) fun p h1 h2 => ?_
 rw [← rdE_get _ p h1, rdE_revAt l 0 p h2, if_neg (by omega), rdE_get l p h2]
theorem revAt_end (l : List Edge) (i : Nat) (h : l.length ≤ 2 * i + 1) : revAt l i = l.reverse := by
 refine List.ext_getElem (by rw [revAt_len, List.length_reverse]) fun p h1 h2 => ?_
 have hp : p < l.length := by rw [revAt_len] at h1; exact h1
 rw [← rdE_get _ p h1, rdE_revAt l i p hp, List.getElem_reverse]
 by_cases c : p < i ∨ l.length - i ≤ p
 ·rw [if_pos c, rdE_get l _ (by omega)]
 ·rw [if_neg c, rdE_get l p hp]
  congr 1
  omega
theorem revAt_step0 (l : List Edge) (i : Nat) (h : 2 * i + 1 < l.length) (a b : Edge) (ha : a = rdE l ((l.length - 1 - i : Nat) : Int)) (hb : b = rdE l (i : Int)) : ((revAt l i).set i a).set (l.length - 1 - i) b = revAt l (i + 1) := by
 refine List.ext_getElem (by simp [revAt_len]) fun p h1 h2 => ?_
 have hp : p < l.length := by rw [revAt_len] at h2; exact h2
 rw [← rdE_get _ p h2, rdE_revAt l (i + 1) p hp, List.getElem_set, List.getElem_set]
 by_cases c1 : l.length - 1 - i = p
 ·rw [if_pos c1, if_pos (by omega), hb]
  congr 1; omega
 ·rw [if_neg c1]
  by_cases c2 : i = p
  ·rw [if_pos c2, if_pos (by omega), ha]
   congr 1; omega
  ·rw [if_neg c2, ← rdE_get _ p (by rw [revAt_len]; exact hp), rdE_revAt l i p hp]
   by_cases c3 : p < i ∨ l.length - i ≤ p
   ·rw [if_pos c3, if_pos (by omega)]
   ·rw [if_neg c3, if_neg (by omega)]
theorem revAt_step (l : List Edge) (i : Nat) (h : 2 * i + 1 < l.length) : ((revAt l i).set i (rdE (revAt l i) ((l.length - 1 - i : Nat) : Int))).set (l.length - 1 - i) (rdE (revAt l i) (i : Int)) = revAt l (i + 1) :=
 revAt_step0 l i h _ _ (by rw [rdE_revAt l i _ (by omega), if_neg (by omega)]) (by rw [rdE_revAt l i i (by omega), if_neg (by omega)])
theorem rev_ev (l : List Edge) (hl : l.length ≤ 1000000000) : Ev (fun k => api_Edge_143.f k l) l.reverse := by
 have key : ∀ (d i : Nat), l.length - i = d → i ≤ l.length → Ev (fun k => api_Edge_143.l0 k (revAt l i) (i : Int) ((l.length : Int) - 1 - i)) l.reverse := by
  intro d
  induction d with
  | zero =>
   intro i hd hi
   refine Ev.succ ?_
   simp only [api_Edge_143.l0]
   exact Ev.neg (by omega) (Ev.cast (Ev.now _) (revAt_end l i (by omega)))
  | succ d ih =>
   intro i hd hi
   refine Ev.succ ?_
   simp only [api_Edge_143.l0, revAt_len]
   refine Ev.ite (fun h => ?_) (fun h => Ev.cast (Ev.now _) (revAt_end l i (by omega)))
   refine Ev.pos (by omega) (Ev.pos (by omega) (Ev.pos (by omega) (Ev.pos (by omega) ?_)))
   have h1 := ih (i + 1) (by omega) (by omega)
   rw [wrap_id (by omega) (by omega), wrap_id (by omega) (by omega)]
   have e1 : ((l.length : Int) - 1 - (i : Int)) = ((l.length - 1 - i : Nat) : Int) := by omega
   have e2 := revAt_step l i (by omega)
   rw [e1, Int.toNat_natCast, Int.toNat_natCast]
   rw [← e2] at h1
   rw [show ((i : Int) + 1) = ((i + 1 : Nat) : Int) by omega, show (((l.length - 1 - i : Nat) : Int) - 1) = (l.length : Int) - 1 - ((i + 1 : Nat) : Int) by omega]
   exact h1
 have h := key l.length 0 (by omega) (by omega)
 rw [revAt_zero] at h
 unfold api_Edge_143.f
 rw [wrap_id (by omega) (by omega)]
 simpa using h
theorem take_flat {α : Type} (L : List (List α)) (i : Nat) (h : i < L.length) : (L.take (i + 1)).flatten = (L.take i).flatten ++ L[i] := by
 rw [List.take_add_one, List.flatten_append, List.getElem?_eq_getElem h]
 simp
theorem flatE_le {α : Type} (L : List (List α)) (i : Nat) : (L.take i).flatten.length ≤ L.flatten.length := by
 have h : L.flatten = (L.take i).flatten ++ (L.drop i).flatten := by rw [← List.flatten_append, List.take_append_drop]
 rw [h, List.length_append]; omega
theorem concat_ev (L : List (List Edge)) (h1 : L.length ≤ 1000000) (h2 : L.flatten.length ≤ 1000000) : Ev (fun k => api_Edge_139.f k L) L.flatten := by
 have rdL : ∀ i : Nat, (h : i < L.length) → rd_L11 L (i : Int) = L[i] := fun i h => by simp [rd_L11, List.getD, h]
 have key1 : ∀ (d i : Nat), L.length - i = d → i ≤ L.length → Ev (fun k => api_Edge_139.l1 k (L.take i).flatten L (L.length : Int) (i : Int)) L.flatten := by
  intro d
  induction d with
  | zero =>
   intro i hd hi
   refine Ev.succ ?_
   simp only [api_Edge_139.l1]
   refine Ev.neg (by omega) (Ev.cast (Ev.now _) ?_)
   rw [List.take_of_length_le (by omega)]
  | succ d ih =>
   intro i hd hi
   have hil : i < L.length := by omega
   have hf := take_flat L i hil
   have hle := flatE_le L (i + 1)
   rw [hf, List.length_append] at hle
   refine Ev.succ ?_
   simp only [api_Edge_139.l1, rdL i hil]
   refine Ev.pos (by omega) (Ev.pos (by omega) (Ev.pos (by omega) (Ev.pos (by omega) ?_)))
   have h := ih (i + 1) (by omega) (by omega)
   rw [hf] at h
   rw [wrap_id (by omega) (by omega)]
   exact h
 have key0 : ∀ (d i : Nat), L.length - i = d → i ≤ L.length → Ev (fun k => api_Edge_139.l0 k L ((L.take i).flatten.length : Int) L (L.length : Int) (i : Int)) L.flatten := by
  intro d
  induction d with
  | zero =>
   intro i hd hi
   have hle := flatE_le L i
   refine Ev.succ ?_
   simp only [api_Edge_139.l0]
   refine Ev.neg (by omega) (Ev.bind (a := []) (Ev.const ?_) ?_)
   ·unfold api_Edge_171.f
    rw [if_pos (by omega)]
   ·have h := key1 L.length 0 (by omega) (by omega)
    simpa using h
  | succ d ih =>
   intro i hd hi
   have hil : i < L.length := by omega
   have hf := take_flat L i hil
   have hle := flatE_le L (i + 1)
   have hl2 : (L.take (i + 1)).flatten.length = (L.take i).flatten.length + L[i].length := by rw [hf, List.length_append]
   refine Ev.succ ?_
   simp only [api_Edge_139.l0, rdL i hil]
   have h := ih (i + 1) (by omega) (by omega)
   rw [hl2] at h
   rw [wrap_id (i := ((L.take i).flatten.length : Int) + (L[i].length : Int)) (by omega) (by omega), wrap_id (i := (i : Int) + 1) (by omega) (by omega)]
   refine Ev.pos (by omega) (Ev.pos (by omega) (Ev.pos (by omega) (Ev.neg (by omega) ?_)))
   exact h
 have h := key0 L.length 0 (by omega) (by omega)
 unfold api_Edge_139.f
 simpa using h
def leastN (l : List Edge) : Nat → Nat
 | 0 => 0
 | i + 1 => if (rdE l (i : Int)).f0 < (rdE l (leastN l i : Int)).f0 then i else leastN l i
theorem leastN_le (l : List Edge) : ∀ i, leastN l i ≤ i - 1
 | 0 => Nat.le_refl _
 | i + 1 => by
  have ih := leastN_le l i
  simp only [leastN]
  split <;> omega
def turnL (l : List Edge) : List Edge := l.drop (leastN l l.length) ++ l.take (leastN l l.length)
theorem turn_ev (l : List Edge) (hl : l.length ≤ 1000) : Ev (fun k => loop_turned.f k l) (turnL l) := by
 have key : ∀ (d i : Nat), l.length - i = d → i ≤ l.length → Ev (fun k => loop_turned.l0 k l (leastN l i : Int) l (l.length : Int) (i : Int)) (turnL l) := by
  intro d
  induction d with
  | zero =>
   intro i hd hi
   have e : i = l.length := by omega
   subst e
   have hle := leastN_le l l.length
   refine Ev.succ ?_
   simp only [loop_turned.l0, Int.toNat_natCast]
   refine Ev.neg (by omega) (Ev.pos (by omega) (Ev.pos (by omega) ?_))
   have hc := concat_ev [l.drop (leastN l l.length), l.take (leastN l l.length)] (by simp) (by simp; omega)
   refine Ev.bind hc (Ev.cast (Ev.now _) ?_)
   simp [turnL]
  | succ d ih =>
   intro i hd hi
   have hle := leastN_le l i
   have h := ih (i + 1) (by omega) (by omega)
   refine Ev.succ ?_
   simp only [loop_turned.l0]
   rw [wrap_id (by omega) (by omega)]
   refine Ev.pos (by omega) (Ev.pos (by omega) (Ev.pos (by omega) (Ev.pos (by omega) (Ev.pos (by omega) (Ev.ite (fun c => ?_) (fun c => ?_))))))
   ·have e : leastN l (i + 1) = i := by simp only [leastN]; exact if_pos c
    rw [e] at h
    exact h
   ·have e : leastN l (i + 1) = leastN l i := by simp only [leastN]; exact if_neg c
    rw [e] at h
    exact h
 have h := key l.length 0 (by omega) (by omega)
 unfold loop_turned.f
 exact h
theorem turn_mem {l : List Edge} {e : Edge} (h : e ∈ turnL l) : e ∈ l := by
 rcases List.mem_append.1 h with h | h
 ·exact List.mem_of_mem_drop h
 ·exact List.mem_of_mem_take h
theorem turn_len (l : List Edge) : (turnL l).length = l.length := by
 have := leastN_le l l.length
 simp only [turnL, List.length_append, List.length_drop, List.length_take]
 omega
theorem least_by (had : List Int) (es : List Edge) (h : Int) : ∀ m, -1 ≤ (leastL had es h m).2 ∧ (leastL had es h m).2 < (m : Int)
 | 0 => ⟨Int.le_refl _, by simp [leastL]⟩
 | m + 1 => by
  have ih := least_by had es h m
  simp only [leastL]
  split
  ·exact ⟨by omega, by simp only []; omega⟩
  ·omega
theorem lay_by {n : Nat} {es : List Edge} (hin : inE n es) (k : Nat) (h : Int) (h0 : 0 ≤ h) (h1 : h < n) : -1 ≤ rd (layL n es k).2 h ∧ rd (layL n es k).2 h < es.length := by
 cases k with
 | zero =>
  show -1 ≤ rd (List.replicate n (-1)) h ∧ rd (List.replicate n (-1)) h < es.length
  rw [rd_rep n (-1) h h0 h1]
  omega
 | succ k =>
  have hl := (layL_len n es k).1
  have hin' : inE (layL n es k).1.length es := by rw [hl]; exact hin
  have e := (nextL_rows (layL n es k).1 es hin').2
  show -1 ≤ rd (nextL (layL n es k).1 es es.length).2 h ∧ rd (nextL (layL n es k).1 es es.length).2 h < es.length
  rw [e, hl, rd_map_range n _ h h0 h1]
  exact least_by _ _ _ _
theorem rd_rows2 (n : Nat) (es : List Edge) (k : Nat) (i : Int) (h0 : 0 ≤ i) (h1 : i < k) : rd_L9 (rowsL n es k).2 i = (layL n es i.toNat).2 := by
 have hi : i.toNat < k := by omega
 simp [rd_L9, rowsL, List.getD, hi]
def backL (n : Nat) (es : List Edge) : Nat → Int → List Int → List Edge → Int × List Int × List Edge
 | 0, v, hs, way => (v, hs, way)
 | k + 1, v, hs, way => if v ∈ hs then (v, hs, way) else if rd (layL n es k).2 v < 0 then (v, hs, way) else backL n es k (rdE es (rd (layL n es k).2 v)).f0 (hs ++ [v]) (way ++ [rdE es (rd (layL n es k).2 v)])
def chainOf (r : Int × List Int × List Edge) : List Edge := (r.2.2.drop (max (placeI r.2.1 r.1) 0).toNat).reverse
theorem back_j (v : Int) (hs : List Int) (way : List Edge) (h1 : hs.length ≤ 1000) (h2 : way.length = hs.length) : Ev (fun k => loop_back.j1 k v hs way) (chainOf (v, hs, way)) := by
 have hp := placeI_ge v hs
 refine Ev.succ ?_
 simp only [loop_back.j1]
 refine Ev.bind (indexI_ev hs v (by omega)) ?_
 have hm : mx (placeI hs v) 0 = max (placeI hs v) 0 := by unfold mx; split <;> omega
 rw [hm]
 refine Ev.pos (by omega) (Ev.pos (by omega) (Ev.bind (a := way.drop (max (placeI hs v) 0).toNat) (Ev.const ?_) (Ev.bind (rev_ev _ (by simp; omega)) (Ev.now _))))
 unfold api_Edge_142.f
 rw [if_pos (by simp; omega)]
theorem back_ev {n : Nat} {es : List Edge} (hn : n ≤ 32) (hin : inE n es) (he : es.length ≤ 1000000000) : ∀ (m : Nat) (v : Int) (hs : List Int) (way : List Edge), m ≤ n + 1 → hs.length + m ≤ 100 → way.length = hs.length → 0 ≤ v → v < n →
  Ev (fun k => loop_back.l0 k v (rowsL n es (n + 1)).2 es hs way ((m : Int) - 1)) (chainOf (backL n es m v hs way))
 | 0, v, hs, way, hm, hl, hw, v0, v1 => by
  refine Ev.succ ?_
  simp only [loop_back.l0]
  exact Ev.neg (by omega) (back_j v hs way (by omega) hw)
 | m + 1, v, hs, way, hm, hl, hw, v0, v1 => by
  have hr := rd_rows2 n es (n + 1) (((m + 1 : Nat) : Int) - 1) (by omega) (by omega)
  rw [show (((m + 1 : Nat) : Int) - 1).toNat = m by omega] at hr
  have hb := lay_by hin m v v0 v1
  have hlen : (rowsL n es (n + 1)).2.length = n + 1 := by simp [rowsL]
  have hln := (layL_len n es m).2
  refine Ev.succ ?_
  simp only [loop_back.l0, hr]
  refine Ev.pos (by omega) (Ev.bind (containsI_ev hs v (by omega)) ?_)
  simp only [backL]
  by_cases c : v ∈ hs
  ·rw [if_pos c]
   exact Ev.pos (decide_eq_true c) (back_j v hs way (by omega) hw)
  rw [if_neg c]
  refine Ev.neg (by simp [c]) (Ev.pos (by omega) (Ev.pos (by omega) (Ev.pos v0 (Ev.pos (by omega) ?_))))
  by_cases c2 : rd (layL n es m).2 v < 0
  ·rw [if_pos c2]
   exact Ev.pos c2 (back_j v hs way (by omega) hw)
  rw [if_neg c2]
  have hi : rd (layL n es m).2 v = ((rd (layL n es m).2 v).toNat : Int) := by omega
  have hmem := hin _ (rdE_mem es (rd (layL n es m).2 v) (by omega) (by omega))
  have ih := back_ev hn hin he m (rdE es (rd (layL n es m).2 v)).f0 (hs ++ [v]) (way ++ [rdE es (rd (layL n es m).2 v)]) (by omega) (by simp; omega) (by simp [hw]) hmem.1 hmem.2.1
  refine Ev.neg c2 (Ev.bind (a := [v]) (Ev.now _) (Ev.pos (by simp; omega) (Ev.pos (by omega) (Ev.pos (by omega) (Ev.bind (a := [rdE es (rd (layL n es m).2 v)]) (Ev.now _) (Ev.pos (by simp; omega) ?_))))))
  rw [wrap_id (by omega) (by omega), show (((m + 1 : Nat) : Int) - 1 - 1) = (m : Int) - 1 by omega]
  exact ih
def lowFrom (n : Nat) (es : List Edge) : Nat → Nat → List Edge
 | 0, _ => []
 | d + 1, i => if rd (layL n es n).1 (i : Int) < rd (layL n es (n - 1)).1 (i : Int) then turnL (chainOf (backL n es (n + 1) (i : Int) [] [])) else lowFrom n es d (i + 1)
def loopL (n : Int) (es : List Edge) : List Edge := if rmayB n es = true ∧ 1 ≤ n then lowFrom n.toNat es n.toNat 0 else []
theorem back_all {n : Nat} {es : List Edge} (hin : inE n es) (hne : n ≤ 32) : ∀ (m : Nat) (v : Int) (hs : List Int) (way : List Edge), 0 ≤ v → v < n → (∀ e ∈ way, e ∈ es) → way.length + m ≤ 100 → (∀ e ∈ (backL n es m v hs way).2.2, e ∈ es) ∧ (backL n es m v hs way).2.2.length ≤ 100
 | 0, v, hs, way, _, _, hw, hl => ⟨hw, by simp only [backL]; omega⟩
 | m + 1, v, hs, way, v0, v1, hw, hl => by
  simp only [backL]
  split
  ·exact ⟨hw, by simp only []; omega⟩
  ·split
   ·exact ⟨hw, by simp only []; omega⟩
   ·rename_i c2
    have hb := lay_by hin m v v0 v1
    have hm := rdE_mem es (rd (layL n es m).2 v) (by omega) (by omega)
    have hi := hin _ hm
    refine back_all hin hne m _ _ _ hi.1 hi.2.1 (fun e he => ?_) (by simp; omega)
    rcases List.mem_append.1 he with h | h
    ·exact hw e h
    ·rw [List.mem_singleton.1 h]; exact hm
theorem chain_mem {r : Int × List Int × List Edge} {e : Edge} (h : e ∈ chainOf r) : e ∈ r.2.2 := by
 unfold chainOf at h
 exact List.mem_of_mem_drop (List.mem_reverse.1 h)
theorem chain_len (r : Int × List Int × List Edge) : (chainOf r).length ≤ r.2.2.length := by
 unfold chainOf
 simp
theorem low_all {n : Nat} {es : List Edge} (hin : inE n es) (hne : n ≤ 32) : ∀ (d i : Nat), i + d ≤ n → (∀ e ∈ lowFrom n es d i, e ∈ es) ∧ (lowFrom n es d i).length ≤ 100
 | 0, i, h => ⟨by simp [lowFrom], by simp [lowFrom]⟩
 | d + 1, i, h => by
  simp only [lowFrom]
  split
  ·have hb := back_all hin hne (n + 1) (i : Int) [] [] (by omega) (by omega) (by simp) (by simp; omega)
   refine ⟨fun e he => hb.1 e (chain_mem (turn_mem he)), ?_⟩
   rw [turn_len]
   exact Nat.le_trans (chain_len _) hb.2
  ·exact low_all hin hne d (i + 1) (by omega)
theorem loop_mem {n : Int} {es : List Edge} {e : Edge} (h : e ∈ loopL n es) : e ∈ es := by
 unfold loopL at h
 split at h
 ·rename_i hc
  obtain ⟨h0, h32, hin, _⟩ := inE_of_may hc.1
  exact (low_all hin (by omega) n.toNat 0 (by omega)).1 e h
 ·simp at h
theorem loop_len (n : Int) (es : List Edge) : (loopL n es).length ≤ 100 := by
 unfold loopL
 split
 ·rename_i hc
  obtain ⟨h0, h32, hin, _⟩ := inE_of_may hc.1
  exact (low_all hin (by omega) n.toNat 0 (by omega)).2
 ·simp
theorem loop_ev (n : Int) (es : List Edge) (he : es.length ≤ 1000000000) : Ev (fun k => loop_Of.f k n es) (loopL n es) := by
 unfold loop_Of.f
 refine Ev.bind (layers_ev n es he) ?_
 by_cases hm : rmayB n es = true
 rotate_left
 ·have h1 : laysB n es = ([], []) := by unfold laysB; rw [if_neg hm]
  have h2 : loopL n es = [] := by unfold loopL; rw [if_neg (fun h => hm h.1)]
  rw [h1, h2]
  exact Ev.pos (by simp) (Ev.now _)
 obtain ⟨h0, h32, hin, _⟩ := inE_of_may hm
 have h1 : laysB n es = rowsL n.toNat es (n.toNat + 1) := by unfold laysB; rw [if_pos hm]
 have hlen : (rowsL n.toNat es (n.toNat + 1)).1.length = n.toNat + 1 := by simp [rowsL]
 rw [h1, hlen]
 by_cases c : 1 ≤ n
 rotate_left
 ·have h2 : loopL n es = [] := by unfold loopL; rw [if_neg (fun h => c h.2)]
  rw [h2]
  exact Ev.pos (by omega) (Ev.now _)
 have h2 : loopL n es = lowFrom n.toNat es n.toNat 0 := by unfold loopL; rw [if_pos ⟨hm, c⟩]
 rw [h2]
 refine Ev.neg (by omega) ?_
 have hr := rd_rows n.toNat es (n.toNat + 1) n h0 (by omega)
 have hr2 := rd_rows n.toNat es (n.toNat + 1) (n - 1) (by omega) (by omega)
 rw [show (n - 1).toNat = n.toNat - 1 by omega] at hr2
 have hl1 := (layL_len n.toNat es n.toNat).1
 have hl2 := (layL_len n.toNat es (n.toNat - 1)).1
 have hw : wrap64 (n - 1) = n - 1 := wrap_id (by omega) (by omega)
 have key : ∀ (d i : Nat), n.toNat - i = d → i ≤ n.toNat → Ev (fun k => loop_Of.l0 k n es (rowsL n.toNat es (n.toNat + 1)).1 (rowsL n.toNat es (n.toNat + 1)).2 n (i : Int)) (lowFrom n.toNat es d i) := by
  intro d
  induction d with
  | zero =>
   intro i hd hi
   refine Ev.succ ?_
   simp only [loop_Of.l0]
   exact Ev.neg (by omega) (Ev.now _)
  | succ d ih =>
   intro i hd hi
   refine Ev.succ ?_
   simp only [loop_Of.l0, hr, hw, hr2, hlen]
   simp only [lowFrom]
   refine Ev.pos (by omega) (Ev.pos h0 (Ev.pos (by omega) (Ev.pos (by omega) (Ev.pos (by omega) (Ev.pos (by omega) (Ev.pos (by omega) (Ev.pos (by omega) ?_)))))))
   by_cases q : rd (layL n.toNat es n.toNat).1 (i : Int) < rd (layL n.toNat es (n.toNat - 1)).1 (i : Int)
   ·rw [if_pos q]
    have hb := back_all hin (by omega) (n.toNat + 1) (i : Int) [] [] (by omega) (by omega) (by simp) (by simp; omega)
    have hbk : Ev (fun k => loop_back.f k (i : Int) (rowsL n.toNat es (n.toNat + 1)).2 es) (chainOf (backL n.toNat es (n.toNat + 1) (i : Int) [] [])) := by
     have h := back_ev (by omega) hin he (n.toNat + 1) (i : Int) [] [] (by omega) (by simp; omega) rfl (by omega) (by omega)
     unfold loop_back.f
     have hl3 : (rowsL n.toNat es (n.toNat + 1)).2.length = n.toNat + 1 := by simp [rowsL]
     rw [hl3, wrap_id (by omega) (by omega)]
     exact h
    refine Ev.pos q (Ev.bind hbk (Ev.bind (turn_ev _ (Nat.le_trans (chain_len _) (by omega))) (Ev.now _)))
   ·rw [if_neg q]
    refine Ev.neg q ?_
    rw [wrap_id (by omega) (by omega)]
    exact ih (i + 1) (by omega) (by omega)
 exact key n.toNat 0 (by omega) (by omega)
end Go.Proofs.YtgknjgionicncaaGreat.L
namespace Go.Proofs.YtgknjgionicncaaGreat.L
open Go.RowKit Go.Proofs.YtgknjgionicncaaGreat.Q Go.Proofs.YtgknjgionicncaaGreatW.PrintWords Go.Proofs.YtgknjgionicncaaGreatW.PrintLast Go.Proofs.YtgknjgionicncaaGreatW.PrintMore Go.Proofs.YtgknjgionicncaaGreatW.Lib
set_option linter.unusedVariables false
theorem text_eq {s t : ByteArray} : s.toList = t.toList ↔ s = t := by
 rw [toList_data, toList_data]
 constructor
 ·intro h
  cases s; cases t
  simp_all
 ·rintro rfl; rfl
theorem sameT_ev (a b : List ByteArray) (ha : a.length ≤ 1000000000) : ∃ r, Ev (fun k => merkhetref09_Same.f k a b) r ∧ (r = true ↔ a = b) := by
 unfold merkhetref09_Same.f
 by_cases h : (a.length : Int) = (b.length : Int)
 ·have key : ∀ (d i : Nat), a.length - i = d → i ≤ a.length → ∃ r, Ev (fun k => merkhetref09_Same.l0 k a b (i : Int)) r ∧ (r = true ↔ a.drop i = b.drop i) := by
   intro d
   induction d with
   | zero =>
    intro i hd hi
    refine ⟨true, Ev.succ ?_, ?_⟩
    ·simp only [merkhetref09_Same.l0]
     exact Ev.neg (by omega) (Ev.now _)
    ·rw [List.drop_of_length_le (by omega), List.drop_of_length_le (by omega)]
     simp
   | succ d ih =>
    intro i hd hi
    have hil : i < a.length := by omega
    have hib : i < b.length := by omega
    have hr : rdOf ByteArray.empty a (i : Int) = a[i] := by simp [rdOf, List.getD, hil]
    have hr2 : rdOf ByteArray.empty b (i : Int) = b[i] := by simp [rdOf, List.getD, hib]
    obtain ⟨r, h1, h2⟩ := ih (i + 1) (by omega) (by omega)
    have ea := List.drop_eq_getElem_cons hil
    have eb := List.drop_eq_getElem_cons hib
    by_cases e : a[i] = b[i]
    ·refine ⟨r, Ev.succ ?_, ?_⟩
     ·simp only [merkhetref09_Same.l0, hr, hr2]
      refine Ev.pos (by omega) (Ev.pos (by omega) (Ev.pos (by omega) (Ev.pos (text_eq.2 e) ?_)))
      rw [wrap_id (by omega) (by omega)]
      exact h1
     ·rw [h2, ea, eb, List.cons.injEq]
      exact ⟨fun h => ⟨e, h⟩, fun h => h.2⟩
    ·refine ⟨false, Ev.succ ?_, ?_⟩
     ·simp only [merkhetref09_Same.l0, hr, hr2]
      exact Ev.pos (by omega) (Ev.pos (by omega) (Ev.pos (by omega) (Ev.neg (fun h => e (text_eq.1 h)) (Ev.now _))))
     ·rw [ea, eb, List.cons.injEq]
      exact ⟨fun h => absurd h (by simp), fun h => absurd h.1 e⟩
  obtain ⟨r, h1, h2⟩ := key a.length 0 (by omega) (by omega)
  exact ⟨r, Ev.pos h h1, by simpa using h2⟩
 ·refine ⟨false, Ev.neg h (Ev.now _), ⟨by simp, ?_⟩⟩
  rintro rfl
  exact absurd rfl h
theorem same15_ev (a b : List Int) (ha : a.length ≤ 1000000000) : ∃ r, Ev (fun k => merkhetref15_Same.f k a b) r ∧ (r = true ↔ a = b) := by
 unfold merkhetref15_Same.f
 by_cases h : (a.length : Int) = (b.length : Int)
 ·have key : ∀ (d i : Nat), a.length - i = d → i ≤ a.length → ∃ r, Ev (fun k => merkhetref15_Same.l0 k a b (i : Int)) r ∧ (r = true ↔ a.drop i = b.drop i) := by
   intro d
   induction d with
   | zero =>
    intro i hd hi
    refine ⟨true, Ev.succ ?_, ?_⟩
    ·simp only [merkhetref15_Same.l0]
     exact Ev.neg (by omega) (Ev.now _)
    ·rw [List.drop_of_length_le (by omega), List.drop_of_length_le (by omega)]
     simp
   | succ d ih =>
    intro i hd hi
    have hil : i < a.length := by omega
    have hib : i < b.length := by omega
    have hr : rd a (i : Int) = a[i] := by simp [rd, List.getD, hil]
    have hr2 : rd b (i : Int) = b[i] := by simp [rd, List.getD, hib]
    obtain ⟨r, h1, h2⟩ := ih (i + 1) (by omega) (by omega)
    have ea := List.drop_eq_getElem_cons hil
    have eb := List.drop_eq_getElem_cons hib
    by_cases e : a[i] = b[i]
    ·refine ⟨r, Ev.succ ?_, ?_⟩
     ·simp only [merkhetref15_Same.l0, hr, hr2]
      refine Ev.pos (by omega) (Ev.pos (by omega) (Ev.pos (by omega) (Ev.pos e ?_)))
      rw [wrap_id (by omega) (by omega)]
      exact h1
     ·rw [h2, ea, eb, List.cons.injEq]
      exact ⟨fun h => ⟨e, h⟩, fun h => h.2⟩
    ·refine ⟨false, Ev.succ ?_, ?_⟩
     ·simp only [merkhetref15_Same.l0, hr, hr2]
      exact Ev.pos (by omega) (Ev.pos (by omega) (Ev.pos (by omega) (Ev.neg e (Ev.now _))))
     ·rw [ea, eb, List.cons.injEq]
      exact ⟨fun h => absurd h (by simp), fun h => absurd h.1 e⟩
  obtain ⟨r, h1, h2⟩ := key a.length 0 (by omega) (by omega)
  exact ⟨r, Ev.pos h h1, by simpa using h2⟩
 ·refine ⟨false, Ev.neg h (Ev.now _), ⟨by simp, ?_⟩⟩
  rintro rfl
  exact absurd rfl h
theorem same15_self (a : List Int) (ha : a.length ≤ 1000000000) : Ev (fun k => merkhetref15_Same.f k a a) true := by
 obtain ⟨r, h1, h2⟩ := same15_ev a a ha
 exact Ev.cast h1 (h2.2 rfl)
end Go.Proofs.YtgknjgionicncaaGreat.L
namespace Go.Proofs.YtgknjgionicncaaGreat.Q
open Go.RowKit Go.Proofs.YtgknjgionicncaaGreatW.PrintWords Go.Proofs.YtgknjgionicncaaGreatW.PrintLast Go.Proofs.YtgknjgionicncaaGreatW.PrintMore
attribute [local go_sem] max2_int min2_int max_two min_two max_three min_three max_four min_four
set_option linter.unusedVariables false
set_option linter.unusedSimpArgs false
end Go.Proofs.YtgknjgionicncaaGreat.Q
namespace Go.Proofs.YtgknjgionicncaaGreat.L
open Go.RowKit Go.Proofs.YtgknjgionicncaaGreat.Q Go.Proofs.YtgknjgionicncaaGreatW.PrintWords Go.Proofs.YtgknjgionicncaaGreatW.PrintLast Go.Proofs.YtgknjgionicncaaGreatW.PrintMore Go.Proofs.YtgknjgionicncaaGreatW.Lib
set_option linter.unusedVariables false
end Go.Proofs.YtgknjgionicncaaGreat.L
namespace Go.Proofs.YtgknjgionicncaaGreat.L
open Go.RowKit Go.Proofs.YtgknjgionicncaaGreat.Q Go.Proofs.YtgknjgionicncaaGreat.X Go.Proofs.YtgknjgionicncaaGreatW.PrintWords Go.Proofs.YtgknjgionicncaaGreatW.PrintLast Go.Proofs.YtgknjgionicncaaGreatW.PrintMore Go.Proofs.YtgknjgionicncaaGreatW.Lib
set_option linter.unusedVariables false
abbrev rdSp (l : List S36) (i : Int) : S36 := rd_T36 l i
theorem pairsP_mem {l : List S36} {ps : List Int} {p : S57} (h : p ∈ pairsB l ps) : 0 ≤ p.f0 ∧ p.f0 < l.length ∧ 0 ≤ p.f1 ∧ p.f1 < l.length ∧ mayS (rdSp l p.f0) = true ∧ mayS (rdSp l p.f1) = true := by
 unfold pairsB at h
 split at h
 ·rename_i h1
  obtain ⟨i, hi, hp⟩ := List.mem_flatMap.1 h
  have hi' := List.mem_range.1 hi
  unfold pairAt at hp
  split at hp
  ·rename_i h2
   rw [List.mem_singleton.1 hp]
   have h3 := inP_rd (ps := ps) (by rw [← h1.1]; exact h1.2) i (by omega) (by omega)
   exact ⟨h2.1, by show rd ps i < _; omega, by show (0 : Int) ≤ (i : Int); omega, by show (i : Int) < _; omega, h2.2.2.2.2, h2.2.2.2.1⟩
  ·cases hp
 ·cases h
theorem mayS_le {s : S36} (h : mayS s = true) : 0 ≤ s.f6 ∧ s.f6 < 1125899906842624 ∧ 0 ≤ s.f7 ∧ s.f7 ≤ 1125899906842624 := mayB_le h
theorem gaps_of {l : List S36} {p : S57} (h0 : 0 ≤ p.f0) (h1 : p.f0 < l.length) (h2 : 0 ≤ p.f1) (h3 : p.f1 < l.length) (mx : mayS (rdSp l p.f0) = true) (my : mayS (rdSp l p.f1) = true) :
  gapsB mayS l p.f0 p.f1 = ((rdSp l p.f1).f6 - (rdSp l p.f0).f6, (rdSp l p.f0).f7 - (rdSp l p.f1).f7 - ((rdSp l p.f1).f6 - (rdSp l p.f0).f6), true) := by
 have bx := mayS_le mx
 have bY := mayS_le my
 unfold gapsB findS
 simp only [h0, h1, h2, h3, mx, my, and_self, if_true]
 rw [wrap_id (i := (rdSp l p.f1).f6 - (rdSp l p.f0).f6) (by omega) (by omega), wrap_id (i := (rdSp l p.f0).f7 - (rdSp l p.f1).f7) (by omega) (by omega), wrap_id (by omega) (by omega)]
theorem edges_from {l : List S36} {nums : List Int} {ps : List S57} {e : Edge} (h : e ∈ edgesB mayS l nums ps) (hps : ∀ p ∈ ps, 0 ≤ p.f0 ∧ p.f0 < l.length ∧ 0 ≤ p.f1 ∧ p.f1 < l.length ∧ mayS (rdSp l p.f0) = true ∧ mayS (rdSp l p.f1) = true) :
  ∃ p ∈ ps, e = ⟨rd nums p.f1, rd nums p.f0, (rdSp l p.f1).f6 - (rdSp l p.f0).f6, p, false⟩ ∨ e = ⟨rd nums p.f0, rd nums p.f1, (rdSp l p.f0).f7 - (rdSp l p.f1).f7 - ((rdSp l p.f1).f6 - (rdSp l p.f0).f6), p, true⟩ := by
 obtain ⟨p, hp, he⟩ := List.mem_flatMap.1 h
 obtain ⟨h0, h1, h2, h3, mx, my⟩ := hps p hp
 have hg := gaps_of h0 h1 h2 h3 mx my
 unfold edgesAt at he
 rw [hg] at he
 simp only [if_true, List.mem_cons, List.not_mem_nil, or_false] at he
 exact ⟨p, hp, he⟩
theorem any_beyond {n : Nat} {o : List Int} (hl : o.length = n) (hw : within n o (-144115188075855872)) : o.any beyondB = false := by
 rw [List.any_eq_false]
 intro x hx
 obtain ⟨i, hi, rfl⟩ := List.mem_iff_getElem.1 hx
 have := hw i (by omega) (by omega)
 have hr : rd o (i : Int) = o[i] := by simp [rd, List.getD, hi]
 rw [hr] at this
 unfold beyondB
 simp only [Bool.or_eq_true, decide_eq_true_eq]
 omega
end Go.Proofs.YtgknjgionicncaaGreat.L
namespace Go.Proofs.YtgknjgionicncaaGreat.L
open Go.RowKit Go.Proofs.YtgknjgionicncaaGreat.Q Go.Proofs.YtgknjgionicncaaGreat.X Go.Proofs.YtgknjgionicncaaGreat.V Go.Proofs.YtgknjgionicncaaGreatW.PrintWords Go.Proofs.YtgknjgionicncaaGreatW.PrintLast Go.Proofs.YtgknjgionicncaaGreatW.PrintMore Go.Proofs.YtgknjgionicncaaGreatW.Lib
set_option linter.unusedVariables false
abbrev rdI (l : List Item) (i : Int) : Item := rd_T75 l i
theorem rdI_nat (l : List Item) (i : Nat) (h : i < l.length) : rdI l (i : Int) = l[i] := by simp [rd_T75, List.getD, h]
theorem rdI_mem (l : List Item) (i : Nat) (h : i < l.length) : rdI l (i : Int) ∈ l := by rw [rdI_nat l i h]; exact List.getElem_mem _
def rowedS (row : List Item) (l : List Span) : List Span := row.map fun it => rd_T36 l it.f0
def rowedI (row : List Item) (l : List Int) : List Int := row.map fun it => rd l it.f0
def inRow (row : List Item) (n : Nat) : Prop := row.length ≤ 1000000 ∧ ∀ it ∈ row, 0 ≤ it.f0 ∧ it.f0 < n
theorem take_map_succ {α β : Type} (g : α → β) (l : List α) (i : Nat) (h : i < l.length) : (l.take (i + 1)).map g = (l.take i).map g ++ [g l[i]] := by
 rw [List.take_add_one, List.getElem?_eq_getElem h, List.map_append]
 rfl
theorem rowedS_ev (a : List Span) (b : List ByteArray) (c : List Int) (row : List Item) (e : List Edge) (l : List Span) (hr : inRow row l.length) : Ev (fun k => api_Span_66.f k a b c row e l) (rowedS row l) := by
 have key : ∀ (d i : Nat), row.length - i = d → i ≤ row.length → Ev (fun k => api_Span_66.l0 k l ((row.take i).map fun it => rd_T36 l it.f0) row (row.length : Int) (i : Int)) (rowedS row l) := by
  intro d
  induction d with
  | zero =>
   intro i hd hi
   refine Ev.succ ?_
   simp only [api_Span_66.l0]
   refine Ev.neg (by omega) (Ev.cast (Ev.now _) ?_)
   rw [List.take_of_length_le (by omega)]; rfl
  | succ d ih =>
   intro i hd hi
   have hil : i < row.length := by omega
   have h1 := hr.1
   have h2 := hr.2 _ (rdI_mem row i hil)
   have h := ih (i + 1) (by omega) (by omega)
   have hlt : ((row.take i).map fun it : Item => rd_T36 l it.f0).length = i := by simp; omega
   rw [take_map_succ _ row i hil, ← rdI_nat row i hil] at h
   refine Ev.succ ?_
   simp only [api_Span_66.l0, hlt]
   refine Ev.pos (by omega) (Ev.pos (by omega) (Ev.pos (by omega) (Ev.pos h2.1 (Ev.pos h2.2 (Ev.pos (by omega) ?_)))))
   rw [wrap_id (by omega) (by omega)]
   exact h
 exact key row.length 0 (by omega) (by omega)
theorem rowedI_ev (a : List Span) (b : List ByteArray) (c : List Int) (row : List Item) (e : List Edge) (l : List Int) (hr : inRow row l.length) : Ev (fun k => verdict_rowed_int64.f k a b c row e l) (rowedI row l) := by
 have key : ∀ (d i : Nat), row.length - i = d → i ≤ row.length → Ev (fun k => verdict_rowed_int64.l0 k l ((row.take i).map fun it => rd l it.f0) row (row.length : Int) (i : Int)) (rowedI row l) := by
  intro d
  induction d with
  | zero =>
   intro i hd hi
   refine Ev.succ ?_
   simp only [verdict_rowed_int64.l0]
   refine Ev.neg (by omega) (Ev.cast (Ev.now _) ?_)
   rw [List.take_of_length_le (by omega)]; rfl
  | succ d ih =>
   intro i hd hi
   have hil : i < row.length := by omega
   have h1 := hr.1
   have h2 := hr.2 _ (rdI_mem row i hil)
   have h := ih (i + 1) (by omega) (by omega)
   have hlt : ((row.take i).map fun it : Item => rd l it.f0).length = i := by simp; omega
   rw [take_map_succ _ row i hil, ← rdI_nat row i hil] at h
   refine Ev.succ ?_
   simp only [verdict_rowed_int64.l0, hlt]
   refine Ev.pos (by omega) (Ev.pos (by omega) (Ev.pos (by omega) (Ev.pos h2.1 (Ev.pos h2.2 (Ev.pos (by omega) ?_)))))
   rw [wrap_id (by omega) (by omega)]
   exact h
 exact key row.length 0 (by omega) (by omega)
def clampS (s p : Span) (x : Int) : Int := if s.f7 > p.f7 then x else mx x (mn (wrap64 (wrap64 (s.f6 + x) - p.f6)) (wrap64 (wrap64 (x + p.f7) - s.f7)))
def clampStep (l : List Span) (out : List Int) (it : Item) : List Int :=
 let y := out.set it.f0.toNat (rd_T36 l it.f0).f6
 if it.f2 ≥ 0 then y.set it.f0.toNat (clampS (rd_T36 l it.f0) (rd_T36 l it.f2) (rd y it.f2)) else y
theorem clampStep_len (l : List Span) (out : List Int) (it : Item) : (clampStep l out it).length = out.length := by
 unfold clampStep
 simp only []
 split <;> simp
def clampF (l : List Span) (row : List Item) : List Int := row.foldl (clampStep l) (List.replicate l.length 0)
def clampB (l : List Span) (ps : List Int) : List Int × Bool := if ps.length = l.length ∧ rightB ps = true ∧ mayA l = true then (clampF l (rowL ps), true) else ([], false)
theorem clampF_len (l : List Span) (row : List Item) : (clampF l row).length = l.length := by
 have h : ∀ (row : List Item) (out : List Int), (row.foldl (clampStep l) out).length = out.length := by
  intro row
  induction row with
  | nil => intro out; rfl
  | cons it row ih => intro out; rw [List.foldl_cons, ih, clampStep_len]
 unfold clampF
 rw [h]; simp
theorem cright_some (l : List Span) (ps : List Int) (hl : l.length ≤ 1000000) (hp : ps.length ≤ 1000000) (hf : ∀ s ∈ l, fitS s) : clamp_right.f l ps = some (decide (ps.length = l.length ∧ rightB ps = true ∧ mayA l = true)) := by
 unfold clamp_right.f
 by_cases c1 : (l.length : Int) = (ps.length : Int)
 ·rw [if_pos c1]
  have e1 : parent_Right.f ps = some (rightB ps) := by unfold parent_Right.f; rw [if_pos hp]
  rw [e1, Option.bind_some]
  have e2 : clamp_right_1.f l = some (l.any fun s => !mayS s) := by unfold clamp_right_1.f; rw [if_pos ⟨by omega, hf⟩]
  by_cases c2 : rightB ps = true
  ·rw [if_pos c2, e2, Option.bind_some, not_any]
   congr 1
   have c1' : ps.length = l.length := by omega
   rw [Bool.eq_iff_iff, decide_eq_true_eq]
   exact ⟨fun h => ⟨c1', c2, h⟩, fun h => h.2.2⟩
  ·rw [if_neg c2]
   congr 1
   rw [eq_comm, decide_eq_false_iff_not]
   exact fun h => c2 h.2.1
 ·rw [if_neg c1]
  congr 1
  rw [eq_comm, decide_eq_false_iff_not]
  exact fun h => c1 (by omega)
theorem clamp_ev (l : List Span) (ps : List Int) (hl : l.length ≤ 1000000) (hp : ps.length ≤ 1000000) (hf : ∀ s ∈ l, fitS s) : Ev (fun k => clamp_Starts.f k l ps) (clampB l ps) := by
 unfold clamp_Starts.f clampB
 refine Ev.bind (a := decide (ps.length = l.length ∧ rightB ps = true ∧ mayA l = true)) (Ev.const (cright_some l ps hl hp hf)) ?_
 by_cases c : ps.length = l.length ∧ rightB ps = true ∧ mayA l = true
 rotate_left
 ·rw [if_neg c]
  exact Ev.neg (by simpa using c) (Ev.now _)
 rw [if_pos c]
 refine Ev.pos (decide_eq_true c) (Ev.pos (by omega) (Ev.pos (by omega) (Ev.bind (a := rowL ps) (Ev.const (by unfold forest_Row.f; rw [if_pos hp])) ?_)))
 obtain ⟨c1, c2, c3⟩ := c
 have hrl := rowL_len c2
 have hin : ∀ it ∈ rowL ps, 0 ≤ it.f0 ∧ it.f0 < l.length ∧ it.f2 < l.length := by
  intro it hit
  unfold rowL at hit
  rw [if_pos c2] at hit
  have h := row_in _ _ _ it hit
  have h2 := inR_rd (rightB_in c2) h.1 h.2.1
  rw [h.2.2]
  omega
 have key : ∀ (d i : Nat) (out : List Int), (rowL ps).length - i = d → i ≤ (rowL ps).length → out.length = l.length → Ev (fun k => clamp_Starts.l0 k l out (rowL ps) ((rowL ps).length : Int) (i : Int)) (((rowL ps).drop i).foldl (clampStep l) out, true) := by
  intro d
  induction d with
  | zero =>
   intro i out hd hi ho
   refine Ev.succ ?_
   simp only [clamp_Starts.l0]
   refine Ev.neg (by omega) (Ev.cast (Ev.now _) ?_)
   rw [List.drop_of_length_le (by omega)]; rfl
  | succ d ih =>
   intro i out hd hi ho
   have hil : i < (rowL ps).length := by omega
   have h2 := hin _ (rdI_mem (rowL ps) i hil)
   have h := ih (i + 1) (clampStep l out (rdI (rowL ps) (i : Int))) (by omega) (by omega) (by rw [clampStep_len]; exact ho)
   rw [List.drop_eq_getElem_cons hil, List.foldl_cons, ← rdI_nat _ i hil]
   refine Ev.succ ?_
   simp only [clamp_Starts.l0]
   refine Ev.pos (by omega) (Ev.pos (by omega) (Ev.pos (by omega) (Ev.pos h2.1 (Ev.pos h2.2.1 (Ev.pos (by rw [ho]; exact h2.2.1) (Ev.bind (Ev.now _) ?_))))))
   rw [wrap_id (by omega) (by omega)]
   by_cases c : (rdI (rowL ps) (i : Int)).f2 ≥ 0
   ·have e : clampStep l out (rdI (rowL ps) (i : Int)) = (out.set (rdI (rowL ps) (i : Int)).f0.toNat (rd_T36 l (rdI (rowL ps) (i : Int)).f0).f6).set (rdI (rowL ps) (i : Int)).f0.toNat (clampS (rd_T36 l (rdI (rowL ps) (i : Int)).f0) (rd_T36 l (rdI (rowL ps) (i : Int)).f2) (rd (out.set (rdI (rowL ps) (i : Int)).f0.toNat (rd_T36 l (rdI (rowL ps) (i : Int)).f0).f6) (rdI (rowL ps) (i : Int)).f2)) := by
     unfold clampStep; simp only []; exact if_pos c
    rw [e] at h
    rw [e]
    refine Ev.pos c (Ev.pos c (Ev.pos h2.2.2 (Ev.pos (by rw [ho]; exact h2.2.2) (Ev.bind (Ev.const ?_) h))))
    unfold clamp_start.f clampS
    split
    ·rfl
    ·unfold clamp_between_int64.f; rfl
   ·have e : clampStep l out (rdI (rowL ps) (i : Int)) = out.set (rdI (rowL ps) (i : Int)).f0.toNat (rd_T36 l (rdI (rowL ps) (i : Int)).f0).f6 := by
     unfold clampStep; simp only []; exact if_neg c
    rw [e] at h
    rw [e]
    exact Ev.neg c h
 exact key (rowL ps).length 0 _ (by omega) (by omega) (by simp)
abbrev Ans := Int × List Span × List Int × List ByteArray × List Int × List Edge
def placesL (row : List Item) : Nat → List Int
 | 0 => List.replicate row.length 0
 | k + 1 => (placesL row k).set (rdI row (k : Int)).f0.toNat (k : Int)
theorem placesL_len (row : List Item) : ∀ k, (placesL row k).length = row.length
 | 0 => by simp [placesL]
 | k + 1 => by simp [placesL, placesL_len row k]
def byPlace (pl : List Int) (e : Edge) : Edge := ⟨e.f0, e.f1, e.f2, ⟨rd pl e.f3.f0, rd pl e.f3.f1⟩, e.f4⟩
def halfL (pl : List Int) (ch : List Edge) (i : Nat) : List Edge := (ch.take i).map (byPlace pl) ++ ch.drop i
theorem halfL_len (pl : List Int) (ch : List Edge) (i : Nat) : (halfL pl ch i).length = ch.length := by
 simp only [halfL, List.length_append, List.length_map, List.length_take, List.length_drop]; omega
theorem halfL_rd (pl : List Int) (ch : List Edge) (i : Nat) (h : i < ch.length) : rdE (halfL pl ch i) (i : Int) = ch[i] := by
 rw [rdE_get _ i (by rw [halfL_len]; exact h)]
 have h1 : ((ch.take i).map (byPlace pl)).length = i := by simp; omega
 simp only [halfL]
 rw [List.getElem_append_right (by omega)]
 simp only [h1, Nat.sub_self, List.getElem_drop, Nat.add_zero]
theorem halfL_set (pl : List Int) (ch : List Edge) (i : Nat) (h : i < ch.length) : (halfL pl ch i).set i (byPlace pl ch[i]) = halfL pl ch (i + 1) := by
 have h1 : ((ch.take i).map (byPlace pl)).length = i := by simp; omega
 simp only [halfL]
 rw [List.set_append_right _ _ (by omega), h1, Nat.sub_self, List.drop_eq_getElem_cons h, List.set_cons_zero, take_map_succ _ ch i h, List.append_assoc]
 rfl
theorem chain_ev (a : List Span) (b : List ByteArray) (c : List Int) (row : List Item) (e : List Edge) (ch : List Edge) (hb : ch.length ≤ 1000000) (hr : inRow row a.length) (hrl : row.length = a.length) (hf : ∀ s ∈ a, fitS s) (hal : a.length ≤ 1000000) (hcl : c.length ≤ 1000000) (hcs : (clampB a c).1.length = a.length)
  (hch : ∀ x ∈ ch, 0 ≤ x.f3.f0 ∧ x.f3.f0 < a.length ∧ 0 ≤ x.f3.f1 ∧ x.f3.f1 < a.length) (pl : List Int) (hpl : pl.length = a.length) :
  Ev (fun k => verdict_known_clamped.l1 k pl ch (ch.length : Int) 0 a b c row e) ((2, rowedS row a, rowedI row (clampB a c).1, b, [], ch.map (byPlace pl)) : Ans) := by
 have key : ∀ (d i : Nat), ch.length - i = d → i ≤ ch.length → Ev (fun k => verdict_known_clamped.l1 k pl (halfL pl ch i) (ch.length : Int) (i : Int) a b c row e) ((2, rowedS row a, rowedI row (clampB a c).1, b, [], ch.map (byPlace pl)) : Ans) := by
  intro d
  induction d with
  | zero =>
   intro i hd hi
   refine Ev.succ ?_
   simp only [verdict_known_clamped.l1]
   refine Ev.neg (by omega) (Ev.bind (clamp_ev a c hal hcl hf) (Ev.bind (rowedS_ev a b c row e a hr) (Ev.bind (rowedI_ev a b c row e (clampB a c).1 (by rw [hcs]; exact hr)) (Ev.cast (Ev.now _) ?_))))
   have h1 : halfL pl ch i = ch.map (byPlace pl) := by
    unfold halfL; rw [List.take_of_length_le (by omega), List.drop_of_length_le (by omega), List.append_nil]
   rw [h1]
  | succ d ih =>
   intro i hd hi
   have hil : i < ch.length := by omega
   have h := ih (i + 1) (by omega) (by omega)
   have hx := hch _ (List.getElem_mem hil)
   have hrd : rd_T72 (halfL pl ch i) (i : Int) = ch[i] := halfL_rd pl ch i hil
   have hset := halfL_set pl ch i hil
   refine Ev.succ ?_
   simp only [verdict_known_clamped.l1, hrd, halfL_len]
   refine Ev.pos (by omega) (Ev.pos (by omega) (Ev.pos (by omega) (Ev.pos hx.1 (Ev.pos (by omega) (Ev.pos hx.2.2.1 (Ev.pos (by omega) ?_))))))
   rw [wrap_id (by omega) (by omega), Int.toNat_natCast]
   rw [← hset] at h
   exact h
 have h := key ch.length 0 (by omega) (by omega)
 have h0 : halfL pl ch 0 = ch := by simp [halfL]
 rw [h0] at h
 exact h
theorem clamped_ev (a : List Span) (b : List ByteArray) (c : List Int) (row : List Item) (e : List Edge) (he : e.length ≤ 1000000000) (hr : inRow row a.length) (hrl : row.length = a.length) (hf : ∀ s ∈ a, fitS s) (hal : a.length ≤ 1000000) (hcl : c.length ≤ 1000000) (hcs : (clampB a c).1.length = a.length)
  (hch : ∀ x ∈ e, 0 ≤ x.f3.f0 ∧ x.f3.f0 < a.length ∧ 0 ≤ x.f3.f1 ∧ x.f3.f1 < a.length) :
  Ev (fun k => verdict_known_clamped.f k a b c row e) ((2, rowedS row a, rowedI row (clampB a c).1, b, [], (loopL (b.length : Int) e).map (byPlace (placesL row row.length))) : Ans) := by
 unfold verdict_known_clamped.f
 refine Ev.pos (by omega) (Ev.pos (by omega) ?_)
 have hchl := loop_len (b.length : Int) e
 have key : ∀ (d i : Nat), row.length - i = d → i ≤ row.length → Ev (fun k => verdict_known_clamped.l0 k (placesL row i) row (row.length : Int) (i : Int) a b c row e) ((2, rowedS row a, rowedI row (clampB a c).1, b, [], (loopL (b.length : Int) e).map (byPlace (placesL row row.length))) : Ans) := by
  intro d
  induction d with
  | zero =>
   intro i hd hi
   have ei : i = row.length := by omega
   subst ei
   refine Ev.succ ?_
   simp only [verdict_known_clamped.l0]
   exact Ev.neg (by omega) (Ev.bind (loop_ev _ e he) (chain_ev a b c row e _ (by omega) hr hrl hf hal hcl hcs (fun x hx => hch x (loop_mem hx)) _ (by rw [placesL_len]; exact hrl)))
  | succ d ih =>
   intro i hd hi
   have hil : i < row.length := by omega
   have h := ih (i + 1) (by omega) (by omega)
   have hx := hr.2 _ (rdI_mem row i hil)
   have hl := placesL_len row i
   refine Ev.succ ?_
   simp only [verdict_known_clamped.l0]
   refine Ev.pos (by omega) (Ev.pos (by omega) (Ev.pos (by omega) (Ev.pos hx.1 (Ev.pos (by rw [hl, hrl]; exact hx.2) ?_))))
   rw [wrap_id (by omega) (by omega)]
   exact h
 have h := key row.length 0 (by omega) (by omega)
 rw [show ((row.length : Int)).toNat = row.length by omega]
 exact h
theorem adjusted_ev (a : List Span) (b : List ByteArray) (c : List Int) (row : List Item) (e : List Edge) (he : e.length ≤ 1000000000) (hr : inRow row a.length) (hf : ∀ s ∈ a, fitS s) (hal : a.length ≤ 1000000) (ho : (solveB (b.length : Int) e).1.length ≤ 1000000) (hst : (startsB a (solveB (b.length : Int) e).1).1.length = a.length) :
  Ev (fun k => verdict_known_adjusted.f k a b c row e) ((1, rowedS row a, rowedI row (startsB a (solveB (b.length : Int) e).1).1, b, (solveB (b.length : Int) e).1, []) : Ans) := by
 unfold verdict_known_adjusted.f
 refine Ev.bind (solve_ev _ e he) (Ev.bind (a := startsB a (solveB (b.length : Int) e).1) (Ev.const ?_) (Ev.bind (rowedS_ev a b c row e a hr) (Ev.bind (rowedI_ev a b c row e _ (by rw [hst]; exact hr)) (Ev.now _))))
 unfold shift_Starts.f
 rw [if_pos ⟨hf, by omega, by omega⟩]
def edgesR (r : List Span) : List Edge := edgesB mayS r (numsL r) (pairsB r (parL r))
def rowR (r : List Span) : List Item := rowL (parL r)
def solveR (r : List Span) : List Int × Bool := solveB ((hostsB r).length : Int) (edgesR r)
def ansL (r : List Span) : Ans :=
 if r.length = 0 then (0, [], [], [], [], []) else if greatL r = true then (3, r, r.map (·.f6), [], [], []) else
 if (solveR r).2 = true then (1, rowedS (rowR r) r, rowedI (rowR r) (startsL r (solveR r).1), hostsB r, (solveR r).1, [])
 else (2, rowedS (rowR r) r, rowedI (rowR r) (clampF r (rowR r)), hostsB r, [], (loopL ((hostsB r).length : Int) (edgesR r)).map (byPlace (placesL (rowR r) (rowR r).length)))
theorem large_ev (r : List Span) (hl : r.length ≤ 1000000) : Ev (fun k => verdict_Of.l0 k r [] r (r.length : Int) 0) ((3, r, r.map (·.f6), [], [], []) : Ans) := by
 have key : ∀ (d i : Nat), r.length - i = d → i ≤ r.length → Ev (fun k => verdict_Of.l0 k r ((r.take i).map (·.f6)) r (r.length : Int) (i : Int)) ((3, r, r.map (·.f6), [], [], []) : Ans) := by
  intro d
  induction d with
  | zero =>
   intro i hd hi
   refine Ev.succ ?_
   simp only [verdict_Of.l0]
   refine Ev.neg (by omega) (Ev.cast (Ev.now _) ?_)
   rw [List.take_of_length_le (by omega)]
  | succ d ih =>
   intro i hd hi
   have hil : i < r.length := by omega
   have h := ih (i + 1) (by omega) (by omega)
   have hlt : ((r.take i).map (·.f6)).length = i := by simp; omega
   have hrd : rd_T36 r (i : Int) = r[i] := rdS_nat r i hil
   rw [take_map_succ _ r i hil] at h
   refine Ev.succ ?_
   simp only [verdict_Of.l0, hlt, hrd]
   refine Ev.pos (by omega) (Ev.pos (by omega) (Ev.pos (by omega) (Ev.pos (by omega) ?_)))
   rw [wrap_id (by omega) (by omega)]
   exact h
 have h := key r.length 0 (by omega) (by omega)
 simpa using h
theorem fit_wf {s : Span} (h : wf36 s) : fitR s := by
 refine ⟨⟨h.2.1, h.2.2.2.2.1, h.2.2.2.2.2.1⟩, ?_⟩
 have := h.2.2.2.1
 simp [Lit.wf, IntKind.min, IntKind.max, IntKind.signed, IntKind.bits] at this
 exact this.1
theorem fitP_wf {s : Span} (h : wf36 s) : fitP s := ⟨h.2.1, h.2.2.1⟩
theorem rowR_in (r : List Span) (hl : r.length ≤ 1000000) : inRow (rowR r) r.length ∧ (rowR r).length = r.length := by
 have hR := parL_right r
 have h1 := rowL_len hR
 rw [parL_length] at h1
 refine ⟨⟨by unfold rowR; omega, fun it hit => ?_⟩, h1⟩
 unfold rowR rowL at hit
 rw [if_pos hR] at hit
 have h2 := row_in _ _ _ it hit
 rw [parL_length] at h2
 exact ⟨h2.1, h2.2.1⟩
theorem edgesR_in (r : List Span) : ∀ x ∈ edgesR r, 0 ≤ x.f3.f0 ∧ x.f3.f0 < r.length ∧ 0 ≤ x.f3.f1 ∧ x.f3.f1 < r.length := by
 intro x hx
 obtain ⟨p, hp, h⟩ := edges_from hx (fun p hp => pairsP_mem hp)
 have hm := pairsP_mem hp
 rcases h with h | h <;> (rw [h]; exact ⟨hm.1, hm.2.1, hm.2.2.1, hm.2.2.2.1⟩)
theorem edgesR_len (r : List Span) : (edgesR r).length ≤ 2 * r.length := by
 have h1 := edgesB_length mayS r (numsL r) (pairsB r (parL r))
 have h2 := pairsB_length r (parL r)
 unfold edgesR
 omega
theorem solveR_starts {r : List Span} (hm : mayA r = true) (h : (solveR r).2 = true) : startsB r (solveR r).1 = (startsL r (solveR r).1, true) ∧ (solveR r).1.length = (hostsB r).length := by
 have hs : solveB ((hostsB r).length : Int) (edgesR r) = ((solveR r).1, true) := by rw [← h]; rfl
 obtain ⟨n0, n32, hin, hsm, ho, ho2, hol, hwi, hed⟩ := solved_facts hs
 rw [Int.toNat_natCast] at hol hwi
 refine ⟨?_, hol⟩
 unfold startsB
 rw [if_pos ⟨hm, hol, any_beyond hol hwi⟩]
theorem of_ev (l : List Span) (t : Int) (hl : l.length ≤ 100000) (hw : ∀ x ∈ l, wf36 x) : Ev (fun k => verdict_Of.f k l t) (ansL (ofD l t)) := by
 have hc := ofD_counts l t
 have hrw : ∀ x ∈ ofD l t, wf36 x := fun x hx => hw x (hc.mem x hx).1
 have hrl := ofD_length l t
 have hm : mayA (ofD l t) = true := by
  unfold mayA
  rw [List.all_eq_true]
  intro x hx
  have h := (hc.mem x hx).2
  unfold okS at h
  rw [Bool.and_eq_true] at h
  exact h.2
 generalize hr : ofD l t = r at *
 have hf : ∀ s ∈ r, fitS s := fun s hs => (fit_wf (hrw s hs)).1
 unfold verdict_Of.f
 refine Ev.bind (a := r) (Ev.const (by unfold dedupe_Of.f; rw [if_pos ⟨by omega, fun x hx => (fit_wf (hw x hx)).1⟩, hr])) ?_
 unfold ansL
 by_cases c0 : r.length = 0
 ·rw [if_pos c0]
  exact Ev.pos (by omega) (Ev.now _)
 rw [if_neg c0]
 refine Ev.neg (by omega) (Ev.bind (a := greatL r) (Ev.const (by unfold hosts_Great.f; rw [if_pos ⟨by omega, hf⟩])) ?_)
 by_cases c1 : greatL r = true
 ·rw [if_pos c1]
  exact Ev.pos c1 (large_ev r (by omega))
 rw [if_neg c1]
 have hpl := parL_length r
 obtain ⟨hri, hrr⟩ := rowR_in r (by omega)
 have hel := edgesR_len r
 refine Ev.neg c1 (Ev.bind (a := (r, hostsB r, parL r, rowR r, edgesR r)) (Ev.const ?_) ?_)
 ·unfold verdict_know.f
  have e1 : dedupe_Hosts.f r = some (hostsB r) := by unfold dedupe_Hosts.f; rw [if_pos (by omega)]
  have e2 : parent_Of.f r = some (parL r) := by unfold parent_Of.f; rw [if_pos ⟨by omega, fun x hx => fitP_wf (hrw x hx)⟩]
  have e3 : forest_Row.f (parL r) = some (rowR r) := by unfold forest_Row.f; rw [if_pos (by omega)]; rfl
  have e4 : rpc_Of.f r (parL r) = some (pairsB r (parL r)) := by unfold rpc_Of.f; rw [if_pos ⟨by omega, hf, by omega⟩]
  have h2 := pairsB_length r (parL r)
  have e5 : bound_Of.f r (pairsB r (parL r)) = some (edgesR r) := by unfold bound_Of.f; rw [if_pos ⟨by omega, hf, by omega⟩]; rfl
  rw [e1, Option.bind_some, e2, Option.bind_some, e3, Option.bind_some, e4, Option.bind_some, e5, Option.bind_some]
 ·simp only []
  refine Ev.bind (solve_ev _ (edgesR r) (by omega)) ?_
  by_cases c2 : (solveR r).2 = true
  ·obtain ⟨hs, hol⟩ := solveR_starts hm c2
   have hhl := hostsB_length r
   have hsl : (startsL r (solveR r).1).length = r.length := by simp [startsL]
   rw [if_pos c2]
   refine Ev.pos c2 (Ev.bind (adjusted_ev r (hostsB r) (parL r) (rowR r) (edgesR r) (by omega) hri hf (by omega) ?_ ?_) (Ev.cast (Ev.now _) ?_))
   ·show (solveR r).1.length ≤ 1000000
    omega
   ·show (startsB r (solveR r).1).1.length = r.length
    rw [hs]; exact hsl
   ·show ((1, rowedS (rowR r) r, rowedI (rowR r) (startsB r (solveR r).1).1, hostsB r, (solveR r).1, []) : Ans) = _
    rw [hs]
  ·rw [if_neg c2]
   have hcb : clampB r (parL r) = (clampF r (rowR r), true) := by
    unfold clampB
    rw [if_pos ⟨hpl, parL_right r, hm⟩]; rfl
   refine Ev.neg c2 (Ev.bind (clamped_ev r (hostsB r) (parL r) (rowR r) (edgesR r) (by omega) hri hrr hf (by omega) (by omega) (by rw [hcb]; exact clampF_len _ _) (edgesR_in r)) (Ev.cast (Ev.now _) ?_))
   rw [hcb]
end Go.Proofs.YtgknjgionicncaaGreat.L
namespace Go.Proofs.YtgknjgionicncaaGreat.L
open Go.RowKit Go.Proofs.YtgknjgionicncaaGreat.Q Go.Proofs.YtgknjgionicncaaGreatW.PrintWords Go.Proofs.YtgknjgionicncaaGreatW.PrintLast Go.Proofs.YtgknjgionicncaaGreatW.PrintMore Go.Proofs.YtgknjgionicncaaGreatW.Lib
set_option linter.unusedVariables false
theorem great_ev (l : List Span) : ∃ b, Ev (fun k => merkhetlaw04_Great.f k l) b ∧ (b = false → l.length ≤ 60 ∧ ∀ x ∈ l, x.f4.size ≤ 100 ∧ x.f5.size ≤ 100) := by
 unfold merkhetlaw04_Great.f
 by_cases h : (l.length : Int) > 60
 ·exact ⟨true, Ev.pos h (Ev.now _), by simp⟩
 ·have key : ∀ (d i : Nat), l.length - i = d → i ≤ l.length → ∃ b, Ev (fun k => merkhetlaw04_Great.l0 k l (l.length : Int) (i : Int)) b ∧ (b = false → ∀ x ∈ l.drop i, x.f4.size ≤ 100 ∧ x.f5.size ≤ 100) := by
   intro d
   induction d with
   | zero =>
    intro i hd hi
    refine ⟨false, Ev.succ ?_, fun _ x hx => ?_⟩
    ·simp only [merkhetlaw04_Great.l0]
     exact Ev.neg (by omega) (Ev.now _)
    ·rw [List.drop_of_length_le (by omega)] at hx; cases hx
   | succ d ih =>
    intro i hd hi
    have hil : i < l.length := by omega
    obtain ⟨b, hb, hb2⟩ := ih (i + 1) (by omega) (by omega)
    by_cases h4 : ((l[i].f4.size : Nat) : Int) > 100
    ·refine ⟨true, Ev.succ ?_, by simp⟩
     simp only [merkhetlaw04_Great.l0, rdS_nat l i hil]
     exact Ev.pos (by omega) (Ev.pos (by omega) (Ev.pos (by omega) (Ev.pos h4 (Ev.now _))))
    ·by_cases h5 : ((l[i].f5.size : Nat) : Int) > 100
     ·refine ⟨true, Ev.succ ?_, by simp⟩
      simp only [merkhetlaw04_Great.l0, rdS_nat l i hil]
      exact Ev.pos (by omega) (Ev.pos (by omega) (Ev.pos (by omega) (Ev.neg h4 (Ev.pos h5 (Ev.now _)))))
     ·refine ⟨b, Ev.succ ?_, fun e x hx => ?_⟩
      ·simp only [merkhetlaw04_Great.l0, rdS_nat l i hil]
       refine Ev.pos (by omega) (Ev.pos (by omega) (Ev.pos (by omega) (Ev.neg h4 (Ev.neg h5 ?_))))
       rw [wrap_id (by omega) (by omega)]
       exact hb
      ·rw [List.drop_eq_getElem_cons hil] at hx
       rcases List.mem_cons.1 hx with rfl | hx
       ·omega
       ·exact hb2 e x hx
  obtain ⟨b, hb, hb2⟩ := key l.length 0 (by omega) (by omega)
  refine ⟨b, Ev.neg h hb, fun e => ⟨by omega, fun x hx => hb2 e x (by simpa using hx)⟩⟩
end Go.Proofs.YtgknjgionicncaaGreat.L
namespace Go.Proofs.YtgknjgionicncaaGreat.L
open Go.RowKit Go.Proofs.YtgknjgionicncaaGreat.Q Go.Proofs.YtgknjgionicncaaGreatW.PrintWords Go.Proofs.YtgknjgionicncaaGreatW.PrintLast Go.Proofs.YtgknjgionicncaaGreatW.PrintMore Go.Proofs.YtgknjgionicncaaGreatW.MapB Go.Proofs.YtgknjgionicncaaGreatW.Lib
set_option linter.unusedVariables false
theorem hostsB_fold' (l : List S36) : (l.map (·.f4)).foldl (insH cmpB) [] = hostsB l := by
 obtain ⟨h1, h2, _⟩ := foldH cmpB_is (l.map (·.f4)) [] List.Pairwise.nil
 refine h1.one cmpB_is (hostsB_rise l) fun x => ?_
 rw [h2, hostsB_mem, List.mem_map]
 simp
end Go.Proofs.YtgknjgionicncaaGreat.L
namespace Go.Proofs.YtgknjgionicncaaGreat.L
open Go.RowKit Go.Proofs.YtgknjgionicncaaGreat.Q Go.Proofs.YtgknjgionicncaaGreat.X Go.Proofs.YtgknjgionicncaaGreat.V Go.Proofs.YtgknjgionicncaaGreatW.PrintWords Go.Proofs.YtgknjgionicncaaGreatW.PrintLast Go.Proofs.YtgknjgionicncaaGreatW.PrintMore Go.Proofs.YtgknjgionicncaaGreatW.Lib
set_option linter.unusedVariables false
theorem ofD_of (l l' : List Span) (t : Int) (h : ∀ x, okS t x = true → (x ∈ l ↔ x ∈ l')) : ofD l t = ofD l' t := by
 have hc := ofD_counts l t
 have hc' : Counts cmpS (·.f1) (okS t) l' (ofD l t) := ⟨hc.ids, fun x hx => ⟨(h x (hc.mem x hx).2).1 (hc.mem x hx).1, (hc.mem x hx).2⟩, fun y hy ho => hc.best y ((h y ho).2 hy) ho⟩
 exact hc'.one cmpS_is (ofD_counts l' t) (ofD_sorted l t) (ofD_sorted l' t) (fun x => Iff.rfl)
theorem same20_self (a : Ans) (h1 : a.2.1.length ≤ 1000000) (h2 : a.2.2.1.length ≤ 1000000) (h3 : a.2.2.2.1.length ≤ 1000000) (h4 : a.2.2.2.2.1.length ≤ 1000000) (h5 : a.2.2.2.2.2.length ≤ 1000000) :
  Ev (fun k => merkhetref20_Same.f k a.1 a.2.1 a.2.2.1 a.2.2.2.1 a.2.2.2.2.1 a.2.2.2.2.2 a.1 a.2.1 a.2.2.1 a.2.2.2.1 a.2.2.2.2.1 a.2.2.2.2.2) true := by
 unfold merkhetref20_Same.f
 have e1 : Ev (fun k => merkhetref01_Same.f k a.2.1 a.2.1) true := by
  have := same_ev a.2.1 a.2.1 (by unfold maxLen; omega)
  rwa [sameB_self] at this
 have e3 : Ev (fun k => merkhetref09_Same.f k a.2.2.2.1 a.2.2.2.1) true := by
  obtain ⟨r, hr, hr2⟩ := sameT_ev a.2.2.2.1 a.2.2.2.1 (by omega)
  have := hr2.2 rfl
  subst this
  exact hr
 exact Ev.pos rfl (Ev.bind e1 (Ev.pos rfl (Ev.bind (same15_self _ (by omega)) (Ev.pos rfl (Ev.bind e3 (Ev.pos rfl (Ev.bind (same15_self _ (by omega)) (Ev.pos rfl (Ev.bind (sameE_self _ (by omega)) (Ev.now _))))))))))
theorem ansL_len (r : List Span) (hl : r.length ≤ 100000) : (ansL r).2.1.length ≤ 1000000 ∧ (ansL r).2.2.1.length ≤ 1000000 ∧ (ansL r).2.2.2.1.length ≤ 1000000 ∧ (ansL r).2.2.2.2.1.length ≤ 1000000 ∧ (ansL r).2.2.2.2.2.length ≤ 1000000 := by
 have hrow := (rowR_in r (by omega)).2
 have hh := hostsB_length r
 unfold ansL
 split
 ·simp
 ·split
  ·simp only [List.length_map, List.length_nil]; omega
  ·split
   ·rename_i c
    have h0 : (solveR r).1.length ≤ 32 := by
     have hs : solveB ((hostsB r).length : Int) (edgesR r) = ((solveR r).1, true) := by rw [← c]; rfl
     obtain ⟨n0, n32, hin, hsm, ho, ho2, hol, hwi, hed⟩ := solved_facts hs
     omega
    simp only [rowedS, rowedI, List.length_map, List.length_nil]; omega
   ·have hc := loop_len ((hostsB r).length : Int) (edgesR r)
    simp only [rowedS, rowedI, List.length_map, List.length_nil]; omega
def exT : Span := ⟨1, 1, 0, 0, ⟨#[97]⟩, ⟨#[98]⟩, 3, 0⟩
theorem exT_of : ofD [exT] 1 = [exT] := by
 unfold ofD
 rw [sortL_eq]
 kernel_rfl
theorem exT_ans : (ansL [exT]).1 = 1 ∧ (ansL [exT]).2.2.1 = [3] ∧ (ansL [exT]).2.2.2.2.1 = [0] := by
 have hh : hostsB [exT] = [⟨#[97]⟩] := by
  rw [← hostsB_fold']
  kernel_rfl
 have hn : numsL [exT] = [0] := by
  unfold numsL
  rw [hh]
  kernel_rfl
 have hp : parL [exT] = [-1] := by kernel_rfl
 have he : edgesR [exT] = [] := by
  unfold edgesR
  rw [hp]
  have h1 : pairsB [exT] [-1] = [] := by kernel_rfl
  rw [h1]; rfl
 have hs : solveR [exT] = ([0], true) := by
  unfold solveR
  rw [hh, he]
  kernel_rfl
 have hr : rowR [exT] = [⟨0, 0, -1⟩] := by
  unfold rowR
  rw [hp]
  kernel_rfl
 have hst : startsL [exT] [0] = [3] := by
  unfold startsL
  rw [hn]
  kernel_rfl
 have hg : ¬ greatL [exT] = true := by
  unfold greatL
  rw [hh]
  decide
 unfold ansL
 rw [if_neg (by decide), if_neg hg, if_pos (by rw [hs]), hs, hr, hst]
 exact ⟨rfl, rfl, rfl⟩
theorem exN_ans (t : Int) : (ansL (ofD [] t)).1 = 0 := by
 have h := ofD_length [] t
 unfold ansL
 rw [if_pos (by simp at h; simp [h])]
theorem exT_wf : wf36 exT := ⟨by decide, by decide, by decide, by decide, by decide, by decide, by decide, by decide⟩
end Go.Proofs.YtgknjgionicncaaGreat.L
namespace Go.Proofs.YtgknjgionicncaaGreat.Pure
set_option linter.unusedVariables false
open Go.RowKit Go.Proofs.YtgknjgionicncaaGreat.Q Go.Proofs.YtgknjgionicncaaGreat.X Go.Proofs.YtgknjgionicncaaGreat.V Go.Proofs.YtgknjgionicncaaGreat.E Go.Proofs.YtgknjgionicncaaGreatW.PrintWords Go.Proofs.YtgknjgionicncaaGreatW.PrintLast Go.Proofs.YtgknjgionicncaaGreatW.PrintMore Go.Proofs.YtgknjgionicncaaGreatW.Lib Go.Proofs.YtgknjgionicncaaGreat.L
theorem fixed20 : Ev (fun k => merkhetlaw20_fixed.f k) true := by
 unfold merkhetlaw20_fixed.f
 have h1 := of_ev [exT] 1 (by decide) (by intro x hx; rw [List.mem_singleton.1 hx]; exact exT_wf)
 have h2 := of_ev [] 1 (by decide) (by intro x hx; cases hx)
 rw [exT_of] at h1
 obtain ⟨a1, a2, a3⟩ := exT_ans
 refine Ev.bind h1 (Ev.bind h2 (Ev.pos (exN_ans 1) (Ev.pos a1 ?_)))
 rw [a2, a3]
 exact Ev.pos rfl (Ev.pos (by decide) (Ev.pos rfl (Ev.pos rfl (Ev.pos (by decide) (Ev.now _)))))
theorem swap_mem (l : List Span) (a b : Nat) (ha : a < l.length) (hb : b < l.length) (x : Span) : x ∈ (l.set a (l.getD b z36)).set b (l.getD a z36) ↔ x ∈ l := by
 have h := List.set_set_perm ha hb
 have ea : l.getD a z36 = l[a] := by simp [List.getD, ha]
 have eb : l.getD b z36 = l[b] := by simp [List.getD, hb]
 rw [ea, eb]
 exact h.mem_iff
theorem rd_at (l : List Span) (i : Int) : rd_T36 l i = l.getD i.toNat z36 := rfl
theorem VerdictSet (l0 : List (S36)) (l1 : List (Int)) (l2 : List (S36)) (w0 : (l0.length ≤ maxLen ∧ l0.length * 80 ≤ reachBytes ∧ ∀ x ∈ l0, wf36 x)) (w1 : (l1.length ≤ maxLen ∧ l1.length * 1 ≤ reachBytes ∧ ∀ x ∈ l1, (Lit.int .u8 x).wf = true)) (w2 : (l2.length ≤ maxLen ∧ l2.length * 80 ≤ reachBytes ∧ ∀ x ∈ l2, wf36 x)) : ∃ k, merkhetlaw20_VerdictSet.f k l0 l1 l2 = some true := by
 obtain ⟨_, _, hw⟩ := w0
 obtain ⟨_, _, hu⟩ := w1
 obtain ⟨_, _, hw2⟩ := w2
 refine Ev.rounds (g := fun k => merkhetlaw20_VerdictSet.f k l0 l1 l2) ?_
 unfold merkhetlaw20_VerdictSet.f
 obtain ⟨b, hb, hb2⟩ := great_ev l0
 have skip : Ev (fun k => merkhetlaw20_VerdictSet.j0 k l0 l1 l2 true) true := by
  refine Ev.succ ?_
  simp only [merkhetlaw20_VerdictSet.j0]
  exact Ev.pos trivial (Ev.bind fixed20 (Ev.now _))
 refine Ev.bind hb (Ev.ite (fun h => skip) (fun h => ?_))
 obtain ⟨h60, _⟩ := hb2 (by simpa using h)
 obtain ⟨b', hb', hb2'⟩ := great_ev l2
 refine Ev.bind hb' (Ev.ite (fun h => skip) (fun h' => ?_))
 obtain ⟨h60', _⟩ := hb2' (by simpa using h')
 by_cases h100 : (l1.length : Int) > 60
 ·rw [decide_eq_true h100]; exact skip
 rw [decide_eq_false h100]
 have hok : ∀ x : Span, okS 1 x = true → x.f0 = 1 := by
  intro x h
  unfold okS at h
  rw [Bool.and_eq_true, decide_eq_true_eq] at h
  exact h.1
 have tail : ∀ (x7 : List Span), x7.length ≤ 1000 → (∀ x ∈ x7, wf36 x) → (∀ x : Span, x.f0 = 1 → (x ∈ l0 ↔ x ∈ x7)) → Ev (fun k => (merkhetlaw20_fixed.f k).bind fun t165 => (if t165 = true then ((verdict_Of.f k l0 1).bind fun bt166 => ((verdict_Of.f k x7 1).bind fun bt182 => ((merkhetref20_Same.f k bt166.1 bt166.2.1 bt166.2.2.1 bt166.2.2.2.1 bt166.2.2.2.2.1 bt166.2.2.2.2.2 bt182.1 bt182.2.1 bt182.2.2.1 bt182.2.2.2.1 bt182.2.2.2.2.1 bt182.2.2.2.2.2).bind fun t198 => (some t198)))) else (some false))) true := by
  intro x7 hx hwx hm
  have e1 := of_ev l0 1 (by omega) hw
  have e2 := of_ev x7 1 (by omega) hwx
  rw [← ofD_of l0 x7 1 (fun x ho => hm x (hok x ho))] at e2
  have hl := ofD_length l0 1
  obtain ⟨g1, g2, g3, g4, g5⟩ := ansL_len (ofD l0 1) (by omega)
  exact Ev.bind fixed20 (Ev.pos rfl (Ev.bind e1 (Ev.bind e2 (Ev.bind (same20_self _ g1 g2 g3 g4 g5) (Ev.now _)))))
 have loop1 : ∀ (d i : Nat) (x7 : List Span), l2.length - i = d → i ≤ l2.length → x7.length ≤ 200 + i → (∀ x ∈ x7, wf36 x) → (∀ x : Span, x.f0 = 1 → (x ∈ l0 ↔ x ∈ x7)) → Ev (fun k => merkhetlaw20_VerdictSet.l1 k l0 x7 l2 (l2.length : Int) (i : Int)) true := by
  intro d
  induction d with
  | zero =>
   intro i x7 hd hi hx hwx hm
   refine Ev.succ ?_
   simp only [merkhetlaw20_VerdictSet.l1]
   exact Ev.neg (by omega) (tail x7 (by omega) hwx hm)
  | succ d ih =>
   intro i x7 hd hi hx hwx hm
   have hil : i < l2.length := by omega
   have hr : rd_T36 l2 (i : Int) = l2[i] := rdS_nat l2 i hil
   have hw3 := hw2 _ (List.getElem_mem hil)
   have go : ∀ s : Span, s.f0 ≠ 1 → wf36 s → Ev (fun k => merkhetlaw20_VerdictSet.l1 k l0 (x7 ++ [s]) l2 (l2.length : Int) ((i + 1 : Nat) : Int)) true := by
    intro s hs hws
    refine ih (i + 1) _ (by omega) (by omega) (by simp; omega) ?_ ?_
    ·intro x hx
     rcases List.mem_append.1 hx with h | h
     ·exact hwx x h
     ·rw [List.mem_singleton.1 h]; exact hws
    ·intro x h1
     rw [List.mem_append, List.mem_singleton, hm x h1]
     exact ⟨.inl, fun h => h.elim id (fun e => absurd h1 (by rw [e]; exact hs))⟩
   refine Ev.succ ?_
   simp only [merkhetlaw20_VerdictSet.l1, hr]
   refine Ev.pos (by omega) (Ev.pos (by omega) (Ev.pos (by omega) (Ev.ite (fun c => Ev.pos (by omega) ?_) (fun c => Ev.pos (by omega) ?_))))
   ·rw [wrap_id (by omega) (by omega)]
    exact go ⟨2, l2[i].f1, l2[i].f2, l2[i].f3, l2[i].f4, l2[i].f5, l2[i].f6, l2[i].f7⟩ (show (2 : Int) ≠ 1 by decide) ⟨(show (Lit.int .u64 2).wf = true by decide), hw3.2⟩
   ·rw [wrap_id (by omega) (by omega)]
    exact go l2[i] c hw3
 have tail2 : ∀ (x7 : List Span), x7.length ≤ 200 → (∀ x ∈ x7, wf36 x) → (∀ x : Span, x ∈ x7 ↔ x ∈ l0) → Ev (fun k => merkhetlaw20_VerdictSet.j2 k l0 l2 x7) true := by
  intro x7 hx hwx hm
  refine Ev.succ ?_
  simp only [merkhetlaw20_VerdictSet.j2]
  exact loop1 l2.length 0 x7 (by omega) (by omega) (by omega) hwx (fun x _ => (hm x).symm)
 have loop : ∀ (d i : Nat) (x7 : List Span), l1.length - i = d → i ≤ l1.length → x7.length = l0.length + i → (∀ x, x ∈ x7 ↔ x ∈ l0) → Ev (fun k => merkhetlaw20_VerdictSet.l0 k l0 l2 x7 l1 (l1.length : Int) (i : Int)) true := by
  intro d
  induction d with
  | zero =>
   intro i x7 hd hi hx hm
   refine Ev.succ ?_
   simp only [merkhetlaw20_VerdictSet.l0]
   exact Ev.neg (by omega) (tail2 x7 (by omega) (fun x h => hw x ((hm x).1 h)) hm)
  | succ d ih =>
   intro i x7 hd hi hx hm
   have hil : i < l1.length := by omega
   refine Ev.succ ?_
   simp only [merkhetlaw20_VerdictSet.l0]
   refine Ev.pos (by omega) (Ev.pos (by omega) (Ev.pos (by omega) ?_))
   by_cases h0 : (l0.length : Int) = 0
   ·exact Ev.pos h0 (tail2 x7 (by omega) (fun x h => hw x ((hm x).1 h)) hm)
   refine Ev.neg h0 ?_
   have hr : rd l1 (i : Int) = l1[i] := by simp [rd, List.getD, hil]
   have hwf := wf_u8 (hu l1[i] (List.getElem_mem hil))
   rw [hr, wrap_id (by omega) (by omega)]
   obtain ⟨q, hq⟩ : ∃ q : Nat, l1[i] = (q : Int) := ⟨l1[i].toNat, by omega⟩
   rw [hq, ← Int.ofNat_tmod, ← Int.ofNat_tmod]
   have hpos : 0 < l0.length := by omega
   have hb1 : q % l0.length < l0.length := Nat.mod_lt _ hpos
   have ha1 : i % l0.length < l0.length := Nat.mod_lt _ hpos
   have hmem : rd_T36 l0 ((q % l0.length : Nat) : Int) ∈ l0 := by
    have : rd_T36 l0 ((q % l0.length : Nat) : Int) = l0[q % l0.length] := by
     rw [rd_at, Int.toNat_natCast]; simp [List.getD, hb1]
    rw [this]; exact List.getElem_mem _
   have hsw : ∀ x, x ∈ (x7.set (i % l0.length) (rd_T36 x7 ((q % l0.length : Nat) : Int))).set (q % l0.length) (rd_T36 x7 ((i % l0.length : Nat) : Int)) ↔ x ∈ l0 := by
    intro x
    rw [rd_at, rd_at, Int.toNat_natCast, Int.toNat_natCast, swap_mem x7 _ _ (by omega) (by omega), hm]
   refine Ev.pos (by omega) (Ev.pos (by omega) (Ev.pos (by omega) (Ev.pos (by omega) ?_)))
   rw [Int.toNat_natCast, Int.toNat_natCast]
   refine Ev.bind (Ev.now _) (Ev.pos (by omega) (Ev.pos (by rw [List.length_set, List.length_set]; omega) ?_))
   rw [wrap_id (by omega) (by omega)]
   refine ih (i + 1) _ (by omega) (by omega) (by simp; omega) ?_
   intro x
   rw [List.mem_append, List.mem_singleton]
   constructor
   ·rintro (h | h)
    ·exact (hsw x).1 h
    ·rw [h]; exact hmem
   ·exact fun h => .inl ((hsw x).2 h)
 refine Ev.succ ?_
 simp only [merkhetlaw20_VerdictSet.j0]
 refine Ev.neg (by simp) (Ev.bind (Ev.now _) (Ev.pos (by simp; omega) ?_))
 exact loop l1.length 0 l0 (by omega) (by omega) (by simp) (fun x => Iff.rfl)
end Go.Proofs.YtgknjgionicncaaGreat.Pure
