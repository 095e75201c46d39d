/- The places of each host's spans, and the map that holds them, as it is read: plain. -/
import Derived.Test.YtkpmaenhkjfncaaNumG
import Derived.Maps.OwnRows
namespace Go.Proofs.Ytkpmaenhkjfncaa.L
open Go.RowKit Go.Proofs.Ytkpmaenhkjfncaa.Q Go.Proofs.YtkpmaenhkjfncaaW.PrintWords Go.Maps Go.ChangeShapes
set_option linter.unusedVariables false

/-- The places of a host among the first x spans. -/
def gAt (l : List S27) (x : Nat) (h : ByteArray) : List Int := ((List.range x).filter (fun i => decide ((l.getD i z27).f4 = h))).map (fun i : Nat => (i : Int))
theorem filter_one {α : Type} (p : α → Bool) (x : α) : [x].filter p = if p x = true then [x] else [] := by
  by_cases h : p x = true
  · simp [h]
  · simp [h]
theorem gAt_succ (l : List S27) (x : Nat) (h : ByteArray) : gAt l (x + 1) h = if (l.getD x z27).f4 = h then gAt l x h ++ [(x : Int)] else gAt l x h := by
  unfold gAt
  rw [List.range_succ, List.filter_append, List.map_append, filter_one]
  by_cases e : (l.getD x z27).f4 = h
  · rw [if_pos e, if_pos (decide_eq_true e)]; rfl
  · rw [if_neg e, if_neg (by rw [decide_eq_true_eq]; exact e), List.map_nil, List.append_nil]
theorem gAt_length (l : List S27) (x : Nat) (h : ByteArray) : (gAt l x h).length ≤ x := by
  unfold gAt
  rw [List.length_map]
  exact Nat.le_trans (List.length_filter_le _ _) (by simp)
theorem gAt_mem (l : List S27) (x : Nat) (h : ByteArray) (z : Int) : z ∈ gAt l x h ↔ ∃ i, i < x ∧ (l.getD i z27).f4 = h ∧ (i : Int) = z := by
  unfold gAt
  simp only [List.mem_map, List.mem_filter, List.mem_range, decide_eq_true_eq, and_assoc]
/-- What a list of places reads as in the map. -/
def gDat (zs : List Int) : DataW Unit := if zs = [] then .nil else .slice (lits .i64 zs) []
/-- The map behind k rounds. -/
def mapG (l : List S27) : Nat → DataW Unit
  | 0 => .map []
  | k + 1 => (mapG l k).put (key (l.getD k z27).f4) (.slice (lits .i64 (gAt l (k + 1) (l.getD k z27).f4)) [])
theorem mapG_tidy (l : List S27) : ∀ k, Tidy (mapG l k)
  | 0 => tidy_empty
  | k + 1 => (mapG_tidy l k).put (key_is _) _
theorem mapG_at (l : List S27) (h : ByteArray) : ∀ k, (mapG l k).atKey (key h) .nil = gDat (gAt l k h) ∧ (has (mapG l k) (key h) = true ↔ gAt l k h ≠ [])
  | 0 => by simp [mapG, gAt, gDat, has, DataW.atKey]
  | k + 1 => by
    obtain ⟨h1, h2⟩ := mapG_at l h k
    rw [mapG, gAt_succ l k h]
    by_cases e : (l.getD k z27).f4 = h
    · rw [if_pos e, e, atKey_put_same (mapG_tidy l k).isMap (key_is _), has_put_same (mapG_tidy l k).isMap (key_is _), gAt_succ, if_pos e]
      refine ⟨?_, by simp⟩
      unfold gDat
      rw [if_neg (by simp)]
    · rw [if_neg e, atKey_put_other (fun h3 => e (key_inj h3).symm), has_put_other (fun h3 => e (key_inj h3).symm)]
      exact ⟨h1, h2⟩
theorem lits_inj {a b : List Int} (h : lits (H := Unit) .i64 a = lits .i64 b) : a = b := by
  unfold lits at h
  exact (List.map_inj_right (fun x y hxy => by injection hxy with h; injection h)).1 h
theorem gDat_row {w : World} {base : Nat} {e : TypeId} {v : Value} {zs gs : List Int} (ho : w.ownsInts base e .i64 v zs) (h : gDat gs = rowDatum (H := Unit) .i64 v zs) : zs = gs := by
  unfold gDat at h
  rcases ho.datum (H := Unit) with ⟨hd, rfl⟩ | hd
  · rw [hd] at h
    by_cases e : gs = []
    · exact e.symm
    · rw [if_neg e] at h; cases h
  · rw [hd] at h
    by_cases e : gs = []
    · rw [if_pos e] at h; cases h
    · rw [if_neg e] at h
      injection h with h
      exact (lits_inj h).symm
/-- The places of each host's spans. -/
def groupsL (l : List S27) : List (List Int) := (hostsB l).map (gAt l l.length)
end Go.Proofs.Ytkpmaenhkjfncaa.L
