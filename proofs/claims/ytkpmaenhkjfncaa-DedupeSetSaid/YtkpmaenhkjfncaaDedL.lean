/- dedupe.Of, as plain lists. -/
import Derived.Test.YtkpmaenhkjfncaaBase0
import Derived.Test.YtkpmaenhkjfncaaSpanA
import Derived.Test.YtkpmaenhkjfncaaSpanB
import Derived.Test.YtkpmaenhkjfncaaSortG
import Derived.Test.YtkpmaenhkjfncaaNumP
namespace Go.Proofs.Ytkpmaenhkjfncaa.L
open Go.RowKit Go.Proofs.Ytkpmaenhkjfncaa.Q Go.Proofs.YtkpmaenhkjfncaaW.PrintWords Go.Proofs.YtkpmaenhkjfncaaW.MapB Go.Maps
set_option linter.unusedVariables false

/-- Is a record one that counts? -/
def okS (t : Int) (s : Span) : Bool := decide (s.f0 = t) && mayB s.f0 s.f1 s.f2 s.f3 s.f4 s.f5 s.f6 s.f7
def metD (t : Int) (l : List Span) : List Span := l.foldl (stepD cmpS (·.f1) (okS t)) []
/-- The records of a trace that count, in their order. -/
def ofD (l : List Span) (t : Int) : List Span := sortL (metD t l)

theorem metD_counts (t : Int) (l : List Span) : Counts cmpS (·.f1) (okS t) l (metD t l) := by
  have := stepD_counts cmpS_is l [] [] (counts_nil (c := cmpS) (id := (·.f1)) (ok := okS t))
  simpa [metD] using this
theorem metD_length (t : Int) (l : List Span) : (metD t l).length ≤ l.length := by
  have := foldD_length (c := cmpS) (id := (·.f1)) (ok := okS t) l []
  simpa [metD] using this
theorem sortL_sorted (l : List Span) : (sortL l).Pairwise leS := by
  have h := List.pairwise_mergeSort (le := fun x y => !ltOf cmpS y x) (fun a b c h1 h2 => by
    simp only [ltOf, Bool.not_eq_true', decide_eq_false_iff_not, Int.not_lt] at *
    have a1 := cmpS_is.anti a b; have a2 := cmpS_is.anti b c; have a3 := cmpS_is.anti a c
    have t := cmpS_is.trans a b c (by omega) (by omega)
    omega) (fun a b => by
    simp only [ltOf, Bool.or_eq_true, Bool.not_eq_true', decide_eq_false_iff_not, Int.not_lt]
    have a1 := cmpS_is.anti a b
    omega) l
  refine h.imp ?_
  intro a b hab
  simp only [ltOf, Bool.not_eq_true', decide_eq_false_iff_not, Int.not_lt] at hab
  have a1 := cmpS_is.anti a b
  show cmpS a b ≤ 0
  omega
theorem sortL_perm (l : List Span) : (sortL l).Perm l := List.mergeSort_perm l _
theorem sortL_eq (l : List Span) : sortL l = sortR l := sorted_one (sortL_sorted l) (sortR_sorted l) ((sortL_perm l).trans (sortR_perm l).symm)
theorem ofD_counts (l : List Span) (t : Int) : Counts cmpS (·.f1) (okS t) l (ofD l t) := (metD_counts t l).perm (sortL_perm _).symm
theorem ofD_sorted (l : List Span) (t : Int) : (ofD l t).Pairwise leS := sortL_sorted _
theorem ofD_length (l : List Span) (t : Int) : (ofD l t).length ≤ l.length := Nat.le_trans (Nat.le_of_eq (sortL_perm _).length_eq) (metD_length t l)
/-- What counts is told by what is there alone. -/
theorem ofD_one {l l' : List Span} {t : Int} (h : ∀ x, x ∈ l ↔ x ∈ l') : ofD l t = ofD l' t := (ofD_counts l t).one cmpS_is (ofD_counts l' t) (ofD_sorted l t) (ofD_sorted l' t) h
theorem ofD_again (l : List Span) (t : Int) : ofD (ofD l t) t = ofD l t :=
  (ofD_counts (ofD l t) t).one cmpS_is ((ofD_counts l t).self cmpS_is) (ofD_sorted _ t) (ofD_sorted l t) (fun _ => Iff.rfl)

/-! The map of numbers to places. -/
abbrev keyI (i : Int) : Lit := .int .u64 i
theorem keyI_is (i : Int) : WideAt.IsKeyLit (keyI i) := trivial
theorem keyI_inj (i j : Int) (h : keyI i = keyI j) : i = j := by injection h
def idsD (m : List Span) : DataW Unit := mapN keyI 0 (m.map (·.f1)) m.length
theorem idsD_none {m : List Span} {i : Int} (h : m.findIdx? (fun x => decide (x.f1 = i)) = none) (z : DataW Unit) : (idsD m).atKey (keyI i) z = z ∧ has (idsD m) (keyI i) = false := by
  have hn : i ∉ m.map (·.f1) := by
    intro hm
    obtain ⟨x, hx, rfl⟩ := List.mem_map.1 hm
    have := List.findIdx?_eq_none_iff.1 h x hx
    simp at this
  have := mapN_none (d := 0) keyI_is keyI_inj hn z
  rw [List.length_map] at this
  exact this
theorem idsD_some {m : List Span} (nd : m.Pairwise fun x y => x.f1 ≠ y.f1) {i : Int} {j : Nat} (h : m.findIdx? (fun x => decide (x.f1 = i)) = some j) (z : DataW Unit) : (idsD m).atKey (keyI i) z = .lit (.int .i64 j) ∧ has (idsD m) (keyI i) = true := by
  obtain ⟨hj, he, _⟩ := List.findIdx?_eq_some_iff_getElem.1 h
  have he' : m[j].f1 = i := of_decide_eq_true he
  have nd' : (m.map (·.f1)).Nodup := by
    unfold List.Nodup
    rw [List.pairwise_map]
    exact nd
  have h1 := mapN_at (d := 0) keyI_is keyI_inj nd' z j (by simpa using hj) m.length hj (by simp)
  rw [List.getElem_map, he'] at h1
  refine ⟨h1, ?_⟩
  have := (mapN_has (d := 0) keyI_is keyI_inj (m.map (·.f1)) i m.length (by simp)).2 (by
    rw [List.take_of_length_le (by simp)]
    exact List.mem_map.2 ⟨m[j], List.getElem_mem _, he'⟩)
  exact this
theorem idsD_snoc (m : List Span) (s : Span) : (idsD m).put (keyI s.f1) (.lit (.int .i64 m.length)) = idsD (m ++ [s]) := by
  have := mapN_snoc (key := keyI) (d := 0) (m.map (·.f1)) s.f1
  unfold idsD
  rw [List.map_append, List.map_singleton]
  simp only [List.length_append, List.length_map, List.length_singleton] at this ⊢
  exact this.symm
theorem idsD_set {m : List Span} {s : Span} {j : Nat} (h : m.findIdx? (fun x => decide (x.f1 = s.f1)) = some j) : idsD (m.set j s) = idsD m := by
  obtain ⟨hj, he, _⟩ := List.findIdx?_eq_some_iff_getElem.1 h
  have he' : m[j].f1 = s.f1 := of_decide_eq_true he
  unfold idsD
  rw [List.length_set, List.map_set, ← he', ← List.getElem_map (f := fun x : Span => x.f1) (h := by simpa using hj), List.set_getElem_self]
end Go.Proofs.Ytkpmaenhkjfncaa.L
