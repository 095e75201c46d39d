/- Between the sort's words on a row (HoldsK, sortWorldK) and a row of the call's own (ownsRow, Reps). -/
import Derived.Test.YtkcnfdffemddlaaWWords
import Derived.Shelf.GgSortFunc.InsertionK
namespace Go.Proofs.YtkcnfdffemddlaaW.RowB
open Go.RowKit Go.Proofs.YtkcnfdffemddlaaW.PrintWords Go.Sort
set_option linter.unusedVariables false
variable {α : Type} [Inhabited α]

theorem cell_block {w : World} {g : Nat} {cur : Array Value} {e : TypeId} {fr : Nat × Nat} (h : w.heap[g]? = some (.cells cur e fr)) (i : Nat) : w.cell? ⟨g, i, none⟩ = cur[i]? := by simp [World.cell?, h]
theorem frozen_block {w : World} {g : Nat} {cur : Array Value} {e : TypeId} (h : w.heap[g]? = some (.cells cur e (0, 0))) (i : Nat) : w.frozen? ⟨g, i, none⟩ = false := by simp [World.frozen?, h]

theorem holdsK_of {enc : α → List Value} {k : Nat} (hk : ∀ x, (enc x).length = k) {w : World} {g : Nat} {cur : Array Value} {e : TypeId} {l : List α} {xs : List Value}
    (hh : w.heap[g]? = some (.cells cur e (0, 0))) (hx : cur.toList.take (l.length * k) = xs) (hr : Reps (fun x c => c = enc x) k l xs) : HoldsK enc k w g 0 l.toArray := by
  intro j hj
  have hj' : j < l.length * k := by simpa using hj
  have hk0 : 0 < k := by rcases Nat.eq_zero_or_pos k with h | h; · subst h; simp at hj'
                         · exact h
  refine ⟨?_, by rw [Nat.zero_add]; exact frozen_block hh j⟩
  rw [Nat.zero_add, cell_block hh, get_flatK _ _ _ _ (by simpa using hj')]
  have hq : j / k < l.length := Nat.div_lt_of_lt_mul (by rw [Nat.mul_comm]; exact hj')
  have hm : j % k < k := Nat.mod_lt _ hk0
  have h1 := hr.2 (j / k) l[j / k] (List.getElem?_eq_getElem hq)
  have h2 : xs[j]? = (enc l[j / k])[j % k]? := by
    rw [← h1, List.getElem?_take, if_pos hm, List.getElem?_drop, Nat.mul_comm, Nat.div_add_mod]
  rw [← hx, List.getElem?_take, if_pos hj'] at h2
  have h3 : cur[j]? = (enc l[j / k])[j % k]? := by rw [← h2]; simp
  rw [h3]
  have h4 : l.toArray[j / k]! = l[j / k] := by rw [getElem!_pos l.toArray (j / k) (by simpa using hq)]; simp
  rw [h4, List.getElem?_eq_getElem (by rw [hk]; exact hm), getElem!_pos _ _ (by rw [hk]; exact hm)]
  rfl

theorem putCells_size (d : Array Value) (c : Array Value) : (putCells id 0 d c).size = c.size := by simp [putCells]
theorem putCells_get (d : Array Value) (c : Array Value) (j : Nat) (hj : j < c.size) (hd : j < d.size) : (putCells id 0 d c)[j]? = some d[j]! := by
  simp [putCells, hj, hd]

theorem heap_sortWorld {enc : α → List Value} {k n : Nat} {w : World} {g : Nat} {d : Array α} {os : Array Obj} (i : Nat) (hi : i < w.heap.size) :
    (sortWorldK enc k w g 0 n d os).heap[i]? = if i = g then (w.heap[g]?).map (onCells (putCells id 0 (flatK enc k d))) else w.heap[i]? := by
  have h0 : (sortWorldK enc k w g 0 n d os).heap = w.heap.modify g (onCells (putCells id 0 (flatK enc k d))) ++ os := rfl
  rw [h0, Array.getElem?_append_left (by simpa using hi), Array.getElem?_modify]
  by_cases h : g = i
  · subst h; simp
  · rw [if_neg h, if_neg (fun h' => h h'.symm)]

theorem own_sorted {enc : α → List Value} {k n cap base : Nat} (hk : ∀ x, (enc x).length = k) {w : World} {g : Nat} {cur : Array Value} {e : TypeId} {d : Array α} {os : Array Obj}
    (hg : base ≤ g) (hh : w.heap[g]? = some (.cells cur e (0, 0))) (hc : d.size ≤ cap) (hcm : cap ≤ maxLen) (hs : cur.size = cap * k) :
    ∃ inner, (sortWorldK enc k w g 0 n d os).ownsRow base e k (.slice (some ⟨g, 0, none⟩) d.size cap) d.size inner ∧ Reps (fun x c => c = enc x) k d.toList inner := by
  have hlt : g < w.heap.size := (Array.getElem?_eq_some_iff.1 hh).1
  have h1 : (sortWorldK enc k w g 0 n d os).heap[g]? = some (.cells (putCells id 0 (flatK enc k d) cur) e (0, 0)) := by
    rw [heap_sortWorld g hlt, if_pos rfl, hh]; rfl
  have hdk : d.size * k ≤ cap * k := Nat.mul_le_mul_right _ hc
  have hlen : ((putCells id 0 (flatK enc k d) cur).toList.take (d.size * k)).length = d.size * k := by
    rw [List.length_take, Array.length_toList, putCells_size, hs]; omega
  refine ⟨(putCells id 0 (flatK enc k d) cur).toList.take (d.size * k), ⟨hlen, .inr ⟨g, cap, _, rfl, hg, h1, hc, hcm, by rw [putCells_size, hs], rfl⟩⟩, by rw [hlen]; simp, fun j p hp => ?_⟩
  have hj : j < d.size := by simpa using (List.getElem?_eq_some_iff.1 hp).1
  have hpj : d[j]! = p := by
    rw [getElem!_pos d j hj]
    obtain ⟨h2, h3⟩ := List.getElem?_eq_some_iff.1 hp
    rw [← h3]; simp
  have hjk : j * k + k ≤ d.size * k := by rw [← Nat.succ_mul]; exact Nat.mul_le_mul_right _ hj
  apply List.ext_getElem?
  intro r
  by_cases hr : r < k
  · rw [List.getElem?_take, if_pos hr, List.getElem?_drop, List.getElem?_take, if_pos (by omega)]
    have h5 : (putCells id 0 (flatK enc k d) cur).toList[j * k + r]? = (putCells id 0 (flatK enc k d) cur)[j * k + r]? := by simp
    rw [h5, putCells_get _ _ _ (by omega) (by rw [size_flatK]; omega), get_flatK _ _ _ _ (by omega)]
    have e1 : (j * k + r) / k = j := by rw [Nat.mul_comm, Nat.mul_add_div (by omega), Nat.div_eq_of_lt hr, Nat.add_zero]
    have e2 : (j * k + r) % k = r := by rw [Nat.mul_comm, Nat.mul_add_mod, Nat.mod_eq_of_lt hr]
    rw [e1, e2, hpj, List.getElem?_eq_getElem (by rw [hk]; exact hr), getElem!_pos _ _ (by rw [hk]; exact hr)]
  · rw [List.getElem?_eq_none (by rw [List.length_take]; omega), List.getElem?_eq_none (by rw [hk]; omega)]

theorem below_sorted {enc : α → List Value} {k n B : Nat} {w : World} {g : Nat} {d : Array α} {os : Array Obj} (hg : B ≤ g) (hB : B ≤ w.heap.size) : Below B w (sortWorldK enc k w g 0 n d os) := by
  refine ⟨rfl, rfl, rfl, ?_, fun i hi => ?_⟩
  · have h0 : (sortWorldK enc k w g 0 n d os).heap = w.heap.modify g (onCells (putCells id 0 (flatK enc k d))) ++ os := rfl
    rw [h0]; simp
  · rw [heap_sortWorld i (by omega), if_neg (by omega)]
end Go.Proofs.YtkcnfdffemddlaaW.RowB
