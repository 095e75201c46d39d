/- The hosts of spans, and the map of hosts to their numbers as it is read: plain. -/
import Derived.Test.YtjgpggjjgimibaaHostG
import Derived.Maps.Views
namespace Go.Proofs.Ytjgpggjjgimibaa.L
open Go.RowKit Go.Proofs.Ytjgpggjjgimibaa.Q Go.Proofs.YtjgpggjjgimibaaW.PrintWords Go.Maps
set_option linter.unusedVariables false

/-- What a span that is read has. -/
def fitS (x : S42) : Prop := (Lit.int .u64 x.f1).wf = true ∧ x.f4.size ≤ 140737488351232 ∧ x.f5.size ≤ 140737488351232
instance : DecidablePred fitS := fun x => by unfold fitS; infer_instance

theorem cmpB_is' : IsCmp cmpB := cmpB_is
theorem hostsB_rise (l : List S42) : Rise cmpB (hostsB l) := by
  unfold hostsB Rise
  rw [List.pairwise_map]
  refine (hostsL_rise _).1.imp ?_
  intro x y h
  show Go.Lib.compareBytes _ _ < 0
  simpa using h
theorem hostsB_mem (l : List S42) (s : ByteArray) : s ∈ hostsB l ↔ ∃ x ∈ l, x.f4 = s := by
  unfold hostsB
  rw [List.mem_map]
  constructor
  · rintro ⟨y, hy, rfl⟩
    rw [(hostsL_rise _).2, List.mem_map] at hy
    obtain ⟨x, hx, rfl⟩ := hy
    exact ⟨x, hx, by simp⟩
  · rintro ⟨x, hx, rfl⟩
    refine ⟨x.f4.data.toList, ?_, by simp⟩
    rw [(hostsL_rise _).2]
    exact List.mem_map.2 ⟨x, hx, rfl⟩
theorem hostsB_length (l : List S42) : (hostsB l).length ≤ l.length := by
  unfold hostsB
  rw [List.length_map]
  exact Nat.le_trans (hostsL_length _) (by rw [List.length_map]; exact Nat.le_refl _)
theorem hostsB_nodup (l : List S42) : (hostsB l).Nodup := (hostsB_rise l).nodup cmpB_is
theorem hostsB_fit {l : List S42} (hf : ∀ x ∈ l, fitS x) : ∀ s ∈ hostsB l, s.size ≤ 140737488351232 := by
  intro s hs
  obtain ⟨x, hx, rfl⟩ := (hostsB_mem l s).1 hs
  exact (hf x hx).2.1

abbrev key (s : ByteArray) : Lit := .string s.data.toList
theorem key_inj {s t : ByteArray} (h : key s = key t) : s = t := by
  have h1 : s.data.toList = t.data.toList := by
    unfold key at h
    injection h
  cases s; cases t
  simp_all
theorem key_is (s : ByteArray) : WideAt.IsKeyLit (key s) := trivial
/-- The map behind k rounds. -/
def numD (l : List ByteArray) : Nat → DataW Unit
  | 0 => .map []
  | k + 1 => (numD l k).put (key (l.getD k ByteArray.empty)) (.lit (.int .i64 k))
theorem numD_tidy (l : List ByteArray) : ∀ k, Tidy (numD l k)
  | 0 => tidy_empty
  | k + 1 => (numD_tidy l k).put (key_is _) _
theorem numD_has (l : List ByteArray) (s : ByteArray) : ∀ k, k ≤ l.length → (has (numD l k) (key s) = true ↔ s ∈ l.take k)
  | 0, _ => by simp [numD, has]
  | k + 1, hk => by
    have hl : l.getD k ByteArray.empty = l[k] := by simp [List.getD, show k < l.length by omega]
    rw [numD, hl, List.take_succ_eq_append_getElem (show k < l.length by omega)]
    by_cases e : s = l[k]
    · rw [← e, has_put_same (numD_tidy l k).isMap (key_is _)]
      simp
    · rw [has_put_other (fun h => e (key_inj h)), numD_has l s k (by omega), List.mem_append, List.mem_singleton]
      exact ⟨.inl, fun h => h.elim _root_.id (fun h => absurd h e)⟩
theorem numD_size {l : List ByteArray} (nd : l.Nodup) : ∀ k, k ≤ l.length → size (numD l k) = k
  | 0, _ => rfl
  | k + 1, hk => by
    have hl : l.getD k ByteArray.empty = l[k] := by simp [List.getD, show k < l.length by omega]
    have hn : l[k] ∉ l.take k := by
      intro h
      obtain ⟨j, hj, e⟩ := List.getElem_of_mem h
      rw [List.getElem_take] at e
      have hjk : j < k := by simp at hj; omega
      exact List.pairwise_iff_getElem.1 nd j k (by omega) (by omega) hjk e
    rw [numD, size_put (numD_tidy l k), hl, if_neg (fun h => hn ((numD_has l l[k] k (by omega)).1 h)), numD_size nd k (by omega)]
theorem numD_at {l : List ByteArray} (nd : l.Nodup) (z : DataW Unit) (j : Nat) (hj : j < l.length) : ∀ k, j < k → k ≤ l.length → (numD l k).atKey (key l[j]) z = .lit (.int .i64 j)
  | 0, h, _ => by omega
  | k + 1, h, hk => by
    have hl : l.getD k ByteArray.empty = l[k] := by simp [List.getD, show k < l.length by omega]
    rw [numD, hl]
    by_cases e : j = k
    · subst e
      exact atKey_put_same (numD_tidy l j).isMap (key_is _) _ _
    · rw [atKey_put_other (fun h2 => ?_)]
      · exact numD_at nd z j hj k (by omega) (by omega)
      · have := key_inj h2
        exact absurd this (List.pairwise_iff_getElem.1 nd j k hj (by omega) (by omega))
/-- The number of a text among texts. -/
def numB (l : List ByteArray) (s : ByteArray) : Nat := l.findIdx (fun h => decide (h = s))
theorem numB_lt {l : List ByteArray} {s : ByteArray} (h : s ∈ l) : numB l s < l.length := List.findIdx_lt_length_of_exists ⟨s, h, by simp⟩
theorem numB_get {l : List ByteArray} {s : ByteArray} (h : s ∈ l) : l[numB l s]'(numB_lt h) = s := by
  have := List.findIdx_getElem (p := fun h => decide (h = s)) (w := numB_lt h)
  exact of_decide_eq_true this
theorem numD_num {l : List ByteArray} (nd : l.Nodup) {s : ByteArray} (h : s ∈ l) (z : DataW Unit) : (numD l l.length).atKey (key s) z = .lit (.int .i64 (numB l s)) := by
  have := numD_at nd z (numB l s) (numB_lt h) l.length (numB_lt h) (Nat.le_refl _)
  rw [numB_get h] at this
  exact this
/-- The numbers of spans' hosts. -/
def numsL (l : List S42) : List Int := l.map fun x => (numB (hostsB l) x.f4 : Int)
/-- Are there too many spans, or hosts? -/
def greatL (l : List S42) : Bool := decide (512 < l.length) || decide (32 < (hostsB l).length)
end Go.Proofs.Ytjgpggjjgimibaa.L
