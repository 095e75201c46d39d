/- HostsAll, the plain part: each place is in just one host's group, and the hosts rise. -/
import Derived.Test.YtkpmaenhkjfncaaRefI
import Derived.Test.YtkpmaenhkjfncaaRefG
import Derived.Test.YtkpmaenhkjfncaaGrpP
import Derived.Test.YtkpmaenhkjfncaaMOpens
import Derived.Sort.Walk0
import Derived.Test.YtkpmaenhkjfncaaMx1
import Derived.Test.YtkpmaenhkjfncaaMx2
namespace Go.Proofs.Ytkpmaenhkjfncaa.Pure
set_option linter.unusedVariables false
open Go.RowKit Go.Proofs.Ytkpmaenhkjfncaa.Q Go.Proofs.Ytkpmaenhkjfncaa.M Go.Proofs.YtkpmaenhkjfncaaW.PrintWords Go.Proofs.YtkpmaenhkjfncaaW.PrintLast Go.Proofs.YtkpmaenhkjfncaaW.PrintMore Go.Proofs.YtkpmaenhkjfncaaW.Lib Go.Proofs.Ytkpmaenhkjfncaa.L

theorem fixed13 : Ev (fun k => merkhetlaw13_fixed.f k) true := by
  unfold merkhetlaw13_fixed.f hosts_Of.f
  rw [if_pos ⟨by decide, by intro x hx; simp only [List.mem_cons, List.not_mem_nil, or_false] at hx; rcases hx with rfl | rfl | rfl <;> exact ⟨by decide, by decide, by decide⟩⟩]
  refine Ev.bind (a := [1, 0, 1]) (Ev.const ?_) (Ev.bind (sameI_self _ (by decide)) (Ev.now _))
  unfold numsL
  rw [← hostsB_fold']
  kernel_rfl
section
variable (l : List (S27))
/-- The number of the host of place i. -/
def numAt (i : Nat) : Nat := numB (hostsB l) (l.getD i z27).f4
/-- Which places have been met, behind j groups and e places of the next one. -/
def metA (j e : Nat) : List Int := (List.range l.length).map fun i => if numAt l i < j ∨ (i : Int) ∈ (gAt l l.length ((hostsB l).getD j ByteArray.empty)).take e then 1 else 0
theorem metA_length (j e : Nat) : (metA l j e).length = l.length := by unfold metA; simp
theorem metA_get (j e i : Nat) (hi : i < l.length) : rd (metA l j e) (i : Int) = if numAt l i < j ∨ (i : Int) ∈ (gAt l l.length ((hostsB l).getD j ByteArray.empty)).take e then 1 else 0 := by
  unfold metA rd
  rw [Int.toNat_natCast, List.getD_eq_getElem?_getD, List.getElem?_map, List.getElem?_range hi]
  rfl
theorem numAt_lt (i : Nat) (hi : i < l.length) : numAt l i < (hostsB l).length := by
  unfold numAt
  refine numB_lt ((hostsB_mem l _).2 ⟨l[i], List.getElem_mem hi, ?_⟩)
  simp [List.getD, hi]
theorem numAt_get (i : Nat) (hi : i < l.length) (j : Nat) (hj : j < (hostsB l).length) : numAt l i = j ↔ (l.getD i z27).f4 = (hostsB l)[j] := by
  have hm : (l.getD i z27).f4 ∈ hostsB l := (hostsB_mem l _).2 ⟨l[i], List.getElem_mem hi, by simp [List.getD, hi]⟩
  unfold numAt
  constructor
  · intro h
    have := numB_get hm
    simp only [h] at this
    exact this.symm
  · intro h
    rw [h]
    have hm2 : (hostsB l)[j] ∈ hostsB l := List.getElem_mem hj
    have hlt := numB_lt hm2
    have hg := numB_get hm2
    have hp := List.pairwise_iff_getElem.1 (hostsB_nodup l)
    rcases Nat.lt_trichotomy (numB (hostsB l) (hostsB l)[j]) j with h3 | h3 | h3
    · exact absurd hg (hp _ _ hlt hj h3)
    · exact h3
    · exact absurd hg.symm (hp _ _ hj hlt h3)
theorem gAt_nodup (x : Nat) (h : ByteArray) : (gAt l x h).Nodup := by
  unfold gAt List.Nodup
  rw [List.pairwise_map]
  refine ((List.nodup_range (n := x)).filter _).imp ?_
  intro a b hab h2
  exact hab (by omega)
theorem metA_step (j e : Nat) (he : e < (gAt l l.length ((hostsB l).getD j ByteArray.empty)).length) (i : Nat) (hi : i < l.length) (hie : (gAt l l.length ((hostsB l).getD j ByteArray.empty))[e] = (i : Int)) : metA l j (e + 1) = (metA l j e).set i 1 := by
  unfold metA
  apply List.ext_getElem
  · simp
  · intro q h1 h2
    have hq : q < l.length := by simpa using h1
    rw [List.getElem_map, List.getElem_set, List.getElem_map, List.getElem_range, List.take_succ_eq_append_getElem he, hie]
    by_cases e1 : i = q
    · subst e1
      rw [if_pos rfl, if_pos (Or.inr (by simp))]
    · rw [if_neg e1]
      have : ((q : Int) ∈ (gAt l l.length ((hostsB l).getD j ByteArray.empty)).take e ++ [(i : Int)]) ↔ (q : Int) ∈ (gAt l l.length ((hostsB l).getD j ByteArray.empty)).take e := by
        rw [List.mem_append, List.mem_singleton]
        exact ⟨fun h => h.elim _root_.id (fun h => absurd h (by omega)), .inl⟩
      simp only [this]
theorem metA_next (j : Nat) (hj : j < (hostsB l).length) : metA l j (gAt l l.length (hostsB l)[j]).length = metA l (j + 1) 0 := by
  have hg : (hostsB l).getD j ByteArray.empty = (hostsB l)[j] := by simp [List.getD, hj]
  unfold metA
  rw [hg, List.take_length]
  apply List.map_congr_left
  intro i hi
  have hi' : i < l.length := List.mem_range.1 hi
  have h1 : ((i : Int) ∈ gAt l l.length (hostsB l)[j]) ↔ numAt l i = j := by
    rw [gAt_mem, numAt_get l i hi' j hj]
    constructor
    · rintro ⟨q, _, h2, h3⟩
      obtain rfl : q = i := by omega
      exact h2
    · intro h2
      exact ⟨i, hi', h2, rfl⟩
  simp only [h1, List.take_zero, List.not_mem_nil, or_false]
  congr 1
  rw [eq_iff_iff]
  omega
theorem metA_zero : metA l 0 0 = List.replicate l.length 0 := by
  unfold metA
  rw [List.eq_replicate_iff]
  refine ⟨by simp, fun b hb => ?_⟩
  obtain ⟨i, _, rfl⟩ := List.mem_map.1 hb
  rw [if_neg (by simp)]
theorem gAt_pos (j : Nat) (hj : j < (hostsB l).length) : 0 < (gAt l l.length (hostsB l)[j]).length := by
  obtain ⟨x, hx, he⟩ := (hostsB_mem l _).1 (List.getElem_mem hj)
  obtain ⟨i, hi, rfl⟩ := List.getElem_of_mem hx
  have := (gAt_mem l l.length (hostsB l)[j] (i : Int)).2 ⟨i, hi, by simp [List.getD, hi]; exact he, rfl⟩
  exact List.length_pos_of_mem this
theorem group_get (j : Nat) (hj : j < (hostsB l).length) : rd_L5 (groupsL l) (j : Int) = gAt l l.length (hostsB l)[j] := by
  unfold rd_L5 groupsL
  rw [Int.toNat_natCast, List.getD_eq_getElem?_getD, List.getElem?_map, List.getElem?_eq_getElem hj]
  rfl
/-- The first place of a group. -/
theorem first_at (j : Nat) (hj : j < (hostsB l).length) : ∃ i : Nat, i < l.length ∧ rd (gAt l l.length (hostsB l)[j]) 0 = (i : Int) ∧ (rd_T27 l (i : Int)).f4 = (hostsB l)[j] := by
  have hp := gAt_pos l j hj
  have hm : (gAt l l.length (hostsB l)[j])[0] ∈ gAt l l.length (hostsB l)[j] := List.getElem_mem hp
  obtain ⟨i, hi, he, hz⟩ := (gAt_mem l l.length (hostsB l)[j] _).1 hm
  refine ⟨i, hi, ?_, ?_⟩
  · rw [hz]
    simp [rd, List.getD, hp]
  · rw [← he]
    simp [rd_T27]
theorem less_hosts (j : Nat) (hj : j + 1 < (hostsB l).length) : Op.bytesLess ((hostsB l)[j]'(by omega)).toList (hostsB l)[j + 1].toList = true := by
  have h := List.pairwise_iff_getElem.1 (hostsB_rise l) j (j + 1) (by omega) hj (by omega)
  rw [bytesLess_eq, decide_eq_true_eq, toList_data, toList_data]
  exact (cmpL_lt _ _).1 h
end
theorem HostsAll (l0 : List (S27)) (w0 : (l0.length ≤ maxLen ∧ l0.length * 80 ≤ reachBytes ∧ ∀ x ∈ l0, wf27 x)) : ∃ k, merkhetlaw13_HostsAll.f k l0 = some true := by
  obtain ⟨_, _, hw⟩ := w0
  refine Ev.rounds (g := fun k => merkhetlaw13_HostsAll.f k l0) ?_
  unfold merkhetlaw13_HostsAll.f
  obtain ⟨b, hb, hb2⟩ := great_ev l0
  refine Ev.bind hb (Ev.ite (fun h => Ev.bind fixed13 (Ev.now _)) (fun h => ?_))
  obtain ⟨h60, _⟩ := hb2 (by simpa using h)
  have hfit : ∀ x ∈ l0, fitS x := fun x hx => ⟨(hw x hx).2.1, (hw x hx).2.2.2.2.1, (hw x hx).2.2.2.2.2.1⟩
  have hgl : (groupsL l0).length = (hostsB l0).length := by unfold groupsL; rw [List.length_map]
  have hhl := hostsB_length l0
  have hnl : (numsL l0).length = l0.length := by unfold numsL; rw [List.length_map]
  -- the last loop: all are 1
  have last : ∀ (d i : Nat), l0.length - i = d → i ≤ l0.length → Ev (fun k => merkhetlaw13_HostsAll.l2 k (metA l0 (hostsB l0).length 0) ((metA l0 (hostsB l0).length 0).length : Int) (i : Int)) true := by
    intro d
    induction d with
    | zero =>
      intro i hd hi
      refine Ev.succ ?_
      simp only [merkhetlaw13_HostsAll.l2, metA_length]
      exact Ev.neg (by omega) (Ev.bind fixed13 (Ev.now _))
    | succ d ih =>
      intro i hd hi
      have hil : i < l0.length := by omega
      have h1 : rd (metA l0 (hostsB l0).length 0) (i : Int) = 1 := by rw [metA_get l0 _ _ i hil, if_pos (Or.inl (numAt_lt l0 i hil))]
      have := ih (i + 1) (by omega) (by omega)
      refine Ev.succ ?_
      simp only [merkhetlaw13_HostsAll.l2, h1]
      refine Ev.pos (by rw [metA_length]; omega) (Ev.pos (by omega) (Ev.pos (by rw [metA_length]; omega) (Ev.pos trivial ?_)))
      rw [wrap_id (by omega) (by omega)]
      exact this
  -- the groups
  have loop : ∀ (d j : Nat), (hostsB l0).length - j = d → j ≤ (hostsB l0).length → Ev (fun k => merkhetlaw13_HostsAll.l0 k l0 (numsL l0) (groupsL l0) (metA l0 j 0) (groupsL l0) ((groupsL l0).length : Int) (j : Int)) true := by
    intro d
    induction d with
    | zero =>
      intro j hd hj
      obtain rfl : j = (hostsB l0).length := by omega
      refine Ev.succ ?_
      simp only [merkhetlaw13_HostsAll.l0]
      exact Ev.neg (by omega) (last l0.length 0 (by omega) (by omega))
    | succ d ih =>
      intro j hd hj
      have hjh : j < (hostsB l0).length := by omega
      have hg : (hostsB l0).getD j ByteArray.empty = (hostsB l0)[j] := by simp [List.getD, hjh]
      have hgll := gAt_length l0 l0.length (hostsB l0)[j]
      have hpos := gAt_pos l0 j hjh
      have next := ih (j + 1) (by omega) (by omega)
      have inner : ∀ (q e : Nat), (gAt l0 l0.length (hostsB l0)[j]).length - e = q → e ≤ (gAt l0 l0.length (hostsB l0)[j]).length → Ev (fun k => merkhetlaw13_HostsAll.l1 k l0 (numsL l0) (groupsL l0) (metA l0 j e) (j : Int) (gAt l0 l0.length (hostsB l0)[j]) (groupsL l0) ((groupsL l0).length : Int) (j : Int) (gAt l0 l0.length (hostsB l0)[j]) ((gAt l0 l0.length (hostsB l0)[j]).length : Int) (e : Int)) true := by
        intro q
        induction q with
        | zero =>
          intro e hq he
          obtain rfl : e = (gAt l0 l0.length (hostsB l0)[j]).length := by omega
          rw [metA_next l0 j hjh]
          refine Ev.succ ?_
          simp only [merkhetlaw13_HostsAll.l1]
          refine Ev.neg (by omega) (Ev.neg (by omega) ?_)
          by_cases hj0 : (j : Int) > 0
          · obtain ⟨j', rfl⟩ : ∃ j', j = j' + 1 := ⟨j - 1, by omega⟩
            have e1 : wrap64 (((j' + 1 : Nat) : Int) - 1) = (j' : Int) := by rw [wrap_id (by omega) (by omega)]; omega
            obtain ⟨i1, hi1, hr1, hf1⟩ := first_at l0 j' (by omega)
            obtain ⟨i2, hi2, hr2, hf2⟩ := first_at l0 (j' + 1) hjh
            have hp1 := gAt_pos l0 j' (by omega)
            have hless := less_hosts l0 j' hjh
            refine Ev.pos hj0 ?_
            rw [e1, group_get l0 j' (by omega), hr1, hr2, hf1, hf2]
            refine Ev.pos (by omega) (Ev.pos (by omega) (Ev.pos (by omega) (Ev.pos (by omega) (Ev.pos (by omega) (Ev.pos (by omega) (Ev.pos (by omega) (Ev.pos (by omega) (Ev.pos hless ?_))))))))
            rw [wrap_id (by omega) (by omega)]
            exact next
          · refine Ev.neg hj0 ?_
            rw [wrap_id (by omega) (by omega)]
            exact next
        | succ q ihq =>
          intro e hq he
          have hel : e < (gAt l0 l0.length (hostsB l0)[j]).length := by omega
          obtain ⟨i, hi, hhost, hz⟩ := (gAt_mem l0 l0.length (hostsB l0)[j] _).1 (List.getElem_mem hel)
          have hrd : rd (gAt l0 l0.length (hostsB l0)[j]) (e : Int) = (i : Int) := by rw [hz]; simp [rd, List.getD, hel]
          have hna : numAt l0 i = j := (numAt_get l0 i hi j hjh).2 hhost
          have hnum : rd (numsL l0) (i : Int) = (j : Int) := by
            unfold rd numsL
            rw [Int.toNat_natCast, List.getD_eq_getElem?_getD, List.getElem?_map, List.getElem?_eq_getElem hi]
            show ((numB (hostsB l0) l0[i].f4 : Nat) : Int) = _
            rw [← hna]
            unfold numAt
            simp [List.getD, hi]
          have hold : rd (metA l0 j e) (i : Int) = 0 := by
            rw [metA_get l0 j e i hi, if_neg]
            rintro (h1 | h1)
            · omega
            · rw [hg] at h1
              obtain ⟨q', hq', h2⟩ := List.getElem_of_mem h1
              rw [List.getElem_take, hz] at h2
              have hq'' : q' < e := by simp at hq'; omega
              exact List.pairwise_iff_getElem.1 (gAt_nodup l0 l0.length (hostsB l0)[j]) q' e (by omega) hel hq'' h2
          have hstep := metA_step l0 j e (by rw [hg]; exact hel) i hi (by simp only [hg]; exact hz.symm)
          have := ihq (e + 1) (by omega) (by omega)
          rw [hstep] at this
          refine Ev.succ ?_
          simp only [merkhetlaw13_HostsAll.l1, hrd, hnum, hold]
          refine Ev.pos (by omega) (Ev.pos (by omega) (Ev.pos (by omega) (Ev.neg (by omega) (Ev.neg (by omega) (Ev.pos (by omega) (Ev.pos (by rw [hnl]; omega) (Ev.pos trivial (Ev.pos (by rw [metA_length]; omega) ?_))))))))
          rw [wrap_id (i := (0 : Int) + 1) (by omega) (by omega), wrap_id (i := (e : Int) + 1) (by omega) (by omega), Int.toNat_natCast]
          exact this
      refine Ev.succ ?_
      simp only [merkhetlaw13_HostsAll.l0]
      rw [group_get l0 j hjh]
      exact Ev.pos (by omega) (Ev.pos (by omega) (Ev.pos (by omega) (inner (gAt l0 l0.length (hostsB l0)[j]).length 0 (by omega) (by omega))))
  refine Ev.bind (a := numsL l0) (Ev.const (by unfold hosts_Of.f; rw [if_pos ⟨by omega, hfit⟩])) (Ev.bind (a := groupsL l0) (Ev.const (by unfold hosts_Groups.f; rw [if_pos ⟨by omega, hfit⟩])) ?_)
  refine Ev.pos (by rw [hnl]) (Ev.pos (by omega) (Ev.pos (by omega) ?_))
  rw [Int.toNat_natCast, ← metA_zero]
  exact loop (hostsB l0).length 0 (by omega) (by omega)
end Go.Proofs.Ytkpmaenhkjfncaa.Pure
