/- The document's hosts, as plain lists. -/
import Derived.Test.YtkpmaenhkjfncaaSpanT
import Derived.Test.YtkpmaenhkjfncaaNumP
import Derived.Test.YtkpmaenhkjfncaaQx8
import Derived.Test.YtkpmaenhkjfncaaQx9
namespace Go.Proofs.Ytkpmaenhkjfncaa.L
open Go.RowKit Go.Proofs.Ytkpmaenhkjfncaa.Q Go.Proofs.YtkpmaenhkjfncaaW.PrintWords Go.Proofs.YtkpmaenhkjfncaaW.PrintLast Go.Proofs.YtkpmaenhkjfncaaW.PrintMore Go.Proofs.YtkpmaenhkjfncaaW.Lib
set_option linter.unusedVariables false

/-- The place of a text; -1. -/
def placeZ (l : List ByteArray) (s : ByteArray) : Int := if numB l s < l.length then (numB l s : Int) else -1
theorem numB_cons (x : ByteArray) (l : List ByteArray) (s : ByteArray) : numB (x :: l) s = if x = s then 0 else numB l s + 1 := by
  unfold numB
  rw [List.findIdx_cons]
  by_cases h : x = s
  · simp [h]
  · simp [h]
theorem numB_le (l : List ByteArray) (s : ByteArray) : numB l s ≤ l.length := List.findIdx_le_length
theorem text_eq {s t : ByteArray} : s.toList = t.toList ↔ s = t := by
  rw [toList_data, toList_data]
  constructor
  · intro h
    cases s; cases t
    simp_all
  · rintro rfl; rfl
theorem place_ev (l : List ByteArray) (s : ByteArray) (hl : l.length ≤ 1000000000) : Ev (fun k => merkhetref09_Place.f k l s) (placeZ l s) := by
  have key : ∀ (d i : Nat), l.length - i = d → i ≤ l.length → Ev (fun k => merkhetref09_Place.l0 k l s (i : Int)) (if numB (l.drop i) s < (l.drop i).length then ((i + numB (l.drop i) s : Nat) : Int) else -1) := by
    intro d
    induction d with
    | zero =>
      intro i hd hi
      rw [List.drop_of_length_le (by omega), if_neg (by simp)]
      refine Ev.succ ?_
      simp only [merkhetref09_Place.l0]
      exact Ev.neg (by omega) (Ev.now _)
    | succ d ih =>
      intro i hd hi
      have hil : i < l.length := by omega
      have hr : rdOf ByteArray.empty l (i : Int) = l[i] := by simp [rdOf, List.getD, hil]
      refine Ev.succ ?_
      simp only [merkhetref09_Place.l0, hr]
      refine Ev.pos (by omega) (Ev.pos (by omega) ?_)
      rw [List.drop_eq_getElem_cons hil, numB_cons, List.length_cons]
      refine Ev.ite (fun h => ?_) (fun h => ?_)
      · rw [if_pos (text_eq.1 h), if_pos (by omega)]
        exact Ev.cast (Ev.now _) (by simp)
      · rw [if_neg (fun h2 => h (text_eq.2 h2)), wrap_id (by omega) (by omega)]
        have h1 := ih (i + 1) (by omega) (by omega)
        refine Ev.cast h1 ?_
        by_cases h3 : numB (l.drop (i + 1)) s < (l.drop (i + 1)).length
        · rw [if_pos h3, if_pos (by omega)]; congr 1; omega
        · rw [if_neg h3, if_neg (by omega)]
  have := key l.length 0 (by omega) (by omega)
  unfold merkhetref09_Place.f placeZ
  simpa using this

theorem sameT_ev (a b : List ByteArray) (ha : a.length ≤ 1000000000) : ∃ r, Ev (fun k => merkhetref09_Same.f k a b) r ∧ (r = true ↔ a = b) := by
  unfold merkhetref09_Same.f
  by_cases h : (a.length : Int) = (b.length : Int)
  · have key : ∀ (d i : Nat), a.length - i = d → i ≤ a.length → ∃ r, Ev (fun k => merkhetref09_Same.l0 k a b (i : Int)) r ∧ (r = true ↔ a.drop i = b.drop i) := by
      intro d
      induction d with
      | zero =>
        intro i hd hi
        refine ⟨true, Ev.succ ?_, ?_⟩
        · simp only [merkhetref09_Same.l0]
          exact Ev.neg (by omega) (Ev.now _)
        · rw [List.drop_of_length_le (by omega), List.drop_of_length_le (by omega)]
          simp
      | succ d ih =>
        intro i hd hi
        have hil : i < a.length := by omega
        have hib : i < b.length := by omega
        have hr : rdOf ByteArray.empty a (i : Int) = a[i] := by simp [rdOf, List.getD, hil]
        have hr2 : rdOf ByteArray.empty b (i : Int) = b[i] := by simp [rdOf, List.getD, hib]
        obtain ⟨r, h1, h2⟩ := ih (i + 1) (by omega) (by omega)
        have ea := List.drop_eq_getElem_cons hil
        have eb := List.drop_eq_getElem_cons hib
        by_cases e : a[i] = b[i]
        · refine ⟨r, Ev.succ ?_, ?_⟩
          · simp only [merkhetref09_Same.l0, hr, hr2]
            refine Ev.pos (by omega) (Ev.pos (by omega) (Ev.pos (by omega) (Ev.pos (text_eq.2 e) ?_)))
            rw [wrap_id (by omega) (by omega)]
            exact h1
          · rw [h2, ea, eb, List.cons.injEq]
            exact ⟨fun h => ⟨e, h⟩, fun h => h.2⟩
        · refine ⟨false, Ev.succ ?_, ?_⟩
          · simp only [merkhetref09_Same.l0, hr, hr2]
            exact Ev.pos (by omega) (Ev.pos (by omega) (Ev.pos (by omega) (Ev.neg (fun h => e (text_eq.1 h)) (Ev.now _))))
          · rw [ea, eb, List.cons.injEq]
            exact ⟨fun h => absurd h (by simp), fun h => absurd h.1 e⟩
    obtain ⟨r, h1, h2⟩ := key a.length 0 (by omega) (by omega)
    exact ⟨r, Ev.pos h h1, by simpa using h2⟩
  · refine ⟨false, Ev.neg h (Ev.now _), ⟨by simp, ?_⟩⟩
    rintro rfl
    exact absurd rfl h

theorem placeZ_mem (l : List ByteArray) (s : ByteArray) : 0 ≤ placeZ l s ↔ s ∈ l := by
  unfold placeZ
  constructor
  · intro h
    by_cases h2 : numB l s < l.length
    · have := List.findIdx_getElem (p := fun h => decide (h = s)) (w := h2)
      have h3 : l[numB l s] = s := of_decide_eq_true this
      rw [← h3]; exact List.getElem_mem _
    · rw [if_neg h2] at h; omega
  · intro h
    rw [if_pos (numB_lt h)]; omega
theorem hostsB_fold (l : List Span) : (l.map (·.f4)).foldl (insH cmpB) [] = hostsB l := by
  obtain ⟨h1, h2, _⟩ := foldH cmpB_is (l.map (·.f4)) [] List.Pairwise.nil
  refine h1.one cmpB_is (hostsB_rise l) fun x => ?_
  rw [h2, hostsB_mem, List.mem_map]
  simp
theorem rhosts_ev (x : List Span) (hx : x.length ≤ 1000000) (hw : ∀ s ∈ x, s.f4.size ≤ 140737488351232) : Ev (fun k => merkhetref09_Hosts.f k x) (hostsB x) := by
  have key : ∀ (d i : Nat), x.length - i = d → i ≤ x.length → ∀ a : List ByteArray, a.length ≤ i → (∀ s ∈ a, s.size ≤ 140737488351232) → Ev (fun k => merkhetref09_Hosts.l0 k x a (i : Int)) (((x.drop i).map (·.f4)).foldl (insH cmpB) a) := by
    intro d
    induction d with
    | zero =>
      intro i hd hi a ha _
      refine Ev.succ ?_
      simp only [merkhetref09_Hosts.l0]
      rw [List.drop_of_length_le (by omega)]
      exact Ev.neg (by omega) (Ev.now _)
    | succ d ih =>
      intro i hd hi a ha haw
      have hix : i < x.length := by omega
      have ws := hw x[i] (List.getElem_mem hix)
      rw [List.drop_eq_getElem_cons hix, List.map_cons, List.foldl_cons]
      have hins : (insH cmpB a x[i].f4).length ≤ i + 1 := by have := insH_length (c := cmpB) a x[i].f4; omega
      have hinw : ∀ s ∈ insH cmpB a x[i].f4, s.size ≤ 140737488351232 := by
        intro s hs
        rcases (insH_mem a x[i].f4 s).1 hs with hs | rfl
        · exact haw s hs
        · exact ws
      have next := ih (i + 1) (by omega) (by omega) _ hins hinw
      generalize hres : ((x.drop (i + 1)).map (·.f4)).foldl (insH cmpB) (insH cmpB a x[i].f4) = res at next
      refine Ev.succ ?_
      simp only [merkhetref09_Hosts.l0, rdS_nat x i hix]
      refine Ev.pos (by omega) (Ev.pos (by omega) (Ev.bind (place_ev a x[i].f4 (by omega)) (Ev.ite (fun h => ?_) (fun h => ?_))))
      · have hm := (placeZ_mem a x[i].f4).1 h
        have hst : insH cmpB a x[i].f4 = a := by unfold insH; rw [if_pos hm]
        rw [hst] at next
        rw [wrap_id (by omega) (by omega)]
        exact next
      · have hm : x[i].f4 ∉ a := fun h2 => h ((placeZ_mem a x[i].f4).2 h2)
        have hst : insH cmpB a x[i].f4 = a.take (posG cmpB a x[i].f4 a.length) ++ x[i].f4 :: a.drop (posG cmpB a x[i].f4 a.length) := by unfold insH; rw [if_neg hm]
        rw [hst] at next
        have fin : ∀ j : Nat, j ≤ a.length → posG cmpB a x[i].f4 a.length = j → Ev (fun k => if 0 ≤ (j : Int) then (if (j : Int) ≤ (a.length : Int) then ((some (a.drop (j : Int).toNat : List ByteArray)).bind fun y227 => (if ([] : List ByteArray).length + y227.length < 8796093022208 then ((some (([] : List ByteArray) ++ y227 : List ByteArray)).bind fun y231 => ((some (a.take (j : Int).toNat : List ByteArray)).bind fun y234 => (if y234.length < 8796093022208 then ((some (y234 ++ [x[i].f4] : List ByteArray)).bind fun y238 => (if y238.length + y231.length < 8796093022208 then (merkhetref09_Hosts.l0 k x (y238 ++ y231) (wrap64 ((i : Int) + 1))) else (none))) else (none)))) else (none))) else (none)) else (none)) res := by
          intro j hj hp
          rw [hp] at next
          refine Ev.pos (by omega) (Ev.pos (by omega) ?_)
          simp only [Option.bind_some, Int.toNat_natCast]
          refine Ev.pos (by simp; omega) (Ev.pos (by simp; omega) (Ev.pos (by simp; omega) ?_))
          rw [wrap_id (by omega) (by omega)]
          refine Ev.congr (fun k => ?_) next
          simp
        have inner : ∀ j : Nat, j ≤ a.length → posG cmpB a x[i].f4 a.length = posG cmpB a x[i].f4 j → Ev (fun k => merkhetref09_Hosts.l1 k x a (i : Int) (j : Int)) res := by
          intro j
          induction j with
          | zero =>
            intro hj hp
            refine Ev.succ ?_
            simp only [merkhetref09_Hosts.l1, rdS_nat x i hix]
            refine Ev.neg (by omega) ?_
            simp only [Option.bind_some]
            have := fin 0 (by omega) (by rw [hp]; rfl)
            simp only [Option.bind_some] at this
            refine Ev.congr (fun k => ?_) this
            simp only [show (0 : Int) ≤ (i : Int) by omega, show (i : Int) < (x.length : Int) by omega, if_true]
          | succ j ihj =>
            intro hj hp
            have hja : j < a.length := by omega
            have hr : rdOf ByteArray.empty a (j : Int) = a[j] := by simp [rdOf, List.getD, hja]
            have hg : a.getD j x[i].f4 = a[j] := by simp [List.getD, hja]
            refine Ev.succ ?_
            simp only [merkhetref09_Hosts.l1]
            refine Ev.pos (by omega) ?_
            rw [wrap_id (by omega) (by omega), show ((j + 1 : Nat) : Int) - 1 = (j : Int) by omega]
            refine Ev.pos (by omega) (Ev.pos (by omega) (Ev.pos (by omega) (Ev.pos (by omega) ?_)))
            simp only [rdS_nat x i hix, hr]
            refine Ev.bind (text_ev a[j] x[i].f4 (haw _ (List.getElem_mem _)) ws) (Ev.ite (fun e => ?_) (fun e => ?_))
            · exact ihj (by omega) (by rw [hp, posG_succ, hg, if_pos e])
            · simp only [Option.bind_some]
              have := fin (j + 1) (by omega) (by rw [hp, posG_succ, hg, if_neg e])
              simp only [Option.bind_some] at this
              exact this
        exact inner a.length (Nat.le_refl _) rfl
  have := key x.length 0 (by omega) (by omega) [] (by simp) (by simp)
  rw [List.drop_zero, hostsB_fold] at this
  exact this
end Go.Proofs.Ytkpmaenhkjfncaa.L
