/- What the document's order of texts comes to, as plain Lean. -/
import Derived.Test.YtkpmaenhkjfncaaLibB
import Derived.Test.YtkpmaenhkjfncaaBase0
import Derived.Test.YtkpmaenhkjfncaaQx3
namespace Go.Proofs.Ytkpmaenhkjfncaa.L
open Go.RowKit Go.Proofs.Ytkpmaenhkjfncaa.Q Go.Proofs.YtkpmaenhkjfncaaW.PrintWords Go.Proofs.YtkpmaenhkjfncaaW.PrintLast Go.Proofs.YtkpmaenhkjfncaaW.PrintMore Go.Proofs.YtkpmaenhkjfncaaW.Lib
set_option linter.unusedVariables false

abbrev Span := S27
def rdS (l : List Span) (i : Int) : Span := rd_T27 l i
theorem rdS_nat (l : List Span) (i : Nat) (h : i < l.length) : rd_T27 l (i : Int) = l[i] := by simp [rd_T27, List.getD, h]
theorem data_drop (s : ByteArray) (i : Nat) (h : i < s.size) : ∃ x : UInt8, s.data.toList.drop i = x :: s.data.toList.drop (i + 1) ∧ (x.toNat : Int) = bt s (i : Int) := by
  have h' : i < s.data.toList.length := by simpa using h
  refine ⟨s.data.toList[i], List.drop_eq_getElem_cons h', ?_⟩
  rw [← bt_at s (i : Int) (by simpa using h)]
  simp [ByteArray.getElem_eq_getElem_data]
theorem text_l0 (a b : ByteArray) (ha : a.size ≤ 140737488351232) (hb : b.size ≤ 140737488351232) : ∀ (d i : Nat), a.size - i = d → i ≤ a.size → i ≤ b.size →
    Ev (fun k => merkhetref01_Text.l0 k a b (i : Int)) (Go.Lib.compareBytes (a.data.toList.drop i) (b.data.toList.drop i)) := by
  have stop : ∀ i : Nat, i ≤ a.size → i ≤ b.size → ¬ (i < a.size ∧ i < b.size) → (if (a.size : Int) < (b.size : Int) then (-1 : Int) else if (a.size : Int) > (b.size : Int) then 1 else 0) = Go.Lib.compareBytes (a.data.toList.drop i) (b.data.toList.drop i) := by
    intro i h1 h2 h3
    by_cases e1 : i < a.size
    · obtain ⟨x, hx, _⟩ := data_drop a i e1
      rw [hx, List.drop_of_length_le (l := b.data.toList) (by simp; omega), if_neg (by omega), if_pos (by omega)]; rfl
    · by_cases e2 : i < b.size
      · obtain ⟨x, hx, _⟩ := data_drop b i e2
        rw [hx, List.drop_of_length_le (l := a.data.toList) (by simp; omega), if_pos (by omega)]; rfl
      · rw [List.drop_of_length_le (l := a.data.toList) (by simp; omega), List.drop_of_length_le (l := b.data.toList) (by simp; omega), if_neg (by omega), if_neg (by omega)]; rfl
  have fin : ∀ i : Nat, i ≤ a.size → i ≤ b.size → ¬ (i < a.size ∧ i < b.size) → Ev (fun k => merkhetref01_Text.j1 k a b (i : Int) false) (Go.Lib.compareBytes (a.data.toList.drop i) (b.data.toList.drop i)) := by
    intro i h1 h2 h3
    refine Ev.step (f := fun _ => if (a.size : Int) < (b.size : Int) then some (-1) else if (a.size : Int) > (b.size : Int) then some 1 else some 0) (fun k => by simp [merkhetref01_Text.j1]) ?_
    rw [← stop i h1 h2 h3]
    refine Ev.ite (fun e => ?_) (fun e => ?_)
    · rw [if_pos e]; exact Ev.now _
    · rw [if_neg e]
      refine Ev.ite (fun e => ?_) (fun e => ?_)
      · rw [if_pos e]; exact Ev.now _
      · rw [if_neg e]; exact Ev.now _
  intro d
  induction d with
  | zero =>
    intro i hd h1 h2
    refine Ev.step (f := fun k => merkhetref01_Text.j1 k a b (i : Int) false) (fun k => by simp only [merkhetref01_Text.l0]; rw [if_neg (by omega)]) (fin i h1 h2 (by omega))
  | succ d ih =>
    intro i hd h1 h2
    refine Ev.step (f := fun k => merkhetref01_Text.j1 k a b (i : Int) (decide ((i : Int) < (b.size : Int)))) (fun k => by simp only [merkhetref01_Text.l0]; rw [if_pos (by omega)]) ?_
    by_cases e : i < b.size
    · rw [decide_eq_true (by omega : (i : Int) < (b.size : Int))]
      obtain ⟨x, hx, ex⟩ := data_drop a i (by omega)
      obtain ⟨y, hy, ey⟩ := data_drop b i e
      refine Ev.step (f := fun k => if bt a (i : Int) < bt b (i : Int) then some (-1) else if bt a (i : Int) > bt b (i : Int) then some 1 else merkhetref01_Text.l0 k a b ((i + 1 : Nat) : Int)) (fun k => ?_) ?_
      · simp only [merkhetref01_Text.j1]
        rw [if_pos trivial, if_pos (by omega), if_pos (by omega), if_pos (by omega), wrap_id (by omega) (by omega)]; rfl
      · rw [hx, hy]
        simp only [Go.Lib.compareBytes, UInt8.lt_iff_toNat_lt]
        refine Ev.ite (fun e1 => ?_) (fun e1 => ?_)
        · rw [if_pos (by omega)]; exact Ev.now _
        · rw [if_neg (by omega)]
          refine Ev.ite (fun e2 => ?_) (fun e2 => ?_)
          · rw [if_pos (by omega)]; exact Ev.now _
          · rw [if_neg (by omega)]; exact ih (i + 1) (by omega) (by omega) (by omega)
    · rw [decide_eq_false (by omega : ¬ (i : Int) < (b.size : Int))]
      exact fin i h1 h2 (by omega)
theorem text_ev (a b : ByteArray) (ha : a.size ≤ 140737488351232) (hb : b.size ≤ 140737488351232) : Ev (fun k => merkhetref01_Text.f k a b) (cmpB a b) := by
  have := text_l0 a b ha hb a.size 0 (by omega) (by omega) (by omega)
  simpa [merkhetref01_Text.f, cmpB] using this
end Go.Proofs.Ytkpmaenhkjfncaa.L
