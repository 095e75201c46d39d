/- What layer 1's order comes to, as plain Lean: it is an order of all spans. -/
import Derived.Test.YtkcnfdffemddlaaSpanL
import Derived.Test.YtkcnfdffemddlaaQx3
import Derived.Test.YtkcnfdffemddlaaQx7
import Derived.Test.YtkcnfdffemddlaaQx8
namespace Go.Proofs.Ytkcnfdffemddlaa.L
open Go.RowKit Go.Proofs.Ytkcnfdffemddlaa.Q Go.Proofs.YtkcnfdffemddlaaW.PrintWords Go.Proofs.YtkcnfdffemddlaaW.PrintLast Go.Proofs.YtkcnfdffemddlaaW.PrintMore Go.Proofs.YtkcnfdffemddlaaW.Lib
set_option linter.unusedVariables false

def cmpI (a b : Int) : Int := if a < b then -1 else if a > b then 1 else 0
def cmpB (a b : ByteArray) : Int := Go.Lib.compareBytes a.data.toList b.data.toList
def firstNZ : List Int → Int
  | [] => 0
  | x :: l => if x = 0 then firstNZ l else x
/-- An order, told by -1, 0, 1. -/
structure IsCmp {α : Type} (c : α → α → Int) : Prop where
  rng : ∀ a b, -1 ≤ c a b ∧ c a b ≤ 1
  anti : ∀ a b, c b a = - c a b
  zero : ∀ a b, c a b = 0 ↔ a = b
  trans : ∀ a b d, c a b ≤ 0 → c b d ≤ 0 → c a d ≤ 0
theorem cmpI_is : IsCmp cmpI := by
  refine ⟨fun a b => ?_, fun a b => ?_, fun a b => ?_, fun a b d => ?_⟩ <;> unfold cmpI <;> (repeat' split) <;> omega
theorem cmpL_rng : ∀ a b : List UInt8, -1 ≤ Go.Lib.compareBytes a b ∧ Go.Lib.compareBytes a b ≤ 1
  | [], [] => by simp [Go.Lib.compareBytes]
  | [], _ :: _ => by simp [Go.Lib.compareBytes]
  | _ :: _, [] => by simp [Go.Lib.compareBytes]
  | x :: a, y :: b => by
    have := cmpL_rng a b
    simp only [Go.Lib.compareBytes]; (repeat' split) <;> omega
theorem cmpL_anti : ∀ a b : List UInt8, Go.Lib.compareBytes b a = - Go.Lib.compareBytes a b
  | [], [] => by simp [Go.Lib.compareBytes]
  | [], _ :: _ => by simp [Go.Lib.compareBytes]
  | _ :: _, [] => by simp [Go.Lib.compareBytes]
  | x :: a, y :: b => by
    have ih := cmpL_anti a b
    simp only [Go.Lib.compareBytes, UInt8.lt_iff_toNat_lt]; (repeat' split) <;> omega
theorem cmpL_zero : ∀ a b : List UInt8, Go.Lib.compareBytes a b = 0 ↔ a = b
  | [], [] => by simp [Go.Lib.compareBytes]
  | [], _ :: _ => by simp [Go.Lib.compareBytes]
  | _ :: _, [] => by simp [Go.Lib.compareBytes]
  | x :: a, y :: b => by
    have ih := cmpL_zero a b
    simp only [Go.Lib.compareBytes, UInt8.lt_iff_toNat_lt, List.cons.injEq, ← UInt8.toNat_inj, ← ih]; (repeat' split) <;> omega
theorem cmpL_trans : ∀ a b d : List UInt8, Go.Lib.compareBytes a b ≤ 0 → Go.Lib.compareBytes b d ≤ 0 → Go.Lib.compareBytes a d ≤ 0
  | [], _, [] => by simp [Go.Lib.compareBytes]
  | [], _, _ :: _ => by simp [Go.Lib.compareBytes]
  | _ :: _, [], _ => by simp [Go.Lib.compareBytes]
  | _ :: _, _ :: _, [] => by simp [Go.Lib.compareBytes]
  | x :: a, y :: b, z :: d => by
    have ih := cmpL_trans a b d
    simp only [Go.Lib.compareBytes, UInt8.lt_iff_toNat_lt]; (repeat' split) <;> omega
theorem cmpB_is : IsCmp cmpB := by
  refine ⟨fun a b => cmpL_rng _ _, fun a b => cmpL_anti _ _, fun a b => ?_, fun a b d => cmpL_trans _ _ _⟩
  unfold cmpB
  rw [cmpL_zero]
  constructor
  · intro h; cases a; cases b; simp_all
  · rintro rfl; rfl
def lexC {α β : Type} (c : α → α → Int) (d : β → β → Int) (x y : α × β) : Int := if c x.1 y.1 = 0 then d x.2 y.2 else c x.1 y.1
theorem lexC_is {α β : Type} {c : α → α → Int} {d : β → β → Int} (hc : IsCmp c) (hd : IsCmp d) : IsCmp (lexC c d) := by
  refine ⟨fun a b => ?_, fun a b => ?_, fun a b => ?_, fun a b e => ?_⟩
  · unfold lexC; have := hc.rng a.1 b.1; have := hd.rng a.2 b.2; split <;> omega
  · unfold lexC; have h1 := hc.anti a.1 b.1; have h2 := hd.anti a.2 b.2; (repeat' split) <;> omega
  · unfold lexC
    have h1 := hc.zero a.1 b.1
    have h2 := hd.zero a.2 b.2
    rw [Prod.ext_iff, ← h1, ← h2]
    split <;> omega
  · unfold lexC
    intro h1 h2
    have t1 := hc.trans a.1 b.1 e.1
    have t2 := hc.trans e.1 b.1 a.1
    have n1 := hc.anti a.1 b.1
    have n2 := hc.anti b.1 e.1
    have n3 := hc.anti a.1 e.1
    by_cases e1 : c a.1 b.1 = 0
    · have q1 := (hc.zero a.1 b.1).1 e1
      by_cases e2 : c b.1 e.1 = 0
      · have q2 := (hc.zero b.1 e.1).1 e2
        rw [if_pos e1] at h1
        rw [if_pos e2] at h2
        rw [if_pos ((hc.zero a.1 e.1).2 (q1.trans q2))]
        exact hd.trans _ _ _ h1 h2
      · rw [if_neg e2] at h2
        rw [q1, if_neg e2]
        exact h2
    · rw [if_neg e1] at h1
      by_cases e2 : c b.1 e.1 = 0
      · have q2 := (hc.zero b.1 e.1).1 e2
        rw [← q2, if_neg e1]
        exact h1
      · rw [if_neg e2] at h2
        have h3 := t1 h1 h2
        by_cases e3 : c a.1 e.1 = 0
        · exfalso
          have q3 := (hc.zero a.1 e.1).1 e3
          rw [q3] at n1 h1 e1
          omega
        · rw [if_neg e3]; exact h3
theorem IsCmp.pull {α β : Type} {c : α → α → Int} (hc : IsCmp c) (f : β → α) (hf : ∀ x y, f x = f y → x = y) : IsCmp (fun x y => c (f x) (f y)) :=
  ⟨fun a b => hc.rng _ _, fun a b => hc.anti _ _, fun a b => (hc.zero _ _).trans ⟨hf a b, fun h => by rw [h]⟩, fun a b d => hc.trans _ _ _⟩

/-- How two spans stand to one another. -/
def cmpS (a b : S39) : Int := firstNZ [cmpI a.f6 b.f6, cmpI a.f1 b.f1, cmpI a.f2 b.f2, cmpI a.f3 b.f3, cmpI a.f7 b.f7, cmpB a.f4 b.f4, cmpB a.f5 b.f5, cmpI a.f0 b.f0]
theorem cmpS_is : IsCmp cmpS := by
  have h := (lexC_is cmpI_is (lexC_is cmpI_is (lexC_is cmpI_is (lexC_is cmpI_is (lexC_is cmpI_is (lexC_is cmpB_is (lexC_is cmpB_is cmpI_is))))))).pull (fun x : S39 => (x.f6, x.f1, x.f2, x.f3, x.f7, x.f4, x.f5, x.f0)) (fun x y h => by
    cases x; cases y; simp at h; simp [h])
  have e : cmpS = fun x y => lexC cmpI (lexC cmpI (lexC cmpI (lexC cmpI (lexC cmpI (lexC cmpB (lexC cmpB cmpI)))))) (x.f6, x.f1, x.f2, x.f3, x.f7, x.f4, x.f5, x.f0) (y.f6, y.f1, y.f2, y.f3, y.f7, y.f4, y.f5, y.f0) := by
    funext x y
    have z : ∀ q : Int, (if q = 0 then (0 : Int) else q) = q := fun q => by split <;> omega
    simp only [cmpS, firstNZ, lexC, z]
  rw [e]; exact h

theorem cmpI64_f (a b : Int) : cmp_Compare_int64.f a b = some (cmpI a b) := by
  simp only [cmp_Compare_int64.f, cmp_isNaN_int64.f, Option.bind_some, bne_self_eq_false, Bool.false_eq_true, if_false, cmpI]
  (repeat' split) <;> rfl
theorem cmpU64_f (a b : Int) : cmp_Compare_uint64.f a b = some (cmpI a b) := by
  simp only [cmp_Compare_uint64.f, cmp_isNaN_uint64.f, Option.bind_some, bne_self_eq_false, Bool.false_eq_true, if_false, cmpI]
  (repeat' split) <;> rfl
theorem cmpU8_f (a b : Int) : cmp_Compare_uint8.f a b = some (cmpI a b) := by
  simp only [cmp_Compare_uint8.f, cmp_isNaN_uint8.f, Option.bind_some, bne_self_eq_false, Bool.false_eq_true, if_false, cmpI]
  (repeat' split) <;> rfl
theorem compare_f (a b : ByteArray) : strings_Compare.f a b = some (cmpB a b) := rfl

theorem rd_drop (l : List Int) (i : Nat) (h : i < l.length) : l.drop i = rd l (i : Int) :: l.drop (i + 1) := by
  rw [List.drop_eq_getElem_cons h]
  simp [rd, List.getD, h]
theorem first_l0 (l : List Int) (hl : l.length < 1000) : ∀ (d i : Nat), l.length - i = d → i ≤ l.length → Ev (fun k => span_first.l0 k l (l.length : Int) (i : Int)) (firstNZ (l.drop i))
  | 0, i, hd, hi => by
    refine Ev.step (f := fun _ => some 0) (fun k => ?_) (Ev.cast (Ev.now _) ?_)
    · simp only [span_first.l0]; rw [if_neg (by omega)]
    · rw [List.drop_of_length_le (by omega)]; rfl
  | d + 1, i, hd, hi => by
    have ih := first_l0 l hl d (i + 1) (by omega) (by omega)
    rw [rd_drop l i (by omega)]
    refine Ev.step (f := fun k => if rd l (i : Int) = 0 then span_first.l0 k l (l.length : Int) ((i + 1 : Nat) : Int) else some (rd l (i : Int))) (fun k => ?_) ?_
    · simp only [span_first.l0]
      rw [if_pos (by omega), if_pos (by omega), if_pos (by omega), wrap_id (by omega) (by omega)]; rfl
    · simp only [firstNZ]
      refine Ev.ite (fun e => ?_) (fun e => ?_)
      · rw [if_pos e]; exact ih
      · rw [if_neg e]; exact Ev.now _
theorem rcmp_l0 (l : List Int) (hl : l.length < 1000) : ∀ (d i : Nat), l.length - i = d → i ≤ l.length → Ev (fun k => merkhetref01_Cmp.l0 k l (i : Int)) (firstNZ (l.drop i))
  | 0, i, hd, hi => by
    refine Ev.step (f := fun _ => some 0) (fun k => ?_) (Ev.cast (Ev.now _) ?_)
    · simp only [merkhetref01_Cmp.l0]; rw [if_neg (by omega)]
    · rw [List.drop_of_length_le (by omega)]; rfl
  | d + 1, i, hd, hi => by
    have ih := rcmp_l0 l hl d (i + 1) (by omega) (by omega)
    rw [rd_drop l i (by omega)]
    refine Ev.step (f := fun k => if rd l (i : Int) = 0 then merkhetref01_Cmp.l0 k l ((i + 1 : Nat) : Int) else some (rd l (i : Int))) (fun k => ?_) ?_
    · simp only [merkhetref01_Cmp.l0]
      rw [if_pos (by omega), if_pos (by omega), wrap_id (by omega) (by omega)]; rfl
    · simp only [firstNZ]
      refine Ev.ite (fun e => ?_) (fun e => ?_)
      · rw [if_pos e]; exact ih
      · rw [if_neg e]; exact Ev.now _
theorem cmp_ev (a b : S39) : Ev (fun k => span_Cmp.f k a.f0 a.f1 a.f2 a.f3 a.f4 a.f5 a.f6 a.f7 b.f0 b.f1 b.f2 b.f3 b.f4 b.f5 b.f6 b.f7) (cmpS a b) := by
  simp only [span_Cmp.f, cmpI64_f, cmpU64_f, cmpU8_f, compare_f, Option.bind_some]
  exact Ev.bind (first_l0 _ (by simp) 8 0 rfl (by simp)) (Ev.now _)

theorem number_f (a b : Int) : merkhetref01_number.f (decide (a < b)) (decide (a > b)) = some (cmpI a b) := by
  unfold merkhetref01_number.f cmpI
  by_cases h1 : a < b
  · simp [h1]
  · by_cases h2 : a > b
    · simp [h1, h2]
    · simp [h1, h2]
theorem data_drop (s : ByteArray) (i : Nat) (h : i < s.size) : ∃ x : UInt8, s.data.toList.drop i = x :: s.data.toList.drop (i + 1) ∧ (x.toNat : Int) = bt s (i : Int) := by
  have h' : i < s.data.toList.length := by simpa using h
  refine ⟨s.data.toList[i], List.drop_eq_getElem_cons h', ?_⟩
  rw [← bt_at s (i : Int) (by simpa using h)]
  simp [ByteArray.getElem_eq_getElem_data]
theorem text_l0 (a b : ByteArray) (ha : a.size ≤ 140737488351232) (hb : b.size ≤ 140737488351232) : ∀ (d i : Nat), a.size - i = d → i ≤ a.size → i ≤ b.size →
    Ev (fun k => merkhetref01_Text.l0 k a b (i : Int)) (Go.Lib.compareBytes (a.data.toList.drop i) (b.data.toList.drop i)) := by
  have stop : ∀ i : Nat, i ≤ a.size → i ≤ b.size → ¬ (i < a.size ∧ i < b.size) → (if (a.size : Int) < (b.size : Int) then (-1 : Int) else if (a.size : Int) > (b.size : Int) then 1 else 0) = Go.Lib.compareBytes (a.data.toList.drop i) (b.data.toList.drop i) := by
    intro i h1 h2 h3
    by_cases e1 : i < a.size
    · obtain ⟨x, hx, _⟩ := data_drop a i e1
      rw [hx, List.drop_of_length_le (l := b.data.toList) (by simp; omega), if_neg (by omega), if_pos (by omega)]; rfl
    · by_cases e2 : i < b.size
      · obtain ⟨x, hx, _⟩ := data_drop b i e2
        rw [hx, List.drop_of_length_le (l := a.data.toList) (by simp; omega), if_pos (by omega)]; rfl
      · rw [List.drop_of_length_le (l := a.data.toList) (by simp; omega), List.drop_of_length_le (l := b.data.toList) (by simp; omega), if_neg (by omega), if_neg (by omega)]; rfl
  have fin : ∀ i : Nat, i ≤ a.size → i ≤ b.size → ¬ (i < a.size ∧ i < b.size) → Ev (fun k => merkhetref01_Text.j1 k a b (i : Int) false) (Go.Lib.compareBytes (a.data.toList.drop i) (b.data.toList.drop i)) := by
    intro i h1 h2 h3
    refine Ev.step (f := fun _ => if (a.size : Int) < (b.size : Int) then some (-1) else if (a.size : Int) > (b.size : Int) then some 1 else some 0) (fun k => by simp [merkhetref01_Text.j1]) ?_
    rw [← stop i h1 h2 h3]
    refine Ev.ite (fun e => ?_) (fun e => ?_)
    · rw [if_pos e]; exact Ev.now _
    · rw [if_neg e]
      refine Ev.ite (fun e => ?_) (fun e => ?_)
      · rw [if_pos e]; exact Ev.now _
      · rw [if_neg e]; exact Ev.now _
  intro d
  induction d with
  | zero =>
    intro i hd h1 h2
    refine Ev.step (f := fun k => merkhetref01_Text.j1 k a b (i : Int) false) (fun k => by simp only [merkhetref01_Text.l0]; rw [if_neg (by omega)]) (fin i h1 h2 (by omega))
  | succ d ih =>
    intro i hd h1 h2
    refine Ev.step (f := fun k => merkhetref01_Text.j1 k a b (i : Int) (decide ((i : Int) < (b.size : Int)))) (fun k => by simp only [merkhetref01_Text.l0]; rw [if_pos (by omega)]) ?_
    by_cases e : i < b.size
    · rw [decide_eq_true (by omega : (i : Int) < (b.size : Int))]
      obtain ⟨x, hx, ex⟩ := data_drop a i (by omega)
      obtain ⟨y, hy, ey⟩ := data_drop b i e
      refine Ev.step (f := fun k => if bt a (i : Int) < bt b (i : Int) then some (-1) else if bt a (i : Int) > bt b (i : Int) then some 1 else merkhetref01_Text.l0 k a b ((i + 1 : Nat) : Int)) (fun k => ?_) ?_
      · simp only [merkhetref01_Text.j1]
        rw [if_pos trivial, if_pos (by omega), if_pos (by omega), if_pos (by omega), wrap_id (by omega) (by omega)]; rfl
      · rw [hx, hy]
        simp only [Go.Lib.compareBytes, UInt8.lt_iff_toNat_lt]
        refine Ev.ite (fun e1 => ?_) (fun e1 => ?_)
        · rw [if_pos (by omega)]; exact Ev.now _
        · rw [if_neg (by omega)]
          refine Ev.ite (fun e2 => ?_) (fun e2 => ?_)
          · rw [if_pos (by omega)]; exact Ev.now _
          · rw [if_neg (by omega)]; exact ih (i + 1) (by omega) (by omega) (by omega)
    · rw [decide_eq_false (by omega : ¬ (i : Int) < (b.size : Int))]
      exact fin i h1 h2 (by omega)
theorem text_ev (a b : ByteArray) (ha : a.size ≤ 140737488351232) (hb : b.size ≤ 140737488351232) : Ev (fun k => merkhetref01_Text.f k a b) (cmpB a b) := by
  have := text_l0 a b ha hb a.size 0 (by omega) (by omega) (by omega)
  simpa [merkhetref01_Text.f, cmpB] using this
theorem rcmp_ev (a b : S39) (h1 : a.f4.size ≤ 140737488351232) (h2 : a.f5.size ≤ 140737488351232) (h3 : b.f4.size ≤ 140737488351232) (h4 : b.f5.size ≤ 140737488351232) :
    Ev (fun k => merkhetref01_Cmp.f k a.f0 a.f1 a.f2 a.f3 a.f4 a.f5 a.f6 a.f7 b.f0 b.f1 b.f2 b.f3 b.f4 b.f5 b.f6 b.f7) (cmpS a b) := by
  simp only [merkhetref01_Cmp.f, number_f, Option.bind_some]
  exact Ev.bind (text_ev _ _ h1 h3) (Ev.bind (text_ev _ _ h2 h4) (rcmp_l0 _ (by simp) 8 0 rfl (by simp)))
end Go.Proofs.Ytkcnfdffemddlaa.L
