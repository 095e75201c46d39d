/- What layer 1 comes to, as plain Lean: the order of spans. -/
import Derived.Test.YtkpmaenhkjfncaaSpanA
import Derived.Test.YtkpmaenhkjfncaaBase0
import Derived.Test.YtkpmaenhkjfncaaSpanT
import Derived.Test.YtkpmaenhkjfncaaQOpens
import Derived.Test.YtkpmaenhkjfncaaQx3
import Derived.Test.YtkpmaenhkjfncaaQx4
import Derived.Test.YtkpmaenhkjfncaaQx5
import Derived.Test.YtkpmaenhkjfncaaQx6
namespace Go.Proofs.Ytkpmaenhkjfncaa.L
open Go.RowKit Go.Proofs.Ytkpmaenhkjfncaa.Q Go.Proofs.YtkpmaenhkjfncaaW.PrintWords Go.Proofs.YtkpmaenhkjfncaaW.PrintLast Go.Proofs.YtkpmaenhkjfncaaW.PrintMore Go.Proofs.YtkpmaenhkjfncaaW.Lib
set_option linter.unusedVariables false

/-- How two spans stand to one another. -/
def cmpS (a b : S27) : Int := firstNZ [cmpI a.f6 b.f6, cmpI a.f1 b.f1, cmpI a.f2 b.f2, cmpI a.f3 b.f3, cmpI a.f7 b.f7, cmpB a.f4 b.f4, cmpB a.f5 b.f5, cmpI a.f0 b.f0]
theorem cmpS_is : IsCmp cmpS := by
  have h := (lexC_is cmpI_is (lexC_is cmpI_is (lexC_is cmpI_is (lexC_is cmpI_is (lexC_is cmpI_is (lexC_is cmpB_is (lexC_is cmpB_is cmpI_is))))))).pull (fun x : S27 => (x.f6, x.f1, x.f2, x.f3, x.f7, x.f4, x.f5, x.f0)) (fun x y h => by
    cases x; cases y; simp at h; simp [h])
  have e : cmpS = fun x y => lexC cmpI (lexC cmpI (lexC cmpI (lexC cmpI (lexC cmpI (lexC cmpB (lexC cmpB cmpI)))))) (x.f6, x.f1, x.f2, x.f3, x.f7, x.f4, x.f5, x.f0) (y.f6, y.f1, y.f2, y.f3, y.f7, y.f4, y.f5, y.f0) := by
    funext x y
    have z : ∀ q : Int, (if q = 0 then (0 : Int) else q) = q := fun q => by split <;> omega
    simp only [cmpS, firstNZ, lexC, z]
  rw [e]; exact h

theorem cmpI64_f (a b : Int) : cmp_Compare_int64.f a b = some (cmpI a b) := by
  simp only [cmp_Compare_int64.f, cmp_isNaN_int64.f, Option.bind_some, bne_self_eq_false, Bool.false_eq_true, if_false, cmpI]
  (repeat' split) <;> rfl
theorem cmpU64_f (a b : Int) : cmp_Compare_uint64.f a b = some (cmpI a b) := by
  simp only [cmp_Compare_uint64.f, cmp_isNaN_uint64.f, Option.bind_some, bne_self_eq_false, Bool.false_eq_true, if_false, cmpI]
  (repeat' split) <;> rfl
theorem cmpU8_f (a b : Int) : cmp_Compare_uint8.f a b = some (cmpI a b) := by
  simp only [cmp_Compare_uint8.f, cmp_isNaN_uint8.f, Option.bind_some, bne_self_eq_false, Bool.false_eq_true, if_false, cmpI]
  (repeat' split) <;> rfl
theorem compare_f (a b : ByteArray) : strings_Compare.f a b = some (cmpB a b) := rfl

theorem rd_drop (l : List Int) (i : Nat) (h : i < l.length) : l.drop i = rd l (i : Int) :: l.drop (i + 1) := by
  rw [List.drop_eq_getElem_cons h]
  simp [rd, List.getD, h]
theorem first_l0 (l : List Int) (hl : l.length < 1000) : ∀ (d i : Nat), l.length - i = d → i ≤ l.length → Ev (fun k => span_first.l0 k l (l.length : Int) (i : Int)) (firstNZ (l.drop i))
  | 0, i, hd, hi => by
    refine Ev.step (f := fun _ => some 0) (fun k => ?_) (Ev.cast (Ev.now _) ?_)
    · simp only [span_first.l0]; rw [if_neg (by omega)]
    · rw [List.drop_of_length_le (by omega)]; rfl
  | d + 1, i, hd, hi => by
    have ih := first_l0 l hl d (i + 1) (by omega) (by omega)
    rw [rd_drop l i (by omega)]
    refine Ev.step (f := fun k => if rd l (i : Int) = 0 then span_first.l0 k l (l.length : Int) ((i + 1 : Nat) : Int) else some (rd l (i : Int))) (fun k => ?_) ?_
    · simp only [span_first.l0]
      rw [if_pos (by omega), if_pos (by omega), if_pos (by omega), wrap_id (by omega) (by omega)]; rfl
    · simp only [firstNZ]
      refine Ev.ite (fun e => ?_) (fun e => ?_)
      · rw [if_pos e]; exact ih
      · rw [if_neg e]; exact Ev.now _
theorem rcmp_l0 (l : List Int) (hl : l.length < 1000) : ∀ (d i : Nat), l.length - i = d → i ≤ l.length → Ev (fun k => merkhetref01_Cmp.l0 k l (i : Int)) (firstNZ (l.drop i))
  | 0, i, hd, hi => by
    refine Ev.step (f := fun _ => some 0) (fun k => ?_) (Ev.cast (Ev.now _) ?_)
    · simp only [merkhetref01_Cmp.l0]; rw [if_neg (by omega)]
    · rw [List.drop_of_length_le (by omega)]; rfl
  | d + 1, i, hd, hi => by
    have ih := rcmp_l0 l hl d (i + 1) (by omega) (by omega)
    rw [rd_drop l i (by omega)]
    refine Ev.step (f := fun k => if rd l (i : Int) = 0 then merkhetref01_Cmp.l0 k l ((i + 1 : Nat) : Int) else some (rd l (i : Int))) (fun k => ?_) ?_
    · simp only [merkhetref01_Cmp.l0]
      rw [if_pos (by omega), if_pos (by omega), wrap_id (by omega) (by omega)]; rfl
    · simp only [firstNZ]
      refine Ev.ite (fun e => ?_) (fun e => ?_)
      · rw [if_pos e]; exact ih
      · rw [if_neg e]; exact Ev.now _
theorem cmp_ev (a b : S27) : Ev (fun k => span_Cmp.f k a.f0 a.f1 a.f2 a.f3 a.f4 a.f5 a.f6 a.f7 b.f0 b.f1 b.f2 b.f3 b.f4 b.f5 b.f6 b.f7) (cmpS a b) := by
  simp only [span_Cmp.f, cmpI64_f, cmpU64_f, cmpU8_f, compare_f, Option.bind_some]
  exact Ev.bind (first_l0 _ (by simp) 8 0 rfl (by simp)) (Ev.now _)

theorem number_f (a b : Int) : merkhetref01_number.f (decide (a < b)) (decide (a > b)) = some (cmpI a b) := by
  unfold merkhetref01_number.f cmpI
  by_cases h1 : a < b
  · simp [h1]
  · by_cases h2 : a > b
    · simp [h1, h2]
    · simp [h1, h2]
theorem rcmp_ev (a b : S27) (h1 : a.f4.size ≤ 140737488351232) (h2 : a.f5.size ≤ 140737488351232) (h3 : b.f4.size ≤ 140737488351232) (h4 : b.f5.size ≤ 140737488351232) :
    Ev (fun k => merkhetref01_Cmp.f k a.f0 a.f1 a.f2 a.f3 a.f4 a.f5 a.f6 a.f7 b.f0 b.f1 b.f2 b.f3 b.f4 b.f5 b.f6 b.f7) (cmpS a b) := by
  simp only [merkhetref01_Cmp.f, number_f, Option.bind_some]
  exact Ev.bind (text_ev _ _ h1 h3) (Ev.bind (text_ev _ _ h2 h4) (rcmp_l0 _ (by simp) 8 0 rfl (by simp)))
end Go.Proofs.Ytkpmaenhkjfncaa.L
namespace Go.Proofs.Ytkpmaenhkjfncaa.L
open Go.RowKit Go.Proofs.Ytkpmaenhkjfncaa.Q Go.Proofs.YtkpmaenhkjfncaaW.PrintWords Go.Proofs.YtkpmaenhkjfncaaW.PrintLast Go.Proofs.YtkpmaenhkjfncaaW.PrintMore Go.Proofs.YtkpmaenhkjfncaaW.Lib
set_option linter.unusedVariables false

/-- Are two spans the same? -/
def eqS (x y : Span) : Bool := (x.f0 == y.f0) && ((x.f1 == y.f1) && ((x.f2 == y.f2) && ((x.f3 == y.f3) && ((x.f4.toList == y.f4.toList) && ((x.f5.toList == y.f5.toList) && ((x.f6 == y.f6) && (x.f7 == y.f7)))))))
theorem eqS_iff (x y : Span) : eqS x y = true ↔ x = y := by
  unfold eqS
  rw [toList_inj, toList_inj]
  cases x; cases y
  simp
theorem neqS (x y : Span) : ((!(x.f0 == y.f0)) || ((!(x.f1 == y.f1)) || ((!(x.f2 == y.f2)) || ((!(x.f3 == y.f3)) || ((!(x.f4.toList == y.f4.toList)) || ((!(x.f5.toList == y.f5.toList)) || ((!(x.f6 == y.f6)) || (!(x.f7 == y.f7))))))))) = !eqS x y := by
  unfold eqS; simp only [Bool.not_and]

def sameB : List Span → List Span → Bool
  | [], [] => true
  | x :: a, y :: b => eqS x y && sameB a b
  | _, _ => false
theorem sameB_iff : ∀ a b : List Span, sameB a b = true ↔ a = b
  | [], [] => by simp [sameB]
  | [], y :: b => by simp [sameB]
  | x :: a, [] => by simp [sameB]
  | x :: a, y :: b => by simp [sameB, eqS_iff, sameB_iff a b]
theorem sameB_self (a : List Span) : sameB a a = true := (sameB_iff a a).2 rfl
theorem same_l0 (a b : List Span) (hab : a.length = b.length) (ha : a.length ≤ maxLen) : ∀ (d i : Nat), a.length - i = d → i ≤ a.length → Ev (fun k => merkhetref01_Same.l0 k a b (i : Int)) (sameB (a.drop i) (b.drop i))
  | 0, i, hd, hi => by
    refine Ev.step (f := fun _ => some true) (fun k => ?_) (Ev.cast (Ev.now _) ?_)
    · simp only [merkhetref01_Same.l0]; rw [if_neg (by omega)]
    · rw [List.drop_of_length_le (by omega), List.drop_of_length_le (by omega)]; rfl
  | d + 1, i, hd, hi => by
    have ih := same_l0 a b hab ha d (i + 1) (by omega) (by omega)
    have hm : maxLen = 9223372036854775807 := rfl
    rw [List.drop_eq_getElem_cons (show i < a.length by omega), List.drop_eq_getElem_cons (show i < b.length by omega)]
    refine Ev.step (f := fun k => if (!eqS a[i] b[i]) = true then some false else merkhetref01_Same.l0 k a b ((i + 1 : Nat) : Int)) (fun k => ?_) ?_
    · simp only [merkhetref01_Same.l0]
      rw [if_pos (by omega), if_pos (by omega), if_pos (by omega), rdS_nat a i (by omega), rdS_nat b i (by omega), neqS, wrap_id (by omega) (by omega)]; rfl
    · simp only [sameB]
      refine Ev.ite (fun e => ?_) (fun e => ?_)
      · have : eqS a[i] b[i] = false := by simpa using e
        rw [this]; exact Ev.now _
      · have : eqS a[i] b[i] = true := by simpa using e
        rw [this, Bool.true_and]; exact ih
theorem sameB_len {a b : List Span} (h : a.length ≠ b.length) : sameB a b = false := by
  rw [Bool.eq_false_iff]; intro h'; exact h (by rw [(sameB_iff a b).1 h'])
theorem same_ev (a b : List Span) (ha : a.length ≤ maxLen) : Ev (fun k => merkhetref01_Same.f k a b) (sameB a b) := by
  unfold merkhetref01_Same.f
  refine Ev.ite (fun e => ?_) (fun e => ?_)
  · have := same_l0 a b (by omega) ha a.length 0 (by omega) (by omega)
    simpa using this
  · rw [sameB_len (by omega)]; exact Ev.now _

/-- Where a span stands among spans in order, from the end on. -/
def posS (l : List Span) (s : Span) : Nat → Nat
  | 0 => 0
  | j + 1 => if cmpS (l.getD j z27) s > 0 then posS l s j else j + 1
theorem posS_le (l : List Span) (s : Span) : ∀ j, posS l s j ≤ j
  | 0 => Nat.le_refl _
  | j + 1 => by
    unfold posS
    split
    · exact Nat.le_succ_of_le (posS_le l s j)
    · exact Nat.le_refl _
theorem posS_succ (l : List Span) (s : Span) (j : Nat) : posS l s (j + 1) = if cmpS (l.getD j z27) s > 0 then posS l s j else j + 1 := rfl
theorem posS_above (l : List Span) (s : Span) : ∀ j i, posS l s j ≤ i → i < j → cmpS (l.getD i z27) s > 0
  | 0, i, _, h => by omega
  | j + 1, i, h1, h2 => by
    unfold posS at h1
    split at h1
    · rename_i hc
      by_cases e : i = j
      · subst e; exact hc
      · exact posS_above l s j i h1 (by omega)
    · omega
theorem posS_below (l : List Span) (s : Span) : ∀ j, 0 < posS l s j → cmpS (l.getD (posS l s j - 1) z27) s ≤ 0
  | 0, h => by simp [posS] at h
  | j + 1, h => by
    unfold posS at h ⊢
    split
    · rename_i hc; rw [if_pos hc] at h; exact posS_below l s j h
    · rename_i hc; simp only [Nat.add_sub_cancel]; omega
def insS (l : List Span) (s : Span) : List Span := l.take (posS l s l.length) ++ s :: l.drop (posS l s l.length)
def sortR (l : List Span) : List Span := l.foldl insS []
theorem insS_length (l : List Span) (s : Span) : (insS l s).length = l.length + 1 := by
  have := posS_le l s l.length
  simp [insS]; omega
theorem insS_perm (l : List Span) (s : Span) : (insS l s).Perm (s :: l) := by
  unfold insS
  refine List.perm_middle.trans ?_
  rw [List.take_append_drop]
def leS (x y : Span) : Prop := cmpS x y ≤ 0
theorem insS_sorted {l : List Span} (s : Span) (h : l.Pairwise leS) : (insS l s).Pairwise leS := by
  have hp := posS_le l s l.length
  have ha := posS_above l s l.length
  have hb := posS_below l s l.length
  unfold insS
  generalize posS l s l.length = p at *
  have hs : ∀ i j (hi : i < l.length) (hj : j < l.length), i < j → leS l[i] l[j] := fun i j hi hj hij => List.pairwise_iff_getElem.1 h i j hi hj hij
  have h1 : ∀ x ∈ l.take p, leS x s := by
    intro x hx
    obtain ⟨i, hi, rfl⟩ := List.getElem_of_mem hx
    have hip : i < p ∧ i < l.length := by simp at hi; omega
    have h2 : leS l[p - 1] s := by have := hb (by omega); rw [List.getD, List.getElem?_eq_getElem (by omega)] at this; exact this
    rw [List.getElem_take]
    by_cases e : i = p - 1
    · subst e; exact h2
    · exact cmpS_is.trans _ _ _ (hs i (p - 1) hip.2 (by omega) (by omega)) h2
  have h2 : ∀ y ∈ l.drop p, leS s y := by
    intro y hy
    obtain ⟨i, hi, rfl⟩ := List.getElem_of_mem hy
    have hil : p + i < l.length := by simp at hi; omega
    rw [List.getElem_drop]
    have := ha (p + i) (by omega) hil
    rw [List.getD, List.getElem?_eq_getElem hil] at this
    have an := cmpS_is.anti l[p + i] s
    simp only [Option.getD_some] at this
    show cmpS s l[p + i] ≤ 0
    omega
  rw [List.pairwise_append]
  refine ⟨h.sublist (List.take_sublist _ _), ?_, ?_⟩
  · rw [List.pairwise_cons]
    exact ⟨h2, h.sublist (List.drop_sublist _ _)⟩
  · intro x hx y hy
    rcases List.mem_cons.1 hy with rfl | hy
    · exact h1 x hx
    · exact cmpS_is.trans _ _ _ (h1 x hx) (h2 y hy)
theorem foldl_ins (l : List Span) : ∀ a : List Span, a.Pairwise leS → (l.foldl insS a).Pairwise leS ∧ (l.foldl insS a).Perm (a ++ l) ∧ (l.foldl insS a).length = a.length + l.length := by
  induction l with
  | nil => intro a h; exact ⟨h, by simp, by simp⟩
  | cons s l ih =>
    intro a h
    obtain ⟨h1, h2, h3⟩ := ih (insS a s) (insS_sorted s h)
    refine ⟨h1, h2.trans ?_, by rw [List.foldl_cons, h3, insS_length]; simp; omega⟩
    refine ((insS_perm a s).append_right l).trans ?_
    simpa using (List.perm_middle (a := s) (l₁ := a) (l₂ := l)).symm
theorem sortR_sorted (l : List Span) : (sortR l).Pairwise leS := (foldl_ins l [] List.Pairwise.nil).1
theorem sortR_perm (l : List Span) : (sortR l).Perm l := by simpa [sortR] using (foldl_ins l [] List.Pairwise.nil).2.1
theorem sorted_one {a b : List Span} (ha : a.Pairwise leS) (hb : b.Pairwise leS) (h : a.Perm b) : a = b :=
  h.eq_of_pairwise (fun x y _ _ h1 h2 => (cmpS_is.zero x y).1 (by have := cmpS_is.anti x y; unfold leS at *; omega)) ha hb

theorem rsort_ev (x : List Span) (hx : x.length ≤ 1000000) (hw : ∀ s ∈ x, wf27 s) : Ev (fun k => merkhetref01_Sort.f k x) (sortR x) := by
  have hr : reachBytes = 140737488351232 := rfl
  have key : ∀ (d i : Nat), x.length - i = d → i ≤ x.length → ∀ a : List Span, a.length = i → (∀ s ∈ a, wf27 s) → Ev (fun k => merkhetref01_Sort.l0 k x a (i : Int)) ((x.drop i).foldl insS a) := by
    intro d
    induction d with
    | zero =>
      intro i hd hi a hal _
      refine Ev.step (f := fun _ => some a) (fun k => ?_) (Ev.cast (Ev.now _) ?_)
      · simp only [merkhetref01_Sort.l0]; rw [if_neg (by omega)]
      · rw [List.drop_of_length_le (by omega)]; rfl
    | succ d ih =>
      intro i hd hi a hal haw
      have hix : i < x.length := by omega
      rw [List.drop_eq_getElem_cons hix, List.foldl_cons]
      refine Ev.step (f := fun k => merkhetref01_Sort.l1 k x a (i : Int) (a.length : Int)) (fun k => ?_) ?_
      · simp only [merkhetref01_Sort.l0]; rw [if_pos (by omega)]
      -- the inner loop
      have ws := hw x[i] (List.getElem_mem hix)
      have fin : ∀ j : Nat, j ≤ a.length → posS a x[i] a.length = j → Ev (fun k => if 0 ≤ (j : Int) then (if (j : Int) ≤ (a.length : Int) then ((some (a.drop (j : Int).toNat : List Span)).bind fun y186 => (if ([] : List Span).length + y186.length < 1759218604441 then ((some (([] : List Span) ++ y186 : List Span)).bind fun y190 => ((some (a.take (j : Int).toNat : List Span)).bind fun y193 => (if y193.length < 1759218604441 then ((some (y193 ++ [x[i]] : List Span)).bind fun y197 => (if y197.length + y190.length < 1759218604441 then (merkhetref01_Sort.l0 k x (y197 ++ y190) (wrap64 ((i : Int) + 1))) else (none))) else (none)))) else (none))) else (none)) else (none)) ((x.drop (i + 1)).foldl insS (insS a x[i])) := by
        intro j hj hp
        have e1 : a.take j ++ [x[i]] ++ ([] ++ a.drop j) = insS a x[i] := by simp [insS, hp]
        refine Ev.pos (by omega) (Ev.pos (by omega) ?_)
        simp only [Option.bind_some, Int.toNat_natCast]
        refine Ev.pos (by simp; omega) (Ev.pos (by simp; omega) (Ev.pos (by simp; omega) ?_))
        rw [e1, wrap_id (by omega) (by omega)]
        refine ih (i + 1) (by omega) (by omega) _ (by rw [insS_length]; omega) (fun s hs => ?_)
        rcases List.mem_cons.1 ((insS_perm a x[i]).mem_iff.1 hs) with rfl | hs
        · exact ws
        · exact haw s hs
      have inner : ∀ j : Nat, j ≤ a.length → posS a x[i] a.length = posS a x[i] j → Ev (fun k => merkhetref01_Sort.l1 k x a (i : Int) (j : Int)) ((x.drop (i + 1)).foldl insS (insS a x[i])) := by
        intro j
        induction j with
        | zero =>
          intro hj hp
          refine Ev.succ ?_
          simp only [merkhetref01_Sort.l1, rdS_nat x i hix]
          refine Ev.neg (by omega) ?_
          simp only [Option.bind_some]
          have := fin 0 (by omega) (by rw [hp]; rfl)
          simp only [Option.bind_some] at this
          refine Ev.congr (fun k => ?_) this
          simp only [show (0 : Int) ≤ (i : Int) by omega, show (i : Int) < (x.length : Int) by omega, if_true]
        | succ j ihj =>
          intro hj hp
          refine Ev.succ ?_
          simp only [merkhetref01_Sort.l1]
          refine Ev.pos (by omega) ?_
          rw [wrap_id (by omega) (by omega), show ((j + 1 : Nat) : Int) - 1 = (j : Int) by omega]
          refine Ev.pos (by omega) (Ev.pos (by omega) (Ev.pos (by omega) (Ev.pos (by omega) ?_)))
          simp only [rdS_nat x i hix, rdS_nat a j (by omega)]
          have wa := haw a[j] (List.getElem_mem _)
          refine Ev.bind (rcmp_ev a[j] x[i] wa.2.2.2.2.1 wa.2.2.2.2.2.1 ws.2.2.2.2.1 ws.2.2.2.2.2.1) ?_
          have hg : a.getD j z27 = a[j] := by simp [List.getD, show j < a.length by omega]
          refine Ev.ite (fun e => ?_) (fun e => ?_)
          · exact ihj (by omega) (by rw [hp, posS_succ, hg, if_pos e])
          · simp only [Option.bind_some]
            have := fin (j + 1) (by omega) (by rw [hp, posS_succ, hg, if_neg e])
            simp only [Option.bind_some] at this
            exact this
      exact inner a.length (Nat.le_refl _) rfl
  have := key x.length 0 (by omega) (by omega) [] rfl (by simp)
  simpa [merkhetref01_Sort.f, sortR] using this
end Go.Proofs.Ytkpmaenhkjfncaa.L
