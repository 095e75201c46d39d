/- What layer 1 comes to, as plain Lean: names, which spans may be. -/
import Derived.Test.YtkpmaenhkjfncaaLibB
import Derived.Test.YtkpmaenhkjfncaaQOpens
import Derived.Test.YtkpmaenhkjfncaaQx2
import Derived.Test.YtkpmaenhkjfncaaQx3
import Derived.Test.YtkpmaenhkjfncaaQx4
import Derived.Test.YtkpmaenhkjfncaaQx6
import Derived.Test.YtkpmaenhkjfncaaQx7
namespace Go.Proofs.Ytkpmaenhkjfncaa.L
open Go.RowKit Go.Proofs.Ytkpmaenhkjfncaa.Q Go.Proofs.YtkpmaenhkjfncaaW.PrintWords Go.Proofs.YtkpmaenhkjfncaaW.PrintLast Go.Proofs.YtkpmaenhkjfncaaW.PrintMore Go.Proofs.YtkpmaenhkjfncaaW.Lib
set_option linter.unusedVariables false

def letterB (c : Int) : Bool := (decide (97 ≤ c) && decide (c ≤ 122)) || (decide (48 ≤ c) && decide (c ≤ 57)) || decide (c = 45) || decide (c = 46) || decide (c = 95)
theorem letter_f (c : Int) : span_letter.f c = some (letterB c) := by
  unfold span_letter.f letterB
  repeat' split
  all_goals (rw [Option.some.injEq, Bool.eq_iff_iff]; simp; omega)
def nameB (s : ByteArray) : Bool := decide (1 ≤ s.size) && decide (s.size ≤ 16) && (bytesOf s).all letterB

theorem name_l0 (s : ByteArray) (hs : s.size ≤ 140737488351232) : ∀ (d i : Nat), s.size - i = d → i ≤ s.size → Ev (fun k => span_Name.l0 k s (s.size : Int) (i : Int)) (((bytesOf s).drop i).all letterB)
  | 0, i, hd, hi => by
    refine Ev.step (f := fun _ => some true) (fun k => ?_) (Ev.cast (Ev.now true) ?_)
    · simp only [span_Name.l0]; rw [if_neg (by omega)]
    · rw [List.drop_of_length_le (by rw [bytesOf_size]; omega)]; rfl
  | d + 1, i, hd, hi => by
    have ih := name_l0 s hs d (i + 1) (by omega) (by omega)
    rw [bytesOf_drop s i (by omega), List.all_cons]
    refine Ev.step (f := fun k => if letterB (bt s i) = true then span_Name.l0 k s (s.size : Int) ((i + 1 : Nat) : Int) else some false) (fun k => ?_) ?_
    · simp only [span_Name.l0]
      rw [if_pos (by omega), if_pos (by omega), if_pos (by omega), letter_f]
      simp only [Option.bind_some]
      rw [wrap_id (by omega) (by omega)]; rfl
    · refine Ev.ite (fun h => ?_) (fun h => ?_)
      · rw [h, Bool.true_and]; exact ih
      · rw [Bool.not_eq_true] at h; rw [h, Bool.false_and]; exact Ev.now _

theorem name_ev (s : ByteArray) (hs : s.size ≤ 140737488351232) : Ev (fun k => span_Name.f k s) (nameB s) := by
  unfold span_Name.f nameB
  refine Ev.ite (fun h => ?_) (fun h => ?_)
  · refine Ev.step (f := fun _ => some false) (fun k => by simp [span_Name.j0]) (Ev.cast (Ev.now _) ?_)
    rw [decide_eq_false (by omega : ¬ 1 ≤ s.size)]; rfl
  · refine Ev.step (f := fun k => if decide ((s.size : Int) > 16) = true then some false else span_Name.l0 k s (s.size : Int) 0) (fun k => by simp only [span_Name.j0]) ?_
    refine Ev.ite (fun h2 => ?_) (fun h2 => ?_)
    · have h3 := of_decide_eq_true h2
      refine Ev.cast (Ev.now _) ?_
      rw [decide_eq_false (by omega : ¬ s.size ≤ 16)]; simp
    · have h3 : ¬ ((s.size : Int) > 16) := fun h4 => h2 (decide_eq_true h4)
      have := name_l0 s hs s.size 0 (by omega) (by omega)
      rw [decide_eq_true (by omega : 1 ≤ s.size), decide_eq_true (by omega : s.size ≤ 16)]
      simpa using this

def SIGNS : ByteArray := (⟨#[97, 98, 99, 100, 101, 102, 103, 104, 105, 106, 107, 108, 109, 110, 111, 112, 113, 114, 115, 116, 117, 118, 119, 120, 121, 122, 48, 49, 50, 51, 52, 53, 54, 55, 56, 57, 45, 46, 95]⟩ : ByteArray)
theorem signs_size : SIGNS.size = 39 := by rfl
theorem signs_letter (c : Int) (h0 : 0 ≤ c) (h1 : c ≤ 255) : (bytesOf SIGNS).any (fun x => decide (x = c)) = letterB c := by
  have key : ∀ n : Fin 256, (bytesOf SIGNS).any (fun x => decide (x = (n.val : Int))) = letterB (n.val : Int) := by decide +kernel
  have := key ⟨c.toNat, by omega⟩
  rw [show ((c.toNat : Nat) : Int) = c by omega] at this
  exact this

theorem rname_l1 (s : ByteArray) (hs : s.size ≤ 140737488351232) (i : Nat) (hi : i < s.size) (r : Bool) (hn : Ev (fun k => merkhetref01_Name.l0 k s SIGNS (wrap64 ((i : Int) + 1))) r) :
    ∀ (d j : Nat) (b : Bool), 39 - j = d → j ≤ 39 → Ev (fun k => merkhetref01_Name.l1 k s SIGNS (i : Int) b (j : Int)) ((b || ((bytesOf SIGNS).drop j).any (fun x => decide (x = bt s i))) && r)
  | 0, j, b, hd, hj => by
    have hj' : j = 39 := by omega
    subst hj'
    refine Ev.step (f := fun k => if b = true then merkhetref01_Name.l0 k s SIGNS (wrap64 ((i : Int) + 1)) else some false) (fun k => ?_) ?_
    · simp only [merkhetref01_Name.l1]; rw [if_neg (by rw [signs_size]; omega)]
    · have e : ((bytesOf SIGNS).drop 39).any (fun x => decide (x = bt s i)) = false := by rw [List.drop_of_length_le (by rw [bytesOf_size, signs_size]; omega)]; rfl
      rw [e, Bool.or_false]
      refine Ev.ite (fun h => ?_) (fun h => ?_)
      · rw [h, Bool.true_and]; exact hn
      · rw [Bool.not_eq_true] at h; rw [h, Bool.false_and]; exact Ev.now _
  | d + 1, j, b, hd, hj => by
    rw [bytesOf_drop SIGNS j (by rw [signs_size]; omega), List.any_cons]
    refine Ev.step (f := fun k => if bt SIGNS j = bt s i then merkhetref01_Name.l1 k s SIGNS (i : Int) true ((j + 1 : Nat) : Int) else merkhetref01_Name.l1 k s SIGNS (i : Int) b ((j + 1 : Nat) : Int)) (fun k => ?_) ?_
    · simp only [merkhetref01_Name.l1]
      rw [if_pos (by rw [signs_size]; omega), if_pos (by omega), if_pos (by omega), if_pos (by omega), wrap_id (by omega) (by omega)]; rfl
    · refine Ev.ite (fun h => ?_) (fun h => ?_)
      · refine Ev.cast (rname_l1 s hs i hi r hn d (j + 1) true (by omega) (by omega)) ?_
        rw [decide_eq_true h]; simp
      · refine Ev.cast (rname_l1 s hs i hi r hn d (j + 1) b (by omega) (by omega)) ?_
        rw [decide_eq_false h, Bool.false_or]

theorem rname_l0 (s : ByteArray) (hs : s.size ≤ 140737488351232) : ∀ (d i : Nat), s.size - i = d → i ≤ s.size → Ev (fun k => merkhetref01_Name.l0 k s SIGNS (i : Int)) (((bytesOf s).drop i).all letterB)
  | 0, i, hd, hi => by
    refine Ev.step (f := fun _ => some true) (fun k => ?_) (Ev.cast (Ev.now true) ?_)
    · simp only [merkhetref01_Name.l0]; rw [if_neg (by omega)]
    · rw [List.drop_of_length_le (by rw [bytesOf_size]; omega)]; rfl
  | d + 1, i, hd, hi => by
    have ih := rname_l0 s hs d (i + 1) (by omega) (by omega)
    rw [bytesOf_drop s i (by omega), List.all_cons]
    have hr := bt_range s i
    refine Ev.step (f := fun k => merkhetref01_Name.l1 k s SIGNS (i : Int) false 0) (fun k => ?_) ?_
    · simp only [merkhetref01_Name.l0]; rw [if_pos (by omega)]
    · refine Ev.cast (rname_l1 s hs i (by omega) _ (by rw [wrap_id (by omega) (by omega)]; exact ih) 39 0 false (by omega) (by omega)) ?_
      rw [List.drop_zero, signs_letter _ hr.1 hr.2, Bool.false_or]

theorem rname_ev (s : ByteArray) (hs : s.size ≤ 140737488351232) : Ev (fun k => merkhetref01_Name.f k s) (nameB s) := by
  unfold merkhetref01_Name.f nameB
  refine Ev.ite (fun h => ?_) (fun h => ?_)
  · refine Ev.step (f := fun _ => some false) (fun k => by simp [merkhetref01_Name.j0]) (Ev.cast (Ev.now _) ?_)
    have : s.size = 0 := by rw [toList_data] at h; simpa using congrArg List.length h
    rw [decide_eq_false (by omega : ¬ 1 ≤ s.size)]; rfl
  · have h0 : 1 ≤ s.size := by
      rcases Nat.eq_zero_or_pos s.size with h1 | h1
      · exact absurd (by rw [toList_data]; exact List.length_eq_zero_iff.1 (by simpa using h1)) h
      · exact h1
    refine Ev.step (f := fun k => if decide ((s.size : Int) > 16) = true then some false else merkhetref01_Name.l0 k s SIGNS 0) (fun k => by simp only [merkhetref01_Name.j0, SIGNS]) ?_
    refine Ev.ite (fun h2 => ?_) (fun h2 => ?_)
    · have h3 := of_decide_eq_true h2
      refine Ev.cast (Ev.now _) ?_
      rw [decide_eq_false (by omega : ¬ s.size ≤ 16)]; simp
    · have h3 : ¬ ((s.size : Int) > 16) := fun h4 => h2 (decide_eq_true h4)
      have := rname_l0 s hs s.size 0 (by omega) (by omega)
      rw [decide_eq_true h0, decide_eq_true (by omega : s.size ≤ 16)]
      simpa using this
end Go.Proofs.Ytkpmaenhkjfncaa.L
namespace Go.Proofs.Ytkpmaenhkjfncaa.L
open Go.RowKit Go.Proofs.Ytkpmaenhkjfncaa.Q Go.Proofs.YtkpmaenhkjfncaaW.PrintWords Go.Proofs.YtkpmaenhkjfncaaW.PrintLast Go.Proofs.YtkpmaenhkjfncaaW.PrintMore Go.Proofs.YtkpmaenhkjfncaaW.Lib
set_option linter.unusedVariables false

def mayB (t i p k : Int) (h n : ByteArray) (s d : Int) : Bool :=
  !(decide (t = 0) || decide (i = 0) || decide (p = i) || decide (k > 2)) && (!(decide (s < 0) || decide (s ≥ 1125899906842624) || decide (d < 0) || decide (d > 1125899906842624)) && (nameB h && nameB n))

theorem may_j1 (b : Bool) (t i p k : Int) (h n : ByteArray) (s d : Int) (hh : h.size ≤ 140737488351232) (hn : n.size ≤ 140737488351232) :
    Ev (fun m => span_May.j1 m b t i p k h n s d) (!b && (nameB h && nameB n)) := by
  refine Ev.step (f := fun m => if b = true then some false else (span_Name.f m h).bind fun x => if x = true then (span_Name.f m n).bind fun y => some y else some false) (fun m => by simp only [span_May.j1]) ?_
  refine Ev.ite (fun e => ?_) (fun e => ?_)
  · exact Ev.cast (Ev.now _) (by rw [e]; rfl)
  · refine Ev.bind (name_ev h hh) (Ev.ite (fun e1 => ?_) (fun e1 => ?_))
    · refine Ev.cast (Ev.bind (name_ev n hn) (Ev.now _)) ?_
      rw [Bool.not_eq_true] at e; rw [e, e1]; rfl
    · exact Ev.cast (Ev.now _) (by rw [Bool.not_eq_true] at e1; rw [e1]; simp)

theorem may_j0 (b : Bool) (t i p k : Int) (h n : ByteArray) (s d : Int) (hh : h.size ≤ 140737488351232) (hn : n.size ≤ 140737488351232) :
    Ev (fun m => span_May.j0 m b t i p k h n s d) (!b && (!(decide (s < 0) || decide (s ≥ 1125899906842624) || decide (d < 0) || decide (d > 1125899906842624)) && (nameB h && nameB n))) := by
  refine Ev.step (f := fun m => if b = true then some false else if s < 0 then span_May.j1 m (decide (s < 0)) t i p k h n s d else if s ≥ 1125899906842624 then span_May.j1 m (decide (s ≥ 1125899906842624)) t i p k h n s d else if d < 0 then span_May.j1 m (decide (d < 0)) t i p k h n s d else span_May.j1 m (decide (d > 1125899906842624)) t i p k h n s d) (fun m => by simp only [span_May.j0]) ?_
  refine Ev.ite (fun e => Ev.cast (Ev.now _) (by rw [e]; rfl)) (fun e => ?_)
  rw [Bool.not_eq_true] at e
  rw [e]
  refine Ev.ite (fun e1 => Ev.cast (may_j1 _ t i p k h n s d hh hn) (by simp [e1])) (fun e1 => ?_)
  refine Ev.ite (fun e2 => Ev.cast (may_j1 _ t i p k h n s d hh hn) (by simp [e2])) (fun e2 => ?_)
  refine Ev.ite (fun e3 => Ev.cast (may_j1 _ t i p k h n s d hh hn) (by simp [e3])) (fun e3 => ?_)
  exact Ev.cast (may_j1 _ t i p k h n s d hh hn) (by simp [e1, e2, e3])

theorem may_ev (t i p k : Int) (h n : ByteArray) (s d : Int) (hh : h.size ≤ 140737488351232) (hn : n.size ≤ 140737488351232) :
    Ev (fun m => span_May.f m t i p k h n s d) (mayB t i p k h n s d) := by
  unfold span_May.f mayB
  refine Ev.ite (fun e1 => Ev.cast (may_j0 _ t i p k h n s d hh hn) (by simp [e1])) (fun e1 => ?_)
  refine Ev.ite (fun e2 => Ev.cast (may_j0 _ t i p k h n s d hh hn) (by simp [e2])) (fun e2 => ?_)
  refine Ev.ite (fun e3 => Ev.cast (may_j0 _ t i p k h n s d hh hn) (by simp [e3])) (fun e3 => ?_)
  exact Ev.cast (may_j0 _ t i p k h n s d hh hn) (by simp [e1, e2, e3])

theorem rmay_j2 (b : Bool) (t i p k : Int) (h n : ByteArray) (s d : Int) (hh : h.size ≤ 140737488351232) (hn : n.size ≤ 140737488351232) :
    Ev (fun m => merkhetref01_May.j2 m b t i p k h n s d) (!b && (nameB h && nameB n)) := by
  refine Ev.step (f := fun m => if b = true then some false else (merkhetref01_Name.f m h).bind fun x => if x = true then (merkhetref01_Name.f m n).bind fun y => some y else some false) (fun m => by simp only [merkhetref01_May.j2]) ?_
  refine Ev.ite (fun e => ?_) (fun e => ?_)
  · exact Ev.cast (Ev.now _) (by rw [e]; rfl)
  · refine Ev.bind (rname_ev h hh) (Ev.ite (fun e1 => ?_) (fun e1 => ?_))
    · refine Ev.cast (Ev.bind (rname_ev n hn) (Ev.now _)) ?_
      rw [Bool.not_eq_true] at e; rw [e, e1]; rfl
    · exact Ev.cast (Ev.now _) (by rw [Bool.not_eq_true] at e1; rw [e1]; simp)

theorem rmay_j1 (b : Bool) (t i p k : Int) (h n : ByteArray) (s d : Int) (hh : h.size ≤ 140737488351232) (hn : n.size ≤ 140737488351232) :
    Ev (fun m => merkhetref01_May.j1 m b t i p k h n s d) (!b && (!(decide (s < 0) || decide (s ≥ 1125899906842624) || decide (d < 0) || decide (d > 1125899906842624)) && (nameB h && nameB n))) := by
  refine Ev.step (f := fun m => if b = true then some false else if s < 0 then merkhetref01_May.j2 m true t i p k h n s d else if s > 1125899906842623 then merkhetref01_May.j2 m true t i p k h n s d else if d < 0 then merkhetref01_May.j2 m true t i p k h n s d else merkhetref01_May.j2 m (decide (d > 1125899906842624)) t i p k h n s d) (fun m => by simp only [merkhetref01_May.j1]) ?_
  refine Ev.ite (fun e => Ev.cast (Ev.now _) (by rw [e]; rfl)) (fun e => ?_)
  rw [Bool.not_eq_true] at e
  rw [e]
  refine Ev.ite (fun e1 => Ev.cast (rmay_j2 _ t i p k h n s d hh hn) (by simp [e1])) (fun e1 => ?_)
  refine Ev.ite (fun e2 => Ev.cast (rmay_j2 _ t i p k h n s d hh hn) (by have : s ≥ 1125899906842624 := by omega
                                                                         simp [this])) (fun e2 => ?_)
  refine Ev.ite (fun e3 => Ev.cast (rmay_j2 _ t i p k h n s d hh hn) (by simp [e3])) (fun e3 => ?_)
  refine Ev.cast (rmay_j2 _ t i p k h n s d hh hn) ?_
  have : ¬ s ≥ 1125899906842624 := by omega
  simp [e1, this, e3]

theorem rmay_j0 (b : Bool) (t i p k : Int) (h n : ByteArray) (s d : Int) (hk : 0 ≤ k) (hh : h.size ≤ 140737488351232) (hn : n.size ≤ 140737488351232) :
    Ev (fun m => merkhetref01_May.j0 m b t i p k h n s d) (!(b || decide (k > 2)) && (!(decide (s < 0) || decide (s ≥ 1125899906842624) || decide (d < 0) || decide (d > 1125899906842624)) && (nameB h && nameB n))) := by
  refine Ev.step (f := fun m => if b = true then some false else if k = 0 then merkhetref01_May.j1 m false t i p k h n s d else if k = 1 then merkhetref01_May.j1 m false t i p k h n s d else merkhetref01_May.j1 m (k != 2) t i p k h n s d) (fun m => by simp only [merkhetref01_May.j0]) ?_
  refine Ev.ite (fun e => Ev.cast (Ev.now _) (by rw [e]; rfl)) (fun e => ?_)
  rw [Bool.not_eq_true] at e
  rw [e]
  refine Ev.ite (fun e1 => Ev.cast (rmay_j1 _ t i p k h n s d hh hn) (by rw [decide_eq_false (by omega : ¬ k > 2)]; rfl)) (fun e1 => ?_)
  refine Ev.ite (fun e2 => Ev.cast (rmay_j1 _ t i p k h n s d hh hn) (by rw [decide_eq_false (by omega : ¬ k > 2)]; rfl)) (fun e2 => ?_)
  refine Ev.cast (rmay_j1 _ t i p k h n s d hh hn) ?_
  have : (k != 2) = decide (k > 2) := by rw [Bool.eq_iff_iff]; simp; omega
  rw [this]; rfl

theorem rmay_ev (t i p k : Int) (h n : ByteArray) (s d : Int) (hk : 0 ≤ k) (hh : h.size ≤ 140737488351232) (hn : n.size ≤ 140737488351232) :
    Ev (fun m => merkhetref01_May.f m t i p k h n s d) (mayB t i p k h n s d) := by
  unfold merkhetref01_May.f mayB
  refine Ev.ite (fun e1 => Ev.cast (rmay_j0 _ t i p k h n s d hk hh hn) (by simp [e1])) (fun e1 => ?_)
  refine Ev.ite (fun e2 => Ev.cast (rmay_j0 _ t i p k h n s d hk hh hn) (by simp [e2])) (fun e2 => ?_)
  refine Ev.cast (rmay_j0 _ t i p k h n s d hk hh hn) ?_
  have : (p == i) = decide (p = i) := by rw [Bool.eq_iff_iff]; simp
  rw [this]; simp [e1, e2]

theorem mayB_le {t i p k : Int} {h n : ByteArray} {s d : Int} (hm : mayB t i p k h n s d = true) : 0 ≤ s ∧ s < 1125899906842624 ∧ 0 ≤ d ∧ d ≤ 1125899906842624 := by
  simp [mayB] at hm; omega
end Go.Proofs.Ytkpmaenhkjfncaa.L
