/- Whole numbers as floats: what reading, writing and reckoning come to where all values are small whole numbers. -/
import Derived.Test.YtkcnfdffemddlaaWWords
import GoSem.Core.Float
namespace Go.Proofs.YtkcnfdffemddlaaW.Flt
open Ieee
set_option linter.unusedVariables false

/-- A datum that stands for the whole number a. -/
def Val (d : Datum) (a : Int) : Prop := ∃ s m p, d = .number s m p ∧ p ≤ 0 ∧ m = a.natAbs * 2 ^ (-p).toNat ∧ (a ≠ 0 → s = decide (a < 0))

theorem shl_one (n : Nat) : 1 <<< n = 2 ^ n := by rw [Nat.shiftLeft_eq, Nat.one_mul]
theorem cut_exact (way : Toward) (neg : Bool) (n k : Nat) (hn : 0 < n) : way.cut neg (n * 2 ^ k) k = n := by
  unfold Toward.cut
  have hl : k ≤ (n * 2 ^ k).log2 + 2 := by
    have := (Nat.le_log2 (n := n * 2 ^ k) (k := k) (by have := Nat.two_pow_pos k; have := Nat.mul_pos hn this; omega)).2 (Nat.le_mul_of_pos_left _ hn)
    omega
  rw [Nat.min_eq_left hl, shl_one]
  have h1 : n * 2 ^ k / 2 ^ k = n := Nat.mul_div_cancel _ (Nat.two_pow_pos k)
  have h2 : n * 2 ^ k % 2 ^ k = 0 := Nat.mul_mod_left _ _
  simp only [h1, h2]
  have h3 := Nat.two_pow_pos k
  cases way <;> simp
theorem cut_zero (way : Toward) (neg : Bool) (k : Nat) : way.cut neg 0 k = 0 := by
  unfold Toward.cut
  cases way <;> simp
theorem log2_mul (n k : Nat) (hn : 0 < n) : (n * 2 ^ k).log2 = n.log2 + k := by
  have h := Nat.two_pow_pos k
  have hp : n * 2 ^ k ≠ 0 := by have := Nat.mul_pos hn h; omega
  apply Nat.le_antisymm
  · have h1 : n * 2 ^ k < 2 ^ (n.log2 + 1 + k) := by
      rw [Nat.pow_add]; exact Nat.mul_lt_mul_of_pos_right Nat.lt_log2_self h
    have := (Nat.log2_lt hp).2 h1
    omega
  · apply (Nat.le_log2 hp).2
    rw [Nat.pow_add]
    exact Nat.mul_le_mul_right _ (Nat.log2_self_le (by omega))

/-- The rung of a whole number. -/
def rung (m : Nat) : Nat := (m.log2 + 1022) * 2 ^ 52 + m * 2 ^ (52 - m.log2)
theorem nearest_val (neg : Bool) (m : Nat) (p : Int) (hp : p ≤ 0) (hm : 0 < m) (hb : m < 2 ^ 52) : double.nearest neg (m * 2 ^ (-p).toNat) p = double.word neg (rung m) := by
  have hlog : m.log2 < 52 := (Nat.log2_lt (by omega)).2 hb
  have h2 := Nat.two_pow_pos (-p).toNat
  have hne : m * 2 ^ (-p).toNat ≠ 0 := by have := Nat.mul_pos hm h2; omega
  unfold Format.nearest
  rw [if_neg hne, log2_mul _ _ hm]
  have hfb : ((double.fractionBits : Nat) : Int) = 52 := rfl
  have hlp : double.leastPlace = -1074 := by decide
  have hlast : max (p + ((m.log2 + (-p).toNat : Nat) : Int) - 52) (-1074) = (m.log2 : Int) - 52 := by omega
  simp only [hfb, hlp, hlast]
  have hkept : Toward.even.cut neg ((m * 2 ^ (-p).toNat) <<< (p - ((m.log2 : Int) - 52)).toNat) ((m.log2 : Int) - 52 - p).toNat = m * 2 ^ (52 - m.log2) := by
    rw [Nat.shiftLeft_eq, Nat.mul_assoc, ← Nat.pow_add]
    by_cases hc : (-p).toNat ≤ 52 - m.log2
    · rw [show ((m.log2 : Int) - 52 - p).toNat = 0 by omega, show (-p).toNat + (p - ((m.log2 : Int) - 52)).toNat = 52 - m.log2 by omega]
      have := cut_exact .even neg (m * 2 ^ (52 - m.log2)) 0 (Nat.mul_pos hm (Nat.two_pow_pos _))
      simpa using this
    · rw [show (-p).toNat + (p - ((m.log2 : Int) - 52)).toNat = (52 - m.log2) + ((m.log2 : Int) - 52 - p).toNat by omega, Nat.pow_add, ← Nat.mul_assoc]
      exact cut_exact .even neg _ _ (Nat.mul_pos hm (Nat.two_pow_pos _))
  rw [hkept]
  have hbin : double.binade = 2 ^ 52 := rfl
  have hinf : double.infRung = 2047 * 2 ^ 52 := by decide
  rw [hbin, hinf, show ((m.log2 : Int) - 52 - -1074).toNat = m.log2 + 1022 by omega]
  have hlt : m * 2 ^ (52 - m.log2) < 2 ^ 53 := by
    have h3 : m < 2 ^ (m.log2 + 1) := Nat.lt_log2_self
    calc m * 2 ^ (52 - m.log2) < 2 ^ (m.log2 + 1) * 2 ^ (52 - m.log2) := Nat.mul_lt_mul_of_pos_right h3 (Nat.two_pow_pos _)
      _ = 2 ^ 53 := by rw [← Nat.pow_add]; congr 1; omega
  rw [Nat.min_eq_left (by show (m.log2 + 1022) * 2 ^ 52 + m * 2 ^ (52 - m.log2) ≤ 2047 * 2 ^ 52; omega)]
  rfl
theorem nearest_zero (neg : Bool) (p : Int) : double.nearest neg 0 p = double.word neg 0 := by unfold Format.nearest; rw [if_pos rfl]

theorem rung_bounds (m : Nat) (hm : 0 < m) (hb : m < 2 ^ 52) : 2 ^ 52 ≤ m * 2 ^ (52 - m.log2) ∧ m * 2 ^ (52 - m.log2) < 2 ^ 53 := by
  have hlog : m.log2 < 52 := (Nat.log2_lt (by omega)).2 hb
  constructor
  · have h3 : 2 ^ m.log2 ≤ m := Nat.log2_self_le (by omega)
    calc 2 ^ 52 = 2 ^ m.log2 * 2 ^ (52 - m.log2) := by rw [← Nat.pow_add]; congr 1; omega
      _ ≤ _ := Nat.mul_le_mul_right _ h3
  · have h3 : m < 2 ^ (m.log2 + 1) := Nat.lt_log2_self
    calc m * 2 ^ (52 - m.log2) < 2 ^ (m.log2 + 1) * 2 ^ (52 - m.log2) := Nat.mul_lt_mul_of_pos_right h3 (Nat.two_pow_pos _)
      _ = 2 ^ 53 := by rw [← Nat.pow_add]; congr 1; omega
theorem read_eq {w : Nat} {neg : Bool} {r : Nat} (h1 : (w / 2 ^ 63 % 2 == 1) = neg) (h2 : w % 2 ^ 63 = r) :
    double.read w = if r < 2 ^ 52 then .number neg r (-1074) else if r < 2047 * 2 ^ 52 then .number neg (2 ^ 52 + r % 2 ^ 52) (-1074 + (r / 2 ^ 52 - 1 : Nat)) else if r = 2047 * 2 ^ 52 then .infinity neg else .nan neg (r - 2047 * 2 ^ 52) := by
  have hsw : double.signWeight = 2 ^ 63 := rfl
  have hbin : double.binade = 2 ^ 52 := rfl
  have hinf : double.infRung = 2047 * 2 ^ 52 := by decide
  have hlp : double.leastPlace = -1074 := by decide
  subst h1 h2
  have key : ∀ (a b c d : Nat) (e : Int), double.signWeight = a → double.binade = b → double.infRung = c → double.leastPlace = e → double.read w = if w % a < b then .number (w / a % 2 == 1) (w % a) e else if w % a < c then .number (w / a % 2 == 1) (b + w % a % b) (e + (w % a / b - 1 : Nat)) else if w % a = c then .infinity (w / a % 2 == 1) else .nan (w / a % 2 == 1) (w % a - c) := by
    rintro a b c _ e rfl rfl rfl rfl; rfl
  exact key _ _ _ 0 _ hsw hbin hinf hlp
theorem read_rung (neg : Bool) (m : Nat) (hm : 0 < m) (hb : m < 2 ^ 52) : double.read (double.word neg (rung m)) = .number neg (m * 2 ^ (52 - m.log2)) ((m.log2 : Int) - 52) := by
  have hlog : m.log2 < 52 := (Nat.log2_lt (by omega)).2 hb
  obtain ⟨h1, h2⟩ := rung_bounds m hm hb
  have hr : rung m = (m.log2 + 1022) * 2 ^ 52 + m * 2 ^ (52 - m.log2) := rfl
  have hsw : double.signWeight = 2 ^ 63 := rfl
  generalize m * 2 ^ (52 - m.log2) = q at *
  generalize m.log2 = k at *
  generalize rung m = r at *
  have hlt : r < 2 ^ 63 := by omega
  have hneg : (double.word neg r / 2 ^ 63 % 2 == 1) = neg := by
    unfold Format.word; rw [hsw]
    cases neg
    · have : r / 2 ^ 63 = 0 := by omega
      simp only [Bool.false_eq_true, if_false, this]; rfl
    · have : (2 ^ 63 + r) / 2 ^ 63 = 1 := by omega
      simp only [if_true, this]; rfl
  have hrem : double.word neg r % 2 ^ 63 = r := by
    unfold Format.word; rw [hsw]
    cases neg
    · simp only [Bool.false_eq_true, if_false]; omega
    · simp only [if_true]; omega
  rw [read_eq hneg hrem, if_neg (by omega), if_pos (by omega)]
  have e1 : r % 2 ^ 52 = q - 2 ^ 52 := by omega
  have e2 : r / 2 ^ 52 = k + 1023 := by omega
  have e3 : 2 ^ 52 + (q - 2 ^ 52) = q := by omega
  have e4 : (-1074 : Int) + ((k + 1023 - 1 : Nat) : Int) = (k : Int) - 52 := by omega
  rw [e1, e2, e3, e4]
theorem read_zero (neg : Bool) : double.read (double.word neg 0) = .number neg 0 (-1074) := by cases neg <;> decide

/-- The word of a whole number. -/
def enc (a : Int) : Nat := if a = 0 then 0 else double.word (decide (a < 0)) (rung a.natAbs)
/-- .. or the other zero. -/
def V (w : Nat) (a : Int) : Prop := w = enc a ∨ a = 0 ∧ w = double.word true 0
theorem enc_zero : enc 0 = 0 := rfl
theorem nearest_enc (a : Int) (hb : a.natAbs < 2 ^ 52) : FloatKind.f64.nearest a = enc a := by
  unfold FloatKind.nearest FloatKind.encode FloatKind.format Format.write enc
  by_cases h : a = 0
  · subst h; decide
  · rw [if_neg h]
    have := nearest_val (decide (a < 0)) a.natAbs 0 (Int.le_refl _) (by omega) hb
    simpa using this
theorem val_read {w : Nat} {a : Int} (h : V w a) (hb : a.natAbs < 2 ^ 52) : Val (double.read w) a := by
  rcases h with rfl | ⟨rfl, rfl⟩
  · unfold enc
    by_cases h : a = 0
    · subst h
      rw [if_pos rfl]
      exact ⟨false, 0, -1074, read_zero false, by omega, by rw [Int.natAbs_zero, Nat.zero_mul], fun h => absurd rfl h⟩
    · rw [if_neg h]
      have hlog : a.natAbs.log2 < 52 := (Nat.log2_lt (by omega)).2 hb
      exact ⟨_, _, _, read_rung _ _ (by omega) hb, by omega, by congr 2; omega, fun _ => rfl⟩
  · exact ⟨true, 0, -1074, read_zero true, by omega, by rw [Int.natAbs_zero, Nat.zero_mul], fun h => absurd rfl h⟩
theorem val_write {d : Datum} {a : Int} (h : Val d a) (hb : a.natAbs < 2 ^ 52) : V (double.write d) a := by
  obtain ⟨s, m, p, rfl, hp, rfl, hs⟩ := h
  show V (double.nearest s (a.natAbs * 2 ^ (-p).toNat) p) a
  by_cases h : a = 0
  · subst h
    simp only [Int.natAbs_zero, Nat.zero_mul, nearest_zero]
    cases s
    · exact .inl rfl
    · exact .inr ⟨rfl, rfl⟩
  · rw [nearest_val s a.natAbs p hp (by omega) hb, hs h]
    exact .inl (by unfold enc; rw [if_neg h])
theorem val_write_pos {m : Nat} {p : Int} {a : Int} (ha : a = 0) (hm : m = 0) : double.write (.number false m p) = enc a := by
  subst ha hm; show double.nearest false 0 p = _; rw [nearest_zero]; rfl

theorem signed_val {s : Bool} {a : Int} {q up : Nat} (hs : a ≠ 0 → s = decide (a < 0)) : signed s (a.natAbs * q) up = a * (q * 2 ^ up : Nat) := by
  unfold signed
  rw [Nat.shiftLeft_eq, Nat.mul_assoc]
  generalize q * 2 ^ up = z
  by_cases h : a = 0
  · subst h; cases s <;> simp
  · rw [hs h]
    by_cases h1 : a < 0
    · rw [decide_eq_true h1, if_pos rfl, Int.natCast_mul, ← Int.neg_mul, show -(a.natAbs : Int) = a by omega]
    · rw [decide_eq_false h1, if_neg (by simp), Int.natCast_mul, show (a.natAbs : Int) = a by omega]
theorem two_up {p b : Int} (hp : p ≤ 0) (hb : b ≤ p) : 2 ^ (-p).toNat * 2 ^ (p - b).toNat = 2 ^ (-b).toNat := by
  rw [← Nat.pow_add]; congr 1; omega
theorem val_sum {d e : Datum} {a b : Int} (hd : Val d a) (he : Val e b) : ∃ f, d.sum e = some f ∧ Val f (a + b) := by
  obtain ⟨s, m, p, rfl, hp, rfl, hs⟩ := hd
  obtain ⟨t, n, q, rfl, hq, rfl, ht⟩ := he
  refine ⟨_, rfl, ?_⟩
  rw [signed_val hs, signed_val ht, two_up hp (Int.min_le_left p q), two_up hq (Int.min_le_right p q), ← Int.add_mul]
  have hpos : 0 < 2 ^ (-(min p q)).toNat := Nat.two_pow_pos _
  generalize hz : 2 ^ (-(min p q)).toNat = z at *
  have hzp : (0 : Int) < (z : Int) := by omega
  refine ⟨_, _, _, rfl, by omega, by rw [hz, Int.natAbs_mul, Int.natAbs_natCast], fun h => ?_⟩
  have h0 : ¬ (a + b) * (z : Int) = 0 := fun h' => by
    rcases Int.mul_eq_zero.1 h' with h' | h' <;> omega
  rw [if_neg h0]
  by_cases h1 : a + b < 0
  · rw [decide_eq_true h1]; exact decide_eq_true (Int.mul_neg_of_neg_of_pos h1 hzp)
  · rw [decide_eq_false h1]; exact decide_eq_false (Int.not_lt.2 (Int.mul_nonneg (Int.not_lt.1 h1) (Int.le_of_lt hzp)))
theorem val_opp {d : Datum} {a : Int} (hd : Val d a) : Val d.opposite (-a) := by
  obtain ⟨s, m, p, rfl, hp, rfl, hs⟩ := hd
  refine ⟨!s, _, p, rfl, hp, by rw [Int.natAbs_neg], fun h => ?_⟩
  rw [hs (by omega)]
  by_cases h1 : a < 0
  · rw [decide_eq_true h1, decide_eq_false (by omega)]; rfl
  · rw [decide_eq_false h1, decide_eq_true (by omega)]; rfl
theorem val_prod {d e : Datum} {a b : Int} (hd : Val d a) (he : Val e b) : ∃ f, d.product e = some f ∧ Val f (a * b) := by
  obtain ⟨s, m, p, rfl, hp, rfl, hs⟩ := hd
  obtain ⟨t, n, q, rfl, hq, rfl, ht⟩ := he
  refine ⟨_, rfl, _, _, _, rfl, by omega, ?_, fun h => ?_⟩
  · rw [Int.natAbs_mul, show (-(p + q)).toNat = (-p).toNat + (-q).toNat by omega, Nat.pow_add]
    simp only [Nat.mul_assoc, Nat.mul_left_comm]
  · have ha : a ≠ 0 := fun h' => h (by rw [h', Int.zero_mul])
    have hb : b ≠ 0 := fun h' => h (by rw [h', Int.mul_zero])
    rw [hs ha, ht hb]
    by_cases h1 : a < 0 <;> by_cases h2 : b < 0
    · rw [decide_eq_true h1, decide_eq_true h2, decide_eq_false (Int.not_lt.2 (Int.mul_nonneg_of_nonpos_of_nonpos (by omega) (by omega)))]; rfl
    · rw [decide_eq_true h1, decide_eq_false h2, decide_eq_true (Int.mul_neg_of_neg_of_pos h1 (by omega))]; rfl
    · rw [decide_eq_false h1, decide_eq_true h2, decide_eq_true (Int.mul_neg_of_pos_of_neg (by omega) h2)]; rfl
    · rw [decide_eq_false h1, decide_eq_false h2, decide_eq_false (Int.not_lt.2 (Int.mul_nonneg (by omega) (by omega)))]; rfl
theorem val_order {d e : Datum} {a b : Int} (hd : Val d a) (he : Val e b) : d.order e = some (compare a b) := by
  obtain ⟨s, m, p, rfl, hp, rfl, hs⟩ := hd
  obtain ⟨t, n, q, rfl, hq, rfl, ht⟩ := he
  show some (compare _ _) = _
  rw [signed_val hs, signed_val ht, two_up hp (Int.min_le_left p q), two_up hq (Int.min_le_right p q)]
  have hpos : 0 < 2 ^ (-(min p q)).toNat := Nat.two_pow_pos _
  generalize 2 ^ (-(min p q)).toNat = z at *
  have hzp : (0 : Int) < (z : Int) := by omega
  congr 1
  simp only [compare, compareOfLessAndEq]
  by_cases h1 : a < b
  · rw [if_pos h1, if_pos (Int.mul_lt_mul_of_pos_right h1 hzp)]
  · rw [if_neg h1, if_neg (fun h => h1 (Int.lt_of_mul_lt_mul_right h (Int.le_of_lt hzp)))]
    by_cases h2 : a = b
    · rw [if_pos h2, if_pos (by rw [h2])]
    · rw [if_neg h2, if_neg (fun h => h2 (Int.eq_of_mul_eq_mul_right (by omega) h))]
theorem val_integral {d : Datum} {a : Int} (hd : Val d a) (way : Toward) : Val (d.integral way) a := by
  obtain ⟨s, m, p, rfl, hp, rfl, hs⟩ := hd
  refine ⟨s, _, 0, rfl, Int.le_refl _, ?_, hs⟩
  rw [show p.toNat = 0 by omega, Nat.shiftLeft_zero, show (-0 : Int).toNat = 0 by rfl, Nat.pow_zero, Nat.mul_one]
  rcases Nat.eq_zero_or_pos a.natAbs with h | h
  · rw [h, Nat.zero_mul]; exact cut_zero _ _ _
  · exact cut_exact _ _ _ _ h
theorem val_toInt {d : Datum} {a : Int} (hd : Val d a) : d.toInt .zero = some a := by
  obtain ⟨s, m, p, h, hp, hm, hs⟩ := val_integral hd .zero
  unfold Datum.toInt
  have h0 : p = 0 := by
    obtain ⟨s', m', p', rfl, _⟩ := hd
    simp only [Datum.integral] at h
    injection h with _ _ h3
    exact h3.symm
  rw [h]
  simp only
  subst h0 hm
  rw [signed_val hs]
  simp
end Go.Proofs.YtkcnfdffemddlaaW.Flt
