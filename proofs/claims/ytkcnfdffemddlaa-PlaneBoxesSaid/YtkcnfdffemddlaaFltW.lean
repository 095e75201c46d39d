/- Which words are those of whole numbers from -2^20 to 2^20. -/
import Derived.Test.YtkcnfdffemddlaaFlt
namespace Go.Proofs.YtkcnfdffemddlaaW.Flt
open Ieee
set_option linter.unusedVariables false

/-- What is read of any word. -/
theorem read_cases (w : Nat) (hw : w < 2 ^ 64) : ∃ s r, w = double.word s r ∧ r < 2 ^ 63 ∧
    ((r < 2 ^ 52 ∧ double.read w = .number s r (-1074)) ∨ (∃ e f : Nat, 1 ≤ e ∧ e < 2047 ∧ f < 2 ^ 52 ∧ r = e * 2 ^ 52 + f ∧ double.read w = .number s (2 ^ 52 + f) ((e : Int) - 1075)) ∨
      double.read w = .infinity s ∨ ∃ q, double.read w = .nan s q) := by
  have hsw : double.signWeight = 2 ^ 63 := rfl
  obtain ⟨s, hs⟩ : ∃ s, (w / 2 ^ 63 % 2 == 1) = s := ⟨_, rfl⟩
  obtain ⟨r, hr⟩ : ∃ r, w % 2 ^ 63 = r := ⟨_, rfl⟩
  have h := read_eq hs hr
  have hw' : w = double.word s r := by
    unfold Format.word; rw [hsw]
    cases s
    · have h1 : ¬ (w / 2 ^ 63 % 2 = 1) := by simpa using hs
      simp only [Bool.false_eq_true, if_false]; omega
    · have h1 : w / 2 ^ 63 % 2 = 1 := by simpa using hs
      simp only [if_true]; omega
  refine ⟨s, r, hw', by omega, ?_⟩
  by_cases h1 : r < 2 ^ 52
  · rw [if_pos h1] at h; exact .inl ⟨h1, h⟩
  · rw [if_neg h1] at h
    by_cases h2 : r < 2047 * 2 ^ 52
    · rw [if_pos h2] at h
      have e1 : (-1074 : Int) + ((r / 2 ^ 52 - 1 : Nat) : Int) = ((r / 2 ^ 52 : Nat) : Int) - 1075 := by omega
      rw [e1] at h
      exact .inr (.inl ⟨r / 2 ^ 52, r % 2 ^ 52, by omega, by omega, by omega, by omega, h⟩)
    · rw [if_neg h2] at h
      by_cases h3 : r = 2047 * 2 ^ 52
      · rw [if_pos h3] at h; exact .inr (.inr (.inl h))
      · rw [if_neg h3] at h; exact .inr (.inr (.inr ⟨_, h⟩))

def isGe (o : Option Ordering) : Bool := o == some .gt || o == some .eq
def isLe (o : Option Ordering) : Bool := o == some .lt || o == some .eq
/-- Is the word's number from -2^20 to 2^20? -/
def inR (w : Nat) : Bool := isGe (double.order w (enc (-1048576))) && isLe (double.order w (enc 1048576))
def truncI (w : Nat) : Int := ((double.read w).toInt .zero).getD 0
def ptB (w : Nat) : Bool := inR w && decide (enc (truncI w) = w)

theorem cut_div (neg : Bool) (n k : Nat) : Toward.zero.cut neg n k = n / 2 ^ k := by
  unfold Toward.cut
  simp only [shl_one, Bool.toNat_false, Nat.add_zero]
  by_cases h : k ≤ n.log2 + 2
  · rw [Nat.min_eq_left h]
  · rw [Nat.min_eq_right (by omega)]
    have h1 : n < 2 ^ (n.log2 + 1) := Nat.lt_log2_self
    have h2 : 2 ^ (n.log2 + 1) ≤ 2 ^ (n.log2 + 2) := Nat.pow_le_pow_right (by decide) (by omega)
    have h3 : 2 ^ (n.log2 + 1) ≤ 2 ^ k := Nat.pow_le_pow_right (by decide) (by omega)
    rw [Nat.div_eq_of_lt (by omega), Nat.div_eq_of_lt (by omega)]

theorem natAbs_signed (s : Bool) (m up : Nat) : (signed s m up).natAbs = m * 2 ^ up := by
  unfold signed; rw [Nat.shiftLeft_eq]
  cases s
  · exact Int.natAbs_natCast _
  · show (-((m * 2 ^ up : Nat) : Int)).natAbs = _
    rw [Int.natAbs_neg]; exact Int.natAbs_natCast _
theorem order_number (s t : Bool) (m n : Nat) (p q : Int) : (Datum.number s m p).order (.number t n q) = some (compare (signed s m (p - min p q).toNat) (signed t n (q - min p q).toNat)) := rfl
theorem isGe_compare (a b : Int) : isGe (some (compare a b)) = decide (b ≤ a) := by
  simp only [isGe, compare, compareOfLessAndEq]
  by_cases h1 : a < b
  · rw [if_pos h1, decide_eq_false (by omega)]; rfl
  · rw [if_neg h1]
    by_cases h2 : a = b
    · rw [if_pos h2, decide_eq_true (by omega)]; rfl
    · rw [if_neg h2, decide_eq_true (by omega)]; rfl
theorem isLe_compare (a b : Int) : isLe (some (compare a b)) = decide (a ≤ b) := by
  simp only [isLe, compare, compareOfLessAndEq]
  by_cases h1 : a < b
  · rw [if_pos h1, decide_eq_true (by omega)]; rfl
  · rw [if_neg h1]
    by_cases h2 : a = b
    · rw [if_pos h2, decide_eq_true (by omega)]; rfl
    · rw [if_neg h2, decide_eq_false (by omega)]; rfl
theorem read_lo : double.read (enc (-1048576)) = .number true (1048576 * 2 ^ 32) (-32) := by decide
theorem read_hi : double.read (enc 1048576) = .number false (1048576 * 2 ^ 32) (-32) := by decide

/-- What stands behind the range test: a number, below 2^-32 in its last place, and no more than 2^20. -/
theorem inR_number {w : Nat} (hw : w < 2 ^ 64) (h : inR w = true) : ∃ s m p, double.read w = .number s m p ∧ p ≤ -32 ∧ m ≤ 2 ^ 20 * 2 ^ (-p).toNat ∧
    ((m < 2 ^ 52 ∧ p = -1074 ∧ w = double.word s m) ∨ ∃ e f : Nat, 1 ≤ e ∧ f < 2 ^ 52 ∧ m = 2 ^ 52 + f ∧ p = (e : Int) - 1075 ∧ w = double.word s (e * 2 ^ 52 + f)) := by
  obtain ⟨s, r, hwd, hr, hc⟩ := read_cases w hw
  unfold inR at h
  rw [Bool.and_eq_true] at h
  obtain ⟨h1, h2⟩ := h
  unfold Format.order at h1 h2
  rw [read_lo] at h1
  rw [read_hi] at h2
  have key : ∀ m p, double.read w = .number s m p → m * 2 ^ (p - min p (-32)).toNat ≤ (1048576 * 2 ^ 32) * 2 ^ (-32 - min p (-32)).toNat := by
    intro m p hm
    rw [hm, order_number, isGe_compare] at h1
    rw [hm, order_number, isLe_compare] at h2
    have h3 := of_decide_eq_true h1
    have h4 := of_decide_eq_true h2
    have a1 := natAbs_signed s m (p - min p (-32)).toNat
    have a2 : signed true (1048576 * 2 ^ 32) (-32 - min p (-32)).toNat = -(((1048576 * 2 ^ 32) * 2 ^ (-32 - min p (-32)).toNat : Nat) : Int) := by unfold signed; rw [Nat.shiftLeft_eq]; rfl
    have a3 : signed false (1048576 * 2 ^ 32) (-32 - min p (-32)).toNat = (((1048576 * 2 ^ 32) * 2 ^ (-32 - min p (-32)).toNat : Nat) : Int) := by unfold signed; rw [Nat.shiftLeft_eq]; rfl
    rw [a2] at h3
    rw [a3] at h4
    generalize (1048576 * 2 ^ 32) * 2 ^ (-32 - min p (-32)).toNat = z at *
    omega
  have low : ∀ m p, double.read w = .number s m p → p ≤ -32 → m ≤ 2 ^ 20 * 2 ^ (-p).toNat := by
    intro m p hm hp
    have := key m p hm
    rw [Int.min_eq_left hp, show (p - p).toNat = 0 by omega, Nat.pow_zero, Nat.mul_one, Nat.mul_assoc, ← Nat.pow_add, show 32 + (-32 - p).toNat = (-p).toNat by omega] at this
    exact this
  rcases hc with ⟨hlt, hrd⟩ | ⟨e, f, he, he2, hf, hre, hrd⟩ | hrd | ⟨q, hrd⟩
  · exact ⟨s, r, -1074, hrd, by omega, low _ _ hrd (by omega), .inl ⟨hlt, rfl, hwd⟩⟩
  · have hp : (e : Int) - 1075 ≤ -32 := by
      by_cases hp : (e : Int) - 1075 ≤ -32
      · exact hp
      · exfalso
        have := key _ _ hrd
        rw [Int.min_eq_right (by omega), show (-32 - -32 : Int).toNat = 0 by decide, Nat.pow_zero, Nat.mul_one] at this
        have h5 : 2 ^ 1 ≤ 2 ^ ((e : Int) - 1075 - -32).toNat := Nat.pow_le_pow_right (by decide) (by omega)
        have h6 : (2 ^ 52 + f) * 2 ^ 1 ≤ (2 ^ 52 + f) * 2 ^ ((e : Int) - 1075 - -32).toNat := Nat.mul_le_mul_left _ h5
        omega
    exact ⟨s, _, _, hrd, hp, low _ _ hrd hp, .inr ⟨e, f, he, hf, rfl, rfl, by rw [hwd, hre]⟩⟩
  · exfalso
    rw [hrd] at h1 h2
    cases s
    · exact absurd h2 (by decide)
    · exact absurd h1 (by decide)
  · exfalso; rw [hrd] at h1; simp [Datum.order, isGe] at h1

theorem toInt_number (s : Bool) (m : Nat) (p : Int) (hp : p ≤ 0) : (Datum.number s m p).toInt .zero = some (signed s (m / 2 ^ (-p).toNat) 0) := by
  unfold Datum.toInt Datum.integral
  simp only [show p.toNat = 0 by omega, Nat.shiftLeft_zero, cut_div]
theorem trunc_number {w : Nat} {s : Bool} {m : Nat} {p : Int} (h : double.read w = .number s m p) (hp : p ≤ 0) : truncI w = signed s (m / 2 ^ (-p).toNat) 0 := by
  unfold truncI; rw [h, toInt_number s m p hp]; rfl
theorem trunc_le {w : Nat} (hw : w < 2 ^ 64) (h : inR w = true) : (truncI w).natAbs ≤ 2 ^ 20 ∧ (double.read w).toInt .zero = some (truncI w) := by
  obtain ⟨s, m, p, hr, hp, hm, _⟩ := inR_number hw h
  have := trunc_number hr (by omega)
  refine ⟨?_, by rw [hr, toInt_number s m p (by omega), this]⟩
  rw [this, natAbs_signed, Nat.pow_zero, Nat.mul_one]
  exact Nat.div_le_of_le_mul (by rw [Nat.mul_comm]; exact hm)

theorem val_trunc (s : Bool) (N : Nat) : Val (.number s N 0) (signed s N 0) := by
  refine ⟨s, N, 0, rfl, Int.le_refl _, by rw [natAbs_signed]; simp, fun h => ?_⟩
  unfold signed at *
  rw [Nat.shiftLeft_zero] at *
  cases s
  · simp at h ⊢
  · simp at h ⊢; omega

/-- The program's test: what is cut off is nothing, and it is not the other zero. -/
theorem whole_iff {w : Nat} (hw : w < 2 ^ 64) (h : inR w = true) :
    (double.order w (double.write ((double.read w).integral .zero)) == some .eq && (!(double.order w 0 == some .eq) || decide (w < 2 ^ 63))) = decide (enc (truncI w) = w) := by
  obtain ⟨s, m, p, hr, hp, hm, hc⟩ := inR_number hw h
  obtain ⟨hle, _⟩ := trunc_le hw h
  have ht := trunc_number hr (by omega)
  generalize hN : m / 2 ^ (-p).toNat = N at *
  generalize hZ : 2 ^ (-p).toNat = Z at *
  have hZp : 0 < Z := by rw [← hZ]; exact Nat.two_pow_pos _
  have hdiv : N * Z ≤ m := by rw [← hN]; exact Nat.div_mul_le_self _ _
  have hint : (double.read w).integral .zero = .number s N 0 := by
    rw [hr]; unfold Datum.integral
    simp only [show p.toNat = 0 by omega, Nat.shiftLeft_zero, cut_div, hZ, hN]
  have hv := val_trunc s N
  rw [← ht] at hv
  have hV := val_write hv (by omega)
  have hV2 := val_read hV (by omega)
  obtain ⟨t, n, q, hrd, hq, hn, hts⟩ := hV2
  have hNa : (truncI w).natAbs = N := by rw [ht, natAbs_signed]; simp
  have ho : (double.order w (double.write ((double.read w).integral .zero)) == some .eq) = decide (m = N * Z) := by
    rw [hint]
    unfold Format.order
    rw [hrd, hr, order_number, hn, signed_val hts]
    have b1 : signed s m (p - min p q).toNat = (if s then -1 else 1) * ((m * 2 ^ (p - min p q).toNat : Nat) : Int) := by
      unfold signed; rw [Nat.shiftLeft_eq]; cases s <;> simp
    have b2 : truncI w * ((2 ^ (-q).toNat * 2 ^ (q - min p q).toNat : Nat) : Int) = (if s then -1 else 1) * ((N * Z * 2 ^ (p - min p q).toNat : Nat) : Int) := by
      rw [two_up hq (Int.min_le_right p q), ht, Nat.mul_assoc, ← hZ, two_up (by omega) (Int.min_le_left p q)]
      unfold signed; rw [Nat.shiftLeft_zero]
      cases s <;> simp [Int.natCast_mul, Int.neg_mul]
    rw [b1, b2]
    have hpos : 0 < 2 ^ (p - min p q).toNat := Nat.two_pow_pos _
    generalize 2 ^ (p - min p q).toNat = y at *
    by_cases hmn : m = N * Z
    · rw [decide_eq_true hmn, ← hmn]; simp [compare, compareOfLessAndEq]
    · rw [decide_eq_false hmn]
      have hlt : N * Z * y < m * y := Nat.mul_lt_mul_of_pos_right (by omega) hpos
      simp only [compare, compareOfLessAndEq]
      cases s
      · simp only [Bool.false_eq_true, if_false, Int.one_mul]
        rw [if_neg (by omega), if_neg (by omega)]; rfl
      · simp only [if_true]
        rw [if_pos (by omega)]; rfl
  have hz : (double.order w 0 == some .eq) = decide (m = 0) := by
    unfold Format.order
    have r0 : double.read 0 = .number false 0 (-1074) := read_zero false
    rw [r0, hr, order_number]
    have b1 : signed s m (p - min p (-1074)).toNat = (if s then -1 else 1) * ((m * 2 ^ (p - min p (-1074)).toNat : Nat) : Int) := by
      unfold signed; rw [Nat.shiftLeft_eq]; cases s <;> simp
    have b2 : signed false 0 (-1074 - min p (-1074)).toNat = 0 := by unfold signed; rw [Nat.shiftLeft_eq, Nat.zero_mul]; rfl
    rw [b1, b2]
    have hpos : 0 < 2 ^ (p - min p (-1074)).toNat := Nat.two_pow_pos _
    generalize 2 ^ (p - min p (-1074)).toNat = y at *
    by_cases h0 : m = 0
    · subst h0; simp [compare, compareOfLessAndEq]
    · rw [decide_eq_false h0]
      have := Nat.mul_pos (Nat.pos_of_ne_zero h0) hpos
      simp only [compare, compareOfLessAndEq]
      cases s
      · simp only [Bool.false_eq_true, if_false, Int.one_mul]
        rw [if_neg (by omega), if_neg (by omega)]; rfl
      · simp only [if_true]
        rw [if_pos (by omega)]; rfl
  rw [ho, hz]
  by_cases hmn : m = N * Z
  · rw [decide_eq_true hmn, Bool.true_and]
    by_cases h0 : m = 0
    · -- a zero
      have hN0 : N = 0 := by
        rcases Nat.eq_zero_or_pos N with h' | h'
        · exact h'
        · have := Nat.mul_pos h' hZp; omega
      have hA : truncI w = 0 := by omega
      rw [decide_eq_true h0, hA, enc_zero]
      simp only [Bool.not_true, Bool.false_or]
      have hw0 : w = double.word s 0 := by
        rcases hc with ⟨_, _, hwd⟩ | ⟨e, f, _, _, hmf, _⟩
        · rw [hwd, h0]
        · omega
      cases s
      · have : w = 0 := hw0
        subst this; rfl
      · have : w = 2 ^ 63 := hw0
        subst this; decide
    · rw [decide_eq_false h0]
      simp only [Bool.not_false, Bool.true_or]
      have hNpos : 0 < N := by
        rcases Nat.eq_zero_or_pos N with h' | h'
        · rw [h', Nat.zero_mul] at hmn; omega
        · exact h'
      have hA : truncI w ≠ 0 := by omega
      symm
      apply decide_eq_true
      have hsA : s = decide (truncI w < 0) := by
        rw [ht]; unfold signed; rw [Nat.shiftLeft_zero]
        cases s <;> simp <;> omega
      unfold enc
      rw [if_neg hA, ← hsA, hNa]
      rcases hc with ⟨hlt, hp1, hwd⟩ | ⟨e, f, he, hf, hmf, hpe, hwd⟩
      · exfalso
        have h7 : 2 ^ 52 ≤ Z := by rw [← hZ]; exact Nat.pow_le_pow_right (by decide) (by omega)
        have h8 : Z ≤ N * Z := Nat.le_mul_of_pos_left _ hNpos
        omega
      · -- the rung
        have hk : N.log2 = 52 - (-p).toNat ∧ (-p).toNat ≤ 52 := by
          have l1 := log2_mul N (-p).toNat hNpos
          rw [hZ, ← hmn, hmf] at l1
          have l2 : (2 ^ 52 + f).log2 = 52 := by
            apply Nat.le_antisymm
            · have := (Nat.log2_lt (n := 2 ^ 52 + f) (k := 53) (by omega)).2 (by omega); omega
            · exact (Nat.le_log2 (by omega)).2 (by omega)
          omega
        have hrung : rung N = e * 2 ^ 52 + f := by
          unfold rung
          rw [hk.1, show 52 - (52 - (-p).toNat) = (-p).toNat by omega, hZ, ← hmn, hmf]
          omega
        rw [hwd, hrung]
  · rw [decide_eq_false hmn, Bool.false_and]
    symm
    apply decide_eq_false
    intro he
    apply hmn
    have h9 := val_read (w := w) (a := truncI w) (.inl he.symm) (by omega)
    obtain ⟨s', m', p', hr', hp', hm', _⟩ := h9
    rw [hr] at hr'
    injection hr' with e1 e2 e3
    subst e1 e2 e3
    rw [hm', hNa, hZ]
end Go.Proofs.YtkcnfdffemddlaaW.Flt
