/- bound.raised, sum, above, Holds. -/
import Derived.Test.YtjgpggjjgimibaaLibB
import Derived.Laws.Bits64
import Derived.Laws.Externs
import Derived.Deep.RegionHeld3
import Derived.Test.YtjgpggjjgimibaaQx3
namespace Go.Proofs.Ytjgpggjjgimibaa.L
open Go.RowKit Go.Proofs.Ytjgpggjjgimibaa.Q Go.Proofs.YtjgpggjjgimibaaW.PrintWords Go.Proofs.YtjgpggjjgimibaaW.PrintLast Go.Proofs.YtjgpggjjgimibaaW.PrintMore Go.Proofs.YtjgpggjjgimibaaW.MapB Go.Proofs.YtjgpggjjgimibaaW.Lib
set_option linter.unusedVariables false
set_option linter.unusedSimpArgs false

def inI (n : Int) : Prop := -9223372036854775808 ≤ n ∧ n < 9223372036854775808
instance : DecidablePred inI := fun n => by unfold inI; infer_instance
theorem xor_top (a : Nat) (h : a < 2 ^ 63) : a ^^^ 2 ^ 63 = 2 ^ 63 + a := by
  apply Nat.eq_of_testBit_eq
  intro i
  rw [Nat.testBit_xor, Nat.testBit_two_pow]
  by_cases e : i = 63
  · subst e
    rw [Nat.testBit_two_pow_add_eq, Nat.testBit_lt_two_pow h]
    rfl
  · by_cases l : i < 63
    · rw [Nat.testBit_two_pow_add_gt l]
      simp [Ne.symm e]
    · have h1 : a < 2 ^ i := Nat.lt_of_lt_of_le h (Nat.pow_le_pow_right (by omega) (by omega))
      have h2 : 2 ^ 63 + a < 2 ^ i := by
        have : 2 ^ 64 ≤ 2 ^ i := Nat.pow_le_pow_right (by omega) (by omega)
        omega
      rw [Nat.testBit_lt_two_pow h1, Nat.testBit_lt_two_pow h2]
      simp [Ne.symm e]
theorem raise_bits (n : Int) (h : inI n) : bits .xor .u64 (IntKind.u64.wrap n) 9223372036854775808 = n + 9223372036854775808 := by
  obtain ⟨h1, h2⟩ := h
  have hw : IntKind.u64.wrap n = n % 18446744073709551616 := by
    simp [IntKind.wrap, IntKind.signed, IntKind.bits]
  rw [hw]
  obtain ⟨a, ha⟩ : ∃ a : Nat, n % 18446744073709551616 = (a : Int) := ⟨(n % 18446744073709551616).toNat, by omega⟩
  have hal : a < 18446744073709551616 := by omega
  rw [ha, show (9223372036854775808 : Int) = ((9223372036854775808 : Nat) : Int) from rfl, bits_xor_u64_nat a 9223372036854775808 hal (by decide)]
  have e63 : (9223372036854775808 : Nat) = 2 ^ 63 := by decide
  by_cases hl : a < 9223372036854775808
  · have := xor_top a (by rw [← e63]; exact hl)
    rw [e63, this]
    omega
  · obtain ⟨b, rfl⟩ : ∃ b, a = 2 ^ 63 + b := ⟨a - 2 ^ 63, by omega⟩
    have hb : b < 2 ^ 63 := by omega
    rw [← xor_top b hb, e63, Nat.xor_assoc, Nat.xor_self, Nat.xor_zero]
    omega
theorem results_cell1 {fn : Func} {a : Tmp} {t : TypeId} (h : fn.results = #[.cell a t]) (tmps : Array Value) (P : Program) (w : World) (ad : Addr) (v : Value) (ha : tmps.getD a undef = .pointer (some ad)) (hl : (loadVar t ad).run P w = .ok v w) :
    (results fn tmps).run P w = .ok v w := by
  have ha' : tmps[a]?.getD undef = .pointer (some ad) := by rw [← ha]; simp
  have e : ∀ ad w, (asAddr (.pointer (some ad))).run P w = .ok ad w := fun _ _ => rfl
  simp [results, h, ha', hl, e]
theorem raised_calls (n : Int) (h : inI n) (w : World) : Calls Try.prog 58 #[.int .i64 n] w fun e w' => e = .returned (.int .u64 (n + 9223372036854775808)) ∧ w' = w := by
  have H := Aside0.mk (raise_bits n h)
  clear h
  go_enter Try.func58, Try.ntmps58
  go_wp2_with fail
  go_ret
  refine ⟨?_, rfl⟩
  show Ending.returned (Value.int .u64 (bits .xor .u64 (IntKind.u64.wrap n) 9223372036854775808)) = _
  rw [H.out]
/-- The two halves of a number from 0 to 2^128 - 1. -/
def hiOf (T : Int) : Int := T / 18446744073709551616
def loOf (T : Int) : Int := T % 18446744073709551616
set_option maxRecDepth 100000 in
theorem sum_calls (a b : Int) (ha : inI a) (hb : inI b) (w : World) : Calls Try.prog 37 #[.int .i64 a, .int .i64 b] w fun e w' => e = .returned (.agg #[.int .u64 (hiOf (a + b + 18446744073709551616)), .int .u64 (loOf (a + b + 18446744073709551616))]) ∧ Below w.heap.size w w' := by
  have HA := Aside0.mk (fun W => raised_calls a ha W)
  have HBb := Aside0.mk (fun W => raised_calls b hb W)
  have hadd : ∀ W : World, (callFunc 57 #[.int .u64 (a + 9223372036854775808), .int .u64 (b + 9223372036854775808), .int .u64 0]).run Try.prog W = .ok (.value (.tuple #[.int .u64 (loOf (a + b + 18446744073709551616)), .int .u64 (hiOf (a + b + 18446744073709551616))])) W := by
    intro W
    rw [run_callFunc_extern Try.func57 (by kernel_rfl) (by kernel_rfl) (by kernel_rfl) (e := add64Entry) (by kernel_rfl), run_add64 _ _ _ (by have := ha.1; omega) (by have := hb.1; omega) (by omega) (by omega)]
    simp only [Result.andThen, loOf, hiOf]
    rw [show a + 9223372036854775808 + (b + 9223372036854775808) + 0 = a + b + 18446744073709551616 by omega]
  have HB := Aside0.mk (Below.refl w.heap.size w)
  clear ha hb
  generalize hiOf (a + b + 18446744073709551616) = hi at *
  generalize loOf (a + b + 18446744073709551616) = lo at *
  go_enter Try.func37, Try.ntmps37
  go_wp2_with (first
    | (go_at_call 58; first | (refine (HA.out _).mono ?_; rintro e w1 ⟨rfl, rfl⟩) | (refine (HBb.out _).mono ?_; rintro e w1 ⟨rfl, rfl⟩)))
  refine bodyPost_ret (results_cell1 rfl _ _ _ _ _ rfl ?_) rfl ⟨rfl, below_alloc HB.out _⟩
  go_simp
/-- Of two numbers from 0 to 2^128 - 1: by their halves. -/
theorem halves_eq (S T : Int) : (hiOf S = hiOf T ∧ loOf S = loOf T) ↔ S = T := by unfold hiOf loOf; omega
theorem halves_gt (S T : Int) : (hiOf S > hiOf T ∨ (hiOf S = hiOf T ∧ loOf S > loOf T)) ↔ S > T := by unfold hiOf loOf; omega
set_option maxHeartbeats 2000000 in
set_option maxRecDepth 100000 in
theorem above_calls (n T : Int) (hn : inI n) (w : World) : Calls Try.prog 36 #[.int .i64 n, .agg #[.int .u64 (hiOf T), .int .u64 (loOf T)]] w fun e w' => e = .returned (.bool (decide (n + 18446744073709551616 > T))) ∧ Below w.heap.size w w' := by
  have QS := Aside0.mk (fun W => sum_calls n 0 hn (by constructor <;> decide) W)
  have HB := Aside0.mk (Below.refl w.heap.size w)
  have e1 := halves_eq (n + 18446744073709551616) T
  have e2 := halves_gt (n + 18446744073709551616) T
  rw [show n + 0 + 18446744073709551616 = n + 18446744073709551616 by omega] at QS
  obtain ⟨R, hR⟩ : ∃ R : Bool, decide (n + 18446744073709551616 > T) = R := ⟨_, rfl⟩
  rw [hR]
  generalize n + 18446744073709551616 = S at *
  generalize hiOf S = h1 at *
  generalize loOf S = l1 at *
  generalize hiOf T = h2 at *
  generalize loOf T = l2 at *
  have E1 := Aside0.mk e1
  have E2 := Aside0.mk e2
  have HR := Aside0.mk hR
  clear e1 e2 hR
  have hcases : ((h1 == h2) = true ∧ (l1 == l2) = true ∧ decide (h2 < h1) = false ∧ decide (l2 < l1) = false ∧ R = false) ∨ ((h1 == h2) = true ∧ (l1 == l2) = false ∧ decide (h2 < h1) = false ∧ decide (l2 < l1) = true ∧ R = true) ∨
      ((h1 == h2) = true ∧ (l1 == l2) = false ∧ decide (h2 < h1) = false ∧ decide (l2 < l1) = false ∧ R = false) ∨ ((h1 == h2) = false ∧ decide (h2 < h1) = true ∧ R = true) ∨ ((h1 == h2) = false ∧ decide (h2 < h1) = false ∧ R = false) := by
    have r0 := HR.out
    have r1 := E2.out
    by_cases c1 : h1 = h2
    · by_cases c2 : l1 = l2
      · left; refine ⟨by simp [c1], by simp [c2], by simp [c1], by simp [c2], ?_⟩
        rw [← r0]; exact decide_eq_false (fun h => by have := r1.2 h; omega)
      · by_cases c3 : l2 < l1
        · right; left; refine ⟨by simp [c1], by simp [c2], by simp [c1], by simp [c3], ?_⟩
          rw [← r0]; exact decide_eq_true (r1.1 (.inr ⟨c1, c3⟩))
        · right; right; left; refine ⟨by simp [c1], by simp [c2], by simp [c1], by simp only [decide_eq_false_iff_not]; exact c3, ?_⟩
          rw [← r0]; exact decide_eq_false (fun h => by have := r1.2 h; omega)
    · by_cases c3 : h2 < h1
      · right; right; right; left; refine ⟨by simp [c1], by simp [c3], ?_⟩
        rw [← r0]; exact decide_eq_true (r1.1 (.inl c3))
      · right; right; right; right; refine ⟨by simp [c1], by simp only [decide_eq_false_iff_not]; exact c3, ?_⟩
        rw [← r0]; exact decide_eq_false (fun h => by have := r1.2 h; omega)
  clear E1 E2 HR
  rcases hcases with ⟨b1, b2, b3, b4, rfl⟩ | ⟨b1, b2, b3, b4, rfl⟩ | ⟨b1, b2, b3, b4, rfl⟩ | ⟨b1, b3, rfl⟩ | ⟨b1, b3, rfl⟩
  all_goals
    go_enter Try.func36, Try.ntmps36
    go_wp2_with (first | (go_at_call 37; refine (QS.out _).mono ?_; rintro e w1 ⟨rfl, hb⟩; have HB1 := Aside0.mk (below_step (below_alloc HB.out _) hb); have bk := (hb.block w.heap.size (by simp)).trans (MapKept.heap_alloc w _).1; have k0 : w1.cell? ⟨w.heap.size, 0, none⟩ = some (.int .u64 h2) := (blk_cell bk 0).trans rfl; have k1 : w1.cell? ⟨w.heap.size, 1, none⟩ = some (.int .u64 l2) := (blk_cell bk 1).trans rfl; clear hb bk; have k2 : ∀ o, (w1.alloc o).cell? ⟨w.heap.size, 0, none⟩ = some (.int .u64 h2) := fun o => (World.cell?_alloc_lt _ _ _ (World.block_lt_of_cell? _ _ k0)).trans k0; have k3 : ∀ o, (w1.alloc o).cell? ⟨w.heap.size, 1, none⟩ = some (.int .u64 l2) := fun o => (World.cell?_alloc_lt _ _ _ (World.block_lt_of_cell? _ _ k1)).trans k1))
    go_ret
    exact ⟨rfl, below_alloc HB1.out _⟩
/-- Does an edge hold? -/
def holdsB (e : S37) (l : List Int) : Bool := if 0 ≤ e.f0 ∧ 0 ≤ e.f1 ∧ e.f0 < l.length ∧ e.f1 < l.length then decide (rd l e.f1 ≤ rd l e.f0 + e.f2) else false
def edgeV (e : S37) : Array Value := #[.int .i64 e.f0, .int .i64 e.f1, .int .i64 e.f2, .int .i64 e.f3.f0, .int .i64 e.f3.f1, .bool e.f4]
theorem own1 (w : World) (cs : Array Value) (t : TypeId) (i : Nat) {v : Value} (h : cs[i]? = some v) : (w.alloc (.cells cs t)).drew.cell? ⟨w.heap.size, i, none⟩ = some v := (blk_cell (MapKept.heap_alloc w _).1 i).trans h
theorem own2 (w : World) (o : Obj) {a : Addr} {v : Value} (h : w.cell? a = some v) : (w.alloc o).drew.cell? a = some v := ((below_alloc (Below.refl w.heap.size w) o).cell (World.block_lt_of_cell? w _ h)).trans h
theorem keepH {w w1 w2 : World} {k : Nat} {x0 x1 x2 v0 v1 : Value} {a0 a1 : Addr} (h : Below w.heap.size w w1 ∧ w1.cell? ⟨k, 0, none⟩ = some x0 ∧ w1.cell? ⟨k, 1, none⟩ = some x1 ∧ w1.cell? ⟨k, 2, none⟩ = some x2 ∧ w1.cell? a1 = some v1 ∧ w1.cell? a0 = some v0) (hb : Below w1.heap.size w1 w2) :
    Below w.heap.size w w2 ∧ w2.cell? ⟨k, 0, none⟩ = some x0 ∧ w2.cell? ⟨k, 1, none⟩ = some x1 ∧ w2.cell? ⟨k, 2, none⟩ = some x2 ∧ w2.cell? a1 = some v1 ∧ w2.cell? a0 = some v0 := by
  obtain ⟨h0, c0, c1, c2, c3, c4⟩ := h
  exact ⟨below_step h0 hb, (hb.cell (World.block_lt_of_cell? w1 _ c0)).trans c0, (hb.cell (World.block_lt_of_cell? w1 _ c1)).trans c1, (hb.cell (World.block_lt_of_cell? w1 _ c2)).trans c2, (hb.cell (World.block_lt_of_cell? w1 _ c3)).trans c3, (hb.cell (World.block_lt_of_cell? w1 _ c4)).trans c4⟩
set_option maxHeartbeats 4000000 in
set_option maxRecDepth 100000 in
theorem holds_calls (e : S37) (l : List Int) (hi : ∀ x ∈ l, inI x) (he : inI e.f2) (A1 : Option Addr) (c1 : Nat) (w : World) (hr : Kd.C (Kd.int .i64) w A1 l.length l) (hc : l.length ≤ c1) :
    Calls Try.prog 18 #[.agg #[.int .i64 e.f0, .int .i64 e.f1, .int .i64 e.f2, .int .i64 e.f3.f0, .int .i64 e.f3.f1, .bool e.f4], .slice A1 l.length c1] w fun r w' => r = .returned (.bool (holdsB e l)) ∧ Below w.heap.size w w' := by
  have HR := Aside0.mk hr
  have HB := Aside0.mk (Below.refl w.heap.size w)
  by_cases h : 0 ≤ e.f0 ∧ 0 ≤ e.f1 ∧ e.f0 < l.length ∧ e.f1 < l.length
  · obtain ⟨h0, h1, h2, h3⟩ := h
    have hv : holdsB e l = decide (rd l e.f1 ≤ rd l e.f0 + e.f2) := by unfold holdsB; rw [if_pos ⟨h0, h1, h2, h3⟩]
    rw [hv]
    obtain ⟨ad, e1, hx⟩ := Kd.at_int hr e.f1 h1 h3
    obtain ⟨ad', e2, hy⟩ := Kd.at_int hr e.f0 h0 h2
    cases e1
    cases e2
    have m1 : rd l e.f1 ∈ l := by
      have : e.f1.toNat < l.length := by omega
      rw [show rd l e.f1 = l[e.f1.toNat] by simp [rd, List.getD, this]]
      exact List.getElem_mem _
    have m0 : rd l e.f0 ∈ l := by
      have : e.f0.toNat < l.length := by omega
      rw [show rd l e.f0 = l[e.f0.toNat] by simp [rd, List.getD, this]]
      exact List.getElem_mem _
    have QS := Aside0.mk (fun W => sum_calls (rd l e.f0) e.f2 (hi _ m0) he W)
    have QA := Aside0.mk (fun W => above_calls (rd l e.f1) (rd l e.f0 + e.f2 + 18446744073709551616) (hi _ m1) W)
    have b1 : decide (min e.f0 e.f1 < 0) = false := decide_eq_false (by omega)
    have b2 : decide ((l.length : Int) ≤ max e.f0 e.f1) = false := decide_eq_false (by omega)
    have hR : (!decide (rd l e.f1 + 18446744073709551616 > rd l e.f0 + e.f2 + 18446744073709551616)) = decide (rd l e.f1 ≤ rd l e.f0 + e.f2) := by
      by_cases h : rd l e.f1 ≤ rd l e.f0 + e.f2
      · rw [decide_eq_true h, decide_eq_false (by omega)]; rfl
      · rw [decide_eq_false h, decide_eq_true (by omega)]; rfl
    rw [← hR]
    clear hR hv m0 m1 hi he hr hc
    generalize decide (rd l e.f1 + 18446744073709551616 > rd l e.f0 + e.f2 + 18446744073709551616) = R at *
    generalize hiOf (rd l e.f0 + e.f2 + 18446744073709551616) = hi at *
    generalize loOf (rd l e.f0 + e.f2 + 18446744073709551616) = lo at *
    generalize rd l e.f0 = v0 at *
    generalize rd l e.f1 = v1 at *
    replace h0 := eq_true h0
    replace h1 := eq_true h1
    replace h2 := eq_true h2
    replace h3 := eq_true h3
    go_enter Try.func18, Try.ntmps18
    go_wp2_with fail
    go_region_held3 (fun W' => Below w.heap.size w W' ∧ W'.cell? ⟨w.heap.size, 0, none⟩ = some (.int .i64 e.f0) ∧ W'.cell? ⟨w.heap.size, 1, none⟩ = some (.int .i64 e.f1) ∧ W'.cell? ⟨w.heap.size, 2, none⟩ = some (.int .i64 e.f2) ∧ W'.cell? (ad.add e.f1.toNat) = some (.int .i64 v1) ∧ W'.cell? (ad.add e.f0.toNat) = some (.int .i64 v0))
      (first | exact ⟨below_drew (below_alloc HB.out _), own1 w _ _ 0 rfl, own1 w _ _ 1 rfl, own1 w _ _ 2 rfl, own2 w _ hx, own2 w _ hy⟩ | exact keepH (by assumption) hb | assumption)
      (first
        | (go_at_call 37; refine (QS.out _).mono ?_; rintro r w2 ⟨rfl, hb⟩)
        | (go_at_call 36; refine (QA.out _).mono ?_; rintro r w2 ⟨rfl, hb⟩))
    rename_i w9 HS
    have HB9 := Aside0.mk HS.1
    go_wp2_with fail
    go_ret
    exact ⟨rfl, HB9.out⟩
  · have hv : holdsB e l = false := by unfold holdsB; rw [if_neg h]
    rw [hv]
    clear hv hi he hr hc
    by_cases hm : min e.f0 e.f1 < 0
    · have b1 : decide (min e.f0 e.f1 < 0) = true := decide_eq_true hm
      clear hm h
      go_enter Try.func18, Try.ntmps18
      go_wp2_with fail
      go_ret
      exact ⟨rfl, below_alloc HB.out _⟩
    · have b1 : decide (min e.f0 e.f1 < 0) = false := decide_eq_false hm
      have b2 : decide ((l.length : Int) ≤ max e.f0 e.f1) = true := decide_eq_true (by omega)
      clear hm h
      go_enter Try.func18, Try.ntmps18
      go_wp2_with fail
      go_ret
      exact ⟨rfl, below_alloc HB.out _⟩
end Go.Proofs.Ytjgpggjjgimibaa.L
