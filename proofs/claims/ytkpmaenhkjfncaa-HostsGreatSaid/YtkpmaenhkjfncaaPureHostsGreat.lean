/- HostsGreat, the plain part: as many hosts as there are numbers below the lesser of both. -/
import Derived.Test.YtkpmaenhkjfncaaRefI
import Derived.Test.YtkpmaenhkjfncaaGOpens
import Derived.Test.YtkpmaenhkjfncaaGx1
namespace Go.Proofs.Ytkpmaenhkjfncaa.Pure
set_option linter.unusedVariables false
open Go.RowKit Go.Proofs.Ytkpmaenhkjfncaa.Q Go.Proofs.Ytkpmaenhkjfncaa.G Go.Proofs.YtkpmaenhkjfncaaW.PrintWords Go.Proofs.YtkpmaenhkjfncaaW.PrintLast Go.Proofs.YtkpmaenhkjfncaaW.PrintMore Go.Proofs.YtkpmaenhkjfncaaW.Lib Go.Proofs.Ytkpmaenhkjfncaa.L

theorem fixed13 : Ev (fun k => merkhetlaw13_fixed.f k) true := by
  unfold merkhetlaw13_fixed.f hosts_Of.f
  rw [if_pos ⟨by decide, by intro x hx; simp only [List.mem_cons, List.not_mem_nil, or_false] at hx; rcases hx with rfl | rfl | rfl <;> exact ⟨by decide, by decide, by decide⟩⟩]
  refine Ev.bind (a := [1, 0, 1]) (Ev.const ?_) (Ev.bind (sameI_self _ (by decide)) (Ev.now _))
  unfold numsL
  rw [← hostsB_fold']
  kernel_rfl
/-- The name of a number below 60. -/
def nameN (r : Nat) : ByteArray := strOfNums [((97 + r / 8 : Nat) : Int) % 256, ((97 + r % 8 : Nat) : Int) % 256]
theorem nameN_inj : ∀ r s : Fin 60, nameN r = nameN s → r = s := by decide +kernel
def spanN (r : Nat) : S27 := ⟨0, 0, 0, 0, nameN r, (⟨#[]⟩ : ByteArray), 0, 0⟩
def manyN (k i : Nat) : List S27 := (List.range i).map fun j => spanN (j % k)
theorem manyN_length (k i : Nat) : (manyN k i).length = i := by simp [manyN]
theorem nodup_map {α β : Type} {f : α → β} : ∀ {l : List α}, l.Nodup → (∀ x ∈ l, ∀ y ∈ l, f x = f y → x = y) → (l.map f).Nodup
  | [], _, _ => List.nodup_nil
  | x :: l, h, hi => by
    rw [List.map_cons, List.nodup_cons]
    obtain ⟨h1, h2⟩ := List.nodup_cons.1 h
    refine ⟨fun hm => ?_, nodup_map h2 (fun a ha b hb => hi a (by simp [ha]) b (by simp [hb]))⟩
    obtain ⟨y, hy, e⟩ := List.mem_map.1 hm
    have := hi y (by simp [hy]) x (by simp) e
    subst this
    exact h1 hy
theorem hosts_count (k i : Nat) (hk : 0 < k) (hk60 : k ≤ 60) : (hostsB (manyN k i)).length = min i k := by
  have nd : ((List.range (min i k)).map nameN).Nodup := nodup_map List.nodup_range (fun x hx y hy e => by
    have hx' : x < 60 := by have := List.mem_range.1 hx; omega
    have hy' : y < 60 := by have := List.mem_range.1 hy; omega
    have := nameN_inj ⟨x, hx'⟩ ⟨y, hy'⟩ e
    simpa using this)
  have hp : (hostsB (manyN k i)).Perm ((List.range (min i k)).map nameN) := by
    refine (List.perm_ext_iff_of_nodup (hostsB_nodup _) nd).2 fun s => ?_
    rw [hostsB_mem, List.mem_map]
    constructor
    · rintro ⟨x, hx, rfl⟩
      obtain ⟨j, hj, rfl⟩ := List.mem_map.1 hx
      have hj' := List.mem_range.1 hj
      have h1 := Nat.mod_lt j hk
      have h2 := Nat.mod_le j k
      exact ⟨j % k, List.mem_range.2 (by omega), rfl⟩
    · rintro ⟨r, hr, rfl⟩
      have hr' := List.mem_range.1 hr
      exact ⟨spanN r, List.mem_map.2 ⟨r, List.mem_range.2 (by omega), by rw [Nat.mod_eq_of_lt (by omega)]⟩, rfl⟩
  rw [hp.length_eq]; simp
theorem HostsGreat (a0 a1 : Int) (w0 : (Lit.int .u16 a0).wf = true) (w1 : (Lit.int .u16 a1).wf = true) : ∃ k, merkhetlaw13_HostsGreat.f k a0 a1 = some true := by
  have b0 : 0 ≤ a0 ∧ a0 < 65536 := by simp [Lit.wf, IntKind.min, IntKind.max, IntKind.signed, IntKind.bits] at w0; omega
  have b1 : 0 ≤ a1 ∧ a1 < 65536 := by simp [Lit.wf, IntKind.min, IntKind.max, IntKind.signed, IntKind.bits] at w1; omega
  obtain ⟨n, hn⟩ : ∃ n : Nat, wrap64 (Int.tmod a0 700) = (n : Int) ∧ n < 700 := by
    rw [Int.tmod_eq_emod_of_nonneg b0.1, wrap_id (by omega) (by omega)]
    exact ⟨(a0 % 700).toNat, by omega, by omega⟩
  obtain ⟨m, hm, hm0, hm1⟩ : ∃ m : Nat, wrap64 (1 + wrap64 (Int.tmod a1 60)) = (m : Int) ∧ 0 < m ∧ m ≤ 60 := by
    rw [Int.tmod_eq_emod_of_nonneg b1.1, wrap_id (i := a1 % 60) (by omega) (by omega), wrap_id (by omega) (by omega)]
    exact ⟨(1 + a1 % 60).toNat, by omega, by omega, by omega⟩
  refine Ev.rounds (g := fun k => merkhetlaw13_HostsGreat.f k a0 a1) ?_
  unfold merkhetlaw13_HostsGreat.f
  rw [hn.1, hm]
  have hfit : ∀ x ∈ manyN m n, fitS x := by
    intro x hx
    obtain ⟨j, _, rfl⟩ := List.mem_map.1 hx
    have h := Nat.mod_lt j hm0
    have key : ∀ r : Fin 60, fitS (spanN r) := by
      intro r
      refine ⟨by show (Lit.int .u64 0).wf = true; decide, ?_, by show (0 : Nat) ≤ _; omega⟩
      show (nameN r).size ≤ _
      have : (nameN r).size = 2 := by
        revert r; decide +kernel
      omega
    exact key ⟨j % m, by omega⟩
  have loop : ∀ (d i : Nat), n - i = d → i ≤ n → Ev (fun k => merkhetlaw13_HostsGreat.l0 k (manyN m i) (m : Int) (n : Int) (i : Int)) true := by
    intro d
    induction d with
    | zero =>
      intro i hd hi
      obtain rfl : i = n := by omega
      have hgr : hosts_Great.f (manyN m i) = some (greatL (manyN m i)) := by
        unfold hosts_Great.f
        rw [if_pos ⟨by rw [manyN_length]; omega, hfit⟩]
      refine Ev.succ ?_
      simp only [merkhetlaw13_HostsGreat.l0]
      refine Ev.neg (by omega) (Ev.bind fixed13 (Ev.pos rfl (Ev.bind (Ev.const hgr) ?_)))
      unfold greatL
      rw [hosts_count m i hm0 hm1, manyN_length]
      refine Ev.ite (fun h => ?_) (fun h => ?_)
      · rw [decide_eq_true (by omega : 512 < i)]; exact Ev.now _
      · rw [decide_eq_false (by omega : ¬ 512 < i), Bool.false_or]
        refine Ev.cast (Ev.now _) ?_
        have e : mn (i : Int) (m : Int) > 32 ↔ 32 < min i m := by unfold mn; split <;> omega
        rw [beq_iff_eq, Bool.eq_iff_iff, decide_eq_true_eq, decide_eq_true_eq, e]
    | succ d ih =>
      intro i hd hi
      refine Ev.succ ?_
      simp only [merkhetlaw13_HostsGreat.l0]
      refine Ev.pos (by omega) (Ev.neg (by omega) (Ev.pos (by rw [manyN_length]; omega) ?_))
      have hmod : Int.tmod (i : Int) (m : Int) = ((i % m : Nat) : Int) := by rw [Int.tmod_eq_emod_of_nonneg (by omega)]; rfl
      have hlt := Nat.mod_lt i hm0
      rw [hmod, Int.tdiv_eq_ediv_of_nonneg (by omega), Int.tmod_eq_emod_of_nonneg (a := ((i % m : Nat) : Int)) (by omega)]
      have e1 : wrap64 (97 + wrap64 (((i % m : Nat) : Int) / 8)) = ((97 + (i % m) / 8 : Nat) : Int) := by
        rw [wrap_id (i := ((i % m : Nat) : Int) / 8) (by omega) (by omega), wrap_id (by omega) (by omega)]; omega
      have e2 : wrap64 (97 + ((i % m : Nat) : Int) % 8) = ((97 + (i % m) % 8 : Nat) : Int) := by
        rw [wrap_id (by omega) (by omega)]; omega
      rw [e1, e2, wrap_id (by omega) (by omega)]
      have := ih (i + 1) (by omega) (by omega)
      unfold manyN at this
      rw [List.range_succ, List.map_append] at this
      exact this
  exact loop n 0 (by omega) (by omega)
end Go.Proofs.Ytkpmaenhkjfncaa.Pure
