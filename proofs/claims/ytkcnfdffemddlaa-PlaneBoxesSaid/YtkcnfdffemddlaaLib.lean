/- Plain words for the pure statements: from some number of rounds on (Ev), bytes, sums that fit. -/
import Derived.Test.YtkcnfdffemddlaaWWords
import Derived.Test.YtkcnfdffemddlaaWMore
import Derived.Lib.Bytealg
namespace Go.Proofs.YtkcnfdffemddlaaW.Lib
open Go.RowKit Go.Proofs.YtkcnfdffemddlaaW.PrintWords
set_option linter.unusedVariables false

theorem Ev.ite {α : Type} {c : Prop} [Decidable c] {A B : Nat → Option α} {r : α} (h1 : c → Ev A r) (h2 : ¬ c → Ev B r) : Ev (fun k => if c then A k else B k) r := by
  by_cases h : c
  · simpa only [if_pos h] using h1 h
  · simpa only [if_neg h] using h2 h
theorem Ev.pos {α : Type} {c : Prop} [Decidable c] {A B : Nat → Option α} {r : α} (h : c) (h1 : Ev A r) : Ev (fun k => if c then A k else B k) r := Ev.ite (fun _ => h1) (fun h' => absurd h h')
theorem Ev.neg {α : Type} {c : Prop} [Decidable c] {A B : Nat → Option α} {r : α} (h : ¬ c) (h1 : Ev B r) : Ev (fun k => if c then A k else B k) r := Ev.ite (fun h' => absurd h' h) (fun _ => h1)
theorem Ev.const {α : Type} {g : Option α} {r : α} (h : g = some r) : Ev (fun _ => g) r := ⟨0, fun _ _ => h⟩
theorem Ev.cast {α : Type} {g : Nat → Option α} {r r' : α} (h : Ev g r) (e : r = r') : Ev g r' := e ▸ h
theorem Ev.succ {α : Type} {g : Nat → Option α} {r : α} (h : Ev (fun k => g (k + 1)) r) : Ev g r := Ev.step (fun _ => rfl) h
theorem Ev.uniq {α : Type} {g : Nat → Option α} {r r' : α} (h : Ev g r) (h' : Ev g r') : r = r' := by
  obtain ⟨K, h⟩ := h
  obtain ⟨K', h'⟩ := h'
  have := (h (max K K') (by omega)).symm.trans (h' (max K K') (by omega))
  exact Option.some.inj this

theorem bytesOf_size (s : ByteArray) : (bytesOf s).length = s.size := by simp [bytesOf]
theorem bytesOf_get (s : ByteArray) (i : Nat) (h : i < s.size) : (bytesOf s)[i]'(by rw [bytesOf_size]; exact h) = bt s i := by
  rw [← bt_at s i (by simpa using h)]
  simp [bytesOf, ByteArray.getElem_eq_getElem_data]
theorem bytesOf_drop (s : ByteArray) (i : Nat) (h : i < s.size) : (bytesOf s).drop i = bt s i :: (bytesOf s).drop (i + 1) := by
  rw [← bytesOf_get s i h, ← List.drop_eq_getElem_cons]
theorem bytesOf_range (s : ByteArray) : ∀ x ∈ bytesOf s, 0 ≤ x ∧ x ≤ 255 := by
  intro x hx
  obtain ⟨b, _, rfl⟩ := List.mem_map.1 hx
  have := b.toNat_lt
  omega
theorem bytesOf_inj {s t : ByteArray} (h : bytesOf s = bytesOf t) : s = t := by
  have : s.data.toList = t.data.toList := by
    unfold bytesOf at h
    exact (List.map_inj_right (fun a b hab => by
      apply UInt8.toNat_inj.1
      exact Int.ofNat.inj hab)).1 h
  cases s; cases t
  simp_all
theorem toList_data (s : ByteArray) : s.toList = s.data.toList := by
  exact ByteArray.toList_eq s
theorem toList_inj {s t : ByteArray} : (s.toList == t.toList) = decide (s = t) := by
  rw [Bool.eq_iff_iff]
  simp only [beq_iff_eq, decide_eq_true_eq]
  constructor
  · intro h
    rw [toList_data, toList_data] at h
    cases s; cases t
    simp_all
  · rintro rfl; rfl
theorem wrap_id {i : Int} (h0 : -9223372036854775808 ≤ i) (h1 : i < 9223372036854775808) : wrap64 i = i := by
  unfold wrap64; omega
theorem wf_i64 {x : Int} (h : (Lit.int .i64 x).wf = true) : -9223372036854775808 ≤ x ∧ x < 9223372036854775808 := by
  simp [Lit.wf, IntKind.min, IntKind.max, IntKind.signed, IntKind.bits] at h; omega
theorem wf_u64 {x : Int} (h : (Lit.int .u64 x).wf = true) : 0 ≤ x ∧ x < 18446744073709551616 := by
  simp [Lit.wf, IntKind.min, IntKind.max, IntKind.signed, IntKind.bits] at h; omega
theorem wf_u8 {x : Int} (h : (Lit.int .u8 x).wf = true) : 0 ≤ x ∧ x < 256 := by
  simp [Lit.wf, IntKind.min, IntKind.max, IntKind.signed, IntKind.bits] at h; omega
end Go.Proofs.YtkcnfdffemddlaaW.Lib
