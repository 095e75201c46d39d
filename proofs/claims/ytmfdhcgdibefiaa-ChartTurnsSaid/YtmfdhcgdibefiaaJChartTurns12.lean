/- Texts joined by wip/tools/merge.py: LibB Shelf. -/
import Derived.Test.YtmfdhcgdibefiaaJChartTurns0
import Derived.Test.YtmfdhcgdibefiaaJChartTurns11
import Derived.Lib.Bytealg
import Derived.Maps.OwnSet
import Derived.Maps.OwnOps
import Derived.Shelf.GgSortFunc.InsertionK
import Derived.Shelf.Small.Bits
import Derived.Test.YtmfdhcgdibefiaaProg
/- Plain words for the pure statements; a map beside rows; a row beside the sort. -/
namespace Go.Proofs.YtmfdhcgdibefiaaW.Lib
open Go.RowKit Go.Proofs.YtmfdhcgdibefiaaW.PrintWords
set_option linter.unusedVariables false

theorem Ev.ite {α : Type} {c : Prop} [Decidable c] {A B : Nat → Option α} {r : α} (h1 : c → Ev A r) (h2 : ¬ c → Ev B r) : Ev (fun k => if c then A k else B k) r := by
  by_cases h : c
  · simpa only [if_pos h] using h1 h
  · simpa only [if_neg h] using h2 h
theorem Ev.pos {α : Type} {c : Prop} [Decidable c] {A B : Nat → Option α} {r : α} (h : c) (h1 : Ev A r) : Ev (fun k => if c then A k else B k) r := Ev.ite (fun _ => h1) (fun h' => absurd h h')
theorem Ev.neg {α : Type} {c : Prop} [Decidable c] {A B : Nat → Option α} {r : α} (h : ¬ c) (h1 : Ev B r) : Ev (fun k => if c then A k else B k) r := Ev.ite (fun h' => absurd h' h) (fun _ => h1)
theorem Ev.const {α : Type} {g : Option α} {r : α} (h : g = some r) : Ev (fun _ => g) r := ⟨0, fun _ _ => h⟩
theorem Ev.cast {α : Type} {g : Nat → Option α} {r r' : α} (h : Ev g r) (e : r = r') : Ev g r' := e ▸ h
theorem Ev.succ {α : Type} {g : Nat → Option α} {r : α} (h : Ev (fun k => g (k + 1)) r) : Ev g r := Ev.step (fun _ => rfl) h
theorem bytesOf_size (s : ByteArray) : (bytesOf s).length = s.size := by simp [bytesOf]
theorem bytesOf_get (s : ByteArray) (i : Nat) (h : i < s.size) : (bytesOf s)[i]'(by rw [bytesOf_size]; exact h) = bt s i := by
  rw [← bt_at s i (by simpa using h)]
  simp [bytesOf, ByteArray.getElem_eq_getElem_data]
theorem bytesOf_drop (s : ByteArray) (i : Nat) (h : i < s.size) : (bytesOf s).drop i = bt s i :: (bytesOf s).drop (i + 1) := by
  rw [← bytesOf_get s i h, ← List.drop_eq_getElem_cons]
theorem wrap_id {i : Int} (h0 : -9223372036854775808 ≤ i) (h1 : i < 9223372036854775808) : wrap64 i = i := by
  unfold wrap64; omega
theorem wf_u64 {x : Int} (h : (Lit.int .u64 x).wf = true) : 0 ≤ x ∧ x < 18446744073709551616 := by
  simp [Lit.wf, IntKind.min, IntKind.max, IntKind.signed, IntKind.bits] at h; omega
end Go.Proofs.YtmfdhcgdibefiaaW.Lib
namespace Go.Proofs.YtmfdhcgdibefiaaW.MapB
open Go.RowKit Go.Proofs.YtmfdhcgdibefiaaW.PrintWords
set_option linter.unusedVariables false
section
variable {H : Type} {P : Program} {k e : TypeId} {R : Value → Option (DataW H × List MemPlace)} {w w1 : World} {b n B : Nat} {D : DataW H}
theorem grown_below {row : Option Nat} (hg : w.grownBy w1 row) (hr : ∀ i, row = some i → B ≤ i) (hB : B ≤ w.heap.size) : Below B w w1 := (Below.refl B w).grown hg hB hr
end
section
open Go.Maps
variable {H : Type} {P : Program} (w : World) {ops : Array Oper} {rest : List Oper} {o : Oper} {a : Act} {Q : Exit → Act → World → Prop}
end
/-! A map that is filled place by place: plain. -/
section
open Go.Maps
variable {α : Type} {key : α → Lit} {d : α}
end
end Go.Proofs.YtmfdhcgdibefiaaW.MapB
namespace Go.Proofs.YtmfdhcgdibefiaaW.RowB
open Go.RowKit Go.Proofs.YtmfdhcgdibefiaaW.PrintWords Go.Sort
set_option linter.unusedVariables false
variable {α : Type} [Inhabited α]
end Go.Proofs.YtmfdhcgdibefiaaW.RowB

/- Contracts of the library at this translation: for each the table of numbers, and that the bodies are those that the contract was proved of. -/
namespace Go.Proofs
open Go.Shelf
def Try.laysLZ_ren : Go.Shelf.Ren := ⟨fun | 134 => 153 | 129 => 142 | n => n, fun | 53 => 24 | 3 => 3 | 4 => 4 | 46 => 151 | 5 => 5 | 9 => 9 | n => n, fun | n => n⟩
theorem Try.laysLZ : Go.Proofs.Lays.n134 Try.prog Try.laysLZ_ren := {
  mixed := by kernel_rfl
  f129 := Try.func142.trans (congrArg some (by kernel_rfl))
  f134 := Try.func153.trans (congrArg some (by kernel_rfl))
  t3 := Try.underlying3
  a3 := Try.isAgg3
  z3 := Try.sizeOf3
  v3 := Try.zeroValue3
  t4 := Try.underlying4
  a4 := Try.isAgg4
  z4 := Try.sizeOf4
  v4 := Try.zeroValue4
  t5 := Try.underlying5
  a5 := Try.isAgg5
  z5 := Try.sizeOf5
  v5 := Try.zeroValue5
  t9 := Try.underlying9
  a9 := Try.isAgg9
  z9 := Try.sizeOf9
  v9 := Try.zeroValue9
  t46 := Try.underlying151
  a46 := Try.isAgg151
  z46 := Try.sizeOf151
  v46 := Try.zeroValue151
  t53 := Try.underlying24
  a53 := Try.isAgg24
  z53 := Try.sizeOf24
  v53 := Try.zeroValue24 }
end Go.Proofs

