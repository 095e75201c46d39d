/- Texts joined by wip/tools/merge.py: LibB Shelf. -/
import Derived.Test.YtljkikcclnbdaaaDoorJReplyOne2
import Derived.Test.YtljkikcclnbdaaaDoorJReplyOne12
import Derived.Lib.Bytealg
import Derived.Maps.OwnSet
import Derived.Maps.OwnOps
import Derived.Shelf.GgSortFunc.InsertionK
import Derived.Shelf.Bytes.WriteAny
import Derived.Shelf.Bytes.WriteByte
import Derived.Shelf.Bytes.Bytes
import Derived.Test.YtljkikcclnbdaaaDoorProg
/- Plain words for the pure statements; a map beside rows; a row beside the sort. -/
namespace Go.Proofs.YtljkikcclnbdaaaDoorW.Lib
open Go.RowKit Go.Proofs.YtljkikcclnbdaaaDoorW.PrintWords
set_option linter.unusedVariables false

theorem Ev.ite {α : Type} {c : Prop} [Decidable c] {A B : Nat → Option α} {r : α} (h1 : c → Ev A r) (h2 : ¬ c → Ev B r) : Ev (fun k => if c then A k else B k) r := by
  by_cases h : c
  · simpa only [if_pos h] using h1 h
  · simpa only [if_neg h] using h2 h
theorem Ev.pos {α : Type} {c : Prop} [Decidable c] {A B : Nat → Option α} {r : α} (h : c) (h1 : Ev A r) : Ev (fun k => if c then A k else B k) r := Ev.ite (fun _ => h1) (fun h' => absurd h h')
theorem Ev.neg {α : Type} {c : Prop} [Decidable c] {A B : Nat → Option α} {r : α} (h : ¬ c) (h1 : Ev B r) : Ev (fun k => if c then A k else B k) r := Ev.ite (fun h' => absurd h' h) (fun _ => h1)
theorem Ev.const {α : Type} {g : Option α} {r : α} (h : g = some r) : Ev (fun _ => g) r := ⟨0, fun _ _ => h⟩
theorem Ev.cast {α : Type} {g : Nat → Option α} {r r' : α} (h : Ev g r) (e : r = r') : Ev g r' := e ▸ h
theorem Ev.succ {α : Type} {g : Nat → Option α} {r : α} (h : Ev (fun k => g (k + 1)) r) : Ev g r := Ev.step (fun _ => rfl) h
theorem bytesOf_size (s : ByteArray) : (bytesOf s).length = s.size := by simp [bytesOf]
theorem bytesOf_get (s : ByteArray) (i : Nat) (h : i < s.size) : (bytesOf s)[i]'(by rw [bytesOf_size]; exact h) = bt s i := by
  rw [← bt_at s i (by simpa using h)]
  simp [bytesOf, ByteArray.getElem_eq_getElem_data]
theorem bytesOf_drop (s : ByteArray) (i : Nat) (h : i < s.size) : (bytesOf s).drop i = bt s i :: (bytesOf s).drop (i + 1) := by
  rw [← bytesOf_get s i h, ← List.drop_eq_getElem_cons]
theorem bytesOf_range (s : ByteArray) : ∀ x ∈ bytesOf s, 0 ≤ x ∧ x ≤ 255 := by
  intro x hx
  obtain ⟨b, _, rfl⟩ := List.mem_map.1 hx
  have := b.toNat_lt
  omega
theorem bytesOf_inj {s t : ByteArray} (h : bytesOf s = bytesOf t) : s = t := by
  have : s.data.toList = t.data.toList := by
    unfold bytesOf at h
    exact (List.map_inj_right (fun a b hab => by
      apply UInt8.toNat_inj.1
      exact Int.ofNat.inj hab)).1 h
  cases s; cases t
  simp_all
theorem toList_data (s : ByteArray) : s.toList = s.data.toList := by
  exact ByteArray.toList_eq s
theorem toList_inj {s t : ByteArray} : (s.toList == t.toList) = decide (s = t) := by
  rw [Bool.eq_iff_iff]
  simp only [beq_iff_eq, decide_eq_true_eq]
  constructor
  · intro h
    rw [toList_data, toList_data] at h
    cases s; cases t
    simp_all
  · rintro rfl; rfl
theorem wrap_id {i : Int} (h0 : -9223372036854775808 ≤ i) (h1 : i < 9223372036854775808) : wrap64 i = i := by
  unfold wrap64; omega
theorem wf_i64 {x : Int} (h : (Lit.int .i64 x).wf = true) : -9223372036854775808 ≤ x ∧ x < 9223372036854775808 := by
  simp [Lit.wf, IntKind.min, IntKind.max, IntKind.signed, IntKind.bits] at h; omega
theorem wf_u64 {x : Int} (h : (Lit.int .u64 x).wf = true) : 0 ≤ x ∧ x < 18446744073709551616 := by
  simp [Lit.wf, IntKind.min, IntKind.max, IntKind.signed, IntKind.bits] at h; omega
end Go.Proofs.YtljkikcclnbdaaaDoorW.Lib
namespace Go.Proofs.YtljkikcclnbdaaaDoorW.MapB
open Go.RowKit Go.Proofs.YtljkikcclnbdaaaDoorW.PrintWords
set_option linter.unusedVariables false
section
variable {H : Type} {P : Program} {k e : TypeId} {R : Value → Option (DataW H × List MemPlace)} {w w1 : World} {b n B : Nat} {D : DataW H}
end
section
open Go.Maps
variable {H : Type} {P : Program} (w : World) {ops : Array Oper} {rest : List Oper} {o : Oper} {a : Act} {Q : Exit → Act → World → Prop}
end
/-! A map that is filled place by place: plain. -/
section
open Go.Maps
variable {α : Type} {key : α → Lit} {d : α}
end
end Go.Proofs.YtljkikcclnbdaaaDoorW.MapB
namespace Go.Proofs.YtljkikcclnbdaaaDoorW.RowB
open Go.RowKit Go.Proofs.YtljkikcclnbdaaaDoorW.PrintWords Go.Sort
set_option linter.unusedVariables false
variable {α : Type} [Inhabited α]
end Go.Proofs.YtljkikcclnbdaaaDoorW.RowB

/- Contracts of the library at this translation: for each the table of numbers, and that the bodies are those that the contract was proved of. -/
namespace Go.Proofs
open Go.Shelf
def Tryd.lays179_ren : Go.Shelf.Ren := ⟨fun | 179 => 16 | 251 => 46 | 252 => 47 | 181 => 64 | 184 => 65 | 290 => 66 | 324 => 72 | n => n, fun | 130 => 59 | 5 => 5 | 75 => 48 | 0 => 0 | 93 => 46 | 91 => 44 | 3 => 3 | 131 => 96 | 4 => 4 | 37 => 30 | 20 => 20 | 80 => 106 | 9 => 9 | n => n, fun | 14 => 0 | n => n⟩
theorem Tryd.lays179 : Go.Proofs.LaysM.n179 Tryd.prog Tryd.lays179_ren := {
  mixed := by kernel_rfl
  f179 := Tryd.func16.trans (congrArg some (by kernel_rfl))
  f181 := Tryd.func64.trans (congrArg some (by kernel_rfl))
  f184 := Tryd.func65.trans (congrArg some (by kernel_rfl))
  f251 := Tryd.func46.trans (congrArg some (by kernel_rfl))
  f252 := Tryd.func47.trans (congrArg some (by kernel_rfl))
  f290 := Tryd.func66.trans (congrArg some (by kernel_rfl))
  f324 := Tryd.func72.trans (congrArg some (by kernel_rfl))
  t0 := Tryd.underlying0
  a0 := Tryd.isAgg0
  z0 := Tryd.sizeOf0
  v0 := Tryd.zeroValue0
  t3 := Tryd.underlying3
  a3 := Tryd.isAgg3
  z3 := Tryd.sizeOf3
  v3 := Tryd.zeroValue3
  t4 := Tryd.underlying4
  a4 := Tryd.isAgg4
  z4 := Tryd.sizeOf4
  v4 := Tryd.zeroValue4
  t5 := Tryd.underlying5
  a5 := Tryd.isAgg5
  z5 := Tryd.sizeOf5
  v5 := Tryd.zeroValue5
  t20 := Tryd.underlying20
  a20 := Tryd.isAgg20
  z20 := Tryd.sizeOf20
  v20 := Tryd.zeroValue20
  t37 := Tryd.underlying30
  a37 := Tryd.isAgg30
  z37 := Tryd.sizeOf30
  v37 := Tryd.zeroValue30
  t75 := Tryd.underlying48
  a75 := Tryd.isAgg48
  z75 := Tryd.sizeOf48
  v75 := Tryd.zeroValue48
  t91 := Tryd.underlying44
  a91 := Tryd.isAgg44
  z91 := Tryd.sizeOf44
  v91 := Tryd.zeroValue44
  t93 := Tryd.underlying46
  a93 := Tryd.isAgg46
  z93 := Tryd.sizeOf46
  v93 := Tryd.zeroValue46
  t130 := Tryd.underlying59
  a130 := Tryd.isAgg59
  z130 := Tryd.sizeOf59
  v130 := Tryd.zeroValue59
  t131 := Tryd.underlying96
  a131 := Tryd.isAgg96
  z131 := Tryd.sizeOf96
  v131 := Tryd.zeroValue96
  g14 := by kernel_rfl
  t9 := Tryd.underlying9
  a9 := Tryd.isAgg9
  z9 := Tryd.sizeOf9
  v9 := Tryd.zeroValue9
  t80 := Tryd.underlying106
  a80 := Tryd.isAgg106
  z80 := Tryd.sizeOf106
  v80 := Tryd.zeroValue106
  i0 := by kernel_rfl
  i3 := by kernel_rfl
  i4 := by kernel_rfl
  i5 := by kernel_rfl
  i9 := by kernel_rfl
  i20 := by kernel_rfl
  i37 := by kernel_rfl
  i75 := by kernel_rfl
  i80 := by kernel_rfl
  i91 := by kernel_rfl
  i93 := by kernel_rfl
  i130 := by kernel_rfl
  i131 := by kernel_rfl
  m14 := by kernel_rfl }
def Tryd.lays180_ren : Go.Shelf.Ren := ⟨fun | 180 => 18 | 251 => 46 | 252 => 47 | 181 => 64 | 184 => 65 | 290 => 66 | 324 => 72 | n => n, fun | 130 => 59 | 37 => 30 | 3 => 3 | 75 => 48 | 0 => 0 | 93 => 46 | 91 => 44 | 131 => 96 | 4 => 4 | 20 => 20 | 5 => 5 | 80 => 106 | 9 => 9 | n => n, fun | 14 => 0 | n => n⟩
theorem Tryd.lays180 : Go.Proofs.LaysM.n180 Tryd.prog Tryd.lays180_ren := {
  mixed := by kernel_rfl
  f180 := Tryd.func18.trans (congrArg some (by kernel_rfl))
  f181 := Tryd.func64.trans (congrArg some (by kernel_rfl))
  f184 := Tryd.func65.trans (congrArg some (by kernel_rfl))
  f251 := Tryd.func46.trans (congrArg some (by kernel_rfl))
  f252 := Tryd.func47.trans (congrArg some (by kernel_rfl))
  f290 := Tryd.func66.trans (congrArg some (by kernel_rfl))
  f324 := Tryd.func72.trans (congrArg some (by kernel_rfl))
  t0 := Tryd.underlying0
  a0 := Tryd.isAgg0
  z0 := Tryd.sizeOf0
  v0 := Tryd.zeroValue0
  t3 := Tryd.underlying3
  a3 := Tryd.isAgg3
  z3 := Tryd.sizeOf3
  v3 := Tryd.zeroValue3
  t4 := Tryd.underlying4
  a4 := Tryd.isAgg4
  z4 := Tryd.sizeOf4
  v4 := Tryd.zeroValue4
  t20 := Tryd.underlying20
  a20 := Tryd.isAgg20
  z20 := Tryd.sizeOf20
  v20 := Tryd.zeroValue20
  t37 := Tryd.underlying30
  a37 := Tryd.isAgg30
  z37 := Tryd.sizeOf30
  v37 := Tryd.zeroValue30
  t75 := Tryd.underlying48
  a75 := Tryd.isAgg48
  z75 := Tryd.sizeOf48
  v75 := Tryd.zeroValue48
  t91 := Tryd.underlying44
  a91 := Tryd.isAgg44
  z91 := Tryd.sizeOf44
  v91 := Tryd.zeroValue44
  t93 := Tryd.underlying46
  a93 := Tryd.isAgg46
  z93 := Tryd.sizeOf46
  v93 := Tryd.zeroValue46
  t130 := Tryd.underlying59
  a130 := Tryd.isAgg59
  z130 := Tryd.sizeOf59
  v130 := Tryd.zeroValue59
  t131 := Tryd.underlying96
  a131 := Tryd.isAgg96
  z131 := Tryd.sizeOf96
  v131 := Tryd.zeroValue96
  g14 := by kernel_rfl
  t5 := Tryd.underlying5
  a5 := Tryd.isAgg5
  z5 := Tryd.sizeOf5
  v5 := Tryd.zeroValue5
  t9 := Tryd.underlying9
  a9 := Tryd.isAgg9
  z9 := Tryd.sizeOf9
  v9 := Tryd.zeroValue9
  t80 := Tryd.underlying106
  a80 := Tryd.isAgg106
  z80 := Tryd.sizeOf106
  v80 := Tryd.zeroValue106
  i0 := by kernel_rfl
  i3 := by kernel_rfl
  i4 := by kernel_rfl
  i5 := by kernel_rfl
  i9 := by kernel_rfl
  i20 := by kernel_rfl
  i37 := by kernel_rfl
  i75 := by kernel_rfl
  i80 := by kernel_rfl
  i91 := by kernel_rfl
  i93 := by kernel_rfl
  i130 := by kernel_rfl
  i131 := by kernel_rfl
  m14 := by kernel_rfl }
def Tryd.lays183_ren : Go.Shelf.Ren := ⟨fun | 183 => 17 | n => n, fun | 130 => 59 | 37 => 30 | 0 => 0 | 93 => 46 | 3 => 3 | 5 => 5 | 91 => 44 | n => n, fun | n => n⟩
theorem Tryd.lays183 : Go.Proofs.LaysM.n183 Tryd.prog Tryd.lays183_ren := {
  mixed := by kernel_rfl
  f183 := Tryd.func17.trans (congrArg some (by kernel_rfl))
  t0 := Tryd.underlying0
  a0 := Tryd.isAgg0
  z0 := Tryd.sizeOf0
  v0 := Tryd.zeroValue0
  t3 := Tryd.underlying3
  a3 := Tryd.isAgg3
  z3 := Tryd.sizeOf3
  v3 := Tryd.zeroValue3
  t37 := Tryd.underlying30
  a37 := Tryd.isAgg30
  z37 := Tryd.sizeOf30
  v37 := Tryd.zeroValue30
  t93 := Tryd.underlying46
  a93 := Tryd.isAgg46
  z93 := Tryd.sizeOf46
  v93 := Tryd.zeroValue46
  t130 := Tryd.underlying59
  a130 := Tryd.isAgg59
  z130 := Tryd.sizeOf59
  v130 := Tryd.zeroValue59
  t5 := Tryd.underlying5
  a5 := Tryd.isAgg5
  z5 := Tryd.sizeOf5
  v5 := Tryd.zeroValue5
  t91 := Tryd.underlying44
  a91 := Tryd.isAgg44
  z91 := Tryd.sizeOf44
  v91 := Tryd.zeroValue44
  i0 := by kernel_rfl
  i3 := by kernel_rfl
  i5 := by kernel_rfl
  i37 := by kernel_rfl
  i91 := by kernel_rfl
  i93 := by kernel_rfl
  i130 := by kernel_rfl }
end Go.Proofs

