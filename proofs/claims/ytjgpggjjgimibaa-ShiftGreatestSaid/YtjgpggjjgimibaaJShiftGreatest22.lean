/- Texts joined by wip/tools/merge.py: Qx0 Shelf HostG NumP LibB NumG NumH TooG Qx3 BndA BndB RlxA Bx0 Bx1 RlxB RlxC Xx0. -/
import Derived.Test.YtjgpggjjgimibaaProg
import Derived.Below
import Derived.Deep.Draws
import Derived.Deep.AppendLies
import Derived.Maps.AppendAt
import Derived.OwnWalk
import Derived.Laws.BytesArg
import Derived.Laws.MakeOwn
import Derived.Laws.OwnMore
import Derived.Deep.OwnRows
import Derived.Tactics
import Derived.Lib.ConvBytes
import Derived.Laws.Slices
import Derived.WalkKit
import Derived.KernelRfl
import Derived.RowKit3
import Derived.Deep.LoopGhost
import Derived.Deep.QuietTactic
import Derived.BigQuiet
import Derived.WideLaws
import Derived.Deep.DeepCutAuto
import Derived.Deep.CutBlock
import Derived.Deep.RegionHeld3
import Derived.Laws.Rows
import Derived.Lib.AppendStr
import Derived.ArgAppend
import Derived.Laws.IdiomCopy
import Derived.OrdersHeld
import Derived.Laws.BitsLemmas
import Derived.RowKit
import Derived.Test.YtjgpggjjgimibaaJShiftGreatest1
import Derived.Test.YtjgpggjjgimibaaJShiftGreatest2
import Derived.Test.YtjgpggjjgimibaaJShiftGreatest3
import Derived.Test.YtjgpggjjgimibaaJShiftGreatest4
import Derived.Test.YtjgpggjjgimibaaJShiftGreatest5
import Derived.Test.YtjgpggjjgimibaaJShiftGreatest6
import Derived.Test.YtjgpggjjgimibaaJShiftGreatest7
import Derived.Test.YtjgpggjjgimibaaJShiftGreatest8
import Derived.Test.YtjgpggjjgimibaaJShiftGreatest9
import Derived.Test.YtjgpggjjgimibaaJShiftGreatest10
import Derived.Test.YtjgpggjjgimibaaJShiftGreatest11
import Derived.Test.YtjgpggjjgimibaaJShiftGreatest12
import Derived.Test.YtjgpggjjgimibaaJShiftGreatest13
import Derived.Test.YtjgpggjjgimibaaJShiftGreatest14
import Derived.Test.YtjgpggjjgimibaaJShiftGreatest15
import Derived.Test.YtjgpggjjgimibaaJShiftGreatest16
import Derived.Test.YtjgpggjjgimibaaJShiftGreatest17
import Derived.Test.YtjgpggjjgimibaaJShiftGreatest18
import Derived.Test.YtjgpggjjgimibaaJShiftGreatest19
import Derived.Test.YtjgpggjjgimibaaJShiftGreatest20
import Derived.Test.YtjgpggjjgimibaaJShiftGreatest21
import Derived.Shelf.SortM.Plain
import Derived.Shelf.SlicesG.CompactS
import Derived.Shelf.SlicesG.Turned
import Derived.Test.YtjgpggjjgimibaaJShiftGreatest0
import Derived.Shelf.SortM.SortNone
import Derived.Lib.OwnBridge
import Derived.Sort.OwnSorted
import Derived.Sort.Grow
import Derived.Maps.Views
import Derived.Lib.Bytealg
import Derived.Maps.OwnSet
import Derived.Maps.OwnOps
import Derived.Shelf.GgSortFunc.InsertionK
import Derived.WalkArith
import Derived.StringKeys
import Derived.Laws.Bits64
import Derived.Laws.Externs
import Derived.WalkSpells
import Derived.Laws.CopyOwn
import Derived.Laws.Bits64b
import Derived.RegionTactic
import Derived.BigRegion
import Derived.Deep.RegionLaw
-- Written by wip/tools/gp.py, a program of this session round the kit's printer. Lean checks it.
namespace Go.Proofs.Ytjgpggjjgimibaa.Q
open Go.RowKit Go.Proofs.YtjgpggjjgimibaaW.PrintWords Go.Proofs.YtjgpggjjgimibaaW.PrintLast Go.Proofs.YtjgpggjjgimibaaW.PrintMore
attribute [local go_sem] max2_int min2_int max_two min_two max_three min_three max_four min_four   -- for this text's walks alone
set_option linter.unusedVariables false
set_option linter.unusedSimpArgs false



theorem own_len (A : Option Addr) (n m c d : Nat) : (Value.slice A n c).ownBlock = (Value.slice A m d).ownBlock := by cases A <;> rfl
def errW : Option Int → Value
  | none => .nilIface
  | some c => .iface 0 (.int .i64 c)
theorem errW_none : errW none = .nilIface := rfl
theorem errW_some (c : Int) : errW (some c) = .iface 0 (.int .i64 c) := rfl

theorem info2 : (Try.prog.info? 2).map (fun i => (i.zero, i.size, i.bytes)) = some (some (.int .i64 0), 1, 8) := by kernel_rfl
theorem info3 : (Try.prog.info? 3).map (fun i => (i.zero, i.size, i.bytes)) = some (some (.int .i64 0), 1, 8) := by kernel_rfl
theorem info9 : (Try.prog.info? 9).map (fun i => (i.zero, i.size, i.bytes)) = some (some (.string ⟨#[]⟩), 1, 16) := by kernel_rfl
theorem info27 : (Try.prog.info? 27).map (fun i => (i.zero, i.size, i.bytes)) = some (some (.slice none 0 0), 1, 24) := by kernel_rfl
theorem info33 : (Try.prog.info? 33).map (fun i => (i.zero, i.size, i.bytes)) = some (some (.slice none 0 0), 1, 24) := by kernel_rfl
theorem info35 : (Try.prog.info? 35).map (fun i => (i.zero, i.size, i.bytes)) = some (some (.agg #[(.int .i64 0), (.int .i64 0)]), 2, 16) := by kernel_rfl
-- the values' own types
/-! #### struct type 35 -/
structure S35 where
  f0 : Int
  f1 : Int
def z35 : S35 := ⟨(0 : Int), (0 : Int)⟩
def k35 : Kd S35 := Kd.iso (Kd.pair (Kd.int .i64) (Kd.int .i64)) (fun x : S35 => (x.f0, x.f1))
theorem k35_open {w : World} {x : S35} {cs : List Value} (h : k35.K w x cs) : cs = [.int .i64 x.f0, .int .i64 x.f1] := by
  obtain ⟨_, _, rfl, rfl, rfl⟩ := h
  exact rfl
theorem k35_mkM (w : World) (base : Nat) (ok : Nat → Prop) (x : S35)  : k35.M w base ok x [.int .i64 x.f0, .int .i64 x.f1] := ⟨[.int .i64 x.f0], [.int .i64 x.f1], rfl, rfl, rfl⟩
def rd_T35 (xs : List S35) (i : Int) : S35 := xs.getD i.toNat z35
theorem at_T35 {w : World} {A : Option Addr} {n : Nat} {xs : List S35} (h : Kd.C k35 w A n xs) (i : Int) (h0 : 0 ≤ i) (h1 : i < n) : ∃ ad , A = some ad ∧ w.cell? (ad.add (i.toNat * 2)) = some (.int .i64 (rd_T35 xs i).f0) ∧ w.cell? ⟨(ad.add (i.toNat * 2)).block, (ad.add (i.toNat * 2)).off + 1, none⟩ = some (.int .i64 (rd_T35 xs i).f1) := by
  obtain ⟨ad, c, e, _, hK, hc0⟩ := Kd.C_get h z35 i h0 h1
  have hc : ∀ j u, c[j]? = some u → w.cell? (ad.add (i.toNat * 2 + j)) = some u := hc0
  obtain rfl := k35_open hK
  exact ⟨ad, e, hc 0 _ rfl, by rw [← add_field _ _ 1 (by omega)]; exact hc 1 _ rfl⟩

/-! #### struct type 37 -/
structure S37 where
  f0 : Int
  f1 : Int
  f2 : Int
  f3 : S35
  f4 : Bool
def z37 : S37 := ⟨(0 : Int), (0 : Int), (0 : Int), z35, false⟩
def k37 : Kd S37 := Kd.iso (Kd.pair (Kd.int .i64) (Kd.pair (Kd.int .i64) (Kd.pair (Kd.int .i64) (Kd.pair k35 Kd.bool)))) (fun x : S37 => (x.f0, x.f1, x.f2, x.f3, x.f4))
theorem k37_open {w : World} {x : S37} {cs : List Value} (h : k37.K w x cs) : cs = [.int .i64 x.f0, .int .i64 x.f1, .int .i64 x.f2, .int .i64 x.f3.f0, .int .i64 x.f3.f1, .bool x.f4] := by
  obtain ⟨_, _, rfl, rfl, ⟨_, _, rfl, rfl, ⟨_, _, rfl, rfl, ⟨_, _, rfl, s3, rfl⟩⟩⟩⟩ := h
  obtain rfl := k35_open s3
  exact rfl
theorem k37_mkM (w : World) (base : Nat) (ok : Nat → Prop) (x : S37)  : k37.M w base ok x [.int .i64 x.f0, .int .i64 x.f1, .int .i64 x.f2, .int .i64 x.f3.f0, .int .i64 x.f3.f1, .bool x.f4] := ⟨[.int .i64 x.f0], [.int .i64 x.f1, .int .i64 x.f2, .int .i64 x.f3.f0, .int .i64 x.f3.f1, .bool x.f4], rfl, rfl, ⟨[.int .i64 x.f1], [.int .i64 x.f2, .int .i64 x.f3.f0, .int .i64 x.f3.f1, .bool x.f4], rfl, rfl, ⟨[.int .i64 x.f2], [.int .i64 x.f3.f0, .int .i64 x.f3.f1, .bool x.f4], rfl, rfl, ⟨[.int .i64 x.f3.f0, .int .i64 x.f3.f1], [.bool x.f4], rfl, (k35_mkM w base ok x.f3 ), rfl⟩⟩⟩⟩
def rd_T37 (xs : List S37) (i : Int) : S37 := xs.getD i.toNat z37
theorem at_T37 {w : World} {A : Option Addr} {n : Nat} {xs : List S37} (h : Kd.C k37 w A n xs) (i : Int) (h0 : 0 ≤ i) (h1 : i < n) : ∃ ad , A = some ad ∧ w.cell? (ad.add (i.toNat * 6)) = some (.int .i64 (rd_T37 xs i).f0) ∧ w.cell? ⟨(ad.add (i.toNat * 6)).block, (ad.add (i.toNat * 6)).off + 1, none⟩ = some (.int .i64 (rd_T37 xs i).f1) ∧ w.cell? ⟨(ad.add (i.toNat * 6)).block, (ad.add (i.toNat * 6)).off + 2, none⟩ = some (.int .i64 (rd_T37 xs i).f2) ∧ w.cell? ⟨(ad.add (i.toNat * 6)).block, (ad.add (i.toNat * 6)).off + 3, none⟩ = some (.int .i64 (rd_T37 xs i).f3.f0) ∧ w.cell? ⟨(ad.add (i.toNat * 6)).block, (ad.add (i.toNat * 6)).off + 4, none⟩ = some (.int .i64 (rd_T37 xs i).f3.f1) ∧ w.cell? ⟨(ad.add (i.toNat * 6)).block, (ad.add (i.toNat * 6)).off + 5, none⟩ = some (.bool (rd_T37 xs i).f4) := by
  obtain ⟨ad, c, e, _, hK, hc0⟩ := Kd.C_get h z37 i h0 h1
  have hc : ∀ j u, c[j]? = some u → w.cell? (ad.add (i.toNat * 6 + j)) = some u := hc0
  obtain rfl := k37_open hK
  exact ⟨ad, e, hc 0 _ rfl, by rw [← add_field _ _ 1 (by omega)]; exact hc 1 _ rfl, by rw [← add_field _ _ 2 (by omega)]; exact hc 2 _ rfl, by rw [← add_field _ _ 3 (by omega)]; exact hc 3 _ rfl, by rw [← add_field _ _ 4 (by omega)]; exact hc 4 _ rfl, by rw [← add_field _ _ 5 (by omega)]; exact hc 5 _ rfl⟩

/-! #### struct type 42 -/
structure S42 where
  f0 : Int
  f1 : Int
  f2 : Int
  f3 : Int
  f4 : ByteArray
  f5 : ByteArray
  f6 : Int
  f7 : Int
def z42 : S42 := ⟨(0 : Int), (0 : Int), (0 : Int), (0 : Int), (⟨#[]⟩ : ByteArray), (⟨#[]⟩ : ByteArray), (0 : Int), (0 : Int)⟩
def k42 : Kd S42 := Kd.iso (Kd.pair (Kd.int .u64) (Kd.pair (Kd.int .u64) (Kd.pair (Kd.int .u64) (Kd.pair (Kd.int .u8) (Kd.pair Kd.string (Kd.pair Kd.string (Kd.pair (Kd.int .i64) (Kd.int .i64)))))))) (fun x : S42 => (x.f0, x.f1, x.f2, x.f3, x.f4, x.f5, x.f6, x.f7))
theorem k42_open {w : World} {x : S42} {cs : List Value} (h : k42.K w x cs) : cs = [.int .u64 x.f0, .int .u64 x.f1, .int .u64 x.f2, .int .u8 x.f3, .string x.f4, .string x.f5, .int .i64 x.f6, .int .i64 x.f7] := by
  obtain ⟨_, _, rfl, rfl, ⟨_, _, rfl, rfl, ⟨_, _, rfl, rfl, ⟨_, _, rfl, rfl, ⟨_, _, rfl, rfl, ⟨_, _, rfl, rfl, ⟨_, _, rfl, rfl, rfl⟩⟩⟩⟩⟩⟩⟩ := h
  exact rfl
theorem k42_mkM (w : World) (base : Nat) (ok : Nat → Prop) (x : S42)  : k42.M w base ok x [.int .u64 x.f0, .int .u64 x.f1, .int .u64 x.f2, .int .u8 x.f3, .string x.f4, .string x.f5, .int .i64 x.f6, .int .i64 x.f7] := ⟨[.int .u64 x.f0], [.int .u64 x.f1, .int .u64 x.f2, .int .u8 x.f3, .string x.f4, .string x.f5, .int .i64 x.f6, .int .i64 x.f7], rfl, rfl, ⟨[.int .u64 x.f1], [.int .u64 x.f2, .int .u8 x.f3, .string x.f4, .string x.f5, .int .i64 x.f6, .int .i64 x.f7], rfl, rfl, ⟨[.int .u64 x.f2], [.int .u8 x.f3, .string x.f4, .string x.f5, .int .i64 x.f6, .int .i64 x.f7], rfl, rfl, ⟨[.int .u8 x.f3], [.string x.f4, .string x.f5, .int .i64 x.f6, .int .i64 x.f7], rfl, rfl, ⟨[.string x.f4], [.string x.f5, .int .i64 x.f6, .int .i64 x.f7], rfl, rfl, ⟨[.string x.f5], [.int .i64 x.f6, .int .i64 x.f7], rfl, rfl, ⟨[.int .i64 x.f6], [.int .i64 x.f7], rfl, rfl, rfl⟩⟩⟩⟩⟩⟩⟩
def rd_T42 (xs : List S42) (i : Int) : S42 := xs.getD i.toNat z42
theorem at_T42 {w : World} {A : Option Addr} {n : Nat} {xs : List S42} (h : Kd.C k42 w A n xs) (i : Int) (h0 : 0 ≤ i) (h1 : i < n) : ∃ ad , A = some ad ∧ w.cell? (ad.add (i.toNat * 8)) = some (.int .u64 (rd_T42 xs i).f0) ∧ w.cell? ⟨(ad.add (i.toNat * 8)).block, (ad.add (i.toNat * 8)).off + 1, none⟩ = some (.int .u64 (rd_T42 xs i).f1) ∧ w.cell? ⟨(ad.add (i.toNat * 8)).block, (ad.add (i.toNat * 8)).off + 2, none⟩ = some (.int .u64 (rd_T42 xs i).f2) ∧ w.cell? ⟨(ad.add (i.toNat * 8)).block, (ad.add (i.toNat * 8)).off + 3, none⟩ = some (.int .u8 (rd_T42 xs i).f3) ∧ w.cell? ⟨(ad.add (i.toNat * 8)).block, (ad.add (i.toNat * 8)).off + 4, none⟩ = some (.string (rd_T42 xs i).f4) ∧ w.cell? ⟨(ad.add (i.toNat * 8)).block, (ad.add (i.toNat * 8)).off + 5, none⟩ = some (.string (rd_T42 xs i).f5) ∧ w.cell? ⟨(ad.add (i.toNat * 8)).block, (ad.add (i.toNat * 8)).off + 6, none⟩ = some (.int .i64 (rd_T42 xs i).f6) ∧ w.cell? ⟨(ad.add (i.toNat * 8)).block, (ad.add (i.toNat * 8)).off + 7, none⟩ = some (.int .i64 (rd_T42 xs i).f7) := by
  obtain ⟨ad, c, e, _, hK, hc0⟩ := Kd.C_get h z42 i h0 h1
  have hc : ∀ j u, c[j]? = some u → w.cell? (ad.add (i.toNat * 8 + j)) = some u := hc0
  obtain rfl := k42_open hK
  exact ⟨ad, e, hc 0 _ rfl, by rw [← add_field _ _ 1 (by omega)]; exact hc 1 _ rfl, by rw [← add_field _ _ 2 (by omega)]; exact hc 2 _ rfl, by rw [← add_field _ _ 3 (by omega)]; exact hc 3 _ rfl, by rw [← add_field _ _ 4 (by omega)]; exact hc 4 _ rfl, by rw [← add_field _ _ 5 (by omega)]; exact hc 5 _ rfl, by rw [← add_field _ _ 6 (by omega)]; exact hc 6 _ rfl, by rw [← add_field _ _ 7 (by omega)]; exact hc 7 _ rfl⟩

def rd_L8 (xs : List (List Int)) (i : Int) : (List Int) := xs.getD i.toNat ([] : List Int)
theorem at_L8 {w : World} {A : Option Addr} {n : Nat} {xs : List (List Int)} (h : Kd.C (Kd.slice 2 (Kd.int .i64)) w A n xs) (i : Int) (h0 : 0 ≤ i) (h1 : i < n) : ∃ ad A0 c0, A = some ad ∧ w.cell? (ad.add i.toNat) = some (.slice A0 (rd_L8 xs i).length c0) ∧ (rd_L8 xs i).length ≤ c0 ∧ (Kd.int .i64).C w A0 (rd_L8 xs i).length (rd_L8 xs i) := by
  obtain ⟨ad, c, e, _, hK, hc0⟩ := Kd.C_get h ([] : List Int) i h0 h1
  have hc : ∀ j u, c[j]? = some u → w.cell? (ad.add (i.toNat * 1 + j)) = some u := hc0
  obtain ⟨A0, c0, rfl, l0, g0⟩ := hK
  exact ⟨ad, A0, c0, e, by have hq := hc 0 _ rfl; rwa [Nat.mul_one, Nat.add_zero] at hq, l0, g0⟩

end Go.Proofs.Ytjgpggjjgimibaa.Q

/- Contracts of the library at this translation: for each the table of numbers, and that the bodies are those that the contract was proved of. -/
namespace Go.Proofs
open Go.Shelf
def Try.sortStr_ren : Go.Shelf.Ren := ⟨fun | 6 => 64 | 8 => 74 | 9 => 73 | 19 => 91 | 20 => 92 | 21 => 82 | 22 => 83 | 23 => 84 | 24 => 85 | 25 => 86 | 26 => 87 | 27 => 88 | 28 => 89 | 29 => 90 | 36 => 97 | 31 => 98 | 32 => 99 | 37 => 100 | 38 => 101 | 39 => 102 | 41 => 104 | n => n, fun | 27 => 61 | 29 => 9 | 3 => 3 | 32 => 94 | 26 => 61 | 0 => 0 | 44 => 113 | 46 => 40 | 4 => 4 | 36 => 105 | 35 => 104 | 41 => 110 | 5 => 5 | 9 => 9 | 53 => 118 | 57 => 122 | 63 => 126 | 64 => 127 | n => n, fun | n => n⟩
theorem Try.sortStr : Go.Proofs.SlLaysM.n6 Try.prog Try.sortStr_ren := {
  mixed := by kernel_rfl
  f6 := ⟨Try.f64.name, by decide, Try.func64.trans (congrArg some (by kernel_rfl))⟩
  f8 := Try.func74.trans (congrArg some (by kernel_rfl))
  f9 := ⟨Try.f73.name, by decide, Try.func73.trans (congrArg some (by kernel_rfl))⟩
  f19 := Try.func91.trans (congrArg some (by kernel_rfl))
  f20 := Try.func92.trans (congrArg some (by kernel_rfl))
  f21 := ⟨Try.f82.name, by decide, Try.func82.trans (congrArg some (by kernel_rfl))⟩
  f22 := ⟨Try.f83.name, by decide, Try.func83.trans (congrArg some (by kernel_rfl))⟩
  f23 := ⟨Try.f84.name, by decide, Try.func84.trans (congrArg some (by kernel_rfl))⟩
  f24 := ⟨Try.f85.name, by decide, Try.func85.trans (congrArg some (by kernel_rfl))⟩
  f25 := ⟨Try.f86.name, by decide, Try.func86.trans (congrArg some (by kernel_rfl))⟩
  f26 := ⟨Try.f87.name, by decide, Try.func87.trans (congrArg some (by kernel_rfl))⟩
  f27 := ⟨Try.f88.name, by decide, Try.func88.trans (congrArg some (by kernel_rfl))⟩
  f28 := ⟨Try.f89.name, by decide, Try.func89.trans (congrArg some (by kernel_rfl))⟩
  f29 := ⟨Try.f90.name, by decide, Try.func90.trans (congrArg some (by kernel_rfl))⟩
  f31 := Try.func98.trans (congrArg some (by kernel_rfl))
  f32 := Try.func99.trans (congrArg some (by kernel_rfl))
  f36 := ⟨Try.f97.name, by decide, Try.func97.trans (congrArg some (by kernel_rfl))⟩
  f37 := ⟨Try.f100.name, by decide, Try.func100.trans (congrArg some (by kernel_rfl))⟩
  f38 := ⟨Try.f101.name, by decide, Try.func101.trans (congrArg some (by kernel_rfl))⟩
  f39 := ⟨Try.f102.name, by decide, Try.func102.trans (congrArg some (by kernel_rfl))⟩
  f41 := ⟨Try.f104.name, by decide, Try.func104.trans (congrArg some (by kernel_rfl))⟩
  t0 := Try.underlying0
  a0 := Try.isAgg0
  z0 := Try.sizeOf0
  v0 := Try.zeroValue0
  t3 := Try.underlying3
  a3 := Try.isAgg3
  z3 := Try.sizeOf3
  v3 := Try.zeroValue3
  t4 := Try.underlying4
  a4 := Try.isAgg4
  z4 := Try.sizeOf4
  v4 := Try.zeroValue4
  t5 := Try.underlying5
  a5 := Try.isAgg5
  z5 := Try.sizeOf5
  v5 := Try.zeroValue5
  t9 := Try.underlying9
  a9 := Try.isAgg9
  z9 := Try.sizeOf9
  v9 := Try.zeroValue9
  t26 := Try.underlying61
  a26 := Try.isAgg61
  z26 := Try.sizeOf61
  v26 := Try.zeroValue61
  t27 := Try.underlying61
  a27 := Try.isAgg61
  z27 := Try.sizeOf61
  v27 := Try.zeroValue61
  t29 := Try.underlying9
  a29 := Try.isAgg9
  z29 := Try.sizeOf9
  v29 := Try.zeroValue9
  t32 := Try.underlying94
  a32 := Try.isAgg94
  z32 := Try.sizeOf94
  v32 := Try.zeroValue94
  t35 := Try.underlying104
  a35 := Try.isAgg104
  z35 := Try.sizeOf104
  v35 := Try.zeroValue104
  t36 := Try.underlying105
  a36 := Try.isAgg105
  z36 := Try.sizeOf105
  v36 := Try.zeroValue105
  t41 := Try.underlying110
  a41 := Try.isAgg110
  z41 := Try.sizeOf110
  v41 := Try.zeroValue110
  t44 := Try.underlying113
  a44 := Try.isAgg113
  z44 := Try.sizeOf113
  v44 := Try.zeroValue113
  t46 := Try.underlying40
  a46 := Try.isAgg40
  z46 := Try.sizeOf40
  v46 := Try.zeroValue40
  t53 := Try.underlying118
  a53 := Try.isAgg118
  z53 := Try.sizeOf118
  v53 := Try.zeroValue118
  t57 := Try.underlying122
  a57 := Try.isAgg122
  z57 := Try.sizeOf122
  v57 := Try.zeroValue122
  t63 := Try.underlying126
  a63 := Try.isAgg126
  z63 := Try.sizeOf126
  v63 := Try.zeroValue126
  t64 := Try.underlying127
  a64 := Try.isAgg127
  z64 := Try.sizeOf127
  v64 := Try.zeroValue127 }
def Try.compactStr_ren : Go.Shelf.Ren := ⟨fun | 44 => 65 | n => n, fun | 25 => 61 | 26 => 9 | 3 => 3 | 4 => 4 | 0 => 0 | n => n, fun | n => n⟩
theorem Try.compactStr : Go.Proofs.SlLaysN.n44 Try.prog Try.compactStr_ren := {
  mixed := by kernel_rfl
  f44 := ⟨Try.f65.name, by decide, Try.func65.trans (congrArg some (by kernel_rfl))⟩
  t0 := Try.underlying0
  a0 := Try.isAgg0
  z0 := Try.sizeOf0
  v0 := Try.zeroValue0
  t3 := Try.underlying3
  a3 := Try.isAgg3
  z3 := Try.sizeOf3
  v3 := Try.zeroValue3
  t4 := Try.underlying4
  a4 := Try.isAgg4
  z4 := Try.sizeOf4
  v4 := Try.zeroValue4
  t25 := Try.underlying61
  a25 := Try.isAgg61
  z25 := Try.sizeOf61
  v25 := Try.zeroValue61
  t26 := Try.underlying9
  a26 := Try.isAgg9
  z26 := Try.sizeOf9
  v26 := Try.zeroValue9
  i26 := by kernel_rfl }
end Go.Proofs

/- dedupe.Hosts: the hosts of spans, each once, in order. -/
namespace Go.Proofs.Ytjgpggjjgimibaa.L
open Go.RowKit Go.Proofs.Ytjgpggjjgimibaa.Q Go.Proofs.YtjgpggjjgimibaaW.PrintWords Go.Proofs.YtjgpggjjgimibaaW.PrintLast Go.Proofs.YtjgpggjjgimibaaW.PrintMore Go.Sort
set_option linter.unusedVariables false

/-- The hosts of spans, each once, in order. -/
def hostsB (l : List S42) : List ByteArray := (hostsL (l.map (·.f4.data.toList))).map (fun x => ⟨x.toArray⟩)
theorem hostsB_cells (l : List S42) : (hostsB l).map Value.string = (hostsL (l.map (·.f4.data.toList))).map encStr := by
  unfold hostsB
  rw [List.map_map]; rfl
theorem hosts_left {w w1 : World} {g cap n nn q : Nat} {os : Array Obj} {ss : List (List UInt8)} (hown : w1.ownsRow w.heap.size 9 1 (.slice (some ⟨g, 0, none⟩) n cap) n (ss.map encStr)) (hbel : Below w.heap.size w w1) (hlen : ss.length = n) :
    (putRow encStr (Sort.ahead (grow (putRow encStr (Sort.ahead w1 nn) g 0 (ss.mergeSort fun x y => decide (x ≤ y)).toArray) os) q) g 0 (Lib.compact (ss.mergeSort fun x y => decide (x ≤ y)) ++ List.replicate ((ss.mergeSort fun x y => decide (x ≤ y)).length - (Lib.compact (ss.mergeSort fun x y => decide (x ≤ y))).length) []).toArray).ownsRow w.heap.size 9 1 (.slice (some ⟨g, 0, none⟩) (hostsL ss).length cap) (hostsL ss).length ((hostsL ss).map encStr) ∧
    Below w.heap.size w (putRow encStr (Sort.ahead (grow (putRow encStr (Sort.ahead w1 nn) g 0 (ss.mergeSort fun x y => decide (x ≤ y)).toArray) os) q) g 0 (Lib.compact (ss.mergeSort fun x y => decide (x ≤ y)) ++ List.replicate ((ss.mergeSort fun x y => decide (x ≤ y)).length - (Lib.compact (ss.mergeSort fun x y => decide (x ≤ y))).length) []).toArray) := by
  have hl2 : (ss.mergeSort fun x y => decide (x ≤ y)).length = ss.length := List.length_mergeSort ss
  have hle := Lib.compact_length_le (ss.mergeSort fun x y => decide (x ≤ y))
  subst hlen
  rcases hown.2 with ⟨h0, _⟩ | ⟨g', cap', cur, hv, hbase, hb, h1, h2, h3, h4⟩
  · cases h0
  cases hv
  have hs := ownsRow_sorted (n := nn) (os := os) (ts := ss.mergeSort fun x y => decide (x ≤ y)) hl2 hbase hb h1 h2 h3
  have hc := Lib.ownsRow_putRow (q := q) (k := (Lib.compact (ss.mergeSort fun x y => decide (x ≤ y))).length) (ys := Lib.compact (ss.mergeSort fun x y => decide (x ≤ y)) ++ List.replicate ((ss.mergeSort fun x y => decide (x ≤ y)).length - (Lib.compact (ss.mergeSort fun x y => decide (x ≤ y))).length) []) hs (by simp; omega) (by omega)
  rw [List.take_left] at hc
  exact ⟨hc, Lib.below_putRow (hbel.grown (grownBy_sorted _) hbel.size (fun j hj => by cases hj; exact hbase)) hbase⟩

set_option maxHeartbeats 4000000 in
set_option maxRecDepth 100000 in
theorem hosts_calls (l0 : List S42) (hl : l0.length ≤ 1759218604441) (A0 : Option Addr) (c0 : Nat) (w : World) (hr0 : Kd.C k42 w A0 l0.length l0) (hc0 : l0.length ≤ c0) :
    Calls Try.prog 45 #[.slice A0 l0.length c0] w fun e w' => ∃ v : Value, e = .returned v ∧ Kd.R Kd.string 9 w' w.heap.size (fun _ => True) v (hostsB l0) ∧ Below w.heap.size w w' := by
  have HR0 := Aside0.mk hr0
  have HL := Aside0.mk hl
  clear hr0 hc0 hl
  have HB := Aside0.mk (Below.refl w.heap.size w)
  go_enter Try.func45, Try.ntmps45
  go_wp2_with fail
  go_loopg [3, 8] l0.length (fun kq v3 v8 w' => ∃ x8 : Int, v8 = .int .i64 x8 ∧ Aside0 (0 ≤ x8 ∧ x8 + kq = l0.length) ∧ Aside0 (Kd.R Kd.string 9 w' w.heap.size (fun _ => True) v3 ((l0.take x8.toNat).map (·.f4))) ∧ Aside0 (Below w.heap.size w w'))
  case atStart => exact ⟨0, rfl, ⟨by omega, by omega⟩, ⟨Kd.R_nil _ _ _ _ _⟩, HB⟩
  case round =>
    obtain ⟨x8, rfl, HK, HO, HB⟩ := hrel
    by_cases c1 : x8 < (l0.length : Int)
    · have c1b := decide_eq_true c1
      have p1 : 0 ≤ x8 := HK.out.1
      obtain ⟨ad1, e1, hx1_0, hx1_1, hx1_2, hx1_3, hx1_4, hx1_5, hx1_6, hx1_7⟩ := at_T42 HR0.out x8 p1 c1
      cases e1
      replace hx1_0 := (HB.out.cell (World.block_lt_of_cell? w _ hx1_0)).trans hx1_0
      replace hx1_1 := (HB.out.cell (World.block_lt_of_cell? w _ hx1_1)).trans hx1_1
      replace hx1_2 := (HB.out.cell (World.block_lt_of_cell? w _ hx1_2)).trans hx1_2
      replace hx1_3 := (HB.out.cell (World.block_lt_of_cell? w _ hx1_3)).trans hx1_3
      replace hx1_4 := (HB.out.cell (World.block_lt_of_cell? w _ hx1_4)).trans hx1_4
      replace hx1_5 := (HB.out.cell (World.block_lt_of_cell? w _ hx1_5)).trans hx1_5
      replace hx1_6 := (HB.out.cell (World.block_lt_of_cell? w _ hx1_6)).trans hx1_6
      replace hx1_7 := (HB.out.cell (World.block_lt_of_cell? w _ hx1_7)).trans hx1_7
      have P1 := Aside0.mk p1
      have Q1 := Aside0.mk c1
      replace p1 := eq_true p1
      replace c1 := eq_true c1
      have W1 := Aside0.mk (show wrap64 (x8 + 1) = x8 + 1 from by unfold wrap64; have := HL.out; have := P1.out; have := Q1.out; omega)
      have HS := Aside0.mk (show (l0.take (x8 + 1).toNat).map (·.f4) = (l0.take x8.toNat).map (·.f4) ++ [(rd_T42 l0 x8).f4] from by
        have h1 := P1.out
        have h2 := Q1.out
        have h3 : x8.toNat < l0.length := by omega
        rw [show (x8 + 1).toNat = x8.toNat + 1 by omega, List.take_succ_eq_append_getElem h3, List.map_append]
        simp [rd_T42, List.getD, h3])
      go_wp2_with (first | ((with_reducible refine gate_builtin (b := .append) (xs := #[.tmp 12, .tmp 15]) rfl ?_); at_builtin; refine Kd.R_append Kd.string (w0 := w) w.heap.size rfl (.tmp 12) (.tmp 15) 61 9 (.string ⟨#[]⟩) 16 rfl Try.underlying61 (by kernel_rfl) rfl (by decide) (by omega) u3 ((l0.take x8.toNat).map (·.f4)) ((rd_T42 l0 x8).f4) [.string ((rd_T42 l0 x8).f4)] (fun _ => True) (fun _ => False) rfl ?aX ?aP (fun _ hk => hk.elim) ?aF ?aO ?aB ?aS ?aL ?_; (case aX => first | rfl | (go_simp; done) | (simp; done)); (case aP => exact rfl); (case aB => exact (by repeat (first | (with_reducible first | exact HB.out | apply below_alloc | apply pw_below_drewN | apply below_drew1) | exact HB.out))); (case aF => exact (fun _ _ => trivial)); (case aO => exact (by (with_reducible repeat (first | apply Kd.R_alloc | apply Kd.R_drewN | apply Kd.R_drew)); exact HO.out)); (case aS => exact (below_size (by repeat (first | (with_reducible first | exact HB.out | apply below_alloc | apply pw_below_drewN | apply below_drew1) | exact HB.out)))); (case aL => have := HL.out; have := Q1.out; simp only [List.length_map, List.length_take]; omega); intro v2 w2 ho hb hg hat; rw [← HS.out] at ho; have HO2 := Aside0.mk ho; have HB2 := Aside0.mk hb; clear ho hb hg hat))
      obtain ⟨k1, rfl⟩ : ∃ k1, gk = k1 + 1 := ⟨gk - 1, by have := HK.out; have := Q1.out; omega⟩
      go_roundg k1
      case measure => omega
      case rel => exact ⟨x8 + 1, by rw [W1.out], ⟨by have := P1.out; omega, by have := HK.out; omega⟩, HO2, HB2⟩
    · have c1b := decide_eq_false c1
      have hx : x8.toNat = l0.length := by have := HK.out; omega
      have ho := HO.out
      rw [hx, List.take_length] at ho
      have hown := Kd.own_of_R ho
      have hbel := HB.out
      have hm : encs Value.string (l0.map (·.f4)) = (l0.map (·.f4.data.toList)).map encStr := by
        rw [show encs Value.string (l0.map (·.f4)) = (l0.map (·.f4)).map Value.string from rfl, ← Lib.map_encStr]
        congr 1
        rw [List.map_map]; rfl
      rw [hm, List.length_map] at hown
      have hlen : (l0.map (·.f4.data.toList)).length = l0.length := List.length_map _
      clear ho HO HR0
      rcases Nat.eq_zero_or_pos l0.length with h0 | h0
      · have hv : ∃ p cap, u3 = .slice p 0 cap := by
          rcases hown.2 with ⟨h, _⟩ | ⟨g, cap, cur, h, _⟩
          · exact ⟨none, 0, by rw [h]⟩
          · exact ⟨_, cap, by rw [h, h0]⟩
        obtain ⟨p, cap, rfl⟩ := hv
        have ho0 : wr.ownsRow w.heap.size 9 1 (.slice p 0 cap) 0 [] := by
          have := hown
          rw [h0] at this
          rw [List.length_eq_zero_iff.1 h0] at this
          exact this
        have hs0 : hostsB l0 = [] := by
          have h1 := hostsL_length (l0.map (·.f4.data.toList))
          rw [List.length_map, h0] at h1
          unfold hostsB
          rw [List.length_eq_zero_iff.1 (Nat.le_zero.1 h1)]; rfl
        have HS0 := Aside0.mk hs0
        have S1 := Aside0.mk (AnyM.slices_Sort_string_none Try.sortStr p cap)
        have S2 := Aside0.mk (AnyG.slices_Compact_string_empty Try.compactStr p cap)
        have HO := Aside0.mk ho0
        clear hown hs0 hm hbel ho0
        go_wp2_with (first
          | (go_at_call 64; refine (S1.out _).mono ?_; rintro e w1 ⟨rfl, rfl⟩)
          | (go_at_call 65; refine (S2.out _).mono ?_; rintro e w1 ⟨rfl, rfl⟩))
        go_ret
        refine ⟨_, rfl, ?_, HB.out⟩
        rw [HS0.out]
        exact Kd.R_of_own (enc := Value.string) (xs := []) HO.out (fun _ _ => trivial)
      · have hnn : u3 ≠ .slice none 0 0 := by
          intro e
          rcases hown.2 with ⟨_, h⟩ | ⟨g, cap, cur, h, _⟩
          · omega
          · rw [e] at h; cases h
        obtain ⟨g, cap, rfl, hbg, hgl, hncap, hcm, hlen2, hH⟩ := Lib.holds_of_ownsRow hown hnn
        have hsort := AnyM.slices_Sort_string Try.sortStr g 0 cap (l0.map (·.f4.data.toList)) wr hH hgl (by have := HL.out; omega)
        rw [hlen] at hsort
        have hcells := hostsB_cells l0
        have HM := Aside0.mk hown
        have HH := Aside0.mk hH
        have HC := Aside0.mk hcells
        have HN := Aside0.mk hlen
        generalize hss : (l0.map (·.f4.data.toList)) = ss at *
        have S1 := Aside0.mk hsort
        have HG := Aside0.mk hgl
        have HP := Aside0.mk hncap
        clear hsort hH hcells hlen hlen2 hown hgl hm hss hbel hncap
        go_wp2_with (first
          | (go_at_call 64; refine S1.out.mono ?_; rintro e w1 ⟨rfl, nn, os, rfl⟩
             have hl2 : (ss.mergeSort fun x y => decide (x ≤ y)).length = l0.length := by rw [List.length_mergeSort]; exact HN.out
             have hH2 : Holds encStr (grow (putRow encStr (Sort.ahead wr nn) g 0 (ss.mergeSort fun x y => decide (x ≤ y)).toArray) os) g 0 (ss.mergeSort fun x y => decide (x ≤ y)).toArray :=
               holds_grow encStr _ os g 0 _ (by simpa [putRow, mapBlock, Sort.ahead] using HG.out) (holds_putRow encStr _ g 0 _ _ (holds_ahead encStr wr nn g 0 _ HH.out) (by simp))
             have hcomp := AnyG.slices_Compact_string Try.compactStr g 0 cap (ss.mergeSort fun x y => decide (x ≤ y)) _ hH2 (by have := HL.out; omega) (by have := HP.out; omega)
             rw [hl2] at hcomp
             have S2 := Aside0.mk hcomp
             have HN2 := Aside0.mk hl2
             clear hcomp hH2 hl2)
          | (go_at_call 65; refine S2.out.mono ?_; rintro e w2 ⟨rfl, q, rfl⟩))
        go_ret
        have hle := hosts_left (nn := nn) (os := os) (q := q) HM.out HB.out HN.out
        have hl3 : (hostsB l0).length = (hostsL ss).length := by
          have := congrArg List.length HC.out
          simpa using this
        refine ⟨_, rfl, ?_, ?_⟩
        · refine Kd.R_of_own (enc := Value.string) (e := 9) ?_ (fun _ _ => trivial)
          rw [show encs Value.string (hostsB l0) = (hostsB l0).map Value.string from rfl, HC.out, hl3]
          have := hle.1
          rw [List.length_mergeSort, HN.out] at this
          exact this
        · have := hle.2
          rw [List.length_mergeSort, HN.out] at this
          exact this
end Go.Proofs.Ytjgpggjjgimibaa.L

/- The hosts of spans, and the map of hosts to their numbers as it is read: plain. -/
namespace Go.Proofs.Ytjgpggjjgimibaa.L
open Go.RowKit Go.Proofs.Ytjgpggjjgimibaa.Q Go.Proofs.YtjgpggjjgimibaaW.PrintWords Go.Maps
set_option linter.unusedVariables false

/-- What a span that is read has. -/
def fitS (x : S42) : Prop := (Lit.int .u64 x.f1).wf = true ∧ x.f4.size ≤ 140737488351232 ∧ x.f5.size ≤ 140737488351232
instance : DecidablePred fitS := fun x => by unfold fitS; infer_instance

theorem hostsB_rise (l : List S42) : Rise cmpB (hostsB l) := by
  unfold hostsB Rise
  rw [List.pairwise_map]
  refine (hostsL_rise _).1.imp ?_
  intro x y h
  show Go.Lib.compareBytes _ _ < 0
  simpa using h
theorem hostsB_mem (l : List S42) (s : ByteArray) : s ∈ hostsB l ↔ ∃ x ∈ l, x.f4 = s := by
  unfold hostsB
  rw [List.mem_map]
  constructor
  · rintro ⟨y, hy, rfl⟩
    rw [(hostsL_rise _).2, List.mem_map] at hy
    obtain ⟨x, hx, rfl⟩ := hy
    exact ⟨x, hx, by simp⟩
  · rintro ⟨x, hx, rfl⟩
    refine ⟨x.f4.data.toList, ?_, by simp⟩
    rw [(hostsL_rise _).2]
    exact List.mem_map.2 ⟨x, hx, rfl⟩
theorem hostsB_length (l : List S42) : (hostsB l).length ≤ l.length := by
  unfold hostsB
  rw [List.length_map]
  exact Nat.le_trans (hostsL_length _) (by rw [List.length_map]; exact Nat.le_refl _)
theorem hostsB_nodup (l : List S42) : (hostsB l).Nodup := (hostsB_rise l).nodup cmpB_is
theorem hostsB_fit {l : List S42} (hf : ∀ x ∈ l, fitS x) : ∀ s ∈ hostsB l, s.size ≤ 140737488351232 := by
  intro s hs
  obtain ⟨x, hx, rfl⟩ := (hostsB_mem l s).1 hs
  exact (hf x hx).2.1

abbrev key (s : ByteArray) : Lit := .string s.data.toList
theorem key_inj {s t : ByteArray} (h : key s = key t) : s = t := by
  have h1 : s.data.toList = t.data.toList := by
    unfold key at h
    injection h
  cases s; cases t
  simp_all
theorem key_is (s : ByteArray) : WideAt.IsKeyLit (key s) := trivial
/-- The map behind k rounds. -/
def numD (l : List ByteArray) : Nat → DataW Unit
  | 0 => .map []
  | k + 1 => (numD l k).put (key (l.getD k ByteArray.empty)) (.lit (.int .i64 k))
theorem numD_tidy (l : List ByteArray) : ∀ k, Tidy (numD l k)
  | 0 => tidy_empty
  | k + 1 => (numD_tidy l k).put (key_is _) _
theorem numD_at {l : List ByteArray} (nd : l.Nodup) (z : DataW Unit) (j : Nat) (hj : j < l.length) : ∀ k, j < k → k ≤ l.length → (numD l k).atKey (key l[j]) z = .lit (.int .i64 j)
  | 0, h, _ => by omega
  | k + 1, h, hk => by
    have hl : l.getD k ByteArray.empty = l[k] := by simp [List.getD, show k < l.length by omega]
    rw [numD, hl]
    by_cases e : j = k
    · subst e
      exact atKey_put_same (numD_tidy l j).isMap (key_is _) _ _
    · rw [atKey_put_other (fun h2 => ?_)]
      · exact numD_at nd z j hj k (by omega) (by omega)
      · have := key_inj h2
        exact absurd this (List.pairwise_iff_getElem.1 nd j k hj (by omega) (by omega))
/-- The number of a text among texts. -/
def numB (l : List ByteArray) (s : ByteArray) : Nat := l.findIdx (fun h => decide (h = s))
theorem numB_lt {l : List ByteArray} {s : ByteArray} (h : s ∈ l) : numB l s < l.length := List.findIdx_lt_length_of_exists ⟨s, h, by simp⟩
theorem numB_get {l : List ByteArray} {s : ByteArray} (h : s ∈ l) : l[numB l s]'(numB_lt h) = s := by
  have := List.findIdx_getElem (p := fun h => decide (h = s)) (w := numB_lt h)
  exact of_decide_eq_true this
theorem numD_num {l : List ByteArray} (nd : l.Nodup) {s : ByteArray} (h : s ∈ l) (z : DataW Unit) : (numD l l.length).atKey (key s) z = .lit (.int .i64 (numB l s)) := by
  have := numD_at nd z (numB l s) (numB_lt h) l.length (numB_lt h) (Nat.le_refl _)
  rw [numB_get h] at this
  exact this
/-- The numbers of spans' hosts. -/
def numsL (l : List S42) : List Int := l.map fun x => (numB (hostsB l) x.f4 : Int)
end Go.Proofs.Ytjgpggjjgimibaa.L

/- Plain words for the pure statements; a map beside rows; a row beside the sort. -/
namespace Go.Proofs.YtjgpggjjgimibaaW.Lib
open Go.RowKit Go.Proofs.YtjgpggjjgimibaaW.PrintWords
set_option linter.unusedVariables false

theorem Ev.ite {α : Type} {c : Prop} [Decidable c] {A B : Nat → Option α} {r : α} (h1 : c → Ev A r) (h2 : ¬ c → Ev B r) : Ev (fun k => if c then A k else B k) r := by
  by_cases h : c
  · simpa only [if_pos h] using h1 h
  · simpa only [if_neg h] using h2 h
theorem Ev.pos {α : Type} {c : Prop} [Decidable c] {A B : Nat → Option α} {r : α} (h : c) (h1 : Ev A r) : Ev (fun k => if c then A k else B k) r := Ev.ite (fun _ => h1) (fun h' => absurd h h')
theorem Ev.neg {α : Type} {c : Prop} [Decidable c] {A B : Nat → Option α} {r : α} (h : ¬ c) (h1 : Ev B r) : Ev (fun k => if c then A k else B k) r := Ev.ite (fun h' => absurd h' h) (fun _ => h1)
theorem Ev.const {α : Type} {g : Option α} {r : α} (h : g = some r) : Ev (fun _ => g) r := ⟨0, fun _ _ => h⟩
theorem Ev.cast {α : Type} {g : Nat → Option α} {r r' : α} (h : Ev g r) (e : r = r') : Ev g r' := e ▸ h
theorem Ev.succ {α : Type} {g : Nat → Option α} {r : α} (h : Ev (fun k => g (k + 1)) r) : Ev g r := Ev.step (fun _ => rfl) h
theorem bytesOf_size (s : ByteArray) : (bytesOf s).length = s.size := by simp [bytesOf]
theorem bytesOf_get (s : ByteArray) (i : Nat) (h : i < s.size) : (bytesOf s)[i]'(by rw [bytesOf_size]; exact h) = bt s i := by
  rw [← bt_at s i (by simpa using h)]
  simp [bytesOf, ByteArray.getElem_eq_getElem_data]
theorem bytesOf_drop (s : ByteArray) (i : Nat) (h : i < s.size) : (bytesOf s).drop i = bt s i :: (bytesOf s).drop (i + 1) := by
  rw [← bytesOf_get s i h, ← List.drop_eq_getElem_cons]
theorem toList_data (s : ByteArray) : s.toList = s.data.toList := by
  exact ByteArray.toList_eq s
theorem toList_inj {s t : ByteArray} : (s.toList == t.toList) = decide (s = t) := by
  rw [Bool.eq_iff_iff]
  simp only [beq_iff_eq, decide_eq_true_eq]
  constructor
  · intro h
    rw [toList_data, toList_data] at h
    cases s; cases t
    simp_all
  · rintro rfl; rfl
theorem wrap_id {i : Int} (h0 : -9223372036854775808 ≤ i) (h1 : i < 9223372036854775808) : wrap64 i = i := by
  unfold wrap64; omega
theorem wf_i64 {x : Int} (h : (Lit.int .i64 x).wf = true) : -9223372036854775808 ≤ x ∧ x < 9223372036854775808 := by
  simp [Lit.wf, IntKind.min, IntKind.max, IntKind.signed, IntKind.bits] at h; omega
end Go.Proofs.YtjgpggjjgimibaaW.Lib
namespace Go.Proofs.YtjgpggjjgimibaaW.MapB
open Go.RowKit Go.Proofs.YtjgpggjjgimibaaW.PrintWords
set_option linter.unusedVariables false
section
variable {H : Type} {P : Program} {k e : TypeId} {R : Value → Option (DataW H × List MemPlace)} {w w1 : World} {b n B : Nat} {D : DataW H}
theorem map_below (h : w.ownsMap P k R b n D) (hb : Below w.heap.size w w1) : w1.ownsMap P k R b n D := by
  have hlt := h.lt
  obtain ⟨es, clock, hh, r⟩ := h
  exact ⟨es, clock, (hb.block b hlt).trans hh, r⟩
theorem map_ne_row (h : w.ownsMap P k R b n D) {base : Nat} {t : TypeId} {size m : Nat} {v : Value} {xs : List Value} (ho : w.ownsRow base t size v m xs) : some b ≠ v.ownBlock := by
  intro he
  obtain ⟨es, clock, hh, _⟩ := h
  obtain ⟨cells, hc⟩ := own_typed ho b he.symm
  rw [hh] at hc
  cases hc
theorem map_kept {α : Type} {d : Kd α} {t : Nat} {base : Nat} {ok : Nat → Prop} {v : Value} {xs : List α} (h : w.ownsMap P k R b n D) (hr : d.R t w base ok v xs) (hg : w.grownBy w1 v.ownBlock) : w1.ownsMap P k R b n D := by
  obtain ⟨_, inner, ho, _⟩ := hr
  exact h.kept hg (map_ne_row h ho)
/-- A row stays while a map is written. -/
theorem row_kept {α : Type} {d : Kd α} {t : Nat} {base : Nat} {v : Value} {xs : List α} (hm : w.ownsMap P k R b n D) (hr : d.R t w base (fun _ => True) v xs) (hg : w.grownBy w1 (some b)) : d.R t w1 base (fun _ => True) v xs := by
  obtain ⟨es, clock, hh, _⟩ := hm
  refine Kd.R_mono (Kd.R_move (Kd.R_bound hr) (fun i hi => hg.block i hi.2.2.1 (fun e => ?_))) (fun _ _ => trivial)
  obtain ⟨_, _, _, q, _, cells, hc⟩ := hi
  obtain rfl : i = b := Option.some.inj e
  rw [hh] at hc
  cases hc
theorem below_map (hB : Below B w w1) {w2 : World} (hg : w1.grownBy w2 (some b)) (hb : B ≤ b) (hs : B ≤ w1.heap.size) : Below B w w2 :=
  hB.grown hg hs (fun j hj => by cases hj; exact hb)
end
section
open Go.Maps
variable {H : Type} {P : Program} (w : World) {ops : Array Oper} {rest : List Oper} {o : Oper} {a : Act} {Q : Exit → Act → World → Prop}
end
/-! A map that is filled place by place: plain. -/
section
open Go.Maps
variable {α : Type} {key : α → Lit} {d : α}
end
end Go.Proofs.YtjgpggjjgimibaaW.MapB
namespace Go.Proofs.YtjgpggjjgimibaaW.RowB
open Go.RowKit Go.Proofs.YtjgpggjjgimibaaW.PrintWords Go.Sort
set_option linter.unusedVariables false
variable {α : Type} [Inhabited α]
end Go.Proofs.YtjgpggjjgimibaaW.RowB

/- hosts.numbers: the map of spans' hosts to their numbers. -/
namespace Go.Proofs.Ytjgpggjjgimibaa.L
open Go.RowKit Go.Proofs.Ytjgpggjjgimibaa.Q Go.Proofs.YtjgpggjjgimibaaW.PrintWords Go.Proofs.YtjgpggjjgimibaaW.PrintLast Go.Proofs.YtjgpggjjgimibaaW.PrintMore Go.Proofs.YtjgpggjjgimibaaW.MapB Go.Maps Go.WideMaps
set_option linter.unusedVariables false

theorem lawStr : Keyed Try.prog 9 := string_keyed Try.underlying9
theorem zeroInt (w : World) : (zeroValue 3).run Try.prog w = .ok (.int .i64 0) w := by kernel_rfl
theorem numD_next (hs : List ByteArray) (x : Int) (h0 : 0 ≤ x) : (numD hs x.toNat).put (key (rdOf ByteArray.empty hs x)) (.lit (.int .i64 x)) = numD hs (x + 1).toNat := by
  rw [show (x + 1).toNat = x.toNat + 1 by omega]
  show _ = (numD hs x.toNat).put _ (.lit (.int .i64 (x.toNat : Int)))
  rw [show (x.toNat : Int) = x by omega]
  rfl
theorem rdOf_mem {α : Type} {d : α} {l : List α} {x : Int} (h0 : 0 ≤ x) (h1 : x < l.length) : rdOf d l x ∈ l := by
  unfold rdOf
  rw [List.getD_eq_getElem?_getD, List.getElem?_eq_getElem (show x.toNat < l.length by omega)]
  exact List.getElem_mem _

set_option maxHeartbeats 4000000 in
set_option maxRecDepth 100000 in
theorem numbers_calls (l0 : List S42) (hl : l0.length ≤ 1759218604441) (hf : ∀ x ∈ l0, fitS x) (A0 : Option Addr) (c0 : Nat) (w : World) (hr0 : Kd.C k42 w A0 l0.length l0) (hc0 : l0.length ≤ c0) :
    Calls Try.prog 55 #[.slice A0 l0.length c0] w fun e w' => e = .returned (.map (some w.heap.size)) ∧ w'.ownsMap Try.prog 9 (plainElem Try.prog 3) w.heap.size (hostsB l0).length (numD (hostsB l0) (hostsB l0).length) ∧ Below w.heap.size w w' := by
  have hmm := @run_makeMap Try.prog
  have Q1 : Aside0 (∀ w1 : World, Below w.heap.size w w1 → Calls Try.prog 45 #[.slice A0 l0.length c0] w1 fun e w' => ∃ v : Value, e = .returned v ∧ Kd.R Kd.string 9 w' w1.heap.size (fun _ => True) v (hostsB l0) ∧ Below w1.heap.size w1 w') := ⟨fun w1 hb => hosts_calls l0 hl A0 c0 w1 (Kd.C_below hr0 hb) hc0⟩
  have HF := Aside0.mk (hostsB_fit hf)
  have HN := Aside0.mk (show (hostsB l0).length ≤ 1759218604441 from Nat.le_trans (hostsB_length l0) hl)
  clear hr0 hc0 hl hf
  generalize hostsB l0 = hs at *
  go_enter Try.func55, Try.ntmps55
  go_wp2_with (go_at_call 45; refine (Q1.out _ ((Below.refl _ _).alloc (Nat.le_refl _) _)).mono ?_; rintro e w1 ⟨v, rfl, ho, hb⟩; have HM := Aside0.mk (map_below (World.ownsMap_made (H := Unit) w Try.prog 9 (plainElem Try.prog 3)) hb); have HB := Aside0.mk (below_step ((Below.refl w.heap.size w).alloc (Nat.le_refl _) (.map #[] 0)) hb); have HO := Aside0.mk (Kd.R_lower ho (show w.heap.size ≤ (w.alloc (.map #[] 0)).heap.size by simp)); clear ho hb; obtain ⟨Av, cv, rfl⟩ := Kd.R_slice HO.out)
  go_loopg [10] hs.length (fun kq v10 w' => ∃ x10 : Int, v10 = .int .i64 x10 ∧ Aside0 (0 ≤ x10 ∧ x10 + kq = hs.length) ∧ Aside0 (Kd.R Kd.string 9 w' w.heap.size (fun _ => True) (.slice Av hs.length cv) hs) ∧ Aside0 (w'.ownsMap Try.prog 9 (plainElem Try.prog 3) w.heap.size x10.toNat (numD hs x10.toNat)) ∧ Aside0 (Below w.heap.size w w'))
  case atStart => exact ⟨0, rfl, ⟨by omega, by omega⟩, HO, HM, HB⟩
  case round =>
    clear HO HM HB
    obtain ⟨x10, rfl, HK, HO, HM, HB⟩ := hrel
    by_cases c1 : x10 < (hs.length : Int)
    · have c1b := decide_eq_true c1
      have p1 : 0 ≤ x10 := HK.out.1
      obtain ⟨ad1, e1, hx1⟩ := Kd.at_string (Kd.R_reads' HO.out).2.2 x10 p1 c1
      cases e1
      have P1 := Aside0.mk p1
      have Q1 := Aside0.mk c1
      have hkey : keyOf Try.prog 9 (.string (rdOf ByteArray.empty hs x10)) = some (key (rdOf ByteArray.empty hs x10)) := keyOf_string_mk Try.underlying9 (Nat.le_trans (HF.out _ (rdOf_mem p1 c1)) (by decide))
      have HKey := Aside0.mk hkey
      clear hkey
      replace p1 := eq_true p1
      replace c1 := eq_true c1
      have W1 := Aside0.mk (show wrap64 (x10 + 1) = x10 + 1 from by unfold wrap64; have := HN.out; have := P1.out; have := Q1.out; omega)
      go_wp2_with (at_mapUpdate; refine wpList_mapUpdate_own _ rfl _ _ _ 73 rfl 9 3 lawStr Try.underlying73 _ w.heap.size x10.toNat _ rfl HM.out ?mN _ _ _ rfl rfl HKey.out _ [] (plainElem_int Try.underlying3 ?mW) ?_; (case mN => have := HN.out; have := Q1.out; show x10.toNat < 9223372036854775807; omega); (case mW => exact WalkArith.wf_i64 (by have := HN.out; have := P1.out; have := Q1.out; omega)); intro w2 hown2 hgrow2; have HM2 := Aside0.mk hown2; have HO2 := Aside0.mk (row_kept HM.out HO.out hgrow2); have HB2 := Aside0.mk (below_map HB.out hgrow2 (Nat.le_refl _) HB.out.size); clear hown2 hgrow2)
      obtain ⟨k1, rfl⟩ : ∃ k1, gk = k1 + 1 := ⟨gk - 1, by have := HK.out; have := Q1.out; omega⟩
      go_roundg k1
      case measure => omega
      case rel =>
        have h2 := HM2.out
        rw [numD_next hs x10 P1.out] at h2
        exact ⟨x10 + 1, by rw [W1.out], ⟨by have := P1.out; omega, by have := HK.out; omega⟩, HO2, ⟨by rw [show (x10 + 1).toNat = x10.toNat + 1 by have := P1.out; omega] at h2 ⊢; exact h2⟩, HB2⟩
    · have c1b := decide_eq_false c1
      have hx : x10.toNat = hs.length := by have := HK.out; omega
      have hm := HM.out
      rw [hx] at hm
      have HM2 := Aside0.mk hm
      clear hm HM
      go_wp2
      go_ret
      exact ⟨rfl, HM2.out, HB.out⟩
theorem rdS_mem {l0 : List S42} {x : Int} (h0 : 0 ≤ x) (h1 : x < l0.length) : rd_T42 l0 x ∈ l0 := rdOf_mem h0 h1
end Go.Proofs.Ytjgpggjjgimibaa.L

/- hosts.Of and hosts.Great: the numbers of spans' hosts. -/
namespace Go.Proofs.Ytjgpggjjgimibaa.L
open Go.RowKit Go.Proofs.Ytjgpggjjgimibaa.Q Go.Proofs.YtjgpggjjgimibaaW.PrintWords Go.Proofs.YtjgpggjjgimibaaW.PrintLast Go.Proofs.YtjgpggjjgimibaaW.PrintMore Go.Proofs.YtjgpggjjgimibaaW.MapB Go.Maps Go.WideMaps
set_option linter.unusedVariables false

theorem numsL_next (l0 : List S42) (x : Int) (h0 : 0 ≤ x) (h1 : x < l0.length) : (numsL l0).take (x + 1).toNat = (numsL l0).take x.toNat ++ [(numB (hostsB l0) (rd_T42 l0 x).f4 : Int)] := by
  have h3 : x.toNat < l0.length := by omega
  rw [show (x + 1).toNat = x.toNat + 1 by omega, List.take_succ_eq_append_getElem (by unfold numsL; rw [List.length_map]; exact h3)]
  congr 2
  unfold numsL
  rw [List.getElem_map]
  simp [rd_T42, List.getD, h3]

set_option maxHeartbeats 4000000 in
set_option maxRecDepth 100000 in
theorem nums_calls (l0 : List S42) (hl : l0.length ≤ 1759218604441) (hf : ∀ x ∈ l0, fitS x) (A0 : Option Addr) (c0 : Nat) (w : World) (hr0 : Kd.C k42 w A0 l0.length l0) (hc0 : l0.length ≤ c0) :
    Calls Try.prog 34 #[.slice A0 l0.length c0] w fun e w' => ∃ v : Value, e = .returned v ∧ Kd.R (Kd.int .i64) 3 w' w.heap.size (fun _ => True) v (numsL l0) ∧ Below w.heap.size w w' := by
  have QN := Aside0.mk (numbers_calls l0 hl hf A0 c0 w hr0 hc0)
  have HR0 := Aside0.mk hr0
  have HL := Aside0.mk hl
  have HF := Aside0.mk hf
  have HB0 := Aside0.mk (Below.refl w.heap.size w)
  have NX := Aside0.mk (numsL_next l0)
  have ND := Aside0.mk (hostsB_nodup l0)
  have HMem : Aside0 (∀ x : Int, 0 ≤ x → x < l0.length → (rd_T42 l0 x).f4 ∈ hostsB l0) := ⟨fun x h0 h1 => (hostsB_mem l0 _).2 ⟨_, rdS_mem h0 h1, rfl⟩⟩
  have HLen := Aside0.mk (show (numsL l0).length = l0.length by unfold numsL; rw [List.length_map])
  clear hr0 hc0 hl hf
  generalize numsL l0 = ns at *
  generalize hostsB l0 = hs at *
  go_enter Try.func34, Try.ntmps34
  go_wp2_with (go_at_call 55; refine QN.out.mono ?_; rintro e w1 ⟨rfl, hm, hb⟩; have HM := Aside0.mk hm; have HB := Aside0.mk hb; clear hm hb)
  go_loopg [4, 11] l0.length (fun kq v4 v11 w' => ∃ x11 : Int, v11 = .int .i64 x11 ∧ Aside0 (0 ≤ x11 ∧ x11 + kq = l0.length) ∧ Aside0 (Kd.R (Kd.int .i64) 3 w' w.heap.size (fun _ => True) v4 (ns.take x11.toNat)) ∧ Aside0 (w'.ownsMap Try.prog 9 (plainElem Try.prog 3) w.heap.size hs.length (numD hs hs.length)) ∧ Aside0 (Below w.heap.size w w'))
  case atStart => exact ⟨0, rfl, ⟨by omega, by omega⟩, ⟨Kd.R_nil _ _ _ _ _⟩, HM, HB⟩
  case round =>
    clear HM HB
    obtain ⟨x11, rfl, HK, HO, HM, HB⟩ := hrel
    by_cases c1 : x11 < (l0.length : Int)
    · have c1b := decide_eq_true c1
      have p1 : 0 ≤ x11 := HK.out.1
      obtain ⟨ad1, e1, hx1_0, hx1_1, hx1_2, hx1_3, hx1_4, hx1_5, hx1_6, hx1_7⟩ := at_T42 HR0.out x11 p1 c1
      cases e1
      replace hx1_0 := (HB.out.cell (World.block_lt_of_cell? w _ hx1_0)).trans hx1_0
      replace hx1_1 := (HB.out.cell (World.block_lt_of_cell? w _ hx1_1)).trans hx1_1
      replace hx1_2 := (HB.out.cell (World.block_lt_of_cell? w _ hx1_2)).trans hx1_2
      replace hx1_3 := (HB.out.cell (World.block_lt_of_cell? w _ hx1_3)).trans hx1_3
      replace hx1_4 := (HB.out.cell (World.block_lt_of_cell? w _ hx1_4)).trans hx1_4
      replace hx1_5 := (HB.out.cell (World.block_lt_of_cell? w _ hx1_5)).trans hx1_5
      replace hx1_6 := (HB.out.cell (World.block_lt_of_cell? w _ hx1_6)).trans hx1_6
      replace hx1_7 := (HB.out.cell (World.block_lt_of_cell? w _ hx1_7)).trans hx1_7
      have P1 := Aside0.mk p1
      have Q1 := Aside0.mk c1
      have HKey := Aside0.mk (keyOf_string_mk Try.underlying9 (s := (rd_T42 l0 x11).f4) (Nat.le_trans (HF.out _ (rdS_mem p1 c1)).2.1 (by decide)))
      have HNum := Aside0.mk (numD_num ND.out (HMem.out x11 p1 c1) (.lit (.int .i64 0)))
      replace p1 := eq_true p1
      replace c1 := eq_true c1
      have W1 := Aside0.mk (show wrap64 (x11 + 1) = x11 + 1 from by unfold wrap64; have := HL.out; have := P1.out; have := Q1.out; omega)
      go_wp2_with (first
        | (at_lookup; refine wpList_lookup_own_int _ rfl _ _ 73 rfl 9 3 .i64 lawStr Try.underlying73 Try.underlying3 (zeroInt _) w.heap.size hs.length _ rfl (HM.out.alloc _) _ _ rfl HKey.out ?_; intro c hat hwc; have HC := Aside0.mk (show c = (numB hs (rd_T42 l0 x11).f4 : Int) by have h := hat.symm.trans HNum.out; injection h with h; injection h); clear hat hwc)
        | ((with_reducible refine gate_builtin (b := .append) (xs := #[.tmp 15, .tmp 20]) rfl ?_); at_builtin; refine Kd.R_append (Kd.int .i64) (w0 := w) w.heap.size rfl (.tmp 15) (.tmp 20) 27 3 (.int .i64 0) 8 rfl Try.underlying27 (by kernel_rfl) rfl (by decide) (by omega) u4 (ns.take x11.toNat) c [.int .i64 c] (fun _ => True) (fun _ => False) rfl ?aX ?aP (fun _ hk => hk.elim) ?aF ?aO ?aB ?aS ?aL ?_; (case aX => first | rfl | (go_simp; done) | (simp; done)); (case aP => exact rfl); (case aB => exact (by repeat (first | (with_reducible first | exact HB.out | apply below_alloc | apply pw_below_drewN | apply below_drew1) | exact HB.out))); (case aF => exact (fun _ _ => trivial)); (case aO => exact (by (with_reducible repeat (first | apply Kd.R_alloc | apply Kd.R_drewN | apply Kd.R_drew)); exact HO.out)); (case aS => exact (below_size (by repeat (first | (with_reducible first | exact HB.out | apply below_alloc | apply pw_below_drewN | apply below_drew1) | exact HB.out)))); (case aL => have := HL.out; have := Q1.out; simp only [List.length_take]; omega); intro v2 w2 ho hb hg hat; have HO2 := Aside0.mk ho; have HB2 := Aside0.mk hb; have HM2 := Aside0.mk (map_kept (HM.out.alloc _) (Kd.R_alloc HO.out _) hg); clear ho hb hg hat))
      obtain ⟨k1, rfl⟩ : ∃ k1, gk = k1 + 1 := ⟨gk - 1, by have := HK.out; have := Q1.out; omega⟩
      go_roundg k1
      case measure => omega
      case rel => exact ⟨x11 + 1, by rw [W1.out], ⟨by have := P1.out; omega, by have := HK.out; omega⟩, ⟨by rw [NX.out x11 P1.out Q1.out, ← HC.out]; exact HO2.out⟩, HM2, HB2⟩
    · have c1b := decide_eq_false c1
      have hx : x11.toNat = ns.length := by have := HK.out; have := HLen.out; omega
      have ho := HO.out
      rw [hx, List.take_length] at ho
      have HO2 := Aside0.mk ho
      clear ho HO
      go_wp2
      go_ret
      exact ⟨_, rfl, HO2.out, HB.out⟩

end Go.Proofs.Ytjgpggjjgimibaa.L

/- merkhetlaw18.tooMany: are there more hosts than may be? -/
namespace Go.Proofs.Ytjgpggjjgimibaa.L
open Go.RowKit Go.Proofs.Ytjgpggjjgimibaa.Q Go.Proofs.YtjgpggjjgimibaaW.PrintWords Go.Proofs.YtjgpggjjgimibaaW.PrintLast Go.Proofs.YtjgpggjjgimibaaW.PrintMore Go.Proofs.YtjgpggjjgimibaaW.MapB Go.Maps Go.WideMaps
set_option linter.unusedVariables false

/-- The map behind k rounds. -/
def hadD (l : List S42) : Nat → DataW Unit
  | 0 => .map []
  | k + 1 => (hadD l k).put (key (rd_T42 l (k : Int)).f4) (.lit (.bool true))
theorem hadD_next (l : List S42) (x : Int) (h0 : 0 ≤ x) : (hadD l x.toNat).put (key (rd_T42 l x).f4) (.lit (.bool true)) = hadD l (x.toNat + 1) := by
  show _ = (hadD l x.toNat).put (key (rd_T42 l (x.toNat : Int)).f4) _
  rw [show (x.toNat : Int) = x by omega]
theorem hadD_tidy (l : List S42) : ∀ k, Tidy (hadD l k)
  | 0 => tidy_empty
  | k + 1 => (hadD_tidy l k).put (key_is _) _
def tooB (l : List S42) : Bool := decide (32 < size (hadD l l.length))
/-- Texts of which none stands twice, each among the map's keys: no more than these. -/
theorem hadD_keys (l : List S42) : ∀ k, k ≤ l.length → ∃ L : List ByteArray, L.length = size (hadD l k) ∧ (∀ s, has (hadD l k) (key s) = true ↔ s ∈ L) ∧ ∀ x ∈ l.take k, x.f4 ∈ L
  | 0, _ => ⟨[], rfl, by simp [hadD, has], by simp⟩
  | k + 1, hk => by
    obtain ⟨L, h1, h2, h3⟩ := hadD_keys l k (by omega)
    have hlt : k < l.length := by omega
    have hr : rd_T42 l (k : Int) = l[k] := by simp [rd_T42, List.getD, hlt]
    have e : hadD l (k + 1) = (hadD l k).put (key l[k].f4) (.lit (.bool true)) := by rw [← hr]; rfl
    rw [e, size_put (hadD_tidy l k), List.take_succ_eq_append_getElem hlt]
    have hhas : ∀ s, has ((hadD l k).put (key l[k].f4) (.lit (.bool true))) (key s) = true ↔ (s = l[k].f4 ∨ s ∈ L) := by
      intro s
      by_cases e : s = l[k].f4
      · rw [← e, has_put_same (hadD_tidy l k).isMap (key_is _)]; simp
      · rw [has_put_other (fun h => e (key_inj h)), h2]
        exact ⟨.inr, fun h => h.resolve_left e⟩
    by_cases c : has (hadD l k) (key l[k].f4) = true
    · refine ⟨L, by rw [if_pos c]; exact h1, fun s => ?_, fun x hx => ?_⟩
      · rw [hhas]
        exact ⟨fun h => h.elim (fun h => h ▸ (h2 _).1 c) _root_.id, .inr⟩
      · rcases List.mem_append.1 hx with h | h
        · exact h3 x h
        · rw [List.mem_singleton.1 h]; exact (h2 _).1 c
    · refine ⟨l[k].f4 :: L, by rw [if_neg c, List.length_cons, h1], fun s => by rw [hhas, List.mem_cons], fun x hx => ?_⟩
      rcases List.mem_append.1 hx with h | h
      · exact List.mem_cons_of_mem _ (h3 x h)
      · rw [List.mem_singleton.1 h]; exact List.mem_cons_self ..
theorem nodup_le {α : Type} [DecidableEq α] : ∀ (l m : List α), l.Nodup → (∀ x ∈ l, x ∈ m) → l.length ≤ m.length
  | [], _, _, _ => Nat.zero_le _
  | a :: l, m, nd, h => by
    have ha := h a (List.mem_cons_self ..)
    have nd2 := List.nodup_cons.1 nd
    have := nodup_le l (m.erase a) nd2.2 (fun x hx => (List.mem_erase_of_ne (show x ≠ a from fun e => nd2.1 (by rw [← e]; exact hx))).2 (h x (List.mem_cons_of_mem _ hx)))
    rw [List.length_erase_of_mem ha] at this
    have h0 : 0 < m.length := List.length_pos_of_mem ha
    rw [List.length_cons]
    omega
theorem tooB_hosts {l : List S42} (h : tooB l = false) : (hostsB l).length ≤ 32 := by
  obtain ⟨L, h1, _, h3⟩ := hadD_keys l l.length (Nat.le_refl _)
  rw [List.take_length] at h3
  have h4 := nodup_le (hostsB l) L (hostsB_nodup l) (fun s hs => by
    obtain ⟨x, hx, rfl⟩ := (hostsB_mem l s).1 hs
    exact h3 x hx)
  have h5 := of_decide_eq_false h
  omega

set_option maxHeartbeats 4000000 in
set_option maxRecDepth 100000 in
theorem too_calls (l0 : List S42) (hl : l0.length ≤ 1759218604441) (hf : ∀ x ∈ l0, fitS x) (A0 : Option Addr) (c0 : Nat) (w : World) (hr0 : Kd.C k42 w A0 l0.length l0) (hc0 : l0.length ≤ c0) :
    Calls Try.prog 31 #[.slice A0 l0.length c0] w fun e w' => e = .returned (.bool (tooB l0)) ∧ Below w.heap.size w w' := by
  have hmm := @run_makeMap Try.prog
  have HR0 := Aside0.mk hr0
  have HL := Aside0.mk hl
  have HF := Aside0.mk hf
  have HB := Aside0.mk ((Below.refl w.heap.size w).alloc (Nat.le_refl _) (.map #[] 0))
  have HM := Aside0.mk (World.ownsMap_made (H := Unit) w Try.prog 9 (plainElem Try.prog 4))
  have NX := Aside0.mk (hadD_next l0)
  obtain ⟨r, hr⟩ : ∃ r, tooB l0 = r := ⟨_, rfl⟩
  rw [hr]
  have HT := Aside0.mk (show decide ((32 : Int) < (size (hadD l0 l0.length) : Int)) = r by rw [← hr]; unfold tooB; rw [Bool.eq_iff_iff]; simp only [decide_eq_true_eq]; omega)
  clear hr0 hc0 hl hf hr
  go_enter Try.func31, Try.ntmps31
  go_wp2
  go_loopg [9] l0.length (fun kq v9 w' => ∃ x9 : Int, v9 = .int .i64 x9 ∧ Aside0 (0 ≤ x9 ∧ x9 + kq = l0.length) ∧ Aside0 (w'.ownsMap Try.prog 9 (plainElem Try.prog 4) w.heap.size x9.toNat (hadD l0 x9.toNat)) ∧ Aside0 (Below w.heap.size w w'))
  case atStart => exact ⟨0, rfl, ⟨by omega, by omega⟩, HM, HB⟩
  case round =>
    clear HM HB
    obtain ⟨x9, rfl, HK, HM, HB⟩ := hrel
    by_cases c1 : x9 < (l0.length : Int)
    · have c1b := decide_eq_true c1
      have p1 : 0 ≤ x9 := HK.out.1
      obtain ⟨ad1, e1, hx1_0, hx1_1, hx1_2, hx1_3, hx1_4, hx1_5, hx1_6, hx1_7⟩ := at_T42 HR0.out x9 p1 c1
      cases e1
      replace hx1_0 := (HB.out.cell (World.block_lt_of_cell? w _ hx1_0)).trans hx1_0
      replace hx1_1 := (HB.out.cell (World.block_lt_of_cell? w _ hx1_1)).trans hx1_1
      replace hx1_2 := (HB.out.cell (World.block_lt_of_cell? w _ hx1_2)).trans hx1_2
      replace hx1_3 := (HB.out.cell (World.block_lt_of_cell? w _ hx1_3)).trans hx1_3
      replace hx1_4 := (HB.out.cell (World.block_lt_of_cell? w _ hx1_4)).trans hx1_4
      replace hx1_5 := (HB.out.cell (World.block_lt_of_cell? w _ hx1_5)).trans hx1_5
      replace hx1_6 := (HB.out.cell (World.block_lt_of_cell? w _ hx1_6)).trans hx1_6
      replace hx1_7 := (HB.out.cell (World.block_lt_of_cell? w _ hx1_7)).trans hx1_7
      have P1 := Aside0.mk p1
      have Q1 := Aside0.mk c1
      have HKey := Aside0.mk (keyOf_string_mk Try.underlying9 (s := (rd_T42 l0 x9).f4) (Nat.le_trans (HF.out _ (rdS_mem p1 c1)).2.1 (by decide)))
      replace p1 := eq_true p1
      replace c1 := eq_true c1
      have W1 := Aside0.mk (show wrap64 (x9 + 1) = x9 + 1 from by unfold wrap64; have := HL.out; have := P1.out; have := Q1.out; omega)
      go_wp2_with (at_mapUpdate; refine wpList_mapUpdate_own _ rfl _ _ _ 70 rfl 9 4 lawStr Try.underlying70 _ w.heap.size x9.toNat _ rfl (HM.out.alloc _) ?mN _ _ _ rfl rfl HKey.out _ [] (plainElem_bool Try.underlying4 true) ?_; (case mN => have := HL.out; have := Q1.out; show x9.toNat < 9223372036854775807; omega); intro w2 hown2 hgrow2; have HM2 := Aside0.mk hown2; have HB2 := Aside0.mk (below_map (below_alloc HB.out _) hgrow2 (Nat.le_refl _) (below_alloc HB.out _).size); clear hown2 hgrow2)
      obtain ⟨k1, rfl⟩ : ∃ k1, gk = k1 + 1 := ⟨gk - 1, by have := HK.out; have := Q1.out; omega⟩
      go_roundg k1
      case measure => omega
      case rel =>
        have h2 := HM2.out
        rw [NX.out x9 P1.out] at h2
        exact ⟨x9 + 1, by rw [W1.out], ⟨by have := P1.out; omega, by have := HK.out; omega⟩, ⟨by rw [show (x9 + 1).toNat = x9.toNat + 1 by have := P1.out; omega]; exact h2⟩, HB2⟩
    · have c1b := decide_eq_false c1
      have hx : x9.toNat = l0.length := by have := HK.out; omega
      have hm := HM.out
      rw [hx] at hm
      have HM2 := Aside0.mk hm
      clear hm HM
      generalize hadD l0 l0.length = D at *
      go_wp2_with (at_len; (try (refine gate_guard (by rfl) ?_; dsimp only)); refine wpList_len_own _ rfl _ 70 rfl 9 4 Try.underlying70 _ w.heap.size l0.length _ rfl HM2.out ?_)
      go_ret
      exact ⟨by first | rfl | (rw [HT.out]; rfl) | (rw [← HT.out]; rfl), HB.out⟩
end Go.Proofs.Ytjgpggjjgimibaa.L

-- Written by wip/tools/gp.py, a program of this session round the kit's printer. Lean checks it.
namespace Go.Proofs.Ytjgpggjjgimibaa.Q
open Go.RowKit Go.Proofs.YtjgpggjjgimibaaW.PrintWords Go.Proofs.YtjgpggjjgimibaaW.PrintLast Go.Proofs.YtjgpggjjgimibaaW.PrintMore
attribute [local go_sem] max2_int min2_int max_two min_two max_three min_three max_four min_four   -- for this text's walks alone
set_option linter.unusedVariables false
set_option linter.unusedSimpArgs false

/-! ### merkhetref01_Name: function 53 -/
mutual
def merkhetref01_Name.j0 : Nat → ByteArray → Bool → Option (Bool)
  | 0, _, _ => none
  | k + 1, x0, x13 => if x13 = true then (some false) else (merkhetref01_Name.l0 k x0 (⟨#[97, 98, 99, 100, 101, 102, 103, 104, 105, 106, 107, 108, 109, 110, 111, 112, 113, 114, 115, 116, 117, 118, 119, 120, 121, 122, 48, 49, 50, 51, 52, 53, 54, 55, 56, 57, 45, 46, 95]⟩ : ByteArray) 0)
def merkhetref01_Name.l0 : Nat → ByteArray → ByteArray → Int → Option (Bool)
  | 0, _, _, _ => none
  | k + 1, x0, x3, x4 => if x4 < (x0.size : Int) then (merkhetref01_Name.l1 k x0 x3 x4 false 0) else (some true)
def merkhetref01_Name.l1 : Nat → ByteArray → ByteArray → Int → Bool → Int → Option (Bool)
  | 0, _, _, _, _, _ => none
  | k + 1, x0, x3, x4, x5, x6 => if x6 < (x3.size : Int) then (if 0 ≤ x6 then (if 0 ≤ x4 then (if x4 < (x0.size : Int) then (if (bt x3 x6) = (bt x0 x4) then (merkhetref01_Name.l1 k x0 x3 x4 true (wrap64 (x6 + 1))) else (merkhetref01_Name.l1 k x0 x3 x4 x5 (wrap64 (x6 + 1)))) else (none)) else (none)) else (none)) else (if x5 = true then (merkhetref01_Name.l0 k x0 x3 (wrap64 (x4 + 1))) else (some false))
end
def merkhetref01_Name.f (k : Nat) (a0 : ByteArray) : Option (Bool) := if a0.toList = ([] : List UInt8) then (merkhetref01_Name.j0 k a0 true) else (merkhetref01_Name.j0 k a0 (decide ((a0.size : Int) > 16)))
theorem merkhetref01_Name.mono_l : ∀ k, (∀ y0 y1, LeO (merkhetref01_Name.j0 k y0 y1) (merkhetref01_Name.j0 (k + 1) y0 y1)) ∧ (∀ y0 y1 y2, LeO (merkhetref01_Name.l0 k y0 y1 y2) (merkhetref01_Name.l0 (k + 1) y0 y1 y2)) ∧ (∀ y0 y1 y2 y3 y4, LeO (merkhetref01_Name.l1 k y0 y1 y2 y3 y4) (merkhetref01_Name.l1 (k + 1) y0 y1 y2 y3 y4))
  | 0 => ⟨fun _ _ r h => by simp [merkhetref01_Name.j0] at h, fun _ _ _ r h => by simp [merkhetref01_Name.l0] at h, fun _ _ _ _ _ r h => by simp [merkhetref01_Name.l1] at h⟩
  | k + 1 => by
    obtain ⟨ih0, ih1, ih2⟩ := merkhetref01_Name.mono_l k
    refine ⟨?_, ?_, ?_⟩
    · intro y0 y1
      unfold merkhetref01_Name.j0
      repeat' first
      | (with_reducible exact ih0 _ _)
      | (with_reducible exact ih1 _ _ _)
      | (with_reducible exact ih2 _ _ _ _ _)
      | (with_reducible exact LeO.refl _)
      | (with_reducible exact LeO.none _)
      | (with_reducible refine LeO.ite ?_ ?_)
      | (with_reducible refine LeO.bind ?_ (fun _ => ?_))
      | exact ih0 _ _
      | exact ih1 _ _ _
      | exact ih2 _ _ _ _ _
      | exact LeO.none _
      | refine LeO.ite ?_ ?_
      | refine LeO.bind ?_ (fun _ => ?_)
    · intro y0 y1 y2
      unfold merkhetref01_Name.l0
      repeat' first
      | (with_reducible exact ih0 _ _)
      | (with_reducible exact ih1 _ _ _)
      | (with_reducible exact ih2 _ _ _ _ _)
      | (with_reducible exact LeO.refl _)
      | (with_reducible exact LeO.none _)
      | (with_reducible refine LeO.ite ?_ ?_)
      | (with_reducible refine LeO.bind ?_ (fun _ => ?_))
      | exact ih0 _ _
      | exact ih1 _ _ _
      | exact ih2 _ _ _ _ _
      | exact LeO.none _
      | refine LeO.ite ?_ ?_
      | refine LeO.bind ?_ (fun _ => ?_)
    · intro y0 y1 y2 y3 y4
      unfold merkhetref01_Name.l1
      repeat' first
      | (with_reducible exact ih0 _ _)
      | (with_reducible exact ih1 _ _ _)
      | (with_reducible exact ih2 _ _ _ _ _)
      | (with_reducible exact LeO.refl _)
      | (with_reducible exact LeO.none _)
      | (with_reducible refine LeO.ite ?_ ?_)
      | (with_reducible refine LeO.bind ?_ (fun _ => ?_))
      | exact ih0 _ _
      | exact ih1 _ _ _
      | exact ih2 _ _ _ _ _
      | exact LeO.none _
      | refine LeO.ite ?_ ?_
      | refine LeO.bind ?_ (fun _ => ?_)
theorem merkhetref01_Name.mono : ∀ a0 k, LeO (merkhetref01_Name.f k a0) (merkhetref01_Name.f (k + 1) a0) := by
  intro a0 k
  obtain ⟨ih0, ih1, ih2⟩ := merkhetref01_Name.mono_l k
  unfold merkhetref01_Name.f
  repeat' first
      | (with_reducible exact ih0 _ _)
      | (with_reducible exact ih1 _ _ _)
      | (with_reducible exact ih2 _ _ _ _ _)
      | (with_reducible exact LeO.refl _)
      | (with_reducible exact LeO.none _)
      | (with_reducible refine LeO.ite ?_ ?_)
      | (with_reducible refine LeO.bind ?_ (fun _ => ?_))
      | exact ih0 _ _
      | exact ih1 _ _ _
      | exact ih2 _ _ _ _ _
      | exact LeO.none _
      | refine LeO.ite ?_ ?_
      | refine LeO.bind ?_ (fun _ => ?_)
set_option maxHeartbeats 8000000 in
set_option maxRecDepth 100000 in
theorem merkhetref01_Name.calls (k : Nat) (a0 : ByteArray) (r : Bool) (w : World) (h : merkhetref01_Name.f k a0 = some r) :
    Calls Try.prog 53 #[.string a0] w fun e w' => e = .returned (.bool r) ∧ Drawn0 w w' := by
  have H : (if a0.toList = ([] : List UInt8) then (merkhetref01_Name.j0 k a0 true) else (merkhetref01_Name.j0 k a0 (decide ((a0.size : Int) > 16)))) = some r := h
  clear h
  have HC2 := Aside0.mk H
  clear H
  go_enter Try.func53, Try.ntmps53
  go_upto_region 1 with (fail)
  repeat (go_quiet (fail); go_upto_region 1 with (fail))
  go_cut [13] (fun v13 wc => ∃ (kq : Nat) (x13_1 : Bool), v13 = .bool x13_1 ∧ Aside0 (merkhetref01_Name.j0 kq a0 x13_1 = some r) ∧ Aside0 (kq ≤ k) ∧ Drawn0 w wc)
  case first =>
    have H := HC2.out
    clear HC2
    by_cases c3 : a0.toList = ([] : List UInt8)
    · rw [if_pos c3] at H
      have c3b0 : (a0.toList == ([] : List UInt8)) = true := beq_iff_eq.mpr c3
      have c3b1 : (a0.toList != ([] : List UInt8)) = false := bne_eq_false_iff_eq.mpr c3
      clear c3
      (first | rw [c3b0] | (simp only [i64_w, i32_w]; rw [c3b0]) | skip)
      have H' := Aside0.mk H
      clear H
      go_wp2
      repeat (go_quiet (fail); try go_wp2)
      go_meet
      case rel => exact ⟨_, (true), (by first | rfl | (simp; done) | (simp [*]; done)), H', ⟨by first | omega | exact Nat.le_refl _⟩, by repeat (first | exact Drawn0.refl _ | apply Drawn0.step)⟩
    · rw [if_neg c3] at H
      have c3b0 : (a0.toList == ([] : List UInt8)) = false := beq_eq_false_iff_ne.mpr c3
      have c3b1 : (a0.toList != ([] : List UInt8)) = true := bne_iff_ne.mpr c3
      (first | rw [c3b0] | (simp only [i64_w, i32_w]; rw [c3b0]) | skip)
      have H' := Aside0.mk H
      clear H
      go_wp2
      repeat (go_quiet (fail); try go_wp2)
      go_meet
      case rel => exact ⟨_, (decide ((a0.size : Int) > 16)), (by first | rfl | (simp; done) | (simp [*]; done)), H', ⟨by first | omega | exact Nat.le_refl _⟩, by repeat (first | exact Drawn0.refl _ | apply Drawn0.step)⟩
  case rest =>
    clear HC2
    (try clear p2); (try clear c3); (try clear c3b0); (try clear c3b1)
    obtain ⟨kq, x13_1, rfl, HA, HJ1, ⟨mc1, rfl⟩⟩ := hcut
    cases kq with
    | zero => exact absurd HA.out (by simp [merkhetref01_Name.j0])
    | succ kj1 =>
      have H := HA.out
      clear HA
      simp only [merkhetref01_Name.j0] at H
      by_cases c4 : x13_1 = true
      · subst c4
        have H1 : (some false) = some r := by rw [if_pos rfl] at H; exact H
        clear H
        have H := H1
        clear H1
        obtain rfl := Option.some.inj H
        go_wp2
        repeat (go_quiet (fail); try go_wp2)
        go_ret
        exact ⟨by first | rfl | (simp; done) | (simp [*]; done), by repeat (first | exact Drawn0.refl _ | apply Drawn0.step)⟩
      · replace c4 := Bool.eq_false_iff.mpr c4
        subst c4
        have H1 : (merkhetref01_Name.l0 kj1 a0 (⟨#[97, 98, 99, 100, 101, 102, 103, 104, 105, 106, 107, 108, 109, 110, 111, 112, 113, 114, 115, 116, 117, 118, 119, 120, 121, 122, 48, 49, 50, 51, 52, 53, 54, 55, 56, 57, 45, 46, 95]⟩ : ByteArray) 0) = some r := by rw [if_neg (show ¬ (false = true) by decide)] at H; exact H
        clear H
        have H := H1
        clear H1
        have H' := Aside0.mk H
        clear H
        go_wp2
        repeat (go_quiet (fail); try go_wp2)
        go_loopg [4] kj1 (fun kq v4 w' => ∃ (x4_2 : Int), v4 = .int .i64 x4_2 ∧ Aside0 (merkhetref01_Name.l0 kq a0 (⟨#[97, 98, 99, 100, 101, 102, 103, 104, 105, 106, 107, 108, 109, 110, 111, 112, 113, 114, 115, 116, 117, 118, 119, 120, 121, 122, 48, 49, 50, 51, 52, 53, 54, 55, 56, 57, 45, 46, 95]⟩ : ByteArray) x4_2 = some r) ∧ Aside0 (kq ≤ kj1) ∧ Drawn0 w w')
        case atStart => exact ⟨(0), (by first | rfl | (simp; done) | (simp [*]; done)), H', ⟨Nat.le_refl _⟩, by repeat (first | exact Drawn0.refl _ | apply Drawn0.step)⟩
        case round =>
          clear H'
          (try clear c1); (try clear p2); (try clear c3); (try clear c3b0); (try clear c3b1); (try clear c4); (try clear p2)
          obtain ⟨x4_2, rfl, HA, HK2, ⟨m2, rfl⟩⟩ := hrel
          cases gk with
          | zero => exact absurd HA.out (by simp [merkhetref01_Name.l0])
          | succ k2 =>
            have H := HA.out
            clear HA
            simp only [merkhetref01_Name.l0] at H
            by_cases c5 : x4_2 < (a0.size : Int)
            · rw [if_pos c5] at H
              have c5b0 : decide (x4_2 < (a0.size : Int)) = true := decide_eq_true c5
              clear c5
              have H' := Aside0.mk H
              clear H
              go_wp2
              repeat (go_quiet (fail); try go_wp2)
              go_loopg [5, 6] k2 (fun kq v5 v6 w' => ∃ (x5_3 : Bool) (x6_3 : Int), v5 = .bool x5_3 ∧ v6 = .int .i64 x6_3 ∧ Aside0 (merkhetref01_Name.l1 kq a0 (⟨#[97, 98, 99, 100, 101, 102, 103, 104, 105, 106, 107, 108, 109, 110, 111, 112, 113, 114, 115, 116, 117, 118, 119, 120, 121, 122, 48, 49, 50, 51, 52, 53, 54, 55, 56, 57, 45, 46, 95]⟩ : ByteArray) x4_2 x5_3 x6_3 = some r) ∧ Aside0 (kq ≤ k2) ∧ Drawn0 w w')
              case atStart => exact ⟨(false), (0), (by first | rfl | (simp; done) | (simp [*]; done)), (by first | rfl | (simp; done) | (simp [*]; done)), H', ⟨Nat.le_refl _⟩, by repeat (first | exact Drawn0.refl _ | apply Drawn0.step)⟩
              case round =>
                clear H'
                (try clear c1); (try clear p2); (try clear c3); (try clear c3b0); (try clear c3b1); (try clear c4); (try clear c5); (try clear c5b0); (try clear p2)
                obtain ⟨x5_3, x6_3, rfl, rfl, HA, HK3, ⟨m3, rfl⟩⟩ := hrel
                cases gk with
                | zero => exact absurd HA.out (by simp [merkhetref01_Name.l1])
                | succ k3 =>
                  have H := HA.out
                  clear HA
                  simp only [merkhetref01_Name.l1] at H
                  by_cases c6 : x6_3 < ((⟨#[97, 98, 99, 100, 101, 102, 103, 104, 105, 106, 107, 108, 109, 110, 111, 112, 113, 114, 115, 116, 117, 118, 119, 120, 121, 122, 48, 49, 50, 51, 52, 53, 54, 55, 56, 57, 45, 46, 95]⟩ : ByteArray).size : Int)
                  · rw [if_pos c6] at H
                    have c6b0 : decide (x6_3 < 39) = true := decide_eq_true c6
                    clear c6
                    by_cases c7 : 0 ≤ x6_3
                    · rw [if_pos c7] at H
                      have c7b0 : decide (0 ≤ x6_3) = true := decide_eq_true c7
                      clear c7
                      by_cases c9 : 0 ≤ x4_2
                      · rw [if_pos c9] at H
                        have c9b0 : decide (0 ≤ x4_2) = true := decide_eq_true c9
                        clear c9
                        by_cases c10 : x4_2 < (a0.size : Int)
                        · rw [if_pos c10] at H
                          have c10b0 : decide (x4_2 < (a0.size : Int)) = true := decide_eq_true c10
                          clear c10
                          by_cases c12 : (bt (⟨#[97, 98, 99, 100, 101, 102, 103, 104, 105, 106, 107, 108, 109, 110, 111, 112, 113, 114, 115, 116, 117, 118, 119, 120, 121, 122, 48, 49, 50, 51, 52, 53, 54, 55, 56, 57, 45, 46, 95]⟩ : ByteArray) x6_3) = (bt a0 x4_2)
                          · rw [if_pos c12] at H
                            have c12b0 : ((bt (⟨#[97, 98, 99, 100, 101, 102, 103, 104, 105, 106, 107, 108, 109, 110, 111, 112, 113, 114, 115, 116, 117, 118, 119, 120, 121, 122, 48, 49, 50, 51, 52, 53, 54, 55, 56, 57, 45, 46, 95]⟩ : ByteArray) x6_3) == (bt a0 x4_2)) = true := beq_iff_eq.mpr c12
                            have c12b1 : ((bt (⟨#[97, 98, 99, 100, 101, 102, 103, 104, 105, 106, 107, 108, 109, 110, 111, 112, 113, 114, 115, 116, 117, 118, 119, 120, 121, 122, 48, 49, 50, 51, 52, 53, 54, 55, 56, 57, 45, 46, 95]⟩ : ByteArray) x6_3) != (bt a0 x4_2)) = false := bne_eq_false_iff_eq.mpr c12
                            clear c12
                            have H' := Aside0.mk H
                            clear H
                            have p8 : 0 ≤ (x6_3 : Int) := of_decide_eq_true (by first | (with_reducible assumption) | assumption)
                            have q8 : x6_3 < (39 : Int) := of_decide_eq_true (by first | (with_reducible assumption) | assumption)
                            have hx8 := bt_at (⟨#[97, 98, 99, 100, 101, 102, 103, 104, 105, 106, 107, 108, 109, 110, 111, 112, 113, 114, 115, 116, 117, 118, 119, 120, 121, 122, 48, 49, 50, 51, 52, 53, 54, 55, 56, 57, 45, 46, 95]⟩ : ByteArray) x6_3
                            replace p8 := eq_true p8
                            replace q8 := eq_true q8
                            have p11 : 0 ≤ (x4_2 : Int) := of_decide_eq_true (by first | (with_reducible assumption) | assumption)
                            have q11 : x4_2 < (a0.size : Int) := of_decide_eq_true (by first | (with_reducible assumption) | assumption)
                            have hx11 := bt_at a0 x4_2
                            replace p11 := eq_true p11
                            replace q11 := eq_true q11
                            go_wp2
                            repeat (go_quiet (fail); try go_wp2)
                            go_roundg k3
                            case measure => have := HJ1.out; have := HK2.out; have := HK3.out; omega
                            case rel => exact ⟨(true), (wrap64 (x6_3 + 1)), (by first | rfl | (simp; done) | (simp [*]; done)), (by first | rfl | (simp; done) | (simp [*]; done)), H', ⟨by have := HJ1.out; have := HK2.out; have := HK3.out; omega⟩, by repeat (first | exact Drawn0.refl _ | apply Drawn0.step)⟩
                          · rw [if_neg c12] at H
                            have c12b0 : ((bt (⟨#[97, 98, 99, 100, 101, 102, 103, 104, 105, 106, 107, 108, 109, 110, 111, 112, 113, 114, 115, 116, 117, 118, 119, 120, 121, 122, 48, 49, 50, 51, 52, 53, 54, 55, 56, 57, 45, 46, 95]⟩ : ByteArray) x6_3) == (bt a0 x4_2)) = false := beq_eq_false_iff_ne.mpr c12
                            have c12b1 : ((bt (⟨#[97, 98, 99, 100, 101, 102, 103, 104, 105, 106, 107, 108, 109, 110, 111, 112, 113, 114, 115, 116, 117, 118, 119, 120, 121, 122, 48, 49, 50, 51, 52, 53, 54, 55, 56, 57, 45, 46, 95]⟩ : ByteArray) x6_3) != (bt a0 x4_2)) = true := bne_iff_ne.mpr c12
                            have H' := Aside0.mk H
                            clear H
                            have p8 : 0 ≤ (x6_3 : Int) := of_decide_eq_true (by first | (with_reducible assumption) | assumption)
                            have q8 : x6_3 < (39 : Int) := of_decide_eq_true (by first | (with_reducible assumption) | assumption)
                            have hx8 := bt_at (⟨#[97, 98, 99, 100, 101, 102, 103, 104, 105, 106, 107, 108, 109, 110, 111, 112, 113, 114, 115, 116, 117, 118, 119, 120, 121, 122, 48, 49, 50, 51, 52, 53, 54, 55, 56, 57, 45, 46, 95]⟩ : ByteArray) x6_3
                            replace p8 := eq_true p8
                            replace q8 := eq_true q8
                            have p11 : 0 ≤ (x4_2 : Int) := of_decide_eq_true (by first | (with_reducible assumption) | assumption)
                            have q11 : x4_2 < (a0.size : Int) := of_decide_eq_true (by first | (with_reducible assumption) | assumption)
                            have hx11 := bt_at a0 x4_2
                            replace p11 := eq_true p11
                            replace q11 := eq_true q11
                            go_wp2
                            repeat (go_quiet (fail); try go_wp2)
                            go_roundg k3
                            case measure => have := HJ1.out; have := HK2.out; have := HK3.out; omega
                            case rel => exact ⟨(x5_3), (wrap64 (x6_3 + 1)), (by first | rfl | (simp; done) | (simp [*]; done)), (by first | rfl | (simp; done) | (simp [*]; done)), H', ⟨by have := HJ1.out; have := HK2.out; have := HK3.out; omega⟩, by repeat (first | exact Drawn0.refl _ | apply Drawn0.step)⟩
                        · rw [if_neg c10] at H
                          exact absurd H (by simp)
                      · rw [if_neg c9] at H
                        exact absurd H (by simp)
                    · rw [if_neg c7] at H
                      exact absurd H (by simp)
                  · rw [if_neg c6] at H
                    have c6b0 : decide (x6_3 < 39) = false := decide_eq_false c6
                    clear c6
                    by_cases c13 : x5_3 = true
                    · subst c13
                      have H1 : (merkhetref01_Name.l0 k3 a0 (⟨#[97, 98, 99, 100, 101, 102, 103, 104, 105, 106, 107, 108, 109, 110, 111, 112, 113, 114, 115, 116, 117, 118, 119, 120, 121, 122, 48, 49, 50, 51, 52, 53, 54, 55, 56, 57, 45, 46, 95]⟩ : ByteArray) (wrap64 (x4_2 + 1))) = some r := by rw [if_pos rfl] at H; exact H
                      clear H
                      have H := H1
                      clear H1
                      have H' := Aside0.mk H
                      clear H
                      go_wp2
                      repeat (go_quiet (fail); try go_wp2)
                      go_roundg k3
                      case measure => have := HJ1.out; have := HK2.out; have := HK3.out; omega
                      case rel => exact ⟨(wrap64 (x4_2 + 1)), (by first | rfl | (simp; done) | (simp [*]; done)), H', ⟨by have := HJ1.out; have := HK2.out; have := HK3.out; omega⟩, by repeat (first | exact Drawn0.refl _ | apply Drawn0.step)⟩
                    · replace c13 := Bool.eq_false_iff.mpr c13
                      subst c13
                      have H1 : (some false) = some r := by rw [if_neg (show ¬ (false = true) by decide)] at H; exact H
                      clear H
                      have H := H1
                      clear H1
                      obtain rfl := Option.some.inj H
                      go_wp2
                      repeat (go_quiet (fail); try go_wp2)
                      go_ret
                      exact ⟨by first | rfl | (simp; done) | (simp [*]; done), by repeat (first | exact Drawn0.refl _ | apply Drawn0.step)⟩
            · rw [if_neg c5] at H
              have c5b0 : decide (x4_2 < (a0.size : Int)) = false := decide_eq_false c5
              clear c5
              obtain rfl := Option.some.inj H
              go_wp2
              repeat (go_quiet (fail); try go_wp2)
              go_ret
              exact ⟨by first | rfl | (simp; done) | (simp [*]; done), by repeat (first | exact Drawn0.refl _ | apply Drawn0.step)⟩

/-! ### merkhetref01_May: function 32 -/
mutual
def merkhetref01_May.j0 : Nat → Bool → Int → Int → Int → Int → ByteArray → ByteArray → Int → Int → Option (Bool)
  | 0, _, _, _, _, _, _, _, _, _ => none
  | k + 1, x17, x106000, x106001, x106002, x106003, x106004, x106005, x106006, x106007 => if x17 = true then (some false) else (if x106003 = 0 then (merkhetref01_May.j1 k false x106000 x106001 x106002 x106003 x106004 x106005 x106006 x106007) else (if x106003 = 1 then (merkhetref01_May.j1 k false x106000 x106001 x106002 x106003 x106004 x106005 x106006 x106007) else (merkhetref01_May.j1 k (x106003 != 2) x106000 x106001 x106002 x106003 x106004 x106005 x106006 x106007)))
def merkhetref01_May.j1 : Nat → Bool → Int → Int → Int → Int → ByteArray → ByteArray → Int → Int → Option (Bool)
  | 0, _, _, _, _, _, _, _, _, _ => none
  | k + 1, x30, x106000, x106001, x106002, x106003, x106004, x106005, x106006, x106007 => if x30 = true then (some false) else (if x106006 < 0 then (merkhetref01_May.j2 k true x106000 x106001 x106002 x106003 x106004 x106005 x106006 x106007) else (if x106006 > 1125899906842623 then (merkhetref01_May.j2 k true x106000 x106001 x106002 x106003 x106004 x106005 x106006 x106007) else (if x106007 < 0 then (merkhetref01_May.j2 k true x106000 x106001 x106002 x106003 x106004 x106005 x106006 x106007) else (merkhetref01_May.j2 k (decide (x106007 > 1125899906842624)) x106000 x106001 x106002 x106003 x106004 x106005 x106006 x106007))))
def merkhetref01_May.j2 : Nat → Bool → Int → Int → Int → Int → ByteArray → ByteArray → Int → Int → Option (Bool)
  | 0, _, _, _, _, _, _, _, _, _ => none
  | k + 1, x48, x106000, x106001, x106002, x106003, x106004, x106005, x106006, x106007 => if x48 = true then (some false) else ((merkhetref01_Name.f k x106004).bind fun t106 => (if t106 = true then ((merkhetref01_Name.f k x106005).bind fun t107 => (some t107)) else (some false)))
end
def merkhetref01_May.f (k : Nat) (a0_0 : Int) (a0_1 : Int) (a0_2 : Int) (a0_3 : Int) (a0_4 : ByteArray) (a0_5 : ByteArray) (a0_6 : Int) (a0_7 : Int) : Option (Bool) := if a0_0 = 0 then (merkhetref01_May.j0 k true a0_0 a0_1 a0_2 a0_3 a0_4 a0_5 a0_6 a0_7) else (if a0_1 = 0 then (merkhetref01_May.j0 k true a0_0 a0_1 a0_2 a0_3 a0_4 a0_5 a0_6 a0_7) else (merkhetref01_May.j0 k (a0_2 == a0_1) a0_0 a0_1 a0_2 a0_3 a0_4 a0_5 a0_6 a0_7))
theorem merkhetref01_May.mono_l : ∀ k, (∀ y0 y1 y2 y3 y4 y5 y6 y7 y8, LeO (merkhetref01_May.j0 k y0 y1 y2 y3 y4 y5 y6 y7 y8) (merkhetref01_May.j0 (k + 1) y0 y1 y2 y3 y4 y5 y6 y7 y8)) ∧ (∀ y0 y1 y2 y3 y4 y5 y6 y7 y8, LeO (merkhetref01_May.j1 k y0 y1 y2 y3 y4 y5 y6 y7 y8) (merkhetref01_May.j1 (k + 1) y0 y1 y2 y3 y4 y5 y6 y7 y8)) ∧ (∀ y0 y1 y2 y3 y4 y5 y6 y7 y8, LeO (merkhetref01_May.j2 k y0 y1 y2 y3 y4 y5 y6 y7 y8) (merkhetref01_May.j2 (k + 1) y0 y1 y2 y3 y4 y5 y6 y7 y8))
  | 0 => ⟨fun _ _ _ _ _ _ _ _ _ r h => by simp [merkhetref01_May.j0] at h, fun _ _ _ _ _ _ _ _ _ r h => by simp [merkhetref01_May.j1] at h, fun _ _ _ _ _ _ _ _ _ r h => by simp [merkhetref01_May.j2] at h⟩
  | k + 1 => by
    obtain ⟨ih0, ih1, ih2⟩ := merkhetref01_May.mono_l k
    refine ⟨?_, ?_, ?_⟩
    · intro y0 y1 y2 y3 y4 y5 y6 y7 y8
      unfold merkhetref01_May.j0
      repeat' first
      | (with_reducible exact ih0 _ _ _ _ _ _ _ _ _)
      | (with_reducible exact ih1 _ _ _ _ _ _ _ _ _)
      | (with_reducible exact ih2 _ _ _ _ _ _ _ _ _)
      | (with_reducible exact merkhetref01_Name.mono _ _)
      | (with_reducible exact LeO.refl _)
      | (with_reducible exact LeO.none _)
      | (with_reducible refine LeO.ite ?_ ?_)
      | (with_reducible refine LeO.bind ?_ (fun _ => ?_))
      | exact ih0 _ _ _ _ _ _ _ _ _
      | exact ih1 _ _ _ _ _ _ _ _ _
      | exact ih2 _ _ _ _ _ _ _ _ _
      | exact merkhetref01_Name.mono _ _
      | exact LeO.none _
      | refine LeO.ite ?_ ?_
      | refine LeO.bind ?_ (fun _ => ?_)
    · intro y0 y1 y2 y3 y4 y5 y6 y7 y8
      unfold merkhetref01_May.j1
      repeat' first
      | (with_reducible exact ih0 _ _ _ _ _ _ _ _ _)
      | (with_reducible exact ih1 _ _ _ _ _ _ _ _ _)
      | (with_reducible exact ih2 _ _ _ _ _ _ _ _ _)
      | (with_reducible exact merkhetref01_Name.mono _ _)
      | (with_reducible exact LeO.refl _)
      | (with_reducible exact LeO.none _)
      | (with_reducible refine LeO.ite ?_ ?_)
      | (with_reducible refine LeO.bind ?_ (fun _ => ?_))
      | exact ih0 _ _ _ _ _ _ _ _ _
      | exact ih1 _ _ _ _ _ _ _ _ _
      | exact ih2 _ _ _ _ _ _ _ _ _
      | exact merkhetref01_Name.mono _ _
      | exact LeO.none _
      | refine LeO.ite ?_ ?_
      | refine LeO.bind ?_ (fun _ => ?_)
    · intro y0 y1 y2 y3 y4 y5 y6 y7 y8
      unfold merkhetref01_May.j2
      repeat' first
      | (with_reducible exact ih0 _ _ _ _ _ _ _ _ _)
      | (with_reducible exact ih1 _ _ _ _ _ _ _ _ _)
      | (with_reducible exact ih2 _ _ _ _ _ _ _ _ _)
      | (with_reducible exact merkhetref01_Name.mono _ _)
      | (with_reducible exact LeO.refl _)
      | (with_reducible exact LeO.none _)
      | (with_reducible refine LeO.ite ?_ ?_)
      | (with_reducible refine LeO.bind ?_ (fun _ => ?_))
      | exact ih0 _ _ _ _ _ _ _ _ _
      | exact ih1 _ _ _ _ _ _ _ _ _
      | exact ih2 _ _ _ _ _ _ _ _ _
      | exact merkhetref01_Name.mono _ _
      | exact LeO.none _
      | refine LeO.ite ?_ ?_
      | refine LeO.bind ?_ (fun _ => ?_)
theorem merkhetref01_May.mono : ∀ a0 a1 a2 a3 a4 a5 a6 a7 k, LeO (merkhetref01_May.f k a0 a1 a2 a3 a4 a5 a6 a7) (merkhetref01_May.f (k + 1) a0 a1 a2 a3 a4 a5 a6 a7) := by
  intro a0 a1 a2 a3 a4 a5 a6 a7 k
  obtain ⟨ih0, ih1, ih2⟩ := merkhetref01_May.mono_l k
  unfold merkhetref01_May.f
  repeat' first
      | (with_reducible exact ih0 _ _ _ _ _ _ _ _ _)
      | (with_reducible exact ih1 _ _ _ _ _ _ _ _ _)
      | (with_reducible exact ih2 _ _ _ _ _ _ _ _ _)
      | (with_reducible exact merkhetref01_Name.mono _ _)
      | (with_reducible exact LeO.refl _)
      | (with_reducible exact LeO.none _)
      | (with_reducible refine LeO.ite ?_ ?_)
      | (with_reducible refine LeO.bind ?_ (fun _ => ?_))
      | exact ih0 _ _ _ _ _ _ _ _ _
      | exact ih1 _ _ _ _ _ _ _ _ _
      | exact ih2 _ _ _ _ _ _ _ _ _
      | exact merkhetref01_Name.mono _ _
      | exact LeO.none _
      | refine LeO.ite ?_ ?_
      | refine LeO.bind ?_ (fun _ => ?_)
set_option maxHeartbeats 8000000 in
set_option maxRecDepth 100000 in
theorem merkhetref01_May.calls (k : Nat) (a0_0 : Int) (a0_1 : Int) (a0_2 : Int) (a0_3 : Int) (a0_4 : ByteArray) (a0_5 : ByteArray) (a0_6 : Int) (a0_7 : Int) (r : Bool) (w : World) (h : merkhetref01_May.f k a0_0 a0_1 a0_2 a0_3 a0_4 a0_5 a0_6 a0_7 = some r) :
    Calls Try.prog 32 #[.agg #[.int .u64 a0_0, .int .u64 a0_1, .int .u64 a0_2, .int .u8 a0_3, .string a0_4, .string a0_5, .int .i64 a0_6, .int .i64 a0_7]] w fun e w' => e = .returned (.bool r) ∧ Below w.heap.size w w' := by
  have hu42 := Try.underlying42
  have HB := Aside0.mk (Below.refl w.heap.size w)
  have H : (if a0_0 = 0 then (merkhetref01_May.j0 k true a0_0 a0_1 a0_2 a0_3 a0_4 a0_5 a0_6 a0_7) else (if a0_1 = 0 then (merkhetref01_May.j0 k true a0_0 a0_1 a0_2 a0_3 a0_4 a0_5 a0_6 a0_7) else (merkhetref01_May.j0 k (a0_2 == a0_1) a0_0 a0_1 a0_2 a0_3 a0_4 a0_5 a0_6 a0_7))) = some r := h
  clear h
  have HC2 := Aside0.mk H
  clear H
  go_enter Try.func32, Try.ntmps32
  go_upto_region 1 with (first | ((with_reducible refine gate_dst (N := 1) rfl ?_); refine box_event ?hg (N := 1) ?hd (cs := #[.int .u64 a0_0, .int .u64 a0_1, .int .u64 a0_2, .int .u8 a0_3, .string a0_4, .string a0_5, .int .i64 a0_6, .int .i64 a0_7]) (t := 42) ?hr ?_; (case hd => rfl); (case hg => rfl); (case hr => first | (go_simp; done) | (go_simp; rfl)); intro gb105 hg w3 hbox hb; have n0_ := Aside0.mk (below_step (by repeat (first | (with_reducible first | exact HB.out | apply below_alloc | apply pw_below_drewN | apply below_drew1) | exact HB.out)) hb); have n1_ := Aside0.mk (hbox); have n2_ := Aside0.mk ((by rw [hg]; exact (below_size (by repeat (first | (with_reducible first | exact HB.out | apply below_alloc | apply pw_below_drewN | apply below_drew1) | exact HB.out))) : w.heap.size ≤ gb105)); have n3_ := Aside0.mk ((by rw [hg]; exact (below_size (by repeat (first | (with_reducible first | exact HB.out | apply below_alloc | apply pw_below_drewN | apply below_drew1) | exact HB.out))) : w.heap.size ≤ gb105)); clear HB; have HB := n0_; have BK105 := n1_; have GW105 := n2_; have GE105 := n3_; clear n0_ n1_ n2_ n3_; clear hb hbox hg))
  (try simp only [Act.put, List.setIfInBounds_toArray, List.set_cons_zero, List.set_cons_succ])
  go_cut [17] (fun v17 wc => ∃ (kq : Nat) (x17_1 : Bool), v17 = .bool x17_1 ∧ Aside0 (merkhetref01_May.j0 kq x17_1 a0_0 a0_1 a0_2 a0_3 a0_4 a0_5 a0_6 a0_7 = some r) ∧ Aside0 (kq ≤ k) ∧ Aside0 (wc.heap[gb105]? = some (.cells #[.int .u64 a0_0, .int .u64 a0_1, .int .u64 a0_2, .int .u8 a0_3, .string a0_4, .string a0_5, .int .i64 a0_6, .int .i64 a0_7] 42 (0, 0))) ∧ Aside0 (Below w.heap.size w wc))
  case first =>
    have H := HC2.out
    clear HC2
    by_cases c4 : a0_0 = 0
    · rw [if_pos c4] at H
      have c4b0 : (a0_0 == 0) = true := beq_iff_eq.mpr c4
      have c4b1 : (a0_0 != 0) = false := bne_eq_false_iff_eq.mpr c4
      clear c4
      (first | rw [c4b0] | (simp only [i64_w, i32_w]; rw [c4b0]) | skip)
      have H' := Aside0.mk H
      clear H
      have hcz5_0 : w3.cell? ⟨gb105, 0, none⟩ = some (.int .u64 a0_0) := (blk_cell BK105.out 0).trans rfl
      have hcz5_1 : w3.cell? ⟨gb105, 1, none⟩ = some (.int .u64 a0_1) := (blk_cell BK105.out 1).trans rfl
      have hcz5_2 : w3.cell? ⟨gb105, 2, none⟩ = some (.int .u64 a0_2) := (blk_cell BK105.out 2).trans rfl
      have hcz5_3 : w3.cell? ⟨gb105, 3, none⟩ = some (.int .u8 a0_3) := (blk_cell BK105.out 3).trans rfl
      have hcz5_4 : w3.cell? ⟨gb105, 4, none⟩ = some (.string a0_4) := (blk_cell BK105.out 4).trans rfl
      have hcz5_5 : w3.cell? ⟨gb105, 5, none⟩ = some (.string a0_5) := (blk_cell BK105.out 5).trans rfl
      have hcz5_6 : w3.cell? ⟨gb105, 6, none⟩ = some (.int .i64 a0_6) := (blk_cell BK105.out 6).trans rfl
      have hcz5_7 : w3.cell? ⟨gb105, 7, none⟩ = some (.int .i64 a0_7) := (blk_cell BK105.out 7).trans rfl
      have hfz5_0 := blk_frozen BK105.out 0
      have hfz5_1 := blk_frozen BK105.out 1
      have hfz5_2 := blk_frozen BK105.out 2
      have hfz5_3 := blk_frozen BK105.out 3
      have hfz5_4 := blk_frozen BK105.out 4
      have hfz5_5 := blk_frozen BK105.out 5
      have hfz5_6 := blk_frozen BK105.out 6
      have hfz5_7 := blk_frozen BK105.out 7
      go_wp2
      go_meet
      case rel => exact ⟨_, (true), (by first | rfl | (simp; done) | (simp [*]; done)), H', ⟨by first | omega | exact Nat.le_refl _⟩, ⟨by (with_reducible repeat (first | refine blk_drewN ?_ _ | refine blk_drew ?_ | refine blk_alloc ?_ _)); exact BK105.out⟩, ⟨by repeat (first | (with_reducible first | exact HB.out | apply below_alloc | apply pw_below_drewN | apply below_drew1 | refine below_set ?_ GE105.out) | exact HB.out)⟩⟩
    · rw [if_neg c4] at H
      have c4b0 : (a0_0 == 0) = false := beq_eq_false_iff_ne.mpr c4
      have c4b1 : (a0_0 != 0) = true := bne_iff_ne.mpr c4
      (first | rw [c4b0] | (simp only [i64_w, i32_w]; rw [c4b0]) | skip)
      by_cases c6 : a0_1 = 0
      · rw [if_pos c6] at H
        have c6b0 : (a0_1 == 0) = true := beq_iff_eq.mpr c6
        have c6b1 : (a0_1 != 0) = false := bne_eq_false_iff_eq.mpr c6
        clear c6
        have H' := Aside0.mk H
        clear H
        have hcz7_0 : w3.cell? ⟨gb105, 0, none⟩ = some (.int .u64 a0_0) := (blk_cell BK105.out 0).trans rfl
        have hcz7_1 : w3.cell? ⟨gb105, 1, none⟩ = some (.int .u64 a0_1) := (blk_cell BK105.out 1).trans rfl
        have hcz7_2 : w3.cell? ⟨gb105, 2, none⟩ = some (.int .u64 a0_2) := (blk_cell BK105.out 2).trans rfl
        have hcz7_3 : w3.cell? ⟨gb105, 3, none⟩ = some (.int .u8 a0_3) := (blk_cell BK105.out 3).trans rfl
        have hcz7_4 : w3.cell? ⟨gb105, 4, none⟩ = some (.string a0_4) := (blk_cell BK105.out 4).trans rfl
        have hcz7_5 : w3.cell? ⟨gb105, 5, none⟩ = some (.string a0_5) := (blk_cell BK105.out 5).trans rfl
        have hcz7_6 : w3.cell? ⟨gb105, 6, none⟩ = some (.int .i64 a0_6) := (blk_cell BK105.out 6).trans rfl
        have hcz7_7 : w3.cell? ⟨gb105, 7, none⟩ = some (.int .i64 a0_7) := (blk_cell BK105.out 7).trans rfl
        have hfz7_0 := blk_frozen BK105.out 0
        have hfz7_1 := blk_frozen BK105.out 1
        have hfz7_2 := blk_frozen BK105.out 2
        have hfz7_3 := blk_frozen BK105.out 3
        have hfz7_4 := blk_frozen BK105.out 4
        have hfz7_5 := blk_frozen BK105.out 5
        have hfz7_6 := blk_frozen BK105.out 6
        have hfz7_7 := blk_frozen BK105.out 7
        go_wp2
        go_meet
        case rel => exact ⟨_, (true), (by first | rfl | (simp; done) | (simp [*]; done)), H', ⟨by first | omega | exact Nat.le_refl _⟩, ⟨by (with_reducible repeat (first | refine blk_drewN ?_ _ | refine blk_drew ?_ | refine blk_alloc ?_ _)); exact BK105.out⟩, ⟨by repeat (first | (with_reducible first | exact HB.out | apply below_alloc | apply pw_below_drewN | apply below_drew1 | refine below_set ?_ GE105.out) | exact HB.out)⟩⟩
      · rw [if_neg c6] at H
        have c6b0 : (a0_1 == 0) = false := beq_eq_false_iff_ne.mpr c6
        have c6b1 : (a0_1 != 0) = true := bne_iff_ne.mpr c6
        have H' := Aside0.mk H
        clear H
        have hcz8_0 : w3.cell? ⟨gb105, 0, none⟩ = some (.int .u64 a0_0) := (blk_cell BK105.out 0).trans rfl
        have hcz8_1 : w3.cell? ⟨gb105, 1, none⟩ = some (.int .u64 a0_1) := (blk_cell BK105.out 1).trans rfl
        have hcz8_2 : w3.cell? ⟨gb105, 2, none⟩ = some (.int .u64 a0_2) := (blk_cell BK105.out 2).trans rfl
        have hcz8_3 : w3.cell? ⟨gb105, 3, none⟩ = some (.int .u8 a0_3) := (blk_cell BK105.out 3).trans rfl
        have hcz8_4 : w3.cell? ⟨gb105, 4, none⟩ = some (.string a0_4) := (blk_cell BK105.out 4).trans rfl
        have hcz8_5 : w3.cell? ⟨gb105, 5, none⟩ = some (.string a0_5) := (blk_cell BK105.out 5).trans rfl
        have hcz8_6 : w3.cell? ⟨gb105, 6, none⟩ = some (.int .i64 a0_6) := (blk_cell BK105.out 6).trans rfl
        have hcz8_7 : w3.cell? ⟨gb105, 7, none⟩ = some (.int .i64 a0_7) := (blk_cell BK105.out 7).trans rfl
        have hfz8_0 := blk_frozen BK105.out 0
        have hfz8_1 := blk_frozen BK105.out 1
        have hfz8_2 := blk_frozen BK105.out 2
        have hfz8_3 := blk_frozen BK105.out 3
        have hfz8_4 := blk_frozen BK105.out 4
        have hfz8_5 := blk_frozen BK105.out 5
        have hfz8_6 := blk_frozen BK105.out 6
        have hfz8_7 := blk_frozen BK105.out 7
        go_wp2
        go_meet
        case rel => exact ⟨_, ((a0_2 == a0_1)), (by first | rfl | (simp; done) | (simp [*]; done)), H', ⟨by first | omega | exact Nat.le_refl _⟩, ⟨by (with_reducible repeat (first | refine blk_drewN ?_ _ | refine blk_drew ?_ | refine blk_alloc ?_ _)); exact BK105.out⟩, ⟨by repeat (first | (with_reducible first | exact HB.out | apply below_alloc | apply pw_below_drewN | apply below_drew1 | refine below_set ?_ GE105.out) | exact HB.out)⟩⟩
  case rest =>
    clear HC2
    (try clear p2); (try clear c3); (try clear c4); (try clear c4b0); (try clear c4b1); (try clear c6); (try clear c6b0); (try clear c6b1); (try clear hcz5_0); (try clear hcz5_1); (try clear hcz5_2); (try clear hcz5_3); (try clear hcz5_4); (try clear hcz5_5); (try clear hcz5_6); (try clear hcz5_7); (try clear hcz7_0); (try clear hcz7_1); (try clear hcz7_2); (try clear hcz7_3); (try clear hcz7_4); (try clear hcz7_5); (try clear hcz7_6); (try clear hcz7_7); (try clear hcz8_0); (try clear hcz8_1); (try clear hcz8_2); (try clear hcz8_3); (try clear hcz8_4); (try clear hcz8_5); (try clear hcz8_6); (try clear hcz8_7); (try clear hfz5_0); (try clear hfz5_1); (try clear hfz5_2); (try clear hfz5_3); (try clear hfz5_4); (try clear hfz5_5); (try clear hfz5_6); (try clear hfz5_7); (try clear hfz7_0); (try clear hfz7_1); (try clear hfz7_2); (try clear hfz7_3); (try clear hfz7_4); (try clear hfz7_5); (try clear hfz7_6); (try clear hfz7_7); (try clear hfz8_0); (try clear hfz8_1); (try clear hfz8_2); (try clear hfz8_3); (try clear hfz8_4); (try clear hfz8_5); (try clear hfz8_6); (try clear hfz8_7)
    obtain ⟨kq, x17_1, rfl, HA, HJ1, BK105, HB⟩ := hcut
    cases kq with
    | zero => exact absurd HA.out (by simp [merkhetref01_May.j0])
    | succ kj1 =>
      have H := HA.out
      clear HA
      simp only [merkhetref01_May.j0] at H
      by_cases c9 : x17_1 = true
      · subst c9
        have H1 : (some false) = some r := by rw [if_pos rfl] at H; exact H
        clear H
        have H := H1
        clear H1
        obtain rfl := Option.some.inj H
        go_wp2
        go_ret
        exact ⟨by first | rfl | (simp [errW_none, errW_some] <;> rfl) | (simp [*, errW_none, errW_some] <;> rfl), by repeat (first | (with_reducible first | exact HB.out | apply below_alloc | apply pw_below_drewN | apply below_drew1 | refine below_set ?_ GE105.out) | exact HB.out)⟩
      · replace c9 := Bool.eq_false_iff.mpr c9
        subst c9
        have H1 : (if a0_3 = 0 then (merkhetref01_May.j1 kj1 false a0_0 a0_1 a0_2 a0_3 a0_4 a0_5 a0_6 a0_7) else (if a0_3 = 1 then (merkhetref01_May.j1 kj1 false a0_0 a0_1 a0_2 a0_3 a0_4 a0_5 a0_6 a0_7) else (merkhetref01_May.j1 kj1 (a0_3 != 2) a0_0 a0_1 a0_2 a0_3 a0_4 a0_5 a0_6 a0_7))) = some r := by rw [if_neg (show ¬ (false = true) by decide)] at H; exact H
        clear H
        have H := H1
        clear H1
        have HC10 := Aside0.mk H
        clear H
        go_upto_region 3 with (fail)
        go_cut [30] (fun v30 wc => ∃ (kq : Nat) (x30_9 : Bool), v30 = .bool x30_9 ∧ Aside0 (merkhetref01_May.j1 kq x30_9 a0_0 a0_1 a0_2 a0_3 a0_4 a0_5 a0_6 a0_7 = some r) ∧ Aside0 (kq ≤ kj1) ∧ Aside0 (wc.heap[gb105]? = some (.cells #[.int .u64 a0_0, .int .u64 a0_1, .int .u64 a0_2, .int .u8 a0_3, .string a0_4, .string a0_5, .int .i64 a0_6, .int .i64 a0_7] 42 (0, 0))) ∧ Aside0 (Below w.heap.size w wc))
        case first =>
          have H := HC10.out
          clear HC10
          by_cases c11 : a0_3 = 0
          · rw [if_pos c11] at H
            have c11b0 : (a0_3 == 0) = true := beq_iff_eq.mpr c11
            have c11b1 : (a0_3 != 0) = false := bne_eq_false_iff_eq.mpr c11
            clear c11
            (first | rw [c11b0] | (simp only [i64_w, i32_w]; rw [c11b0]) | skip)
            have H' := Aside0.mk H
            clear H
            have hcz12_0 : wc.cell? ⟨gb105, 0, none⟩ = some (.int .u64 a0_0) := (blk_cell BK105.out 0).trans rfl
            have hcz12_1 : wc.cell? ⟨gb105, 1, none⟩ = some (.int .u64 a0_1) := (blk_cell BK105.out 1).trans rfl
            have hcz12_2 : wc.cell? ⟨gb105, 2, none⟩ = some (.int .u64 a0_2) := (blk_cell BK105.out 2).trans rfl
            have hcz12_3 : wc.cell? ⟨gb105, 3, none⟩ = some (.int .u8 a0_3) := (blk_cell BK105.out 3).trans rfl
            have hcz12_4 : wc.cell? ⟨gb105, 4, none⟩ = some (.string a0_4) := (blk_cell BK105.out 4).trans rfl
            have hcz12_5 : wc.cell? ⟨gb105, 5, none⟩ = some (.string a0_5) := (blk_cell BK105.out 5).trans rfl
            have hcz12_6 : wc.cell? ⟨gb105, 6, none⟩ = some (.int .i64 a0_6) := (blk_cell BK105.out 6).trans rfl
            have hcz12_7 : wc.cell? ⟨gb105, 7, none⟩ = some (.int .i64 a0_7) := (blk_cell BK105.out 7).trans rfl
            have hfz12_0 := blk_frozen BK105.out 0
            have hfz12_1 := blk_frozen BK105.out 1
            have hfz12_2 := blk_frozen BK105.out 2
            have hfz12_3 := blk_frozen BK105.out 3
            have hfz12_4 := blk_frozen BK105.out 4
            have hfz12_5 := blk_frozen BK105.out 5
            have hfz12_6 := blk_frozen BK105.out 6
            have hfz12_7 := blk_frozen BK105.out 7
            go_wp2
            go_meet
            case rel => exact ⟨_, (false), (by first | rfl | (simp; done) | (simp [*]; done)), H', ⟨by have := HJ1.out; first | omega | exact Nat.le_refl _⟩, ⟨by (with_reducible repeat (first | refine blk_drewN ?_ _ | refine blk_drew ?_ | refine blk_alloc ?_ _)); exact BK105.out⟩, ⟨by repeat (first | (with_reducible first | exact HB.out | apply below_alloc | apply pw_below_drewN | apply below_drew1 | refine below_set ?_ GE105.out) | exact HB.out)⟩⟩
          · rw [if_neg c11] at H
            have c11b0 : (a0_3 == 0) = false := beq_eq_false_iff_ne.mpr c11
            have c11b1 : (a0_3 != 0) = true := bne_iff_ne.mpr c11
            (first | rw [c11b0] | (simp only [i64_w, i32_w]; rw [c11b0]) | skip)
            by_cases c13 : a0_3 = 1
            · rw [if_pos c13] at H
              have c13b0 : (a0_3 == 1) = true := beq_iff_eq.mpr c13
              have c13b1 : (a0_3 != 1) = false := bne_eq_false_iff_eq.mpr c13
              clear c13
              have H' := Aside0.mk H
              clear H
              have hcz14_0 : wc.cell? ⟨gb105, 0, none⟩ = some (.int .u64 a0_0) := (blk_cell BK105.out 0).trans rfl
              have hcz14_1 : wc.cell? ⟨gb105, 1, none⟩ = some (.int .u64 a0_1) := (blk_cell BK105.out 1).trans rfl
              have hcz14_2 : wc.cell? ⟨gb105, 2, none⟩ = some (.int .u64 a0_2) := (blk_cell BK105.out 2).trans rfl
              have hcz14_3 : wc.cell? ⟨gb105, 3, none⟩ = some (.int .u8 a0_3) := (blk_cell BK105.out 3).trans rfl
              have hcz14_4 : wc.cell? ⟨gb105, 4, none⟩ = some (.string a0_4) := (blk_cell BK105.out 4).trans rfl
              have hcz14_5 : wc.cell? ⟨gb105, 5, none⟩ = some (.string a0_5) := (blk_cell BK105.out 5).trans rfl
              have hcz14_6 : wc.cell? ⟨gb105, 6, none⟩ = some (.int .i64 a0_6) := (blk_cell BK105.out 6).trans rfl
              have hcz14_7 : wc.cell? ⟨gb105, 7, none⟩ = some (.int .i64 a0_7) := (blk_cell BK105.out 7).trans rfl
              have hfz14_0 := blk_frozen BK105.out 0
              have hfz14_1 := blk_frozen BK105.out 1
              have hfz14_2 := blk_frozen BK105.out 2
              have hfz14_3 := blk_frozen BK105.out 3
              have hfz14_4 := blk_frozen BK105.out 4
              have hfz14_5 := blk_frozen BK105.out 5
              have hfz14_6 := blk_frozen BK105.out 6
              have hfz14_7 := blk_frozen BK105.out 7
              go_wp2
              go_meet
              case rel => exact ⟨_, (false), (by first | rfl | (simp; done) | (simp [*]; done)), H', ⟨by have := HJ1.out; first | omega | exact Nat.le_refl _⟩, ⟨by (with_reducible repeat (first | refine blk_drewN ?_ _ | refine blk_drew ?_ | refine blk_alloc ?_ _)); exact BK105.out⟩, ⟨by repeat (first | (with_reducible first | exact HB.out | apply below_alloc | apply pw_below_drewN | apply below_drew1 | refine below_set ?_ GE105.out) | exact HB.out)⟩⟩
            · rw [if_neg c13] at H
              have c13b0 : (a0_3 == 1) = false := beq_eq_false_iff_ne.mpr c13
              have c13b1 : (a0_3 != 1) = true := bne_iff_ne.mpr c13
              have H' := Aside0.mk H
              clear H
              have hcz15_0 : wc.cell? ⟨gb105, 0, none⟩ = some (.int .u64 a0_0) := (blk_cell BK105.out 0).trans rfl
              have hcz15_1 : wc.cell? ⟨gb105, 1, none⟩ = some (.int .u64 a0_1) := (blk_cell BK105.out 1).trans rfl
              have hcz15_2 : wc.cell? ⟨gb105, 2, none⟩ = some (.int .u64 a0_2) := (blk_cell BK105.out 2).trans rfl
              have hcz15_3 : wc.cell? ⟨gb105, 3, none⟩ = some (.int .u8 a0_3) := (blk_cell BK105.out 3).trans rfl
              have hcz15_4 : wc.cell? ⟨gb105, 4, none⟩ = some (.string a0_4) := (blk_cell BK105.out 4).trans rfl
              have hcz15_5 : wc.cell? ⟨gb105, 5, none⟩ = some (.string a0_5) := (blk_cell BK105.out 5).trans rfl
              have hcz15_6 : wc.cell? ⟨gb105, 6, none⟩ = some (.int .i64 a0_6) := (blk_cell BK105.out 6).trans rfl
              have hcz15_7 : wc.cell? ⟨gb105, 7, none⟩ = some (.int .i64 a0_7) := (blk_cell BK105.out 7).trans rfl
              have hfz15_0 := blk_frozen BK105.out 0
              have hfz15_1 := blk_frozen BK105.out 1
              have hfz15_2 := blk_frozen BK105.out 2
              have hfz15_3 := blk_frozen BK105.out 3
              have hfz15_4 := blk_frozen BK105.out 4
              have hfz15_5 := blk_frozen BK105.out 5
              have hfz15_6 := blk_frozen BK105.out 6
              have hfz15_7 := blk_frozen BK105.out 7
              go_wp2
              go_meet
              case rel => exact ⟨_, ((a0_3 != 2)), (by first | rfl | (simp; done) | (simp [*]; done)), H', ⟨by have := HJ1.out; first | omega | exact Nat.le_refl _⟩, ⟨by (with_reducible repeat (first | refine blk_drewN ?_ _ | refine blk_drew ?_ | refine blk_alloc ?_ _)); exact BK105.out⟩, ⟨by repeat (first | (with_reducible first | exact HB.out | apply below_alloc | apply pw_below_drewN | apply below_drew1 | refine below_set ?_ GE105.out) | exact HB.out)⟩⟩
        case rest =>
          clear HC10
          (try clear c1); (try clear p2); (try clear c3); (try clear c4); (try clear c4b0); (try clear c4b1); (try clear c6); (try clear c6b0); (try clear c6b1); (try clear c9); (try clear c11); (try clear c11b0); (try clear c11b1); (try clear c13); (try clear c13b0); (try clear c13b1); (try clear hcz12_0); (try clear hcz12_1); (try clear hcz12_2); (try clear hcz12_3); (try clear hcz12_4); (try clear hcz12_5); (try clear hcz12_6); (try clear hcz12_7); (try clear hcz14_0); (try clear hcz14_1); (try clear hcz14_2); (try clear hcz14_3); (try clear hcz14_4); (try clear hcz14_5); (try clear hcz14_6); (try clear hcz14_7); (try clear hcz15_0); (try clear hcz15_1); (try clear hcz15_2); (try clear hcz15_3); (try clear hcz15_4); (try clear hcz15_5); (try clear hcz15_6); (try clear hcz15_7); (try clear hcz5_0); (try clear hcz5_1); (try clear hcz5_2); (try clear hcz5_3); (try clear hcz5_4); (try clear hcz5_5); (try clear hcz5_6); (try clear hcz5_7); (try clear hcz7_0); (try clear hcz7_1); (try clear hcz7_2); (try clear hcz7_3); (try clear hcz7_4); (try clear hcz7_5); (try clear hcz7_6); (try clear hcz7_7); (try clear hcz8_0); (try clear hcz8_1); (try clear hcz8_2); (try clear hcz8_3); (try clear hcz8_4); (try clear hcz8_5); (try clear hcz8_6); (try clear hcz8_7); (try clear hfz12_0); (try clear hfz12_1); (try clear hfz12_2); (try clear hfz12_3); (try clear hfz12_4); (try clear hfz12_5); (try clear hfz12_6); (try clear hfz12_7); (try clear hfz14_0); (try clear hfz14_1); (try clear hfz14_2); (try clear hfz14_3); (try clear hfz14_4); (try clear hfz14_5); (try clear hfz14_6); (try clear hfz14_7); (try clear hfz15_0); (try clear hfz15_1); (try clear hfz15_2); (try clear hfz15_3); (try clear hfz15_4); (try clear hfz15_5); (try clear hfz15_6); (try clear hfz15_7); (try clear hfz5_0); (try clear hfz5_1); (try clear hfz5_2); (try clear hfz5_3); (try clear hfz5_4); (try clear hfz5_5); (try clear hfz5_6); (try clear hfz5_7); (try clear hfz7_0); (try clear hfz7_1); (try clear hfz7_2); (try clear hfz7_3); (try clear hfz7_4); (try clear hfz7_5); (try clear hfz7_6); (try clear hfz7_7); (try clear hfz8_0); (try clear hfz8_1); (try clear hfz8_2); (try clear hfz8_3); (try clear hfz8_4); (try clear hfz8_5); (try clear hfz8_6); (try clear hfz8_7); (try clear p2)
          obtain ⟨kq, x30_9, rfl, HA, HJ9, BK105, HB⟩ := hcut
          cases kq with
          | zero => exact absurd HA.out (by simp [merkhetref01_May.j1])
          | succ kj9 =>
            have H := HA.out
            clear HA
            simp only [merkhetref01_May.j1] at H
            by_cases c16 : x30_9 = true
            · subst c16
              have H1 : (some false) = some r := by rw [if_pos rfl] at H; exact H
              clear H
              have H := H1
              clear H1
              obtain rfl := Option.some.inj H
              go_wp2
              go_ret
              exact ⟨by first | rfl | (simp [errW_none, errW_some] <;> rfl) | (simp [*, errW_none, errW_some] <;> rfl), by repeat (first | (with_reducible first | exact HB.out | apply below_alloc | apply pw_below_drewN | apply below_drew1 | refine below_set ?_ GE105.out) | exact HB.out)⟩
            · replace c16 := Bool.eq_false_iff.mpr c16
              subst c16
              have H1 : (if a0_6 < 0 then (merkhetref01_May.j2 kj9 true a0_0 a0_1 a0_2 a0_3 a0_4 a0_5 a0_6 a0_7) else (if a0_6 > 1125899906842623 then (merkhetref01_May.j2 kj9 true a0_0 a0_1 a0_2 a0_3 a0_4 a0_5 a0_6 a0_7) else (if a0_7 < 0 then (merkhetref01_May.j2 kj9 true a0_0 a0_1 a0_2 a0_3 a0_4 a0_5 a0_6 a0_7) else (merkhetref01_May.j2 kj9 (decide (a0_7 > 1125899906842624)) a0_0 a0_1 a0_2 a0_3 a0_4 a0_5 a0_6 a0_7)))) = some r := by rw [if_neg (show ¬ (false = true) by decide)] at H; exact H
              clear H
              have H := H1
              clear H1
              have HC17 := Aside0.mk H
              clear H
              go_upto_region 5 with (fail)
              go_cut [48] (fun v48 wc => ∃ (kq : Nat) (x48_16 : Bool), v48 = .bool x48_16 ∧ Aside0 (merkhetref01_May.j2 kq x48_16 a0_0 a0_1 a0_2 a0_3 a0_4 a0_5 a0_6 a0_7 = some r) ∧ Aside0 (kq ≤ kj9) ∧ Aside0 (wc.heap[gb105]? = some (.cells #[.int .u64 a0_0, .int .u64 a0_1, .int .u64 a0_2, .int .u8 a0_3, .string a0_4, .string a0_5, .int .i64 a0_6, .int .i64 a0_7] 42 (0, 0))) ∧ Aside0 (Below w.heap.size w wc))
              case first =>
                have H := HC17.out
                clear HC17
                by_cases c18 : a0_6 < 0
                · rw [if_pos c18] at H
                  have c18b0 : decide (a0_6 < 0) = true := decide_eq_true c18
                  clear c18
                  (first | rw [c18b0] | (simp only [i64_w, i32_w]; rw [c18b0]) | skip)
                  have H' := Aside0.mk H
                  clear H
                  have hcz19_0 : wc.cell? ⟨gb105, 0, none⟩ = some (.int .u64 a0_0) := (blk_cell BK105.out 0).trans rfl
                  have hcz19_1 : wc.cell? ⟨gb105, 1, none⟩ = some (.int .u64 a0_1) := (blk_cell BK105.out 1).trans rfl
                  have hcz19_2 : wc.cell? ⟨gb105, 2, none⟩ = some (.int .u64 a0_2) := (blk_cell BK105.out 2).trans rfl
                  have hcz19_3 : wc.cell? ⟨gb105, 3, none⟩ = some (.int .u8 a0_3) := (blk_cell BK105.out 3).trans rfl
                  have hcz19_4 : wc.cell? ⟨gb105, 4, none⟩ = some (.string a0_4) := (blk_cell BK105.out 4).trans rfl
                  have hcz19_5 : wc.cell? ⟨gb105, 5, none⟩ = some (.string a0_5) := (blk_cell BK105.out 5).trans rfl
                  have hcz19_6 : wc.cell? ⟨gb105, 6, none⟩ = some (.int .i64 a0_6) := (blk_cell BK105.out 6).trans rfl
                  have hcz19_7 : wc.cell? ⟨gb105, 7, none⟩ = some (.int .i64 a0_7) := (blk_cell BK105.out 7).trans rfl
                  have hfz19_0 := blk_frozen BK105.out 0
                  have hfz19_1 := blk_frozen BK105.out 1
                  have hfz19_2 := blk_frozen BK105.out 2
                  have hfz19_3 := blk_frozen BK105.out 3
                  have hfz19_4 := blk_frozen BK105.out 4
                  have hfz19_5 := blk_frozen BK105.out 5
                  have hfz19_6 := blk_frozen BK105.out 6
                  have hfz19_7 := blk_frozen BK105.out 7
                  go_wp2
                  go_meet
                  case rel => exact ⟨_, (true), (by first | rfl | (simp; done) | (simp [*]; done)), H', ⟨by have := HJ1.out; have := HJ9.out; first | omega | exact Nat.le_refl _⟩, ⟨by (with_reducible repeat (first | refine blk_drewN ?_ _ | refine blk_drew ?_ | refine blk_alloc ?_ _)); exact BK105.out⟩, ⟨by repeat (first | (with_reducible first | exact HB.out | apply below_alloc | apply pw_below_drewN | apply below_drew1 | refine below_set ?_ GE105.out) | exact HB.out)⟩⟩
                · rw [if_neg c18] at H
                  have c18b0 : decide (a0_6 < 0) = false := decide_eq_false c18
                  clear c18
                  (first | rw [c18b0] | (simp only [i64_w, i32_w]; rw [c18b0]) | skip)
                  by_cases c20 : a0_6 > 1125899906842623
                  · rw [if_pos c20] at H
                    have c20b0 : decide (1125899906842623 < a0_6) = true := decide_eq_true c20
                    clear c20
                    have H' := Aside0.mk H
                    clear H
                    have hcz21_0 : wc.cell? ⟨gb105, 0, none⟩ = some (.int .u64 a0_0) := (blk_cell BK105.out 0).trans rfl
                    have hcz21_1 : wc.cell? ⟨gb105, 1, none⟩ = some (.int .u64 a0_1) := (blk_cell BK105.out 1).trans rfl
                    have hcz21_2 : wc.cell? ⟨gb105, 2, none⟩ = some (.int .u64 a0_2) := (blk_cell BK105.out 2).trans rfl
                    have hcz21_3 : wc.cell? ⟨gb105, 3, none⟩ = some (.int .u8 a0_3) := (blk_cell BK105.out 3).trans rfl
                    have hcz21_4 : wc.cell? ⟨gb105, 4, none⟩ = some (.string a0_4) := (blk_cell BK105.out 4).trans rfl
                    have hcz21_5 : wc.cell? ⟨gb105, 5, none⟩ = some (.string a0_5) := (blk_cell BK105.out 5).trans rfl
                    have hcz21_6 : wc.cell? ⟨gb105, 6, none⟩ = some (.int .i64 a0_6) := (blk_cell BK105.out 6).trans rfl
                    have hcz21_7 : wc.cell? ⟨gb105, 7, none⟩ = some (.int .i64 a0_7) := (blk_cell BK105.out 7).trans rfl
                    have hfz21_0 := blk_frozen BK105.out 0
                    have hfz21_1 := blk_frozen BK105.out 1
                    have hfz21_2 := blk_frozen BK105.out 2
                    have hfz21_3 := blk_frozen BK105.out 3
                    have hfz21_4 := blk_frozen BK105.out 4
                    have hfz21_5 := blk_frozen BK105.out 5
                    have hfz21_6 := blk_frozen BK105.out 6
                    have hfz21_7 := blk_frozen BK105.out 7
                    go_wp2
                    go_meet
                    case rel => exact ⟨_, (true), (by first | rfl | (simp; done) | (simp [*]; done)), H', ⟨by have := HJ1.out; have := HJ9.out; first | omega | exact Nat.le_refl _⟩, ⟨by (with_reducible repeat (first | refine blk_drewN ?_ _ | refine blk_drew ?_ | refine blk_alloc ?_ _)); exact BK105.out⟩, ⟨by repeat (first | (with_reducible first | exact HB.out | apply below_alloc | apply pw_below_drewN | apply below_drew1 | refine below_set ?_ GE105.out) | exact HB.out)⟩⟩
                  · rw [if_neg c20] at H
                    have c20b0 : decide (1125899906842623 < a0_6) = false := decide_eq_false c20
                    clear c20
                    by_cases c22 : a0_7 < 0
                    · rw [if_pos c22] at H
                      have c22b0 : decide (a0_7 < 0) = true := decide_eq_true c22
                      clear c22
                      have H' := Aside0.mk H
                      clear H
                      have hcz23_0 : wc.cell? ⟨gb105, 0, none⟩ = some (.int .u64 a0_0) := (blk_cell BK105.out 0).trans rfl
                      have hcz23_1 : wc.cell? ⟨gb105, 1, none⟩ = some (.int .u64 a0_1) := (blk_cell BK105.out 1).trans rfl
                      have hcz23_2 : wc.cell? ⟨gb105, 2, none⟩ = some (.int .u64 a0_2) := (blk_cell BK105.out 2).trans rfl
                      have hcz23_3 : wc.cell? ⟨gb105, 3, none⟩ = some (.int .u8 a0_3) := (blk_cell BK105.out 3).trans rfl
                      have hcz23_4 : wc.cell? ⟨gb105, 4, none⟩ = some (.string a0_4) := (blk_cell BK105.out 4).trans rfl
                      have hcz23_5 : wc.cell? ⟨gb105, 5, none⟩ = some (.string a0_5) := (blk_cell BK105.out 5).trans rfl
                      have hcz23_6 : wc.cell? ⟨gb105, 6, none⟩ = some (.int .i64 a0_6) := (blk_cell BK105.out 6).trans rfl
                      have hcz23_7 : wc.cell? ⟨gb105, 7, none⟩ = some (.int .i64 a0_7) := (blk_cell BK105.out 7).trans rfl
                      have hfz23_0 := blk_frozen BK105.out 0
                      have hfz23_1 := blk_frozen BK105.out 1
                      have hfz23_2 := blk_frozen BK105.out 2
                      have hfz23_3 := blk_frozen BK105.out 3
                      have hfz23_4 := blk_frozen BK105.out 4
                      have hfz23_5 := blk_frozen BK105.out 5
                      have hfz23_6 := blk_frozen BK105.out 6
                      have hfz23_7 := blk_frozen BK105.out 7
                      go_wp2
                      go_meet
                      case rel => exact ⟨_, (true), (by first | rfl | (simp; done) | (simp [*]; done)), H', ⟨by have := HJ1.out; have := HJ9.out; first | omega | exact Nat.le_refl _⟩, ⟨by (with_reducible repeat (first | refine blk_drewN ?_ _ | refine blk_drew ?_ | refine blk_alloc ?_ _)); exact BK105.out⟩, ⟨by repeat (first | (with_reducible first | exact HB.out | apply below_alloc | apply pw_below_drewN | apply below_drew1 | refine below_set ?_ GE105.out) | exact HB.out)⟩⟩
                    · rw [if_neg c22] at H
                      have c22b0 : decide (a0_7 < 0) = false := decide_eq_false c22
                      clear c22
                      have H' := Aside0.mk H
                      clear H
                      have hcz24_0 : wc.cell? ⟨gb105, 0, none⟩ = some (.int .u64 a0_0) := (blk_cell BK105.out 0).trans rfl
                      have hcz24_1 : wc.cell? ⟨gb105, 1, none⟩ = some (.int .u64 a0_1) := (blk_cell BK105.out 1).trans rfl
                      have hcz24_2 : wc.cell? ⟨gb105, 2, none⟩ = some (.int .u64 a0_2) := (blk_cell BK105.out 2).trans rfl
                      have hcz24_3 : wc.cell? ⟨gb105, 3, none⟩ = some (.int .u8 a0_3) := (blk_cell BK105.out 3).trans rfl
                      have hcz24_4 : wc.cell? ⟨gb105, 4, none⟩ = some (.string a0_4) := (blk_cell BK105.out 4).trans rfl
                      have hcz24_5 : wc.cell? ⟨gb105, 5, none⟩ = some (.string a0_5) := (blk_cell BK105.out 5).trans rfl
                      have hcz24_6 : wc.cell? ⟨gb105, 6, none⟩ = some (.int .i64 a0_6) := (blk_cell BK105.out 6).trans rfl
                      have hcz24_7 : wc.cell? ⟨gb105, 7, none⟩ = some (.int .i64 a0_7) := (blk_cell BK105.out 7).trans rfl
                      have hfz24_0 := blk_frozen BK105.out 0
                      have hfz24_1 := blk_frozen BK105.out 1
                      have hfz24_2 := blk_frozen BK105.out 2
                      have hfz24_3 := blk_frozen BK105.out 3
                      have hfz24_4 := blk_frozen BK105.out 4
                      have hfz24_5 := blk_frozen BK105.out 5
                      have hfz24_6 := blk_frozen BK105.out 6
                      have hfz24_7 := blk_frozen BK105.out 7
                      go_wp2
                      go_meet
                      case rel => exact ⟨_, (decide (a0_7 > 1125899906842624)), (by first | rfl | (simp; done) | (simp [*]; done)), H', ⟨by have := HJ1.out; have := HJ9.out; first | omega | exact Nat.le_refl _⟩, ⟨by (with_reducible repeat (first | refine blk_drewN ?_ _ | refine blk_drew ?_ | refine blk_alloc ?_ _)); exact BK105.out⟩, ⟨by repeat (first | (with_reducible first | exact HB.out | apply below_alloc | apply pw_below_drewN | apply below_drew1 | refine below_set ?_ GE105.out) | exact HB.out)⟩⟩
              case rest =>
                clear HC17
                (try clear c1); (try clear c2); (try clear p2); (try clear c3); (try clear c4); (try clear c4b0); (try clear c4b1); (try clear c6); (try clear c6b0); (try clear c6b1); (try clear c9); (try clear c11); (try clear c11b0); (try clear c11b1); (try clear c13); (try clear c13b0); (try clear c13b1); (try clear c16); (try clear c18); (try clear c18b0); (try clear c20); (try clear c20b0); (try clear c22); (try clear c22b0); (try clear hcz12_0); (try clear hcz12_1); (try clear hcz12_2); (try clear hcz12_3); (try clear hcz12_4); (try clear hcz12_5); (try clear hcz12_6); (try clear hcz12_7); (try clear hcz14_0); (try clear hcz14_1); (try clear hcz14_2); (try clear hcz14_3); (try clear hcz14_4); (try clear hcz14_5); (try clear hcz14_6); (try clear hcz14_7); (try clear hcz15_0); (try clear hcz15_1); (try clear hcz15_2); (try clear hcz15_3); (try clear hcz15_4); (try clear hcz15_5); (try clear hcz15_6); (try clear hcz15_7); (try clear hcz19_0); (try clear hcz19_1); (try clear hcz19_2); (try clear hcz19_3); (try clear hcz19_4); (try clear hcz19_5); (try clear hcz19_6); (try clear hcz19_7); (try clear hcz21_0); (try clear hcz21_1); (try clear hcz21_2); (try clear hcz21_3); (try clear hcz21_4); (try clear hcz21_5); (try clear hcz21_6); (try clear hcz21_7); (try clear hcz23_0); (try clear hcz23_1); (try clear hcz23_2); (try clear hcz23_3); (try clear hcz23_4); (try clear hcz23_5); (try clear hcz23_6); (try clear hcz23_7); (try clear hcz24_0); (try clear hcz24_1); (try clear hcz24_2); (try clear hcz24_3); (try clear hcz24_4); (try clear hcz24_5); (try clear hcz24_6); (try clear hcz24_7); (try clear hcz5_0); (try clear hcz5_1); (try clear hcz5_2); (try clear hcz5_3); (try clear hcz5_4); (try clear hcz5_5); (try clear hcz5_6); (try clear hcz5_7); (try clear hcz7_0); (try clear hcz7_1); (try clear hcz7_2); (try clear hcz7_3); (try clear hcz7_4); (try clear hcz7_5); (try clear hcz7_6); (try clear hcz7_7); (try clear hcz8_0); (try clear hcz8_1); (try clear hcz8_2); (try clear hcz8_3); (try clear hcz8_4); (try clear hcz8_5); (try clear hcz8_6); (try clear hcz8_7); (try clear hfz12_0); (try clear hfz12_1); (try clear hfz12_2); (try clear hfz12_3); (try clear hfz12_4); (try clear hfz12_5); (try clear hfz12_6); (try clear hfz12_7); (try clear hfz14_0); (try clear hfz14_1); (try clear hfz14_2); (try clear hfz14_3); (try clear hfz14_4); (try clear hfz14_5); (try clear hfz14_6); (try clear hfz14_7); (try clear hfz15_0); (try clear hfz15_1); (try clear hfz15_2); (try clear hfz15_3); (try clear hfz15_4); (try clear hfz15_5); (try clear hfz15_6); (try clear hfz15_7); (try clear hfz19_0); (try clear hfz19_1); (try clear hfz19_2); (try clear hfz19_3); (try clear hfz19_4); (try clear hfz19_5); (try clear hfz19_6); (try clear hfz19_7); (try clear hfz21_0); (try clear hfz21_1); (try clear hfz21_2); (try clear hfz21_3); (try clear hfz21_4); (try clear hfz21_5); (try clear hfz21_6); (try clear hfz21_7); (try clear hfz23_0); (try clear hfz23_1); (try clear hfz23_2); (try clear hfz23_3); (try clear hfz23_4); (try clear hfz23_5); (try clear hfz23_6); (try clear hfz23_7); (try clear hfz24_0); (try clear hfz24_1); (try clear hfz24_2); (try clear hfz24_3); (try clear hfz24_4); (try clear hfz24_5); (try clear hfz24_6); (try clear hfz24_7); (try clear hfz5_0); (try clear hfz5_1); (try clear hfz5_2); (try clear hfz5_3); (try clear hfz5_4); (try clear hfz5_5); (try clear hfz5_6); (try clear hfz5_7); (try clear hfz7_0); (try clear hfz7_1); (try clear hfz7_2); (try clear hfz7_3); (try clear hfz7_4); (try clear hfz7_5); (try clear hfz7_6); (try clear hfz7_7); (try clear hfz8_0); (try clear hfz8_1); (try clear hfz8_2); (try clear hfz8_3); (try clear hfz8_4); (try clear hfz8_5); (try clear hfz8_6); (try clear hfz8_7); (try clear p2)
                obtain ⟨kq, x48_16, rfl, HA, HJ16, BK105, HB⟩ := hcut
                cases kq with
                | zero => exact absurd HA.out (by simp [merkhetref01_May.j2])
                | succ kj16 =>
                  have H := HA.out
                  clear HA
                  simp only [merkhetref01_May.j2] at H
                  by_cases c25 : x48_16 = true
                  · subst c25
                    have H1 : (some false) = some r := by rw [if_pos rfl] at H; exact H
                    clear H
                    have H := H1
                    clear H1
                    obtain rfl := Option.some.inj H
                    go_wp2
                    go_ret
                    exact ⟨by first | rfl | (simp [errW_none, errW_some] <;> rfl) | (simp [*, errW_none, errW_some] <;> rfl), by repeat (first | (with_reducible first | exact HB.out | apply below_alloc | apply pw_below_drewN | apply below_drew1 | refine below_set ?_ GE105.out) | exact HB.out)⟩
                  · replace c25 := Bool.eq_false_iff.mpr c25
                    subst c25
                    have H1 : ((merkhetref01_Name.f kj16 a0_4).bind fun t106 => (if t106 = true then ((merkhetref01_Name.f kj16 a0_5).bind fun t107 => (some t107)) else (some false))) = some r := by rw [if_neg (show ¬ (false = true) by decide)] at H; exact H
                    clear H
                    have H := H1
                    clear H1
                    replace H := Option.bind_eq_some_iff.mp H
                    obtain ⟨t106, A260, H⟩ := H
                    replace H : (if t106 = true then ((merkhetref01_Name.f kj16 a0_5).bind fun t107 => (some t107)) else (some false)) = some r := H
                    have A26 := Aside0.mk A260
                    clear A260
                    by_cases c27 : t106 = true
                    · subst c27
                      have H1 : ((merkhetref01_Name.f kj16 a0_5).bind fun t107 => (some t107)) = some r := by rw [if_pos rfl] at H; exact H
                      clear H
                      have H := H1
                      clear H1
                      replace H := Option.bind_eq_some_iff.mp H
                      obtain ⟨t107, A280, H⟩ := H
                      replace H : (some t107) = some r := H
                      have A28 := Aside0.mk A280
                      clear A280
                      obtain rfl := Option.some.inj H
                      have hcz29_0 : wc.cell? ⟨gb105, 0, none⟩ = some (.int .u64 a0_0) := (blk_cell BK105.out 0).trans rfl
                      have hcz29_1 : wc.cell? ⟨gb105, 1, none⟩ = some (.int .u64 a0_1) := (blk_cell BK105.out 1).trans rfl
                      have hcz29_2 : wc.cell? ⟨gb105, 2, none⟩ = some (.int .u64 a0_2) := (blk_cell BK105.out 2).trans rfl
                      have hcz29_3 : wc.cell? ⟨gb105, 3, none⟩ = some (.int .u8 a0_3) := (blk_cell BK105.out 3).trans rfl
                      have hcz29_4 : wc.cell? ⟨gb105, 4, none⟩ = some (.string a0_4) := (blk_cell BK105.out 4).trans rfl
                      have hcz29_5 : wc.cell? ⟨gb105, 5, none⟩ = some (.string a0_5) := (blk_cell BK105.out 5).trans rfl
                      have hcz29_6 : wc.cell? ⟨gb105, 6, none⟩ = some (.int .i64 a0_6) := (blk_cell BK105.out 6).trans rfl
                      have hcz29_7 : wc.cell? ⟨gb105, 7, none⟩ = some (.int .i64 a0_7) := (blk_cell BK105.out 7).trans rfl
                      have hfz29_0 := blk_frozen BK105.out 0
                      have hfz29_1 := blk_frozen BK105.out 1
                      have hfz29_2 := blk_frozen BK105.out 2
                      have hfz29_3 := blk_frozen BK105.out 3
                      have hfz29_4 := blk_frozen BK105.out 4
                      have hfz29_5 := blk_frozen BK105.out 5
                      have hfz29_6 := blk_frozen BK105.out 6
                      have hfz29_7 := blk_frozen BK105.out 7
                      go_wp2_with (first | ((with_reducible refine gate_callee (f := 53) rfl ?_); refine goesL_ (some 51) rfl rfl Try.func53 (by kernel_rfl) rfl #[.string a0_4] rfl (by (try simp only [List.map_toArray, List.map_cons, List.map_nil]); first | done | rfl | (simp only [List.length_drop, List.length_take]; rfl)) ?_; (with_reducible refine (merkhetref01_Name.calls kj16 a0_4 true _ A26.out).mono ?_); rintro e w' ⟨rfl, ⟨nd, rfl⟩⟩; refine ⟨_, rfl, ?_⟩) | (go_at_call 53; (with_reducible refine (merkhetref01_Name.calls kj16 a0_5 t107 _ A28.out).mono ?_); rintro e w' ⟨rfl, ⟨nd, rfl⟩⟩))
                      go_ret
                      exact ⟨by first | rfl | (simp [errW_none, errW_some] <;> rfl) | (simp [*, errW_none, errW_some] <;> rfl), by repeat (first | (with_reducible first | exact HB.out | apply below_alloc | apply pw_below_drewN | apply below_drew1 | refine below_set ?_ GE105.out) | exact HB.out)⟩
                    · replace c27 := Bool.eq_false_iff.mpr c27
                      subst c27
                      have H1 : (some false) = some r := by rw [if_neg (show ¬ (false = true) by decide)] at H; exact H
                      clear H
                      have H := H1
                      clear H1
                      obtain rfl := Option.some.inj H
                      have hcz30_0 : wc.cell? ⟨gb105, 0, none⟩ = some (.int .u64 a0_0) := (blk_cell BK105.out 0).trans rfl
                      have hcz30_1 : wc.cell? ⟨gb105, 1, none⟩ = some (.int .u64 a0_1) := (blk_cell BK105.out 1).trans rfl
                      have hcz30_2 : wc.cell? ⟨gb105, 2, none⟩ = some (.int .u64 a0_2) := (blk_cell BK105.out 2).trans rfl
                      have hcz30_3 : wc.cell? ⟨gb105, 3, none⟩ = some (.int .u8 a0_3) := (blk_cell BK105.out 3).trans rfl
                      have hcz30_4 : wc.cell? ⟨gb105, 4, none⟩ = some (.string a0_4) := (blk_cell BK105.out 4).trans rfl
                      have hcz30_5 : wc.cell? ⟨gb105, 5, none⟩ = some (.string a0_5) := (blk_cell BK105.out 5).trans rfl
                      have hcz30_6 : wc.cell? ⟨gb105, 6, none⟩ = some (.int .i64 a0_6) := (blk_cell BK105.out 6).trans rfl
                      have hcz30_7 : wc.cell? ⟨gb105, 7, none⟩ = some (.int .i64 a0_7) := (blk_cell BK105.out 7).trans rfl
                      have hfz30_0 := blk_frozen BK105.out 0
                      have hfz30_1 := blk_frozen BK105.out 1
                      have hfz30_2 := blk_frozen BK105.out 2
                      have hfz30_3 := blk_frozen BK105.out 3
                      have hfz30_4 := blk_frozen BK105.out 4
                      have hfz30_5 := blk_frozen BK105.out 5
                      have hfz30_6 := blk_frozen BK105.out 6
                      have hfz30_7 := blk_frozen BK105.out 7
                      go_wp2_with (first | ((with_reducible refine gate_callee (f := 53) rfl ?_); refine goesL_ (some 51) rfl rfl Try.func53 (by kernel_rfl) rfl #[.string a0_4] rfl (by (try simp only [List.map_toArray, List.map_cons, List.map_nil]); first | done | rfl | (simp only [List.length_drop, List.length_take]; rfl)) ?_; (with_reducible refine (merkhetref01_Name.calls kj16 a0_4 false _ A26.out).mono ?_); rintro e w' ⟨rfl, ⟨nd, rfl⟩⟩; refine ⟨_, rfl, ?_⟩))
                      go_ret
                      exact ⟨by first | rfl | (simp [errW_none, errW_some] <;> rfl) | (simp [*, errW_none, errW_some] <;> rfl), by repeat (first | (with_reducible first | exact HB.out | apply below_alloc | apply pw_below_drewN | apply below_drew1 | refine below_set ?_ GE105.out) | exact HB.out)⟩

end Go.Proofs.Ytjgpggjjgimibaa.Q

/- bound.raised, sum, above, Holds. -/
namespace Go.Proofs.Ytjgpggjjgimibaa.L
open Go.RowKit Go.Proofs.Ytjgpggjjgimibaa.Q Go.Proofs.YtjgpggjjgimibaaW.PrintWords Go.Proofs.YtjgpggjjgimibaaW.PrintLast Go.Proofs.YtjgpggjjgimibaaW.PrintMore Go.Proofs.YtjgpggjjgimibaaW.MapB Go.Proofs.YtjgpggjjgimibaaW.Lib
set_option linter.unusedVariables false
set_option linter.unusedSimpArgs false

def inI (n : Int) : Prop := -9223372036854775808 ≤ n ∧ n < 9223372036854775808
instance : DecidablePred inI := fun n => by unfold inI; infer_instance
theorem own1 (w : World) (cs : Array Value) (t : TypeId) (i : Nat) {v : Value} (h : cs[i]? = some v) : (w.alloc (.cells cs t)).drew.cell? ⟨w.heap.size, i, none⟩ = some v := (blk_cell (MapKept.heap_alloc w _).1 i).trans h
end Go.Proofs.Ytjgpggjjgimibaa.L

/- bound.All: the closure, slices.IndexFunc and ContainsFunc over edges. -/
namespace Go.Proofs.Ytjgpggjjgimibaa.L
open Go.RowKit Go.Proofs.Ytjgpggjjgimibaa.Q Go.Proofs.YtjgpggjjgimibaaW.PrintWords Go.Proofs.YtjgpggjjgimibaaW.PrintLast Go.Proofs.YtjgpggjjgimibaaW.PrintMore Go.Proofs.YtjgpggjjgimibaaW.MapB Go.Proofs.YtjgpggjjgimibaaW.Lib
set_option linter.unusedVariables false
set_option linter.unusedSimpArgs false
end Go.Proofs.Ytjgpggjjgimibaa.L

/- relax.May: which edges may be. -/
namespace Go.Proofs.Ytjgpggjjgimibaa.L
open Go.RowKit Go.Proofs.Ytjgpggjjgimibaa.Q Go.Proofs.YtjgpggjjgimibaaW.PrintWords Go.Proofs.YtjgpggjjgimibaaW.PrintLast Go.Proofs.YtjgpggjjgimibaaW.PrintMore Go.Proofs.YtjgpggjjgimibaaW.MapB Go.Proofs.YtjgpggjjgimibaaW.Lib
set_option linter.unusedVariables false
set_option linter.unusedSimpArgs false
/-- What is no edge of n hosts. -/
def badE (n : Int) (e : S37) : Bool := decide (min e.f0 e.f1 < 0) || (decide (n ≤ max e.f0 e.f1) || (decide (4503599627370496 < e.f2) || decide (e.f2 < -4503599627370496)))
theorem keep1r {w : World} {a : Addr} {v : Value} {o1 : Obj} (h : w.cell? a = some v) : (w.alloc o1).cell? a = some v :=
  ((below_alloc (Below.refl w.heap.size w) o1).cell (World.block_lt_of_cell? w _ h)).trans h
set_option maxRecDepth 100000 in
set_option maxHeartbeats 2000000 in
theorem bad_calls (n : Int) (B : Nat) (e : S37) (w : World) (hc : w.cell? ⟨B, 0, none⟩ = some (.int .i64 n)) : Calls Try.prog 93 #[.agg #[.int .i64 e.f0, .int .i64 e.f1, .int .i64 e.f2, .int .i64 e.f3.f0, .int .i64 e.f3.f1, .bool e.f4], .pointer (some ⟨B, 0, none⟩)] w fun r w' => r = .returned (.bool (badE n e)) ∧ Below w.heap.size w w' := by
  have HB := Aside0.mk (Below.refl w.heap.size w)
  have hk := fun o => keep1r (o1 := o) hc
  clear hc
  unfold badE
  cases c1 : decide (min e.f0 e.f1 < 0) with
  | true =>
    go_enter Try.func93, Try.ntmps93
    go_wp2_with fail
    go_ret
    exact ⟨rfl, below_alloc HB.out _⟩
  | false =>
  cases c2 : decide (n ≤ max e.f0 e.f1) with
  | true =>
    go_enter Try.func93, Try.ntmps93
    go_wp2_with fail
    go_ret
    exact ⟨rfl, below_alloc HB.out _⟩
  | false =>
  cases c3 : decide (4503599627370496 < e.f2) with
  | true =>
    go_enter Try.func93, Try.ntmps93
    go_wp2_with fail
    go_ret
    exact ⟨rfl, below_alloc HB.out _⟩
  | false =>
  cases c4 : decide (e.f2 < -4503599627370496) with
  | true =>
    go_enter Try.func93, Try.ntmps93
    go_wp2_with fail
    go_ret
    exact ⟨rfl, below_alloc HB.out _⟩
  | false =>
    go_enter Try.func93, Try.ntmps93
    go_wp2_with fail
    go_ret
    exact ⟨rfl, below_alloc HB.out _⟩
set_option maxHeartbeats 4000000 in
set_option maxRecDepth 100000 in
theorem edgemay_index (n : Int) (B : Nat) (es : List S37) (hn : es.length ≤ 1000000000) (A0 : Option Addr) (c0 : Nat) (w : World) (hr0 : Kd.C k37 w A0 es.length es)
    (QL0 : ∀ e ∈ es, ∀ W, Below w.heap.size w W → Calls Try.prog 93 #[.agg #[.int .i64 e.f0, .int .i64 e.f1, .int .i64 e.f2, .int .i64 e.f3.f0, .int .i64 e.f3.f1, .bool e.f4], .pointer (some ⟨B, 0, none⟩)] W fun r w' => r = .returned (.bool ((badE n) e)) ∧ Below W.heap.size W w') :
    Calls Try.prog 59 #[.slice A0 es.length c0, .func (.func 93) #[] #[.pointer (some ⟨B, 0, none⟩)]] w fun r w' => ∃ i : Int, r = .returned (.int .i64 i) ∧ decide (0 ≤ i) = es.any (badE n) ∧ Below w.heap.size w w' := by
  have HB0 := Aside0.mk (Below.refl w.heap.size w)
  have HR0 := Aside0.mk hr0
  have HN := Aside0.mk hn
  have QL := Aside0.mk QL0
  clear hr0 hn QL0
  generalize hpp : (badE n) = pp at *
  clear hpp
  go_enter Try.func59, Try.ntmps59
  go_wp2_with fail
  go_loopg [8] es.length (fun kq v8 w' => ∃ x8 : Int, v8 = .int .i64 x8 ∧ Aside0 (0 ≤ x8 ∧ x8 + kq = es.length) ∧ Aside0 (∀ e ∈ es.take x8.toNat, pp e = false) ∧ Aside0 (Below w.heap.size w w'))
  case atStart => exact ⟨0, rfl, ⟨by omega, by omega⟩, ⟨by simp⟩, HB0⟩
  case round =>
    obtain ⟨x8, rfl, HK, HA, HB⟩ := hrel
    by_cases c1 : x8 < (es.length : Int)
    · have c1b := decide_eq_true c1
      have p1 : 0 ≤ x8 := HK.out.1
      obtain ⟨ad, e1, hx0, hx1, hx2, hx3, hx4, hx5⟩ := at_T37 HR0.out x8 p1 c1
      cases e1
      replace hx0 := (HB.out.cell (World.block_lt_of_cell? w _ hx0)).trans hx0
      replace hx1 := (HB.out.cell (World.block_lt_of_cell? w _ hx1)).trans hx1
      replace hx2 := (HB.out.cell (World.block_lt_of_cell? w _ hx2)).trans hx2
      replace hx3 := (HB.out.cell (World.block_lt_of_cell? w _ hx3)).trans hx3
      replace hx4 := (HB.out.cell (World.block_lt_of_cell? w _ hx4)).trans hx4
      replace hx5 := (HB.out.cell (World.block_lt_of_cell? w _ hx5)).trans hx5
      have hit : x8.toNat < es.length := by omega
      have hev : rd_T37 es x8 = es[x8.toNat] := by simp [rd_T37, List.getD, hit]
      have hem : rd_T37 es x8 ∈ es := by rw [hev]; exact List.getElem_mem _
      have HE := Aside0.mk (show es.take (x8 + 1).toNat = es.take x8.toNat ++ [rd_T37 es x8] from by
        rw [show (x8 + 1).toNat = x8.toNat + 1 by omega, List.take_succ_eq_append_getElem hit, hev])
      have QE := Aside0.mk (QL.out _ hem wr HB.out)
      have HM := Aside0.mk hem
      have P1 := Aside0.mk p1
      have Q1 := Aside0.mk c1
      have W1 := Aside0.mk (show wrap64 (x8 + 1) = x8 + 1 from by unfold wrap64; have := HN.out; have := P1.out; have := Q1.out; omega)
      clear hev hem hit
      generalize rd_T37 es x8 = e at *
      replace p1 := eq_true p1
      replace c1 := eq_true c1
      obtain ⟨k1, rfl⟩ : ∃ k1, gk = k1 + 1 := ⟨gk - 1, by have := HK.out; have := Q1.out; omega⟩
      cases hq : pp e with
      | false =>
        rw [hq] at QE
        have HQ := Aside0.mk hq
        clear hq
        go_wp2_with (go_at_call 93; refine QE.out.mono ?_; rintro r w1 ⟨rfl, hb⟩; have HB1 := Aside0.mk (below_step HB.out hb); clear hb)
        go_roundg k1
        case measure => omega
        case rel => exact ⟨x8 + 1, by rw [W1.out], ⟨by have := P1.out; omega, by have := HK.out; omega⟩, ⟨by
          rw [HE.out]
          intro y hy
          rcases List.mem_append.1 hy with h | h
          · exact HA.out y h
          · rw [List.mem_singleton.1 h]; exact HQ.out⟩, HB1⟩
      | true =>
        rw [hq] at QE
        have HQ := Aside0.mk hq
        clear hq
        go_wp2_with (go_at_call 93; refine QE.out.mono ?_; rintro r w1 ⟨rfl, hb⟩; have HB1 := Aside0.mk (below_step HB.out hb); clear hb)
        go_ret
        refine ⟨x8, rfl, ?_, HB1.out⟩
        rw [decide_eq_true P1.out]
        exact (List.any_eq_true.2 ⟨e, HM.out, HQ.out⟩).symm
    · have c1b := decide_eq_false c1
      have hx : x8.toNat = es.length := by have := HK.out; omega
      have ha := HA.out
      rw [hx, List.take_length] at ha
      have HAll := Aside0.mk ha
      clear ha hx c1
      go_wp2_with fail
      go_ret
      refine ⟨-1, rfl, ?_, HB.out⟩
      exact (List.any_eq_false.2 (fun e he => by rw [HAll.out e he]; simp)).symm
set_option maxHeartbeats 2000000 in
set_option maxRecDepth 100000 in
theorem edgemay_contains (n : Int) (B : Nat) (es : List S37) (hn : es.length ≤ 1000000000) (A0 : Option Addr) (c0 : Nat) (w : World) (hr0 : Kd.C k37 w A0 es.length es)
    (QL0 : ∀ e ∈ es, ∀ W, Below w.heap.size w W → Calls Try.prog 93 #[.agg #[.int .i64 e.f0, .int .i64 e.f1, .int .i64 e.f2, .int .i64 e.f3.f0, .int .i64 e.f3.f1, .bool e.f4], .pointer (some ⟨B, 0, none⟩)] W fun r w' => r = .returned (.bool ((badE n) e)) ∧ Below W.heap.size W w') :
    Calls Try.prog 39 #[.slice A0 es.length c0, .func (.func 93) #[] #[.pointer (some ⟨B, 0, none⟩)]] w fun r w' => r = .returned (.bool (es.any (badE n))) ∧ Below w.heap.size w w' := by
  have HB0 := Aside0.mk (Below.refl w.heap.size w)
  have QI := Aside0.mk (edgemay_index n B es hn A0 c0 w hr0 QL0)
  clear hn hr0 QL0
  go_enter Try.func39, Try.ntmps39
  go_wp2_with (go_at_call 59; refine QI.out.mono ?_; rintro r w1 ⟨i, rfl, hd, hb⟩; have HD := Aside0.mk hd; have HB2 := Aside0.mk hb; clear hb hd)
  go_ret
  refine ⟨?_, HB2.out⟩
  rw [← HD.out]
  rfl
/-- Which edges may be. -/
def rmayB (n : Int) (es : List S37) : Bool := if 0 ≤ n ∧ n ≤ 32 then !es.any (badE n) else false
set_option maxRecDepth 100000 in
set_option maxHeartbeats 2000000 in
theorem rmayE_calls (n : Int) (es : List S37) (hn : es.length ≤ 1000000000) (A0 : Option Addr) (c0 : Nat) (w : World) (hr0 : Kd.C k37 w A0 es.length es) :
    Calls Try.prog 75 #[.int .i64 n, .slice A0 es.length c0] w fun r w' => r = .returned (.bool (rmayB n es)) ∧ Below w.heap.size w w' := by
  have hmf : ∀ (fn : Fn) (first cap : Array Value) (w : World), (Instr.makeFunc fn first cap).run Try.prog w = .ok (.func fn first cap) w := fun _ _ _ _ => rfl
  have HB := Aside0.mk (Below.refl w.heap.size w)
  have hb1 := below_alloc HB.out (.cells #[.int .i64 n] 3)
  have hcell : (w.alloc (.cells #[.int .i64 n] 3)).cell? ⟨w.heap.size, 0, none⟩ = some (.int .i64 n) := (blk_cell (MapKept.heap_alloc w _).1 0).trans rfl
  have QC := Aside0.mk (edgemay_contains n w.heap.size es hn A0 c0 _ (Kd.C_below hr0 hb1) (fun e he W hb => bad_calls n w.heap.size e W ((hb.cell (World.block_lt_of_cell? _ _ hcell)).trans hcell)))
  have HB1 := Aside0.mk hb1
  clear hb1 hcell hn hr0
  by_cases h0 : n < 0
  · have hv : rmayB n es = false := by unfold rmayB; rw [if_neg (by omega)]
    rw [hv]
    have b0 := decide_eq_true h0
    clear h0 hv
    go_enter Try.func75, Try.ntmps75
    go_wp2_with fail
    go_ret
    exact ⟨rfl, below_alloc HB.out _⟩
  by_cases h1 : 32 < n
  · have hv : rmayB n es = false := by unfold rmayB; rw [if_neg (by omega)]
    rw [hv]
    have b0 := decide_eq_false h0
    have b1 := decide_eq_true h1
    clear h0 h1 hv
    go_enter Try.func75, Try.ntmps75
    go_wp2_with fail
    go_ret
    exact ⟨rfl, below_alloc HB.out _⟩
  have hv : rmayB n es = !es.any (badE n) := by unfold rmayB; rw [if_pos ⟨by omega, by omega⟩]
  rw [hv]
  have b0 := decide_eq_false h0
  have b1 := decide_eq_false h1
  clear h0 h1 hv
  generalize es.any (badE n) = r at *
  go_enter Try.func75, Try.ntmps75
  go_wp2_with (go_at_call 39; refine QC.out.mono ?_; rintro e w1 ⟨rfl, hb⟩; have HB2 := Aside0.mk (below_step HB1.out hb); clear hb)
  go_ret
  exact ⟨rfl, HB2.out⟩
end Go.Proofs.Ytjgpggjjgimibaa.L

-- Written by wip/tools/gp.py, a program of this session round the kit's printer. Lean checks it.
namespace Go.Proofs.Ytjgpggjjgimibaa.B
open Go.RowKit Go.Proofs.Ytjgpggjjgimibaa.Q Go.Proofs.YtjgpggjjgimibaaW.PrintWords Go.Proofs.YtjgpggjjgimibaaW.PrintLast Go.Proofs.YtjgpggjjgimibaaW.PrintMore
attribute [local go_sem] max2_int min2_int max_two min_two max_three min_three max_four min_four   -- for this text's walks alone
set_option linter.unusedVariables false
set_option linter.unusedSimpArgs false




-- the values' own types

end Go.Proofs.Ytjgpggjjgimibaa.B

-- Written by wip/tools/gp.py, a program of this session round the kit's printer. Lean checks it.
namespace Go.Proofs.Ytjgpggjjgimibaa.B
open Go.RowKit Go.Proofs.Ytjgpggjjgimibaa.Q Go.Proofs.YtjgpggjjgimibaaW.PrintWords Go.Proofs.YtjgpggjjgimibaaW.PrintLast Go.Proofs.YtjgpggjjgimibaaW.PrintMore
attribute [local go_sem] max2_int min2_int max_two min_two max_three min_three max_four min_four   -- for this text's walks alone
set_option linter.unusedVariables false
set_option linter.unusedSimpArgs false
/-! ### bits_Mul64: function 106 -/
def bits_Mul64.f (a0 : Int) (a1 : Int) : Option (Int × Int) := some (IntKind.u64.wrap ((IntKind.u64.wrap ((IntKind.u64.wrap ((a0 / 4294967296) * (a1 / 4294967296))) + ((IntKind.u64.wrap ((IntKind.u64.wrap ((a0 / 4294967296) * (Go.bits .and .u64 a1 4294967295))) + ((IntKind.u64.wrap ((Go.bits .and .u64 a0 4294967295) * (Go.bits .and .u64 a1 4294967295))) / 4294967296))) / 4294967296))) + ((IntKind.u64.wrap ((Go.bits .and .u64 (IntKind.u64.wrap ((IntKind.u64.wrap ((a0 / 4294967296) * (Go.bits .and .u64 a1 4294967295))) + ((IntKind.u64.wrap ((Go.bits .and .u64 a0 4294967295) * (Go.bits .and .u64 a1 4294967295))) / 4294967296))) 4294967295) + (IntKind.u64.wrap ((Go.bits .and .u64 a0 4294967295) * (a1 / 4294967296))))) / 4294967296)), IntKind.u64.wrap (a0 * a1))
set_option maxHeartbeats 8000000 in
set_option maxRecDepth 100000 in
theorem bits_Mul64.calls (a0 : Int) (a1 : Int) (r1 : Int) (r2 : Int) (w : World) (h : bits_Mul64.f a0 a1 = some (r1, r2)) :
    Calls Try.prog 106 #[.int .u64 a0, .int .u64 a1] w fun e w' => e = .returned (.tuple #[.int .u64 r1, .int .u64 r2]) ∧ Drawn0 w w' := by
  have H : (some (IntKind.u64.wrap ((IntKind.u64.wrap ((IntKind.u64.wrap ((a0 / 4294967296) * (a1 / 4294967296))) + ((IntKind.u64.wrap ((IntKind.u64.wrap ((a0 / 4294967296) * (Go.bits .and .u64 a1 4294967295))) + ((IntKind.u64.wrap ((Go.bits .and .u64 a0 4294967295) * (Go.bits .and .u64 a1 4294967295))) / 4294967296))) / 4294967296))) + ((IntKind.u64.wrap ((Go.bits .and .u64 (IntKind.u64.wrap ((IntKind.u64.wrap ((a0 / 4294967296) * (Go.bits .and .u64 a1 4294967295))) + ((IntKind.u64.wrap ((Go.bits .and .u64 a0 4294967295) * (Go.bits .and .u64 a1 4294967295))) / 4294967296))) 4294967295) + (IntKind.u64.wrap ((Go.bits .and .u64 a0 4294967295) * (a1 / 4294967296))))) / 4294967296)), IntKind.u64.wrap (a0 * a1))) = some (r1, r2) := h
  clear h
  simp only [Option.some.injEq, Prod.mk.injEq] at H
  obtain ⟨rfl, rfl⟩ := H
  go_enter Try.func106, Try.ntmps106
  go_wp2
  go_ret2
  exact ⟨by first | rfl | (simp; done) | (simp [*]; done), by repeat (first | exact Drawn0.refl _ | apply Drawn0.step)⟩

/-! ### bits_Mul: function 103 -/
def bits_Mul.f (a0 : Int) (a1 : Int) : Option (Int × Int) := (bits_Mul64.f a0 a1).bind fun bt101 => (some (bt101.1, bt101.2))
set_option maxHeartbeats 8000000 in
set_option maxRecDepth 100000 in
theorem bits_Mul.calls (a0 : Int) (a1 : Int) (r1 : Int) (r2 : Int) (w : World) (h : bits_Mul.f a0 a1 = some (r1, r2)) :
    Calls Try.prog 103 #[.int .u64 a0, .int .u64 a1] w fun e w' => e = .returned (.tuple #[.int .u64 r1, .int .u64 r2]) ∧ Drawn0 w w' := by
  have H : ((bits_Mul64.f a0 a1).bind fun bt101 => (some (bt101.1, bt101.2))) = some (r1, r2) := h
  clear h
  replace H := Option.bind_eq_some_iff.mp H
  obtain ⟨⟨t101, t102⟩, A30, H⟩ := H
  replace H : (some (t101, t102)) = some (r1, r2) := H
  have A3 := Aside0.mk A30
  clear A30
  simp only [Option.some.injEq, Prod.mk.injEq] at H
  obtain ⟨rfl, rfl⟩ := H
  go_enter Try.func103, Try.ntmps103
  go_wp2_with (first | ((with_reducible refine gate_callee (f := 106) rfl ?_); refine goesL_ (some 25) rfl rfl Try.func106 (by kernel_rfl) rfl #[.int .u64 a0, .int .u64 a1] rfl (by (try simp only [List.map_toArray, List.map_cons, List.map_nil]); first | done | rfl | (simp only [List.length_drop, List.length_take]; rfl)) ?_; (with_reducible refine (bits_Mul64.calls a0 a1 t101 t102 _ A3.out).mono ?_); rintro e w' ⟨rfl, ⟨nd, rfl⟩⟩; refine ⟨_, rfl, ?_⟩))
  go_ret2
  exact ⟨by first | rfl | (simp; done) | (simp [*]; done), by repeat (first | exact Drawn0.refl _ | apply Drawn0.step)⟩

end Go.Proofs.Ytjgpggjjgimibaa.B

/- slices.Clone, slices.Repeat, relax.row. -/
namespace Go.Proofs.Ytjgpggjjgimibaa.L
open Go.RowKit Go.Proofs.Ytjgpggjjgimibaa.Q Go.Proofs.YtjgpggjjgimibaaW.PrintWords Go.Proofs.YtjgpggjjgimibaaW.PrintLast Go.Proofs.YtjgpggjjgimibaaW.PrintMore Go.Proofs.YtjgpggjjgimibaaW.MapB Go.Proofs.YtjgpggjjgimibaaW.Lib
set_option linter.unusedVariables false
set_option linter.unusedSimpArgs false
set_option maxHeartbeats 1000000 in
theorem clone64_calls (l : List Int) (hl : l.length ≤ 17592186044416) (A : Option Addr) (c : Nat) (w : World) (hr : Kd.C (Kd.int .i64) w A l.length l) (hc : l.length ≤ c) :
    Calls Try.prog 96 #[.slice A l.length c] w fun e w' => ∃ v : Value, e = .returned v ∧ Kd.R (Kd.int .i64) 2 w' w.heap.size (fun _ => True) v l ∧ Below w.heap.size w w' := by
  have q : ∀ (w : World) (a : Option Addr) (n c n' c' : Nat), (binOp .eql 33 (.slice a n c) (.slice none n' c')).run Try.prog w = .ok (.bool a.isNone) w := fun w a n c n' c' => Go.Lib.run_eql_slice_nil w _ _ a n c n' c' Try.underlying33
  cases A with
  | none =>
    have h0 : l = [] := by
      cases l with
      | nil => rfl
      | cons x l => obtain ⟨ad, h, _⟩ := hr.2.2 (by simp); exact absurd h (by simp)
    subst h0
    go_enter Try.func96, Try.ntmps96
    go_wp2
    go_ret
    exact ⟨_, rfl, Kd.R_nil _ _ _ _ _, Below.refl _ _⟩
  | some ad =>
    have HR0 := Aside0.mk hr
    clear hr
    have HL := Aside0.mk hl
    clear hl
    go_enter Try.func96, Try.ntmps96
    go_wp2_with (first
      | ((with_reducible refine gate_dst (N := 5) rfl ?_); refine Kd.R_lit (Kd.int .i64) _ 2 ?hg (N := 5) ?hd (xs := ([] : List Int)) (inner := []) (ok := fun _ => True) (okp := fun _ => True) ?hr ?hp (fun _ hk => hk) trivial (Below.refl _ _) (Nat.le_refl _) (by simp) ?_; (case hd => rfl); (case hg => rfl); (case hr => first | (go_simp; done) | (go_simp; rfl)); (case hp => exact (Reps.none _ _)); intro v1 w1 ho hb hg_ hnew_; clear hg_ hnew_; have HO := Aside0.mk ho; have HB := Aside0.mk hb; clear ho hb)
      | ((with_reducible refine gate_builtin (b := .append) (xs := #[.tmp 5, .tmp 6]) rfl ?_); at_builtin; refine Kd.R_append_rows (Kd.int .i64) (w0 := w) w.heap.size rfl (.tmp 5) (.tmp 6) 33 2 (.int .i64 0) 8 rfl Try.underlying33 (by kernel_rfl) rfl (by decide) (by omega) v1 [] l _ _ _ (fun _ => True) (fun _ => False) rfl rfl ?aO ?aR (fun _ _ h => h) (fun _ h => h.elim) ?aF ?aB ?aS ?aL ?_; (case aR => exact (Kd.C_below HR0.out HB.out)); (case aB => exact HB.out); (case aF => exact (fun _ _ => trivial)); (case aO => exact HO.out); (case aS => exact HB.out.size); (case aL => have := HL.out; simp only [List.length_nil]; omega); intro v2 w2 ho hb hg hat; rw [List.nil_append] at ho; have HB2 := Aside0.mk hb; have HO2 := Aside0.mk ho; clear ho hb hg hat))
    go_ret
    exact ⟨_, rfl, HO2.out, HB2.out⟩
theorem heap_made (W : World) (z : Value) (n : Nat) (e : TypeId) : (W.alloc (.cells (madeCells #[z] n) e)).heap[W.heap.size]? = some (.cells (List.replicate n z).toArray e (0, 0)) := by
  have h := (MapKept.heap_alloc W (.cells (madeCells #[z] n) e)).1
  have e1 : madeCells #[z] n = (List.replicate n z).toArray := by
    apply Array.ext
    · simp [madeCells]
    · intro i h1 h2
      simp [madeCells, Nat.mod_one]
  exact h.trans (by rw [e1])
theorem rep_cells {w : World} (v : Value) (m : Nat) (ad : Addr) (u : World) (hm : m ≤ 1) (h : u.cell? ad = some v) : ∀ (j : Nat) (x : Value), (List.replicate m v)[j]? = some x → u.cell? (ad.add j) = some x := by
  intro j x hx
  have hj : j < m := by
    rcases Nat.lt_or_ge j m with h | h
    · exact h
    · rw [List.getElem?_eq_none (by rw [List.length_replicate]; exact h)] at hx; cases hx
  obtain rfl : j = 0 := by omega
  rw [List.getElem?_replicate, if_pos hj] at hx
  cases hx
  rw [Addr.add_zero']
  exact h
theorem rep_src {w : World} {g m k : Nat} {x : Value} {zs : List Value} {e : TypeId} (h : w.heap[g]? = some (.cells (List.replicate m x ++ zs).toArray e (0, 0))) (hk : k ≤ m) : ∀ (j : Nat) (v : Value), (List.replicate k x)[j]? = some v → w.drew.cell? ((⟨g, 0, none⟩ : Addr).add j) = some v := by
  intro j v hv
  have hj : j < k := by
    rcases Nat.lt_or_ge j k with h | h
    · exact h
    · rw [List.getElem?_eq_none (by rw [List.length_replicate]; exact h)] at hv; cases hv
  rw [List.getElem?_replicate, if_pos hj] at hv
  cases hv
  have h2 := blk_cell h j
  have e1 : ((⟨g, 0, none⟩ : Addr).add j) = ⟨g, j, none⟩ := by rw [Addr.add_lit, Nat.zero_add]
  rw [e1]
  refine Eq.trans (show w.drew.cell? ⟨g, j, none⟩ = w.cell? ⟨g, j, none⟩ from rfl) (h2.trans ?_)
  simp [List.getElem?_append_left, List.length_replicate, show j < m by omega]
theorem own_rep {w : World} {g n base : Nat} {v : Value} {e : TypeId} (hg : w.heap[g]? = some (.cells (List.replicate n v).toArray e (0, 0))) (hb : base ≤ g) (hn : n ≤ 1000000) : w.ownsRow base e 1 (.slice (some ⟨g, 0, none⟩) n n) n (List.replicate n v) := by
  have hm : n ≤ Go.maxLen := Nat.le_trans hn (by decide)
  exact ⟨by rw [List.length_replicate, Nat.mul_one], .inr ⟨g, n, _, rfl, hb, hg, Nat.le_refl _, hm, by simp, by simp⟩⟩
theorem splice_rep0 (n k : Nat) (x z : Value) (h : k ≤ n) : Go.splice (List.replicate n z) 0 (List.replicate k x) = List.replicate k x ++ List.replicate (n - k) z := by
  unfold Go.splice
  rw [List.take_zero, List.nil_append, List.length_replicate, List.drop_replicate, Nat.zero_add]
theorem splice_rep (n m k : Nat) (x z : Value) (h : m + k ≤ n) : Go.splice (List.replicate m x ++ List.replicate (n - m) z) m (List.replicate k x) = List.replicate (m + k) x ++ List.replicate (n - (m + k)) z := by
  unfold Go.splice
  rw [List.length_replicate, List.take_append_of_le_length (by rw [List.length_replicate]; omega), List.take_replicate, Nat.min_self, List.drop_append, List.length_replicate, List.drop_of_length_le (l := List.replicate m x) (by rw [List.length_replicate]; omega), List.nil_append, List.drop_replicate, ← List.append_assoc, List.replicate_append_replicate]
  congr 2
  omega
theorem mul1_f (n : Nat) (h : n < 4294967296) : B.bits_Mul.f 1 (n : Int) = some (0, (n : Int)) := by
  have e1 : Go.bits .and .u64 1 4294967295 = 1 := by decide +kernel
  have e2 : Go.bits .and .u64 (n : Int) 4294967295 = (n : Int) := by
    rw [show (4294967295 : Int) = ((4294967295 : Nat) : Int) from rfl, bits_and_u64_nat n 4294967295 (by omega) (by decide)]
    rw [show 4294967295 = 2 ^ 32 - 1 by decide, Nat.and_two_pow_sub_one_eq_mod, Nat.mod_eq_of_lt (by omega)]
  have e0 : Go.bits .and .u64 0 4294967295 = 0 := by decide +kernel
  have e3 : (n : Int) / 4294967296 = 0 := by omega
  have e4 : (1 : Int) / 4294967296 = 0 := by decide
  have w0 : IntKind.u64.wrap 0 = 0 := by decide
  have wn : IntKind.u64.wrap (n : Int) = (n : Int) := by simp [IntKind.wrap, IntKind.signed, IntKind.bits]; omega
  unfold B.bits_Mul.f B.bits_Mul64.f
  simp only [e1, e2, e3, e4, Int.zero_mul, Int.mul_zero, Int.one_mul, w0, wn, Int.zero_add, Int.add_zero, e0, Option.bind_some, Int.zero_ediv]
theorem mul1_calls (n : Nat) (h : n < 4294967296) (w : World) : Calls Try.prog 103 #[.int .u64 1, .int .u64 (n : Int)] w fun e w' => e = .returned (.tuple #[.int .u64 0, .int .u64 (n : Int)]) ∧ Below w.heap.size w w' := by
  refine (B.bits_Mul.calls 1 n 0 n w (mul1_f n h)).mono ?_
  rintro e w' ⟨rfl, hd⟩
  exact ⟨rfl, hd.below⟩
set_option maxHeartbeats 4000000 in
set_option maxRecDepth 100000 in
theorem rep64_calls (x : Int) (n : Nat) (hn : n ≤ 1000000) (A0 : Option Addr) (c0 : Nat) (w : World) (hr0 : Kd.C (Kd.int .i64) w A0 1 [x]) :
    Calls Try.prog 94 #[.slice A0 1 c0, .int .i64 (n : Int)] w fun e w' => ∃ v : Value, e = .returned v ∧ Kd.R (Kd.int .i64) 2 w' w.heap.size (fun _ => True) v (List.replicate n x) ∧ Below w.heap.size w w' := by
  have HB := Aside0.mk (Below.refl w.heap.size w)
  obtain ⟨ad, e1, hx⟩ := Kd.at_int hr0 0 (by decide) (by decide)
  cases e1
  have hx0 : rd [x] 0 = x := rfl
  rw [hx0, show ad.add (Int.toNat 0) = ad from Addr.add_zero' _] at hx
  have HX := Aside0.mk hx
  have QM := Aside0.mk (fun W => mul1_calls n (by omega) W)
  have hmk := print_make 33 2 .i64 8 Try.underlying33 (by kernel_rfl) (by omega) n (by omega)
  have hn0 : decide ((n : Int) < 0) = false := decide_eq_false (by omega)
  have hnm : decide ((9223372036854775807 : Int) < (n : Int)) = false := decide_eq_false (by omega)
  have huw : IntKind.u64.wrap (n : Int) = (n : Int) := by simp [IntKind.wrap, IntKind.signed, IntKind.bits]; omega
  have hsw : IntKind.i64.wrap (n : Int) = (n : Int) := (i64_w _).trans (wrap_id (by omega) (by omega))
  have HN := Aside0.mk hn
  clear hr0 hn hx hx0
  go_enter Try.func94, Try.ntmps94
  go_wp2_with (first
    | (go_at_call 103; (with_reducible refine (QM.out _).mono ?_); rintro e w1 ⟨rfl, hb⟩; have HB1 := Aside0.mk hb; clear hb)
    | ((with_reducible refine gate_builtin (b := .copy) (xs := #[.tmp 31, .tmp 32]) rfl ?_); go_loud (refine wpList_copy_splice rfl (.tmp 31) (.tmp 32) 33 33 rfl 2 Try.underlying33 (by kernel_rfl) (some ⟨w1.heap.size, 0, none⟩) (some ad) n n 1 c0 rfl rfl w1.heap.size 0 (List.replicate n (.int .i64 0)) 2 ?cg (List.replicate (min 1 n) (.int .i64 x)) ?cn ?cp ?cf ?c1 w.heap.size w ?cb ?cB ?_; (case cg => exact heap_made w1 _ n _); (case cn => exact List.length_replicate); (case cp => intro hp; exact ⟨rfl, ad, rfl, rep_cells (w := w) _ (min 1 n) ad _ (by omega) (((below_alloc HB1.out _).cell (World.block_lt_of_cell? w _ HX.out)).trans HX.out)⟩); (case cf => rw [List.length_replicate, List.length_replicate]; omega); (case c1 => intro v hv; rw [List.eq_of_mem_replicate hv] <;> rfl); (case cb => exact below_alloc HB1.out _); (case cB => exact HB1.out.size); intro w2 hg hb; have HG2 := Aside0.mk (show w2.heap[w1.heap.size]? = _ from splice_rep0 n (min 1 n) (.int .i64 x) (.int .i64 0) (by omega) ▸ hg.out); have HB2 := Aside0.mk hb; clear hg hb)))
  generalize hgg : w1.heap.size = g at *
  have HGb := Aside0.mk (show w.heap.size ≤ g from hgg ▸ HB1.out.size)
  clear hgg
  go_loopg [8] n (fun kq v8 w' => ∃ m : Nat, v8 = .int .i64 (m : Int) ∧ Aside0 (m ≤ n ∧ n ≤ m + kq ∧ (0 < n → 0 < m)) ∧ Aside0 (w'.heap[g]? = some (.cells (List.replicate m (Value.int .i64 x) ++ List.replicate (n - m) (Value.int .i64 0)).toArray 2 (0, 0))) ∧ Aside0 (Below w.heap.size w w'))
  case atStart => exact ⟨min 1 n, rfl, ⟨by omega, by omega, by omega⟩, ⟨by exact HG2.out⟩, HB2⟩
  case round =>
    obtain ⟨m, rfl, HK, HG, HB⟩ := hrel
    by_cases c1 : m < n
    · have c1b : decide ((m : Int) < (n : Int)) = true := decide_eq_true (by omega)
      have c1c : decide (m < n) = true := decide_eq_true c1
      have hm0 : (0 : Int) ≤ (m : Int) := by omega
      have hmn : (m : Int) ≤ (n : Int) := by omega
      obtain ⟨k1, rfl⟩ : ∃ k1, gk = k1 + 1 := ⟨gk - 1, by have := HK.out; omega⟩
      have hne : (n = m) = False := eq_false (by omega)
      have HC1 := Aside0.mk c1
      clear c1
      go_wp2_with fail
      go_region_law ((refine step_copy_splice rfl (.tmp 41) (.tmp 44) 33 33 rfl 2 Try.underlying33 (by kernel_rfl) (some ⟨g, m, none⟩) (some ⟨g, 0, none⟩) (n - m) (n - m) m n ?hd ?hs g m (List.replicate m (Value.int .i64 x) ++ List.replicate (n - m) (Value.int .i64 0)) 2 ?cg (List.replicate (min m (n - m)) (Value.int .i64 x)) ?cn ?cp ?cf ?c1 w.heap.size w ?cb ?cB ?_; (case hd => first | (go_simp; done) | (go_simp; rfl)); (case hs => first | (go_simp; done) | (go_simp; rfl)); (case cg => exact HG.out); (case cn => exact List.length_replicate); (case cp => intro hp; exact ⟨rfl, _, rfl, rep_src HG.out (by omega)⟩); (case cf => rw [List.length_append, List.length_replicate, List.length_replicate, List.length_replicate]; have := HC1.out; omega); (case c1 => intro v hv; rw [List.eq_of_mem_replicate hv] <;> rfl); (case cb => exact below_drew HB.out); (case cB => exact HGb.out); intro w3 hg hb; have HG3 := Aside0.mk (show w3.heap[g]? = _ from splice_rep n m (min m (n - m)) (.int .i64 x) (.int .i64 0) (by have := HC1.out; omega) ▸ hg.out); have HB3 := Aside0.mk hb; clear hg hb))
      have HM := Aside0.mk (show wrap64 ((m : Int) + (min m (n - m) : Nat)) = ((m + min m (n - m) : Nat) : Int) from by unfold wrap64; have := HN.out; have := HC1.out; omega)
      go_wp2_with fail
      go_roundg k1
      case measure => omega
      case rel => exact ⟨m + min m (n - m), congrArg (Value.int .i64) ((i64_w _).trans HM.out), ⟨by have := HK.out; have := HC1.out; omega, by have := HK.out; have := HC1.out; omega, by have := HK.out; have := HC1.out; omega⟩, HG3, HB3⟩
    · have c1b : decide ((m : Int) < (n : Int)) = false := decide_eq_false (by omega)
      have c1c : decide (m < n) = false := decide_eq_false c1
      have hmn : m = n := by have := HK.out; omega
      have HMN := Aside0.mk hmn
      clear c1 hmn
      go_wp2_with fail
      go_ret
      refine ⟨_, rfl, Kd.R_of_own ?_ (fun _ _ => trivial), HB.out⟩
      have hg := HG.out
      rw [HMN.out, Nat.sub_self, List.replicate_zero, List.append_nil] at hg
      have ho := own_rep (base := w.heap.size) hg HGb.out HN.out
      have he : encs (Value.int .i64) (List.replicate n x) = List.replicate n (Value.int .i64 x) := by simp [encs]
      rw [he, List.length_replicate]
      exact ho
set_option maxHeartbeats 4000000 in
set_option maxRecDepth 100000 in
theorem repI_calls (x : Int) (n : Nat) (hn : n ≤ 1000000) (A0 : Option Addr) (c0 : Nat) (w : World) (hr0 : Kd.C (Kd.int .i64) w A0 1 [x]) :
    Calls Try.prog 95 #[.slice A0 1 c0, .int .i64 (n : Int)] w fun e w' => ∃ v : Value, e = .returned v ∧ Kd.R (Kd.int .i64) 3 w' w.heap.size (fun _ => True) v (List.replicate n x) ∧ Below w.heap.size w w' := by
  have HB := Aside0.mk (Below.refl w.heap.size w)
  obtain ⟨ad, e1, hx⟩ := Kd.at_int hr0 0 (by decide) (by decide)
  cases e1
  have hx0 : rd [x] 0 = x := rfl
  rw [hx0, show ad.add (Int.toNat 0) = ad from Addr.add_zero' _] at hx
  have HX := Aside0.mk hx
  have QM := Aside0.mk (fun W => mul1_calls n (by omega) W)
  have hmk := print_make 27 3 .i64 8 Try.underlying27 (by kernel_rfl) (by omega) n (by omega)
  have hn0 : decide ((n : Int) < 0) = false := decide_eq_false (by omega)
  have hnm : decide ((9223372036854775807 : Int) < (n : Int)) = false := decide_eq_false (by omega)
  have huw : IntKind.u64.wrap (n : Int) = (n : Int) := by simp [IntKind.wrap, IntKind.signed, IntKind.bits]; omega
  have hsw : IntKind.i64.wrap (n : Int) = (n : Int) := (i64_w _).trans (wrap_id (by omega) (by omega))
  have HN := Aside0.mk hn
  clear hr0 hn hx hx0
  go_enter Try.func95, Try.ntmps95
  go_wp2_with (first
    | (go_at_call 103; (with_reducible refine (QM.out _).mono ?_); rintro e w1 ⟨rfl, hb⟩; have HB1 := Aside0.mk hb; clear hb)
    | ((with_reducible refine gate_builtin (b := .copy) (xs := #[.tmp 31, .tmp 32]) rfl ?_); go_loud (refine wpList_copy_splice rfl (.tmp 31) (.tmp 32) 27 27 rfl 3 Try.underlying27 (by kernel_rfl) (some ⟨w1.heap.size, 0, none⟩) (some ad) n n 1 c0 rfl rfl w1.heap.size 0 (List.replicate n (.int .i64 0)) 3 ?cg (List.replicate (min 1 n) (.int .i64 x)) ?cn ?cp ?cf ?c1 w.heap.size w ?cb ?cB ?_; (case cg => exact heap_made w1 _ n _); (case cn => exact List.length_replicate); (case cp => intro hp; exact ⟨rfl, ad, rfl, rep_cells (w := w) _ (min 1 n) ad _ (by omega) (((below_alloc HB1.out _).cell (World.block_lt_of_cell? w _ HX.out)).trans HX.out)⟩); (case cf => rw [List.length_replicate, List.length_replicate]; omega); (case c1 => intro v hv; rw [List.eq_of_mem_replicate hv] <;> rfl); (case cb => exact below_alloc HB1.out _); (case cB => exact HB1.out.size); intro w2 hg hb; have HG2 := Aside0.mk (show w2.heap[w1.heap.size]? = _ from splice_rep0 n (min 1 n) (.int .i64 x) (.int .i64 0) (by omega) ▸ hg.out); have HB2 := Aside0.mk hb; clear hg hb)))
  generalize hgg : w1.heap.size = g at *
  have HGb := Aside0.mk (show w.heap.size ≤ g from hgg ▸ HB1.out.size)
  clear hgg
  go_loopg [8] n (fun kq v8 w' => ∃ m : Nat, v8 = .int .i64 (m : Int) ∧ Aside0 (m ≤ n ∧ n ≤ m + kq ∧ (0 < n → 0 < m)) ∧ Aside0 (w'.heap[g]? = some (.cells (List.replicate m (Value.int .i64 x) ++ List.replicate (n - m) (Value.int .i64 0)).toArray 3 (0, 0))) ∧ Aside0 (Below w.heap.size w w'))
  case atStart => exact ⟨min 1 n, rfl, ⟨by omega, by omega, by omega⟩, ⟨by exact HG2.out⟩, HB2⟩
  case round =>
    obtain ⟨m, rfl, HK, HG, HB⟩ := hrel
    by_cases c1 : m < n
    · have c1b : decide ((m : Int) < (n : Int)) = true := decide_eq_true (by omega)
      have c1c : decide (m < n) = true := decide_eq_true c1
      have hm0 : (0 : Int) ≤ (m : Int) := by omega
      have hmn : (m : Int) ≤ (n : Int) := by omega
      obtain ⟨k1, rfl⟩ : ∃ k1, gk = k1 + 1 := ⟨gk - 1, by have := HK.out; omega⟩
      have hne : (n = m) = False := eq_false (by omega)
      have HC1 := Aside0.mk c1
      clear c1
      go_wp2_with fail
      go_region_law ((refine step_copy_splice rfl (.tmp 41) (.tmp 44) 27 27 rfl 3 Try.underlying27 (by kernel_rfl) (some ⟨g, m, none⟩) (some ⟨g, 0, none⟩) (n - m) (n - m) m n ?hd ?hs g m (List.replicate m (Value.int .i64 x) ++ List.replicate (n - m) (Value.int .i64 0)) 3 ?cg (List.replicate (min m (n - m)) (Value.int .i64 x)) ?cn ?cp ?cf ?c1 w.heap.size w ?cb ?cB ?_; (case hd => first | (go_simp; done) | (go_simp; rfl)); (case hs => first | (go_simp; done) | (go_simp; rfl)); (case cg => exact HG.out); (case cn => exact List.length_replicate); (case cp => intro hp; exact ⟨rfl, _, rfl, rep_src HG.out (by omega)⟩); (case cf => rw [List.length_append, List.length_replicate, List.length_replicate, List.length_replicate]; have := HC1.out; omega); (case c1 => intro v hv; rw [List.eq_of_mem_replicate hv] <;> rfl); (case cb => exact below_drew HB.out); (case cB => exact HGb.out); intro w3 hg hb; have HG3 := Aside0.mk (show w3.heap[g]? = _ from splice_rep n m (min m (n - m)) (.int .i64 x) (.int .i64 0) (by have := HC1.out; omega) ▸ hg.out); have HB3 := Aside0.mk hb; clear hg hb))
      have HM := Aside0.mk (show wrap64 ((m : Int) + (min m (n - m) : Nat)) = ((m + min m (n - m) : Nat) : Int) from by unfold wrap64; have := HN.out; have := HC1.out; omega)
      go_wp2_with fail
      go_roundg k1
      case measure => omega
      case rel => exact ⟨m + min m (n - m), congrArg (Value.int .i64) ((i64_w _).trans HM.out), ⟨by have := HK.out; have := HC1.out; omega, by have := HK.out; have := HC1.out; omega, by have := HK.out; have := HC1.out; omega⟩, HG3, HB3⟩
    · have c1b : decide ((m : Int) < (n : Int)) = false := decide_eq_false (by omega)
      have c1c : decide (m < n) = false := decide_eq_false c1
      have hmn : m = n := by have := HK.out; omega
      have HMN := Aside0.mk hmn
      clear c1 hmn
      go_wp2_with fail
      go_ret
      refine ⟨_, rfl, Kd.R_of_own ?_ (fun _ _ => trivial), HB.out⟩
      have hg := HG.out
      rw [HMN.out, Nat.sub_self, List.replicate_zero, List.append_nil] at hg
      have ho := own_rep (base := w.heap.size) hg HGb.out HN.out
      have he : encs (Value.int .i64) (List.replicate n x) = List.replicate n (Value.int .i64 x) := by simp [encs]
      rw [he, List.length_replicate]
      exact ho
theorem one_int {k : IntKind} {e : TypeId} {x : Int} (W : World) (b : Nat) (h : W.heap[b]? = some (.cells #[.int k x] e (0, 0))) : Kd.C (Kd.int k) W (some ⟨b, 0, none⟩) 1 [x] := by
  refine ⟨rfl, by simp, fun _ => ⟨_, rfl, fun j p hj => ?_⟩⟩
  rcases j with _ | j
  · cases hj
    refine ⟨[.int k x], rfl, rfl, fun i u hi => ?_⟩
    rcases i with _ | i
    · cases hi
      rw [Addr.add_lit]; exact (blk_cell h _).trans rfl
    · cases hi
  · cases hj
set_option maxRecDepth 100000 in
theorem row64_calls (n x : Int) (h0 : 0 ≤ n) (h1 : n ≤ 1000000) (w : World) :
    Calls Try.prog 76 #[.int .i64 n, .int .i64 x] w fun e w' => ∃ v : Value, e = .returned v ∧ Kd.R (Kd.int .i64) 2 w' w.heap.size (fun _ => True) v (List.replicate n.toNat x) ∧ Below w.heap.size w w' := by
  have HB := Aside0.mk (Below.refl w.heap.size w)
  have QR := Aside0.mk (rep64_calls x n.toNat (by omega) (some ⟨w.heap.size, 0, none⟩) 1 (w.alloc (.cells #[.int .i64 x] 2)) (one_int _ _ (MapKept.heap_alloc w _).1))
  rw [Int.toNat_of_nonneg h0] at QR
  clear h0 h1
  go_enter Try.func76, Try.ntmps76
  go_wp2_with (go_at_call 94; go_loud ((with_reducible refine QR.out.mono ?_); rintro e w1 ⟨v, rfl, ho, hb⟩; have HO := Aside0.mk (Kd.R_lower ho (below_alloc HB.out _).size); have HB1 := Aside0.mk (below_step (below_alloc HB.out _) hb); clear ho hb))
  go_ret
  exact ⟨_, rfl, HO.out, HB1.out⟩
set_option maxRecDepth 100000 in
theorem rowI_calls (n x : Int) (h0 : 0 ≤ n) (h1 : n ≤ 1000000) (w : World) :
    Calls Try.prog 77 #[.int .i64 n, .int .i64 x] w fun e w' => ∃ v : Value, e = .returned v ∧ Kd.R (Kd.int .i64) 3 w' w.heap.size (fun _ => True) v (List.replicate n.toNat x) ∧ Below w.heap.size w w' := by
  have HB := Aside0.mk (Below.refl w.heap.size w)
  have QR := Aside0.mk (repI_calls x n.toNat (by omega) (some ⟨w.heap.size, 0, none⟩) 1 (w.alloc (.cells #[.int .i64 x] 3)) (one_int _ _ (MapKept.heap_alloc w _).1))
  rw [Int.toNat_of_nonneg h0] at QR
  clear h0 h1
  go_enter Try.func77, Try.ntmps77
  go_wp2_with (go_at_call 95; go_loud ((with_reducible refine QR.out.mono ?_); rintro e w1 ⟨v, rfl, ho, hb⟩; have HO := Aside0.mk (Kd.R_lower ho (below_alloc HB.out _).size); have HB1 := Aside0.mk (below_step (below_alloc HB.out _) hb); clear ho hb))
  go_ret
  exact ⟨_, rfl, HO.out, HB1.out⟩
end Go.Proofs.Ytjgpggjjgimibaa.L

/- relax.next: one layer behind another. -/
namespace Go.Proofs.Ytjgpggjjgimibaa.L
open Go.RowKit Go.Proofs.Ytjgpggjjgimibaa.Q Go.Proofs.YtjgpggjjgimibaaW.PrintWords Go.Proofs.YtjgpggjjgimibaaW.PrintLast Go.Proofs.YtjgpggjjgimibaaW.PrintMore Go.Proofs.YtjgpggjjgimibaaW.MapB Go.Proofs.YtjgpggjjgimibaaW.Lib
set_option linter.unusedVariables false
set_option linter.unusedSimpArgs false
/-- One edge of a layer: its target has less by it. -/
def stepN (had : List Int) (acc : List Int × List Int) (i : Int) (e : S37) : List Int × List Int :=
  if wrap64 (rd had e.f0 + e.f2) < rd acc.1 e.f1 then (acc.1.set e.f1.toNat (wrap64 (rd had e.f0 + e.f2)), acc.2.set e.f1.toNat i) else acc
def nextL (had : List Int) (es : List S37) : Nat → List Int × List Int
  | 0 => (had, List.replicate had.length (-1))
  | k + 1 => stepN had (nextL had es k) (k : Int) (rd_T37 es (k : Int))
theorem stepN_len (had : List Int) (acc : List Int × List Int) (i : Int) (e : S37) : (stepN had acc i e).1.length = acc.1.length ∧ (stepN had acc i e).2.length = acc.2.length := by
  unfold stepN
  split
  · exact ⟨List.length_set .., List.length_set ..⟩
  · exact ⟨rfl, rfl⟩
theorem nextL_len (had : List Int) (es : List S37) : ∀ k, (nextL had es k).1.length = had.length ∧ (nextL had es k).2.length = had.length
  | 0 => ⟨rfl, List.length_replicate⟩
  | k + 1 => by
    have h := stepN_len had (nextL had es k) (k : Int) (rd_T37 es (k : Int))
    have ih := nextL_len had es k
    exact ⟨h.1.trans ih.1, h.2.trans ih.2⟩
/-- Edges among n hosts. -/
def inE (n : Nat) (es : List S37) : Prop := ∀ e ∈ es, 0 ≤ e.f0 ∧ e.f0 < n ∧ 0 ≤ e.f1 ∧ e.f1 < n
instance (n : Nat) : DecidablePred (inE n) := fun es => by unfold inE; infer_instance
theorem rdE_mem (l : List S37) (i : Int) (h0 : 0 ≤ i) (h1 : i < l.length) : rd_T37 l i ∈ l := by
  have hx : i.toNat < l.length := by omega
  rw [show rd_T37 l i = l[i.toNat] by simp [rd_T37, List.getD, hx]]
  exact List.getElem_mem _
theorem results_tmp2' {fn : Func} {a b : Tmp} (h : fn.results = #[.tmp a, .tmp b]) (tmps : Array Value) (P : Program) (w : World) : (results fn tmps).run P w = .ok (.tuple #[tmps.getD a undef, tmps.getD b undef]) w := by
  simp [results, h]
set_option maxHeartbeats 8000000 in
set_option maxRecDepth 100000 in
theorem next_calls (had : List Int) (es : List S37) (hn : had.length ≤ 1000000) (he : es.length ≤ 1000000000) (hin : inE had.length es) (A0 A1 : Option Addr) (c0 c1_ : Nat) (w : World) (hr0 : Kd.C (Kd.int .i64) w A0 had.length had) (hc0 : had.length ≤ c0) (hr1 : Kd.C k37 w A1 es.length es) :
    Calls Try.prog 78 #[.slice A0 had.length c0, .slice A1 es.length c1_] w fun e w' => ∃ v1 v2 : Value, e = .returned (.tuple #[v1, v2]) ∧ Kd.R (Kd.int .i64) 2 w' w.heap.size (fun k => some k ≠ v2.ownBlock) v1 (nextL had es es.length).1 ∧ Kd.R (Kd.int .i64) 3 w' w.heap.size (fun k => some k ≠ v1.ownBlock) v2 (nextL had es es.length).2 ∧ Below w.heap.size w w' := by
  have HB0 := Aside0.mk (Below.refl w.heap.size w)
  have HR0 := Aside0.mk hr0
  have HR1 := Aside0.mk hr1
  have HN := Aside0.mk hn
  have HE := Aside0.mk he
  have HIn := Aside0.mk hin
  have QC := Aside0.mk (fun (W : World) (hb : Below w.heap.size w W) => clone64_calls had (by omega) A0 c0 W (Kd.C_below hr0 hb) hc0)
  have QR := Aside0.mk (fun W => rowI_calls (had.length : Int) (-1) (by omega) (by omega) W)
  have HLen := Aside0.mk (nextL_len had es)
  clear hr0 hr1 hn he hin hc0
  go_enter Try.func78, Try.ntmps78
  go_wp2_with (first
    | (go_at_call 96; (with_reducible refine (QC.out _ HB0.out).mono ?_); rintro e w1 ⟨v1, rfl, ho, hb⟩; have HB1 := Aside0.mk hb; have HO1 := Aside0.mk ho; clear ho hb)
    | (go_at_call 77; (with_reducible refine (QR.out _).mono ?_); rintro e w2 ⟨v2, rfl, ho, hb⟩; have HB2 := Aside0.mk (below_step HB1.out hb); have HH2 := Aside0.mk (Kd.R_elder' HO1.out (Kd.R_base ho) hb); have HY2 := Aside0.mk (Kd.R_lower (Kd.R_new' ho (Kd.R_lt HO1.out)) HB1.out.size); clear ho hb))
  obtain ⟨A6, c6, rfl⟩ := Kd.R_slice HH2.out
  obtain ⟨A7, c7, rfl⟩ := Kd.R_slice HY2.out
  have e7 : (List.replicate ((had.length : Nat) : Int).toNat (-1 : Int)).length = had.length := by rw [List.length_replicate]; omega
  have HY3 := HY2.out
  rw [e7, show ((had.length : Nat) : Int).toNat = had.length from rfl] at HY3
  have HY4 := Aside0.mk HY3
  simp only [e7]
  clear HY3 HY2 HO1 QC QR
  go_loopg [18] es.length (fun kq v18 w' => ∃ x18 : Int, v18 = .int .i64 x18 ∧ Aside0 (0 ≤ x18 ∧ x18 + kq = es.length) ∧ Aside0 (Kd.R (Kd.int .i64) 2 w' w.heap.size (fun k => some k ≠ (Value.slice A7 had.length c7).ownBlock) (.slice A6 had.length c6) (nextL had es x18.toNat).1) ∧ Aside0 (Kd.R (Kd.int .i64) 3 w' w.heap.size (fun k => some k ≠ (Value.slice A6 had.length c6).ownBlock) (.slice A7 had.length c7) (nextL had es x18.toNat).2) ∧ Aside0 (Below w.heap.size w w'))
  case atStart => exact ⟨0, rfl, ⟨by omega, by omega⟩, ⟨Kd.R_mono HH2.out (fun _ hk h => hk.2 (h.trans (own_len _ _ _ _ _)))⟩, ⟨Kd.R_mono HY4.out (fun _ hk => hk.2)⟩, HB2⟩
  case round =>
    clear HH2 HY4 HB2 HB1
    obtain ⟨x18, rfl, HK, HH, HY, HB⟩ := hrel
    by_cases c1 : x18 < (es.length : Int)
    · have c1b := decide_eq_true c1
      have p1 : 0 ≤ x18 := HK.out.1
      obtain ⟨ad1, e1, hx0, hx1, hx2, hx3, hx4, hx5⟩ := at_T37 HR1.out x18 p1 c1
      cases e1
      replace hx0 := (HB.out.cell (World.block_lt_of_cell? w _ hx0)).trans hx0
      replace hx1 := (HB.out.cell (World.block_lt_of_cell? w _ hx1)).trans hx1
      replace hx2 := (HB.out.cell (World.block_lt_of_cell? w _ hx2)).trans hx2
      replace hx3 := (HB.out.cell (World.block_lt_of_cell? w _ hx3)).trans hx3
      replace hx4 := (HB.out.cell (World.block_lt_of_cell? w _ hx4)).trans hx4
      replace hx5 := (HB.out.cell (World.block_lt_of_cell? w _ hx5)).trans hx5
      obtain ⟨i0, i1, i2, i3⟩ := HIn.out _ (rdE_mem es x18 p1 c1)
      have HS := Aside0.mk (show nextL had es (x18 + 1).toNat = stepN had (nextL had es x18.toNat) x18 (rd_T37 es x18) from by
        rw [show (x18 + 1).toNat = x18.toNat + 1 by omega]
        show stepN had (nextL had es x18.toNat) (x18.toNat : Int) (rd_T37 es (x18.toNat : Int)) = _
        rw [show (x18.toNat : Int) = x18 by omega])
      have HLx := Aside0.mk (HLen.out x18.toNat)
      have P1 := Aside0.mk p1
      have Q1 := Aside0.mk c1
      have W1 := Aside0.mk (show wrap64 (x18 + 1) = x18 + 1 from by unfold wrap64; have := HE.out; have := P1.out; have := Q1.out; omega)
      obtain ⟨ad0, e0, hh⟩ := Kd.at_int HR0.out (rd_T37 es x18).f0 i0 i1
      cases e0
      replace hh := (HB.out.cell (World.block_lt_of_cell? w _ hh)).trans hh
      generalize rd_T37 es x18 = e at *
      generalize nextL had es x18.toNat = acc at *
      obtain ⟨ha, hb_⟩ := HLx.out
      -- the rows' blocks
      have hg6 : ∃ g6, A6 = some ⟨g6, 0, none⟩ ∧ w.heap.size ≤ g6 := by
        have ho := (Kd.own_of_R HH.out).2
        rcases ho with ⟨h, h'⟩ | ⟨g, cap, cur, h, hbg, _⟩
        · exfalso; omega
        · injection h with h h2 h3; exact ⟨g, h, hbg⟩
      have hg7 : ∃ g7, A7 = some ⟨g7, 0, none⟩ ∧ w.heap.size ≤ g7 := by
        have ho := (Kd.own_of_R HY.out).2
        rcases ho with ⟨h, h'⟩ | ⟨g, cap, cur, h, hbg, _⟩
        · exfalso; omega
        · injection h with h h2 h3; exact ⟨g, h, hbg⟩
      obtain ⟨g6, rfl, hb6⟩ := hg6
      obtain ⟨g7, rfl, hb7⟩ := hg7
      obtain ⟨q6, e6, hc6⟩ := Kd.at_int (Kd.R_reads' HH.out).2.2 e.f1 i2 (by rw [← ha] at i3; exact i3)
      cases e6
      obtain ⟨q7, e7, hc7⟩ := Kd.at_int (Kd.R_reads' HY.out).2.2 e.f1 i2 (by rw [← hb_] at i3; exact i3)
      cases e7
      have d67 : g6 ≠ g7 := fun h => HH.out.1 g6 rfl (by rw [h]; rfl)
      have HD := Aside0.mk d67
      have l6 := World.block_lt_of_cell? wr _ hc6
      have l7 := World.block_lt_of_cell? wr _ hc7
      rw [Addr.add_lit, Nat.zero_add] at hc6 hc7 l6 l7
      have L6 := Aside0.mk (show g6 < wr.heap.size from l6)
      have L7 := Aside0.mk (show g7 < wr.heap.size from l7)
      have HC6 := Aside0.mk hc6
      have HC7 := Aside0.mk hc7
      have hv := Aside0.mk (show wrap64 (rd had e.f0 + e.f2) = wrap64 (rd had e.f0 + e.f2) from rfl)
      have HA := Aside0.mk ha
      have HBn := Aside0.mk hb_
      have hh1 := fun o => keep1r (o1 := o) hh
      have hst := Aside0.mk (show stepN had acc x18 e = if wrap64 (rd had e.f0 + e.f2) < rd acc.1 e.f1 then (acc.1.set e.f1.toNat (wrap64 (rd had e.f0 + e.f2)), acc.2.set e.f1.toNat x18) else acc from rfl)
      clear hc6 hc7 l6 l7 d67 ha hb_ HLx hv hh
      generalize rd had e.f0 = hf at *
      replace p1 := eq_true p1
      replace c1 := eq_true c1
      replace i0 := eq_true i0
      replace i1 := eq_true i1
      have I2 := Aside0.mk i2
      have I3 := Aside0.mk i3
      replace i2 := eq_true i2
      replace i3 := eq_true i3
      obtain ⟨k1, rfl⟩ : ∃ k1, gk = k1 + 1 := ⟨gk - 1, by have := HK.out; have := Q1.out; omega⟩
      go_upto_region 5 with (fail)
      go_cut [8, 9, 10, 16, 17, 18] (fun v8 v9 v10 v16 v17 v18 wc => v8 = .int .i64 x18 ∧ v16 = .slice (some ad1) es.length c1_ ∧ v17 = .int .i64 es.length ∧ v18 = .int .i64 x18 ∧ v10 = .int .i64 (wrap64 (hf + e.f2)) ∧ ∃ ke : Nat, v9 = .pointer (some ⟨ke, 0, none⟩) ∧ Aside0 (wr.heap.size ≤ ke ∧ wc.heap[ke]? = some (.cells #[.int .i64 e.f0, .int .i64 e.f1, .int .i64 e.f2, .int .i64 e.f3.f0, .int .i64 e.f3.f1, .bool e.f4] 37 (0, 0))) ∧ Aside0 (Below wr.heap.size wr wc))
      case first =>
        go_quiet (fail)
        go_wp2_with fail
        go_meet
        case rel => exact ⟨rfl, rfl, rfl, rfl, rfl, _, rfl, ⟨Nat.le_refl _, (MapKept.heap_alloc wr _).1⟩, ⟨pw_below_drewN (below_alloc (Below.refl wr.heap.size wr) _) _⟩⟩
      case rest =>
        obtain ⟨rfl, rfl, rfl, rfl, rfl, ke, rfl, HKE, HBW⟩ := hcut
        obtain ⟨w5, rfl⟩ : ∃ w5 : World, w5 = wc := ⟨_, rfl⟩
        clear hx0 hx1 hx2 hx3 hx4 hx5 hh1
        have hk0 : w5.cell? ⟨ke, 0, none⟩ = some (.int .i64 e.f0) := (blk_cell HKE.out.2 0).trans rfl
        have hk1 : w5.cell? ⟨ke, 1, none⟩ = some (.int .i64 e.f1) := (blk_cell HKE.out.2 1).trans rfl
        have hk2 : w5.cell? ⟨ke, 2, none⟩ = some (.int .i64 e.f2) := (blk_cell HKE.out.2 2).trans rfl
        have hc6 := (HBW.out.cell (World.block_lt_of_cell? wr _ HC6.out)).trans HC6.out
        have hc7 := (HBW.out.cell (World.block_lt_of_cell? wr _ HC7.out)).trans HC7.out
        have HH5 := Aside0.mk (Kd.R_below HH.out HBW.out)
        have HY5 := Aside0.mk (Kd.R_below HY.out HBW.out)
        have HB5 := Aside0.mk (below_step HB.out HBW.out)
        by_cases c2 : wrap64 (hf + e.f2) < rd acc.1 e.f1
        · have c2b := decide_eq_true c2
          have HST := hst.out
          rw [if_pos c2] at HST
          have HS2 := Aside0.mk (HS.out.trans HST)
          clear c2 HST hst HS
          generalize wrap64 (hf + e.f2) = x at *
          have n6 : ke ≠ g6 := by have := HKE.out.1; have := L6.out; omega
          have n7 : ke ≠ g7 := by have := HKE.out.1; have := L7.out; omega
          obtain ⟨cur6, hw6⟩ : ∃ cur, w5.heap[g6]? = some (.cells cur 2 (0, 0)) := by
            rcases (Kd.own_of_R HH5.out).2 with ⟨h, _⟩ | ⟨g, cap, cur, h, hbg, hh, _⟩
            · injection h with h1; cases h1
            · have hg : g6 = g := by
                injection h with h1
                injection h1 with h1
                injection h1
              subst hg
              exact ⟨cur, hh⟩
          obtain ⟨cur7, hw7⟩ : ∃ cur, w5.heap[g7]? = some (.cells cur 3 (0, 0)) := by
            rcases (Kd.own_of_R HY5.out).2 with ⟨h, _⟩ | ⟨g, cap, cur, h, hbg, hh, _⟩
            · injection h with h1; cases h1
            · have hg : g7 = g := by
                injection h with h1
                injection h1 with h1
                injection h1
              subst hg
              exact ⟨cur, hh⟩
          have f6 := blk_frozen hw6 e.f1.toNat
          have f7 := fun u => blk_frozen ((Below.heap_setCell w5 ⟨g6, e.f1.toNat, none⟩ u g7 (fun h => HD.out h.symm)).trans hw7) e.f1.toNat
          have f7' := blk_frozen hw7 e.f1.toNat
          have s1 : ∀ u, (w5.setCell ⟨g6, e.f1.toNat, none⟩ u).cell? ⟨ke, 1, none⟩ = some (.int .i64 e.f1) := fun u => (blk_cell ((Below.heap_setCell w5 ⟨g6, e.f1.toNat, none⟩ u ke n6).trans HKE.out.2) 1).trans rfl
          have s7 : ∀ u, (w5.setCell ⟨g6, e.f1.toNat, none⟩ u).cell? ⟨g7, e.f1.toNat, none⟩ = some (.int .i64 (rd acc.2 e.f1)) := fun u => (blk_cell ((Below.heap_setCell w5 ⟨g6, e.f1.toNat, none⟩ u g7 (fun h => HD.out h.symm)).trans hw7) _).trans ((blk_cell hw7 _).symm.trans hc7)
          clear hw6 hw7 n6 n7
          go_wp2_with fail
          go_region
          all_goals
            go_wp2_with fail
            go_roundg k1
            case measure => omega
            case rel => exact ⟨x18 + 1, by rw [W1.out], ⟨by have := P1.out; omega, by have := HK.out; omega⟩, ⟨by rw [HS2.out]; (repeat (first | apply Kd.R_drewN | apply Kd.R_drew)); exact Kd.R_far (Kd.R_putn HH5.out e.f1 x) (fun k hk h => hk (by rw [h]; rfl)) _⟩, ⟨by rw [HS2.out]; (repeat (first | apply Kd.R_drewN | apply Kd.R_drew)); exact Kd.R_putn (Kd.R_far HY5.out (p := ⟨g6, e.f1.toNat, none⟩) (fun k hk h => hk (by rw [h]; rfl)) _) e.f1 x18⟩, ⟨by (repeat (first | apply pw_below_drewN | apply below_drew)); exact below_set (below_set HB5.out hb6) hb7⟩⟩
        · have c2b := decide_eq_false c2
          have HST := hst.out
          rw [if_neg c2] at HST
          have HS2 := Aside0.mk (HS.out.trans HST)
          clear c2 HST hst HS
          go_wp2_with fail
          go_roundg k1
          case measure => omega
          case rel => exact ⟨x18 + 1, by rw [W1.out], ⟨by have := P1.out; omega, by have := HK.out; omega⟩, ⟨by rw [HS2.out]; exact HH5.out⟩, ⟨by rw [HS2.out]; exact HY5.out⟩, HB5⟩
    · have c1b := decide_eq_false c1
      have hx : x18.toNat = es.length := by have := HK.out; omega
      have HX := Aside0.mk hx
      clear c1 hx
      go_wp2_with fail
      refine bodyPost_ret (results_tmp2' rfl _ _ _) rfl ?_
      refine ⟨_, _, rfl, ?_, ?_, HB.out⟩
      · have h := HH.out; rw [HX.out] at h; exact h
      · have h := HY.out; rw [HX.out] at h; exact h
end Go.Proofs.Ytjgpggjjgimibaa.L

-- Written by wip/tools/gp.py, a program of this session round the kit's printer. Lean checks it.
namespace Go.Proofs.Ytjgpggjjgimibaa.X
open Go.RowKit Go.Proofs.Ytjgpggjjgimibaa.Q Go.Proofs.YtjgpggjjgimibaaW.PrintWords Go.Proofs.YtjgpggjjgimibaaW.PrintLast Go.Proofs.YtjgpggjjgimibaaW.PrintMore
attribute [local go_sem] max2_int min2_int max_two min_two max_three min_three max_four min_four   -- for this text's walks alone
set_option linter.unusedVariables false
set_option linter.unusedSimpArgs false
end Go.Proofs.Ytjgpggjjgimibaa.X

