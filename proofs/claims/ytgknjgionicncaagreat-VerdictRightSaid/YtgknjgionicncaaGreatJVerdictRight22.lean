/- Texts joined by wip/tools/merge.py: Qx0 LibB BndA BndB RlxA Bx0 Bx1 RlxB RlxC Xx0 Qx3 BndC BndD Base0 Shelf HostG FitS NumP NumG NumH BndE BndF. -/
import Derived.Test.YtgknjgionicncaaGreatJVerdictRight12
import Derived.Test.YtgknjgionicncaaGreatProg
import Derived.Below
import Derived.Deep.Draws
import Derived.Deep.AppendLies
import Derived.Maps.AppendAt
import Derived.OwnWalk
import Derived.Laws.BytesArg
import Derived.Laws.MakeOwn
import Derived.Laws.OwnMore
import Derived.Deep.OwnRows
import Derived.Tactics
import Derived.Lib.ConvBytes
import Derived.Laws.Slices
import Derived.WalkKit
import Derived.KernelRfl
import Derived.RowKit3
import Derived.Deep.LoopGhost
import Derived.Deep.QuietTactic
import Derived.BigQuiet
import Derived.WideLaws
import Derived.Deep.DeepCutAuto
import Derived.Deep.CutBlock
import Derived.Deep.RegionHeld3
import Derived.Laws.Rows
import Derived.Lib.AppendStr
import Derived.ArgAppend
import Derived.Laws.IdiomCopy
import Derived.OrdersHeld
import Derived.Laws.BitsLemmas
import Derived.RowKit
import Derived.Lib.Bytealg
import Derived.Lib.Slices
import Derived.Lib.Strings
import Derived.Lib.Walk
import Derived.Test.YtgknjgionicncaaGreatJVerdictRight0
import Derived.Test.YtgknjgionicncaaGreatJVerdictRight1
import Derived.Test.YtgknjgionicncaaGreatJVerdictRight13
import Derived.Test.YtgknjgionicncaaGreatJVerdictRight14
import Derived.Test.YtgknjgionicncaaGreatJVerdictRight2
import Derived.Test.YtgknjgionicncaaGreatJVerdictRight3
import Derived.Test.YtgknjgionicncaaGreatJVerdictRight4
import Derived.Test.YtgknjgionicncaaGreatJVerdictRight5
import Derived.Test.YtgknjgionicncaaGreatJVerdictRight6
import Derived.Test.YtgknjgionicncaaGreatJVerdictRight7
import Derived.Test.YtgknjgionicncaaGreatJVerdictRight8
import Derived.Test.YtgknjgionicncaaGreatJVerdictRight9
import Derived.Test.YtgknjgionicncaaGreatJVerdictRight15
import Derived.Test.YtgknjgionicncaaGreatJVerdictRight16
import Derived.Test.YtgknjgionicncaaGreatJVerdictRight17
import Derived.Test.YtgknjgionicncaaGreatJVerdictRight18
import Derived.Test.YtgknjgionicncaaGreatJVerdictRight19
import Derived.Test.YtgknjgionicncaaGreatJVerdictRight20
import Derived.Test.YtgknjgionicncaaGreatJVerdictRight21
import Derived.Test.YtgknjgionicncaaGreatJVerdictRight10
import Derived.Test.YtgknjgionicncaaGreatJVerdictRight11
import Derived.Maps.OwnSet
import Derived.Maps.OwnOps
import Derived.Shelf.GgSortFunc.InsertionK
import Derived.Laws.Bits64
import Derived.Laws.Externs
import Derived.WalkSpells
import Derived.Laws.CopyOwn
import Derived.Laws.Bits64b
import Derived.RegionTactic
import Derived.BigRegion
import Derived.Deep.RegionLaw
import Derived.Lib.SlicesCompact
import Derived.Lib.RowBridge
import Derived.Shelf.SlSortCmp.NoneTotal
import Derived.Shelf.SlicesE.Clone
import Derived.Shelf.SortM.Plain
import Derived.Shelf.SlicesG.CompactS
import Derived.Shelf.SlicesG.Turned
import Derived.Shelf.SortM.SortNone
import Derived.Lib.OwnBridge
import Derived.Sort.OwnSorted
import Derived.Sort.Grow
import Derived.Maps.Views
import Derived.WalkArith
import Derived.StringKeys
namespace Go.Proofs.YtgknjgionicncaaGreat.Q
open Go.RowKit Go.Proofs.YtgknjgionicncaaGreatW.PrintWords Go.Proofs.YtgknjgionicncaaGreatW.PrintLast Go.Proofs.YtgknjgionicncaaGreatW.PrintMore
attribute [local go_sem] max2_int min2_int max_two min_two max_three min_three max_four min_four
set_option linter.unusedVariables false
set_option linter.unusedSimpArgs false
theorem own_len (A : Option Addr) (n m c d : Nat) : (Value.slice A n c).ownBlock = (Value.slice A m d).ownBlock := by cases A <;> rfl
def errW : Option Int → Value
 | none => .nilIface
 | some c => .iface 0 (.int .i64 c)
theorem errW_none : errW none = .nilIface := rfl
theorem errW_some (c : Int) : errW (some c) = .iface 0 (.int .i64 c) := rfl
theorem info2 : (Tryz.prog.info? 2).map (fun i => (i.zero, i.size, i.bytes)) = some (some (.int .i64 0), 1, 8) := by kernel_rfl
theorem info3 : (Tryz.prog.info? 3).map (fun i => (i.zero, i.size, i.bytes)) = some (some (.int .i64 0), 1, 8) := by kernel_rfl
theorem info9 : (Tryz.prog.info? 9).map (fun i => (i.zero, i.size, i.bytes)) = some (some (.string ⟨#[]⟩), 1, 16) := by kernel_rfl
theorem info27 : (Tryz.prog.info? 27).map (fun i => (i.zero, i.size, i.bytes)) = some (some (.slice none 0 0), 1, 24) := by kernel_rfl
theorem info36 : (Tryz.prog.info? 36).map (fun i => (i.zero, i.size, i.bytes)) = some (some (.agg #[(.int .u64 0), (.int .u64 0), (.int .u64 0), (.int .u8 0), (.string ⟨#[]⟩), (.string ⟨#[]⟩), (.int .i64 0), (.int .i64 0)]), 8, 80) := by kernel_rfl
theorem info43 : (Tryz.prog.info? 43).map (fun i => (i.zero, i.size, i.bytes)) = some (some (.slice none 0 0), 1, 24) := by kernel_rfl
theorem info72 : (Tryz.prog.info? 72).map (fun i => (i.zero, i.size, i.bytes)) = some (some (.agg #[(.int .i64 0), (.int .i64 0), (.int .i64 0), (.int .i64 0), (.int .i64 0), (.bool false)]), 6, 48) := by kernel_rfl
structure S36 where
 f0 : Int
 f1 : Int
 f2 : Int
 f3 : Int
 f4 : ByteArray
 f5 : ByteArray
 f6 : Int
 f7 : Int
def z36 : S36 := ⟨(0 : Int), (0 : Int), (0 : Int), (0 : Int), (⟨#[]⟩ : ByteArray), (⟨#[]⟩ : ByteArray), (0 : Int), (0 : Int)⟩
def k36 : Kd S36 := Kd.iso (Kd.pair (Kd.int .u64) (Kd.pair (Kd.int .u64) (Kd.pair (Kd.int .u64) (Kd.pair (Kd.int .u8) (Kd.pair Kd.string (Kd.pair Kd.string (Kd.pair (Kd.int .i64) (Kd.int .i64)))))))) (fun x : S36 => (x.f0, x.f1, x.f2, x.f3, x.f4, x.f5, x.f6, x.f7))
theorem k36_open {w : World} {x : S36} {cs : List Value} (h : k36.K w x cs) : cs = [.int .u64 x.f0, .int .u64 x.f1, .int .u64 x.f2, .int .u8 x.f3, .string x.f4, .string x.f5, .int .i64 x.f6, .int .i64 x.f7] := by
 obtain ⟨_, _, rfl, rfl, ⟨_, _, rfl, rfl, ⟨_, _, rfl, rfl, ⟨_, _, rfl, rfl, ⟨_, _, rfl, rfl, ⟨_, _, rfl, rfl, ⟨_, _, rfl, rfl, rfl⟩⟩⟩⟩⟩⟩⟩ := h
 exact rfl
theorem k36_openM {w : World} {base : Nat} {ok : Nat → Prop} {x : S36} {cs : List Value} (h : k36.M w base ok x cs) : cs = [.int .u64 x.f0, .int .u64 x.f1, .int .u64 x.f2, .int .u8 x.f3, .string x.f4, .string x.f5, .int .i64 x.f6, .int .i64 x.f7] := by
 obtain ⟨_, _, rfl, rfl, ⟨_, _, rfl, rfl, ⟨_, _, rfl, rfl, ⟨_, _, rfl, rfl, ⟨_, _, rfl, rfl, ⟨_, _, rfl, rfl, ⟨_, _, rfl, rfl, rfl⟩⟩⟩⟩⟩⟩⟩ := h
 exact rfl
theorem k36_mkM (w : World) (base : Nat) (ok : Nat → Prop) (x : S36)  : k36.M w base ok x [.int .u64 x.f0, .int .u64 x.f1, .int .u64 x.f2, .int .u8 x.f3, .string x.f4, .string x.f5, .int .i64 x.f6, .int .i64 x.f7] := ⟨[.int .u64 x.f0], [.int .u64 x.f1, .int .u64 x.f2, .int .u8 x.f3, .string x.f4, .string x.f5, .int .i64 x.f6, .int .i64 x.f7], rfl, rfl, ⟨[.int .u64 x.f1], [.int .u64 x.f2, .int .u8 x.f3, .string x.f4, .string x.f5, .int .i64 x.f6, .int .i64 x.f7], rfl, rfl, ⟨[.int .u64 x.f2], [.int .u8 x.f3, .string x.f4, .string x.f5, .int .i64 x.f6, .int .i64 x.f7], rfl, rfl, ⟨[.int .u8 x.f3], [.string x.f4, .string x.f5, .int .i64 x.f6, .int .i64 x.f7], rfl, rfl, ⟨[.string x.f4], [.string x.f5, .int .i64 x.f6, .int .i64 x.f7], rfl, rfl, ⟨[.string x.f5], [.int .i64 x.f6, .int .i64 x.f7], rfl, rfl, ⟨[.int .i64 x.f6], [.int .i64 x.f7], rfl, rfl, rfl⟩⟩⟩⟩⟩⟩⟩
def rd_T36 (xs : List S36) (i : Int) : S36 := xs.getD i.toNat z36
theorem at_T36 {w : World} {A : Option Addr} {n : Nat} {xs : List S36} (h : Kd.C k36 w A n xs) (i : Int) (h0 : 0 ≤ i) (h1 : i < n) : ∃ ad , A = some ad ∧ w.cell? (ad.add (i.toNat * 8)) = some (.int .u64 (rd_T36 xs i).f0) ∧ w.cell? ⟨(ad.add (i.toNat * 8)).block, (ad.add (i.toNat * 8)).off + 1, none⟩ = some (.int .u64 (rd_T36 xs i).f1) ∧ w.cell? ⟨(ad.add (i.toNat * 8)).block, (ad.add (i.toNat * 8)).off + 2, none⟩ = some (.int .u64 (rd_T36 xs i).f2) ∧ w.cell? ⟨(ad.add (i.toNat * 8)).block, (ad.add (i.toNat * 8)).off + 3, none⟩ = some (.int .u8 (rd_T36 xs i).f3) ∧ w.cell? ⟨(ad.add (i.toNat * 8)).block, (ad.add (i.toNat * 8)).off + 4, none⟩ = some (.string (rd_T36 xs i).f4) ∧ w.cell? ⟨(ad.add (i.toNat * 8)).block, (ad.add (i.toNat * 8)).off + 5, none⟩ = some (.string (rd_T36 xs i).f5) ∧ w.cell? ⟨(ad.add (i.toNat * 8)).block, (ad.add (i.toNat * 8)).off + 6, none⟩ = some (.int .i64 (rd_T36 xs i).f6) ∧ w.cell? ⟨(ad.add (i.toNat * 8)).block, (ad.add (i.toNat * 8)).off + 7, none⟩ = some (.int .i64 (rd_T36 xs i).f7) := by
 obtain ⟨ad, c, e, _, hK, hc0⟩ := Kd.C_get h z36 i h0 h1
 have hc : ∀ j u, c[j]? = some u → w.cell? (ad.add (i.toNat * 8 + j)) = some u := hc0
 obtain rfl := k36_open hK
 exact ⟨ad, e, hc 0 _ rfl, by rw [← add_field _ _ 1 (by omega)]; exact hc 1 _ rfl, by rw [← add_field _ _ 2 (by omega)]; exact hc 2 _ rfl, by rw [← add_field _ _ 3 (by omega)]; exact hc 3 _ rfl, by rw [← add_field _ _ 4 (by omega)]; exact hc 4 _ rfl, by rw [← add_field _ _ 5 (by omega)]; exact hc 5 _ rfl, by rw [← add_field _ _ 6 (by omega)]; exact hc 6 _ rfl, by rw [← add_field _ _ 7 (by omega)]; exact hc 7 _ rfl⟩
structure S57 where
 f0 : Int
 f1 : Int
def z57 : S57 := ⟨(0 : Int), (0 : Int)⟩
def k57 : Kd S57 := Kd.iso (Kd.pair (Kd.int .i64) (Kd.int .i64)) (fun x : S57 => (x.f0, x.f1))
theorem k57_open {w : World} {x : S57} {cs : List Value} (h : k57.K w x cs) : cs = [.int .i64 x.f0, .int .i64 x.f1] := by
 obtain ⟨_, _, rfl, rfl, rfl⟩ := h
 exact rfl
theorem k57_openM {w : World} {base : Nat} {ok : Nat → Prop} {x : S57} {cs : List Value} (h : k57.M w base ok x cs) : cs = [.int .i64 x.f0, .int .i64 x.f1] := by
 obtain ⟨_, _, rfl, rfl, rfl⟩ := h
 exact rfl
theorem k57_mkM (w : World) (base : Nat) (ok : Nat → Prop) (x : S57)  : k57.M w base ok x [.int .i64 x.f0, .int .i64 x.f1] := ⟨[.int .i64 x.f0], [.int .i64 x.f1], rfl, rfl, rfl⟩
def rd_T57 (xs : List S57) (i : Int) : S57 := xs.getD i.toNat z57
theorem at_T57 {w : World} {A : Option Addr} {n : Nat} {xs : List S57} (h : Kd.C k57 w A n xs) (i : Int) (h0 : 0 ≤ i) (h1 : i < n) : ∃ ad , A = some ad ∧ w.cell? (ad.add (i.toNat * 2)) = some (.int .i64 (rd_T57 xs i).f0) ∧ w.cell? ⟨(ad.add (i.toNat * 2)).block, (ad.add (i.toNat * 2)).off + 1, none⟩ = some (.int .i64 (rd_T57 xs i).f1) := by
 obtain ⟨ad, c, e, _, hK, hc0⟩ := Kd.C_get h z57 i h0 h1
 have hc : ∀ j u, c[j]? = some u → w.cell? (ad.add (i.toNat * 2 + j)) = some u := hc0
 obtain rfl := k57_open hK
 exact ⟨ad, e, hc 0 _ rfl, by rw [← add_field _ _ 1 (by omega)]; exact hc 1 _ rfl⟩
structure S72 where
 f0 : Int
 f1 : Int
 f2 : Int
 f3 : S57
 f4 : Bool
def z72 : S72 := ⟨(0 : Int), (0 : Int), (0 : Int), z57, false⟩
def k72 : Kd S72 := Kd.iso (Kd.pair (Kd.int .i64) (Kd.pair (Kd.int .i64) (Kd.pair (Kd.int .i64) (Kd.pair k57 Kd.bool)))) (fun x : S72 => (x.f0, x.f1, x.f2, x.f3, x.f4))
theorem k72_open {w : World} {x : S72} {cs : List Value} (h : k72.K w x cs) : cs = [.int .i64 x.f0, .int .i64 x.f1, .int .i64 x.f2, .int .i64 x.f3.f0, .int .i64 x.f3.f1, .bool x.f4] := by
 obtain ⟨_, _, rfl, rfl, ⟨_, _, rfl, rfl, ⟨_, _, rfl, rfl, ⟨_, _, rfl, s3, rfl⟩⟩⟩⟩ := h
 obtain rfl := k57_open s3
 exact rfl
theorem k72_openM {w : World} {base : Nat} {ok : Nat → Prop} {x : S72} {cs : List Value} (h : k72.M w base ok x cs) : cs = [.int .i64 x.f0, .int .i64 x.f1, .int .i64 x.f2, .int .i64 x.f3.f0, .int .i64 x.f3.f1, .bool x.f4] := by
 obtain ⟨_, _, rfl, rfl, ⟨_, _, rfl, rfl, ⟨_, _, rfl, rfl, ⟨_, _, rfl, s3, rfl⟩⟩⟩⟩ := h
 obtain rfl := k57_openM s3
 exact rfl
theorem k72_mkM (w : World) (base : Nat) (ok : Nat → Prop) (x : S72)  : k72.M w base ok x [.int .i64 x.f0, .int .i64 x.f1, .int .i64 x.f2, .int .i64 x.f3.f0, .int .i64 x.f3.f1, .bool x.f4] := ⟨[.int .i64 x.f0], [.int .i64 x.f1, .int .i64 x.f2, .int .i64 x.f3.f0, .int .i64 x.f3.f1, .bool x.f4], rfl, rfl, ⟨[.int .i64 x.f1], [.int .i64 x.f2, .int .i64 x.f3.f0, .int .i64 x.f3.f1, .bool x.f4], rfl, rfl, ⟨[.int .i64 x.f2], [.int .i64 x.f3.f0, .int .i64 x.f3.f1, .bool x.f4], rfl, rfl, ⟨[.int .i64 x.f3.f0, .int .i64 x.f3.f1], [.bool x.f4], rfl, (k57_mkM w base ok x.f3 ), rfl⟩⟩⟩⟩
def rd_T72 (xs : List S72) (i : Int) : S72 := xs.getD i.toNat z72
theorem at_T72 {w : World} {A : Option Addr} {n : Nat} {xs : List S72} (h : Kd.C k72 w A n xs) (i : Int) (h0 : 0 ≤ i) (h1 : i < n) : ∃ ad , A = some ad ∧ w.cell? (ad.add (i.toNat * 6)) = some (.int .i64 (rd_T72 xs i).f0) ∧ w.cell? ⟨(ad.add (i.toNat * 6)).block, (ad.add (i.toNat * 6)).off + 1, none⟩ = some (.int .i64 (rd_T72 xs i).f1) ∧ w.cell? ⟨(ad.add (i.toNat * 6)).block, (ad.add (i.toNat * 6)).off + 2, none⟩ = some (.int .i64 (rd_T72 xs i).f2) ∧ w.cell? ⟨(ad.add (i.toNat * 6)).block, (ad.add (i.toNat * 6)).off + 3, none⟩ = some (.int .i64 (rd_T72 xs i).f3.f0) ∧ w.cell? ⟨(ad.add (i.toNat * 6)).block, (ad.add (i.toNat * 6)).off + 4, none⟩ = some (.int .i64 (rd_T72 xs i).f3.f1) ∧ w.cell? ⟨(ad.add (i.toNat * 6)).block, (ad.add (i.toNat * 6)).off + 5, none⟩ = some (.bool (rd_T72 xs i).f4) := by
 obtain ⟨ad, c, e, _, hK, hc0⟩ := Kd.C_get h z72 i h0 h1
 have hc : ∀ j u, c[j]? = some u → w.cell? (ad.add (i.toNat * 6 + j)) = some u := hc0
 obtain rfl := k72_open hK
 exact ⟨ad, e, hc 0 _ rfl, by rw [← add_field _ _ 1 (by omega)]; exact hc 1 _ rfl, by rw [← add_field _ _ 2 (by omega)]; exact hc 2 _ rfl, by rw [← add_field _ _ 3 (by omega)]; exact hc 3 _ rfl, by rw [← add_field _ _ 4 (by omega)]; exact hc 4 _ rfl, by rw [← add_field _ _ 5 (by omega)]; exact hc 5 _ rfl⟩
def rd_L8 (xs : List (List Int)) (i : Int) : (List Int) := xs.getD i.toNat ([] : List Int)
theorem at_L8 {w : World} {A : Option Addr} {n : Nat} {xs : List (List Int)} (h : Kd.C (Kd.slice 2 (Kd.int .i64)) w A n xs) (i : Int) (h0 : 0 ≤ i) (h1 : i < n) : ∃ ad A0 c0, A = some ad ∧ w.cell? (ad.add i.toNat) = some (.slice A0 (rd_L8 xs i).length c0) ∧ (rd_L8 xs i).length ≤ c0 ∧ (Kd.int .i64).C w A0 (rd_L8 xs i).length (rd_L8 xs i) := by
 obtain ⟨ad, c, e, _, hK, hc0⟩ := Kd.C_get h ([] : List Int) i h0 h1
 have hc : ∀ j u, c[j]? = some u → w.cell? (ad.add (i.toNat * 1 + j)) = some u := hc0
 obtain ⟨A0, c0, rfl, l0, g0⟩ := hK
 exact ⟨ad, A0, c0, e, by have hq := hc 0 _ rfl; rwa [Nat.mul_one, Nat.add_zero] at hq, l0, g0⟩
def rd_L9 (xs : List (List Int)) (i : Int) : (List Int) := xs.getD i.toNat ([] : List Int)
theorem at_L9 {w : World} {A : Option Addr} {n : Nat} {xs : List (List Int)} (h : Kd.C (Kd.slice 3 (Kd.int .i64)) w A n xs) (i : Int) (h0 : 0 ≤ i) (h1 : i < n) : ∃ ad A0 c0, A = some ad ∧ w.cell? (ad.add i.toNat) = some (.slice A0 (rd_L9 xs i).length c0) ∧ (rd_L9 xs i).length ≤ c0 ∧ (Kd.int .i64).C w A0 (rd_L9 xs i).length (rd_L9 xs i) := by
 obtain ⟨ad, c, e, _, hK, hc0⟩ := Kd.C_get h ([] : List Int) i h0 h1
 have hc : ∀ j u, c[j]? = some u → w.cell? (ad.add (i.toNat * 1 + j)) = some u := hc0
 obtain ⟨A0, c0, rfl, l0, g0⟩ := hK
 exact ⟨ad, A0, c0, e, by have hq := hc 0 _ rfl; rwa [Nat.mul_one, Nat.add_zero] at hq, l0, g0⟩
structure S75 where
 f0 : Int
 f1 : Int
 f2 : Int
def z75 : S75 := ⟨(0 : Int), (0 : Int), (0 : Int)⟩
def k75 : Kd S75 := Kd.iso (Kd.pair (Kd.int .i64) (Kd.pair (Kd.int .i64) (Kd.int .i64))) (fun x : S75 => (x.f0, x.f1, x.f2))
theorem k75_open {w : World} {x : S75} {cs : List Value} (h : k75.K w x cs) : cs = [.int .i64 x.f0, .int .i64 x.f1, .int .i64 x.f2] := by
 obtain ⟨_, _, rfl, rfl, ⟨_, _, rfl, rfl, rfl⟩⟩ := h
 exact rfl
theorem k75_mkM (w : World) (base : Nat) (ok : Nat → Prop) (x : S75)  : k75.M w base ok x [.int .i64 x.f0, .int .i64 x.f1, .int .i64 x.f2] := ⟨[.int .i64 x.f0], [.int .i64 x.f1, .int .i64 x.f2], rfl, rfl, ⟨[.int .i64 x.f1], [.int .i64 x.f2], rfl, rfl, rfl⟩⟩
def rd_T75 (xs : List S75) (i : Int) : S75 := xs.getD i.toNat z75
theorem at_T75 {w : World} {A : Option Addr} {n : Nat} {xs : List S75} (h : Kd.C k75 w A n xs) (i : Int) (h0 : 0 ≤ i) (h1 : i < n) : ∃ ad , A = some ad ∧ w.cell? (ad.add (i.toNat * 3)) = some (.int .i64 (rd_T75 xs i).f0) ∧ w.cell? ⟨(ad.add (i.toNat * 3)).block, (ad.add (i.toNat * 3)).off + 1, none⟩ = some (.int .i64 (rd_T75 xs i).f1) ∧ w.cell? ⟨(ad.add (i.toNat * 3)).block, (ad.add (i.toNat * 3)).off + 2, none⟩ = some (.int .i64 (rd_T75 xs i).f2) := by
 obtain ⟨ad, c, e, _, hK, hc0⟩ := Kd.C_get h z75 i h0 h1
 have hc : ∀ j u, c[j]? = some u → w.cell? (ad.add (i.toNat * 3 + j)) = some u := hc0
 obtain rfl := k75_open hK
 exact ⟨ad, e, hc 0 _ rfl, by rw [← add_field _ _ 1 (by omega)]; exact hc 1 _ rfl, by rw [← add_field _ _ 2 (by omega)]; exact hc 2 _ rfl⟩
end Go.Proofs.YtgknjgionicncaaGreat.Q
namespace Go.Proofs.YtgknjgionicncaaGreatW.Lib
open Go.RowKit Go.Proofs.YtgknjgionicncaaGreatW.PrintWords
set_option linter.unusedVariables false
theorem Ev.ite {α : Type} {c : Prop} [Decidable c] {A B : Nat → Option α} {r : α} (h1 : c → Ev A r) (h2 : ¬ c → Ev B r) : Ev (fun k => if c then A k else B k) r := by
 by_cases h : c
 ·simpa only [if_pos h] using h1 h
 ·simpa only [if_neg h] using h2 h
theorem Ev.pos {α : Type} {c : Prop} [Decidable c] {A B : Nat → Option α} {r : α} (h : c) (h1 : Ev A r) : Ev (fun k => if c then A k else B k) r := Ev.ite (fun _ => h1) (fun h' => absurd h h')
theorem Ev.neg {α : Type} {c : Prop} [Decidable c] {A B : Nat → Option α} {r : α} (h : ¬ c) (h1 : Ev B r) : Ev (fun k => if c then A k else B k) r := Ev.ite (fun h' => absurd h' h) (fun _ => h1)
theorem Ev.const {α : Type} {g : Option α} {r : α} (h : g = some r) : Ev (fun _ => g) r := ⟨0, fun _ _ => h⟩
theorem Ev.cast {α : Type} {g : Nat → Option α} {r r' : α} (h : Ev g r) (e : r = r') : Ev g r' := e ▸ h
theorem Ev.succ {α : Type} {g : Nat → Option α} {r : α} (h : Ev (fun k => g (k + 1)) r) : Ev g r := Ev.step (fun _ => rfl) h
theorem bytesOf_size (s : ByteArray) : (bytesOf s).length = s.size := by simp [bytesOf]
theorem bytesOf_get (s : ByteArray) (i : Nat) (h : i < s.size) : (bytesOf s)[i]'(by rw [bytesOf_size]; exact h) = bt s i := by
 rw [← bt_at s i (by simpa using h)]
 simp [bytesOf, ByteArray.getElem_eq_getElem_data]
theorem bytesOf_drop (s : ByteArray) (i : Nat) (h : i < s.size) : (bytesOf s).drop i = bt s i :: (bytesOf s).drop (i + 1) := by
 rw [← bytesOf_get s i h, ← List.drop_eq_getElem_cons]
theorem toList_data (s : ByteArray) : s.toList = s.data.toList := by
 exact ByteArray.toList_eq s
theorem toList_inj {s t : ByteArray} : (s.toList == t.toList) = decide (s = t) := by
 rw [Bool.eq_iff_iff]
 simp only [beq_iff_eq, decide_eq_true_eq]
 constructor
 ·intro h
  rw [toList_data, toList_data] at h
  cases s; cases t
  simp_all
 ·rintro rfl; rfl
theorem wrap_id {i : Int} (h0 : -9223372036854775808 ≤ i) (h1 : i < 9223372036854775808) : wrap64 i = i := by
 unfold wrap64; omega
theorem wf_i64 {x : Int} (h : (Lit.int .i64 x).wf = true) : -9223372036854775808 ≤ x ∧ x < 9223372036854775808 := by
 simp [Lit.wf, IntKind.min, IntKind.max, IntKind.signed, IntKind.bits] at h; omega
theorem wf_u8 {x : Int} (h : (Lit.int .u8 x).wf = true) : 0 ≤ x ∧ x < 256 := by
 simp [Lit.wf, IntKind.min, IntKind.max, IntKind.signed, IntKind.bits] at h; omega
end Go.Proofs.YtgknjgionicncaaGreatW.Lib
namespace Go.Proofs.YtgknjgionicncaaGreatW.MapB
open Go.RowKit Go.Proofs.YtgknjgionicncaaGreatW.PrintWords
set_option linter.unusedVariables false
section
variable {H : Type} {P : Program} {k e : TypeId} {R : Value → Option (DataW H × List MemPlace)} {w w1 : World} {b n B : Nat} {D : DataW H}
theorem map_below (h : w.ownsMap P k R b n D) (hb : Below w.heap.size w w1) : w1.ownsMap P k R b n D := by
 have hlt := h.lt
 obtain ⟨es, clock, hh, r⟩ := h
 exact ⟨es, clock, (hb.block b hlt).trans hh, r⟩
theorem map_ne_row (h : w.ownsMap P k R b n D) {base : Nat} {t : TypeId} {size m : Nat} {v : Value} {xs : List Value} (ho : w.ownsRow base t size v m xs) : some b ≠ v.ownBlock := by
 intro he
 obtain ⟨es, clock, hh, _⟩ := h
 obtain ⟨cells, hc⟩ := own_typed ho b he.symm
 rw [hh] at hc
 cases hc
theorem map_kept {α : Type} {d : Kd α} {t : Nat} {base : Nat} {ok : Nat → Prop} {v : Value} {xs : List α} (h : w.ownsMap P k R b n D) (hr : d.R t w base ok v xs) (hg : w.grownBy w1 v.ownBlock) : w1.ownsMap P k R b n D := by
 obtain ⟨_, inner, ho, _⟩ := hr
 exact h.kept hg (map_ne_row h ho)
theorem row_kept {α : Type} {d : Kd α} {t : Nat} {base : Nat} {v : Value} {xs : List α} (hm : w.ownsMap P k R b n D) (hr : d.R t w base (fun _ => True) v xs) (hg : w.grownBy w1 (some b)) : d.R t w1 base (fun _ => True) v xs := by
 obtain ⟨es, clock, hh, _⟩ := hm
 refine Kd.R_mono (Kd.R_move (Kd.R_bound hr) (fun i hi => hg.block i hi.2.2.1 (fun e => ?_))) (fun _ _ => trivial)
 obtain ⟨_, _, _, q, _, cells, hc⟩ := hi
 obtain rfl : i = b := Option.some.inj e
 rw [hh] at hc
 cases hc
theorem below_map (hB : Below B w w1) {w2 : World} (hg : w1.grownBy w2 (some b)) (hb : B ≤ b) (hs : B ≤ w1.heap.size) : Below B w w2 :=
 hB.grown hg hs (fun j hj => by cases hj; exact hb)
end
section
open Go.Maps
variable {H : Type} {P : Program} (w : World) {ops : Array Oper} {rest : List Oper} {o : Oper} {a : Act} {Q : Exit → Act → World → Prop}
theorem lookup_ok_known (hg : o.guard = none) (m x : Operand) (t : TypeId) (hop : o.op = Op.lookup t m x true) (k e : TypeId) (q : IntKind) (K : Keyed P k) (ht : P.underlying t = some (.map k e)) (he : P.underlying e = some (.int q)) (hz : (zeroValue e).run P w = .ok (.int q 0) w)
  (b n : Nat) (D : DataW H) (hm : a.eval m = .map (some b)) (hown : w.ownsMap P k (plainElem P e) b n D) (key : Value) (kl : Lit) (hx : a.eval x = key) (hkey : keyOf P k key = some kl) (c : Int) (hc : D.atKey kl (.lit (.int q 0)) = .lit (.int q c)) (there : Bool) (hh : Maps.has D kl = there)
  (hK : wpList P ops Q rest (a.put o.dst (.tuple #[.int q c, .bool there])) w) : wpList P ops Q (o :: rest) a w :=
 wpList_lookup_own_ok_int w hg m x t hop k e q K ht he hz b n D hm hown key kl hx hkey (fun c' hat _ => by
  obtain rfl : c = c' := by
   have h := hc.symm.trans hat
   injection h with h; injection h
  rw [hh]
  exact hK)
end
section
open Go.Maps
variable {α : Type} {key : α → Lit} {d : α}
def mapN (key : α → Lit) (d : α) (l : List α) : Nat → DataW Unit
 | 0 => .map []
 | k + 1 => (mapN key d l k).put (key (l.getD k d)) (.lit (.int .i64 k))
theorem mapN_tidy (hk : ∀ x, WideAt.IsKeyLit (key x)) (l : List α) : ∀ k, Tidy (mapN key d l k)
 | 0 => tidy_empty
 | k + 1 => (mapN_tidy hk l k).put (hk _) _
theorem mapN_has (hk : ∀ x, WideAt.IsKeyLit (key x)) (hi : ∀ x y, key x = key y → x = y) (l : List α) (s : α) : ∀ k, k ≤ l.length → (has (mapN key d l k) (key s) = true ↔ s ∈ l.take k)
 | 0, _ => by simp [mapN, has]
 | k + 1, hk1 => by
  have hl : l.getD k d = l[k] := by simp [List.getD, show k < l.length by omega]
  rw [mapN, hl, List.take_succ_eq_append_getElem (show k < l.length by omega), List.mem_append, List.mem_singleton]
  by_cases e : s = l[k]
  ·rw [← e, has_put_same (mapN_tidy hk l k).isMap (hk _)]
   simp
  ·rw [has_put_other (fun h => e (hi _ _ h)), mapN_has hk hi l s k (by omega)]
   exact ⟨.inl, fun h => h.elim _root_.id (fun h => absurd h e)⟩
theorem mapN_at (hk : ∀ x, WideAt.IsKeyLit (key x)) (hi : ∀ x y, key x = key y → x = y) {l : List α} (nd : l.Nodup) (z : DataW Unit) (j : Nat) (hj : j < l.length) : ∀ k, j < k → k ≤ l.length → (mapN key d l k).atKey (key l[j]) z = .lit (.int .i64 j)
 | 0, h, _ => by omega
 | k + 1, h, hk1 => by
  have hl : l.getD k d = l[k] := by simp [List.getD, show k < l.length by omega]
  rw [mapN, hl]
  by_cases e : j = k
  ·subst e
   exact atKey_put_same (mapN_tidy hk l j).isMap (hk _) _ _
  ·rw [atKey_put_other (fun h2 => ?_)]
   ·exact mapN_at hk hi nd z j hj k (by omega) (by omega)
   ·exact absurd (hi _ _ h2) (List.pairwise_iff_getElem.1 nd j k hj (by omega) (by omega))
theorem mapN_none (hk : ∀ x, WideAt.IsKeyLit (key x)) (hi : ∀ x y, key x = key y → x = y) {l : List α} {s : α} (h : s ∉ l) (z : DataW Unit) : (mapN key d l l.length).atKey (key s) z = z ∧ has (mapN key d l l.length) (key s) = false := by
 have h1 : has (mapN key d l l.length) (key s) = false := by
  rw [Bool.eq_false_iff]
  intro h2
  have := (mapN_has hk hi l s l.length (Nat.le_refl _)).1 h2
  rw [List.take_length] at this
  exact h this
 exact ⟨atKey_of_not_has h1 z, h1⟩
theorem mapN_stable (l r : List α) : ∀ k, k ≤ l.length → mapN key d (l ++ r) k = mapN key d l k
 | 0, _ => rfl
 | k + 1, hk => by
  rw [mapN, mapN, mapN_stable l r k (by omega)]
  congr 2
  simp [List.getD, List.getElem?_append_left (show k < l.length by omega)]
theorem mapN_snoc (l : List α) (x : α) : mapN key d (l ++ [x]) (l ++ [x]).length = (mapN key d l l.length).put (key x) (.lit (.int .i64 l.length)) := by
 rw [List.length_append, List.length_singleton, mapN, mapN_stable l [x] _ (Nat.le_refl _)]
 congr 2
 simp [List.getD]
end
end Go.Proofs.YtgknjgionicncaaGreatW.MapB
namespace Go.Proofs.YtgknjgionicncaaGreatW.RowB
open Go.RowKit Go.Proofs.YtgknjgionicncaaGreatW.PrintWords Go.Sort
set_option linter.unusedVariables false
variable {α : Type} [Inhabited α]
theorem cell_block {w : World} {g : Nat} {cur : Array Value} {e : TypeId} {fr : Nat × Nat} (h : w.heap[g]? = some (.cells cur e fr)) (i : Nat) : w.cell? ⟨g, i, none⟩ = cur[i]? := by simp [World.cell?, h]
theorem frozen_block {w : World} {g : Nat} {cur : Array Value} {e : TypeId} (h : w.heap[g]? = some (.cells cur e (0, 0))) (i : Nat) : w.frozen? ⟨g, i, none⟩ = false := by simp [World.frozen?, h]
theorem holdsK_of {enc : α → List Value} {k : Nat} (hk : ∀ x, (enc x).length = k) {w : World} {g : Nat} {cur : Array Value} {e : TypeId} {l : List α} {xs : List Value}
  (hh : w.heap[g]? = some (.cells cur e (0, 0))) (hx : cur.toList.take (l.length * k) = xs) (hr : Reps (fun x c => c = enc x) k l xs) : HoldsK enc k w g 0 l.toArray := by
 intro j hj
 have hj' : j < l.length * k := by simpa using hj
 have hk0 : 0 < k := by
  rcases Nat.eq_zero_or_pos k with h | h
  ·subst h; simp at hj'
  ·exact h
 refine ⟨?_, by rw [Nat.zero_add]; exact frozen_block hh j⟩
 rw [Nat.zero_add, cell_block hh, get_flatK _ _ _ _ (by simpa using hj')]
 have hq : j / k < l.length := Nat.div_lt_of_lt_mul (by rw [Nat.mul_comm]; exact hj')
 have hm : j % k < k := Nat.mod_lt _ hk0
 have h1 := hr.2 (j / k) l[j / k] (List.getElem?_eq_getElem hq)
 have h2 : xs[j]? = (enc l[j / k])[j % k]? := by
  rw [← h1, List.getElem?_take, if_pos hm, List.getElem?_drop, Nat.mul_comm, Nat.div_add_mod]
 rw [← hx, List.getElem?_take, if_pos hj'] at h2
 have h3 : cur[j]? = (enc l[j / k])[j % k]? := by rw [← h2]; simp
 rw [h3]
 have h4 : l.toArray[j / k]! = l[j / k] := by rw [getElem!_pos l.toArray (j / k) (by simpa using hq)]; simp
 rw [h4, List.getElem?_eq_getElem (by rw [hk]; exact hm), getElem!_pos _ _ (by rw [hk]; exact hm)]
 rfl
theorem putCells_size (d : Array Value) (c : Array Value) : (putCells id 0 d c).size = c.size := by simp [putCells]
theorem putCells_get (d : Array Value) (c : Array Value) (j : Nat) (hj : j < c.size) (hd : j < d.size) : (putCells id 0 d c)[j]? = some d[j]! := by
 simp [putCells, hj, hd]
theorem heap_sortWorld {enc : α → List Value} {k n : Nat} {w : World} {g : Nat} {d : Array α} {os : Array Obj} (i : Nat) (hi : i < w.heap.size) :
  (sortWorldK enc k w g 0 n d os).heap[i]? = if i = g then (w.heap[g]?).map (onCells (putCells id 0 (flatK enc k d))) else w.heap[i]? := by
 have h0 : (sortWorldK enc k w g 0 n d os).heap = w.heap.modify g (onCells (putCells id 0 (flatK enc k d))) ++ os := rfl
 rw [h0, Array.getElem?_append_left (by simpa using hi), Array.getElem?_modify]
 by_cases h : g = i
 ·subst h; simp
 ·rw [if_neg h, if_neg (fun h' => h h'.symm)]
theorem own_sorted {enc : α → List Value} {k n cap base : Nat} (hk : ∀ x, (enc x).length = k) {w : World} {g : Nat} {cur : Array Value} {e : TypeId} {d : Array α} {os : Array Obj}
  (hg : base ≤ g) (hh : w.heap[g]? = some (.cells cur e (0, 0))) (hc : d.size ≤ cap) (hcm : cap ≤ maxLen) (hs : cur.size = cap * k) :
  ∃ inner, (sortWorldK enc k w g 0 n d os).ownsRow base e k (.slice (some ⟨g, 0, none⟩) d.size cap) d.size inner ∧ Reps (fun x c => c = enc x) k d.toList inner := by
 have hlt : g < w.heap.size := (Array.getElem?_eq_some_iff.1 hh).1
 have h1 : (sortWorldK enc k w g 0 n d os).heap[g]? = some (.cells (putCells id 0 (flatK enc k d) cur) e (0, 0)) := by
  rw [heap_sortWorld g hlt, if_pos rfl, hh]; rfl
 have hdk : d.size * k ≤ cap * k := Nat.mul_le_mul_right _ hc
 have hlen : ((putCells id 0 (flatK enc k d) cur).toList.take (d.size * k)).length = d.size * k := by
  rw [List.length_take, Array.length_toList, putCells_size, hs]; omega
 refine ⟨(putCells id 0 (flatK enc k d) cur).toList.take (d.size * k), ⟨hlen, .inr ⟨g, cap, _, rfl, hg, h1, hc, hcm, by rw [putCells_size, hs], rfl⟩⟩, by rw [hlen]; simp, fun j p hp => ?_⟩
 have hj : j < d.size := by simpa using (List.getElem?_eq_some_iff.1 hp).1
 have hpj : d[j]! = p := by
  rw [getElem!_pos d j hj]
  obtain ⟨h2, h3⟩ := List.getElem?_eq_some_iff.1 hp
  rw [← h3]; simp
 have hjk : j * k + k ≤ d.size * k := by rw [← Nat.succ_mul]; exact Nat.mul_le_mul_right _ hj
 apply List.ext_getElem?
 intro r
 by_cases hr : r < k
 ·rw [List.getElem?_take, if_pos hr, List.getElem?_drop, List.getElem?_take, if_pos (by omega)]
  have h5 : (putCells id 0 (flatK enc k d) cur).toList[j * k + r]? = (putCells id 0 (flatK enc k d) cur)[j * k + r]? := by simp
  rw [h5, putCells_get _ _ _ (by omega) (by rw [size_flatK]; omega), get_flatK _ _ _ _ (by omega)]
  have e1 : (j * k + r) / k = j := by rw [Nat.mul_comm, Nat.mul_add_div (by omega), Nat.div_eq_of_lt hr, Nat.add_zero]
  have e2 : (j * k + r) % k = r := by rw [Nat.mul_comm, Nat.mul_add_mod, Nat.mod_eq_of_lt hr]
  rw [e1, e2, hpj, List.getElem?_eq_getElem (by rw [hk]; exact hr), getElem!_pos _ _ (by rw [hk]; exact hr)]
 ·rw [List.getElem?_eq_none (by rw [List.length_take]; omega), List.getElem?_eq_none (by rw [hk]; omega)]
theorem below_sorted {enc : α → List Value} {k n B : Nat} {w : World} {g : Nat} {d : Array α} {os : Array Obj} (hg : B ≤ g) (hB : B ≤ w.heap.size) : Below B w (sortWorldK enc k w g 0 n d os) := by
 refine ⟨rfl, rfl, rfl, ?_, fun i hi => ?_⟩
 ·have h0 : (sortWorldK enc k w g 0 n d os).heap = w.heap.modify g (onCells (putCells id 0 (flatK enc k d))) ++ os := rfl
  rw [h0]; simp
 ·rw [heap_sortWorld i (by omega), if_neg (by omega)]
end Go.Proofs.YtgknjgionicncaaGreatW.RowB
namespace Go.Proofs.YtgknjgionicncaaGreat.L
open Go.RowKit Go.Proofs.YtgknjgionicncaaGreat.Q Go.Proofs.YtgknjgionicncaaGreatW.PrintWords Go.Proofs.YtgknjgionicncaaGreatW.PrintLast Go.Proofs.YtgknjgionicncaaGreatW.PrintMore Go.Proofs.YtgknjgionicncaaGreatW.MapB Go.Proofs.YtgknjgionicncaaGreatW.Lib
set_option linter.unusedVariables false
set_option linter.unusedSimpArgs false
def inI (n : Int) : Prop := -9223372036854775808 ≤ n ∧ n < 9223372036854775808
instance : DecidablePred inI := fun n => by unfold inI; infer_instance
theorem own1 (w : World) (cs : Array Value) (t : TypeId) (i : Nat) {v : Value} (h : cs[i]? = some v) : (w.alloc (.cells cs t)).drew.cell? ⟨w.heap.size, i, none⟩ = some v := (blk_cell (MapKept.heap_alloc w _).1 i).trans h
def badE (n : Int) (e : S72) : Bool := decide (min e.f0 e.f1 < 0) || (decide (n ≤ max e.f0 e.f1) || (decide (4503599627370496 < e.f2) || decide (e.f2 < -4503599627370496)))
theorem keep1r {w : World} {a : Addr} {v : Value} {o1 : Obj} (h : w.cell? a = some v) : (w.alloc o1).cell? a = some v :=
 ((below_alloc (Below.refl w.heap.size w) o1).cell (World.block_lt_of_cell? w _ h)).trans h
set_option maxRecDepth 100000 in
set_option maxHeartbeats 2000000 in
theorem bad_calls (n : Int) (B : Nat) (e : S72) (w : World) (hc : w.cell? ⟨B, 0, none⟩ = some (.int .i64 n)) : Calls Tryz.prog 85 #[.agg #[.int .i64 e.f0, .int .i64 e.f1, .int .i64 e.f2, .int .i64 e.f3.f0, .int .i64 e.f3.f1, .bool e.f4], .pointer (some ⟨B, 0, none⟩)] w fun r w' => r = .returned (.bool (badE n e)) ∧ Below w.heap.size w w' := by
 have HB := Aside0.mk (Below.refl w.heap.size w)
 have hk := fun o => keep1r (o1 := o) hc
 clear hc
 unfold badE
 cases c1 : decide (min e.f0 e.f1 < 0) with
 | true =>
  go_enter Tryz.func85, Tryz.ntmps85
  go_wp2_with fail
  go_ret
  exact ⟨rfl, below_alloc HB.out _⟩
 | false =>
 cases c2 : decide (n ≤ max e.f0 e.f1) with
 | true =>
  go_enter Tryz.func85, Tryz.ntmps85
  go_wp2_with fail
  go_ret
  exact ⟨rfl, below_alloc HB.out _⟩
 | false =>
 cases c3 : decide (4503599627370496 < e.f2) with
 | true =>
  go_enter Tryz.func85, Tryz.ntmps85
  go_wp2_with fail
  go_ret
  exact ⟨rfl, below_alloc HB.out _⟩
 | false =>
 cases c4 : decide (e.f2 < -4503599627370496) with
 | true =>
  go_enter Tryz.func85, Tryz.ntmps85
  go_wp2_with fail
  go_ret
  exact ⟨rfl, below_alloc HB.out _⟩
 | false =>
  go_enter Tryz.func85, Tryz.ntmps85
  go_wp2_with fail
  go_ret
  exact ⟨rfl, below_alloc HB.out _⟩
set_option maxHeartbeats 4000000 in
set_option maxRecDepth 100000 in
theorem edgemay_index (n : Int) (B : Nat) (es : List S72) (hn : es.length ≤ 1000000000) (A0 : Option Addr) (c0 : Nat) (w : World) (hr0 : Kd.C k72 w A0 es.length es)
  (QL0 : ∀ e ∈ es, ∀ W, Below w.heap.size w W → Calls Tryz.prog 85 #[.agg #[.int .i64 e.f0, .int .i64 e.f1, .int .i64 e.f2, .int .i64 e.f3.f0, .int .i64 e.f3.f1, .bool e.f4], .pointer (some ⟨B, 0, none⟩)] W fun r w' => r = .returned (.bool ((badE n) e)) ∧ Below W.heap.size W w') :
  Calls Tryz.prog 125 #[.slice A0 es.length c0, .func (.func 85) #[] #[.pointer (some ⟨B, 0, none⟩)]] w fun r w' => ∃ i : Int, r = .returned (.int .i64 i) ∧ decide (0 ≤ i) = es.any (badE n) ∧ Below w.heap.size w w' := by
 have HB0 := Aside0.mk (Below.refl w.heap.size w)
 have HR0 := Aside0.mk hr0
 have HN := Aside0.mk hn
 have QL := Aside0.mk QL0
 clear hr0 hn QL0
 generalize hpp : (badE n) = pp at *
 clear hpp
 go_enter Tryz.func125, Tryz.ntmps125
 go_wp2_with fail
 go_loopg [8] es.length (fun kq v8 w' => ∃ x8 : Int, v8 = .int .i64 x8 ∧ Aside0 (0 ≤ x8 ∧ x8 + kq = es.length) ∧ Aside0 (∀ e ∈ es.take x8.toNat, pp e = false) ∧ Aside0 (Below w.heap.size w w'))
 case atStart => exact ⟨0, rfl, ⟨by omega, by omega⟩, ⟨by simp⟩, HB0⟩
 case round =>
  obtain ⟨x8, rfl, HK, HA, HB⟩ := hrel
  by_cases c1 : x8 < (es.length : Int)
  ·have c1b := decide_eq_true c1
   have p1 : 0 ≤ x8 := HK.out.1
   obtain ⟨ad, e1, hx0, hx1, hx2, hx3, hx4, hx5⟩ := at_T72 HR0.out x8 p1 c1
   cases e1
   replace hx0 := zc HB.out hx0
   replace hx1 := zc HB.out hx1
   replace hx2 := zc HB.out hx2
   replace hx3 := zc HB.out hx3
   replace hx4 := zc HB.out hx4
   replace hx5 := zc HB.out hx5
   have hit : x8.toNat < es.length := by omega
   have hev : rd_T72 es x8 = es[x8.toNat] := by simp [rd_T72, List.getD, hit]
   have hem : rd_T72 es x8 ∈ es := by rw [hev]; exact List.getElem_mem _
   have HE := Aside0.mk (show es.take (x8 + 1).toNat = es.take x8.toNat ++ [rd_T72 es x8] from by
    rw [show (x8 + 1).toNat = x8.toNat + 1 by omega, List.take_succ_eq_append_getElem hit, hev])
   have QE := Aside0.mk (QL.out _ hem wr HB.out)
   have HM := Aside0.mk hem
   have P1 := Aside0.mk p1
   have Q1 := Aside0.mk c1
   have W1 := Aside0.mk (show wrap64 (x8 + 1) = x8 + 1 from by unfold wrap64; have := HN.out; have := P1.out; have := Q1.out; omega)
   clear hev hem hit
   generalize rd_T72 es x8 = e at *
   replace p1 := eq_true p1
   replace c1 := eq_true c1
   obtain ⟨k1, rfl⟩ : ∃ k1, gk = k1 + 1 := ⟨gk - 1, by have := HK.out; have := Q1.out; omega⟩
   cases hq : pp e with
   | false =>
    rw [hq] at QE
    have HQ := Aside0.mk hq
    clear hq
    go_wp2_with (go_at_call 85; refine QE.out.mono ?_; rintro r w1 ⟨rfl, hb⟩; have HB1 := Aside0.mk (below_step HB.out hb); clear hb)
    go_roundg k1
    case measure => omega
    case rel => exact ⟨x8 + 1, by rw [W1.out], ⟨by have := P1.out; omega, by have := HK.out; omega⟩, ⟨by
     rw [HE.out]
     intro y hy
     rcases List.mem_append.1 hy with h | h
     ·exact HA.out y h
     ·rw [List.mem_singleton.1 h]; exact HQ.out⟩, HB1⟩
   | true =>
    rw [hq] at QE
    have HQ := Aside0.mk hq
    clear hq
    go_wp2_with (go_at_call 85; refine QE.out.mono ?_; rintro r w1 ⟨rfl, hb⟩; have HB1 := Aside0.mk (below_step HB.out hb); clear hb)
    go_ret
    refine ⟨x8, rfl, ?_, HB1.out⟩
    rw [decide_eq_true P1.out]
    exact (List.any_eq_true.2 ⟨e, HM.out, HQ.out⟩).symm
  ·have c1b := decide_eq_false c1
   have hx : x8.toNat = es.length := by have := HK.out; omega
   have ha := HA.out
   rw [hx, List.take_length] at ha
   have HAll := Aside0.mk ha
   clear ha hx c1
   go_wp2_with fail
   go_ret
   refine ⟨-1, rfl, ?_, HB.out⟩
   exact (List.any_eq_false.2 (fun e he => by rw [HAll.out e he]; simp)).symm
set_option maxHeartbeats 2000000 in
set_option maxRecDepth 100000 in
theorem edgemay_contains (n : Int) (B : Nat) (es : List S72) (hn : es.length ≤ 1000000000) (A0 : Option Addr) (c0 : Nat) (w : World) (hr0 : Kd.C k72 w A0 es.length es)
  (QL0 : ∀ e ∈ es, ∀ W, Below w.heap.size w W → Calls Tryz.prog 85 #[.agg #[.int .i64 e.f0, .int .i64 e.f1, .int .i64 e.f2, .int .i64 e.f3.f0, .int .i64 e.f3.f1, .bool e.f4], .pointer (some ⟨B, 0, none⟩)] W fun r w' => r = .returned (.bool ((badE n) e)) ∧ Below W.heap.size W w') :
  Calls Tryz.prog 84 #[.slice A0 es.length c0, .func (.func 85) #[] #[.pointer (some ⟨B, 0, none⟩)]] w fun r w' => r = .returned (.bool (es.any (badE n))) ∧ Below w.heap.size w w' := by
 have HB0 := Aside0.mk (Below.refl w.heap.size w)
 have QI := Aside0.mk (edgemay_index n B es hn A0 c0 w hr0 QL0)
 clear hn hr0 QL0
 go_enter Tryz.func84, Tryz.ntmps84
 go_wp2_with (go_at_call 125; refine QI.out.mono ?_; rintro r w1 ⟨i, rfl, hd, hb⟩; have HD := Aside0.mk hd; have HB2 := Aside0.mk hb; clear hb hd)
 go_ret
 refine ⟨?_, HB2.out⟩
 rw [← HD.out]
 rfl
def rmayB (n : Int) (es : List S72) : Bool := if 0 ≤ n ∧ n ≤ 32 then !es.any (badE n) else false
set_option maxRecDepth 100000 in
set_option maxHeartbeats 2000000 in
theorem rmayE_calls (n : Int) (es : List S72) (hn : es.length ≤ 1000000000) (A0 : Option Addr) (c0 : Nat) (w : World) (hr0 : Kd.C k72 w A0 es.length es) :
  Calls Tryz.prog 47 #[.int .i64 n, .slice A0 es.length c0] w fun r w' => r = .returned (.bool (rmayB n es)) ∧ Below w.heap.size w w' := by
 have hmf : ∀ (fn : Fn) (first cap : Array Value) (w : World), (Instr.makeFunc fn first cap).run Tryz.prog w = .ok (.func fn first cap) w := fun _ _ _ _ => rfl
 have HB := Aside0.mk (Below.refl w.heap.size w)
 have hb1 := below_alloc HB.out (.cells #[.int .i64 n] 3)
 have hcell : (w.alloc (.cells #[.int .i64 n] 3)).cell? ⟨w.heap.size, 0, none⟩ = some (.int .i64 n) := (blk_cell (MapKept.heap_alloc w _).1 0).trans rfl
 have QC := Aside0.mk (edgemay_contains n w.heap.size es hn A0 c0 _ (Kd.C_below hr0 hb1) (fun e he W hb => bad_calls n w.heap.size e W ((hb.cell (World.block_lt_of_cell? _ _ hcell)).trans hcell)))
 have HB1 := Aside0.mk hb1
 clear hb1 hcell hn hr0
 by_cases h0 : n < 0
 ·have hv : rmayB n es = false := by unfold rmayB; rw [if_neg (by omega)]
  rw [hv]
  have b0 := decide_eq_true h0
  clear h0 hv
  go_enter Tryz.func47, Tryz.ntmps47
  go_wp2_with fail
  go_ret
  exact ⟨rfl, below_alloc HB.out _⟩
 by_cases h1 : 32 < n
 ·have hv : rmayB n es = false := by unfold rmayB; rw [if_neg (by omega)]
  rw [hv]
  have b0 := decide_eq_false h0
  have b1 := decide_eq_true h1
  clear h0 h1 hv
  go_enter Tryz.func47, Tryz.ntmps47
  go_wp2_with fail
  go_ret
  exact ⟨rfl, below_alloc HB.out _⟩
 have hv : rmayB n es = !es.any (badE n) := by unfold rmayB; rw [if_pos ⟨by omega, by omega⟩]
 rw [hv]
 have b0 := decide_eq_false h0
 have b1 := decide_eq_false h1
 clear h0 h1 hv
 generalize es.any (badE n) = r at *
 go_enter Tryz.func47, Tryz.ntmps47
 go_wp2_with (go_at_call 84; refine QC.out.mono ?_; rintro e w1 ⟨rfl, hb⟩; have HB2 := Aside0.mk (below_step HB1.out hb); clear hb)
 go_ret
 exact ⟨rfl, HB2.out⟩
end Go.Proofs.YtgknjgionicncaaGreat.L
namespace Go.Proofs.YtgknjgionicncaaGreat.B
open Go.RowKit Go.Proofs.YtgknjgionicncaaGreat.Q Go.Proofs.YtgknjgionicncaaGreatW.PrintWords Go.Proofs.YtgknjgionicncaaGreatW.PrintLast Go.Proofs.YtgknjgionicncaaGreatW.PrintMore
attribute [local go_sem] max2_int min2_int max_two min_two max_three min_three max_four min_four
set_option linter.unusedVariables false
set_option linter.unusedSimpArgs false
def bits_Mul64.f (a0 : Int) (a1 : Int) : Option (Int × Int) := some (IntKind.u64.wrap ((IntKind.u64.wrap ((IntKind.u64.wrap ((a0 / 4294967296) * (a1 / 4294967296))) + ((IntKind.u64.wrap ((IntKind.u64.wrap ((a0 / 4294967296) * (Go.bits .and .u64 a1 4294967295))) + ((IntKind.u64.wrap ((Go.bits .and .u64 a0 4294967295) * (Go.bits .and .u64 a1 4294967295))) / 4294967296))) / 4294967296))) + ((IntKind.u64.wrap ((Go.bits .and .u64 (IntKind.u64.wrap ((IntKind.u64.wrap ((a0 / 4294967296) * (Go.bits .and .u64 a1 4294967295))) + ((IntKind.u64.wrap ((Go.bits .and .u64 a0 4294967295) * (Go.bits .and .u64 a1 4294967295))) / 4294967296))) 4294967295) + (IntKind.u64.wrap ((Go.bits .and .u64 a0 4294967295) * (a1 / 4294967296))))) / 4294967296)), IntKind.u64.wrap (a0 * a1))
set_option maxHeartbeats 8000000 in
set_option maxRecDepth 100000 in
theorem bits_Mul64.calls (a0 : Int) (a1 : Int) (r1 : Int) (r2 : Int) (w : World) (h : bits_Mul64.f a0 a1 = some (r1, r2)) :
  Calls Tryz.prog 183 #[.int .u64 a0, .int .u64 a1] w fun e w' => e = .returned (.tuple #[.int .u64 r1, .int .u64 r2]) ∧ Drawn0 w w' := by
 have H : (some (IntKind.u64.wrap ((IntKind.u64.wrap ((IntKind.u64.wrap ((a0 / 4294967296) * (a1 / 4294967296))) + ((IntKind.u64.wrap ((IntKind.u64.wrap ((a0 / 4294967296) * (Go.bits .and .u64 a1 4294967295))) + ((IntKind.u64.wrap ((Go.bits .and .u64 a0 4294967295) * (Go.bits .and .u64 a1 4294967295))) / 4294967296))) / 4294967296))) + ((IntKind.u64.wrap ((Go.bits .and .u64 (IntKind.u64.wrap ((IntKind.u64.wrap ((a0 / 4294967296) * (Go.bits .and .u64 a1 4294967295))) + ((IntKind.u64.wrap ((Go.bits .and .u64 a0 4294967295) * (Go.bits .and .u64 a1 4294967295))) / 4294967296))) 4294967295) + (IntKind.u64.wrap ((Go.bits .and .u64 a0 4294967295) * (a1 / 4294967296))))) / 4294967296)), IntKind.u64.wrap (a0 * a1))) = some (r1, r2) := h
 clear h
 simp only [Option.some.injEq, Prod.mk.injEq] at H
 obtain ⟨rfl, rfl⟩ := H
 go_enter Tryz.func183, Tryz.ntmps183
 go_wp2
 go_ret2
 exact ⟨zE, zD0⟩
def bits_Mul.f (a0 : Int) (a1 : Int) : Option (Int × Int) := (bits_Mul64.f a0 a1).bind fun bt101 => (some (bt101.1, bt101.2))
set_option maxHeartbeats 8000000 in
set_option maxRecDepth 100000 in
theorem bits_Mul.calls (a0 : Int) (a1 : Int) (r1 : Int) (r2 : Int) (w : World) (h : bits_Mul.f a0 a1 = some (r1, r2)) :
  Calls Tryz.prog 172 #[.int .u64 a0, .int .u64 a1] w fun e w' => e = .returned (.tuple #[.int .u64 r1, .int .u64 r2]) ∧ Drawn0 w w' := by
 have H : ((bits_Mul64.f a0 a1).bind fun bt101 => (some (bt101.1, bt101.2))) = some (r1, r2) := h
 clear h
 replace H := Option.bind_eq_some_iff.mp H
 obtain ⟨⟨t101, t102⟩, A30, H⟩ := H
 dsimp only at H
 have A3 := Aside0.mk A30
 clear A30
 simp only [Option.some.injEq, Prod.mk.injEq] at H
 obtain ⟨rfl, rfl⟩ := H
 go_enter Tryz.func172, Tryz.ntmps172
 go_wp2_with (first | ((with_reducible refine gate_callee (f := 183) rfl ?_); refine goesL_ (some 25) rfl rfl Tryz.func183 (by kernel_rfl) rfl #[.int .u64 a0, .int .u64 a1] rfl zL ?_; (with_reducible refine (bits_Mul64.calls a0 a1 t101 t102 _ A3.out).mono ?_); rintro e w' ⟨rfl, ⟨nd, rfl⟩⟩; refine ⟨_, rfl, ?_⟩))
 go_ret2
 exact ⟨zE, zD0⟩
end Go.Proofs.YtgknjgionicncaaGreat.B
namespace Go.Proofs.YtgknjgionicncaaGreat.L
open Go.RowKit Go.Proofs.YtgknjgionicncaaGreat.Q Go.Proofs.YtgknjgionicncaaGreatW.PrintWords Go.Proofs.YtgknjgionicncaaGreatW.PrintLast Go.Proofs.YtgknjgionicncaaGreatW.PrintMore Go.Proofs.YtgknjgionicncaaGreatW.MapB Go.Proofs.YtgknjgionicncaaGreatW.Lib
set_option linter.unusedVariables false
set_option linter.unusedSimpArgs false
set_option maxHeartbeats 1000000 in
theorem clone64_calls (l : List Int) (hl : l.length ≤ 17592186044416) (A : Option Addr) (c : Nat) (w : World) (hr : Kd.C (Kd.int .i64) w A l.length l) (hc : l.length ≤ c) :
  Calls Tryz.prog 147 #[.slice A l.length c] w fun e w' => ∃ v : Value, e = .returned v ∧ Kd.R (Kd.int .i64) 2 w' w.heap.size (fun _ => True) v l ∧ Below w.heap.size w w' := by
 have q : ∀ (w : World) (a : Option Addr) (n c n' c' : Nat), (binOp .eql 27 (.slice a n c) (.slice none n' c')).run Tryz.prog w = .ok (.bool a.isNone) w := fun w a n c n' c' => Go.Lib.run_eql_slice_nil w _ _ a n c n' c' Tryz.underlying27
 cases A with
 | none =>
  have h0 : l = [] := by
   cases l with
   | nil => rfl
   | cons x l => obtain ⟨ad, h, _⟩ := hr.2.2 (by simp); exact absurd h (by simp)
  subst h0
  go_enter Tryz.func147, Tryz.ntmps147
  go_wp2
  go_ret
  exact ⟨_, rfl, Kd.R_nil _ _ _ _ _, Below.refl _ _⟩
 | some ad =>
  have HR0 := Aside0.mk hr
  clear hr
  have HL := Aside0.mk hl
  clear hl
  go_enter Tryz.func147, Tryz.ntmps147
  go_wp2_with (first
   | ((with_reducible refine gate_dst (N := 5) rfl ?_); refine Kd.R_lit (Kd.int .i64) _ 2 ?hg (N := 5) ?hd (xs := ([] : List Int)) (inner := []) (ok := fun _ => True) (okp := fun _ => True) ?hr ?hp (fun _ hk => hk) trivial (Below.refl _ _) (Nat.le_refl _) (by simp) ?_; (case hd => rfl); (case hg => rfl); (case hr => first | (go_simp; done) | (go_simp; rfl)); (case hp => exact (Reps.none _ _)); intro v1 w1 ho hb hg_ hnew_; clear hg_ hnew_; have HO := Aside0.mk ho; have HB := Aside0.mk hb; clear ho hb)
   | ((with_reducible refine gate_builtin (b := .append) (xs := #[.tmp 5, .tmp 6]) rfl ?_); at_builtin; refine Kd.R_append_rows (Kd.int .i64) (w0 := w) w.heap.size rfl (.tmp 5) (.tmp 6) 27 2 (.int .i64 0) 8 rfl Tryz.underlying27 (by kernel_rfl) rfl (by decide) (by omega) v1 [] l _ _ _ (fun _ => True) (fun _ => False) rfl rfl ?aO ?aR (fun _ _ h => h) (fun _ h => h.elim) ?aF ?aB ?aS ?aL ?_; (case aR => exact (Kd.C_below HR0.out HB.out)); (case aB => exact HB.out); (case aF => exact (fun _ _ => trivial)); (case aO => exact HO.out); (case aS => exact HB.out.size); (case aL => have := HL.out; simp only [List.length_nil]; omega); intro v2 w2 ho hb hg hat; rw [List.nil_append] at ho; have HB2 := Aside0.mk hb; have HO2 := Aside0.mk ho; clear ho hb hg hat))
  go_ret
  exact ⟨_, rfl, HO2.out, HB2.out⟩
theorem heap_madeR (W : World) (z : Value) (n : Nat) (e : TypeId) : (W.alloc (.cells (madeCells #[z] n) e)).heap[W.heap.size]? = some (.cells (List.replicate n z).toArray e (0, 0)) := by
 have h := (MapKept.heap_alloc W (.cells (madeCells #[z] n) e)).1
 have e1 : madeCells #[z] n = (List.replicate n z).toArray := by
  apply Array.ext
  ·simp [madeCells]
  ·intro i h1 h2
   simp [madeCells, Nat.mod_one]
 exact h.trans (by rw [e1])
theorem rep_cells {w : World} (v : Value) (m : Nat) (ad : Addr) (u : World) (hm : m ≤ 1) (h : u.cell? ad = some v) : ∀ (j : Nat) (x : Value), (List.replicate m v)[j]? = some x → u.cell? (ad.add j) = some x := by
 intro j x hx
 have hj : j < m := by
  rcases Nat.lt_or_ge j m with h | h
  ·exact h
  ·rw [List.getElem?_eq_none (by rw [List.length_replicate]; exact h)] at hx; cases hx
 obtain rfl : j = 0 := by omega
 rw [List.getElem?_replicate, if_pos hj] at hx
 cases hx
 rw [Addr.add_zero']
 exact h
theorem rep_src {w : World} {g m k : Nat} {x : Value} {zs : List Value} {e : TypeId} (h : w.heap[g]? = some (.cells (List.replicate m x ++ zs).toArray e (0, 0))) (hk : k ≤ m) : ∀ (j : Nat) (v : Value), (List.replicate k x)[j]? = some v → w.drew.cell? ((⟨g, 0, none⟩ : Addr).add j) = some v := by
 intro j v hv
 have hj : j < k := by
  rcases Nat.lt_or_ge j k with h | h
  ·exact h
  ·rw [List.getElem?_eq_none (by rw [List.length_replicate]; exact h)] at hv; cases hv
 rw [List.getElem?_replicate, if_pos hj] at hv
 cases hv
 have h2 := blk_cell h j
 have e1 : ((⟨g, 0, none⟩ : Addr).add j) = ⟨g, j, none⟩ := by rw [Addr.add_lit, Nat.zero_add]
 rw [e1]
 refine Eq.trans (show w.drew.cell? ⟨g, j, none⟩ = w.cell? ⟨g, j, none⟩ from rfl) (h2.trans ?_)
 simp [List.getElem?_append_left, List.length_replicate, show j < m by omega]
theorem own_rep {w : World} {g n base : Nat} {v : Value} {e : TypeId} (hg : w.heap[g]? = some (.cells (List.replicate n v).toArray e (0, 0))) (hb : base ≤ g) (hn : n ≤ 1000000) : w.ownsRow base e 1 (.slice (some ⟨g, 0, none⟩) n n) n (List.replicate n v) := by
 have hm : n ≤ Go.maxLen := Nat.le_trans hn (by decide)
 exact ⟨by rw [List.length_replicate, Nat.mul_one], .inr ⟨g, n, _, rfl, hb, hg, Nat.le_refl _, hm, by simp, by simp⟩⟩
theorem splice_rep0 (n k : Nat) (x z : Value) (h : k ≤ n) : Go.splice (List.replicate n z) 0 (List.replicate k x) = List.replicate k x ++ List.replicate (n - k) z := by
 unfold Go.splice
 rw [List.take_zero, List.nil_append, List.length_replicate, List.drop_replicate, Nat.zero_add]
theorem splice_rep (n m k : Nat) (x z : Value) (h : m + k ≤ n) : Go.splice (List.replicate m x ++ List.replicate (n - m) z) m (List.replicate k x) = List.replicate (m + k) x ++ List.replicate (n - (m + k)) z := by
 unfold Go.splice
 rw [List.length_replicate, List.take_append_of_le_length (by rw [List.length_replicate]; omega), List.take_replicate, Nat.min_self, List.drop_append, List.length_replicate, List.drop_of_length_le (l := List.replicate m x) (by rw [List.length_replicate]; omega), List.nil_append, List.drop_replicate, ← List.append_assoc, List.replicate_append_replicate]
 congr 2
 omega
theorem mul1_f (n : Nat) (h : n < 4294967296) : B.bits_Mul.f 1 (n : Int) = some (0, (n : Int)) := by
 have e1 : Go.bits .and .u64 1 4294967295 = 1 := by decide +kernel
 have e2 : Go.bits .and .u64 (n : Int) 4294967295 = (n : Int) := by
  rw [show (4294967295 : Int) = ((4294967295 : Nat) : Int) from rfl, bits_and_u64_nat n 4294967295 (by omega) (by decide)]
  rw [show 4294967295 = 2 ^ 32 - 1 by decide, Nat.and_two_pow_sub_one_eq_mod, Nat.mod_eq_of_lt (by omega)]
 have e0 : Go.bits .and .u64 0 4294967295 = 0 := by decide +kernel
 have e3 : (n : Int) / 4294967296 = 0 := by omega
 have e4 : (1 : Int) / 4294967296 = 0 := by decide
 have w0 : IntKind.u64.wrap 0 = 0 := by decide
 have wn : IntKind.u64.wrap (n : Int) = (n : Int) := by simp [IntKind.wrap, IntKind.signed, IntKind.bits]; omega
 unfold B.bits_Mul.f B.bits_Mul64.f
 simp only [e1, e2, e3, e4, Int.zero_mul, Int.mul_zero, Int.one_mul, w0, wn, Int.zero_add, Int.add_zero, e0, Option.bind_some, Int.zero_ediv]
theorem mul1_calls (n : Nat) (h : n < 4294967296) (w : World) : Calls Tryz.prog 172 #[.int .u64 1, .int .u64 (n : Int)] w fun e w' => e = .returned (.tuple #[.int .u64 0, .int .u64 (n : Int)]) ∧ Below w.heap.size w w' := by
 refine (B.bits_Mul.calls 1 n 0 n w (mul1_f n h)).mono ?_
 rintro e w' ⟨rfl, hd⟩
 exact ⟨rfl, hd.below⟩
set_option maxHeartbeats 4000000 in
set_option maxRecDepth 100000 in
theorem rep64_calls (x : Int) (n : Nat) (hn : n ≤ 1000000) (A0 : Option Addr) (c0 : Nat) (w : World) (hr0 : Kd.C (Kd.int .i64) w A0 1 [x]) :
  Calls Tryz.prog 145 #[.slice A0 1 c0, .int .i64 (n : Int)] w fun e w' => ∃ v : Value, e = .returned v ∧ Kd.R (Kd.int .i64) 2 w' w.heap.size (fun _ => True) v (List.replicate n x) ∧ Below w.heap.size w w' := by
 have HB := Aside0.mk (Below.refl w.heap.size w)
 obtain ⟨ad, e1, hx⟩ := Kd.at_int hr0 0 (by decide) (by decide)
 cases e1
 have hx0 : rd [x] 0 = x := rfl
 rw [hx0, show ad.add (Int.toNat 0) = ad from Addr.add_zero' _] at hx
 have HX := Aside0.mk hx
 have QM := Aside0.mk (fun W => mul1_calls n (by omega) W)
 have hmk := print_make 27 2 .i64 8 Tryz.underlying27 (by kernel_rfl) (by omega) n (by omega)
 have hn0 : decide ((n : Int) < 0) = false := decide_eq_false (by omega)
 have hnm : decide ((9223372036854775807 : Int) < (n : Int)) = false := decide_eq_false (by omega)
 have huw : IntKind.u64.wrap (n : Int) = (n : Int) := by simp [IntKind.wrap, IntKind.signed, IntKind.bits]; omega
 have hsw : IntKind.i64.wrap (n : Int) = (n : Int) := (i64_w _).trans (wrap_id (by omega) (by omega))
 have HN := Aside0.mk hn
 clear hr0 hn hx hx0
 go_enter Tryz.func145, Tryz.ntmps145
 go_wp2_with (first
  | (go_at_call 172; (with_reducible refine (QM.out _).mono ?_); rintro e w1 ⟨rfl, hb⟩; have HB1 := Aside0.mk hb; clear hb)
  | ((with_reducible refine gate_builtin (b := .copy) (xs := #[.tmp 31, .tmp 32]) rfl ?_); go_loud (refine wpList_copy_splice rfl (.tmp 31) (.tmp 32) 27 27 rfl 2 Tryz.underlying27 (by kernel_rfl) (some ⟨w1.heap.size, 0, none⟩) (some ad) n n 1 c0 rfl rfl w1.heap.size 0 (List.replicate n (.int .i64 0)) 2 ?cg (List.replicate (min 1 n) (.int .i64 x)) ?cn ?cp ?cf ?c1 w.heap.size w ?cb ?cB ?_; (case cg => exact heap_madeR w1 _ n _); (case cn => exact List.length_replicate); (case cp => intro hp; exact ⟨rfl, ad, rfl, rep_cells (w := w) _ (min 1 n) ad _ (by omega) (((below_alloc HB1.out _).cell (World.block_lt_of_cell? w _ HX.out)).trans HX.out)⟩); (case cf => rw [List.length_replicate, List.length_replicate]; omega); (case c1 => intro v hv; rw [List.eq_of_mem_replicate hv] <;> rfl); (case cb => exact below_alloc HB1.out _); (case cB => exact HB1.out.size); intro w2 hg hb; have HG2 := Aside0.mk (show w2.heap[w1.heap.size]? = _ from splice_rep0 n (min 1 n) (.int .i64 x) (.int .i64 0) (by omega) ▸ hg.out); have HB2 := Aside0.mk hb; clear hg hb)))
 generalize hgg : w1.heap.size = g at *
 have HGb := Aside0.mk (show w.heap.size ≤ g from hgg ▸ HB1.out.size)
 clear hgg
 go_loopg [8] n (fun kq v8 w' => ∃ m : Nat, v8 = .int .i64 (m : Int) ∧ Aside0 (m ≤ n ∧ n ≤ m + kq ∧ (0 < n → 0 < m)) ∧ Aside0 (w'.heap[g]? = some (.cells (List.replicate m (Value.int .i64 x) ++ List.replicate (n - m) (Value.int .i64 0)).toArray 2 (0, 0))) ∧ Aside0 (Below w.heap.size w w'))
 case atStart => exact ⟨min 1 n, rfl, ⟨by omega, by omega, by omega⟩, ⟨by exact HG2.out⟩, HB2⟩
 case round =>
  obtain ⟨m, rfl, HK, HG, HB⟩ := hrel
  by_cases c1 : m < n
  ·have c1b : decide ((m : Int) < (n : Int)) = true := decide_eq_true (by omega)
   have c1c := decide_eq_true c1
   have hm0 : (0 : Int) ≤ (m : Int) := by omega
   have hmn : (m : Int) ≤ (n : Int) := by omega
   obtain ⟨k1, rfl⟩ : ∃ k1, gk = k1 + 1 := ⟨gk - 1, by have := HK.out; omega⟩
   have hne : (n = m) = False := eq_false (by omega)
   have HC1 := Aside0.mk c1
   clear c1
   go_wp2_with fail
   go_region_law ((refine step_copy_splice rfl (.tmp 41) (.tmp 44) 27 27 rfl 2 Tryz.underlying27 (by kernel_rfl) (some ⟨g, m, none⟩) (some ⟨g, 0, none⟩) (n - m) (n - m) m n ?hd ?hs g m (List.replicate m (Value.int .i64 x) ++ List.replicate (n - m) (Value.int .i64 0)) 2 ?cg (List.replicate (min m (n - m)) (Value.int .i64 x)) ?cn ?cp ?cf ?c1 w.heap.size w ?cb ?cB ?_; (case hd => first | (go_simp; done) | (go_simp; rfl)); (case hs => first | (go_simp; done) | (go_simp; rfl)); (case cg => exact HG.out); (case cn => exact List.length_replicate); (case cp => intro hp; exact ⟨rfl, _, rfl, rep_src HG.out (by omega)⟩); (case cf => rw [List.length_append, List.length_replicate, List.length_replicate, List.length_replicate]; have := HC1.out; omega); (case c1 => intro v hv; rw [List.eq_of_mem_replicate hv] <;> rfl); (case cb => exact below_drew HB.out); (case cB => exact HGb.out); intro w3 hg hb; have HG3 := Aside0.mk (show w3.heap[g]? = _ from splice_rep n m (min m (n - m)) (.int .i64 x) (.int .i64 0) (by have := HC1.out; omega) ▸ hg.out); have HB3 := Aside0.mk hb; clear hg hb))
   have HM := Aside0.mk (show wrap64 ((m : Int) + (min m (n - m) : Nat)) = ((m + min m (n - m) : Nat) : Int) from by unfold wrap64; have := HN.out; have := HC1.out; omega)
   go_wp2_with fail
   go_roundg k1
   case measure => omega
   case rel => exact ⟨m + min m (n - m), congrArg (Value.int .i64) ((i64_w _).trans HM.out), ⟨by have := HK.out; have := HC1.out; omega, by have := HK.out; have := HC1.out; omega, by have := HK.out; have := HC1.out; omega⟩, HG3, HB3⟩
  ·have c1b : decide ((m : Int) < (n : Int)) = false := decide_eq_false (by omega)
   have c1c := decide_eq_false c1
   have hmn : m = n := by have := HK.out; omega
   have HMN := Aside0.mk hmn
   clear c1 hmn
   go_wp2_with fail
   go_ret
   refine ⟨_, rfl, Kd.R_of_own ?_ (fun _ _ => trivial), HB.out⟩
   have hg := HG.out
   rw [HMN.out, Nat.sub_self, List.replicate_zero, List.append_nil] at hg
   have ho := own_rep (base := w.heap.size) hg HGb.out HN.out
   have he : encs (Value.int .i64) (List.replicate n x) = List.replicate n (Value.int .i64 x) := by simp [encs]
   rw [he, List.length_replicate]
   exact ho
set_option maxHeartbeats 4000000 in
set_option maxRecDepth 100000 in
theorem repI_calls (x : Int) (n : Nat) (hn : n ≤ 1000000) (A0 : Option Addr) (c0 : Nat) (w : World) (hr0 : Kd.C (Kd.int .i64) w A0 1 [x]) :
  Calls Tryz.prog 146 #[.slice A0 1 c0, .int .i64 (n : Int)] w fun e w' => ∃ v : Value, e = .returned v ∧ Kd.R (Kd.int .i64) 3 w' w.heap.size (fun _ => True) v (List.replicate n x) ∧ Below w.heap.size w w' := by
 have HB := Aside0.mk (Below.refl w.heap.size w)
 obtain ⟨ad, e1, hx⟩ := Kd.at_int hr0 0 (by decide) (by decide)
 cases e1
 have hx0 : rd [x] 0 = x := rfl
 rw [hx0, show ad.add (Int.toNat 0) = ad from Addr.add_zero' _] at hx
 have HX := Aside0.mk hx
 have QM := Aside0.mk (fun W => mul1_calls n (by omega) W)
 have hmk := print_make 43 3 .i64 8 Tryz.underlying43 (by kernel_rfl) (by omega) n (by omega)
 have hn0 : decide ((n : Int) < 0) = false := decide_eq_false (by omega)
 have hnm : decide ((9223372036854775807 : Int) < (n : Int)) = false := decide_eq_false (by omega)
 have huw : IntKind.u64.wrap (n : Int) = (n : Int) := by simp [IntKind.wrap, IntKind.signed, IntKind.bits]; omega
 have hsw : IntKind.i64.wrap (n : Int) = (n : Int) := (i64_w _).trans (wrap_id (by omega) (by omega))
 have HN := Aside0.mk hn
 clear hr0 hn hx hx0
 go_enter Tryz.func146, Tryz.ntmps146
 go_wp2_with (first
  | (go_at_call 172; (with_reducible refine (QM.out _).mono ?_); rintro e w1 ⟨rfl, hb⟩; have HB1 := Aside0.mk hb; clear hb)
  | ((with_reducible refine gate_builtin (b := .copy) (xs := #[.tmp 31, .tmp 32]) rfl ?_); go_loud (refine wpList_copy_splice rfl (.tmp 31) (.tmp 32) 43 43 rfl 3 Tryz.underlying43 (by kernel_rfl) (some ⟨w1.heap.size, 0, none⟩) (some ad) n n 1 c0 rfl rfl w1.heap.size 0 (List.replicate n (.int .i64 0)) 3 ?cg (List.replicate (min 1 n) (.int .i64 x)) ?cn ?cp ?cf ?c1 w.heap.size w ?cb ?cB ?_; (case cg => exact heap_madeR w1 _ n _); (case cn => exact List.length_replicate); (case cp => intro hp; exact ⟨rfl, ad, rfl, rep_cells (w := w) _ (min 1 n) ad _ (by omega) (((below_alloc HB1.out _).cell (World.block_lt_of_cell? w _ HX.out)).trans HX.out)⟩); (case cf => rw [List.length_replicate, List.length_replicate]; omega); (case c1 => intro v hv; rw [List.eq_of_mem_replicate hv] <;> rfl); (case cb => exact below_alloc HB1.out _); (case cB => exact HB1.out.size); intro w2 hg hb; have HG2 := Aside0.mk (show w2.heap[w1.heap.size]? = _ from splice_rep0 n (min 1 n) (.int .i64 x) (.int .i64 0) (by omega) ▸ hg.out); have HB2 := Aside0.mk hb; clear hg hb)))
 generalize hgg : w1.heap.size = g at *
 have HGb := Aside0.mk (show w.heap.size ≤ g from hgg ▸ HB1.out.size)
 clear hgg
 go_loopg [8] n (fun kq v8 w' => ∃ m : Nat, v8 = .int .i64 (m : Int) ∧ Aside0 (m ≤ n ∧ n ≤ m + kq ∧ (0 < n → 0 < m)) ∧ Aside0 (w'.heap[g]? = some (.cells (List.replicate m (Value.int .i64 x) ++ List.replicate (n - m) (Value.int .i64 0)).toArray 3 (0, 0))) ∧ Aside0 (Below w.heap.size w w'))
 case atStart => exact ⟨min 1 n, rfl, ⟨by omega, by omega, by omega⟩, ⟨by exact HG2.out⟩, HB2⟩
 case round =>
  obtain ⟨m, rfl, HK, HG, HB⟩ := hrel
  by_cases c1 : m < n
  ·have c1b : decide ((m : Int) < (n : Int)) = true := decide_eq_true (by omega)
   have c1c := decide_eq_true c1
   have hm0 : (0 : Int) ≤ (m : Int) := by omega
   have hmn : (m : Int) ≤ (n : Int) := by omega
   obtain ⟨k1, rfl⟩ : ∃ k1, gk = k1 + 1 := ⟨gk - 1, by have := HK.out; omega⟩
   have hne : (n = m) = False := eq_false (by omega)
   have HC1 := Aside0.mk c1
   clear c1
   go_wp2_with fail
   go_region_law ((refine step_copy_splice rfl (.tmp 41) (.tmp 44) 43 43 rfl 3 Tryz.underlying43 (by kernel_rfl) (some ⟨g, m, none⟩) (some ⟨g, 0, none⟩) (n - m) (n - m) m n ?hd ?hs g m (List.replicate m (Value.int .i64 x) ++ List.replicate (n - m) (Value.int .i64 0)) 3 ?cg (List.replicate (min m (n - m)) (Value.int .i64 x)) ?cn ?cp ?cf ?c1 w.heap.size w ?cb ?cB ?_; (case hd => first | (go_simp; done) | (go_simp; rfl)); (case hs => first | (go_simp; done) | (go_simp; rfl)); (case cg => exact HG.out); (case cn => exact List.length_replicate); (case cp => intro hp; exact ⟨rfl, _, rfl, rep_src HG.out (by omega)⟩); (case cf => rw [List.length_append, List.length_replicate, List.length_replicate, List.length_replicate]; have := HC1.out; omega); (case c1 => intro v hv; rw [List.eq_of_mem_replicate hv] <;> rfl); (case cb => exact below_drew HB.out); (case cB => exact HGb.out); intro w3 hg hb; have HG3 := Aside0.mk (show w3.heap[g]? = _ from splice_rep n m (min m (n - m)) (.int .i64 x) (.int .i64 0) (by have := HC1.out; omega) ▸ hg.out); have HB3 := Aside0.mk hb; clear hg hb))
   have HM := Aside0.mk (show wrap64 ((m : Int) + (min m (n - m) : Nat)) = ((m + min m (n - m) : Nat) : Int) from by unfold wrap64; have := HN.out; have := HC1.out; omega)
   go_wp2_with fail
   go_roundg k1
   case measure => omega
   case rel => exact ⟨m + min m (n - m), congrArg (Value.int .i64) ((i64_w _).trans HM.out), ⟨by have := HK.out; have := HC1.out; omega, by have := HK.out; have := HC1.out; omega, by have := HK.out; have := HC1.out; omega⟩, HG3, HB3⟩
  ·have c1b : decide ((m : Int) < (n : Int)) = false := decide_eq_false (by omega)
   have c1c := decide_eq_false c1
   have hmn : m = n := by have := HK.out; omega
   have HMN := Aside0.mk hmn
   clear c1 hmn
   go_wp2_with fail
   go_ret
   refine ⟨_, rfl, Kd.R_of_own ?_ (fun _ _ => trivial), HB.out⟩
   have hg := HG.out
   rw [HMN.out, Nat.sub_self, List.replicate_zero, List.append_nil] at hg
   have ho := own_rep (base := w.heap.size) hg HGb.out HN.out
   have he : encs (Value.int .i64) (List.replicate n x) = List.replicate n (Value.int .i64 x) := by simp [encs]
   rw [he, List.length_replicate]
   exact ho
theorem one_int {k : IntKind} {e : TypeId} {x : Int} (W : World) (b : Nat) (h : W.heap[b]? = some (.cells #[.int k x] e (0, 0))) : Kd.C (Kd.int k) W (some ⟨b, 0, none⟩) 1 [x] := by
 refine ⟨rfl, by simp, fun _ => ⟨_, rfl, fun j p hj => ?_⟩⟩
 rcases j with _ | j
 ·cases hj
  refine ⟨[.int k x], rfl, rfl, fun i u hi => ?_⟩
  rcases i with _ | i
  ·cases hi
   rw [Addr.add_lit]; exact (blk_cell h _).trans rfl
  ·cases hi
 ·cases hj
set_option maxRecDepth 100000 in
theorem row64_calls (n x : Int) (h0 : 0 ≤ n) (h1 : n ≤ 1000000) (w : World) :
  Calls Tryz.prog 115 #[.int .i64 n, .int .i64 x] w fun e w' => ∃ v : Value, e = .returned v ∧ Kd.R (Kd.int .i64) 2 w' w.heap.size (fun _ => True) v (List.replicate n.toNat x) ∧ Below w.heap.size w w' := by
 have HB := Aside0.mk (Below.refl w.heap.size w)
 have QR := Aside0.mk (rep64_calls x n.toNat (by omega) (some ⟨w.heap.size, 0, none⟩) 1 (w.alloc (.cells #[.int .i64 x] 2)) (one_int _ _ (MapKept.heap_alloc w _).1))
 rw [Int.toNat_of_nonneg h0] at QR
 clear h0 h1
 go_enter Tryz.func115, Tryz.ntmps115
 go_wp2_with (go_at_call 145; go_loud ((with_reducible refine QR.out.mono ?_); rintro e w1 ⟨v, rfl, ho, hb⟩; have HO := Aside0.mk (Kd.R_lower ho (below_alloc HB.out _).size); have HB1 := Aside0.mk (below_step (below_alloc HB.out _) hb); clear ho hb))
 go_ret
 exact ⟨_, rfl, HO.out, HB1.out⟩
set_option maxRecDepth 100000 in
theorem rowI_calls (n x : Int) (h0 : 0 ≤ n) (h1 : n ≤ 1000000) (w : World) :
  Calls Tryz.prog 116 #[.int .i64 n, .int .i64 x] w fun e w' => ∃ v : Value, e = .returned v ∧ Kd.R (Kd.int .i64) 3 w' w.heap.size (fun _ => True) v (List.replicate n.toNat x) ∧ Below w.heap.size w w' := by
 have HB := Aside0.mk (Below.refl w.heap.size w)
 have QR := Aside0.mk (repI_calls x n.toNat (by omega) (some ⟨w.heap.size, 0, none⟩) 1 (w.alloc (.cells #[.int .i64 x] 3)) (one_int _ _ (MapKept.heap_alloc w _).1))
 rw [Int.toNat_of_nonneg h0] at QR
 clear h0 h1
 go_enter Tryz.func116, Tryz.ntmps116
 go_wp2_with (go_at_call 146; go_loud ((with_reducible refine QR.out.mono ?_); rintro e w1 ⟨v, rfl, ho, hb⟩; have HO := Aside0.mk (Kd.R_lower ho (below_alloc HB.out _).size); have HB1 := Aside0.mk (below_step (below_alloc HB.out _) hb); clear ho hb))
 go_ret
 exact ⟨_, rfl, HO.out, HB1.out⟩
def stepN (had : List Int) (acc : List Int × List Int) (i : Int) (e : S72) : List Int × List Int :=
 if wrap64 (rd had e.f0 + e.f2) < rd acc.1 e.f1 then (acc.1.set e.f1.toNat (wrap64 (rd had e.f0 + e.f2)), acc.2.set e.f1.toNat i) else acc
def nextL (had : List Int) (es : List S72) : Nat → List Int × List Int
 | 0 => (had, List.replicate had.length (-1))
 | k + 1 => stepN had (nextL had es k) (k : Int) (rd_T72 es (k : Int))
theorem stepN_len (had : List Int) (acc : List Int × List Int) (i : Int) (e : S72) : (stepN had acc i e).1.length = acc.1.length ∧ (stepN had acc i e).2.length = acc.2.length := by
 unfold stepN
 split
 ·exact ⟨List.length_set .., List.length_set ..⟩
 ·exact ⟨rfl, rfl⟩
theorem nextL_len (had : List Int) (es : List S72) : ∀ k, (nextL had es k).1.length = had.length ∧ (nextL had es k).2.length = had.length
 | 0 => ⟨rfl, List.length_replicate⟩
 | k + 1 => by
  have h := stepN_len had (nextL had es k) (k : Int) (rd_T72 es (k : Int))
  have ih := nextL_len had es k
  exact ⟨h.1.trans ih.1, h.2.trans ih.2⟩
def inE (n : Nat) (es : List S72) : Prop := ∀ e ∈ es, 0 ≤ e.f0 ∧ e.f0 < n ∧ 0 ≤ e.f1 ∧ e.f1 < n
instance (n : Nat) : DecidablePred (inE n) := fun es => by unfold inE; infer_instance
theorem rdE_mem (l : List S72) (i : Int) (h0 : 0 ≤ i) (h1 : i < l.length) : rd_T72 l i ∈ l := by
 have hx : i.toNat < l.length := by omega
 rw [show rd_T72 l i = l[i.toNat] by simp [rd_T72, List.getD, hx]]
 exact List.getElem_mem _
theorem results_tmp2' {fn : Func} {a b : Tmp} (h : fn.results = #[.tmp a, .tmp b]) (tmps : Array Value) (P : Program) (w : World) : (results fn tmps).run P w = .ok (.tuple #[tmps.getD a undef, tmps.getD b undef]) w := by
 simp [results, h]
set_option maxHeartbeats 8000000 in
set_option maxRecDepth 100000 in
theorem next_calls (had : List Int) (es : List S72) (hn : had.length ≤ 1000000) (he : es.length ≤ 1000000000) (hin : inE had.length es) (A0 A1 : Option Addr) (c0 c1_ : Nat) (w : World) (hr0 : Kd.C (Kd.int .i64) w A0 had.length had) (hc0 : had.length ≤ c0) (hr1 : Kd.C k72 w A1 es.length es) :
  Calls Tryz.prog 117 #[.slice A0 had.length c0, .slice A1 es.length c1_] w fun e w' => ∃ v1 v2 : Value, e = .returned (.tuple #[v1, v2]) ∧ Kd.R (Kd.int .i64) 2 w' w.heap.size (fun k => some k ≠ v2.ownBlock) v1 (nextL had es es.length).1 ∧ Kd.R (Kd.int .i64) 3 w' w.heap.size (fun k => some k ≠ v1.ownBlock) v2 (nextL had es es.length).2 ∧ Below w.heap.size w w' := by
 have HB0 := Aside0.mk (Below.refl w.heap.size w)
 have HR0 := Aside0.mk hr0
 have HR1 := Aside0.mk hr1
 have HN := Aside0.mk hn
 have HE := Aside0.mk he
 have HIn := Aside0.mk hin
 have QC := Aside0.mk (fun (W : World) (hb : Below w.heap.size w W) => clone64_calls had (by omega) A0 c0 W (Kd.C_below hr0 hb) hc0)
 have QR := Aside0.mk (fun W => rowI_calls (had.length : Int) (-1) (by omega) (by omega) W)
 have HLen := Aside0.mk (nextL_len had es)
 clear hr0 hr1 hn he hin hc0
 go_enter Tryz.func117, Tryz.ntmps117
 go_wp2_with (first
  | (go_at_call 147; (with_reducible refine (QC.out _ HB0.out).mono ?_); rintro e w1 ⟨v1, rfl, ho, hb⟩; have HB1 := Aside0.mk hb; have HO1 := Aside0.mk ho; clear ho hb)
  | (go_at_call 116; (with_reducible refine (QR.out _).mono ?_); rintro e w2 ⟨v2, rfl, ho, hb⟩; have HB2 := Aside0.mk (below_step HB1.out hb); have HH2 := Aside0.mk (Kd.R_elder' HO1.out (Kd.R_base ho) hb); have HY2 := Aside0.mk (Kd.R_lower (Kd.R_new' ho (Kd.R_lt HO1.out)) HB1.out.size); clear ho hb))
 obtain ⟨A6, c6, rfl⟩ := Kd.R_slice HH2.out
 obtain ⟨A7, c7, rfl⟩ := Kd.R_slice HY2.out
 have e7 : (List.replicate ((had.length : Nat) : Int).toNat (-1 : Int)).length = had.length := by rw [List.length_replicate]; omega
 have HY3 := HY2.out
 rw [e7, show ((had.length : Nat) : Int).toNat = had.length from rfl] at HY3
 have HY4 := Aside0.mk HY3
 simp only [e7]
 clear HY3 HY2 HO1 QC QR
 go_loopg [18] es.length (fun kq v18 w' => ∃ x18 : Int, v18 = .int .i64 x18 ∧ Aside0 (0 ≤ x18 ∧ x18 + kq = es.length) ∧ Aside0 (Kd.R (Kd.int .i64) 2 w' w.heap.size (fun k => some k ≠ (Value.slice A7 had.length c7).ownBlock) (.slice A6 had.length c6) (nextL had es x18.toNat).1) ∧ Aside0 (Kd.R (Kd.int .i64) 3 w' w.heap.size (fun k => some k ≠ (Value.slice A6 had.length c6).ownBlock) (.slice A7 had.length c7) (nextL had es x18.toNat).2) ∧ Aside0 (Below w.heap.size w w'))
 case atStart => exact ⟨0, rfl, ⟨by omega, by omega⟩, ⟨Kd.R_mono HH2.out (fun _ hk h => hk.2 (h.trans (own_len _ _ _ _ _)))⟩, ⟨Kd.R_mono HY4.out (fun _ hk => hk.2)⟩, HB2⟩
 case round =>
  clear HH2 HY4 HB2 HB1
  obtain ⟨x18, rfl, HK, HH, HY, HB⟩ := hrel
  by_cases c1 : x18 < (es.length : Int)
  ·have c1b := decide_eq_true c1
   have p1 : 0 ≤ x18 := HK.out.1
   obtain ⟨ad1, e1, hx0, hx1, hx2, hx3, hx4, hx5⟩ := at_T72 HR1.out x18 p1 c1
   cases e1
   replace hx0 := zc HB.out hx0
   replace hx1 := zc HB.out hx1
   replace hx2 := zc HB.out hx2
   replace hx3 := zc HB.out hx3
   replace hx4 := zc HB.out hx4
   replace hx5 := zc HB.out hx5
   obtain ⟨i0, i1, i2, i3⟩ := HIn.out _ (rdE_mem es x18 p1 c1)
   have HS := Aside0.mk (show nextL had es (x18 + 1).toNat = stepN had (nextL had es x18.toNat) x18 (rd_T72 es x18) from by
    rw [show (x18 + 1).toNat = x18.toNat + 1 by omega]
    show stepN had (nextL had es x18.toNat) (x18.toNat : Int) (rd_T72 es (x18.toNat : Int)) = _
    rw [show (x18.toNat : Int) = x18 by omega])
   have HLx := Aside0.mk (HLen.out x18.toNat)
   have P1 := Aside0.mk p1
   have Q1 := Aside0.mk c1
   have W1 := Aside0.mk (show wrap64 (x18 + 1) = x18 + 1 from by unfold wrap64; have := HE.out; have := P1.out; have := Q1.out; omega)
   obtain ⟨ad0, e0, hh⟩ := Kd.at_int HR0.out (rd_T72 es x18).f0 i0 i1
   cases e0
   replace hh := zc HB.out hh
   generalize rd_T72 es x18 = e at *
   generalize nextL had es x18.toNat = acc at *
   obtain ⟨ha, hb_⟩ := HLx.out
   have hg6 : ∃ g6, A6 = some ⟨g6, 0, none⟩ ∧ w.heap.size ≤ g6 := by
    have ho := (Kd.own_of_R HH.out).2
    rcases ho with ⟨h, h'⟩ | ⟨g, cap, cur, h, hbg, _⟩
    ·exfalso; omega
    ·injection h with h h2 h3; exact ⟨g, h, hbg⟩
   have hg7 : ∃ g7, A7 = some ⟨g7, 0, none⟩ ∧ w.heap.size ≤ g7 := by
    have ho := (Kd.own_of_R HY.out).2
    rcases ho with ⟨h, h'⟩ | ⟨g, cap, cur, h, hbg, _⟩
    ·exfalso; omega
    ·injection h with h h2 h3; exact ⟨g, h, hbg⟩
   obtain ⟨g6, rfl, hb6⟩ := hg6
   obtain ⟨g7, rfl, hb7⟩ := hg7
   obtain ⟨q6, e6, hc6⟩ := Kd.at_int (Kd.R_reads' HH.out).2.2 e.f1 i2 (by rw [← ha] at i3; exact i3)
   cases e6
   obtain ⟨q7, e7, hc7⟩ := Kd.at_int (Kd.R_reads' HY.out).2.2 e.f1 i2 (by rw [← hb_] at i3; exact i3)
   cases e7
   have d67 : g6 ≠ g7 := fun h => HH.out.1 g6 rfl (by rw [h]; rfl)
   have HD := Aside0.mk d67
   have l6 := World.block_lt_of_cell? wr _ hc6
   have l7 := World.block_lt_of_cell? wr _ hc7
   rw [Addr.add_lit, Nat.zero_add] at hc6 hc7 l6 l7
   have L6 := Aside0.mk (show g6 < wr.heap.size from l6)
   have L7 := Aside0.mk (show g7 < wr.heap.size from l7)
   have HC6 := Aside0.mk hc6
   have HC7 := Aside0.mk hc7
   have hv := Aside0.mk (show wrap64 (rd had e.f0 + e.f2) = wrap64 (rd had e.f0 + e.f2) from rfl)
   have HA := Aside0.mk ha
   have HBn := Aside0.mk hb_
   have hh1 := fun o => keep1r (o1 := o) hh
   have hst := Aside0.mk (show stepN had acc x18 e = if wrap64 (rd had e.f0 + e.f2) < rd acc.1 e.f1 then (acc.1.set e.f1.toNat (wrap64 (rd had e.f0 + e.f2)), acc.2.set e.f1.toNat x18) else acc from rfl)
   clear hc6 hc7 l6 l7 d67 ha hb_ HLx hv hh
   generalize rd had e.f0 = hf at *
   replace p1 := eq_true p1
   replace c1 := eq_true c1
   replace i0 := eq_true i0
   replace i1 := eq_true i1
   have I2 := Aside0.mk i2
   have I3 := Aside0.mk i3
   replace i2 := eq_true i2
   replace i3 := eq_true i3
   obtain ⟨k1, rfl⟩ : ∃ k1, gk = k1 + 1 := ⟨gk - 1, by have := HK.out; have := Q1.out; omega⟩
   go_upto_region 5 with (fail)
   go_cut [8, 9, 10, 16, 17, 18] (fun v8 v9 v10 v16 v17 v18 wc => v8 = .int .i64 x18 ∧ v16 = .slice (some ad1) es.length c1_ ∧ v17 = .int .i64 es.length ∧ v18 = .int .i64 x18 ∧ v10 = .int .i64 (wrap64 (hf + e.f2)) ∧ ∃ ke : Nat, v9 = .pointer (some ⟨ke, 0, none⟩) ∧ Aside0 (wr.heap.size ≤ ke ∧ wc.heap[ke]? = some (.cells #[.int .i64 e.f0, .int .i64 e.f1, .int .i64 e.f2, .int .i64 e.f3.f0, .int .i64 e.f3.f1, .bool e.f4] 72 (0, 0))) ∧ Aside0 (Below wr.heap.size wr wc))
   case first =>
    go_quiet (fail)
    go_wp2_with fail
    go_meet
    case rel => exact ⟨rfl, rfl, rfl, rfl, rfl, _, rfl, ⟨Nat.le_refl _, (MapKept.heap_alloc wr _).1⟩, ⟨pw_below_drewN (below_alloc (Below.refl wr.heap.size wr) _) _⟩⟩
   case rest =>
    obtain ⟨rfl, rfl, rfl, rfl, rfl, ke, rfl, HKE, HBW⟩ := hcut
    obtain ⟨w5, rfl⟩ : ∃ w5 : World, w5 = wc := ⟨_, rfl⟩
    clear hx0 hx1 hx2 hx3 hx4 hx5 hh1
    have hk0 : w5.cell? ⟨ke, 0, none⟩ = some (.int .i64 e.f0) := (blk_cell HKE.out.2 0).trans rfl
    have hk1 : w5.cell? ⟨ke, 1, none⟩ = some (.int .i64 e.f1) := (blk_cell HKE.out.2 1).trans rfl
    have hk2 : w5.cell? ⟨ke, 2, none⟩ = some (.int .i64 e.f2) := (blk_cell HKE.out.2 2).trans rfl
    have hc6 := (HBW.out.cell (World.block_lt_of_cell? wr _ HC6.out)).trans HC6.out
    have hc7 := (HBW.out.cell (World.block_lt_of_cell? wr _ HC7.out)).trans HC7.out
    have HH5 := Aside0.mk (Kd.R_below HH.out HBW.out)
    have HY5 := Aside0.mk (Kd.R_below HY.out HBW.out)
    have HB5 := Aside0.mk (below_step HB.out HBW.out)
    by_cases c2 : wrap64 (hf + e.f2) < rd acc.1 e.f1
    ·have c2b := decide_eq_true c2
     have HST := hst.out
     rw [if_pos c2] at HST
     have HS2 := Aside0.mk (HS.out.trans HST)
     clear c2 HST hst HS
     generalize wrap64 (hf + e.f2) = x at *
     have n6 : ke ≠ g6 := by have := HKE.out.1; have := L6.out; omega
     have n7 : ke ≠ g7 := by have := HKE.out.1; have := L7.out; omega
     obtain ⟨cur6, hw6⟩ : ∃ cur, w5.heap[g6]? = some (.cells cur 2 (0, 0)) := by
      rcases (Kd.own_of_R HH5.out).2 with ⟨h, _⟩ | ⟨g, cap, cur, h, hbg, hh, _⟩
      ·injection h with h1; cases h1
      ·have hg : g6 = g := by
        injection h with h1
        injection h1 with h1
        injection h1
       subst hg
       exact ⟨cur, hh⟩
     obtain ⟨cur7, hw7⟩ : ∃ cur, w5.heap[g7]? = some (.cells cur 3 (0, 0)) := by
      rcases (Kd.own_of_R HY5.out).2 with ⟨h, _⟩ | ⟨g, cap, cur, h, hbg, hh, _⟩
      ·injection h with h1; cases h1
      ·have hg : g7 = g := by
        injection h with h1
        injection h1 with h1
        injection h1
       subst hg
       exact ⟨cur, hh⟩
     have f6 := blk_frozen hw6 e.f1.toNat
     have f7 := fun u => blk_frozen ((Below.heap_setCell w5 ⟨g6, e.f1.toNat, none⟩ u g7 (fun h => HD.out h.symm)).trans hw7) e.f1.toNat
     have f7' := blk_frozen hw7 e.f1.toNat
     have s1 : ∀ u, (w5.setCell ⟨g6, e.f1.toNat, none⟩ u).cell? ⟨ke, 1, none⟩ = some (.int .i64 e.f1) := fun u => (blk_cell ((Below.heap_setCell w5 ⟨g6, e.f1.toNat, none⟩ u ke n6).trans HKE.out.2) 1).trans rfl
     have s7 : ∀ u, (w5.setCell ⟨g6, e.f1.toNat, none⟩ u).cell? ⟨g7, e.f1.toNat, none⟩ = some (.int .i64 (rd acc.2 e.f1)) := fun u => (blk_cell ((Below.heap_setCell w5 ⟨g6, e.f1.toNat, none⟩ u g7 (fun h => HD.out h.symm)).trans hw7) _).trans ((blk_cell hw7 _).symm.trans hc7)
     clear hw6 hw7 n6 n7
     go_wp2_with fail
     go_region
     all_goals
      go_wp2_with fail
      go_roundg k1
      case measure => omega
      case rel => exact ⟨x18 + 1, by rw [W1.out], ⟨by have := P1.out; omega, by have := HK.out; omega⟩, ⟨by rw [HS2.out]; (repeat (first | apply Kd.R_drewN | apply Kd.R_drew)); exact Kd.R_far (Kd.R_putn HH5.out e.f1 x) (fun k hk h => hk (by rw [h]; rfl)) _⟩, ⟨by rw [HS2.out]; (repeat (first | apply Kd.R_drewN | apply Kd.R_drew)); exact Kd.R_putn (Kd.R_far HY5.out (p := ⟨g6, e.f1.toNat, none⟩) (fun k hk h => hk (by rw [h]; rfl)) _) e.f1 x18⟩, ⟨by (repeat (first | apply pw_below_drewN | apply below_drew)); exact below_set (below_set HB5.out hb6) hb7⟩⟩
    ·have c2b := decide_eq_false c2
     have HST := hst.out
     rw [if_neg c2] at HST
     have HS2 := Aside0.mk (HS.out.trans HST)
     clear c2 HST hst HS
     go_wp2_with fail
     go_roundg k1
     case measure => omega
     case rel => exact ⟨x18 + 1, by rw [W1.out], ⟨by have := P1.out; omega, by have := HK.out; omega⟩, ⟨by rw [HS2.out]; exact HH5.out⟩, ⟨by rw [HS2.out]; exact HY5.out⟩, HB5⟩
  ·have c1b := decide_eq_false c1
   have hx : x18.toNat = es.length := by have := HK.out; omega
   have HX := Aside0.mk hx
   clear c1 hx
   go_wp2_with fail
   refine bodyPost_ret (results_tmp2' rfl _ _ _) rfl ?_
   refine ⟨_, _, rfl, ?_, ?_, HB.out⟩
   ·have h := HH.out; rw [HX.out] at h; exact h
   ·have h := HY.out; rw [HX.out] at h; exact h
end Go.Proofs.YtgknjgionicncaaGreat.L
namespace Go.Proofs.YtgknjgionicncaaGreat.X
open Go.RowKit Go.Proofs.YtgknjgionicncaaGreat.Q Go.Proofs.YtgknjgionicncaaGreatW.PrintWords Go.Proofs.YtgknjgionicncaaGreatW.PrintLast Go.Proofs.YtgknjgionicncaaGreatW.PrintMore
attribute [local go_sem] max2_int min2_int max_two min_two max_three min_three max_four min_four
set_option linter.unusedVariables false
set_option linter.unusedSimpArgs false
def rd_L11 (xs : List (List S72)) (i : Int) : (List S72) := xs.getD i.toNat ([] : List S72)
theorem at_L11 {w : World} {A : Option Addr} {n : Nat} {xs : List (List S72)} (h : Kd.C (Kd.slice 72 k72) w A n xs) (i : Int) (h0 : 0 ≤ i) (h1 : i < n) : ∃ ad A0 c0, A = some ad ∧ w.cell? (ad.add i.toNat) = some (.slice A0 (rd_L11 xs i).length c0) ∧ (rd_L11 xs i).length ≤ c0 ∧ k72.C w A0 (rd_L11 xs i).length (rd_L11 xs i) := by
 obtain ⟨ad, c, e, _, hK, hc0⟩ := Kd.C_get h ([] : List S72) i h0 h1
 have hc : ∀ j u, c[j]? = some u → w.cell? (ad.add (i.toNat * 1 + j)) = some u := hc0
 obtain ⟨A0, c0, rfl, l0, g0⟩ := hK
 exact ⟨ad, A0, c0, e, by have hq := hc 0 _ rfl; rwa [Nat.mul_one, Nat.add_zero] at hq, l0, g0⟩
end Go.Proofs.YtgknjgionicncaaGreat.X
namespace Go.Proofs.YtgknjgionicncaaGreat.Q
open Go.RowKit Go.Proofs.YtgknjgionicncaaGreatW.PrintWords Go.Proofs.YtgknjgionicncaaGreatW.PrintLast Go.Proofs.YtgknjgionicncaaGreatW.PrintMore
attribute [local go_sem] max2_int min2_int max_two min_two max_three min_three max_four min_four
set_option linter.unusedVariables false
set_option linter.unusedSimpArgs false
def span_letter.f (a0 : Int) : Option (Bool) := if a0 ≥ 97 then (if a0 ≤ 122 then (some true) else (if a0 ≥ 48 then (if a0 ≤ 57 then (some true) else (if a0 = 45 then (some true) else (if a0 = 46 then (some true) else (some (a0 == 95))))) else (if a0 = 45 then (some true) else (if a0 = 46 then (some true) else (some (a0 == 95)))))) else (if a0 ≥ 48 then (if a0 ≤ 57 then (some true) else (if a0 = 45 then (some true) else (if a0 = 46 then (some true) else (some (a0 == 95))))) else (if a0 = 45 then (some true) else (if a0 = 46 then (some true) else (some (a0 == 95)))))
set_option maxHeartbeats 8000000 in
set_option maxRecDepth 100000 in
theorem span_letter.calls (a0 : Int) (r : Bool) (w : World) (h : span_letter.f a0 = some r) :
  Calls Tryz.prog 130 #[.int .u8 a0] w fun e w' => e = .returned (.bool r) ∧ Drawn0 w w' := by
 have H : (if a0 ≥ 97 then (if a0 ≤ 122 then (some true) else (if a0 ≥ 48 then (if a0 ≤ 57 then (some true) else (if a0 = 45 then (some true) else (if a0 = 46 then (some true) else (some (a0 == 95))))) else (if a0 = 45 then (some true) else (if a0 = 46 then (some true) else (some (a0 == 95)))))) else (if a0 ≥ 48 then (if a0 ≤ 57 then (some true) else (if a0 = 45 then (some true) else (if a0 = 46 then (some true) else (some (a0 == 95))))) else (if a0 = 45 then (some true) else (if a0 = 46 then (some true) else (some (a0 == 95)))))) = some r := h
 clear h
 by_cases c2 : a0 ≥ 97
 ·rw [if_pos c2] at H
  have c2b0 : decide (97 ≤ a0) = true := decide_eq_true c2
  clear c2
  by_cases c3 : a0 ≤ 122
  ·rw [if_pos c3] at H
   have c3b0 := decide_eq_true c3
   clear c3
   obtain rfl := Option.some.inj H
   go_enter Tryz.func130, Tryz.ntmps130
   go_wp2
   go_ret
   exact ⟨zE, zD0⟩
  ·rw [if_neg c3] at H
   have c3b0 := decide_eq_false c3
   clear c3
   by_cases c4 : a0 ≥ 48
   ·rw [if_pos c4] at H
    have c4b0 : decide (48 ≤ a0) = true := decide_eq_true c4
    clear c4
    by_cases c5 : a0 ≤ 57
    ·rw [if_pos c5] at H
     have c5b0 := decide_eq_true c5
     clear c5
     obtain rfl := Option.some.inj H
     go_enter Tryz.func130, Tryz.ntmps130
     go_wp2
     go_ret
     exact ⟨zE, zD0⟩
    ·rw [if_neg c5] at H
     have c5b0 := decide_eq_false c5
     clear c5
     by_cases c6 : a0 = 45
     ·rw [if_pos c6] at H
      have c6b0 : (a0 == 45) = true := beq_iff_eq.mpr c6
      have c6b1 : (a0 != 45) = false := bne_eq_false_iff_eq.mpr c6
      clear c6
      obtain rfl := Option.some.inj H
      go_enter Tryz.func130, Tryz.ntmps130
      go_wp2
      go_ret
      exact ⟨zE, zD0⟩
     ·rw [if_neg c6] at H
      have c6b0 : (a0 == 45) = false := beq_eq_false_iff_ne.mpr c6
      have c6b1 : (a0 != 45) = true := bne_iff_ne.mpr c6
      by_cases c7 : a0 = 46
      ·rw [if_pos c7] at H
       have c7b0 : (a0 == 46) = true := beq_iff_eq.mpr c7
       have c7b1 : (a0 != 46) = false := bne_eq_false_iff_eq.mpr c7
       clear c7
       obtain rfl := Option.some.inj H
       go_enter Tryz.func130, Tryz.ntmps130
       go_wp2
       go_ret
       exact ⟨zE, zD0⟩
      ·rw [if_neg c7] at H
       have c7b0 : (a0 == 46) = false := beq_eq_false_iff_ne.mpr c7
       have c7b1 : (a0 != 46) = true := bne_iff_ne.mpr c7
       obtain rfl := Option.some.inj H
       go_enter Tryz.func130, Tryz.ntmps130
       go_wp2
       go_ret
       exact ⟨zE, zD0⟩
   ·rw [if_neg c4] at H
    have c4b0 : decide (48 ≤ a0) = false := decide_eq_false c4
    clear c4
    by_cases c8 : a0 = 45
    ·rw [if_pos c8] at H
     have c8b0 : (a0 == 45) = true := beq_iff_eq.mpr c8
     have c8b1 : (a0 != 45) = false := bne_eq_false_iff_eq.mpr c8
     clear c8
     obtain rfl := Option.some.inj H
     go_enter Tryz.func130, Tryz.ntmps130
     go_wp2
     go_ret
     exact ⟨zE, zD0⟩
    ·rw [if_neg c8] at H
     have c8b0 : (a0 == 45) = false := beq_eq_false_iff_ne.mpr c8
     have c8b1 : (a0 != 45) = true := bne_iff_ne.mpr c8
     by_cases c9 : a0 = 46
     ·rw [if_pos c9] at H
      have c9b0 : (a0 == 46) = true := beq_iff_eq.mpr c9
      have c9b1 : (a0 != 46) = false := bne_eq_false_iff_eq.mpr c9
      clear c9
      obtain rfl := Option.some.inj H
      go_enter Tryz.func130, Tryz.ntmps130
      go_wp2
      go_ret
      exact ⟨zE, zD0⟩
     ·rw [if_neg c9] at H
      have c9b0 : (a0 == 46) = false := beq_eq_false_iff_ne.mpr c9
      have c9b1 : (a0 != 46) = true := bne_iff_ne.mpr c9
      obtain rfl := Option.some.inj H
      go_enter Tryz.func130, Tryz.ntmps130
      go_wp2
      go_ret
      exact ⟨zE, zD0⟩
 ·rw [if_neg c2] at H
  have c2b0 : decide (97 ≤ a0) = false := decide_eq_false c2
  clear c2
  by_cases c10 : a0 ≥ 48
  ·rw [if_pos c10] at H
   have c10b0 : decide (48 ≤ a0) = true := decide_eq_true c10
   clear c10
   by_cases c11 : a0 ≤ 57
   ·rw [if_pos c11] at H
    have c11b0 := decide_eq_true c11
    clear c11
    obtain rfl := Option.some.inj H
    go_enter Tryz.func130, Tryz.ntmps130
    go_wp2
    go_ret
    exact ⟨zE, zD0⟩
   ·rw [if_neg c11] at H
    have c11b0 := decide_eq_false c11
    clear c11
    by_cases c12 : a0 = 45
    ·rw [if_pos c12] at H
     have c12b0 : (a0 == 45) = true := beq_iff_eq.mpr c12
     have c12b1 : (a0 != 45) = false := bne_eq_false_iff_eq.mpr c12
     clear c12
     obtain rfl := Option.some.inj H
     go_enter Tryz.func130, Tryz.ntmps130
     go_wp2
     go_ret
     exact ⟨zE, zD0⟩
    ·rw [if_neg c12] at H
     have c12b0 : (a0 == 45) = false := beq_eq_false_iff_ne.mpr c12
     have c12b1 : (a0 != 45) = true := bne_iff_ne.mpr c12
     by_cases c13 : a0 = 46
     ·rw [if_pos c13] at H
      have c13b0 : (a0 == 46) = true := beq_iff_eq.mpr c13
      have c13b1 : (a0 != 46) = false := bne_eq_false_iff_eq.mpr c13
      clear c13
      obtain rfl := Option.some.inj H
      go_enter Tryz.func130, Tryz.ntmps130
      go_wp2
      go_ret
      exact ⟨zE, zD0⟩
     ·rw [if_neg c13] at H
      have c13b0 : (a0 == 46) = false := beq_eq_false_iff_ne.mpr c13
      have c13b1 : (a0 != 46) = true := bne_iff_ne.mpr c13
      obtain rfl := Option.some.inj H
      go_enter Tryz.func130, Tryz.ntmps130
      go_wp2
      go_ret
      exact ⟨zE, zD0⟩
  ·rw [if_neg c10] at H
   have c10b0 : decide (48 ≤ a0) = false := decide_eq_false c10
   clear c10
   by_cases c14 : a0 = 45
   ·rw [if_pos c14] at H
    have c14b0 : (a0 == 45) = true := beq_iff_eq.mpr c14
    have c14b1 : (a0 != 45) = false := bne_eq_false_iff_eq.mpr c14
    clear c14
    obtain rfl := Option.some.inj H
    go_enter Tryz.func130, Tryz.ntmps130
    go_wp2
    go_ret
    exact ⟨zE, zD0⟩
   ·rw [if_neg c14] at H
    have c14b0 : (a0 == 45) = false := beq_eq_false_iff_ne.mpr c14
    have c14b1 : (a0 != 45) = true := bne_iff_ne.mpr c14
    by_cases c15 : a0 = 46
    ·rw [if_pos c15] at H
     have c15b0 : (a0 == 46) = true := beq_iff_eq.mpr c15
     have c15b1 : (a0 != 46) = false := bne_eq_false_iff_eq.mpr c15
     clear c15
     obtain rfl := Option.some.inj H
     go_enter Tryz.func130, Tryz.ntmps130
     go_wp2
     go_ret
     exact ⟨zE, zD0⟩
    ·rw [if_neg c15] at H
     have c15b0 : (a0 == 46) = false := beq_eq_false_iff_ne.mpr c15
     have c15b1 : (a0 != 46) = true := bne_iff_ne.mpr c15
     obtain rfl := Option.some.inj H
     go_enter Tryz.func130, Tryz.ntmps130
     go_wp2
     go_ret
     exact ⟨zE, zD0⟩
mutual
def span_Name.j0 : Nat → ByteArray → Bool → Option (Bool)
 | 0, _, _ => none
 | k + 1, x0, x11 => if x11 = true then (some false) else (span_Name.l0 k x0 (x0.size : Int) 0)
def span_Name.l0 : Nat → ByteArray → Int → Int → Option (Bool)
 | 0, _, _, _ => none
 | k + 1, x0, x13, x14 => if x14 < x13 then (if 0 ≤ x14 then (if x14 < (x0.size : Int) then ((span_letter.f (bt x0 x14)).bind fun t101 => (if t101 = true then (span_Name.l0 k x0 x13 (wrap64 (x14 + 1))) else (some false))) else (none)) else (none)) else (some true)
end
def span_Name.f (k : Nat) (a0 : ByteArray) : Option (Bool) := if (a0.size : Int) < 1 then (span_Name.j0 k a0 true) else (span_Name.j0 k a0 (decide ((a0.size : Int) > 16)))
theorem span_Name.mono_l : ∀ k, (∀ y0 y1, LeO (span_Name.j0 k y0 y1) (span_Name.j0 (k + 1) y0 y1)) ∧ (∀ y0 y1 y2, LeO (span_Name.l0 k y0 y1 y2) (span_Name.l0 (k + 1) y0 y1 y2))
 | 0 => ⟨fun _ _ r h => by simp [span_Name.j0] at h, fun _ _ _ r h => by simp [span_Name.l0] at h⟩
 | k + 1 => by
  obtain ⟨ih0, ih1⟩ := span_Name.mono_l k
  refine ⟨?_, ?_⟩
  ·intro y0 y1
   unfold span_Name.j0
   exact zM
  ·intro y0 y1 y2
   unfold span_Name.l0
   exact zM
theorem span_Name.mono : ∀ a0 k, LeO (span_Name.f k a0) (span_Name.f (k + 1) a0) := by
 intro a0 k
 obtain ⟨ih0, ih1⟩ := span_Name.mono_l k
 unfold span_Name.f
 exact zM
set_option maxHeartbeats 8000000 in
set_option maxRecDepth 100000 in
theorem span_Name.calls (k : Nat) (a0 : ByteArray) (r : Bool) (w : World) (h : span_Name.f k a0 = some r) :
  Calls Tryz.prog 96 #[.string a0] w fun e w' => e = .returned (.bool r) ∧ Drawn0 w w' := by
 have H : (if (a0.size : Int) < 1 then (span_Name.j0 k a0 true) else (span_Name.j0 k a0 (decide ((a0.size : Int) > 16)))) = some r := h
 clear h
 have HC2 := Aside0.mk H
 clear H
 go_enter Tryz.func96, Tryz.ntmps96
 go_upto_region 1 with (fail)
 go_cut [11] (fun v11 wc => ∃ (kq : Nat) (x11_1 : Bool), v11 = .bool x11_1 ∧ Aside0 (span_Name.j0 kq a0 x11_1 = some r) ∧ Aside0 (kq ≤ k) ∧ Drawn0 w wc)
 case first =>
  have H := HC2.out
  clear HC2
  by_cases c3 : (a0.size : Int) < 1
  ·rw [if_pos c3] at H
   have c3b0 := decide_eq_true c3
   have c3b1 : decide (a0.size < 1) = true := decide_eq_true (by omega)
   clear c3
   (first | rw [c3b0] | (simp only [i64_w, i32_w]; rw [c3b0]) | skip)
   have H' := Aside0.mk H
   clear H
   go_wp2
   go_meet
   case rel => exact ⟨_, (true), zE, H', ⟨by first | omega | exact Nat.le_refl _⟩, zD0⟩
  ·rw [if_neg c3] at H
   have c3b0 := decide_eq_false c3
   have c3b1 : decide (a0.size < 1) = false := decide_eq_false (by omega)
   clear c3
   (first | rw [c3b0] | (simp only [i64_w, i32_w]; rw [c3b0]) | skip)
   have H' := Aside0.mk H
   clear H
   go_wp2
   go_meet
   case rel => exact ⟨_, (decide ((a0.size : Int) > 16)), zE, H', ⟨by first | omega | exact Nat.le_refl _⟩, zD0⟩
 case rest =>
  clear HC2
  (try clear p2); (try clear c3); (try clear c3b0); (try clear c3b1)
  obtain ⟨kq, x11_1, rfl, HA, HJ1, ⟨mc1, rfl⟩⟩ := hcut
  cases kq with
  | zero => exact absurd HA.out (by simp [span_Name.j0])
  | succ kj1 =>
   have H := HA.out
   clear HA
   simp only [span_Name.j0] at H
   by_cases c4 : x11_1 = true
   ·subst c4
    rw [if_pos rfl] at H
    obtain rfl := Option.some.inj H
    go_wp2
    go_ret
    exact ⟨zE, zD0⟩
   ·replace c4 := Bool.eq_false_iff.mpr c4
    subst c4
    rw [if_neg (show ¬ (false = true) by decide)] at H
    have H' := Aside0.mk H
    clear H
    go_wp2
    go_loopg [14] kj1 (fun kq v14 w' => ∃ (x14_2 : Int), v14 = .int .i64 x14_2 ∧ Aside0 (span_Name.l0 kq a0 (a0.size : Int) x14_2 = some r) ∧ Aside0 (kq ≤ kj1) ∧ Drawn0 w w')
    case atStart => exact ⟨(0), zE, H', ⟨Nat.le_refl _⟩, zD0⟩
    case round =>
     clear H'
     (try clear c1); (try clear p2); (try clear c3); (try clear c3b0); (try clear c3b1); (try clear c4); (try clear p2)
     obtain ⟨x14_2, rfl, HA, HK2, ⟨m2, rfl⟩⟩ := hrel
     cases gk with
     | zero => exact absurd HA.out (by simp [span_Name.l0])
     | succ k2 =>
      have H := HA.out
      clear HA
      simp only [span_Name.l0] at H
      by_cases c5 : x14_2 < (a0.size : Int)
      ·rw [if_pos c5] at H
       have c5b0 := decide_eq_true c5
       clear c5
       obtain ⟨c6b0, H⟩ := zt H
       obtain ⟨c7b0, H⟩ := zt H
       replace H := Option.bind_eq_some_iff.mp H
       obtain ⟨t101, A90, H⟩ := H
       have A9 := Aside0.mk A90
       clear A90
       by_cases c10 : t101 = true
       ·subst c10
        rw [if_pos rfl] at H
        have H' := Aside0.mk H
        clear H
        have p8 : 0 ≤ (x14_2 : Int) := of_decide_eq_true zA
        have q8 : x14_2 < (a0.size : Int) := of_decide_eq_true zA
        have hx8 := bt_at a0 x14_2
        replace p8 := eq_true p8
        replace q8 := eq_true q8
        go_wp2_with (first | ((with_reducible refine gate_callee (f := 130) rfl ?_); refine goesL_ (some 20) rfl rfl Tryz.func130 (by kernel_rfl) rfl #[.int .u8 (bt a0 x14_2)] rfl zL ?_; (with_reducible refine (span_letter.calls (bt a0 x14_2) true _ A9.out).mono ?_); rintro e w' ⟨rfl, ⟨nd, rfl⟩⟩; refine ⟨_, rfl, ?_⟩))
        go_roundg k2
        case measure => have := HJ1.out; have := HK2.out; omega
        case rel => exact ⟨(wrap64 (x14_2 + 1)), zE, H', ⟨by have := HJ1.out; have := HK2.out; omega⟩, zD0⟩
       ·replace c10 := Bool.eq_false_iff.mpr c10
        subst c10
        rw [if_neg (show ¬ (false = true) by decide)] at H
        obtain rfl := Option.some.inj H
        have p8 : 0 ≤ (x14_2 : Int) := of_decide_eq_true zA
        have q8 : x14_2 < (a0.size : Int) := of_decide_eq_true zA
        have hx8 := bt_at a0 x14_2
        replace p8 := eq_true p8
        replace q8 := eq_true q8
        go_wp2_with (first | ((with_reducible refine gate_callee (f := 130) rfl ?_); refine goesL_ (some 20) rfl rfl Tryz.func130 (by kernel_rfl) rfl #[.int .u8 (bt a0 x14_2)] rfl zL ?_; (with_reducible refine (span_letter.calls (bt a0 x14_2) false _ A9.out).mono ?_); rintro e w' ⟨rfl, ⟨nd, rfl⟩⟩; refine ⟨_, rfl, ?_⟩))
        go_ret
        exact ⟨zE, zD0⟩
      ·rw [if_neg c5] at H
       have c5b0 := decide_eq_false c5
       clear c5
       obtain rfl := Option.some.inj H
       go_wp2
       go_ret
       exact ⟨zE, zD0⟩
mutual
def span_May.j0 : Nat → Bool → Int → Int → Int → Int → ByteArray → ByteArray → Int → Int → Option (Bool)
 | 0, _, _, _, _, _, _, _, _, _ => none
 | k + 1, x3, x103000, x103001, x103002, x103003, x103004, x103005, x103006, x103007 => if x3 = true then (some false) else (if x103006 < 0 then (span_May.j1 k (decide (x103006 < 0)) x103000 x103001 x103002 x103003 x103004 x103005 x103006 x103007) else (if x103006 ≥ 1125899906842624 then (span_May.j1 k (decide (x103006 ≥ 1125899906842624)) x103000 x103001 x103002 x103003 x103004 x103005 x103006 x103007) else (if x103007 < 0 then (span_May.j1 k (decide (x103007 < 0)) x103000 x103001 x103002 x103003 x103004 x103005 x103006 x103007) else (span_May.j1 k (decide (x103007 > 1125899906842624)) x103000 x103001 x103002 x103003 x103004 x103005 x103006 x103007))))
def span_May.j1 : Nat → Bool → Int → Int → Int → Int → ByteArray → ByteArray → Int → Int → Option (Bool)
 | 0, _, _, _, _, _, _, _, _, _ => none
 | k + 1, x18, x103000, x103001, x103002, x103003, x103004, x103005, x103006, x103007 => if x18 = true then (some false) else ((span_Name.f k x103004).bind fun t103 => (if t103 = true then ((span_Name.f k x103005).bind fun t104 => (some t104)) else (some false)))
end
def span_May.f (k : Nat) (a0_0 : Int) (a0_1 : Int) (a0_2 : Int) (a0_3 : Int) (a0_4 : ByteArray) (a0_5 : ByteArray) (a0_6 : Int) (a0_7 : Int) : Option (Bool) := if a0_0 = 0 then (span_May.j0 k (a0_0 == 0) a0_0 a0_1 a0_2 a0_3 a0_4 a0_5 a0_6 a0_7) else (if a0_1 = 0 then (span_May.j0 k (a0_1 == 0) a0_0 a0_1 a0_2 a0_3 a0_4 a0_5 a0_6 a0_7) else (if a0_2 = a0_1 then (span_May.j0 k (a0_2 == a0_1) a0_0 a0_1 a0_2 a0_3 a0_4 a0_5 a0_6 a0_7) else (span_May.j0 k (decide (a0_3 > 2)) a0_0 a0_1 a0_2 a0_3 a0_4 a0_5 a0_6 a0_7)))
theorem span_May.mono_l : ∀ k, (∀ y0 y1 y2 y3 y4 y5 y6 y7 y8, LeO (span_May.j0 k y0 y1 y2 y3 y4 y5 y6 y7 y8) (span_May.j0 (k + 1) y0 y1 y2 y3 y4 y5 y6 y7 y8)) ∧ (∀ y0 y1 y2 y3 y4 y5 y6 y7 y8, LeO (span_May.j1 k y0 y1 y2 y3 y4 y5 y6 y7 y8) (span_May.j1 (k + 1) y0 y1 y2 y3 y4 y5 y6 y7 y8))
 | 0 => ⟨fun _ _ _ _ _ _ _ _ _ r h => by simp [span_May.j0] at h, fun _ _ _ _ _ _ _ _ _ r h => by simp [span_May.j1] at h⟩
 | k + 1 => by
  obtain ⟨ih0, ih1⟩ := span_May.mono_l k
  refine ⟨?_, ?_⟩
  ·intro y0 y1 y2 y3 y4 y5 y6 y7 y8
   unfold span_May.j0
   have m0 := @span_Name.mono
   exact zM
  ·intro y0 y1 y2 y3 y4 y5 y6 y7 y8
   unfold span_May.j1
   have m0 := @span_Name.mono
   exact zM
theorem span_May.mono : ∀ a0 a1 a2 a3 a4 a5 a6 a7 k, LeO (span_May.f k a0 a1 a2 a3 a4 a5 a6 a7) (span_May.f (k + 1) a0 a1 a2 a3 a4 a5 a6 a7) := by
 intro a0 a1 a2 a3 a4 a5 a6 a7 k
 obtain ⟨ih0, ih1⟩ := span_May.mono_l k
 unfold span_May.f
 have m0 := @span_Name.mono
 exact zM
set_option maxHeartbeats 8000000 in
set_option maxRecDepth 100000 in
theorem span_May.calls (k : Nat) (a0_0 : Int) (a0_1 : Int) (a0_2 : Int) (a0_3 : Int) (a0_4 : ByteArray) (a0_5 : ByteArray) (a0_6 : Int) (a0_7 : Int) (r : Bool) (w : World) (h : span_May.f k a0_0 a0_1 a0_2 a0_3 a0_4 a0_5 a0_6 a0_7 = some r) :
  Calls Tryz.prog 55 #[.agg #[.int .u64 a0_0, .int .u64 a0_1, .int .u64 a0_2, .int .u8 a0_3, .string a0_4, .string a0_5, .int .i64 a0_6, .int .i64 a0_7]] w fun e w' => e = .returned (.bool r) ∧ Below w.heap.size w w' := by
 have hu36 := Tryz.underlying36
 have HB := Aside0.mk (Below.refl w.heap.size w)
 have H : (if a0_0 = 0 then (span_May.j0 k (a0_0 == 0) a0_0 a0_1 a0_2 a0_3 a0_4 a0_5 a0_6 a0_7) else (if a0_1 = 0 then (span_May.j0 k (a0_1 == 0) a0_0 a0_1 a0_2 a0_3 a0_4 a0_5 a0_6 a0_7) else (if a0_2 = a0_1 then (span_May.j0 k (a0_2 == a0_1) a0_0 a0_1 a0_2 a0_3 a0_4 a0_5 a0_6 a0_7) else (span_May.j0 k (decide (a0_3 > 2)) a0_0 a0_1 a0_2 a0_3 a0_4 a0_5 a0_6 a0_7)))) = some r := h
 clear h
 have HC2 := Aside0.mk H
 clear H
 go_enter Tryz.func55, Tryz.ntmps55
 go_upto_if 3 with (first | ((with_reducible refine gate_dst (N := 1) rfl ?_); refine zbox (N := 1) (cs := #[.int .u64 a0_0, .int .u64 a0_1, .int .u64 a0_2, .int .u8 a0_3, .string a0_4, .string a0_5, .int .i64 a0_6, .int .i64 a0_7]) (t := 36) ?_; intro gb102 hg w3 hbox hb; have BK102 := Aside0.mk (hbox); have GW102 := Aside0.mk ((by rw [hg]; exact (below_size zB) : w.heap.size ≤ gb102)); have GE102 := Aside0.mk ((by rw [hg]; exact (below_size zB) : w.heap.size ≤ gb102)); replace HB := Aside0.mk (below_step zB hb); clear hb hbox hg; obtain ⟨hcz4_0, hcz4_1, hcz4_2, hcz4_3, hcz4_4, hcz4_5, hcz4_6, hcz4_7, hfz4_0, hfz4_1, hfz4_2, hfz4_3, hfz4_4, hfz4_5, hfz4_6, hfz4_7⟩ := zb8 BK102.out))
 (try simp only [Act.put, List.setIfInBounds_toArray, List.set_cons_zero, List.set_cons_succ])
 go_cut [3] (fun v3 wc => ∃ (kq : Nat) (x3_1 : Bool), v3 = .bool x3_1 ∧ Aside0 (span_May.j0 kq x3_1 a0_0 a0_1 a0_2 a0_3 a0_4 a0_5 a0_6 a0_7 = some r) ∧ Aside0 (kq ≤ k) ∧ Aside0 (wc.heap[gb102]? = some (.cells #[.int .u64 a0_0, .int .u64 a0_1, .int .u64 a0_2, .int .u8 a0_3, .string a0_4, .string a0_5, .int .i64 a0_6, .int .i64 a0_7] 36 (0, 0))) ∧ Aside0 (Below w.heap.size w wc))
 case first =>
  have H := HC2.out
  clear HC2
  by_cases c5 : a0_0 = 0
  ·rw [if_pos c5] at H
   have c5b0 : (a0_0 == 0) = true := beq_iff_eq.mpr c5
   have c5b1 : (a0_0 != 0) = false := bne_eq_false_iff_eq.mpr c5
   clear c5
   (first | rw [c5b0] | (simp only [i64_w, i32_w]; rw [c5b0]) | skip)
   have H' := Aside0.mk H
   clear H
   go_wp2
   go_meet
   case rel => exact ⟨_, ((a0_0 == 0)), zE, H', ⟨by first | omega | exact Nat.le_refl _⟩, ⟨zK BK102.out⟩, ⟨zG GE102.out⟩⟩
  ·rw [if_neg c5] at H
   have c5b0 : (a0_0 == 0) = false := beq_eq_false_iff_ne.mpr c5
   have c5b1 : (a0_0 != 0) = true := bne_iff_ne.mpr c5
   (first | rw [c5b0] | (simp only [i64_w, i32_w]; rw [c5b0]) | skip)
   by_cases c6 : a0_1 = 0
   ·rw [if_pos c6] at H
    have c6b0 : (a0_1 == 0) = true := beq_iff_eq.mpr c6
    have c6b1 : (a0_1 != 0) = false := bne_eq_false_iff_eq.mpr c6
    clear c6
    have H' := Aside0.mk H
    clear H
    obtain ⟨hcz7_0, hcz7_1, hcz7_2, hcz7_3, hcz7_4, hcz7_5, hcz7_6, hcz7_7, hfz7_0, hfz7_1, hfz7_2, hfz7_3, hfz7_4, hfz7_5, hfz7_6, hfz7_7⟩ := zb8 BK102.out
    go_wp2
    go_meet
    case rel => exact ⟨_, ((a0_1 == 0)), zE, H', ⟨by first | omega | exact Nat.le_refl _⟩, ⟨zK BK102.out⟩, ⟨zG GE102.out⟩⟩
   ·rw [if_neg c6] at H
    have c6b0 : (a0_1 == 0) = false := beq_eq_false_iff_ne.mpr c6
    have c6b1 : (a0_1 != 0) = true := bne_iff_ne.mpr c6
    by_cases c8 : a0_2 = a0_1
    ·rw [if_pos c8] at H
     have c8b0 : (a0_2 == a0_1) = true := beq_iff_eq.mpr c8
     have c8b1 : (a0_2 != a0_1) = false := bne_eq_false_iff_eq.mpr c8
     clear c8
     have H' := Aside0.mk H
     clear H
     obtain ⟨hcz9_0, hcz9_1, hcz9_2, hcz9_3, hcz9_4, hcz9_5, hcz9_6, hcz9_7, hfz9_0, hfz9_1, hfz9_2, hfz9_3, hfz9_4, hfz9_5, hfz9_6, hfz9_7⟩ := zb8 BK102.out
     go_wp2
     go_meet
     case rel => exact ⟨_, ((a0_2 == a0_1)), zE, H', ⟨by first | omega | exact Nat.le_refl _⟩, ⟨zK BK102.out⟩, ⟨zG GE102.out⟩⟩
    ·rw [if_neg c8] at H
     have c8b0 : (a0_2 == a0_1) = false := beq_eq_false_iff_ne.mpr c8
     have c8b1 : (a0_2 != a0_1) = true := bne_iff_ne.mpr c8
     have H' := Aside0.mk H
     clear H
     obtain ⟨hcz10_0, hcz10_1, hcz10_2, hcz10_3, hcz10_4, hcz10_5, hcz10_6, hcz10_7, hfz10_0, hfz10_1, hfz10_2, hfz10_3, hfz10_4, hfz10_5, hfz10_6, hfz10_7⟩ := zb8 BK102.out
     go_wp2
     go_meet
     case rel => exact ⟨_, (decide (a0_3 > 2)), zE, H', ⟨by first | omega | exact Nat.le_refl _⟩, ⟨zK BK102.out⟩, ⟨zG GE102.out⟩⟩
 case rest =>
  clear HC2
  (try clear p2); (try clear c5); (try clear c5b0); (try clear c5b1); (try clear c6); (try clear c6b0); (try clear c6b1); (try clear c8); (try clear c8b0); (try clear c8b1); (try clear hcz10_0 hcz10_1 hcz10_2 hcz10_3 hcz10_4 hcz10_5 hcz10_6 hcz10_7); (try clear hcz4_0 hcz4_1 hcz4_2 hcz4_3 hcz4_4 hcz4_5 hcz4_6 hcz4_7); (try clear hcz7_0 hcz7_1 hcz7_2 hcz7_3 hcz7_4 hcz7_5 hcz7_6 hcz7_7); (try clear hcz9_0 hcz9_1 hcz9_2 hcz9_3 hcz9_4 hcz9_5 hcz9_6 hcz9_7); (try clear hfz10_0 hfz10_1 hfz10_2 hfz10_3 hfz10_4 hfz10_5 hfz10_6 hfz10_7); (try clear hfz4_0 hfz4_1 hfz4_2 hfz4_3 hfz4_4 hfz4_5 hfz4_6 hfz4_7); (try clear hfz7_0 hfz7_1 hfz7_2 hfz7_3 hfz7_4 hfz7_5 hfz7_6 hfz7_7); (try clear hfz9_0 hfz9_1 hfz9_2 hfz9_3 hfz9_4 hfz9_5 hfz9_6 hfz9_7)
  obtain ⟨kq, x3_1, rfl, HA, HJ1, BK102, HB⟩ := hcut
  cases kq with
  | zero => exact absurd HA.out (by simp [span_May.j0])
  | succ kj1 =>
   have H := HA.out
   clear HA
   simp only [span_May.j0] at H
   by_cases c11 : x3_1 = true
   ·subst c11
    rw [if_pos rfl] at H
    obtain rfl := Option.some.inj H
    go_wp2
    go_ret
    exact ⟨zV, zG GE102.out⟩
   ·replace c11 := Bool.eq_false_iff.mpr c11
    subst c11
    rw [if_neg (show ¬ (false = true) by decide)] at H
    have HC12 := Aside0.mk H
    clear H
    obtain ⟨hcz13_0, hcz13_1, hcz13_2, hcz13_3, hcz13_4, hcz13_5, hcz13_6, hcz13_7, hfz13_0, hfz13_1, hfz13_2, hfz13_3, hfz13_4, hfz13_5, hfz13_6, hfz13_7⟩ := zb8 BK102.out
    go_upto_if 18 with (fail)
    go_cut [18] (fun v18 wc => ∃ (kq : Nat) (x18_11 : Bool), v18 = .bool x18_11 ∧ Aside0 (span_May.j1 kq x18_11 a0_0 a0_1 a0_2 a0_3 a0_4 a0_5 a0_6 a0_7 = some r) ∧ Aside0 (kq ≤ kj1) ∧ Aside0 (wc.heap[gb102]? = some (.cells #[.int .u64 a0_0, .int .u64 a0_1, .int .u64 a0_2, .int .u8 a0_3, .string a0_4, .string a0_5, .int .i64 a0_6, .int .i64 a0_7] 36 (0, 0))) ∧ Aside0 (Below w.heap.size w wc))
    case first =>
     have H := HC12.out
     clear HC12
     by_cases c14 : a0_6 < 0
     ·rw [if_pos c14] at H
      have c14b0 := decide_eq_true c14
      clear c14
      (first | rw [c14b0] | (simp only [i64_w, i32_w]; rw [c14b0]) | skip)
      have H' := Aside0.mk H
      clear H
      go_wp2
      go_meet
      case rel => exact ⟨_, (decide (a0_6 < 0)), zE, H', ⟨by have := HJ1.out; first | omega | exact Nat.le_refl _⟩, ⟨zK BK102.out⟩, ⟨zG GE102.out⟩⟩
     ·rw [if_neg c14] at H
      have c14b0 := decide_eq_false c14
      clear c14
      (first | rw [c14b0] | (simp only [i64_w, i32_w]; rw [c14b0]) | skip)
      by_cases c15 : a0_6 ≥ 1125899906842624
      ·rw [if_pos c15] at H
       have c15b0 : decide (1125899906842624 ≤ a0_6) = true := decide_eq_true c15
       clear c15
       have H' := Aside0.mk H
       clear H
       obtain ⟨hcz16_0, hcz16_1, hcz16_2, hcz16_3, hcz16_4, hcz16_5, hcz16_6, hcz16_7, hfz16_0, hfz16_1, hfz16_2, hfz16_3, hfz16_4, hfz16_5, hfz16_6, hfz16_7⟩ := zb8 BK102.out
       go_wp2
       go_meet
       case rel => exact ⟨_, (decide (a0_6 ≥ 1125899906842624)), zE, H', ⟨by have := HJ1.out; first | omega | exact Nat.le_refl _⟩, ⟨zK BK102.out⟩, ⟨zG GE102.out⟩⟩
      ·rw [if_neg c15] at H
       have c15b0 : decide (1125899906842624 ≤ a0_6) = false := decide_eq_false c15
       clear c15
       by_cases c17 : a0_7 < 0
       ·rw [if_pos c17] at H
        have c17b0 := decide_eq_true c17
        clear c17
        have H' := Aside0.mk H
        clear H
        obtain ⟨hcz18_0, hcz18_1, hcz18_2, hcz18_3, hcz18_4, hcz18_5, hcz18_6, hcz18_7, hfz18_0, hfz18_1, hfz18_2, hfz18_3, hfz18_4, hfz18_5, hfz18_6, hfz18_7⟩ := zb8 BK102.out
        go_wp2
        go_meet
        case rel => exact ⟨_, (decide (a0_7 < 0)), zE, H', ⟨by have := HJ1.out; first | omega | exact Nat.le_refl _⟩, ⟨zK BK102.out⟩, ⟨zG GE102.out⟩⟩
       ·rw [if_neg c17] at H
        have c17b0 := decide_eq_false c17
        clear c17
        have H' := Aside0.mk H
        clear H
        obtain ⟨hcz19_0, hcz19_1, hcz19_2, hcz19_3, hcz19_4, hcz19_5, hcz19_6, hcz19_7, hfz19_0, hfz19_1, hfz19_2, hfz19_3, hfz19_4, hfz19_5, hfz19_6, hfz19_7⟩ := zb8 BK102.out
        go_wp2
        go_meet
        case rel => exact ⟨_, (decide (a0_7 > 1125899906842624)), zE, H', ⟨by have := HJ1.out; first | omega | exact Nat.le_refl _⟩, ⟨zK BK102.out⟩, ⟨zG GE102.out⟩⟩
    case rest =>
     clear HC12
     (try clear c1); (try clear p2); (try clear c5); (try clear c5b0); (try clear c5b1); (try clear c6); (try clear c6b0); (try clear c6b1); (try clear c8); (try clear c8b0); (try clear c8b1); (try clear c11); (try clear c14); (try clear c14b0); (try clear c15); (try clear c15b0); (try clear c17); (try clear c17b0); (try clear hcz10_0 hcz10_1 hcz10_2 hcz10_3 hcz10_4 hcz10_5 hcz10_6 hcz10_7); (try clear hcz13_0 hcz13_1 hcz13_2 hcz13_3 hcz13_4 hcz13_5 hcz13_6 hcz13_7); (try clear hcz16_0 hcz16_1 hcz16_2 hcz16_3 hcz16_4 hcz16_5 hcz16_6 hcz16_7); (try clear hcz18_0 hcz18_1 hcz18_2 hcz18_3 hcz18_4 hcz18_5 hcz18_6 hcz18_7); (try clear hcz19_0 hcz19_1 hcz19_2 hcz19_3 hcz19_4 hcz19_5 hcz19_6 hcz19_7); (try clear hcz4_0 hcz4_1 hcz4_2 hcz4_3 hcz4_4 hcz4_5 hcz4_6 hcz4_7); (try clear hcz7_0 hcz7_1 hcz7_2 hcz7_3 hcz7_4 hcz7_5 hcz7_6 hcz7_7); (try clear hcz9_0 hcz9_1 hcz9_2 hcz9_3 hcz9_4 hcz9_5 hcz9_6 hcz9_7); (try clear hfz10_0 hfz10_1 hfz10_2 hfz10_3 hfz10_4 hfz10_5 hfz10_6 hfz10_7); (try clear hfz13_0 hfz13_1 hfz13_2 hfz13_3 hfz13_4 hfz13_5 hfz13_6 hfz13_7); (try clear hfz16_0 hfz16_1 hfz16_2 hfz16_3 hfz16_4 hfz16_5 hfz16_6 hfz16_7); (try clear hfz18_0 hfz18_1 hfz18_2 hfz18_3 hfz18_4 hfz18_5 hfz18_6 hfz18_7); (try clear hfz19_0 hfz19_1 hfz19_2 hfz19_3 hfz19_4 hfz19_5 hfz19_6 hfz19_7); (try clear hfz4_0 hfz4_1 hfz4_2 hfz4_3 hfz4_4 hfz4_5 hfz4_6 hfz4_7); (try clear hfz7_0 hfz7_1 hfz7_2 hfz7_3 hfz7_4 hfz7_5 hfz7_6 hfz7_7); (try clear hfz9_0 hfz9_1 hfz9_2 hfz9_3 hfz9_4 hfz9_5 hfz9_6 hfz9_7); (try clear p2)
     obtain ⟨kq, x18_11, rfl, HA, HJ11, BK102, HB⟩ := hcut
     cases kq with
     | zero => exact absurd HA.out (by simp [span_May.j1])
     | succ kj11 =>
      have H := HA.out
      clear HA
      simp only [span_May.j1] at H
      by_cases c20 : x18_11 = true
      ·subst c20
       rw [if_pos rfl] at H
       obtain rfl := Option.some.inj H
       go_wp2
       go_ret
       exact ⟨zV, zG GE102.out⟩
      ·replace c20 := Bool.eq_false_iff.mpr c20
       subst c20
       rw [if_neg (show ¬ (false = true) by decide)] at H
       replace H := Option.bind_eq_some_iff.mp H
       obtain ⟨t103, A210, H⟩ := H
       have A21 := Aside0.mk A210
       clear A210
       by_cases c22 : t103 = true
       ·subst c22
        rw [if_pos rfl] at H
        replace H := Option.bind_eq_some_iff.mp H
        obtain ⟨t104, A230, H⟩ := H
        have A23 := Aside0.mk A230
        clear A230
        obtain rfl := Option.some.inj H
        obtain ⟨hcz24_0, hcz24_1, hcz24_2, hcz24_3, hcz24_4, hcz24_5, hcz24_6, hcz24_7, hfz24_0, hfz24_1, hfz24_2, hfz24_3, hfz24_4, hfz24_5, hfz24_6, hfz24_7⟩ := zb8 BK102.out
        go_wp2_with (first | ((with_reducible refine gate_callee (f := 96) rfl ?_); refine goesL_ (some 33) rfl rfl Tryz.func96 (by kernel_rfl) rfl #[.string a0_4] rfl zL ?_; (with_reducible refine (span_Name.calls kj11 a0_4 true _ A21.out).mono ?_); rintro e w' ⟨rfl, ⟨nd, rfl⟩⟩; refine ⟨_, rfl, ?_⟩) | (go_at_call 96; (with_reducible refine (span_Name.calls kj11 a0_5 t104 _ A23.out).mono ?_); rintro e w' ⟨rfl, ⟨nd, rfl⟩⟩))
        go_ret
        exact ⟨zV, zG GE102.out⟩
       ·replace c22 := Bool.eq_false_iff.mpr c22
        subst c22
        rw [if_neg (show ¬ (false = true) by decide)] at H
        obtain rfl := Option.some.inj H
        obtain ⟨hcz25_0, hcz25_1, hcz25_2, hcz25_3, hcz25_4, hcz25_5, hcz25_6, hcz25_7, hfz25_0, hfz25_1, hfz25_2, hfz25_3, hfz25_4, hfz25_5, hfz25_6, hfz25_7⟩ := zb8 BK102.out
        go_wp2_with (first | ((with_reducible refine gate_callee (f := 96) rfl ?_); refine goesL_ (some 33) rfl rfl Tryz.func96 (by kernel_rfl) rfl #[.string a0_4] rfl zL ?_; (with_reducible refine (span_Name.calls kj11 a0_4 false _ A21.out).mono ?_); rintro e w' ⟨rfl, ⟨nd, rfl⟩⟩; refine ⟨_, rfl, ?_⟩))
        go_ret
        exact ⟨zV, zG GE102.out⟩
def span_first.l0 : Nat → List Int → Int → Int → Option (Int)
 | 0, _, _, _ => none
 | k + 1, x5, x6, x7 => if x7 < x6 then (if 0 ≤ x7 then (if x7 < (x5.length : Int) then (if (rd x5 x7) = 0 then (span_first.l0 k x5 x6 (wrap64 (x7 + 1))) else (some (rd x5 x7))) else (none)) else (none)) else (some 0)
def span_first.f (k : Nat) (l0 : List Int) : Option (Int) := span_first.l0 k l0 (l0.length : Int) 0
theorem span_first.mono_l : ∀ k, (∀ y0 y1 y2, LeO (span_first.l0 k y0 y1 y2) (span_first.l0 (k + 1) y0 y1 y2))
 | 0 => fun _ _ _ r h => by simp [span_first.l0] at h
 | k + 1 => by
  have ih0 := span_first.mono_l k
  ·intro y0 y1 y2
   unfold span_first.l0
   exact zM
theorem span_first.mono : ∀ a0 k, LeO (span_first.f k a0) (span_first.f (k + 1) a0) := by
 intro a0 k
 have ih0 := span_first.mono_l k
 unfold span_first.f
 exact zM
set_option maxHeartbeats 8000000 in
set_option maxRecDepth 100000 in
theorem span_first.calls (k : Nat) (A0 : Option Addr) (c0 : Nat) (l0 : List Int) (r : Int) (w : World) (hr0 : Kd.C (Kd.int .i64) w A0 l0.length l0) (hc0 : l0.length ≤ c0) (h : span_first.f k l0 = some r) :
  Calls Tryz.prog 97 #[.slice A0 l0.length c0] w fun e w' => e = .returned (.int .i64 r) ∧ Drawn0 w w' := by
 have HR0 := Aside0.mk hr0
 have HC0 := Aside0.mk hc0
 clear hr0 hc0
 have H : (span_first.l0 k l0 (l0.length : Int) 0) = some r := h
 clear h
 have H' := Aside0.mk H
 clear H
 go_enter Tryz.func97, Tryz.ntmps97
 go_wp2
 go_loopg [7] k (fun kq v7 w' => ∃ (x7_1 : Int), v7 = .int .i64 x7_1 ∧ Aside0 (span_first.l0 kq l0 (l0.length : Int) x7_1 = some r) ∧ Aside0 (kq ≤ k) ∧ Drawn0 w w')
 case atStart => exact ⟨(0), zE, H', ⟨Nat.le_refl _⟩, zD0⟩
 case round =>
  clear H'
  obtain ⟨x7_1, rfl, HA, HK1, ⟨m1, rfl⟩⟩ := hrel
  cases gk with
  | zero => exact absurd HA.out (by simp [span_first.l0])
  | succ k1 =>
   have H := HA.out
   clear HA
   simp only [span_first.l0] at H
   by_cases c2 : x7_1 < (l0.length : Int)
   ·rw [if_pos c2] at H
    have c2b0 := decide_eq_true c2
    clear c2
    obtain ⟨c3b0, H⟩ := zt H
    obtain ⟨c4b0, H⟩ := zt H
    by_cases c5 : (rd l0 x7_1) = 0
    ·rw [if_pos c5] at H
     have c5b0 : ((rd l0 x7_1) == 0) = true := beq_iff_eq.mpr c5
     have c5b1 : ((rd l0 x7_1) != 0) = false := bne_eq_false_iff_eq.mpr c5
     clear c5
     have H' := Aside0.mk H
     clear H
     have p105 : 0 ≤ (x7_1 : Int) := of_decide_eq_true zA
     have q105 : x7_1 < (l0.length : Int) := of_decide_eq_true zA
     obtain ⟨ad105, e105, hx105_0⟩ := Kd.at_int HR0.out x7_1 p105 q105
     cases e105
     replace p105 := eq_true p105
     replace q105 := eq_true q105
     go_wp2
     go_roundg k1
     case measure => have := HK1.out; omega
     case rel => exact ⟨(wrap64 (x7_1 + 1)), zE, H', ⟨by have := HK1.out; omega⟩, zD0⟩
    ·rw [if_neg c5] at H
     have c5b0 : ((rd l0 x7_1) == 0) = false := beq_eq_false_iff_ne.mpr c5
     have c5b1 : ((rd l0 x7_1) != 0) = true := bne_iff_ne.mpr c5
     obtain rfl := Option.some.inj H
     have p105 : 0 ≤ (x7_1 : Int) := of_decide_eq_true zA
     have q105 : x7_1 < (l0.length : Int) := of_decide_eq_true zA
     obtain ⟨ad105, e105, hx105_0⟩ := Kd.at_int HR0.out x7_1 p105 q105
     cases e105
     replace p105 := eq_true p105
     replace q105 := eq_true q105
     go_wp2
     go_ret
     exact ⟨zE, zD0⟩
   ·rw [if_neg c2] at H
    have c2b0 := decide_eq_false c2
    clear c2
    obtain rfl := Option.some.inj H
    go_wp2
    go_ret
    exact ⟨zE, zD0⟩
def cmp_isNaN_int64.f (a0 : Int) : Option (Bool) := some (a0 != a0)
set_option maxHeartbeats 8000000 in
set_option maxRecDepth 100000 in
theorem cmp_isNaN_int64.calls (a0 : Int) (r : Bool) (w : World) (h : cmp_isNaN_int64.f a0 = some r) :
  Calls Tryz.prog 131 #[.int .i64 a0] w fun e w' => e = .returned (.bool r) ∧ Drawn0 w w' := by
 have H : (some (a0 != a0)) = some r := h
 clear h
 obtain rfl := Option.some.inj H
 go_enter Tryz.func131, Tryz.ntmps131
 go_wp2
 go_ret
 exact ⟨zE, zD0⟩
def cmp_Compare_int64.f (a0 : Int) (a1 : Int) : Option (Int) := (cmp_isNaN_int64.f a0).bind fun t106 => ((cmp_isNaN_int64.f a1).bind fun t107 => (if t106 = true then (if t107 = true then (some 0) else (some (-1))) else (if t107 = true then (some 1) else (if a0 < a1 then (some (-1)) else (if a0 > a1 then (some 1) else (some 0))))))
set_option maxHeartbeats 8000000 in
set_option maxRecDepth 100000 in
theorem cmp_Compare_int64.calls (a0 : Int) (a1 : Int) (r : Int) (w : World) (h : cmp_Compare_int64.f a0 a1 = some r) :
  Calls Tryz.prog 98 #[.int .i64 a0, .int .i64 a1] w fun e w' => e = .returned (.int .i64 r) ∧ Drawn0 w w' := by
 have H : ((cmp_isNaN_int64.f a0).bind fun t106 => ((cmp_isNaN_int64.f a1).bind fun t107 => (if t106 = true then (if t107 = true then (some 0) else (some (-1))) else (if t107 = true then (some 1) else (if a0 < a1 then (some (-1)) else (if a0 > a1 then (some 1) else (some 0))))))) = some r := h
 clear h
 replace H := Option.bind_eq_some_iff.mp H
 obtain ⟨t106, A30, H⟩ := H
 have A3 := Aside0.mk A30
 clear A30
 replace H := Option.bind_eq_some_iff.mp H
 obtain ⟨t107, A40, H⟩ := H
 have A4 := Aside0.mk A40
 clear A40
 by_cases c5 : t106 = true
 ·subst c5
  rw [if_pos rfl] at H
  by_cases c6 : t107 = true
  ·subst c6
   rw [if_pos rfl] at H
   obtain rfl := Option.some.inj H
   go_enter Tryz.func98, Tryz.ntmps98
   go_wp2_with (first | ((with_reducible refine gate_callee (f := 131) rfl ?_); refine goesL_ (some 8) rfl rfl Tryz.func131 (by kernel_rfl) rfl #[.int .i64 a0] rfl zL ?_; (with_reducible refine (cmp_isNaN_int64.calls a0 true _ A3.out).mono ?_); rintro e w' ⟨rfl, ⟨nd, rfl⟩⟩; refine ⟨_, rfl, ?_⟩) | ((with_reducible refine gate_callee (f := 131) rfl ?_); refine goesL_ (some 10) rfl rfl Tryz.func131 (by kernel_rfl) rfl #[.int .i64 a1] rfl zL ?_; (with_reducible refine (cmp_isNaN_int64.calls a1 true _ A4.out).mono ?_); rintro e w' ⟨rfl, ⟨nd, rfl⟩⟩; refine ⟨_, rfl, ?_⟩))
   go_ret
   exact ⟨zE, zD0⟩
  ·replace c6 := Bool.eq_false_iff.mpr c6
   subst c6
   rw [if_neg (show ¬ (false = true) by decide)] at H
   obtain rfl := Option.some.inj H
   go_enter Tryz.func98, Tryz.ntmps98
   go_wp2_with (first | ((with_reducible refine gate_callee (f := 131) rfl ?_); refine goesL_ (some 8) rfl rfl Tryz.func131 (by kernel_rfl) rfl #[.int .i64 a0] rfl zL ?_; (with_reducible refine (cmp_isNaN_int64.calls a0 true _ A3.out).mono ?_); rintro e w' ⟨rfl, ⟨nd, rfl⟩⟩; refine ⟨_, rfl, ?_⟩) | ((with_reducible refine gate_callee (f := 131) rfl ?_); refine goesL_ (some 10) rfl rfl Tryz.func131 (by kernel_rfl) rfl #[.int .i64 a1] rfl zL ?_; (with_reducible refine (cmp_isNaN_int64.calls a1 false _ A4.out).mono ?_); rintro e w' ⟨rfl, ⟨nd, rfl⟩⟩; refine ⟨_, rfl, ?_⟩))
   go_ret
   exact ⟨zE, zD0⟩
 ·replace c5 := Bool.eq_false_iff.mpr c5
  subst c5
  rw [if_neg (show ¬ (false = true) by decide)] at H
  by_cases c7 : t107 = true
  ·subst c7
   rw [if_pos rfl] at H
   obtain rfl := Option.some.inj H
   go_enter Tryz.func98, Tryz.ntmps98
   go_wp2_with (first | ((with_reducible refine gate_callee (f := 131) rfl ?_); refine goesL_ (some 8) rfl rfl Tryz.func131 (by kernel_rfl) rfl #[.int .i64 a0] rfl zL ?_; (with_reducible refine (cmp_isNaN_int64.calls a0 false _ A3.out).mono ?_); rintro e w' ⟨rfl, ⟨nd, rfl⟩⟩; refine ⟨_, rfl, ?_⟩) | ((with_reducible refine gate_callee (f := 131) rfl ?_); refine goesL_ (some 10) rfl rfl Tryz.func131 (by kernel_rfl) rfl #[.int .i64 a1] rfl zL ?_; (with_reducible refine (cmp_isNaN_int64.calls a1 true _ A4.out).mono ?_); rintro e w' ⟨rfl, ⟨nd, rfl⟩⟩; refine ⟨_, rfl, ?_⟩))
   go_ret
   exact ⟨zE, zD0⟩
  ·replace c7 := Bool.eq_false_iff.mpr c7
   subst c7
   rw [if_neg (show ¬ (false = true) by decide)] at H
   by_cases c8 : a0 < a1
   ·rw [if_pos c8] at H
    have c8b0 := decide_eq_true c8
    clear c8
    obtain rfl := Option.some.inj H
    go_enter Tryz.func98, Tryz.ntmps98
    go_wp2_with (first | ((with_reducible refine gate_callee (f := 131) rfl ?_); refine goesL_ (some 8) rfl rfl Tryz.func131 (by kernel_rfl) rfl #[.int .i64 a0] rfl zL ?_; (with_reducible refine (cmp_isNaN_int64.calls a0 false _ A3.out).mono ?_); rintro e w' ⟨rfl, ⟨nd, rfl⟩⟩; refine ⟨_, rfl, ?_⟩) | ((with_reducible refine gate_callee (f := 131) rfl ?_); refine goesL_ (some 10) rfl rfl Tryz.func131 (by kernel_rfl) rfl #[.int .i64 a1] rfl zL ?_; (with_reducible refine (cmp_isNaN_int64.calls a1 false _ A4.out).mono ?_); rintro e w' ⟨rfl, ⟨nd, rfl⟩⟩; refine ⟨_, rfl, ?_⟩))
    go_ret
    exact ⟨zE, zD0⟩
   ·rw [if_neg c8] at H
    have c8b0 := decide_eq_false c8
    clear c8
    by_cases c9 : a0 > a1
    ·rw [if_pos c9] at H
     have c9b0 : decide (a1 < a0) = true := decide_eq_true c9
     clear c9
     obtain rfl := Option.some.inj H
     go_enter Tryz.func98, Tryz.ntmps98
     go_wp2_with (first | ((with_reducible refine gate_callee (f := 131) rfl ?_); refine goesL_ (some 8) rfl rfl Tryz.func131 (by kernel_rfl) rfl #[.int .i64 a0] rfl zL ?_; (with_reducible refine (cmp_isNaN_int64.calls a0 false _ A3.out).mono ?_); rintro e w' ⟨rfl, ⟨nd, rfl⟩⟩; refine ⟨_, rfl, ?_⟩) | ((with_reducible refine gate_callee (f := 131) rfl ?_); refine goesL_ (some 10) rfl rfl Tryz.func131 (by kernel_rfl) rfl #[.int .i64 a1] rfl zL ?_; (with_reducible refine (cmp_isNaN_int64.calls a1 false _ A4.out).mono ?_); rintro e w' ⟨rfl, ⟨nd, rfl⟩⟩; refine ⟨_, rfl, ?_⟩))
     go_ret
     exact ⟨zE, zD0⟩
    ·rw [if_neg c9] at H
     have c9b0 : decide (a1 < a0) = false := decide_eq_false c9
     clear c9
     obtain rfl := Option.some.inj H
     go_enter Tryz.func98, Tryz.ntmps98
     go_wp2_with (first | ((with_reducible refine gate_callee (f := 131) rfl ?_); refine goesL_ (some 8) rfl rfl Tryz.func131 (by kernel_rfl) rfl #[.int .i64 a0] rfl zL ?_; (with_reducible refine (cmp_isNaN_int64.calls a0 false _ A3.out).mono ?_); rintro e w' ⟨rfl, ⟨nd, rfl⟩⟩; refine ⟨_, rfl, ?_⟩) | ((with_reducible refine gate_callee (f := 131) rfl ?_); refine goesL_ (some 10) rfl rfl Tryz.func131 (by kernel_rfl) rfl #[.int .i64 a1] rfl zL ?_; (with_reducible refine (cmp_isNaN_int64.calls a1 false _ A4.out).mono ?_); rintro e w' ⟨rfl, ⟨nd, rfl⟩⟩; refine ⟨_, rfl, ?_⟩))
     go_ret
     exact ⟨zE, zD0⟩
def cmp_isNaN_uint64.f (a0 : Int) : Option (Bool) := some (a0 != a0)
set_option maxHeartbeats 8000000 in
set_option maxRecDepth 100000 in
theorem cmp_isNaN_uint64.calls (a0 : Int) (r : Bool) (w : World) (h : cmp_isNaN_uint64.f a0 = some r) :
  Calls Tryz.prog 132 #[.int .u64 a0] w fun e w' => e = .returned (.bool r) ∧ Drawn0 w w' := by
 have H : (some (a0 != a0)) = some r := h
 clear h
 obtain rfl := Option.some.inj H
 go_enter Tryz.func132, Tryz.ntmps132
 go_wp2
 go_ret
 exact ⟨zE, zD0⟩
end Go.Proofs.YtgknjgionicncaaGreat.Q
namespace Go.Proofs.YtgknjgionicncaaGreat.L
open Go.RowKit Go.Proofs.YtgknjgionicncaaGreat.Q Go.Proofs.YtgknjgionicncaaGreatW.PrintWords Go.Proofs.YtgknjgionicncaaGreatW.PrintLast Go.Proofs.YtgknjgionicncaaGreatW.PrintMore Go.Proofs.YtgknjgionicncaaGreatW.MapB Go.Proofs.YtgknjgionicncaaGreatW.Lib
set_option linter.unusedVariables false
set_option linter.unusedSimpArgs false
theorem results_cell2 {fn : Func} {a b : Tmp} {t : TypeId} (h : fn.results = #[.cell a t, .tmp b]) (tmps : Array Value) (P : Program) (w : World) (ad : Addr) (v : Value) (ha : tmps.getD a undef = .pointer (some ad)) (hl : (loadVar t ad).run P w = .ok v w) :
  (results fn tmps).run P w = .ok (.tuple #[v, tmps.getD b undef]) w := by
 have ha' : tmps[a]?.getD undef = .pointer (some ad) := by rw [← ha]; simp
 have e : ∀ ad w, (asAddr (.pointer (some ad))).run P w = .ok ad w := fun _ _ => rfl
 simp [results, h, ha', hl, e]
theorem store_blk {P : Program} {ops : Array Oper} {rest : List Oper} {o : Oper} {a : Act} {Q : Exit → Act → World → Prop} {W : World} {k : Nat} {old : Array Value} (t : TypeId) (u : Value) (seg : List Value) (hN : o.dst = none) (hG : o.guard = none) (p x : Operand) (hP : o.op = .store t p x)
  (haddr : a.eval p = .pointer (some ⟨k, 0, none⟩)) (hx : a.eval x = u) (hu : u.cells.toList = seg) (ht : (P.info? t).map (·.size) = some seg.length) (h1 : ∀ q ∈ seg, q.oneCell' = true) (hb : W.heap[k]? = some (.cells old t (0, 0))) (hsz : old.size = seg.length)
  (h : ∀ W', W'.heap[k]? = some (.cells seg.toArray t (0, 0)) → W.grownBy W' (some k) → wpList P ops Q rest a W') : wpList P ops Q (o :: rest) a W := by
 obtain ⟨cur', hc, hs, hl⟩ := setCells_row seg 0 W old hb (by omega)
 have hcur : cur' = seg.toArray := by
  apply Array.toList_inj.1
  rw [hl]
  simp [← hsz]
 have hrun : (Instr.storeAt t (.pointer (some ⟨k, 0, none⟩)) u).run P W = .ok () (W.setCells k 0 seg) := run_store_run t u seg hb hu ht (by omega) h1
 obtain ⟨s1, s2, s3, s4⟩ := setCells_same k seg 0 W
 have hg : W.grownBy (W.setCells k 0 seg) (some k) := ⟨s1, s2, s3, by omega, fun i _ hi => setCells_far seg 0 i (fun e => hi (by rw [e]))⟩
 refine wpList_plain hG fun K hK => ?_
 unfold Oper.wp execOp
 simp only [hP, haddr, hx, Sem.run_bind, Sem.run_pure, Result.andThen_ok, hrun]
 show K (a.put o.dst undef) _
 rw [hN]
 exact hK a _ (h _ (by rw [hc, hcur]) hg)
def findS (m : S36 → Bool) (l : List S36) (i : Int) : S36 × Bool := if 0 ≤ i ∧ i < l.length ∧ m (rd_T36 l i) = true then (rd_T36 l i, true) else (z36, false)
theorem load_span (W : World) (k : Nat) (s : S36) (h : W.heap[k]? = some (.cells #[.int .u64 s.f0, .int .u64 s.f1, .int .u64 s.f2, .int .u8 s.f3, .string s.f4, .string s.f5, .int .i64 s.f6, .int .i64 s.f7] 36 (0, 0))) :
  (loadVar 36 ⟨k, 0, none⟩).run Tryz.prog W = .ok (.agg #[.int .u64 s.f0, .int .u64 s.f1, .int .u64 s.f2, .int .u8 s.f3, .string s.f4, .string s.f5, .int .i64 s.f6, .int .i64 s.f7]) W := by
 have c0 : W.cell? ⟨k, 0, none⟩ = _ := (blk_cell h 0).trans rfl
 have c1 : W.cell? ⟨k, 1, none⟩ = _ := (blk_cell h 1).trans rfl
 have c2 : W.cell? ⟨k, 2, none⟩ = _ := (blk_cell h 2).trans rfl
 have c3 : W.cell? ⟨k, 3, none⟩ = _ := (blk_cell h 3).trans rfl
 have c4 : W.cell? ⟨k, 4, none⟩ = _ := (blk_cell h 4).trans rfl
 have c5 : W.cell? ⟨k, 5, none⟩ = _ := (blk_cell h 5).trans rfl
 have c6 : W.cell? ⟨k, 6, none⟩ = _ := (blk_cell h 6).trans rfl
 have c7 : W.cell? ⟨k, 7, none⟩ = _ := (blk_cell h 7).trans rfl
 clear h
 go_simp
set_option maxHeartbeats 4000000 in
set_option maxRecDepth 100000 in
theorem found_calls (m : S36 → Bool) (l : List S36) (hm : ∀ s ∈ l, ∃ k, span_May.f k s.f0 s.f1 s.f2 s.f3 s.f4 s.f5 s.f6 s.f7 = some (m s)) (i : Int) (A0 : Option Addr) (c0 B : Nat) (w : World) (hr : Kd.C k36 w A0 l.length l) (hcell : w.cell? ⟨B, 0, none⟩ = some (.slice A0 l.length c0)) :
  Calls Tryz.prog 138 #[.int .i64 i, .pointer (some ⟨B, 0, none⟩)] w fun e w' => e = .returned (.tuple #[.agg #[.int .u64 (findS m l i).1.f0, .int .u64 (findS m l i).1.f1, .int .u64 (findS m l i).1.f2, .int .u8 (findS m l i).1.f3, .string (findS m l i).1.f4, .string (findS m l i).1.f5, .int .i64 (findS m l i).1.f6, .int .i64 (findS m l i).1.f7], .bool (findS m l i).2]) ∧ Below w.heap.size w w' := by
 have HB := Aside0.mk (Below.refl w.heap.size w)
 have hc1 : ∀ o, (w.alloc o).cell? ⟨B, 0, none⟩ = some (.slice A0 l.length c0) := fun o => ((below_alloc HB.out o).cell (World.block_lt_of_cell? w _ hcell)).trans hcell
 by_cases h0 : i < 0
 ·have e : findS m l i = (z36, false) := by unfold findS; rw [if_neg (by omega)]
  rw [e]
  have b0 := decide_eq_true h0
  clear e hm hr h0
  go_enter Tryz.func138, Tryz.ntmps138
  go_wp2_with fail
  refine bodyPost_ret (results_cell2 rfl _ _ _ _ _ rfl (load_span _ _ z36 (MapKept.heap_alloc w _).1)) rfl ⟨rfl, below_alloc HB.out _⟩
 ·have b0 : decide (i < 0) = false := decide_eq_false h0
  by_cases h1 : i < (l.length : Int)
  ·have b1 : decide ((l.length : Int) ≤ i) = false := decide_eq_false (by omega)
   have p0 : 0 ≤ i := by omega
   obtain ⟨ad, e1, hx0, hx1, hx2, hx3, hx4, hx5, hx6, hx7⟩ := at_T36 hr i p0 h1
   cases e1
   replace hx0 := fun o => ((below_alloc HB.out o).cell (World.block_lt_of_cell? w _ hx0)).trans hx0
   replace hx1 := fun o => ((below_alloc HB.out o).cell (World.block_lt_of_cell? w _ hx1)).trans hx1
   replace hx2 := fun o => ((below_alloc HB.out o).cell (World.block_lt_of_cell? w _ hx2)).trans hx2
   replace hx3 := fun o => ((below_alloc HB.out o).cell (World.block_lt_of_cell? w _ hx3)).trans hx3
   replace hx4 := fun o => ((below_alloc HB.out o).cell (World.block_lt_of_cell? w _ hx4)).trans hx4
   replace hx5 := fun o => ((below_alloc HB.out o).cell (World.block_lt_of_cell? w _ hx5)).trans hx5
   replace hx6 := fun o => ((below_alloc HB.out o).cell (World.block_lt_of_cell? w _ hx6)).trans hx6
   replace hx7 := fun o => ((below_alloc HB.out o).cell (World.block_lt_of_cell? w _ hx7)).trans hx7
   have hit : i.toNat < l.length := by omega
   have hmem : rd_T36 l i ∈ l := by
    rw [show rd_T36 l i = l[i.toNat] by simp [rd_T36, List.getD, hit]]
    exact List.getElem_mem _
   obtain ⟨km, hkm⟩ := hm _ hmem
   have QM := Aside0.mk (fun W => span_May.calls km _ _ _ _ _ _ _ _ _ W hkm)
   have hq : findS m l i = if m (rd_T36 l i) = true then (rd_T36 l i, true) else (z36, false) := by
    unfold findS
    by_cases hv : m (rd_T36 l i) = true
    ·rw [if_pos ⟨p0, h1, hv⟩, if_pos hv]
    ·rw [if_neg (fun h => hv h.2.2), if_neg hv]
   rw [hq]
   clear hq hkm hmem hm hr hit h0
   generalize rd_T36 l i = s at *
   replace p0 := eq_true p0
   replace h1 := eq_true h1
   cases hv : m s with
   | true =>
    rw [hv] at QM
    rw [if_pos rfl]
    clear hv
    go_enter Tryz.func138, Tryz.ntmps138
    go_wp2_with (first | (go_at_call 55; refine (QM.out _).mono ?_; rintro e w1 ⟨rfl, hb⟩; have HB1 := Aside0.mk (below_step (below_alloc HB.out _) hb); have BK := Aside0.mk ((hb.block w.heap.size (by simp)).trans (MapKept.heap_alloc w _).1); have hc2 : w1.cell? ⟨B, 0, none⟩ = _ := (hb.cell (World.block_lt_of_cell? _ _ (hc1 _))).trans (hc1 _); have hy0 := (hb.cell (World.block_lt_of_cell? _ _ (hx0 _))).trans (hx0 _); have hy1 := (hb.cell (World.block_lt_of_cell? _ _ (hx1 _))).trans (hx1 _); have hy2 := (hb.cell (World.block_lt_of_cell? _ _ (hx2 _))).trans (hx2 _); have hy3 := (hb.cell (World.block_lt_of_cell? _ _ (hx3 _))).trans (hx3 _); have hy4 := (hb.cell (World.block_lt_of_cell? _ _ (hx4 _))).trans (hx4 _); have hy5 := (hb.cell (World.block_lt_of_cell? _ _ (hx5 _))).trans (hx5 _); have hy6 := (hb.cell (World.block_lt_of_cell? _ _ (hx6 _))).trans (hx6 _); have hy7 := (hb.cell (World.block_lt_of_cell? _ _ (hx7 _))).trans (hx7 _); clear hb) | ((with_reducible refine gate_store (t := 36) (p := 3) rfl ?_); refine store_blk 36 _ [.int .u64 s.f0, .int .u64 s.f1, .int .u64 s.f2, .int .u8 s.f3, .string s.f4, .string s.f5, .int .i64 s.f6, .int .i64 s.f7] rfl rfl (.tmp 3) (.tmp 25) rfl rfl rfl rfl (by kernel_rfl) (by intro q hq; simp only [List.mem_cons, List.not_mem_nil, or_false] at hq; rcases hq with rfl | rfl | rfl | rfl | rfl | rfl | rfl | rfl <;> rfl) BK.out rfl ?_; intro w2 hbk hg; have BK2 := Aside0.mk hbk; have HB2 := Aside0.mk (HB1.out.grown hg HB1.out.size (fun j hj => by cases hj; exact Nat.le_refl _)); clear hbk hg))
    refine bodyPost_ret (results_cell2 rfl _ _ _ _ _ rfl (load_span _ _ s BK2.out)) rfl ⟨rfl, HB2.out⟩
   | false =>
    rw [hv] at QM
    rw [if_neg (by simp)]
    clear hv
    go_enter Tryz.func138, Tryz.ntmps138
    go_wp2_with (first | (go_at_call 55; refine (QM.out _).mono ?_; rintro e w1 ⟨rfl, hb⟩; have HB1 := Aside0.mk (below_step (below_alloc HB.out _) hb); have BK := Aside0.mk ((hb.block w.heap.size (by simp)).trans (MapKept.heap_alloc w _).1); have hc2 : w1.cell? ⟨B, 0, none⟩ = _ := (hb.cell (World.block_lt_of_cell? _ _ (hc1 _))).trans (hc1 _); have hy0 := (hb.cell (World.block_lt_of_cell? _ _ (hx0 _))).trans (hx0 _); have hy1 := (hb.cell (World.block_lt_of_cell? _ _ (hx1 _))).trans (hx1 _); have hy2 := (hb.cell (World.block_lt_of_cell? _ _ (hx2 _))).trans (hx2 _); have hy3 := (hb.cell (World.block_lt_of_cell? _ _ (hx3 _))).trans (hx3 _); have hy4 := (hb.cell (World.block_lt_of_cell? _ _ (hx4 _))).trans (hx4 _); have hy5 := (hb.cell (World.block_lt_of_cell? _ _ (hx5 _))).trans (hx5 _); have hy6 := (hb.cell (World.block_lt_of_cell? _ _ (hx6 _))).trans (hx6 _); have hy7 := (hb.cell (World.block_lt_of_cell? _ _ (hx7 _))).trans (hx7 _); clear hb) | ((with_reducible refine gate_store (t := 36) (p := 3) rfl ?_); refine store_blk 36 _ [.int .u64 z36.f0, .int .u64 z36.f1, .int .u64 z36.f2, .int .u8 z36.f3, .string z36.f4, .string z36.f5, .int .i64 z36.f6, .int .i64 z36.f7] rfl rfl (.tmp 3) (.tmp 21) rfl rfl rfl rfl (by kernel_rfl) (by intro q hq; simp only [List.mem_cons, List.not_mem_nil, or_false] at hq; rcases hq with rfl | rfl | rfl | rfl | rfl | rfl | rfl | rfl <;> rfl) BK.out rfl ?_; intro w2 hbk hg; have BK2 := Aside0.mk hbk; have HB2 := Aside0.mk (HB1.out.grown hg HB1.out.size (fun j hj => by cases hj; exact Nat.le_refl _)); clear hbk hg))
    refine bodyPost_ret (results_cell2 rfl _ _ _ _ _ rfl (load_span _ _ z36 BK2.out)) rfl ⟨rfl, HB2.out⟩
  ·have e : findS m l i = (z36, false) := by unfold findS; rw [if_neg (by omega)]
   rw [e]
   have b1 : decide ((l.length : Int) ≤ i) = true := decide_eq_true (by omega)
   clear e hm hr h0 h1
   go_enter Tryz.func138, Tryz.ntmps138
   go_wp2_with fail
   refine bodyPost_ret (results_cell2 rfl _ _ _ _ _ rfl (load_span _ _ z36 (MapKept.heap_alloc w _).1)) rfl ⟨rfl, below_alloc HB.out _⟩
theorem finder_calls (A0 : Option Addr) (n c0 : Nat) (w : World) : Calls Tryz.prog 111 #[.slice A0 n c0] w fun e w' => ∃ B, e = .returned (.func (.func 138) #[] #[.pointer (some ⟨B, 0, none⟩)]) ∧ w'.cell? ⟨B, 0, none⟩ = some (.slice A0 n c0) ∧ Below w.heap.size w w' := by
 have hmf : ∀ (fn : Fn) (first cap : Array Value) (w : World), (Instr.makeFunc fn first cap).run Tryz.prog w = .ok (.func fn first cap) w := fun _ _ _ _ => rfl
 have HB := Aside0.mk (Below.refl w.heap.size w)
 go_enter Tryz.func111, Tryz.ntmps111
 go_wp2_with fail
 go_ret
 exact ⟨w.heap.size, rfl, (blk_cell (MapKept.heap_alloc w _).1 0).trans rfl, below_alloc HB.out _⟩
def gapsB (m : S36 → Bool) (l : List S36) (c s : Int) : Int × Int × Bool :=
 if (findS m l c).2 = true ∧ (findS m l s).2 = true then (wrap64 ((findS m l s).1.f6 - (findS m l c).1.f6), wrap64 (wrap64 ((findS m l c).1.f7 - (findS m l s).1.f7) - wrap64 ((findS m l s).1.f6 - (findS m l c).1.f6)), true) else (0, 0, false)
set_option maxHeartbeats 4000000 in
set_option maxRecDepth 100000 in
theorem gaps_calls (m : S36 → Bool) (l : List S36) (hm : ∀ s ∈ l, ∃ k, span_May.f k s.f0 s.f1 s.f2 s.f3 s.f4 s.f5 s.f6 s.f7 = some (m s)) (p0 p1 : Int) (A0 : Option Addr) (c0 : Nat) (w : World) (hr : Kd.C k36 w A0 l.length l) :
  Calls Tryz.prog 110 #[.slice A0 l.length c0, .agg #[.int .i64 p0, .int .i64 p1]] w fun e w' => e = .returned (.tuple #[.int .i64 (gapsB m l p0 p1).1, .int .i64 (gapsB m l p0 p1).2.1, .bool (gapsB m l p0 p1).2.2]) ∧ Below w.heap.size w w' := by
 have HB := Aside0.mk (Below.refl w.heap.size w)
 have QF0 := Aside0.mk (fun (B : Nat) (W : World) (hb : Below w.heap.size w W) hc => found_calls m l hm p0 A0 c0 B W (Kd.C_below hr hb) hc)
 have QF1 := Aside0.mk (fun (B : Nat) (W : World) (hb : Below w.heap.size w W) hc => found_calls m l hm p1 A0 c0 B W (Kd.C_below hr hb) hc)
 clear hm hr
 have hg : gapsB m l p0 p1 = if (findS m l p0).2 = true ∧ (findS m l p1).2 = true then (wrap64 ((findS m l p1).1.f6 - (findS m l p0).1.f6), wrap64 (wrap64 ((findS m l p0).1.f7 - (findS m l p1).1.f7) - wrap64 ((findS m l p1).1.f6 - (findS m l p0).1.f6)), true) else (0, 0, false) := rfl
 rw [hg]
 clear hg
 generalize findS m l p0 = X at *
 generalize findS m l p1 = Y at *
 obtain ⟨x, bx⟩ := X
 obtain ⟨y, bY⟩ := Y
 dsimp only at *
 have go : ∀ (b1 b2 : Bool), bx = b1 → bY = b2 → Calls Tryz.prog 110 #[.slice A0 l.length c0, .agg #[.int .i64 p0, .int .i64 p1]] w fun e w' => e = .returned (.tuple #[.int .i64 (if b1 = true ∧ b2 = true then (wrap64 (y.f6 - x.f6), wrap64 (wrap64 (x.f7 - y.f7) - wrap64 (y.f6 - x.f6)), true) else ((0 : Int), (0 : Int), false)).1, .int .i64 (if b1 = true ∧ b2 = true then (wrap64 (y.f6 - x.f6), wrap64 (wrap64 (x.f7 - y.f7) - wrap64 (y.f6 - x.f6)), true) else ((0 : Int), (0 : Int), false)).2.1, .bool (if b1 = true ∧ b2 = true then (wrap64 (y.f6 - x.f6), wrap64 (wrap64 (x.f7 - y.f7) - wrap64 (y.f6 - x.f6)), true) else ((0 : Int), (0 : Int), false)).2.2]) ∧ Below w.heap.size w w' := by
  intro b1 b2 e1 e2
  subst e1 e2
  cases bx <;> cases bY
  all_goals
   simp only [true_and, and_true, and_false, false_and, if_true, if_false, Bool.false_eq_true, and_self, reduceIte]
   go_enter Tryz.func110, Tryz.ntmps110
   go_wp2_with (first
    | (go_at_call 111; refine (finder_calls A0 _ c0 _).mono ?_; rintro e w1 ⟨B, rfl, hcl, hb⟩; have HB1 := Aside0.mk (below_step (below_alloc HB.out _) hb); have bp := (hb.block w.heap.size (by simp)).trans (MapKept.heap_alloc w _).1; have k0 : w1.cell? ⟨w.heap.size, 0, none⟩ = some (.int .i64 p0) := (blk_cell bp 0).trans rfl; have k1 : w1.cell? ⟨w.heap.size, 1, none⟩ = some (.int .i64 p1) := (blk_cell bp 1).trans rfl; have HC1 := Aside0.mk hcl; clear hb bp hcl)
    | (go_at_call 138; with_reducible refine (QF0.out B w1 HB1.out HC1.out).mono ?_; rintro e w2 ⟨rfl, hb⟩; have HB2 := Aside0.mk (below_step HB1.out hb); have HC2 := Aside0.mk ((hb.cell (World.block_lt_of_cell? _ _ HC1.out)).trans HC1.out); have k3 := (hb.cell (World.block_lt_of_cell? _ _ k1)).trans k1; have k4 := fun o => ((below_alloc (Below.refl w2.heap.size w2) o).cell (World.block_lt_of_cell? w2 _ k3)).trans k3; clear hb QF0 HC1 HB1)
    | (go_at_call 138; refine (QF1.out B _ (below_alloc HB2.out _) (((below_alloc (Below.refl w2.heap.size w2) _).cell (World.block_lt_of_cell? w2 _ HC2.out)).trans HC2.out)).mono ?_; rintro e w3 ⟨rfl, hb⟩; have HB3 := Aside0.mk (below_step (below_alloc HB2.out _) hb); have bx3 := (hb.block w2.heap.size (by simp)).trans (MapKept.heap_alloc w2 _).1; have j6 : w3.cell? ⟨w2.heap.size, 6, none⟩ = some (.int .i64 x.f6) := (blk_cell bx3 6).trans rfl; have j7 : w3.cell? ⟨w2.heap.size, 7, none⟩ = some (.int .i64 x.f7) := (blk_cell bx3 7).trans rfl; have i6 := fun o => ((below_alloc (Below.refl w3.heap.size w3) o).cell (World.block_lt_of_cell? w3 _ j6)).trans j6; have i7 := fun o => ((below_alloc (Below.refl w3.heap.size w3) o).cell (World.block_lt_of_cell? w3 _ j7)).trans j7; clear hb bx3))
   repeat (go_quiet (fail); try go_wp2)
   refine bodyPost_ret (results_tmp3 rfl _ _ _) rfl ?_
   exact ⟨rfl, by first | exact below_alloc HB3.out _ | exact pw_below_drewN (below_alloc HB3.out _) _ | (apply pw_below_drewN; exact below_alloc HB3.out _)⟩
 exact go _ _ rfl rfl
def cmpI (a b : Int) : Int := if a < b then -1 else if a > b then 1 else 0
def cmpB (a b : ByteArray) : Int := Go.Lib.compareBytes a.data.toList b.data.toList
def firstNZ : List Int → Int
 | [] => 0
 | x :: l => if x = 0 then firstNZ l else x
structure IsCmp {α : Type} (c : α → α → Int) : Prop where
 rng : ∀ a b, -1 ≤ c a b ∧ c a b ≤ 1
 anti : ∀ a b, c b a = - c a b
 zero : ∀ a b, c a b = 0 ↔ a = b
 trans : ∀ a b d, c a b ≤ 0 → c b d ≤ 0 → c a d ≤ 0
theorem cmpI_is : IsCmp cmpI := by
 refine ⟨fun a b => ?_, fun a b => ?_, fun a b => ?_, fun a b d => ?_⟩ <;> unfold cmpI <;> (repeat' split) <;> omega
theorem cmpL_rng : ∀ a b : List UInt8, -1 ≤ Go.Lib.compareBytes a b ∧ Go.Lib.compareBytes a b ≤ 1
 | [], [] => by simp [Go.Lib.compareBytes]
 | [], _ :: _ => by simp [Go.Lib.compareBytes]
 | _ :: _, [] => by simp [Go.Lib.compareBytes]
 | x :: a, y :: b => by
  have := cmpL_rng a b
  simp only [Go.Lib.compareBytes]; (repeat' split) <;> omega
theorem cmpL_anti : ∀ a b : List UInt8, Go.Lib.compareBytes b a = - Go.Lib.compareBytes a b
 | [], [] => by simp [Go.Lib.compareBytes]
 | [], _ :: _ => by simp [Go.Lib.compareBytes]
 | _ :: _, [] => by simp [Go.Lib.compareBytes]
 | x :: a, y :: b => by
  have ih := cmpL_anti a b
  simp only [Go.Lib.compareBytes, UInt8.lt_iff_toNat_lt]; (repeat' split) <;> omega
theorem cmpL_zero : ∀ a b : List UInt8, Go.Lib.compareBytes a b = 0 ↔ a = b
 | [], [] => by simp [Go.Lib.compareBytes]
 | [], _ :: _ => by simp [Go.Lib.compareBytes]
 | _ :: _, [] => by simp [Go.Lib.compareBytes]
 | x :: a, y :: b => by
  have ih := cmpL_zero a b
  simp only [Go.Lib.compareBytes, UInt8.lt_iff_toNat_lt, List.cons.injEq, ← UInt8.toNat_inj, ← ih]; (repeat' split) <;> omega
theorem cmpL_trans : ∀ a b d : List UInt8, Go.Lib.compareBytes a b ≤ 0 → Go.Lib.compareBytes b d ≤ 0 → Go.Lib.compareBytes a d ≤ 0
 | [], _, [] => by simp [Go.Lib.compareBytes]
 | [], _, _ :: _ => by simp [Go.Lib.compareBytes]
 | _ :: _, [], _ => by simp [Go.Lib.compareBytes]
 | _ :: _, _ :: _, [] => by simp [Go.Lib.compareBytes]
 | x :: a, y :: b, z :: d => by
  have ih := cmpL_trans a b d
  simp only [Go.Lib.compareBytes, UInt8.lt_iff_toNat_lt]; (repeat' split) <;> omega
theorem cmpB_is : IsCmp cmpB := by
 refine ⟨fun a b => cmpL_rng _ _, fun a b => cmpL_anti _ _, fun a b => ?_, fun a b d => cmpL_trans _ _ _⟩
 unfold cmpB
 rw [cmpL_zero]
 constructor
 ·intro h; cases a; cases b; simp_all
 ·rintro rfl; rfl
def lexC {α β : Type} (c : α → α → Int) (d : β → β → Int) (x y : α × β) : Int := if c x.1 y.1 = 0 then d x.2 y.2 else c x.1 y.1
theorem lexC_is {α β : Type} {c : α → α → Int} {d : β → β → Int} (hc : IsCmp c) (hd : IsCmp d) : IsCmp (lexC c d) := by
 refine ⟨fun a b => ?_, fun a b => ?_, fun a b => ?_, fun a b e => ?_⟩
 ·unfold lexC; have := hc.rng a.1 b.1; have := hd.rng a.2 b.2; split <;> omega
 ·unfold lexC; have h1 := hc.anti a.1 b.1; have h2 := hd.anti a.2 b.2; (repeat' split) <;> omega
 ·unfold lexC
  have h1 := hc.zero a.1 b.1
  have h2 := hd.zero a.2 b.2
  rw [Prod.ext_iff, ← h1, ← h2]
  split <;> omega
 ·unfold lexC
  intro h1 h2
  have t1 := hc.trans a.1 b.1 e.1
  have t2 := hc.trans e.1 b.1 a.1
  have n1 := hc.anti a.1 b.1
  have n2 := hc.anti b.1 e.1
  have n3 := hc.anti a.1 e.1
  by_cases e1 : c a.1 b.1 = 0
  ·have q1 := (hc.zero a.1 b.1).1 e1
   by_cases e2 : c b.1 e.1 = 0
   ·have q2 := (hc.zero b.1 e.1).1 e2
    rw [if_pos e1] at h1
    rw [if_pos e2] at h2
    rw [if_pos ((hc.zero a.1 e.1).2 (q1.trans q2))]
    exact hd.trans _ _ _ h1 h2
   ·rw [if_neg e2] at h2
    rw [q1, if_neg e2]
    exact h2
  ·rw [if_neg e1] at h1
   by_cases e2 : c b.1 e.1 = 0
   ·have q2 := (hc.zero b.1 e.1).1 e2
    rw [← q2, if_neg e1]
    exact h1
   ·rw [if_neg e2] at h2
    have h3 := t1 h1 h2
    by_cases e3 : c a.1 e.1 = 0
    ·exfalso
     have q3 := (hc.zero a.1 e.1).1 e3
     rw [q3] at n1 h1 e1
     omega
    ·rw [if_neg e3]; exact h3
theorem IsCmp.pull {α β : Type} {c : α → α → Int} (hc : IsCmp c) (f : β → α) (hf : ∀ x y, f x = f y → x = y) : IsCmp (fun x y => c (f x) (f y)) :=
 ⟨fun a b => hc.rng _ _, fun a b => hc.anti _ _, fun a b => (hc.zero _ _).trans ⟨hf a b, fun h => by rw [h]⟩, fun a b d => hc.trans _ _ _⟩
section
variable {α : Type} {c : α → α → Int} {id : α → Int} {ok : α → Bool}
structure Counts (c : α → α → Int) (id : α → Int) (ok : α → Bool) (l out : List α) : Prop where
 ids : out.Pairwise fun x y => id x ≠ id y
 mem : ∀ x ∈ out, x ∈ l ∧ ok x = true
 best : ∀ y ∈ l, ok y = true → ∃ x ∈ out, id x = id y ∧ c x y ≤ 0
theorem Counts.inj {l out : List α} (h : Counts c id ok l out) {x y : α} (hx : x ∈ out) (hy : y ∈ out) (e : id x = id y) : x = y := by
 obtain ⟨i, hi, rfl⟩ := List.getElem_of_mem hx
 obtain ⟨j, hj, rfl⟩ := List.getElem_of_mem hy
 have hp := List.pairwise_iff_getElem.1 h.ids
 rcases Nat.lt_trichotomy i j with h1 | h1 | h1
 ·exact absurd e (hp i j hi hj h1)
 ·subst h1; rfl
 ·exact absurd e.symm (hp j i hj hi h1)
theorem Counts.mem_iff (hc : IsCmp c) {l out : List α} (h : Counts c id ok l out) (x : α) : x ∈ out ↔ x ∈ l ∧ ok x = true ∧ ∀ y ∈ l, ok y = true → id y = id x → c x y ≤ 0 := by
 constructor
 ·intro hx
  refine ⟨(h.mem x hx).1, (h.mem x hx).2, fun y hy ho e => ?_⟩
  obtain ⟨x', hx', e', hcc⟩ := h.best y hy ho
  obtain rfl := h.inj hx' hx (e'.trans e)
  exact hcc
 ·rintro ⟨hx, ho, hb⟩
  obtain ⟨x', hx', e', hcc⟩ := h.best x hx ho
  have h1 := h.mem x' hx'
  have h2 := hb x' h1.1 h1.2 e'
  have := hc.anti x x'
  obtain rfl := (hc.zero x x').1 (by omega)
  exact hx'
theorem Counts.nodup {l out : List α} (h : Counts c id ok l out) : out.Nodup := h.ids.imp (fun hne e => hne (by rw [e]))
theorem Counts.one (hc : IsCmp c) {l l' a b : List α} (ha : Counts c id ok l a) (hb : Counts c id ok l' b) (sa : a.Pairwise fun x y => c x y ≤ 0) (sb : b.Pairwise fun x y => c x y ≤ 0) (hl : ∀ x, x ∈ l ↔ x ∈ l') : a = b := by
 refine List.Perm.eq_of_pairwise (le := fun x y => c x y ≤ 0) (fun x y _ _ h1 h2 => (hc.zero x y).1 (by have := hc.anti x y; omega)) sa sb ?_
 refine (List.perm_ext_iff_of_nodup ha.nodup hb.nodup).2 fun x => ?_
 rw [ha.mem_iff hc, hb.mem_iff hc]
 simp only [hl]
theorem Counts.perm {l a b : List α} (h : Counts c id ok l a) (hp : a.Perm b) : Counts c id ok l b :=
 ⟨(hp.pairwise_iff (fun h => Ne.symm h)).1 h.ids, fun x hx => h.mem x (hp.mem_iff.2 hx), fun y hy ho => by
  obtain ⟨x, hx, h2⟩ := h.best y hy ho
  exact ⟨x, hp.mem_iff.1 hx, h2⟩⟩
def stepD (c : α → α → Int) (id : α → Int) (ok : α → Bool) (m : List α) (s : α) : List α :=
 if ok s = true then (match m.findIdx? (fun x => decide (id x = id s)) with | none => m ++ [s] | some j => if c s (m.getD j s) < 0 then m.set j s else m) else m
theorem Counts.step (hc : IsCmp c) {p m : List α} (h : Counts c id ok p m) (s : α) : Counts c id ok (p ++ [s]) (stepD c id ok m s) := by
 have old : ∀ x ∈ m, x ∈ p ++ [s] ∧ ok x = true := fun x hx => ⟨List.mem_append_left _ (h.mem x hx).1, (h.mem x hx).2⟩
 have hss : c s s = 0 := (hc.zero s s).2 rfl
 unfold stepD
 by_cases ho : ok s = true
 ·rw [if_pos ho]
  cases hf : m.findIdx? (fun x => decide (id x = id s)) with
  | none =>
   have hn := List.findIdx?_eq_none_iff.1 hf
   refine ⟨?_, ?_, ?_⟩
   ·rw [List.pairwise_append]
    refine ⟨h.ids, List.pairwise_singleton _ _, fun x hx y hy => ?_⟩
    obtain rfl := List.mem_singleton.1 hy
    simpa using hn x hx
   ·intro x hx
    rcases List.mem_append.1 hx with hx | hx
    ·exact old x hx
    ·obtain rfl := List.mem_singleton.1 hx
     exact ⟨by simp, ho⟩
   ·intro y hy hoy
    rcases List.mem_append.1 hy with hy | hy
    ·obtain ⟨x, hx, h2⟩ := h.best y hy hoy
     exact ⟨x, List.mem_append_left _ hx, h2⟩
    ·obtain rfl := List.mem_singleton.1 hy
     exact ⟨y, by simp, rfl, by omega⟩
  | some j =>
   obtain ⟨hj, hid, _⟩ := List.findIdx?_eq_some_iff_getElem.1 hf
   have hid' : id m[j] = id s := by simpa using hid
   have hg : m.getD j s = m[j] := by simp [List.getD, hj]
   have hp := List.pairwise_iff_getElem.1 h.ids
   simp only [hg]
   by_cases hlt : c s m[j] < 0
   ·rw [if_pos hlt]
    refine ⟨?_, ?_, ?_⟩
    ·rw [List.pairwise_iff_getElem]
     intro a b ha hb hab
     rw [List.length_set] at ha hb
     rw [List.getElem_set, List.getElem_set]
     split
     ·rw [if_neg (by omega), ← hid']
      rename_i e; subst e
      exact hp j b ha hb hab
     ·split
      ·rw [← hid']
       rename_i e; subst e
       exact hp a j ha hb hab
      ·exact hp a b ha hb hab
    ·intro x hx
     rcases List.mem_or_eq_of_mem_set hx with hx | rfl
     ·exact old x hx
     ·exact ⟨by simp, ho⟩
    ·have hs : s ∈ m.set j s := List.mem_set hj s
     intro y hy hoy
     rcases List.mem_append.1 hy with hy | hy
     ·obtain ⟨x, hx, e, hcc⟩ := h.best y hy hoy
      obtain ⟨i, hi, rfl⟩ := List.getElem_of_mem hx
      by_cases hij : j = i
      ·subst hij
       exact ⟨s, hs, by rw [← hid', e], hc.trans _ _ _ (by omega) hcc⟩
      ·refine ⟨m[i], ?_, e, hcc⟩
       have : (m.set j s)[i]'(by simpa using hi) = m[i] := by rw [List.getElem_set, if_neg hij]
       rw [← this]
       exact List.getElem_mem _
     ·obtain rfl := List.mem_singleton.1 hy
      exact ⟨y, hs, rfl, by omega⟩
   ·rw [if_neg hlt]
    refine ⟨h.ids, old, fun y hy hoy => ?_⟩
    rcases List.mem_append.1 hy with hy | hy
    ·exact h.best y hy hoy
    ·obtain rfl := List.mem_singleton.1 hy
     have := hc.anti y m[j]
     exact ⟨m[j], List.getElem_mem _, hid', by omega⟩
 ·rw [if_neg ho]
  refine ⟨h.ids, old, fun y hy hoy => ?_⟩
  rcases List.mem_append.1 hy with hy | hy
  ·exact h.best y hy hoy
  ·obtain rfl := List.mem_singleton.1 hy
   exact absurd hoy ho
theorem counts_nil : Counts c id ok ([] : List α) [] := ⟨List.Pairwise.nil, by simp, by simp⟩
theorem stepD_counts (hc : IsCmp c) : ∀ (l p m : List α), Counts c id ok p m → Counts c id ok (p ++ l) (l.foldl (stepD c id ok) m)
 | [], p, m, h => by simpa using h
 | s :: l, p, m, h => by
  have := stepD_counts hc l (p ++ [s]) _ (h.step hc s)
  simpa using this
theorem stepD_length (m : List α) (s : α) : m.length ≤ (stepD c id ok m s).length ∧ (stepD c id ok m s).length ≤ m.length + 1 := by
 unfold stepD
 split
 ·split
  ·simp
  ·split <;> simp
 ·simp
theorem foldD_length : ∀ (l m : List α), (l.foldl (stepD c id ok) m).length ≤ m.length + l.length
 | [], m => by simp
 | s :: l, m => by
  have h1 := foldD_length l (stepD c id ok m s)
  have h2 := (stepD_length (c := c) (id := id) (ok := ok) m s).2
  simp only [List.foldl_cons, List.length_cons]
  omega
theorem Counts.from {l l' out : List α} (h : Counts c id ok l out) (hl : ∀ x, ok x = true → (x ∈ l ↔ x ∈ l')) : Counts c id ok l' out :=
 ⟨h.ids, fun x hx => ⟨(hl x (h.mem x hx).2).1 (h.mem x hx).1, (h.mem x hx).2⟩, fun y hy ho => h.best y ((hl y ho).2 hy) ho⟩
end
end Go.Proofs.YtgknjgionicncaaGreat.L
namespace Go.Proofs.YtgknjgionicncaaGreat.L
set_option linter.unusedVariables false
section
variable {α : Type} {c : α → α → Int}
def Rise (c : α → α → Int) (l : List α) : Prop := l.Pairwise fun x y => c x y < 0
theorem Rise.nodup (hc : IsCmp c) {l : List α} (h : Rise c l) : l.Nodup := h.imp (fun {x y} h e => by subst e; have := (hc.zero x x).2 rfl; omega)
theorem Rise.one (hc : IsCmp c) {a b : List α} (ha : Rise c a) (hb : Rise c b) (hm : ∀ x, x ∈ a ↔ x ∈ b) : a = b := by
 refine List.Perm.eq_of_pairwise (le := fun x y => c x y ≤ 0) (fun x y _ _ h1 h2 => (hc.zero x y).1 (by have := hc.anti x y; omega)) (ha.imp (fun h => by omega)) (hb.imp (fun h => by omega)) ?_
 exact (List.perm_ext_iff_of_nodup (ha.nodup hc) (hb.nodup hc)).2 hm
theorem compactUpTo_rise [Inhabited α] [DecidableEq α] (hc : IsCmp c) (d : Array α) (hs : ∀ i j, i < j → j < d.size → c d[i]! d[j]! ≤ 0) : ∀ m, m ≤ d.size → Rise c (Go.Lib.compactUpTo d m) ∧ ∀ x, x ∈ Go.Lib.compactUpTo d m ↔ ∃ j, j < m ∧ d[j]! = x
 | 0, _ => ⟨by simp [Go.Lib.compactUpTo, Rise], fun x => by simp [Go.Lib.compactUpTo]⟩
 | m + 1, hm => by
  obtain ⟨h1, h2⟩ := compactUpTo_rise hc d hs m (by omega)
  rw [Go.Lib.compactUpTo_succ]
  by_cases hk : Go.Lib.keeps d m = true
  ·rw [if_pos hk]
   refine ⟨?_, fun x => ?_⟩
   ·unfold Rise
    rw [List.pairwise_append]
    refine ⟨h1, List.pairwise_singleton _ _, fun x hx y hy => ?_⟩
    obtain rfl := List.mem_singleton.1 hy
    obtain ⟨j, hj, rfl⟩ := (h2 x).1 hx
    have h3 := hs j m hj (by omega)
    rcases Int.lt_or_eq_of_le h3 with h4 | h4
    ·exact h4
    ·exfalso
     have h5 := (hc.zero _ _).1 h4
     have h6 : m ≠ 0 := by omega
     have h7 : d[m]! ≠ d[m - 1]! := by simpa [Go.Lib.keeps, h6] using hk
     apply h7
     by_cases e : j = m - 1
     ·rw [← h5, e]
     ·have h8 := hs j (m - 1) (by omega) (by omega)
      have h9 := hs (m - 1) m (by omega) (by omega)
      rw [h5] at h8
      have := hc.anti d[m]! d[m - 1]!
      exact (hc.zero _ _).1 (by omega)
   ·rw [List.mem_append, h2, List.mem_singleton]
    constructor
    ·rintro (⟨j, hj, rfl⟩ | rfl)
     ·exact ⟨j, by omega, rfl⟩
     ·exact ⟨m, by omega, rfl⟩
    ·rintro ⟨j, hj, rfl⟩
     by_cases e : j = m
     ·subst e; exact .inr rfl
     ·exact .inl ⟨j, by omega, rfl⟩
  ·rw [if_neg hk, List.append_nil]
   refine ⟨h1, fun x => ?_⟩
   rw [h2]
   constructor
   ·rintro ⟨j, hj, rfl⟩; exact ⟨j, by omega, rfl⟩
   ·rintro ⟨j, hj, rfl⟩
    by_cases e : j = m
    ·subst e
     have h6 : j ≠ 0 ∧ d[j]! = d[j - 1]! := by
      simp only [Go.Lib.keeps, decide_eq_true_eq, not_or, ne_eq] at hk
      exact ⟨hk.1, Decidable.not_not.1 hk.2⟩
     exact ⟨j - 1, by omega, h6.2.symm⟩
    ·exact ⟨j, by omega, rfl⟩
theorem compact_rise [Inhabited α] [DecidableEq α] (hc : IsCmp c) (l : List α) (hs : l.Pairwise fun x y => c x y ≤ 0) : Rise c (Go.Lib.compact l) ∧ ∀ x, x ∈ Go.Lib.compact l ↔ x ∈ l := by
 have hg : ∀ j (h : j < l.length), l.toArray[j]! = l[j] := fun j h => by rw [getElem!_pos l.toArray j (by simpa using h)]; simp
 obtain ⟨h1, h2⟩ := compactUpTo_rise hc l.toArray (fun i j hij hj => by
  have hj' : j < l.length := by simpa using hj
  rw [hg i (by omega), hg j hj']
  exact List.pairwise_iff_getElem.1 hs i j (by omega) hj' hij) l.length (by simp)
 refine ⟨h1, fun x => (h2 x).trans ⟨?_, fun hx => ?_⟩⟩
 ·rintro ⟨j, hj, rfl⟩; rw [hg j hj]; exact List.getElem_mem _
 ·obtain ⟨j, hj, rfl⟩ := List.getElem_of_mem hx
  exact ⟨j, hj, hg j hj⟩
def posG (c : α → α → Int) (l : List α) (s : α) : Nat → Nat
 | 0 => 0
 | j + 1 => if c (l.getD j s) s > 0 then posG c l s j else j + 1
theorem posG_le (l : List α) (s : α) : ∀ j, posG c l s j ≤ j
 | 0 => Nat.le_refl _
 | j + 1 => by
  unfold posG
  split
  ·exact Nat.le_succ_of_le (posG_le l s j)
  ·exact Nat.le_refl _
theorem posG_above (l : List α) (s : α) : ∀ j i, posG c l s j ≤ i → i < j → c (l.getD i s) s > 0
 | 0, i, _, h => by omega
 | j + 1, i, h1, h2 => by
  unfold posG at h1
  split at h1
  ·rename_i hc
   by_cases e : i = j
   ·subst e; exact hc
   ·exact posG_above l s j i h1 (by omega)
  ·omega
theorem posG_below (l : List α) (s : α) : ∀ j, 0 < posG c l s j → c (l.getD (posG c l s j - 1) s) s ≤ 0
 | 0, h => by simp [posG] at h
 | j + 1, h => by
  unfold posG at h ⊢
  split
  ·rename_i hc; rw [if_pos hc] at h; exact posG_below l s j h
  ·rename_i hc; simp only [Nat.add_sub_cancel]; omega
def insH [DecidableEq α] (c : α → α → Int) (l : List α) (s : α) : List α := if s ∈ l then l else l.take (posG c l s l.length) ++ s :: l.drop (posG c l s l.length)
theorem insH_mem [DecidableEq α] (l : List α) (s x : α) : x ∈ insH c l s ↔ x ∈ l ∨ x = s := by
 unfold insH
 split
 ·constructor
  ·exact .inl
  ·rintro (h | rfl) <;> assumption
 ·have h := (List.perm_middle (a := s) (l₁ := l.take (posG c l s l.length)) (l₂ := l.drop (posG c l s l.length))).mem_iff (a := x)
  rw [h, List.mem_cons, List.take_append_drop]
  exact or_comm
theorem insH_length [DecidableEq α] (l : List α) (s : α) : (insH c l s).length ≤ l.length + 1 := by
 have := posG_le (c := c) l s l.length
 unfold insH
 split
 ·omega
 ·simp; omega
theorem insH_rise [DecidableEq α] (hc : IsCmp c) {l : List α} (s : α) (h : Rise c l) : Rise c (insH c l s) := by
 unfold insH
 split
 ·exact h
 ·rename_i hn
  have hp := posG_le (c := c) l s l.length
  have ha := posG_above (c := c) l s l.length
  have hb := posG_below (c := c) l s l.length
  generalize posG c l s l.length = p at *
  have hs : ∀ i j (hi : i < l.length) (hj : j < l.length), i < j → c l[i] l[j] < 0 := fun i j hi hj hij => List.pairwise_iff_getElem.1 h i j hi hj hij
  have tr : ∀ x y z, c x y ≤ 0 → c y z < 0 → c x z < 0 := fun x y z h1 h2 => by
   have h3 := hc.trans x y z h1 (by omega)
   rcases Int.lt_or_eq_of_le h3 with h4 | h4
   ·exact h4
   ·obtain rfl := (hc.zero _ _).1 h4
    have := hc.anti x y
    omega
  have h1 : ∀ x ∈ l.take p, c x s < 0 := by
   intro x hx
   obtain ⟨i, hi, rfl⟩ := List.getElem_of_mem hx
   have hip : i < p ∧ i < l.length := by simp at hi; omega
   have h2 : c l[p - 1] s < 0 := by
    have := hb (by omega)
    rw [List.getD, List.getElem?_eq_getElem (by omega)] at this
    simp only [Option.getD_some] at this
    rcases Int.lt_or_eq_of_le this with h4 | h4
    ·exact h4
    ·exact absurd ((hc.zero _ _).1 h4 ▸ List.getElem_mem _) hn
   rw [List.getElem_take]
   by_cases e : i = p - 1
   ·subst e; exact h2
   ·exact tr _ _ _ (by have := hs i (p - 1) hip.2 (by omega) (by omega); omega) h2
  have h2 : ∀ y ∈ l.drop p, c s y < 0 := by
   intro y hy
   obtain ⟨i, hi, rfl⟩ := List.getElem_of_mem hy
   have hil : p + i < l.length := by simp at hi; omega
   rw [List.getElem_drop]
   have := ha (p + i) (by omega) hil
   rw [List.getD, List.getElem?_eq_getElem hil] at this
   have an := hc.anti l[p + i] s
   simp only [Option.getD_some] at this
   omega
  unfold Rise
  rw [List.pairwise_append]
  refine ⟨h.sublist (List.take_sublist _ _), ?_, ?_⟩
  ·rw [List.pairwise_cons]
   exact ⟨h2, h.sublist (List.drop_sublist _ _)⟩
  ·intro x hx y hy
   rcases List.mem_cons.1 hy with rfl | hy
   ·exact h1 x hx
   ·exact tr _ _ _ (by have := h1 x hx; omega) (h2 y hy)
theorem foldH [DecidableEq α] (hc : IsCmp c) : ∀ (l a : List α), Rise c a → Rise c (l.foldl (insH c) a) ∧ (∀ x, x ∈ l.foldl (insH c) a ↔ x ∈ a ∨ x ∈ l) ∧ (l.foldl (insH c) a).length ≤ a.length + l.length
 | [], a, h => ⟨h, by simp, by simp⟩
 | s :: l, a, h => by
  obtain ⟨h1, h2, h3⟩ := foldH hc l (insH c a s) (insH_rise hc s h)
  refine ⟨h1, fun x => ?_, ?_⟩
  ·rw [List.foldl_cons, h2, insH_mem, List.mem_cons, or_assoc]
  ·rw [List.foldl_cons]
   have := insH_length (c := c) a s
   simp only [List.length_cons]
   omega
end
theorem cmpL_lt : ∀ a b : List UInt8, Go.Lib.compareBytes a b < 0 ↔ a < b
 | [], [] => by simp [Go.Lib.compareBytes]
 | [], _ :: _ => by simp [Go.Lib.compareBytes]
 | _ :: _, [] => by simp [Go.Lib.compareBytes]
 | x :: a, y :: b => by
  have ih := cmpL_lt a b
  rw [List.cons_lt_cons_iff, ← ih]
  simp only [Go.Lib.compareBytes, UInt8.lt_iff_toNat_lt, ← UInt8.toNat_inj]
  (repeat' split) <;> omega
theorem cmpL_le (a b : List UInt8) : Go.Lib.compareBytes a b ≤ 0 ↔ a ≤ b := by
 have h := cmpL_lt b a
 have h2 := cmpL_anti a b
 have h3 : a ≤ b ↔ ¬ b < a := Iff.rfl
 rw [h3, ← h]
 omega
theorem cmpL_is : IsCmp Go.Lib.compareBytes := ⟨cmpL_rng, cmpL_anti, cmpL_zero, cmpL_trans⟩
def hostsL (l : List (List UInt8)) : List (List UInt8) := Go.Lib.compact (l.mergeSort fun x y => decide (x ≤ y))
theorem hostsL_rise (l : List (List UInt8)) : Rise Go.Lib.compareBytes (hostsL l) ∧ ∀ x, x ∈ hostsL l ↔ x ∈ l := by
 have hs : (l.mergeSort fun x y => decide (x ≤ y)).Pairwise fun x y => Go.Lib.compareBytes x y ≤ 0 := by
  have h := List.pairwise_mergeSort (le := fun x y : List UInt8 => decide (x ≤ y)) (fun a b c h1 h2 => by
   simp only [decide_eq_true_eq, ← cmpL_le] at *
   exact cmpL_trans _ _ _ h1 h2) (fun a b => by
   simp only [Bool.or_eq_true, decide_eq_true_eq, ← cmpL_le]
   have := cmpL_anti a b
   omega) l
  exact h.imp (fun h => by simpa [cmpL_le] using h)
 obtain ⟨h1, h2⟩ := compact_rise cmpL_is _ hs
 exact ⟨h1, fun x => (h2 x).trans (List.mergeSort_perm l _).mem_iff⟩
theorem hostsL_length (l : List (List UInt8)) : (hostsL l).length ≤ l.length := by
 refine Nat.le_trans (Go.Lib.compact_length_le _) ?_
 rw [List.length_mergeSort]; exact Nat.le_refl _
end Go.Proofs.YtgknjgionicncaaGreat.L
namespace Go.Proofs
open Go.Shelf
def Tryz.sortSpan_ren : Go.Shelf.Ren := ⟨fun | 6 => 103 | 15 => 136 | 14 => 135 | 28 => 160 | 29 => 161 | 20 => 152 | 21 => 153 | 22 => 154 | 23 => 155 | 24 => 156 | 25 => 157 | 26 => 158 | 27 => 159 | 46 => 173 | 47 => 174 | 48 => 175 | 49 => 176 | 50 => 177 | 57 => 184 | n => n, fun | 22 => 22 | 24 => 36 | 25 => 90 | 3 => 3 | 39 => 150 | 0 => 0 | 53 => 168 | 55 => 23 | 4 => 4 | 46 => 162 | 45 => 161 | 50 => 42 | 5 => 5 | 9 => 9 | 66 => 180 | 70 => 184 | 76 => 191 | 77 => 192 | n => n, fun | n => n⟩
theorem Tryz.sortSpan : Go.Proofs.SlLaysF0.n6 Tryz.prog Tryz.sortSpan_ren := {
 mixed := by kernel_rfl
 f6 := ⟨Tryz.f103.name, by decide, Tryz.func103.trans (congrArg some (by kernel_rfl))⟩
 f14 := ⟨Tryz.f135.name, by decide, Tryz.func135.trans (congrArg some (by kernel_rfl))⟩
 f15 := Tryz.func136.trans (congrArg some (by kernel_rfl))
 f20 := ⟨Tryz.f152.name, by decide, Tryz.func152.trans (congrArg some (by kernel_rfl))⟩
 f21 := ⟨Tryz.f153.name, by decide, Tryz.func153.trans (congrArg some (by kernel_rfl))⟩
 f22 := ⟨Tryz.f154.name, by decide, Tryz.func154.trans (congrArg some (by kernel_rfl))⟩
 f23 := ⟨Tryz.f155.name, by decide, Tryz.func155.trans (congrArg some (by kernel_rfl))⟩
 f24 := ⟨Tryz.f156.name, by decide, Tryz.func156.trans (congrArg some (by kernel_rfl))⟩
 f25 := ⟨Tryz.f157.name, by decide, Tryz.func157.trans (congrArg some (by kernel_rfl))⟩
 f26 := ⟨Tryz.f158.name, by decide, Tryz.func158.trans (congrArg some (by kernel_rfl))⟩
 f27 := ⟨Tryz.f159.name, by decide, Tryz.func159.trans (congrArg some (by kernel_rfl))⟩
 f28 := Tryz.func160.trans (congrArg some (by kernel_rfl))
 f29 := Tryz.func161.trans (congrArg some (by kernel_rfl))
 f46 := ⟨Tryz.f173.name, by decide, Tryz.func173.trans (congrArg some (by kernel_rfl))⟩
 f47 := Tryz.func174.trans (congrArg some (by kernel_rfl))
 f48 := Tryz.func175.trans (congrArg some (by kernel_rfl))
 f49 := ⟨Tryz.f176.name, by decide, Tryz.func176.trans (congrArg some (by kernel_rfl))⟩
 f50 := ⟨Tryz.f177.name, by decide, Tryz.func177.trans (congrArg some (by kernel_rfl))⟩
 f57 := ⟨Tryz.f184.name, by decide, Tryz.func184.trans (congrArg some (by kernel_rfl))⟩
 t0 := Tryz.underlying0
 a0 := Tryz.isAgg0
 z0 := Tryz.sizeOf0
 v0 := Tryz.zeroValue0
 t3 := Tryz.underlying3
 a3 := Tryz.isAgg3
 z3 := Tryz.sizeOf3
 v3 := Tryz.zeroValue3
 t4 := Tryz.underlying4
 a4 := Tryz.isAgg4
 z4 := Tryz.sizeOf4
 v4 := Tryz.zeroValue4
 t5 := Tryz.underlying5
 a5 := Tryz.isAgg5
 z5 := Tryz.sizeOf5
 v5 := Tryz.zeroValue5
 t9 := Tryz.underlying9
 a9 := Tryz.isAgg9
 z9 := Tryz.sizeOf9
 v9 := Tryz.zeroValue9
 t22 := Tryz.underlying22
 a22 := Tryz.isAgg22
 z22 := Tryz.sizeOf22
 v22 := Tryz.zeroValue22
 t25 := Tryz.underlying90
 a25 := Tryz.isAgg90
 z25 := Tryz.sizeOf90
 v25 := Tryz.zeroValue90
 t39 := Tryz.underlying150
 a39 := Tryz.isAgg150
 z39 := Tryz.sizeOf150
 v39 := Tryz.zeroValue150
 t45 := Tryz.underlying161
 a45 := Tryz.isAgg161
 z45 := Tryz.sizeOf161
 v45 := Tryz.zeroValue161
 t46 := Tryz.underlying162
 a46 := Tryz.isAgg162
 z46 := Tryz.sizeOf162
 v46 := Tryz.zeroValue162
 t50 := Tryz.underlying42
 a50 := Tryz.isAgg42
 z50 := Tryz.sizeOf42
 v50 := Tryz.zeroValue42
 t53 := Tryz.underlying168
 a53 := Tryz.isAgg168
 z53 := Tryz.sizeOf168
 v53 := Tryz.zeroValue168
 t55 := Tryz.underlying23
 a55 := Tryz.isAgg23
 z55 := Tryz.sizeOf23
 v55 := Tryz.zeroValue23
 t66 := Tryz.underlying180
 a66 := Tryz.isAgg180
 z66 := Tryz.sizeOf180
 v66 := Tryz.zeroValue180
 t70 := Tryz.underlying184
 a70 := Tryz.isAgg184
 z70 := Tryz.sizeOf184
 v70 := Tryz.zeroValue184
 t76 := Tryz.underlying191
 a76 := Tryz.isAgg191
 z76 := Tryz.sizeOf191
 v76 := Tryz.zeroValue191
 t77 := Tryz.underlying192
 a77 := Tryz.isAgg192
 z77 := Tryz.sizeOf192
 v77 := Tryz.zeroValue192 }
def Tryz.sortStr_ren : Go.Shelf.Ren := ⟨fun | 6 => 104 | 8 => 136 | 9 => 137 | 19 => 160 | 20 => 161 | 21 => 162 | 22 => 163 | 23 => 164 | 24 => 165 | 25 => 166 | 26 => 167 | 27 => 168 | 28 => 169 | 29 => 170 | 36 => 178 | 31 => 174 | 32 => 175 | 37 => 179 | 38 => 180 | 39 => 181 | 41 => 185 | n => n, fun | 27 => 28 | 29 => 9 | 3 => 3 | 32 => 150 | 26 => 28 | 0 => 0 | 44 => 168 | 46 => 23 | 4 => 4 | 36 => 162 | 35 => 161 | 41 => 42 | 5 => 5 | 9 => 9 | 53 => 180 | 57 => 184 | 63 => 191 | 64 => 192 | n => n, fun | n => n⟩
theorem Tryz.sortStr : Go.Proofs.SlLaysM.n6 Tryz.prog Tryz.sortStr_ren := {
 mixed := by kernel_rfl
 f6 := ⟨Tryz.f104.name, by decide, Tryz.func104.trans (congrArg some (by kernel_rfl))⟩
 f8 := Tryz.func136.trans (congrArg some (by kernel_rfl))
 f9 := ⟨Tryz.f137.name, by decide, Tryz.func137.trans (congrArg some (by kernel_rfl))⟩
 f19 := Tryz.func160.trans (congrArg some (by kernel_rfl))
 f20 := Tryz.func161.trans (congrArg some (by kernel_rfl))
 f21 := ⟨Tryz.f162.name, by decide, Tryz.func162.trans (congrArg some (by kernel_rfl))⟩
 f22 := ⟨Tryz.f163.name, by decide, Tryz.func163.trans (congrArg some (by kernel_rfl))⟩
 f23 := ⟨Tryz.f164.name, by decide, Tryz.func164.trans (congrArg some (by kernel_rfl))⟩
 f24 := ⟨Tryz.f165.name, by decide, Tryz.func165.trans (congrArg some (by kernel_rfl))⟩
 f25 := ⟨Tryz.f166.name, by decide, Tryz.func166.trans (congrArg some (by kernel_rfl))⟩
 f26 := ⟨Tryz.f167.name, by decide, Tryz.func167.trans (congrArg some (by kernel_rfl))⟩
 f27 := ⟨Tryz.f168.name, by decide, Tryz.func168.trans (congrArg some (by kernel_rfl))⟩
 f28 := ⟨Tryz.f169.name, by decide, Tryz.func169.trans (congrArg some (by kernel_rfl))⟩
 f29 := ⟨Tryz.f170.name, by decide, Tryz.func170.trans (congrArg some (by kernel_rfl))⟩
 f31 := Tryz.func174.trans (congrArg some (by kernel_rfl))
 f32 := Tryz.func175.trans (congrArg some (by kernel_rfl))
 f36 := ⟨Tryz.f178.name, by decide, Tryz.func178.trans (congrArg some (by kernel_rfl))⟩
 f37 := ⟨Tryz.f179.name, by decide, Tryz.func179.trans (congrArg some (by kernel_rfl))⟩
 f38 := ⟨Tryz.f180.name, by decide, Tryz.func180.trans (congrArg some (by kernel_rfl))⟩
 f39 := ⟨Tryz.f181.name, by decide, Tryz.func181.trans (congrArg some (by kernel_rfl))⟩
 f41 := ⟨Tryz.f185.name, by decide, Tryz.func185.trans (congrArg some (by kernel_rfl))⟩
 t0 := Tryz.underlying0
 a0 := Tryz.isAgg0
 z0 := Tryz.sizeOf0
 v0 := Tryz.zeroValue0
 t3 := Tryz.underlying3
 a3 := Tryz.isAgg3
 z3 := Tryz.sizeOf3
 v3 := Tryz.zeroValue3
 t4 := Tryz.underlying4
 a4 := Tryz.isAgg4
 z4 := Tryz.sizeOf4
 v4 := Tryz.zeroValue4
 t5 := Tryz.underlying5
 a5 := Tryz.isAgg5
 z5 := Tryz.sizeOf5
 v5 := Tryz.zeroValue5
 t9 := Tryz.underlying9
 a9 := Tryz.isAgg9
 z9 := Tryz.sizeOf9
 v9 := Tryz.zeroValue9
 t26 := Tryz.underlying28
 a26 := Tryz.isAgg28
 z26 := Tryz.sizeOf28
 v26 := Tryz.zeroValue28
 t27 := Tryz.underlying28
 a27 := Tryz.isAgg28
 z27 := Tryz.sizeOf28
 v27 := Tryz.zeroValue28
 t29 := Tryz.underlying9
 a29 := Tryz.isAgg9
 z29 := Tryz.sizeOf9
 v29 := Tryz.zeroValue9
 t32 := Tryz.underlying150
 a32 := Tryz.isAgg150
 z32 := Tryz.sizeOf150
 v32 := Tryz.zeroValue150
 t35 := Tryz.underlying161
 a35 := Tryz.isAgg161
 z35 := Tryz.sizeOf161
 v35 := Tryz.zeroValue161
 t36 := Tryz.underlying162
 a36 := Tryz.isAgg162
 z36 := Tryz.sizeOf162
 v36 := Tryz.zeroValue162
 t41 := Tryz.underlying42
 a41 := Tryz.isAgg42
 z41 := Tryz.sizeOf42
 v41 := Tryz.zeroValue42
 t44 := Tryz.underlying168
 a44 := Tryz.isAgg168
 z44 := Tryz.sizeOf168
 v44 := Tryz.zeroValue168
 t46 := Tryz.underlying23
 a46 := Tryz.isAgg23
 z46 := Tryz.sizeOf23
 v46 := Tryz.zeroValue23
 t53 := Tryz.underlying180
 a53 := Tryz.isAgg180
 z53 := Tryz.sizeOf180
 v53 := Tryz.zeroValue180
 t57 := Tryz.underlying184
 a57 := Tryz.isAgg184
 z57 := Tryz.sizeOf184
 v57 := Tryz.zeroValue184
 t63 := Tryz.underlying191
 a63 := Tryz.isAgg191
 z63 := Tryz.sizeOf191
 v63 := Tryz.zeroValue191
 t64 := Tryz.underlying192
 a64 := Tryz.isAgg192
 z64 := Tryz.sizeOf192
 v64 := Tryz.zeroValue192 }
def Tryz.compactStr_ren : Go.Shelf.Ren := ⟨fun | 44 => 105 | n => n, fun | 25 => 28 | 26 => 9 | 3 => 3 | 4 => 4 | 0 => 0 | n => n, fun | n => n⟩
theorem Tryz.compactStr : Go.Proofs.SlLaysN.n44 Tryz.prog Tryz.compactStr_ren := {
 mixed := by kernel_rfl
 f44 := ⟨Tryz.f105.name, by decide, Tryz.func105.trans (congrArg some (by kernel_rfl))⟩
 t0 := Tryz.underlying0
 a0 := Tryz.isAgg0
 z0 := Tryz.sizeOf0
 v0 := Tryz.zeroValue0
 t3 := Tryz.underlying3
 a3 := Tryz.isAgg3
 z3 := Tryz.sizeOf3
 v3 := Tryz.zeroValue3
 t4 := Tryz.underlying4
 a4 := Tryz.isAgg4
 z4 := Tryz.sizeOf4
 v4 := Tryz.zeroValue4
 t25 := Tryz.underlying28
 a25 := Tryz.isAgg28
 z25 := Tryz.sizeOf28
 v25 := Tryz.zeroValue28
 t26 := Tryz.underlying9
 a26 := Tryz.isAgg9
 z26 := Tryz.sizeOf9
 v26 := Tryz.zeroValue9
 i26 := by kernel_rfl }
end Go.Proofs
namespace Go.Proofs.YtgknjgionicncaaGreat.L
open Go.RowKit Go.Proofs.YtgknjgionicncaaGreat.Q Go.Proofs.YtgknjgionicncaaGreatW.PrintWords Go.Proofs.YtgknjgionicncaaGreatW.PrintLast Go.Proofs.YtgknjgionicncaaGreatW.PrintMore Go.Sort
set_option linter.unusedVariables false
def hostsB (l : List S36) : List ByteArray := (hostsL (l.map (·.f4.data.toList))).map (fun x => ⟨x.toArray⟩)
theorem hostsB_cells (l : List S36) : (hostsB l).map Value.string = (hostsL (l.map (·.f4.data.toList))).map encStr := by
  unfold hostsB
  rw [List.map_map]; rfl
theorem hosts_left {w w1 : World} {g cap n nn q : Nat} {os : Array Obj} {ss : List (List UInt8)} (hown : w1.ownsRow w.heap.size 9 1 (.slice (some ⟨g, 0, none⟩) n cap) n (ss.map encStr)) (hbel : Below w.heap.size w w1) (hlen : ss.length = n) :
    (putRow encStr (Sort.ahead (grow (putRow encStr (Sort.ahead w1 nn) g 0 (ss.mergeSort fun x y => decide (x ≤ y)).toArray) os) q) g 0 (Lib.compact (ss.mergeSort fun x y => decide (x ≤ y)) ++ List.replicate ((ss.mergeSort fun x y => decide (x ≤ y)).length - (Lib.compact (ss.mergeSort fun x y => decide (x ≤ y))).length) []).toArray).ownsRow w.heap.size 9 1 (.slice (some ⟨g, 0, none⟩) (hostsL ss).length cap) (hostsL ss).length ((hostsL ss).map encStr) ∧
    Below w.heap.size w (putRow encStr (Sort.ahead (grow (putRow encStr (Sort.ahead w1 nn) g 0 (ss.mergeSort fun x y => decide (x ≤ y)).toArray) os) q) g 0 (Lib.compact (ss.mergeSort fun x y => decide (x ≤ y)) ++ List.replicate ((ss.mergeSort fun x y => decide (x ≤ y)).length - (Lib.compact (ss.mergeSort fun x y => decide (x ≤ y))).length) []).toArray) := by
  have hl2 : (ss.mergeSort fun x y => decide (x ≤ y)).length = ss.length := List.length_mergeSort ss
  have hle := Lib.compact_length_le (ss.mergeSort fun x y => decide (x ≤ y))
  subst hlen
  rcases hown.2 with ⟨h0, _⟩ | ⟨g', cap', cur, hv, hbase, hb, h1, h2, h3, h4⟩
  · cases h0
  cases hv
  have hs := ownsRow_sorted (n := nn) (os := os) (ts := ss.mergeSort fun x y => decide (x ≤ y)) hl2 hbase hb h1 h2 h3
  have hc := Lib.ownsRow_putRow (q := q) (k := (Lib.compact (ss.mergeSort fun x y => decide (x ≤ y))).length) (ys := Lib.compact (ss.mergeSort fun x y => decide (x ≤ y)) ++ List.replicate ((ss.mergeSort fun x y => decide (x ≤ y)).length - (Lib.compact (ss.mergeSort fun x y => decide (x ≤ y))).length) []) hs (by simp; omega) (by omega)
  rw [List.take_left] at hc
  exact ⟨hc, Lib.below_putRow (hbel.grown (grownBy_sorted _) hbel.size (fun j hj => by cases hj; exact hbase)) hbase⟩
set_option maxHeartbeats 4000000 in
set_option maxRecDepth 100000 in
theorem hosts_calls (l0 : List S36) (hl : l0.length ≤ 1759218604441) (A0 : Option Addr) (c0 : Nat) (w : World) (hr0 : Kd.C k36 w A0 l0.length l0) (hc0 : l0.length ≤ c0) :
    Calls Tryz.prog 59 #[.slice A0 l0.length c0] w fun e w' => ∃ v : Value, e = .returned v ∧ Kd.R Kd.string 9 w' w.heap.size (fun _ => True) v (hostsB l0) ∧ Below w.heap.size w w' := by
  have HR0 := Aside0.mk hr0
  have HL := Aside0.mk hl
  clear hr0 hc0 hl
  have HB := Aside0.mk (Below.refl w.heap.size w)
  go_enter Tryz.func59, Tryz.ntmps59
  go_wp2_with fail
  go_loopg [3, 8] l0.length (fun kq v3 v8 w' => ∃ x8 : Int, v8 = .int .i64 x8 ∧ Aside0 (0 ≤ x8 ∧ x8 + kq = l0.length) ∧ Aside0 (Kd.R Kd.string 9 w' w.heap.size (fun _ => True) v3 ((l0.take x8.toNat).map (·.f4))) ∧ Aside0 (Below w.heap.size w w'))
  case atStart => exact ⟨0, rfl, ⟨by omega, by omega⟩, ⟨Kd.R_nil _ _ _ _ _⟩, HB⟩
  case round =>
    obtain ⟨x8, rfl, HK, HO, HB⟩ := hrel
    by_cases c1 : x8 < (l0.length : Int)
    · have c1b := decide_eq_true c1
      have p1 : 0 ≤ x8 := HK.out.1
      obtain ⟨ad1, e1, hx1⟩ := at_T36 HR0.out x8 p1 c1
      cases e1
      obtain ⟨hx1_0, hx1_1, hx1_2, hx1_3, hx1_4, hx1_5, hx1_6, hx1_7⟩ := zc8 HB.out hx1
      have P1 := Aside0.mk p1
      have Q1 := Aside0.mk c1
      replace p1 := eq_true p1
      replace c1 := eq_true c1
      have W1 := Aside0.mk (show wrap64 (x8 + 1) = x8 + 1 from by unfold wrap64; have := HL.out; have := P1.out; have := Q1.out; omega)
      have HS := Aside0.mk (show (l0.take (x8 + 1).toNat).map (·.f4) = (l0.take x8.toNat).map (·.f4) ++ [(rd_T36 l0 x8).f4] from by
        have h1 := P1.out
        have h2 := Q1.out
        have h3 : x8.toNat < l0.length := by omega
        rw [show (x8 + 1).toNat = x8.toNat + 1 by omega, List.take_succ_eq_append_getElem h3, List.map_append]
        simp [rd_T36, List.getD, h3])
      go_wp2_with (first | ((with_reducible refine gate_builtin (b := .append) (xs := #[.tmp 12, .tmp 15]) rfl ?_); at_builtin; refine Kd.R_append Kd.string (w0 := w) w.heap.size rfl (.tmp 12) (.tmp 15) 28 9 (.string ⟨#[]⟩) 16 rfl Tryz.underlying28 (by kernel_rfl) rfl (by decide) (by omega) u3 ((l0.take x8.toNat).map (·.f4)) ((rd_T36 l0 x8).f4) [.string ((rd_T36 l0 x8).f4)] (fun _ => True) (fun _ => False) rfl ?aX ?aP (fun _ hk => hk.elim) ?aF ?aO ?aB ?aS ?aL ?_; (case aX => first | rfl | (go_simp; done) | (simp; done)); (case aP => exact rfl); (case aB => exact zB); (case aF => exact (fun _ _ => trivial)); (case aO => exact (zR HO.out)); (case aS => exact (below_size zB)); (case aL => have := HL.out; have := Q1.out; simp only [List.length_map, List.length_take]; omega); intro v2 w2 ho hb hg hat; rw [← HS.out] at ho; have HO2 := Aside0.mk ho; have HB2 := Aside0.mk hb; clear ho hb hg hat))
      obtain ⟨k1, rfl⟩ : ∃ k1, gk = k1 + 1 := ⟨gk - 1, by have := HK.out; have := Q1.out; omega⟩
      go_roundg k1
      case measure => omega
      case rel => exact ⟨x8 + 1, by rw [W1.out], ⟨by have := P1.out; omega, by have := HK.out; omega⟩, HO2, HB2⟩
    · have c1b := decide_eq_false c1
      have hx : x8.toNat = l0.length := by have := HK.out; omega
      have ho := HO.out
      rw [hx, List.take_length] at ho
      have hown := Kd.own_of_R ho
      have hbel := HB.out
      have hm : encs Value.string (l0.map (·.f4)) = (l0.map (·.f4.data.toList)).map encStr := by
        rw [show encs Value.string (l0.map (·.f4)) = (l0.map (·.f4)).map Value.string from rfl, ← Lib.map_encStr]
        congr 1
        rw [List.map_map]; rfl
      rw [hm, List.length_map] at hown
      have hlen : (l0.map (·.f4.data.toList)).length = l0.length := List.length_map _
      clear ho HO HR0
      rcases Nat.eq_zero_or_pos l0.length with h0 | h0
      · have hv : ∃ p cap, u3 = .slice p 0 cap := by
          rcases hown.2 with ⟨h, _⟩ | ⟨g, cap, cur, h, _⟩
          · exact ⟨none, 0, by rw [h]⟩
          · exact ⟨_, cap, by rw [h, h0]⟩
        obtain ⟨p, cap, rfl⟩ := hv
        have ho0 : wr.ownsRow w.heap.size 9 1 (.slice p 0 cap) 0 [] := by
          have := hown
          rw [h0] at this
          rw [List.length_eq_zero_iff.1 h0] at this
          exact this
        have hs0 : hostsB l0 = [] := by
          have h1 := hostsL_length (l0.map (·.f4.data.toList))
          rw [List.length_map, h0] at h1
          unfold hostsB
          rw [List.length_eq_zero_iff.1 (Nat.le_zero.1 h1)]; rfl
        have HS0 := Aside0.mk hs0
        have S1 := Aside0.mk (AnyM.slices_Sort_string_none Tryz.sortStr p cap)
        have S2 := Aside0.mk (AnyG.slices_Compact_string_empty Tryz.compactStr p cap)
        have HO := Aside0.mk ho0
        clear hown hs0 hm hbel ho0
        go_wp2_with (first
          | (go_at_call 104; refine (S1.out _).mono ?_; rintro e w1 ⟨rfl, rfl⟩)
          | (go_at_call 105; refine (S2.out _).mono ?_; rintro e w1 ⟨rfl, rfl⟩))
        go_ret
        refine ⟨_, rfl, ?_, HB.out⟩
        rw [HS0.out]
        exact Kd.R_of_own (enc := Value.string) (xs := []) HO.out (fun _ _ => trivial)
      · have hnn : u3 ≠ .slice none 0 0 := by
          intro e
          rcases hown.2 with ⟨_, h⟩ | ⟨g, cap, cur, h, _⟩
          · omega
          · rw [e] at h; cases h
        obtain ⟨g, cap, rfl, hbg, hgl, hncap, hcm, hlen2, hH⟩ := Lib.holds_of_ownsRow hown hnn
        have hsort := AnyM.slices_Sort_string Tryz.sortStr g 0 cap (l0.map (·.f4.data.toList)) wr hH hgl (by have := HL.out; omega)
        rw [hlen] at hsort
        have hcells := hostsB_cells l0
        have HM := Aside0.mk hown
        have HH := Aside0.mk hH
        have HC := Aside0.mk hcells
        have HN := Aside0.mk hlen
        generalize hss : (l0.map (·.f4.data.toList)) = ss at *
        have S1 := Aside0.mk hsort
        have HG := Aside0.mk hgl
        have HP := Aside0.mk hncap
        clear hsort hH hcells hlen hlen2 hown hgl hm hss hbel hncap
        go_wp2_with (first
          | (go_at_call 104; refine S1.out.mono ?_; rintro e w1 ⟨rfl, nn, os, rfl⟩
             have hl2 : (ss.mergeSort fun x y => decide (x ≤ y)).length = l0.length := by rw [List.length_mergeSort]; exact HN.out
             have hH2 : Holds encStr (grow (putRow encStr (Sort.ahead wr nn) g 0 (ss.mergeSort fun x y => decide (x ≤ y)).toArray) os) g 0 (ss.mergeSort fun x y => decide (x ≤ y)).toArray :=
               holds_grow encStr _ os g 0 _ (by simpa [putRow, mapBlock, Sort.ahead] using HG.out) (holds_putRow encStr _ g 0 _ _ (holds_ahead encStr wr nn g 0 _ HH.out) (by simp))
             have hcomp := AnyG.slices_Compact_string Tryz.compactStr g 0 cap (ss.mergeSort fun x y => decide (x ≤ y)) _ hH2 (by have := HL.out; omega) (by have := HP.out; omega)
             rw [hl2] at hcomp
             have S2 := Aside0.mk hcomp
             have HN2 := Aside0.mk hl2
             clear hcomp hH2 hl2)
          | (go_at_call 105; refine S2.out.mono ?_; rintro e w2 ⟨rfl, q, rfl⟩))
        go_ret
        have hle := hosts_left (nn := nn) (os := os) (q := q) HM.out HB.out HN.out
        have hl3 : (hostsB l0).length = (hostsL ss).length := by
          have := congrArg List.length HC.out
          simpa using this
        refine ⟨_, rfl, ?_, ?_⟩
        · refine Kd.R_of_own (enc := Value.string) (e := 9) ?_ (fun _ _ => trivial)
          rw [show encs Value.string (hostsB l0) = (hostsB l0).map Value.string from rfl, HC.out, hl3]
          have := hle.1
          rw [List.length_mergeSort, HN.out] at this
          exact this
        · have := hle.2
          rw [List.length_mergeSort, HN.out] at this
          exact this
end Go.Proofs.YtgknjgionicncaaGreat.L
namespace Go.Proofs.YtgknjgionicncaaGreat.L
open Go.RowKit Go.Proofs.YtgknjgionicncaaGreat.Q Go.Proofs.YtgknjgionicncaaGreatW.PrintWords
set_option linter.unusedVariables false
def fitS (x : S36) : Prop := (Lit.int .u64 x.f1).wf = true ∧ x.f4.size ≤ 140737488351232 ∧ x.f5.size ≤ 140737488351232
instance : DecidablePred fitS := fun x => by unfold fitS; infer_instance
end Go.Proofs.YtgknjgionicncaaGreat.L
namespace Go.Proofs.YtgknjgionicncaaGreat.L
open Go.RowKit Go.Proofs.YtgknjgionicncaaGreat.Q Go.Proofs.YtgknjgionicncaaGreatW.PrintWords Go.Maps
set_option linter.unusedVariables false
theorem hostsB_rise (l : List S36) : Rise cmpB (hostsB l) := by
 unfold hostsB Rise
 rw [List.pairwise_map]
 refine (hostsL_rise _).1.imp ?_
 intro x y h
 show Go.Lib.compareBytes _ _ < 0
 simpa using h
theorem hostsB_mem (l : List S36) (s : ByteArray) : s ∈ hostsB l ↔ ∃ x ∈ l, x.f4 = s := by
 unfold hostsB
 rw [List.mem_map]
 constructor
 ·rintro ⟨y, hy, rfl⟩
  rw [(hostsL_rise _).2, List.mem_map] at hy
  obtain ⟨x, hx, rfl⟩ := hy
  exact ⟨x, hx, by simp⟩
 ·rintro ⟨x, hx, rfl⟩
  refine ⟨x.f4.data.toList, ?_, by simp⟩
  rw [(hostsL_rise _).2]
  exact List.mem_map.2 ⟨x, hx, rfl⟩
theorem hostsB_length (l : List S36) : (hostsB l).length ≤ l.length := by
 unfold hostsB
 rw [List.length_map]
 exact Nat.le_trans (hostsL_length _) (by rw [List.length_map]; exact Nat.le_refl _)
theorem hostsB_nodup (l : List S36) : (hostsB l).Nodup := (hostsB_rise l).nodup cmpB_is
theorem hostsB_fit {l : List S36} (hf : ∀ x ∈ l, fitS x) : ∀ s ∈ hostsB l, s.size ≤ 140737488351232 := by
 intro s hs
 obtain ⟨x, hx, rfl⟩ := (hostsB_mem l s).1 hs
 exact (hf x hx).2.1
abbrev key (s : ByteArray) : Lit := .string s.data.toList
theorem key_inj {s t : ByteArray} (h : key s = key t) : s = t := by
 have h1 : s.data.toList = t.data.toList := by
  unfold key at h
  injection h
 cases s; cases t
 simp_all
theorem key_is (s : ByteArray) : WideAt.IsKeyLit (key s) := trivial
def numD (l : List ByteArray) : Nat → DataW Unit
 | 0 => .map []
 | k + 1 => (numD l k).put (key (l.getD k ByteArray.empty)) (.lit (.int .i64 k))
theorem numD_tidy (l : List ByteArray) : ∀ k, Tidy (numD l k)
 | 0 => tidy_empty
 | k + 1 => (numD_tidy l k).put (key_is _) _
theorem numD_has (l : List ByteArray) (s : ByteArray) : ∀ k, k ≤ l.length → (has (numD l k) (key s) = true ↔ s ∈ l.take k)
 | 0, _ => by simp [numD, has]
 | k + 1, hk => by
  have hl : l.getD k ByteArray.empty = l[k] := by simp [List.getD, show k < l.length by omega]
  rw [numD, hl, List.take_succ_eq_append_getElem (show k < l.length by omega)]
  by_cases e : s = l[k]
  ·rw [← e, has_put_same (numD_tidy l k).isMap (key_is _)]
   simp
  ·rw [has_put_other (fun h => e (key_inj h)), numD_has l s k (by omega), List.mem_append, List.mem_singleton]
   exact ⟨.inl, fun h => h.elim _root_.id (fun h => absurd h e)⟩
theorem numD_size {l : List ByteArray} (nd : l.Nodup) : ∀ k, k ≤ l.length → size (numD l k) = k
 | 0, _ => rfl
 | k + 1, hk => by
  have hl : l.getD k ByteArray.empty = l[k] := by simp [List.getD, show k < l.length by omega]
  have hn : l[k] ∉ l.take k := by
   intro h
   obtain ⟨j, hj, e⟩ := List.getElem_of_mem h
   rw [List.getElem_take] at e
   have hjk : j < k := by simp at hj; omega
   exact List.pairwise_iff_getElem.1 nd j k (by omega) (by omega) hjk e
  rw [numD, size_put (numD_tidy l k), hl, if_neg (fun h => hn ((numD_has l l[k] k (by omega)).1 h)), numD_size nd k (by omega)]
theorem numD_at {l : List ByteArray} (nd : l.Nodup) (z : DataW Unit) (j : Nat) (hj : j < l.length) : ∀ k, j < k → k ≤ l.length → (numD l k).atKey (key l[j]) z = .lit (.int .i64 j)
 | 0, h, _ => by omega
 | k + 1, h, hk => by
  have hl : l.getD k ByteArray.empty = l[k] := by simp [List.getD, show k < l.length by omega]
  rw [numD, hl]
  by_cases e : j = k
  ·subst e
   exact atKey_put_same (numD_tidy l j).isMap (key_is _) _ _
  ·rw [atKey_put_other (fun h2 => ?_)]
   ·exact numD_at nd z j hj k (by omega) (by omega)
   ·have := key_inj h2
    exact absurd this (List.pairwise_iff_getElem.1 nd j k hj (by omega) (by omega))
def numB (l : List ByteArray) (s : ByteArray) : Nat := l.findIdx (fun h => decide (h = s))
theorem numB_lt {l : List ByteArray} {s : ByteArray} (h : s ∈ l) : numB l s < l.length := List.findIdx_lt_length_of_exists ⟨s, h, by simp⟩
theorem numB_get {l : List ByteArray} {s : ByteArray} (h : s ∈ l) : l[numB l s]'(numB_lt h) = s := by
 have := List.findIdx_getElem (p := fun h => decide (h = s)) (w := numB_lt h)
 exact of_decide_eq_true this
theorem numD_num {l : List ByteArray} (nd : l.Nodup) {s : ByteArray} (h : s ∈ l) (z : DataW Unit) : (numD l l.length).atKey (key s) z = .lit (.int .i64 (numB l s)) := by
 have := numD_at nd z (numB l s) (numB_lt h) l.length (numB_lt h) (Nat.le_refl _)
 rw [numB_get h] at this
 exact this
def numsL (l : List S36) : List Int := l.map fun x => (numB (hostsB l) x.f4 : Int)
def greatL (l : List S36) : Bool := decide (512 < l.length) || decide (32 < (hostsB l).length)
end Go.Proofs.YtgknjgionicncaaGreat.L
namespace Go.Proofs.YtgknjgionicncaaGreat.L
open Go.RowKit Go.Proofs.YtgknjgionicncaaGreat.Q Go.Proofs.YtgknjgionicncaaGreatW.PrintWords Go.Proofs.YtgknjgionicncaaGreatW.PrintLast Go.Proofs.YtgknjgionicncaaGreatW.PrintMore Go.Proofs.YtgknjgionicncaaGreatW.MapB Go.Maps Go.WideMaps
set_option linter.unusedVariables false
theorem lawStr : Keyed Tryz.prog 9 := string_keyed Tryz.underlying9
theorem zeroInt (w : World) : (zeroValue 3).run Tryz.prog w = .ok (.int .i64 0) w := by kernel_rfl
theorem numD_next (hs : List ByteArray) (x : Int) (h0 : 0 ≤ x) : (numD hs x.toNat).put (key (rdOf ByteArray.empty hs x)) (.lit (.int .i64 x)) = numD hs (x + 1).toNat := by
 rw [show (x + 1).toNat = x.toNat + 1 by omega]
 show _ = (numD hs x.toNat).put _ (.lit (.int .i64 (x.toNat : Int)))
 rw [show (x.toNat : Int) = x by omega]
 rfl
theorem rdOf_mem {α : Type} {d : α} {l : List α} {x : Int} (h0 : 0 ≤ x) (h1 : x < l.length) : rdOf d l x ∈ l := by
 unfold rdOf
 rw [List.getD_eq_getElem?_getD, List.getElem?_eq_getElem (show x.toNat < l.length by omega)]
 exact List.getElem_mem _
set_option maxHeartbeats 4000000 in
set_option maxRecDepth 100000 in
theorem numbers_calls (l0 : List S36) (hl : l0.length ≤ 1759218604441) (hf : ∀ x ∈ l0, fitS x) (A0 : Option Addr) (c0 : Nat) (w : World) (hr0 : Kd.C k36 w A0 l0.length l0) (hc0 : l0.length ≤ c0) :
  Calls Tryz.prog 58 #[.slice A0 l0.length c0] w fun e w' => e = .returned (.map (some w.heap.size)) ∧ w'.ownsMap Tryz.prog 9 (plainElem Tryz.prog 3) w.heap.size (hostsB l0).length (numD (hostsB l0) (hostsB l0).length) ∧ Below w.heap.size w w' := by
 have hmm := @run_makeMap Tryz.prog
 have Q1 : Aside0 (∀ w1 : World, Below w.heap.size w w1 → Calls Tryz.prog 59 #[.slice A0 l0.length c0] w1 fun e w' => ∃ v : Value, e = .returned v ∧ Kd.R Kd.string 9 w' w1.heap.size (fun _ => True) v (hostsB l0) ∧ Below w1.heap.size w1 w') := ⟨fun w1 hb => hosts_calls l0 hl A0 c0 w1 (Kd.C_below hr0 hb) hc0⟩
 have HF := Aside0.mk (hostsB_fit hf)
 have HN := Aside0.mk (show (hostsB l0).length ≤ 1759218604441 from Nat.le_trans (hostsB_length l0) hl)
 clear hr0 hc0 hl hf
 generalize hostsB l0 = hs at *
 go_enter Tryz.func58, Tryz.ntmps58
 go_wp2_with (go_at_call 59; refine (Q1.out _ ((Below.refl _ _).alloc (Nat.le_refl _) _)).mono ?_; rintro e w1 ⟨v, rfl, ho, hb⟩; have HM := Aside0.mk (map_below (World.ownsMap_made (H := Unit) w Tryz.prog 9 (plainElem Tryz.prog 3)) hb); have HB := Aside0.mk (below_step ((Below.refl w.heap.size w).alloc (Nat.le_refl _) (.map #[] 0)) hb); have HO := Aside0.mk (Kd.R_lower ho (show w.heap.size ≤ (w.alloc (.map #[] 0)).heap.size by simp)); clear ho hb; obtain ⟨Av, cv, rfl⟩ := Kd.R_slice HO.out)
 go_loopg [10] hs.length (fun kq v10 w' => ∃ x10 : Int, v10 = .int .i64 x10 ∧ Aside0 (0 ≤ x10 ∧ x10 + kq = hs.length) ∧ Aside0 (Kd.R Kd.string 9 w' w.heap.size (fun _ => True) (.slice Av hs.length cv) hs) ∧ Aside0 (w'.ownsMap Tryz.prog 9 (plainElem Tryz.prog 3) w.heap.size x10.toNat (numD hs x10.toNat)) ∧ Aside0 (Below w.heap.size w w'))
 case atStart => exact ⟨0, rfl, ⟨by omega, by omega⟩, HO, HM, HB⟩
 case round =>
  clear HO HM HB
  obtain ⟨x10, rfl, HK, HO, HM, HB⟩ := hrel
  by_cases c1 : x10 < (hs.length : Int)
  ·have c1b := decide_eq_true c1
   have p1 : 0 ≤ x10 := HK.out.1
   obtain ⟨ad1, e1, hx1⟩ := Kd.at_string (Kd.R_reads' HO.out).2.2 x10 p1 c1
   cases e1
   have P1 := Aside0.mk p1
   have Q1 := Aside0.mk c1
   have hkey : keyOf Tryz.prog 9 (.string (rdOf ByteArray.empty hs x10)) = some (key (rdOf ByteArray.empty hs x10)) := keyOf_string_mk Tryz.underlying9 (Nat.le_trans (HF.out _ (rdOf_mem p1 c1)) (by decide))
   have HKey := Aside0.mk hkey
   clear hkey
   replace p1 := eq_true p1
   replace c1 := eq_true c1
   have W1 := Aside0.mk (show wrap64 (x10 + 1) = x10 + 1 from by unfold wrap64; have := HN.out; have := P1.out; have := Q1.out; omega)
   go_wp2_with (at_mapUpdate; refine wpList_mapUpdate_own _ rfl _ _ _ 91 rfl 9 3 lawStr Tryz.underlying91 _ w.heap.size x10.toNat _ rfl HM.out ?mN _ _ _ rfl rfl HKey.out _ [] (plainElem_int Tryz.underlying3 ?mW) ?_; (case mN => have := HN.out; have := Q1.out; show x10.toNat < 9223372036854775807; omega); (case mW => exact WalkArith.wf_i64 (by have := HN.out; have := P1.out; have := Q1.out; omega)); intro w2 hown2 hgrow2; have HM2 := Aside0.mk hown2; have HO2 := Aside0.mk (row_kept HM.out HO.out hgrow2); have HB2 := Aside0.mk (below_map HB.out hgrow2 (Nat.le_refl _) HB.out.size); clear hown2 hgrow2)
   obtain ⟨k1, rfl⟩ : ∃ k1, gk = k1 + 1 := ⟨gk - 1, by have := HK.out; have := Q1.out; omega⟩
   go_roundg k1
   case measure => omega
   case rel =>
    have h2 := HM2.out
    rw [numD_next hs x10 P1.out] at h2
    exact ⟨x10 + 1, by rw [W1.out], ⟨by have := P1.out; omega, by have := HK.out; omega⟩, HO2, ⟨by rw [show (x10 + 1).toNat = x10.toNat + 1 by have := P1.out; omega] at h2 ⊢; exact h2⟩, HB2⟩
  ·have c1b := decide_eq_false c1
   have hx : x10.toNat = hs.length := by have := HK.out; omega
   have hm := HM.out
   rw [hx] at hm
   have HM2 := Aside0.mk hm
   clear hm HM
   go_wp2
   go_ret
   exact ⟨rfl, HM2.out, HB.out⟩
theorem rdS_mem {l0 : List S36} {x : Int} (h0 : 0 ≤ x) (h1 : x < l0.length) : rd_T36 l0 x ∈ l0 := rdOf_mem h0 h1
theorem numsL_next (l0 : List S36) (x : Int) (h0 : 0 ≤ x) (h1 : x < l0.length) : (numsL l0).take (x + 1).toNat = (numsL l0).take x.toNat ++ [(numB (hostsB l0) (rd_T36 l0 x).f4 : Int)] := by
 have h3 : x.toNat < l0.length := by omega
 rw [show (x + 1).toNat = x.toNat + 1 by omega, List.take_succ_eq_append_getElem (by unfold numsL; rw [List.length_map]; exact h3)]
 congr 2
 unfold numsL
 rw [List.getElem_map]
 simp [rd_T36, List.getD, h3]
set_option maxHeartbeats 4000000 in
set_option maxRecDepth 100000 in
theorem nums_calls (l0 : List S36) (hl : l0.length ≤ 1759218604441) (hf : ∀ x ∈ l0, fitS x) (A0 : Option Addr) (c0 : Nat) (w : World) (hr0 : Kd.C k36 w A0 l0.length l0) (hc0 : l0.length ≤ c0) :
  Calls Tryz.prog 109 #[.slice A0 l0.length c0] w fun e w' => ∃ v : Value, e = .returned v ∧ Kd.R (Kd.int .i64) 3 w' w.heap.size (fun _ => True) v (numsL l0) ∧ Below w.heap.size w w' := by
 have QN := Aside0.mk (numbers_calls l0 hl hf A0 c0 w hr0 hc0)
 have HR0 := Aside0.mk hr0
 have HL := Aside0.mk hl
 have HF := Aside0.mk hf
 have HB0 := Aside0.mk (Below.refl w.heap.size w)
 have NX := Aside0.mk (numsL_next l0)
 have ND := Aside0.mk (hostsB_nodup l0)
 have HMem : Aside0 (∀ x : Int, 0 ≤ x → x < l0.length → (rd_T36 l0 x).f4 ∈ hostsB l0) := ⟨fun x h0 h1 => (hostsB_mem l0 _).2 ⟨_, rdS_mem h0 h1, rfl⟩⟩
 have HLen := Aside0.mk (show (numsL l0).length = l0.length by unfold numsL; rw [List.length_map])
 clear hr0 hc0 hl hf
 generalize numsL l0 = ns at *
 generalize hostsB l0 = hs at *
 go_enter Tryz.func109, Tryz.ntmps109
 go_wp2_with (go_at_call 58; refine QN.out.mono ?_; rintro e w1 ⟨rfl, hm, hb⟩; have HM := Aside0.mk hm; have HB := Aside0.mk hb; clear hm hb)
 go_loopg [4, 11] l0.length (fun kq v4 v11 w' => ∃ x11 : Int, v11 = .int .i64 x11 ∧ Aside0 (0 ≤ x11 ∧ x11 + kq = l0.length) ∧ Aside0 (Kd.R (Kd.int .i64) 3 w' w.heap.size (fun _ => True) v4 (ns.take x11.toNat)) ∧ Aside0 (w'.ownsMap Tryz.prog 9 (plainElem Tryz.prog 3) w.heap.size hs.length (numD hs hs.length)) ∧ Aside0 (Below w.heap.size w w'))
 case atStart => exact ⟨0, rfl, ⟨by omega, by omega⟩, ⟨Kd.R_nil _ _ _ _ _⟩, HM, HB⟩
 case round =>
  clear HM HB
  obtain ⟨x11, rfl, HK, HO, HM, HB⟩ := hrel
  by_cases c1 : x11 < (l0.length : Int)
  ·have c1b := decide_eq_true c1
   have p1 : 0 ≤ x11 := HK.out.1
   obtain ⟨ad1, e1, hx1⟩ := at_T36 HR0.out x11 p1 c1
   cases e1
   obtain ⟨hx1_0, hx1_1, hx1_2, hx1_3, hx1_4, hx1_5, hx1_6, hx1_7⟩ := zc8 HB.out hx1
   have P1 := Aside0.mk p1
   have Q1 := Aside0.mk c1
   have HKey := Aside0.mk (keyOf_string_mk Tryz.underlying9 (s := (rd_T36 l0 x11).f4) (Nat.le_trans (HF.out _ (rdS_mem p1 c1)).2.1 (by decide)))
   have HNum := Aside0.mk (numD_num ND.out (HMem.out x11 p1 c1) (.lit (.int .i64 0)))
   replace p1 := eq_true p1
   replace c1 := eq_true c1
   have W1 := Aside0.mk (show wrap64 (x11 + 1) = x11 + 1 from by unfold wrap64; have := HL.out; have := P1.out; have := Q1.out; omega)
   go_wp2_with (first
    | (at_lookup; refine wpList_lookup_own_int _ rfl _ _ 91 rfl 9 3 .i64 lawStr Tryz.underlying91 Tryz.underlying3 (zeroInt _) w.heap.size hs.length _ rfl (HM.out.alloc _) _ _ rfl HKey.out ?_; intro c hat hwc; have HC := Aside0.mk (show c = (numB hs (rd_T36 l0 x11).f4 : Int) by have h := hat.symm.trans HNum.out; injection h with h; injection h); clear hat hwc)
    | ((with_reducible refine gate_builtin (b := .append) (xs := #[.tmp 15, .tmp 20]) rfl ?_); at_builtin; refine Kd.R_append (Kd.int .i64) (w0 := w) w.heap.size rfl (.tmp 15) (.tmp 20) 43 3 (.int .i64 0) 8 rfl Tryz.underlying43 (by kernel_rfl) rfl (by decide) (by omega) u4 (ns.take x11.toNat) c [.int .i64 c] (fun _ => True) (fun _ => False) rfl ?aX ?aP (fun _ hk => hk.elim) ?aF ?aO ?aB ?aS ?aL ?_; (case aX => first | rfl | (go_simp; done) | (simp; done)); (case aP => exact rfl); (case aB => exact zB); (case aF => exact (fun _ _ => trivial)); (case aO => exact (zR HO.out)); (case aS => exact (below_size zB)); (case aL => have := HL.out; have := Q1.out; simp only [List.length_take]; omega); intro v2 w2 ho hb hg hat; have HO2 := Aside0.mk ho; have HB2 := Aside0.mk hb; have HM2 := Aside0.mk (map_kept (HM.out.alloc _) (Kd.R_alloc HO.out _) hg); clear ho hb hg hat))
   obtain ⟨k1, rfl⟩ : ∃ k1, gk = k1 + 1 := ⟨gk - 1, by have := HK.out; have := Q1.out; omega⟩
   go_roundg k1
   case measure => omega
   case rel => exact ⟨x11 + 1, by rw [W1.out], ⟨by have := P1.out; omega, by have := HK.out; omega⟩, ⟨by rw [NX.out x11 P1.out Q1.out, ← HC.out]; exact HO2.out⟩, HM2, HB2⟩
  ·have c1b := decide_eq_false c1
   have hx : x11.toNat = ns.length := by have := HK.out; have := HLen.out; omega
   have ho := HO.out
   rw [hx, List.take_length] at ho
   have HO2 := Aside0.mk ho
   clear ho HO
   go_wp2
   go_ret
   exact ⟨_, rfl, HO2.out, HB.out⟩
set_option maxHeartbeats 4000000 in
set_option maxRecDepth 100000 in
theorem great_calls (l0 : List S36) (hl : l0.length ≤ 1759218604441) (hf : ∀ x ∈ l0, fitS x) (A0 : Option Addr) (c0 : Nat) (w : World) (hr0 : Kd.C k36 w A0 l0.length l0) (hc0 : l0.length ≤ c0) :
  Calls Tryz.prog 29 #[.slice A0 l0.length c0] w fun e w' => e = .returned (.bool (greatL l0)) ∧ Below w.heap.size w w' := by
 have QN := Aside0.mk (numbers_calls l0 hl hf A0 c0 w hr0 hc0)
 have HS := Aside0.mk (numD_size (hostsB_nodup l0) (hostsB l0).length (Nat.le_refl _))
 obtain ⟨r, hr⟩ : ∃ r, greatL l0 = r := ⟨_, rfl⟩
 rw [hr]
 have HR := Aside0.mk (show (decide (512 < l0.length) || decide (32 < (hostsB l0).length)) = r from hr)
 clear hr0 hc0 hl hf hr
 generalize hostsB l0 = hs at *
 by_cases c1 : (512 : Int) < (l0.length : Int)
 ·have c1b := decide_eq_true c1
  have h := HR.out
  rw [decide_eq_true (show 512 < l0.length by omega), Bool.true_or] at h
  subst h
  go_enter Tryz.func29, Tryz.ntmps29
  go_wp2
  go_ret
  exact ⟨rfl, Below.refl _ _⟩
 ·have c1b := decide_eq_false c1
  have h := HR.out
  rw [decide_eq_false (show ¬ 512 < l0.length by omega), Bool.false_or] at h
  have HR2 := Aside0.mk (show decide ((32 : Int) < (hs.length : Int)) = r by rw [← h]; rw [Bool.eq_iff_iff]; simp only [decide_eq_true_eq]; omega)
  clear h HR
  go_enter Tryz.func29, Tryz.ntmps29
  go_wp2_with (first
   | (go_at_call 58; refine QN.out.mono ?_; rintro e w1 ⟨rfl, hm, hb⟩; have HM := Aside0.mk hm; have HB := Aside0.mk hb; clear hm hb)
   | (at_len; (try (refine gate_guard (by rfl) ?_; dsimp only)); refine wpList_len_own _ rfl _ 91 rfl 9 3 Tryz.underlying91 _ w.heap.size hs.length _ rfl HM.out ?_; rw [HS.out]))
  go_ret
  exact ⟨by first | rfl | (rw [HR2.out]; rfl), HB.out⟩
end Go.Proofs.YtgknjgionicncaaGreat.L
namespace Go.Proofs.YtgknjgionicncaaGreat.L
open Go.RowKit Go.Proofs.YtgknjgionicncaaGreat.Q Go.Proofs.YtgknjgionicncaaGreatW.PrintWords Go.Proofs.YtgknjgionicncaaGreatW.PrintLast Go.Proofs.YtgknjgionicncaaGreatW.PrintMore Go.Proofs.YtgknjgionicncaaGreatW.MapB Go.Proofs.YtgknjgionicncaaGreatW.Lib
set_option linter.unusedVariables false
set_option linter.unusedSimpArgs false
def edgesAt (m : S36 → Bool) (l : List S36) (nums : List Int) (p : S57) : List S72 :=
 if (gapsB m l p.f0 p.f1).2.2 = true then [⟨rd nums p.f1, rd nums p.f0, (gapsB m l p.f0 p.f1).1, p, false⟩, ⟨rd nums p.f0, rd nums p.f1, (gapsB m l p.f0 p.f1).2.1, p, true⟩] else []
def edgesB (m : S36 → Bool) (l : List S36) (nums : List Int) (ps : List S57) : List S72 := ps.flatMap (edgesAt m l nums)
theorem edgesB_snoc (m : S36 → Bool) (l : List S36) (nums : List Int) (ps : List S57) (p : S57) : edgesB m l nums (ps ++ [p]) = edgesB m l nums ps ++ edgesAt m l nums p := by simp [edgesB]
theorem gapsB_in (m : S36 → Bool) (l : List S36) (c s : Int) (h : (gapsB m l c s).2.2 = true) : 0 ≤ c ∧ c < l.length ∧ 0 ≤ s ∧ s < l.length := by
 unfold gapsB at h
 split at h
 ·rename_i h2
  unfold findS at h2
  obtain ⟨h3, h4⟩ := h2
  split at h3
  ·rename_i h5
   split at h4
   ·rename_i h6
    exact ⟨h5.1, h5.2.1, h6.1, h6.2.1⟩
   ·cases h4
  ·cases h3
 ·cases h
theorem two_edges (W : World) (k : Nat) (x y : S72) (h : W.heap[k]? = some (.cells #[.int .i64 x.f0, .int .i64 x.f1, .int .i64 x.f2, .int .i64 x.f3.f0, .int .i64 x.f3.f1, .bool x.f4, .int .i64 y.f0, .int .i64 y.f1, .int .i64 y.f2, .int .i64 y.f3.f0, .int .i64 y.f3.f1, .bool y.f4] 72 (0, 0))) : ReadsRow (fun (e : S72) cs => cs = [.int .i64 e.f0, .int .i64 e.f1, .int .i64 e.f2, .int .i64 e.f3.f0, .int .i64 e.f3.f1, .bool e.f4]) 6 W (some ⟨k, 0, none⟩) 2 [x, y] := by
 refine ⟨rfl, by simp [Go.maxLen], fun _ => ⟨_, rfl, fun j p hj => ?_⟩⟩
 rcases j with _ | _ | j
 ·cases hj
  refine ⟨_, rfl, rfl, fun i u hi => ?_⟩
  rcases i with _ | _ | _ | _ | _ | _ | i <;> first | (cases hi; done) | (rw [Addr.add_lit]; exact (blk_cell h _).trans hi)
 ·cases hj
  refine ⟨_, rfl, rfl, fun i u hi => ?_⟩
  rcases i with _ | _ | _ | _ | _ | _ | i <;> first | (cases hi; done) | (rw [Addr.add_lit]; exact (blk_cell h _).trans hi)
 ·cases hj
theorem edgesB_length (m : S36 → Bool) (l : List S36) (nums : List Int) : ∀ ps : List S57, (edgesB m l nums ps).length ≤ 2 * ps.length
 | [] => by simp [edgesB]
 | p :: ps => by
  have ih := edgesB_length m l nums ps
  have h1 : (edgesAt m l nums p).length ≤ 2 := by unfold edgesAt; split <;> simp
  have h2 : edgesB m l nums (p :: ps) = edgesAt m l nums p ++ edgesB m l nums ps := by simp [edgesB]
  rw [h2, List.length_append, List.length_cons]
  omega
set_option maxHeartbeats 4000000 in
set_option maxRecDepth 100000 in
theorem edges_calls (m : S36 → Bool) (l : List S36) (hm : ∀ s ∈ l, ∃ k, span_May.f k s.f0 s.f1 s.f2 s.f3 s.f4 s.f5 s.f6 s.f7 = some (m s)) (hl : l.length ≤ 1759218604441) (hf : ∀ x ∈ l, fitS x) (ps : List S57) (hp : ps.length ≤ 100000000) (A0 A1 : Option Addr) (c0 c1 : Nat) (w : World) (hr0 : Kd.C k36 w A0 l.length l) (hc0 : l.length ≤ c0) (hr1 : Kd.C k57 w A1 ps.length ps) :
  Calls Tryz.prog 62 #[.slice A0 l.length c0, .slice A1 ps.length c1] w fun e w' => ∃ v : Value, e = .returned v ∧ Kd.R k72 72 w' w.heap.size (fun _ => True) v (edgesB m l (numsL l) ps) ∧ Below w.heap.size w w' := by
 have HR1 := Aside0.mk hr1
 have HP := Aside0.mk hp
 have HB0 := Aside0.mk (Below.refl w.heap.size w)
 have hnl : (numsL l).length = l.length := by unfold numsL; rw [List.length_map]
 have HNl := Aside0.mk hnl
 have QN := Aside0.mk (nums_calls l hl hf A0 c0 w hr0 hc0)
 have QG := Aside0.mk (fun (p0 p1 : Int) (W : World) (hb : Below w.heap.size w W) => gaps_calls m l hm p0 p1 A0 c0 W (Kd.C_below hr0 hb))
 have HIn := Aside0.mk (fun c s => gapsB_in m l c s)
 clear hr0 hc0 hr1 hp hl hf hm hnl
 generalize hnn : numsL l = nums at *
 clear hnn
 go_enter Tryz.func62, Tryz.ntmps62
 go_wp2_with (go_at_call 109; refine QN.out.mono ?_; rintro e w1 ⟨v5, rfl, ho, hb⟩; obtain ⟨A5, c5, rfl⟩ := Kd.R_slice ho; have HO1 := Aside0.mk ho; have HB1 := Aside0.mk hb; clear ho hb)
 go_loopg [6, 18] ps.length (fun kq v6 v18 w' => ∃ x18 : Int, v18 = .int .i64 x18 ∧ Aside0 (0 ≤ x18 ∧ x18 + kq = ps.length) ∧ Aside0 (Kd.R (Kd.int .i64) 3 w' w.heap.size (fun k => some k ≠ v6.ownBlock) (.slice A5 nums.length c5) nums) ∧ Aside0 (Kd.R k72 72 w' w.heap.size (fun k => some k ≠ (Value.slice A5 nums.length c5).ownBlock) v6 (edgesB m l nums (ps.take x18.toNat))) ∧ Aside0 (Below w.heap.size w w'))
 case atStart => exact ⟨0, rfl, ⟨by omega, by omega⟩, ⟨Kd.R_mono HO1.out (fun k _ h => by cases h)⟩, ⟨Kd.R_nil _ _ _ _ _⟩, HB1⟩
 case round =>
  obtain ⟨x18, rfl, HK, HN, HE, HB⟩ := hrel
  by_cases c1 : x18 < (ps.length : Int)
  ·have c1b := decide_eq_true c1
   have p1 : 0 ≤ x18 := HK.out.1
   obtain ⟨ad1, e1, hx0, hx1⟩ := at_T57 HR1.out x18 p1 c1
   cases e1
   replace hx0 := zc HB.out hx0
   replace hx1 := zc HB.out hx1
   have hit : x18.toNat < ps.length := by omega
   have HNx := Aside0.mk (show ps.take (x18 + 1).toNat = ps.take x18.toNat ++ [rd_T57 ps x18] from by
    rw [show (x18 + 1).toNat = x18.toNat + 1 by omega, List.take_succ_eq_append_getElem hit]
    simp [rd_T57, List.getD, hit])
   have P1 := Aside0.mk p1
   have Q1 := Aside0.mk c1
   have W1 := Aside0.mk (show wrap64 (x18 + 1) = x18 + 1 from by unfold wrap64; have := HP.out; have := P1.out; have := Q1.out; omega)
   clear hit
   generalize rd_T57 ps x18 = p at *
   replace p1 := eq_true p1
   replace c1 := eq_true c1
   obtain ⟨k1, rfl⟩ : ∃ k1, gk = k1 + 1 := ⟨gk - 1, by have := HK.out; have := Q1.out; omega⟩
   have QP := Aside0.mk (QG.out p.f0 p.f1)
   cases hq : (gapsB m l p.f0 p.f1).2.2 with
   | false =>
    have HEd := Aside0.mk (show edgesAt m l nums p = [] from by unfold edgesAt; rw [hq]; simp)
    rw [hq] at QP
    clear hq
    go_wp2_with (go_at_call 110; refine (QP.out _ (below_alloc HB.out _)).mono ?_; rintro e w2 ⟨rfl, hb⟩; have HB2 := Aside0.mk (below_step (below_alloc HB.out _) hb); have HN2 := Aside0.mk (Kd.R_below (Kd.R_alloc HN.out _) hb); have HE2 := Aside0.mk (Kd.R_below (Kd.R_alloc HE.out _) hb); clear hb)
    go_roundg k1
    case measure => omega
    case rel => exact ⟨x18 + 1, by rw [W1.out], ⟨by have := P1.out; omega, by have := HK.out; omega⟩, HN2, ⟨by rw [HNx.out, edgesB_snoc, HEd.out, List.append_nil]; exact HE2.out⟩, HB2⟩
   | true =>
    obtain ⟨i0, i1, i2, i3⟩ := HIn.out p.f0 p.f1 hq
    have HEd := Aside0.mk (show edgesAt m l nums p = [⟨rd nums p.f1, rd nums p.f0, (gapsB m l p.f0 p.f1).1, p, false⟩, ⟨rd nums p.f0, rd nums p.f1, (gapsB m l p.f0 p.f1).2.1, p, true⟩] from by unfold edgesAt; rw [hq]; simp)
    rw [hq] at QP
    clear hq
    rw [← HNl.out] at i1 i3
    obtain ⟨ad5, e5, hn0⟩ := Kd.at_int (Kd.R_reads' HN.out).2.2 p.f0 i0 i1
    cases e5
    obtain ⟨ad5', e5, hn1⟩ := Kd.at_int (Kd.R_reads' HN.out).2.2 p.f1 i2 i3
    obtain rfl : ad5 = ad5' := by injection e5
    generalize (gapsB m l p.f0 p.f1).1 = lead at *
    generalize (gapsB m l p.f0 p.f1).2.1 = rest at *
    replace i0 := eq_true i0
    replace i1 := eq_true i1
    replace i2 := eq_true i2
    replace i3 := eq_true i3
    go_wp2_with (go_at_call 110; refine (QP.out _ (below_alloc HB.out _)).mono ?_; rintro e w2 ⟨rfl, hb⟩; have HB2 := Aside0.mk (below_step (below_alloc HB.out _) hb); have HN2 := Aside0.mk (Kd.R_below (Kd.R_alloc HN.out _) hb); have HE2 := Aside0.mk (Kd.R_below (Kd.R_alloc HE.out _) hb); have bp := (hb.block wr.heap.size (by simp)).trans (MapKept.heap_alloc wr _).1; have kp0 : w2.cell? ⟨wr.heap.size, 0, none⟩ = some (.int .i64 p.f0) := (blk_cell bp 0).trans rfl; have kp1 : w2.cell? ⟨wr.heap.size, 1, none⟩ = some (.int .i64 p.f1) := (blk_cell bp 1).trans rfl; have h5 := (hb.cell (World.block_lt_of_cell? _ _ (((below_alloc (Below.refl wr.heap.size wr) (.cells #[.int .i64 p.f0, .int .i64 p.f1] 57)).cell (World.block_lt_of_cell? wr _ hn0)).trans hn0))).trans (((below_alloc (Below.refl wr.heap.size wr) (.cells #[.int .i64 p.f0, .int .i64 p.f1] 57)).cell (World.block_lt_of_cell? wr _ hn0)).trans hn0); have h6 := (hb.cell (World.block_lt_of_cell? _ _ (((below_alloc (Below.refl wr.heap.size wr) (.cells #[.int .i64 p.f0, .int .i64 p.f1] 57)).cell (World.block_lt_of_cell? wr _ hn1)).trans hn1))).trans (((below_alloc (Below.refl wr.heap.size wr) (.cells #[.int .i64 p.f0, .int .i64 p.f1] 57)).cell (World.block_lt_of_cell? wr _ hn1)).trans hn1); clear hb bp)
    go_quiet (fail)
    go_wp2_with (first | ((with_reducible refine gate_builtin (b := .append) (xs := #[.tmp 41, .tmp 52]) rfl ?_); at_builtin; refine Kd.R_append_rows k72 (Rr := fun (e : S72) cs => cs = [.int .i64 e.f0, .int .i64 e.f1, .int .i64 e.f2, .int .i64 e.f3.f0, .int .i64 e.f3.f1, .bool e.f4]) (w0 := w) w.heap.size rfl (.tmp 41) (.tmp 52) 29 72 (.agg #[.int .i64 0, .int .i64 0, .int .i64 0, .int .i64 0, .int .i64 0, .bool false]) 48 rfl Tryz.underlying29 (by kernel_rfl) rfl (by decide) (by omega) u6 (edgesB m l nums (ps.take x18.toNat)) [⟨rd nums p.f1, rd nums p.f0, lead, p, false⟩, ⟨rd nums p.f0, rd nums p.f1, rest, p, true⟩] _ _ _ (fun k => some k ≠ (Value.slice (some ad5) nums.length c5).ownBlock) (fun _ => False) rfl rfl ?aO ?aR ?aK (fun _ h => h.elim) ?aF ?aB ?aS ?aL ?_; (case aO => exact Kd.R_alloc (Kd.R_drewN HE2.out _) _); (case aR => exact two_edges _ _ ⟨rd nums p.f1, rd nums p.f0, lead, p, false⟩ ⟨rd nums p.f0, rd nums p.f1, rest, p, true⟩ (MapKept.heap_alloc _ _).1); (case aK => intro x cs h; rw [h]; exact k72_mkM _ _ _ x); (case aF => intro k hk h; have e : k = ad5.block := Option.some.inj h; have h7 := World.block_lt_of_cell? w2 _ h5; rw [add_block] at h7; have h8 : w2.heap.size ≤ k := Nat.le_trans (by simp) hk; omega); (case aB => exact below_alloc (pw_below_drewN HB2.out _) _); (case aS => exact (below_alloc (pw_below_drewN HB2.out _) _).size); (case aL => have h1 := edgesB_length m l nums (ps.take x18.toNat); rw [List.length_take] at h1; have h2 := HP.out; omega); intro v7 w7 ho hb hg hat; have HO7 := Aside0.mk ho; have HB7 := Aside0.mk hb; have HN7 := Aside0.mk (Kd.R_after (v := u6) (v1 := v7) (ok := (fun _ => True)) (Kd.R_alloc (Kd.R_drewN (Kd.R_mono HN2.out (fun _ hk => ⟨trivial, hk⟩)) _) _) hg hat); clear ho hb hg hat))
    go_roundg k1
    case measure => omega
    case rel => exact ⟨x18 + 1, by rw [W1.out], ⟨by have := P1.out; omega, by have := HK.out; omega⟩, ⟨Kd.R_mono HN7.out (fun _ hk => hk.2)⟩, ⟨by rw [HNx.out, edgesB_snoc, HEd.out]; exact HO7.out⟩, HB7⟩
  ·have c1b := decide_eq_false c1
   have hx : x18.toNat = ps.length := by have := HK.out; omega
   have ho := HE.out
   rw [hx, List.take_length] at ho
   have HO := Aside0.mk (Kd.R_mono ho (fun _ _ => trivial))
   clear ho hx c1
   go_wp2_with fail
   go_ret
   exact ⟨_, rfl, HO.out, HB.out⟩
end Go.Proofs.YtgknjgionicncaaGreat.L
