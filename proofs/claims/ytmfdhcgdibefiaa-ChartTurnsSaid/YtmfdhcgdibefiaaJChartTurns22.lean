/- Texts joined by wip/tools/merge.py: Qx0 Ax0 Ax1 DivP DivQ DivR. -/
import Derived.Test.YtmfdhcgdibefiaaProg
import Derived.Below
import Derived.Deep.Draws
import Derived.Deep.AppendLies
import Derived.Maps.AppendAt
import Derived.OwnWalk
import Derived.Laws.BytesArg
import Derived.Laws.MakeOwn
import Derived.Laws.OwnMore
import Derived.Deep.OwnRows
import Derived.Tactics
import Derived.Lib.ConvBytes
import Derived.Laws.Slices
import Derived.WalkKit
import Derived.KernelRfl
import Derived.RowKit3
import Derived.Deep.LoopGhost
import Derived.Deep.QuietTactic
import Derived.BigQuiet
import Derived.WideLaws
import Derived.Deep.DeepCutAuto
import Derived.Deep.CutBlock
import Derived.Deep.RegionHeld3
import Derived.Laws.Rows
import Derived.Lib.AppendStr
import Derived.ArgAppend
import Derived.Laws.IdiomCopy
import Derived.OrdersHeld
import Derived.Laws.BitsLemmas
import Derived.RowKit
import Derived.Test.YtmfdhcgdibefiaaJChartTurns0
import Derived.Test.YtmfdhcgdibefiaaJChartTurns1
import Derived.Test.YtmfdhcgdibefiaaJChartTurns13
import Derived.Test.YtmfdhcgdibefiaaJChartTurns14
import Derived.Test.YtmfdhcgdibefiaaJChartTurns2
import Derived.Test.YtmfdhcgdibefiaaJChartTurns3
import Derived.Test.YtmfdhcgdibefiaaJChartTurns4
import Derived.Test.YtmfdhcgdibefiaaJChartTurns5
import Derived.Test.YtmfdhcgdibefiaaJChartTurns6
import Derived.Test.YtmfdhcgdibefiaaJChartTurns7
import Derived.Test.YtmfdhcgdibefiaaJChartTurns8
import Derived.Test.YtmfdhcgdibefiaaJChartTurns9
import Derived.Test.YtmfdhcgdibefiaaJChartTurns15
import Derived.Test.YtmfdhcgdibefiaaJChartTurns16
import Derived.Test.YtmfdhcgdibefiaaJChartTurns17
import Derived.Test.YtmfdhcgdibefiaaJChartTurns18
import Derived.Test.YtmfdhcgdibefiaaJChartTurns19
import Derived.Test.YtmfdhcgdibefiaaJChartTurns20
import Derived.Test.YtmfdhcgdibefiaaJChartTurns21
import Derived.Test.YtmfdhcgdibefiaaJChartTurns10
import Derived.Test.YtmfdhcgdibefiaaJChartTurns11
import Derived.Shelf.Small.Bits
import Derived.Test.YtmfdhcgdibefiaaJChartTurns12
import Derived.Laws.BitsAllLaws
import Derived.Lib.BitFns
import Derived.Lib.ItoaNum
-- Written by wip/tools/gp.py, a program of this session round the kit's printer. Lean checks it.
namespace Go.Proofs.Ytmfdhcgdibefiaa.Q
open Go.RowKit Go.Proofs.YtmfdhcgdibefiaaW.PrintWords Go.Proofs.YtmfdhcgdibefiaaW.PrintLast Go.Proofs.YtmfdhcgdibefiaaW.PrintMore
attribute [local go_sem] max2_int min2_int max_two min_two max_three min_three max_four min_four   -- for this text's walks alone
set_option linter.unusedVariables false
set_option linter.unusedSimpArgs false
def errW : Option Int → Value
  | none => .nilIface
  | some c => .iface 0 (.int .i64 c)
theorem errW_none : errW none = .nilIface := rfl
theorem errW_some (c : Int) : errW (some c) = .iface 0 (.int .i64 c) := rfl

-- the values' own types
/-! #### struct type 37 -/
structure S37 where
  f0 : Int
  f1 : Int
  f2 : Int
  f3 : Int
  f4 : ByteArray
  f5 : ByteArray
  f6 : Int
  f7 : Int
def z37 : S37 := ⟨(0 : Int), (0 : Int), (0 : Int), (0 : Int), (⟨#[]⟩ : ByteArray), (⟨#[]⟩ : ByteArray), (0 : Int), (0 : Int)⟩
def k37 : Kd S37 := Kd.iso (Kd.pair (Kd.int .u64) (Kd.pair (Kd.int .u64) (Kd.pair (Kd.int .u64) (Kd.pair (Kd.int .u8) (Kd.pair Kd.string (Kd.pair Kd.string (Kd.pair (Kd.int .i64) (Kd.int .i64)))))))) (fun x : S37 => (x.f0, x.f1, x.f2, x.f3, x.f4, x.f5, x.f6, x.f7))
theorem k37_open {w : World} {x : S37} {cs : List Value} (h : k37.K w x cs) : cs = [.int .u64 x.f0, .int .u64 x.f1, .int .u64 x.f2, .int .u8 x.f3, .string x.f4, .string x.f5, .int .i64 x.f6, .int .i64 x.f7] := by
  obtain ⟨_, _, rfl, rfl, ⟨_, _, rfl, rfl, ⟨_, _, rfl, rfl, ⟨_, _, rfl, rfl, ⟨_, _, rfl, rfl, ⟨_, _, rfl, rfl, ⟨_, _, rfl, rfl, rfl⟩⟩⟩⟩⟩⟩⟩ := h
  exact rfl
theorem k37_mkM (w : World) (base : Nat) (ok : Nat → Prop) (x : S37)  : k37.M w base ok x [.int .u64 x.f0, .int .u64 x.f1, .int .u64 x.f2, .int .u8 x.f3, .string x.f4, .string x.f5, .int .i64 x.f6, .int .i64 x.f7] := ⟨[.int .u64 x.f0], [.int .u64 x.f1, .int .u64 x.f2, .int .u8 x.f3, .string x.f4, .string x.f5, .int .i64 x.f6, .int .i64 x.f7], rfl, rfl, ⟨[.int .u64 x.f1], [.int .u64 x.f2, .int .u8 x.f3, .string x.f4, .string x.f5, .int .i64 x.f6, .int .i64 x.f7], rfl, rfl, ⟨[.int .u64 x.f2], [.int .u8 x.f3, .string x.f4, .string x.f5, .int .i64 x.f6, .int .i64 x.f7], rfl, rfl, ⟨[.int .u8 x.f3], [.string x.f4, .string x.f5, .int .i64 x.f6, .int .i64 x.f7], rfl, rfl, ⟨[.string x.f4], [.string x.f5, .int .i64 x.f6, .int .i64 x.f7], rfl, rfl, ⟨[.string x.f5], [.int .i64 x.f6, .int .i64 x.f7], rfl, rfl, ⟨[.int .i64 x.f6], [.int .i64 x.f7], rfl, rfl, rfl⟩⟩⟩⟩⟩⟩⟩
def rd_T37 (xs : List S37) (i : Int) : S37 := xs.getD i.toNat z37
theorem at_T37 {w : World} {A : Option Addr} {n : Nat} {xs : List S37} (h : Kd.C k37 w A n xs) (i : Int) (h0 : 0 ≤ i) (h1 : i < n) : ∃ ad , A = some ad ∧ w.cell? (ad.add (i.toNat * 8)) = some (.int .u64 (rd_T37 xs i).f0) ∧ w.cell? ⟨(ad.add (i.toNat * 8)).block, (ad.add (i.toNat * 8)).off + 1, none⟩ = some (.int .u64 (rd_T37 xs i).f1) ∧ w.cell? ⟨(ad.add (i.toNat * 8)).block, (ad.add (i.toNat * 8)).off + 2, none⟩ = some (.int .u64 (rd_T37 xs i).f2) ∧ w.cell? ⟨(ad.add (i.toNat * 8)).block, (ad.add (i.toNat * 8)).off + 3, none⟩ = some (.int .u8 (rd_T37 xs i).f3) ∧ w.cell? ⟨(ad.add (i.toNat * 8)).block, (ad.add (i.toNat * 8)).off + 4, none⟩ = some (.string (rd_T37 xs i).f4) ∧ w.cell? ⟨(ad.add (i.toNat * 8)).block, (ad.add (i.toNat * 8)).off + 5, none⟩ = some (.string (rd_T37 xs i).f5) ∧ w.cell? ⟨(ad.add (i.toNat * 8)).block, (ad.add (i.toNat * 8)).off + 6, none⟩ = some (.int .i64 (rd_T37 xs i).f6) ∧ w.cell? ⟨(ad.add (i.toNat * 8)).block, (ad.add (i.toNat * 8)).off + 7, none⟩ = some (.int .i64 (rd_T37 xs i).f7) := by
  obtain ⟨ad, c, e, _, hK, hc0⟩ := Kd.C_get h z37 i h0 h1
  have hc : ∀ j u, c[j]? = some u → w.cell? (ad.add (i.toNat * 8 + j)) = some u := hc0
  obtain rfl := k37_open hK
  exact ⟨ad, e, hc 0 _ rfl, by rw [← add_field _ _ 1 (by omega)]; exact hc 1 _ rfl, by rw [← add_field _ _ 2 (by omega)]; exact hc 2 _ rfl, by rw [← add_field _ _ 3 (by omega)]; exact hc 3 _ rfl, by rw [← add_field _ _ 4 (by omega)]; exact hc 4 _ rfl, by rw [← add_field _ _ 5 (by omega)]; exact hc 5 _ rfl, by rw [← add_field _ _ 6 (by omega)]; exact hc 6 _ rfl, by rw [← add_field _ _ 7 (by omega)]; exact hc 7 _ rfl⟩

/-! #### struct type 124 -/
structure S124 where
  f0 : Int
  f1 : Int
def k124 : Kd S124 := Kd.iso (Kd.pair (Kd.int .i64) (Kd.int .i64)) (fun x : S124 => (x.f0, x.f1))
/-! #### struct type 126 -/
structure S126 where
  f0 : Int
  f1 : Int
  f2 : Int
  f3 : S124
  f4 : Bool
def k126 : Kd S126 := Kd.iso (Kd.pair (Kd.int .i64) (Kd.pair (Kd.int .i64) (Kd.pair (Kd.int .i64) (Kd.pair k124 Kd.bool)))) (fun x : S126 => (x.f0, x.f1, x.f2, x.f3, x.f4))
end Go.Proofs.Ytmfdhcgdibefiaa.Q

-- Written by wip/tools/gp.py, a program of this session round the kit's printer. Lean checks it.
namespace Go.Proofs.Ytmfdhcgdibefiaa.A
open Go.RowKit Go.Proofs.Ytmfdhcgdibefiaa.Q Go.Proofs.YtmfdhcgdibefiaaW.PrintWords Go.Proofs.YtmfdhcgdibefiaaW.PrintLast Go.Proofs.YtmfdhcgdibefiaaW.PrintMore
attribute [local go_sem] max2_int min2_int max_two min_two max_three min_three max_four min_four   -- for this text's walks alone
set_option linter.unusedVariables false
set_option linter.unusedSimpArgs false




-- the values' own types

end Go.Proofs.Ytmfdhcgdibefiaa.A

-- Written by wip/tools/gp.py, a program of this session round the kit's printer. Lean checks it.
namespace Go.Proofs.Ytmfdhcgdibefiaa.A
open Go.RowKit Go.Proofs.Ytmfdhcgdibefiaa.Q Go.Proofs.YtmfdhcgdibefiaaW.PrintWords Go.Proofs.YtmfdhcgdibefiaaW.PrintLast Go.Proofs.YtmfdhcgdibefiaaW.PrintMore
attribute [local go_sem] max2_int min2_int max_two min_two max_three min_three max_four min_four   -- for this text's walks alone
set_option linter.unusedVariables false
set_option linter.unusedSimpArgs false

/-! ### bits_LeadingZeros64: function 153 (given) -/
def bits_LeadingZeros64.f (a0 : Int) : Option (Int) := if 0 ≤ a0 ∧ a0 ≤ 18446744073709551615 then some (64 - (Lib.bitLen a0.toNat : Int)) else none
theorem bits_LeadingZeros64.calls (a0 : Int) (r : Int) (w : World) (h : bits_LeadingZeros64.f a0 = some r) :
    Calls Try.prog 153 #[.int .u64 a0] w fun e w' => e = .returned (.int .i64 r) ∧ Drawn0 w w' := by
  unfold bits_LeadingZeros64.f at h
  split at h
  · rename_i hl
    obtain rfl := Option.some.inj h
    exact (Any.bits_LeadingZeros64 Try.laysLZ a0 w hl.1 hl.2).mono (by rintro e w' ⟨rfl, rfl⟩; exact ⟨rfl, Drawn0.refl _⟩)
  · cases h

/-! ### bits_Div64: function 109 -/
mutual
def bits_Div64.j0 : Nat → Int → Int → Int → Option (Int × Int)
  | 0, _, _, _ => none
  | k + 1, x0, x1, x2 => if x2 ≤ x0 then (if 0 = 0 then (none) else (bits_Div64.j1 k x0 x1 x2)) else (bits_Div64.j1 k x0 x1 x2)
def bits_Div64.j1 : Nat → Int → Int → Int → Option (Int × Int)
  | 0, _, _, _ => none
  | k + 1, x0, x1, x2 => if x0 = 0 then (if x2 = 0 then (none) else (some (IntKind.u64.wrap (Int.tdiv x1 x2), Int.tmod x1 x2))) else ((bits_LeadingZeros64.f x2).bind fun t101 => (if 0 ≤ (IntKind.u64.wrap (t101)) then (if 0 ≤ (IntKind.u64.wrap (64 - (IntKind.u64.wrap (t101)))) then (if ((shl .u64 x2 (IntKind.u64.wrap (t101))) / 4294967296) = 0 then (none) else (bits_Div64.l0 k (shl .u64 x2 (IntKind.u64.wrap (t101))) (IntKind.u64.wrap (t101)) ((shl .u64 x2 (IntKind.u64.wrap (t101))) / 4294967296) (Go.bits .and .u64 (shl .u64 x2 (IntKind.u64.wrap (t101))) 4294967295) (Go.bits .or .u64 (shl .u64 x0 (IntKind.u64.wrap (t101))) (shr .u64 x1 (IntKind.u64.wrap (64 - (IntKind.u64.wrap (t101)))))) ((shl .u64 x1 (IntKind.u64.wrap (t101))) / 4294967296) (Go.bits .and .u64 (shl .u64 x1 (IntKind.u64.wrap (t101))) 4294967295) (IntKind.u64.wrap (Int.tdiv (Go.bits .or .u64 (shl .u64 x0 (IntKind.u64.wrap (t101))) (shr .u64 x1 (IntKind.u64.wrap (64 - (IntKind.u64.wrap (t101)))))) ((shl .u64 x2 (IntKind.u64.wrap (t101))) / 4294967296))) (IntKind.u64.wrap ((Go.bits .or .u64 (shl .u64 x0 (IntKind.u64.wrap (t101))) (shr .u64 x1 (IntKind.u64.wrap (64 - (IntKind.u64.wrap (t101)))))) - (IntKind.u64.wrap ((IntKind.u64.wrap (Int.tdiv (Go.bits .or .u64 (shl .u64 x0 (IntKind.u64.wrap (t101))) (shr .u64 x1 (IntKind.u64.wrap (64 - (IntKind.u64.wrap (t101)))))) ((shl .u64 x2 (IntKind.u64.wrap (t101))) / 4294967296))) * ((shl .u64 x2 (IntKind.u64.wrap (t101))) / 4294967296))))))) else (none)) else (none)))
def bits_Div64.j4 : Nat → Int → Int → Int → Int → Int → Int → Int → Int → Option (Int × Int)
  | 0, _, _, _, _, _, _, _, _ => none
  | k + 1, x2, x8, x9, x10, x11, x13, x14, x15 => if x9 = 0 then (none) else (bits_Div64.l1 k x2 x8 x9 x10 x14 x15 (IntKind.u64.wrap ((IntKind.u64.wrap ((IntKind.u64.wrap ((IntKind.u64.wrap (x11 * 4294967296)) + x13)) - (IntKind.u64.wrap (x15 * x2)))) - (IntKind.u64.wrap ((IntKind.u64.wrap (Int.tdiv (IntKind.u64.wrap ((IntKind.u64.wrap ((IntKind.u64.wrap (x11 * 4294967296)) + x13)) - (IntKind.u64.wrap (x15 * x2)))) x9)) * x9)))) (IntKind.u64.wrap ((IntKind.u64.wrap ((IntKind.u64.wrap (x11 * 4294967296)) + x13)) - (IntKind.u64.wrap (x15 * x2)))) (IntKind.u64.wrap (Int.tdiv (IntKind.u64.wrap ((IntKind.u64.wrap ((IntKind.u64.wrap (x11 * 4294967296)) + x13)) - (IntKind.u64.wrap (x15 * x2)))) x9)))
def bits_Div64.l1 : Nat → Int → Int → Int → Int → Int → Int → Int → Int → Int → Option (Int × Int)
  | 0, _, _, _, _, _, _, _, _, _ => none
  | k + 1, x2, x8, x9, x10, x14, x15, x16, x17, x18 => if x18 ≥ 4294967296 then (bits_Div64.j6 k x2 x8 x9 x10 x14 x15 x16 x17 x18 true) else (bits_Div64.j6 k x2 x8 x9 x10 x14 x15 x16 x17 x18 (decide ((IntKind.u64.wrap (x18 * x10)) > (IntKind.u64.wrap ((IntKind.u64.wrap (4294967296 * x16)) + x14)))))
def bits_Div64.j6 : Nat → Int → Int → Int → Int → Int → Int → Int → Int → Int → Bool → Option (Int × Int)
  | 0, _, _, _, _, _, _, _, _, _, _ => none
  | k + 1, x2, x8, x9, x10, x14, x15, x16, x17, x18, x113 => if x113 = true then (if (IntKind.u64.wrap (x16 + x9)) ≥ 4294967296 then (if 0 ≤ x8 then (some (IntKind.u64.wrap ((IntKind.u64.wrap (x15 * 4294967296)) + (IntKind.u64.wrap (x18 - 1))), shr .u64 (IntKind.u64.wrap ((IntKind.u64.wrap ((IntKind.u64.wrap (x17 * 4294967296)) + x14)) - (IntKind.u64.wrap ((IntKind.u64.wrap (x18 - 1)) * x2)))) x8)) else (none)) else (bits_Div64.l1 k x2 x8 x9 x10 x14 x15 (IntKind.u64.wrap (x16 + x9)) x17 (IntKind.u64.wrap (x18 - 1)))) else (if 0 ≤ x8 then (some (IntKind.u64.wrap ((IntKind.u64.wrap (x15 * 4294967296)) + x18), shr .u64 (IntKind.u64.wrap ((IntKind.u64.wrap ((IntKind.u64.wrap (x17 * 4294967296)) + x14)) - (IntKind.u64.wrap (x18 * x2)))) x8)) else (none))
def bits_Div64.l0 : Nat → Int → Int → Int → Int → Int → Int → Int → Int → Int → Option (Int × Int)
  | 0, _, _, _, _, _, _, _, _, _ => none
  | k + 1, x2, x8, x9, x10, x11, x13, x14, x15, x16 => if x15 ≥ 4294967296 then (bits_Div64.j3 k x2 x8 x9 x10 x11 x13 x14 x15 x16 true) else (bits_Div64.j3 k x2 x8 x9 x10 x11 x13 x14 x15 x16 (decide ((IntKind.u64.wrap (x15 * x10)) > (IntKind.u64.wrap ((IntKind.u64.wrap (4294967296 * x16)) + x13)))))
def bits_Div64.j3 : Nat → Int → Int → Int → Int → Int → Int → Int → Int → Int → Bool → Option (Int × Int)
  | 0, _, _, _, _, _, _, _, _, _, _ => none
  | k + 1, x2, x8, x9, x10, x11, x13, x14, x15, x16, x78 => if x78 = true then (if (IntKind.u64.wrap (x16 + x9)) ≥ 4294967296 then (bits_Div64.j4 k x2 x8 x9 x10 x11 x13 x14 (IntKind.u64.wrap (x15 - 1))) else (bits_Div64.l0 k x2 x8 x9 x10 x11 x13 x14 (IntKind.u64.wrap (x15 - 1)) (IntKind.u64.wrap (x16 + x9)))) else (bits_Div64.j4 k x2 x8 x9 x10 x11 x13 x14 x15)
end
def bits_Div64.f (k : Nat) (a0 : Int) (a1 : Int) (a2 : Int) : Option (Int × Int) := if a2 = 0 then (if 0 = 0 then (none) else (bits_Div64.j0 k a0 a1 a2)) else (bits_Div64.j0 k a0 a1 a2)
theorem bits_Div64.mono_l : ∀ k, (∀ y0 y1 y2, LeO (bits_Div64.j0 k y0 y1 y2) (bits_Div64.j0 (k + 1) y0 y1 y2)) ∧ (∀ y0 y1 y2, LeO (bits_Div64.j1 k y0 y1 y2) (bits_Div64.j1 (k + 1) y0 y1 y2)) ∧ (∀ y0 y1 y2 y3 y4 y5 y6 y7, LeO (bits_Div64.j4 k y0 y1 y2 y3 y4 y5 y6 y7) (bits_Div64.j4 (k + 1) y0 y1 y2 y3 y4 y5 y6 y7)) ∧ (∀ y0 y1 y2 y3 y4 y5 y6 y7 y8, LeO (bits_Div64.l1 k y0 y1 y2 y3 y4 y5 y6 y7 y8) (bits_Div64.l1 (k + 1) y0 y1 y2 y3 y4 y5 y6 y7 y8)) ∧ (∀ y0 y1 y2 y3 y4 y5 y6 y7 y8 y9, LeO (bits_Div64.j6 k y0 y1 y2 y3 y4 y5 y6 y7 y8 y9) (bits_Div64.j6 (k + 1) y0 y1 y2 y3 y4 y5 y6 y7 y8 y9)) ∧ (∀ y0 y1 y2 y3 y4 y5 y6 y7 y8, LeO (bits_Div64.l0 k y0 y1 y2 y3 y4 y5 y6 y7 y8) (bits_Div64.l0 (k + 1) y0 y1 y2 y3 y4 y5 y6 y7 y8)) ∧ (∀ y0 y1 y2 y3 y4 y5 y6 y7 y8 y9, LeO (bits_Div64.j3 k y0 y1 y2 y3 y4 y5 y6 y7 y8 y9) (bits_Div64.j3 (k + 1) y0 y1 y2 y3 y4 y5 y6 y7 y8 y9))
  | 0 => ⟨fun _ _ _ r h => by simp [bits_Div64.j0] at h, fun _ _ _ r h => by simp [bits_Div64.j1] at h, fun _ _ _ _ _ _ _ _ r h => by simp [bits_Div64.j4] at h, fun _ _ _ _ _ _ _ _ _ r h => by simp [bits_Div64.l1] at h, fun _ _ _ _ _ _ _ _ _ _ r h => by simp [bits_Div64.j6] at h, fun _ _ _ _ _ _ _ _ _ r h => by simp [bits_Div64.l0] at h, fun _ _ _ _ _ _ _ _ _ _ r h => by simp [bits_Div64.j3] at h⟩
  | k + 1 => by
    obtain ⟨ih0, ih1, ih2, ih3, ih4, ih5, ih6⟩ := bits_Div64.mono_l k
    refine ⟨?_, ?_, ?_, ?_, ?_, ?_, ?_⟩
    · intro y0 y1 y2
      unfold bits_Div64.j0
      repeat' first
      | (with_reducible exact ih0 _ _ _)
      | (with_reducible exact ih1 _ _ _)
      | (with_reducible exact ih2 _ _ _ _ _ _ _ _)
      | (with_reducible exact ih3 _ _ _ _ _ _ _ _ _)
      | (with_reducible exact ih4 _ _ _ _ _ _ _ _ _ _)
      | (with_reducible exact ih5 _ _ _ _ _ _ _ _ _)
      | (with_reducible exact ih6 _ _ _ _ _ _ _ _ _ _)
      | (with_reducible exact LeO.refl _)
      | (with_reducible exact LeO.none _)
      | (with_reducible refine LeO.ite ?_ ?_)
      | (with_reducible refine LeO.bind ?_ (fun _ => ?_))
      | exact ih0 _ _ _
      | exact ih1 _ _ _
      | exact ih2 _ _ _ _ _ _ _ _
      | exact ih3 _ _ _ _ _ _ _ _ _
      | exact ih4 _ _ _ _ _ _ _ _ _ _
      | exact ih5 _ _ _ _ _ _ _ _ _
      | exact ih6 _ _ _ _ _ _ _ _ _ _
      | exact LeO.none _
      | refine LeO.ite ?_ ?_
      | refine LeO.bind ?_ (fun _ => ?_)
    · intro y0 y1 y2
      unfold bits_Div64.j1
      repeat' first
      | (with_reducible exact ih0 _ _ _)
      | (with_reducible exact ih1 _ _ _)
      | (with_reducible exact ih2 _ _ _ _ _ _ _ _)
      | (with_reducible exact ih3 _ _ _ _ _ _ _ _ _)
      | (with_reducible exact ih4 _ _ _ _ _ _ _ _ _ _)
      | (with_reducible exact ih5 _ _ _ _ _ _ _ _ _)
      | (with_reducible exact ih6 _ _ _ _ _ _ _ _ _ _)
      | (with_reducible exact LeO.refl _)
      | (with_reducible exact LeO.none _)
      | (with_reducible refine LeO.ite ?_ ?_)
      | (with_reducible refine LeO.bind ?_ (fun _ => ?_))
      | exact ih0 _ _ _
      | exact ih1 _ _ _
      | exact ih2 _ _ _ _ _ _ _ _
      | exact ih3 _ _ _ _ _ _ _ _ _
      | exact ih4 _ _ _ _ _ _ _ _ _ _
      | exact ih5 _ _ _ _ _ _ _ _ _
      | exact ih6 _ _ _ _ _ _ _ _ _ _
      | exact LeO.none _
      | refine LeO.ite ?_ ?_
      | refine LeO.bind ?_ (fun _ => ?_)
    · intro y0 y1 y2 y3 y4 y5 y6 y7
      unfold bits_Div64.j4
      repeat' first
      | (with_reducible exact ih0 _ _ _)
      | (with_reducible exact ih1 _ _ _)
      | (with_reducible exact ih2 _ _ _ _ _ _ _ _)
      | (with_reducible exact ih3 _ _ _ _ _ _ _ _ _)
      | (with_reducible exact ih4 _ _ _ _ _ _ _ _ _ _)
      | (with_reducible exact ih5 _ _ _ _ _ _ _ _ _)
      | (with_reducible exact ih6 _ _ _ _ _ _ _ _ _ _)
      | (with_reducible exact LeO.refl _)
      | (with_reducible exact LeO.none _)
      | (with_reducible refine LeO.ite ?_ ?_)
      | (with_reducible refine LeO.bind ?_ (fun _ => ?_))
      | exact ih0 _ _ _
      | exact ih1 _ _ _
      | exact ih2 _ _ _ _ _ _ _ _
      | exact ih3 _ _ _ _ _ _ _ _ _
      | exact ih4 _ _ _ _ _ _ _ _ _ _
      | exact ih5 _ _ _ _ _ _ _ _ _
      | exact ih6 _ _ _ _ _ _ _ _ _ _
      | exact LeO.none _
      | refine LeO.ite ?_ ?_
      | refine LeO.bind ?_ (fun _ => ?_)
    · intro y0 y1 y2 y3 y4 y5 y6 y7 y8
      unfold bits_Div64.l1
      repeat' first
      | (with_reducible exact ih0 _ _ _)
      | (with_reducible exact ih1 _ _ _)
      | (with_reducible exact ih2 _ _ _ _ _ _ _ _)
      | (with_reducible exact ih3 _ _ _ _ _ _ _ _ _)
      | (with_reducible exact ih4 _ _ _ _ _ _ _ _ _ _)
      | (with_reducible exact ih5 _ _ _ _ _ _ _ _ _)
      | (with_reducible exact ih6 _ _ _ _ _ _ _ _ _ _)
      | (with_reducible exact LeO.refl _)
      | (with_reducible exact LeO.none _)
      | (with_reducible refine LeO.ite ?_ ?_)
      | (with_reducible refine LeO.bind ?_ (fun _ => ?_))
      | exact ih0 _ _ _
      | exact ih1 _ _ _
      | exact ih2 _ _ _ _ _ _ _ _
      | exact ih3 _ _ _ _ _ _ _ _ _
      | exact ih4 _ _ _ _ _ _ _ _ _ _
      | exact ih5 _ _ _ _ _ _ _ _ _
      | exact ih6 _ _ _ _ _ _ _ _ _ _
      | exact LeO.none _
      | refine LeO.ite ?_ ?_
      | refine LeO.bind ?_ (fun _ => ?_)
    · intro y0 y1 y2 y3 y4 y5 y6 y7 y8 y9
      unfold bits_Div64.j6
      repeat' first
      | (with_reducible exact ih0 _ _ _)
      | (with_reducible exact ih1 _ _ _)
      | (with_reducible exact ih2 _ _ _ _ _ _ _ _)
      | (with_reducible exact ih3 _ _ _ _ _ _ _ _ _)
      | (with_reducible exact ih4 _ _ _ _ _ _ _ _ _ _)
      | (with_reducible exact ih5 _ _ _ _ _ _ _ _ _)
      | (with_reducible exact ih6 _ _ _ _ _ _ _ _ _ _)
      | (with_reducible exact LeO.refl _)
      | (with_reducible exact LeO.none _)
      | (with_reducible refine LeO.ite ?_ ?_)
      | (with_reducible refine LeO.bind ?_ (fun _ => ?_))
      | exact ih0 _ _ _
      | exact ih1 _ _ _
      | exact ih2 _ _ _ _ _ _ _ _
      | exact ih3 _ _ _ _ _ _ _ _ _
      | exact ih4 _ _ _ _ _ _ _ _ _ _
      | exact ih5 _ _ _ _ _ _ _ _ _
      | exact ih6 _ _ _ _ _ _ _ _ _ _
      | exact LeO.none _
      | refine LeO.ite ?_ ?_
      | refine LeO.bind ?_ (fun _ => ?_)
    · intro y0 y1 y2 y3 y4 y5 y6 y7 y8
      unfold bits_Div64.l0
      repeat' first
      | (with_reducible exact ih0 _ _ _)
      | (with_reducible exact ih1 _ _ _)
      | (with_reducible exact ih2 _ _ _ _ _ _ _ _)
      | (with_reducible exact ih3 _ _ _ _ _ _ _ _ _)
      | (with_reducible exact ih4 _ _ _ _ _ _ _ _ _ _)
      | (with_reducible exact ih5 _ _ _ _ _ _ _ _ _)
      | (with_reducible exact ih6 _ _ _ _ _ _ _ _ _ _)
      | (with_reducible exact LeO.refl _)
      | (with_reducible exact LeO.none _)
      | (with_reducible refine LeO.ite ?_ ?_)
      | (with_reducible refine LeO.bind ?_ (fun _ => ?_))
      | exact ih0 _ _ _
      | exact ih1 _ _ _
      | exact ih2 _ _ _ _ _ _ _ _
      | exact ih3 _ _ _ _ _ _ _ _ _
      | exact ih4 _ _ _ _ _ _ _ _ _ _
      | exact ih5 _ _ _ _ _ _ _ _ _
      | exact ih6 _ _ _ _ _ _ _ _ _ _
      | exact LeO.none _
      | refine LeO.ite ?_ ?_
      | refine LeO.bind ?_ (fun _ => ?_)
    · intro y0 y1 y2 y3 y4 y5 y6 y7 y8 y9
      unfold bits_Div64.j3
      repeat' first
      | (with_reducible exact ih0 _ _ _)
      | (with_reducible exact ih1 _ _ _)
      | (with_reducible exact ih2 _ _ _ _ _ _ _ _)
      | (with_reducible exact ih3 _ _ _ _ _ _ _ _ _)
      | (with_reducible exact ih4 _ _ _ _ _ _ _ _ _ _)
      | (with_reducible exact ih5 _ _ _ _ _ _ _ _ _)
      | (with_reducible exact ih6 _ _ _ _ _ _ _ _ _ _)
      | (with_reducible exact LeO.refl _)
      | (with_reducible exact LeO.none _)
      | (with_reducible refine LeO.ite ?_ ?_)
      | (with_reducible refine LeO.bind ?_ (fun _ => ?_))
      | exact ih0 _ _ _
      | exact ih1 _ _ _
      | exact ih2 _ _ _ _ _ _ _ _
      | exact ih3 _ _ _ _ _ _ _ _ _
      | exact ih4 _ _ _ _ _ _ _ _ _ _
      | exact ih5 _ _ _ _ _ _ _ _ _
      | exact ih6 _ _ _ _ _ _ _ _ _ _
      | exact LeO.none _
      | refine LeO.ite ?_ ?_
      | refine LeO.bind ?_ (fun _ => ?_)
theorem bits_Div64.mono : ∀ a0 a1 a2 k, LeO (bits_Div64.f k a0 a1 a2) (bits_Div64.f (k + 1) a0 a1 a2) := by
  intro a0 a1 a2 k
  obtain ⟨ih0, ih1, ih2, ih3, ih4, ih5, ih6⟩ := bits_Div64.mono_l k
  unfold bits_Div64.f
  repeat' first
      | (with_reducible exact ih0 _ _ _)
      | (with_reducible exact ih1 _ _ _)
      | (with_reducible exact ih2 _ _ _ _ _ _ _ _)
      | (with_reducible exact ih3 _ _ _ _ _ _ _ _ _)
      | (with_reducible exact ih4 _ _ _ _ _ _ _ _ _ _)
      | (with_reducible exact ih5 _ _ _ _ _ _ _ _ _)
      | (with_reducible exact ih6 _ _ _ _ _ _ _ _ _ _)
      | (with_reducible exact LeO.refl _)
      | (with_reducible exact LeO.none _)
      | (with_reducible refine LeO.ite ?_ ?_)
      | (with_reducible refine LeO.bind ?_ (fun _ => ?_))
      | exact ih0 _ _ _
      | exact ih1 _ _ _
      | exact ih2 _ _ _ _ _ _ _ _
      | exact ih3 _ _ _ _ _ _ _ _ _
      | exact ih4 _ _ _ _ _ _ _ _ _ _
      | exact ih5 _ _ _ _ _ _ _ _ _
      | exact ih6 _ _ _ _ _ _ _ _ _ _
      | exact LeO.none _
      | refine LeO.ite ?_ ?_
      | refine LeO.bind ?_ (fun _ => ?_)
set_option maxHeartbeats 8000000 in
set_option maxRecDepth 100000 in
theorem bits_Div64.calls (k : Nat) (a0 : Int) (a1 : Int) (a2 : Int) (r1 : Int) (r2 : Int) (w : World) (h : bits_Div64.f k a0 a1 a2 = some (r1, r2)) :
    Calls Try.prog 109 #[.int .u64 a0, .int .u64 a1, .int .u64 a2] w fun e w' => e = .returned (.tuple #[.int .u64 r1, .int .u64 r2]) ∧ Drawn0 w w' := by
  have H : (if a2 = 0 then (if 0 = 0 then (none) else (bits_Div64.j0 k a0 a1 a2)) else (bits_Div64.j0 k a0 a1 a2)) = some (r1, r2) := h
  clear h
  have HC4 := Aside0.mk H
  clear H
  go_enter Try.func109, Try.ntmps109
  go_upto_if 20 with (fail)
  repeat (go_quiet (fail); go_upto_if 20 with (fail))
  go_cut [] (fun wc => ∃ (kq : Nat), Aside0 (bits_Div64.j0 kq a0 a1 a2 = some (r1, r2)) ∧ Aside0 (kq ≤ k) ∧ Drawn0 w wc)
  case first =>
    have H := HC4.out
    clear HC4
    by_cases c5 : a2 = 0
    · rw [if_pos c5] at H
      have c5b0 : (a2 == 0) = true := beq_iff_eq.mpr c5
      have c5b1 : (a2 != 0) = false := bne_eq_false_iff_eq.mpr c5
      clear c5
      (first | rw [c5b0] | (simp only [i64_w, i32_w]; rw [c5b0]) | skip)
      exact absurd H (by simp)
    · rw [if_neg c5] at H
      have c5b0 : (a2 == 0) = false := beq_eq_false_iff_ne.mpr c5
      have c5b1 : (a2 != 0) = true := bne_iff_ne.mpr c5
      (first | rw [c5b0] | (simp only [i64_w, i32_w]; rw [c5b0]) | skip)
      have H' := Aside0.mk H
      clear H
      go_wp2
      repeat (go_quiet (fail); try go_wp2)
      go_meet
      case rel => exact ⟨_, H', ⟨by first | omega | exact Nat.le_refl _⟩, by repeat (first | exact Drawn0.refl _ | apply Drawn0.step)⟩
  case rest =>
    clear HC4
    (try clear c1); (try clear p2); (try clear c5); (try clear c5b0); (try clear c5b1); (try clear c6); (try clear c6b0); (try clear c6b1)
    obtain ⟨kq, HA, HJ3, ⟨mc3, rfl⟩⟩ := hcut
    cases kq with
    | zero => exact absurd HA.out (by simp [bits_Div64.j0])
    | succ kj3 =>
      have H := HA.out
      clear HA
      simp only [bits_Div64.j0] at H
      have HC7 := Aside0.mk H
      clear H
      go_upto_if 24 with (fail)
      repeat (go_quiet (fail); go_upto_if 24 with (fail))
      go_cut [] (fun wc => ∃ (kq : Nat), Aside0 (bits_Div64.j1 kq a0 a1 a2 = some (r1, r2)) ∧ Aside0 (kq ≤ kj3) ∧ Drawn0 w wc)
      case first =>
        have H := HC7.out
        clear HC7
        by_cases c8 : a2 ≤ a0
        · rw [if_pos c8] at H
          have c8b0 : decide (a2 ≤ a0) = true := decide_eq_true c8
          clear c8
          (first | rw [c8b0] | (simp only [i64_w, i32_w]; rw [c8b0]) | skip)
          exact absurd H (by simp)
        · rw [if_neg c8] at H
          have c8b0 : decide (a2 ≤ a0) = false := decide_eq_false c8
          clear c8
          (first | rw [c8b0] | (simp only [i64_w, i32_w]; rw [c8b0]) | skip)
          have H' := Aside0.mk H
          clear H
          go_wp2
          repeat (go_quiet (fail); try go_wp2)
          go_meet
          case rel => exact ⟨_, H', ⟨by have := HJ3.out; first | omega | exact Nat.le_refl _⟩, by repeat (first | exact Drawn0.refl _ | apply Drawn0.step)⟩
      case rest =>
        clear HC7
        (try clear c1); (try clear p2); (try clear c3); (try clear c5); (try clear c5b0); (try clear c5b1); (try clear c6); (try clear c6b0); (try clear c6b1); (try clear c8); (try clear c8b0); (try clear c9); (try clear c9b0); (try clear c9b1); (try clear p2)
        obtain ⟨kq, HA, HJ6, ⟨mc6, rfl⟩⟩ := hcut
        cases kq with
        | zero => exact absurd HA.out (by simp [bits_Div64.j1])
        | succ kj6 =>
          have H := HA.out
          clear HA
          simp only [bits_Div64.j1] at H
          by_cases c10 : a0 = 0
          · rw [if_pos c10] at H
            have c10b0 : (a0 == 0) = true := beq_iff_eq.mpr c10
            have c10b1 : (a0 != 0) = false := bne_eq_false_iff_eq.mpr c10
            clear c10
            by_cases c11 : a2 = 0
            · rw [if_pos c11] at H
              exact absurd H (by simp)
            · rw [if_neg c11] at H
              have c11b0 : (a2 == 0) = false := beq_eq_false_iff_ne.mpr c11
              have c11b1 : (a2 != 0) = true := bne_iff_ne.mpr c11
              simp only [Option.some.injEq, Prod.mk.injEq] at H
              obtain ⟨rfl, rfl⟩ := H
              go_wp2
              repeat (go_quiet (fail); try go_wp2)
              go_ret2
              exact ⟨by first | rfl | (simp; done) | (simp [*]; done), by repeat (first | exact Drawn0.refl _ | apply Drawn0.step)⟩
          · rw [if_neg c10] at H
            have c10b0 : (a0 == 0) = false := beq_eq_false_iff_ne.mpr c10
            have c10b1 : (a0 != 0) = true := bne_iff_ne.mpr c10
            replace H := Option.bind_eq_some_iff.mp H
            obtain ⟨t101, A120, H⟩ := H
            replace H : (if 0 ≤ (IntKind.u64.wrap (t101)) then (if 0 ≤ (IntKind.u64.wrap (64 - (IntKind.u64.wrap (t101)))) then (if ((shl .u64 a2 (IntKind.u64.wrap (t101))) / 4294967296) = 0 then (none) else (bits_Div64.l0 kj6 (shl .u64 a2 (IntKind.u64.wrap (t101))) (IntKind.u64.wrap (t101)) ((shl .u64 a2 (IntKind.u64.wrap (t101))) / 4294967296) (Go.bits .and .u64 (shl .u64 a2 (IntKind.u64.wrap (t101))) 4294967295) (Go.bits .or .u64 (shl .u64 a0 (IntKind.u64.wrap (t101))) (shr .u64 a1 (IntKind.u64.wrap (64 - (IntKind.u64.wrap (t101)))))) ((shl .u64 a1 (IntKind.u64.wrap (t101))) / 4294967296) (Go.bits .and .u64 (shl .u64 a1 (IntKind.u64.wrap (t101))) 4294967295) (IntKind.u64.wrap (Int.tdiv (Go.bits .or .u64 (shl .u64 a0 (IntKind.u64.wrap (t101))) (shr .u64 a1 (IntKind.u64.wrap (64 - (IntKind.u64.wrap (t101)))))) ((shl .u64 a2 (IntKind.u64.wrap (t101))) / 4294967296))) (IntKind.u64.wrap ((Go.bits .or .u64 (shl .u64 a0 (IntKind.u64.wrap (t101))) (shr .u64 a1 (IntKind.u64.wrap (64 - (IntKind.u64.wrap (t101)))))) - (IntKind.u64.wrap ((IntKind.u64.wrap (Int.tdiv (Go.bits .or .u64 (shl .u64 a0 (IntKind.u64.wrap (t101))) (shr .u64 a1 (IntKind.u64.wrap (64 - (IntKind.u64.wrap (t101)))))) ((shl .u64 a2 (IntKind.u64.wrap (t101))) / 4294967296))) * ((shl .u64 a2 (IntKind.u64.wrap (t101))) / 4294967296))))))) else (none)) else (none)) = some (r1, r2) := H
            have A12 := Aside0.mk A120
            clear A120
            obtain ⟨ji13, hji13⟩ : ∃ j_ : Int, (IntKind.u64.wrap (t101)) = j_ := ⟨_, rfl⟩
            replace H : (if 0 ≤ (ji13) then (if 0 ≤ (IntKind.u64.wrap (64 - (ji13))) then (if ((shl .u64 a2 (ji13)) / 4294967296) = 0 then (none) else (bits_Div64.l0 kj6 (shl .u64 a2 (ji13)) ji13 ((shl .u64 a2 (ji13)) / 4294967296) (Go.bits .and .u64 (shl .u64 a2 (ji13)) 4294967295) (Go.bits .or .u64 (shl .u64 a0 (ji13)) (shr .u64 a1 (IntKind.u64.wrap (64 - (ji13))))) ((shl .u64 a1 (ji13)) / 4294967296) (Go.bits .and .u64 (shl .u64 a1 (ji13)) 4294967295) (IntKind.u64.wrap (Int.tdiv (Go.bits .or .u64 (shl .u64 a0 (ji13)) (shr .u64 a1 (IntKind.u64.wrap (64 - (ji13))))) ((shl .u64 a2 (ji13)) / 4294967296))) (IntKind.u64.wrap ((Go.bits .or .u64 (shl .u64 a0 (ji13)) (shr .u64 a1 (IntKind.u64.wrap (64 - (ji13))))) - (IntKind.u64.wrap ((IntKind.u64.wrap (Int.tdiv (Go.bits .or .u64 (shl .u64 a0 (ji13)) (shr .u64 a1 (IntKind.u64.wrap (64 - (ji13))))) ((shl .u64 a2 (ji13)) / 4294967296))) * ((shl .u64 a2 (ji13)) / 4294967296))))))) else (none)) else (none)) = some (r1, r2) := by first | (rw [hji13] at H; exact H) | (simp only [hji13] at H ⊢; exact H)
            (try rw [hji13] at A12)
            by_cases c14 : 0 ≤ (ji13)
            · rw [if_pos c14] at H
              have c14b0 := eq_true c14
              have c14b1 : decide (0 ≤ (ji13)) = true := decide_eq_true c14
              clear c14
              obtain ⟨ji15, hji15⟩ : ∃ j_ : Int, (shl .u64 a2 (ji13)) = j_ := ⟨_, rfl⟩
              replace H : (if 0 ≤ (IntKind.u64.wrap (64 - (ji13))) then (if ((ji15) / 4294967296) = 0 then (none) else (bits_Div64.l0 kj6 ji15 ji13 ((ji15) / 4294967296) (Go.bits .and .u64 (ji15) 4294967295) (Go.bits .or .u64 (shl .u64 a0 (ji13)) (shr .u64 a1 (IntKind.u64.wrap (64 - (ji13))))) ((shl .u64 a1 (ji13)) / 4294967296) (Go.bits .and .u64 (shl .u64 a1 (ji13)) 4294967295) (IntKind.u64.wrap (Int.tdiv (Go.bits .or .u64 (shl .u64 a0 (ji13)) (shr .u64 a1 (IntKind.u64.wrap (64 - (ji13))))) ((ji15) / 4294967296))) (IntKind.u64.wrap ((Go.bits .or .u64 (shl .u64 a0 (ji13)) (shr .u64 a1 (IntKind.u64.wrap (64 - (ji13))))) - (IntKind.u64.wrap ((IntKind.u64.wrap (Int.tdiv (Go.bits .or .u64 (shl .u64 a0 (ji13)) (shr .u64 a1 (IntKind.u64.wrap (64 - (ji13))))) ((ji15) / 4294967296))) * ((ji15) / 4294967296))))))) else (none)) = some (r1, r2) := by first | (rw [hji15] at H; exact H) | (simp only [hji15] at H ⊢; exact H)
              (try rw [hji15] at A12)
              have hji15_ : (IntKind.u64.wrap (a2 * 2 ^ min (ji13).toNat 64)) = ji15 := hji15
              have hji15z : (ji13) ≤ 64 → (IntKind.u64.wrap (a2 * 2 ^ (ji13).toNat)) = ji15 := shl_small hji15
              have c16b0 := eq_true (of_decide_eq_true (by first | (with_reducible assumption) | assumption) : 0 ≤ (ji13))
              obtain ⟨ji17, hji17⟩ : ∃ j_ : Int, (shl .u64 a0 (ji13)) = j_ := ⟨_, rfl⟩
              replace H : (if 0 ≤ (IntKind.u64.wrap (64 - (ji13))) then (if ((ji15) / 4294967296) = 0 then (none) else (bits_Div64.l0 kj6 ji15 ji13 ((ji15) / 4294967296) (Go.bits .and .u64 (ji15) 4294967295) (Go.bits .or .u64 (ji17) (shr .u64 a1 (IntKind.u64.wrap (64 - (ji13))))) ((shl .u64 a1 (ji13)) / 4294967296) (Go.bits .and .u64 (shl .u64 a1 (ji13)) 4294967295) (IntKind.u64.wrap (Int.tdiv (Go.bits .or .u64 (ji17) (shr .u64 a1 (IntKind.u64.wrap (64 - (ji13))))) ((ji15) / 4294967296))) (IntKind.u64.wrap ((Go.bits .or .u64 (ji17) (shr .u64 a1 (IntKind.u64.wrap (64 - (ji13))))) - (IntKind.u64.wrap ((IntKind.u64.wrap (Int.tdiv (Go.bits .or .u64 (ji17) (shr .u64 a1 (IntKind.u64.wrap (64 - (ji13))))) ((ji15) / 4294967296))) * ((ji15) / 4294967296))))))) else (none)) = some (r1, r2) := by first | (rw [hji17] at H; exact H) | (simp only [hji17] at H ⊢; exact H)
              (try rw [hji17] at A12)
              have hji17_ : (IntKind.u64.wrap (a0 * 2 ^ min (ji13).toNat 64)) = ji17 := hji17
              have hji17z : (ji13) ≤ 64 → (IntKind.u64.wrap (a0 * 2 ^ (ji13).toNat)) = ji17 := shl_small hji17
              obtain ⟨ji18, hji18⟩ : ∃ j_ : Int, (IntKind.u64.wrap (64 - (ji13))) = j_ := ⟨_, rfl⟩
              replace H : (if 0 ≤ (ji18) then (if ((ji15) / 4294967296) = 0 then (none) else (bits_Div64.l0 kj6 ji15 ji13 ((ji15) / 4294967296) (Go.bits .and .u64 (ji15) 4294967295) (Go.bits .or .u64 (ji17) (shr .u64 a1 (ji18))) ((shl .u64 a1 (ji13)) / 4294967296) (Go.bits .and .u64 (shl .u64 a1 (ji13)) 4294967295) (IntKind.u64.wrap (Int.tdiv (Go.bits .or .u64 (ji17) (shr .u64 a1 (ji18))) ((ji15) / 4294967296))) (IntKind.u64.wrap ((Go.bits .or .u64 (ji17) (shr .u64 a1 (ji18))) - (IntKind.u64.wrap ((IntKind.u64.wrap (Int.tdiv (Go.bits .or .u64 (ji17) (shr .u64 a1 (ji18))) ((ji15) / 4294967296))) * ((ji15) / 4294967296))))))) else (none)) = some (r1, r2) := by first | (rw [hji18] at H; exact H) | (simp only [hji18] at H ⊢; exact H)
              (try rw [hji18] at A12)
              by_cases c19 : 0 ≤ (ji18)
              · rw [if_pos c19] at H
                have c19b0 := eq_true c19
                have c19b1 : decide (0 ≤ (ji18)) = true := decide_eq_true c19
                clear c19
                obtain ⟨ji20, hji20⟩ : ∃ j_ : Int, (shr .u64 a1 (ji18)) = j_ := ⟨_, rfl⟩
                replace H : (if ((ji15) / 4294967296) = 0 then (none) else (bits_Div64.l0 kj6 ji15 ji13 ((ji15) / 4294967296) (Go.bits .and .u64 (ji15) 4294967295) (Go.bits .or .u64 (ji17) (ji20)) ((shl .u64 a1 (ji13)) / 4294967296) (Go.bits .and .u64 (shl .u64 a1 (ji13)) 4294967295) (IntKind.u64.wrap (Int.tdiv (Go.bits .or .u64 (ji17) (ji20)) ((ji15) / 4294967296))) (IntKind.u64.wrap ((Go.bits .or .u64 (ji17) (ji20)) - (IntKind.u64.wrap ((IntKind.u64.wrap (Int.tdiv (Go.bits .or .u64 (ji17) (ji20)) ((ji15) / 4294967296))) * ((ji15) / 4294967296))))))) = some (r1, r2) := by first | (rw [hji20] at H; exact H) | (simp only [hji20] at H ⊢; exact H)
                (try rw [hji20] at A12)
                have hji20_ : (a1 / 2 ^ min (ji18).toNat 64) = ji20 := hji20
                have hji20z : (ji18) ≤ 64 → (a1 / 2 ^ (ji18).toNat) = ji20 := shr_small hji20
                have c21b0 := eq_true (of_decide_eq_true (by first | (with_reducible assumption) | assumption) : 0 ≤ (ji13))
                obtain ⟨ji22, hji22⟩ : ∃ j_ : Int, (shl .u64 a1 (ji13)) = j_ := ⟨_, rfl⟩
                replace H : (if ((ji15) / 4294967296) = 0 then (none) else (bits_Div64.l0 kj6 ji15 ji13 ((ji15) / 4294967296) (Go.bits .and .u64 (ji15) 4294967295) (Go.bits .or .u64 (ji17) (ji20)) ((ji22) / 4294967296) (Go.bits .and .u64 (ji22) 4294967295) (IntKind.u64.wrap (Int.tdiv (Go.bits .or .u64 (ji17) (ji20)) ((ji15) / 4294967296))) (IntKind.u64.wrap ((Go.bits .or .u64 (ji17) (ji20)) - (IntKind.u64.wrap ((IntKind.u64.wrap (Int.tdiv (Go.bits .or .u64 (ji17) (ji20)) ((ji15) / 4294967296))) * ((ji15) / 4294967296))))))) = some (r1, r2) := by first | (rw [hji22] at H; exact H) | (simp only [hji22] at H ⊢; exact H)
                (try rw [hji22] at A12)
                have hji22_ : (IntKind.u64.wrap (a1 * 2 ^ min (ji13).toNat 64)) = ji22 := hji22
                have hji22z : (ji13) ≤ 64 → (IntKind.u64.wrap (a1 * 2 ^ (ji13).toNat)) = ji22 := shl_small hji22
                by_cases c23 : ((ji15) / 4294967296) = 0
                · rw [if_pos c23] at H
                  exact absurd H (by simp)
                · rw [if_neg c23] at H
                  have c23b0 : (((ji15) / 4294967296) == 0) = false := beq_eq_false_iff_ne.mpr c23
                  have c23b1 : (((ji15) / 4294967296) != 0) = true := bne_iff_ne.mpr c23
                  have HC24 := Aside0.mk H
                  clear H
                  go_upto_block 0 with (first | (go_at_call 153; (with_reducible refine (bits_LeadingZeros64.calls a2 t101 _ A12.out).mono ?_); rintro e w' ⟨rfl, ⟨nd, rfl⟩⟩; (try first | exact ⟨rfl, _, World.drewN_drewN _ _ _⟩ | exact ⟨rfl, _, Eq.trans (World.drewN_drewN _ _ _) (congrArg (World.drewN _) (Nat.add_assoc _ _ _))⟩)))
                  repeat (go_quiet (first | (go_at_call 153; (with_reducible refine (bits_LeadingZeros64.calls a2 t101 _ A12.out).mono ?_); rintro e w' ⟨rfl, ⟨nd, rfl⟩⟩; (try first | exact ⟨rfl, _, World.drewN_drewN _ _ _⟩ | exact ⟨rfl, _, Eq.trans (World.drewN_drewN _ _ _) (congrArg (World.drewN _) (Nat.add_assoc _ _ _))⟩))); go_upto_block 0 with (first | (go_at_call 153; (with_reducible refine (bits_LeadingZeros64.calls a2 t101 _ A12.out).mono ?_); rintro e w' ⟨rfl, ⟨nd, rfl⟩⟩; (try first | exact ⟨rfl, _, World.drewN_drewN _ _ _⟩ | exact ⟨rfl, _, Eq.trans (World.drewN_drewN _ _ _) (congrArg (World.drewN _) (Nat.add_assoc _ _ _))⟩))))
                  (try simp only [Act.put, List.setIfInBounds_toArray, List.set_cons_zero, List.set_cons_succ])
                  go_cut [15] (fun v15 wc => ∃ (kq : Nat) (x15_23 : Int), v15 = .int .u64 x15_23 ∧ Aside0 (bits_Div64.j4 kq ji15 ji13 ((ji15) / 4294967296) (Go.bits .and .u64 (ji15) 4294967295) (Go.bits .or .u64 (ji17) (ji20)) ((ji22) / 4294967296) (Go.bits .and .u64 (ji22) 4294967295) x15_23 = some (r1, r2)) ∧ Aside0 (kq ≤ kj6) ∧ Drawn0 w wc)
                  case first =>
                    have H := HC24.out
                    clear HC24
                    have H' := Aside0.mk H
                    clear H
                    go_wp2
                    repeat (go_quiet (fail); try go_wp2)
                    go_loopg [15, 16] kj6 (fun kq v15 v16 w' => ∃ (x15_3 : Int) (x16_3 : Int), v15 = .int .u64 x15_3 ∧ v16 = .int .u64 x16_3 ∧ Aside0 (bits_Div64.l0 kq ji15 ji13 ((ji15) / 4294967296) (Go.bits .and .u64 (ji15) 4294967295) (Go.bits .or .u64 (ji17) (ji20)) ((ji22) / 4294967296) (Go.bits .and .u64 (ji22) 4294967295) x15_3 x16_3 = some (r1, r2)) ∧ Aside0 (kq ≤ kj6) ∧ Drawn0 w w')
                    case atStart => exact ⟨(IntKind.u64.wrap (Int.tdiv (Go.bits .or .u64 (ji17) (ji20)) ((ji15) / 4294967296))), (IntKind.u64.wrap ((Go.bits .or .u64 (ji17) (ji20)) - (IntKind.u64.wrap ((IntKind.u64.wrap (Int.tdiv (Go.bits .or .u64 (ji17) (ji20)) ((ji15) / 4294967296))) * ((ji15) / 4294967296))))), (by first | rfl | (simp; done) | (simp only [← hji15, ← hji17, ← hji20] <;> (first | rfl | simp)) | (simp [*]; done)), (by first | rfl | (simp; done) | (simp only [← hji15, ← hji17, ← hji20] <;> (first | rfl | simp)) | (simp [*]; done)), H', ⟨Nat.le_refl _⟩, by repeat (first | exact Drawn0.refl _ | apply Drawn0.step)⟩
                    case round =>
                      clear H'
                      (try clear c1); (try clear c2); (try clear p2); (try clear c3); (try clear c5); (try clear c5b0); (try clear c5b1); (try clear c6); (try clear c6b0); (try clear c6b1); (try clear c8); (try clear c8b0); (try clear c9); (try clear c9b0); (try clear c9b1); (try clear c10); (try clear c10b0); (try clear c10b1); (try clear c11); (try clear c11b0); (try clear c11b1); (try clear c14); (try clear c14b0); (try clear c14b1); (try clear c16); (try clear c16b0); (try clear c19); (try clear c19b0); (try clear c19b1); (try clear c21); (try clear c21b0); (try clear c23); (try clear c23b0); (try clear c23b1); (try clear p2)
                      obtain ⟨x15_3, x16_3, rfl, rfl, HA, HK3, ⟨m3, rfl⟩⟩ := hrel
                      cases gk with
                      | zero => exact absurd HA.out (by simp [bits_Div64.l0])
                      | succ k3 =>
                        have H := HA.out
                        clear HA
                        simp only [bits_Div64.l0] at H
                        have HC25 := Aside0.mk H
                        clear H
                        go_upto_region 17 with (fail)
                        repeat (go_quiet (fail); go_upto_region 17 with (fail))
                        go_cut [78] (fun v78 wc => ∃ (kq : Nat) (x78_24 : Bool), v78 = .bool x78_24 ∧ Aside0 (bits_Div64.j3 kq ji15 ji13 ((ji15) / 4294967296) (Go.bits .and .u64 (ji15) 4294967295) (Go.bits .or .u64 (ji17) (ji20)) ((ji22) / 4294967296) (Go.bits .and .u64 (ji22) 4294967295) x15_3 x16_3 x78_24 = some (r1, r2)) ∧ Aside0 (kq ≤ k3) ∧ Drawn0 w wc)
                        case first =>
                          have H := HC25.out
                          clear HC25
                          by_cases c26 : x15_3 ≥ 4294967296
                          · rw [if_pos c26] at H
                            have c26b0 : decide (4294967296 ≤ x15_3) = true := decide_eq_true c26
                            clear c26
                            (first | rw [c26b0] | (simp only [i64_w, i32_w]; rw [c26b0]) | skip)
                            have H' := Aside0.mk H
                            clear H
                            go_wp2
                            repeat (go_quiet (fail); try go_wp2)
                            go_meet
                            case rel => exact ⟨_, (true), (by first | rfl | (simp; done) | (simp [*]; done)), H', ⟨by have := HJ3.out; have := HJ6.out; have := HK3.out; first | omega | exact Nat.le_refl _⟩, by repeat (first | exact Drawn0.refl _ | apply Drawn0.step)⟩
                          · rw [if_neg c26] at H
                            have c26b0 : decide (4294967296 ≤ x15_3) = false := decide_eq_false c26
                            clear c26
                            (first | rw [c26b0] | (simp only [i64_w, i32_w]; rw [c26b0]) | skip)
                            have H' := Aside0.mk H
                            clear H
                            go_wp2
                            repeat (go_quiet (fail); try go_wp2)
                            go_meet
                            case rel => exact ⟨_, (decide ((IntKind.u64.wrap (x15_3 * (Go.bits .and .u64 (ji15) 4294967295))) > (IntKind.u64.wrap ((IntKind.u64.wrap (4294967296 * x16_3)) + ((ji22) / 4294967296))))), (by first | rfl | (simp; done) | (simp only [← hji15, ← hji22] <;> (first | rfl | simp)) | (simp [*]; done)), H', ⟨by have := HJ3.out; have := HJ6.out; have := HK3.out; first | omega | exact Nat.le_refl _⟩, by repeat (first | exact Drawn0.refl _ | apply Drawn0.step)⟩
                        case rest =>
                          clear HC25
                          (try clear c1); (try clear c2); (try clear p2); (try clear c3); (try clear c5); (try clear c5b0); (try clear c5b1); (try clear c6); (try clear c6b0); (try clear c6b1); (try clear c8); (try clear c8b0); (try clear c9); (try clear c9b0); (try clear c9b1); (try clear c10); (try clear c10b0); (try clear c10b1); (try clear c11); (try clear c11b0); (try clear c11b1); (try clear c14); (try clear c14b0); (try clear c14b1); (try clear c16); (try clear c16b0); (try clear c19); (try clear c19b0); (try clear c19b1); (try clear c21); (try clear c21b0); (try clear c23); (try clear c23b0); (try clear c23b1); (try clear c26); (try clear c26b0); (try clear p2)
                          obtain ⟨kq, x78_24, rfl, HA, HJ24, ⟨mc24, rfl⟩⟩ := hcut
                          cases kq with
                          | zero => exact absurd HA.out (by simp [bits_Div64.j3])
                          | succ kj24 =>
                            have H := HA.out
                            clear HA
                            simp only [bits_Div64.j3] at H
                            by_cases c27 : x78_24 = true
                            · subst c27
                              have H1 : (if (IntKind.u64.wrap (x16_3 + ((ji15) / 4294967296))) ≥ 4294967296 then (bits_Div64.j4 kj24 ji15 ji13 ((ji15) / 4294967296) (Go.bits .and .u64 (ji15) 4294967295) (Go.bits .or .u64 (ji17) (ji20)) ((ji22) / 4294967296) (Go.bits .and .u64 (ji22) 4294967295) (IntKind.u64.wrap (x15_3 - 1))) else (bits_Div64.l0 kj24 ji15 ji13 ((ji15) / 4294967296) (Go.bits .and .u64 (ji15) 4294967295) (Go.bits .or .u64 (ji17) (ji20)) ((ji22) / 4294967296) (Go.bits .and .u64 (ji22) 4294967295) (IntKind.u64.wrap (x15_3 - 1)) (IntKind.u64.wrap (x16_3 + ((ji15) / 4294967296))))) = some (r1, r2) := by rw [if_pos rfl] at H; exact H
                              clear H
                              have H := H1
                              clear H1
                              by_cases c28 : (IntKind.u64.wrap (x16_3 + ((ji15) / 4294967296))) ≥ 4294967296
                              · rw [if_pos c28] at H
                                have c28b0 : decide (4294967296 ≤ (IntKind.u64.wrap (x16_3 + ((ji15) / 4294967296)))) = true := decide_eq_true c28
                                clear c28
                                have H' := Aside0.mk H
                                clear H
                                go_wp2
                                repeat (go_quiet (fail); try go_wp2)
                                go_meet
                                case rel => exact ⟨_, (IntKind.u64.wrap (x15_3 - 1)), (by first | rfl | (simp; done) | (simp [*]; done)), H', ⟨by have := HJ3.out; have := HJ6.out; have := HK3.out; have := HJ24.out; first | omega | exact Nat.le_refl _⟩, by repeat (first | exact Drawn0.refl _ | apply Drawn0.step)⟩
                              · rw [if_neg c28] at H
                                have c28b0 : decide (4294967296 ≤ (IntKind.u64.wrap (x16_3 + ((ji15) / 4294967296)))) = false := decide_eq_false c28
                                clear c28
                                have H' := Aside0.mk H
                                clear H
                                go_wp2
                                repeat (go_quiet (fail); try go_wp2)
                                go_roundg kj24
                                case measure => have := HJ3.out; have := HJ6.out; have := HK3.out; have := HJ24.out; omega
                                case rel => exact ⟨(IntKind.u64.wrap (x15_3 - 1)), (IntKind.u64.wrap (x16_3 + ((ji15) / 4294967296))), (by first | rfl | (simp; done) | (simp [*]; done)), (by first | rfl | (simp; done) | (simp only [← hji15] <;> (first | rfl | simp)) | (simp [*]; done)), H', ⟨by have := HJ3.out; have := HJ6.out; have := HK3.out; have := HJ24.out; omega⟩, by repeat (first | exact Drawn0.refl _ | apply Drawn0.step)⟩
                            · replace c27 := Bool.eq_false_iff.mpr c27
                              subst c27
                              have H1 : (bits_Div64.j4 kj24 ji15 ji13 ((ji15) / 4294967296) (Go.bits .and .u64 (ji15) 4294967295) (Go.bits .or .u64 (ji17) (ji20)) ((ji22) / 4294967296) (Go.bits .and .u64 (ji22) 4294967295) x15_3) = some (r1, r2) := by rw [if_neg (show ¬ (false = true) by decide)] at H; exact H
                              clear H
                              have H := H1
                              clear H1
                              have H' := Aside0.mk H
                              clear H
                              go_wp2
                              repeat (go_quiet (fail); try go_wp2)
                              go_meet
                              case rel => exact ⟨_, (x15_3), (by first | rfl | (simp; done) | (simp [*]; done)), H', ⟨by have := HJ3.out; have := HJ6.out; have := HK3.out; have := HJ24.out; first | omega | exact Nat.le_refl _⟩, by repeat (first | exact Drawn0.refl _ | apply Drawn0.step)⟩
                  case rest =>
                    clear HC24
                    (try clear c1); (try clear c2); (try clear p2); (try clear c3); (try clear c5); (try clear c5b0); (try clear c5b1); (try clear c6); (try clear c6b0); (try clear c6b1); (try clear c8); (try clear c8b0); (try clear c9); (try clear c9b0); (try clear c9b1); (try clear c10); (try clear c10b0); (try clear c10b1); (try clear c11); (try clear c11b0); (try clear c11b1); (try clear c14); (try clear c14b0); (try clear c14b1); (try clear c16); (try clear c16b0); (try clear c19); (try clear c19b0); (try clear c19b1); (try clear c21); (try clear c21b0); (try clear c23); (try clear c23b0); (try clear c23b1); (try clear c24); (try clear c26); (try clear c26b0); (try clear c27); (try clear c28); (try clear c28b0); (try clear p2)
                    obtain ⟨kq, x15_23, rfl, HA, HJ23, ⟨mc23, rfl⟩⟩ := hcut
                    cases kq with
                    | zero => exact absurd HA.out (by simp [bits_Div64.j4])
                    | succ kj23 =>
                      have H := HA.out
                      clear HA
                      simp only [bits_Div64.j4] at H
                      by_cases c29 : ((ji15) / 4294967296) = 0
                      · rw [if_pos c29] at H
                        exact absurd H (by simp)
                      · rw [if_neg c29] at H
                        have c29b0 : (((ji15) / 4294967296) == 0) = false := beq_eq_false_iff_ne.mpr c29
                        have c29b1 : (((ji15) / 4294967296) != 0) = true := bne_iff_ne.mpr c29
                        have H' := Aside0.mk H
                        clear H
                        go_wp2
                        repeat (go_quiet (fail); try go_wp2)
                        go_loopg [16, 18] kj23 (fun kq v16 v18 w' => ∃ (x16_4 : Int) (x18_4 : Int), v16 = .int .u64 x16_4 ∧ v18 = .int .u64 x18_4 ∧ Aside0 (bits_Div64.l1 kq ji15 ji13 ((ji15) / 4294967296) (Go.bits .and .u64 (ji15) 4294967295) (Go.bits .and .u64 (ji22) 4294967295) x15_23 x16_4 (IntKind.u64.wrap ((IntKind.u64.wrap ((IntKind.u64.wrap ((Go.bits .or .u64 (ji17) (ji20)) * 4294967296)) + ((ji22) / 4294967296))) - (IntKind.u64.wrap (x15_23 * ji15)))) x18_4 = some (r1, r2)) ∧ Aside0 (kq ≤ kj23) ∧ Drawn0 w w')
                        case atStart => exact ⟨(IntKind.u64.wrap ((IntKind.u64.wrap ((IntKind.u64.wrap ((IntKind.u64.wrap ((Go.bits .or .u64 (ji17) (ji20)) * 4294967296)) + ((ji22) / 4294967296))) - (IntKind.u64.wrap (x15_23 * ji15)))) - (IntKind.u64.wrap ((IntKind.u64.wrap (Int.tdiv (IntKind.u64.wrap ((IntKind.u64.wrap ((IntKind.u64.wrap ((Go.bits .or .u64 (ji17) (ji20)) * 4294967296)) + ((ji22) / 4294967296))) - (IntKind.u64.wrap (x15_23 * ji15)))) ((ji15) / 4294967296))) * ((ji15) / 4294967296))))), (IntKind.u64.wrap (Int.tdiv (IntKind.u64.wrap ((IntKind.u64.wrap ((IntKind.u64.wrap ((Go.bits .or .u64 (ji17) (ji20)) * 4294967296)) + ((ji22) / 4294967296))) - (IntKind.u64.wrap (x15_23 * ji15)))) ((ji15) / 4294967296))), (by first | rfl | (simp; done) | (simp only [← hji15, ← hji17, ← hji20, ← hji22] <;> (first | rfl | simp)) | (simp [*]; done)), (by first | rfl | (simp; done) | (simp only [← hji15, ← hji17, ← hji20, ← hji22] <;> (first | rfl | simp)) | (simp [*]; done)), H', ⟨Nat.le_refl _⟩, by repeat (first | exact Drawn0.refl _ | apply Drawn0.step)⟩
                        case round =>
                          clear H'
                          (try clear c1); (try clear c2); (try clear p2); (try clear c3); (try clear c5); (try clear c5b0); (try clear c5b1); (try clear c6); (try clear c6b0); (try clear c6b1); (try clear c8); (try clear c8b0); (try clear c9); (try clear c9b0); (try clear c9b1); (try clear c10); (try clear c10b0); (try clear c10b1); (try clear c11); (try clear c11b0); (try clear c11b1); (try clear c14); (try clear c14b0); (try clear c14b1); (try clear c16); (try clear c16b0); (try clear c19); (try clear c19b0); (try clear c19b1); (try clear c21); (try clear c21b0); (try clear c23); (try clear c23b0); (try clear c23b1); (try clear c24); (try clear c26); (try clear c26b0); (try clear c27); (try clear c28); (try clear c28b0); (try clear c29); (try clear c29b0); (try clear c29b1); (try clear p2)
                          obtain ⟨x16_4, x18_4, rfl, rfl, HA, HK4, ⟨m4, rfl⟩⟩ := hrel
                          cases gk with
                          | zero => exact absurd HA.out (by simp [bits_Div64.l1])
                          | succ k4 =>
                            have H := HA.out
                            clear HA
                            simp only [bits_Div64.l1] at H
                            have HC30 := Aside0.mk H
                            clear H
                            go_upto_region 24 with (fail)
                            repeat (go_quiet (fail); go_upto_region 24 with (fail))
                            go_cut [113] (fun v113 wc => ∃ (kq : Nat) (x113_29 : Bool), v113 = .bool x113_29 ∧ Aside0 (bits_Div64.j6 kq ji15 ji13 ((ji15) / 4294967296) (Go.bits .and .u64 (ji15) 4294967295) (Go.bits .and .u64 (ji22) 4294967295) x15_23 x16_4 (IntKind.u64.wrap ((IntKind.u64.wrap ((IntKind.u64.wrap ((Go.bits .or .u64 (ji17) (ji20)) * 4294967296)) + ((ji22) / 4294967296))) - (IntKind.u64.wrap (x15_23 * ji15)))) x18_4 x113_29 = some (r1, r2)) ∧ Aside0 (kq ≤ k4) ∧ Drawn0 w wc)
                            case first =>
                              have H := HC30.out
                              clear HC30
                              by_cases c31 : x18_4 ≥ 4294967296
                              · rw [if_pos c31] at H
                                have c31b0 : decide (4294967296 ≤ x18_4) = true := decide_eq_true c31
                                clear c31
                                (first | rw [c31b0] | (simp only [i64_w, i32_w]; rw [c31b0]) | skip)
                                have H' := Aside0.mk H
                                clear H
                                go_wp2
                                repeat (go_quiet (fail); try go_wp2)
                                go_meet
                                case rel => exact ⟨_, (true), (by first | rfl | (simp; done) | (simp [*]; done)), H', ⟨by have := HJ3.out; have := HJ6.out; have := HJ23.out; have := HK4.out; first | omega | exact Nat.le_refl _⟩, by repeat (first | exact Drawn0.refl _ | apply Drawn0.step)⟩
                              · rw [if_neg c31] at H
                                have c31b0 : decide (4294967296 ≤ x18_4) = false := decide_eq_false c31
                                clear c31
                                (first | rw [c31b0] | (simp only [i64_w, i32_w]; rw [c31b0]) | skip)
                                have H' := Aside0.mk H
                                clear H
                                go_wp2
                                repeat (go_quiet (fail); try go_wp2)
                                go_meet
                                case rel => exact ⟨_, (decide ((IntKind.u64.wrap (x18_4 * (Go.bits .and .u64 (ji15) 4294967295))) > (IntKind.u64.wrap ((IntKind.u64.wrap (4294967296 * x16_4)) + (Go.bits .and .u64 (ji22) 4294967295))))), (by first | rfl | (simp; done) | (simp only [← hji15, ← hji22] <;> (first | rfl | simp)) | (simp [*]; done)), H', ⟨by have := HJ3.out; have := HJ6.out; have := HJ23.out; have := HK4.out; first | omega | exact Nat.le_refl _⟩, by repeat (first | exact Drawn0.refl _ | apply Drawn0.step)⟩
                            case rest =>
                              clear HC30
                              (try clear c1); (try clear c2); (try clear p2); (try clear c3); (try clear c5); (try clear c5b0); (try clear c5b1); (try clear c6); (try clear c6b0); (try clear c6b1); (try clear c8); (try clear c8b0); (try clear c9); (try clear c9b0); (try clear c9b1); (try clear c10); (try clear c10b0); (try clear c10b1); (try clear c11); (try clear c11b0); (try clear c11b1); (try clear c14); (try clear c14b0); (try clear c14b1); (try clear c16); (try clear c16b0); (try clear c19); (try clear c19b0); (try clear c19b1); (try clear c21); (try clear c21b0); (try clear c23); (try clear c23b0); (try clear c23b1); (try clear c24); (try clear c26); (try clear c26b0); (try clear c27); (try clear c28); (try clear c28b0); (try clear c29); (try clear c29b0); (try clear c29b1); (try clear c31); (try clear c31b0); (try clear p2)
                              obtain ⟨kq, x113_29, rfl, HA, HJ29, ⟨mc29, rfl⟩⟩ := hcut
                              cases kq with
                              | zero => exact absurd HA.out (by simp [bits_Div64.j6])
                              | succ kj29 =>
                                have H := HA.out
                                clear HA
                                simp only [bits_Div64.j6] at H
                                by_cases c32 : x113_29 = true
                                · subst c32
                                  have H1 : (if (IntKind.u64.wrap (x16_4 + ((ji15) / 4294967296))) ≥ 4294967296 then (if 0 ≤ ji13 then (some (IntKind.u64.wrap ((IntKind.u64.wrap (x15_23 * 4294967296)) + (IntKind.u64.wrap (x18_4 - 1))), shr .u64 (IntKind.u64.wrap ((IntKind.u64.wrap ((IntKind.u64.wrap ((IntKind.u64.wrap ((IntKind.u64.wrap ((IntKind.u64.wrap ((Go.bits .or .u64 (ji17) (ji20)) * 4294967296)) + ((ji22) / 4294967296))) - (IntKind.u64.wrap (x15_23 * ji15)))) * 4294967296)) + (Go.bits .and .u64 (ji22) 4294967295))) - (IntKind.u64.wrap ((IntKind.u64.wrap (x18_4 - 1)) * ji15)))) ji13)) else (none)) else (bits_Div64.l1 kj29 ji15 ji13 ((ji15) / 4294967296) (Go.bits .and .u64 (ji15) 4294967295) (Go.bits .and .u64 (ji22) 4294967295) x15_23 (IntKind.u64.wrap (x16_4 + ((ji15) / 4294967296))) (IntKind.u64.wrap ((IntKind.u64.wrap ((IntKind.u64.wrap ((Go.bits .or .u64 (ji17) (ji20)) * 4294967296)) + ((ji22) / 4294967296))) - (IntKind.u64.wrap (x15_23 * ji15)))) (IntKind.u64.wrap (x18_4 - 1)))) = some (r1, r2) := by rw [if_pos rfl] at H; exact H
                                  clear H
                                  have H := H1
                                  clear H1
                                  by_cases c33 : (IntKind.u64.wrap (x16_4 + ((ji15) / 4294967296))) ≥ 4294967296
                                  · rw [if_pos c33] at H
                                    have c33b0 : decide (4294967296 ≤ (IntKind.u64.wrap (x16_4 + ((ji15) / 4294967296)))) = true := decide_eq_true c33
                                    clear c33
                                    by_cases c34 : 0 ≤ ji13
                                    · rw [if_pos c34] at H
                                      have c34b0 := eq_true c34
                                      have c34b1 : decide (0 ≤ ji13) = true := decide_eq_true c34
                                      clear c34
                                      obtain ⟨ji35, hji35⟩ : ∃ j_ : Int, (shr .u64 (IntKind.u64.wrap ((IntKind.u64.wrap ((IntKind.u64.wrap ((IntKind.u64.wrap ((IntKind.u64.wrap ((IntKind.u64.wrap ((Go.bits .or .u64 (ji17) (ji20)) * 4294967296)) + ((ji22) / 4294967296))) - (IntKind.u64.wrap (x15_23 * ji15)))) * 4294967296)) + (Go.bits .and .u64 (ji22) 4294967295))) - (IntKind.u64.wrap ((IntKind.u64.wrap (x18_4 - 1)) * ji15)))) ji13) = j_ := ⟨_, rfl⟩
                                      replace H : (some (IntKind.u64.wrap ((IntKind.u64.wrap (x15_23 * 4294967296)) + (IntKind.u64.wrap (x18_4 - 1))), ji35)) = some (r1, r2) := by first | (rw [hji35] at H; exact H) | (simp only [hji35] at H ⊢; exact H)
                                      have hji35_ : ((IntKind.u64.wrap ((IntKind.u64.wrap ((IntKind.u64.wrap ((IntKind.u64.wrap ((IntKind.u64.wrap ((IntKind.u64.wrap ((Go.bits .or .u64 (ji17) (ji20)) * 4294967296)) + ((ji22) / 4294967296))) - (IntKind.u64.wrap (x15_23 * ji15)))) * 4294967296)) + (Go.bits .and .u64 (ji22) 4294967295))) - (IntKind.u64.wrap ((IntKind.u64.wrap (x18_4 - 1)) * ji15)))) / 2 ^ min ji13.toNat 64) = ji35 := hji35
                                      have hji35z : ji13 ≤ 64 → ((IntKind.u64.wrap ((IntKind.u64.wrap ((IntKind.u64.wrap ((IntKind.u64.wrap ((IntKind.u64.wrap ((IntKind.u64.wrap ((Go.bits .or .u64 (ji17) (ji20)) * 4294967296)) + ((ji22) / 4294967296))) - (IntKind.u64.wrap (x15_23 * ji15)))) * 4294967296)) + (Go.bits .and .u64 (ji22) 4294967295))) - (IntKind.u64.wrap ((IntKind.u64.wrap (x18_4 - 1)) * ji15)))) / 2 ^ ji13.toNat) = ji35 := shr_small hji35
                                      simp only [Option.some.injEq, Prod.mk.injEq] at H
                                      obtain ⟨rfl, rfl⟩ := H
                                      go_wp2
                                      repeat (go_quiet (fail); try go_wp2)
                                      go_ret2
                                      exact ⟨by first | rfl | (simp; done) | (simp only [← hji13, ← hji15, ← hji17, ← hji18, ← hji20, ← hji22, ← hji35] <;> (first | rfl | simp)) | (simp [*]; done), by repeat (first | exact Drawn0.refl _ | apply Drawn0.step)⟩
                                    · rw [if_neg c34] at H
                                      exact absurd H (by simp)
                                  · rw [if_neg c33] at H
                                    have c33b0 : decide (4294967296 ≤ (IntKind.u64.wrap (x16_4 + ((ji15) / 4294967296)))) = false := decide_eq_false c33
                                    clear c33
                                    have H' := Aside0.mk H
                                    clear H
                                    go_wp2
                                    repeat (go_quiet (fail); try go_wp2)
                                    go_roundg kj29
                                    case measure => have := HJ3.out; have := HJ6.out; have := HJ23.out; have := HK4.out; have := HJ29.out; omega
                                    case rel => exact ⟨(IntKind.u64.wrap (x16_4 + ((ji15) / 4294967296))), (IntKind.u64.wrap (x18_4 - 1)), (by first | rfl | (simp; done) | (simp only [← hji15] <;> (first | rfl | simp)) | (simp [*]; done)), (by first | rfl | (simp; done) | (simp [*]; done)), H', ⟨by have := HJ3.out; have := HJ6.out; have := HJ23.out; have := HK4.out; have := HJ29.out; omega⟩, by repeat (first | exact Drawn0.refl _ | apply Drawn0.step)⟩
                                · replace c32 := Bool.eq_false_iff.mpr c32
                                  subst c32
                                  have H1 : (if 0 ≤ ji13 then (some (IntKind.u64.wrap ((IntKind.u64.wrap (x15_23 * 4294967296)) + x18_4), shr .u64 (IntKind.u64.wrap ((IntKind.u64.wrap ((IntKind.u64.wrap ((IntKind.u64.wrap ((IntKind.u64.wrap ((IntKind.u64.wrap ((Go.bits .or .u64 (ji17) (ji20)) * 4294967296)) + ((ji22) / 4294967296))) - (IntKind.u64.wrap (x15_23 * ji15)))) * 4294967296)) + (Go.bits .and .u64 (ji22) 4294967295))) - (IntKind.u64.wrap (x18_4 * ji15)))) ji13)) else (none)) = some (r1, r2) := by rw [if_neg (show ¬ (false = true) by decide)] at H; exact H
                                  clear H
                                  have H := H1
                                  clear H1
                                  by_cases c36 : 0 ≤ ji13
                                  · rw [if_pos c36] at H
                                    have c36b0 := eq_true c36
                                    have c36b1 : decide (0 ≤ ji13) = true := decide_eq_true c36
                                    clear c36
                                    obtain ⟨ji37, hji37⟩ : ∃ j_ : Int, (shr .u64 (IntKind.u64.wrap ((IntKind.u64.wrap ((IntKind.u64.wrap ((IntKind.u64.wrap ((IntKind.u64.wrap ((IntKind.u64.wrap ((Go.bits .or .u64 (ji17) (ji20)) * 4294967296)) + ((ji22) / 4294967296))) - (IntKind.u64.wrap (x15_23 * ji15)))) * 4294967296)) + (Go.bits .and .u64 (ji22) 4294967295))) - (IntKind.u64.wrap (x18_4 * ji15)))) ji13) = j_ := ⟨_, rfl⟩
                                    replace H : (some (IntKind.u64.wrap ((IntKind.u64.wrap (x15_23 * 4294967296)) + x18_4), ji37)) = some (r1, r2) := by first | (rw [hji37] at H; exact H) | (simp only [hji37] at H ⊢; exact H)
                                    have hji37_ : ((IntKind.u64.wrap ((IntKind.u64.wrap ((IntKind.u64.wrap ((IntKind.u64.wrap ((IntKind.u64.wrap ((IntKind.u64.wrap ((Go.bits .or .u64 (ji17) (ji20)) * 4294967296)) + ((ji22) / 4294967296))) - (IntKind.u64.wrap (x15_23 * ji15)))) * 4294967296)) + (Go.bits .and .u64 (ji22) 4294967295))) - (IntKind.u64.wrap (x18_4 * ji15)))) / 2 ^ min ji13.toNat 64) = ji37 := hji37
                                    have hji37z : ji13 ≤ 64 → ((IntKind.u64.wrap ((IntKind.u64.wrap ((IntKind.u64.wrap ((IntKind.u64.wrap ((IntKind.u64.wrap ((IntKind.u64.wrap ((Go.bits .or .u64 (ji17) (ji20)) * 4294967296)) + ((ji22) / 4294967296))) - (IntKind.u64.wrap (x15_23 * ji15)))) * 4294967296)) + (Go.bits .and .u64 (ji22) 4294967295))) - (IntKind.u64.wrap (x18_4 * ji15)))) / 2 ^ ji13.toNat) = ji37 := shr_small hji37
                                    simp only [Option.some.injEq, Prod.mk.injEq] at H
                                    obtain ⟨rfl, rfl⟩ := H
                                    go_wp2
                                    repeat (go_quiet (fail); try go_wp2)
                                    go_ret2
                                    exact ⟨by first | rfl | (simp; done) | (simp only [← hji13, ← hji15, ← hji17, ← hji18, ← hji20, ← hji22, ← hji37] <;> (first | rfl | simp)) | (simp [*]; done), by repeat (first | exact Drawn0.refl _ | apply Drawn0.step)⟩
                                  · rw [if_neg c36] at H
                                    exact absurd H (by simp)
              · rw [if_neg c19] at H
                exact absurd H (by simp)
            · rw [if_neg c14] at H
              exact absurd H (by simp)

/-! ### bits_Mul64: function 108 -/
def bits_Mul64.f (a0 : Int) (a1 : Int) : Option (Int × Int) := some (IntKind.u64.wrap ((IntKind.u64.wrap ((IntKind.u64.wrap ((a0 / 4294967296) * (a1 / 4294967296))) + ((IntKind.u64.wrap ((IntKind.u64.wrap ((a0 / 4294967296) * (Go.bits .and .u64 a1 4294967295))) + ((IntKind.u64.wrap ((Go.bits .and .u64 a0 4294967295) * (Go.bits .and .u64 a1 4294967295))) / 4294967296))) / 4294967296))) + ((IntKind.u64.wrap ((Go.bits .and .u64 (IntKind.u64.wrap ((IntKind.u64.wrap ((a0 / 4294967296) * (Go.bits .and .u64 a1 4294967295))) + ((IntKind.u64.wrap ((Go.bits .and .u64 a0 4294967295) * (Go.bits .and .u64 a1 4294967295))) / 4294967296))) 4294967295) + (IntKind.u64.wrap ((Go.bits .and .u64 a0 4294967295) * (a1 / 4294967296))))) / 4294967296)), IntKind.u64.wrap (a0 * a1))
set_option maxHeartbeats 8000000 in
set_option maxRecDepth 100000 in
theorem bits_Mul64.calls (a0 : Int) (a1 : Int) (r1 : Int) (r2 : Int) (w : World) (h : bits_Mul64.f a0 a1 = some (r1, r2)) :
    Calls Try.prog 108 #[.int .u64 a0, .int .u64 a1] w fun e w' => e = .returned (.tuple #[.int .u64 r1, .int .u64 r2]) ∧ Drawn0 w w' := by
  have H : (some (IntKind.u64.wrap ((IntKind.u64.wrap ((IntKind.u64.wrap ((a0 / 4294967296) * (a1 / 4294967296))) + ((IntKind.u64.wrap ((IntKind.u64.wrap ((a0 / 4294967296) * (Go.bits .and .u64 a1 4294967295))) + ((IntKind.u64.wrap ((Go.bits .and .u64 a0 4294967295) * (Go.bits .and .u64 a1 4294967295))) / 4294967296))) / 4294967296))) + ((IntKind.u64.wrap ((Go.bits .and .u64 (IntKind.u64.wrap ((IntKind.u64.wrap ((a0 / 4294967296) * (Go.bits .and .u64 a1 4294967295))) + ((IntKind.u64.wrap ((Go.bits .and .u64 a0 4294967295) * (Go.bits .and .u64 a1 4294967295))) / 4294967296))) 4294967295) + (IntKind.u64.wrap ((Go.bits .and .u64 a0 4294967295) * (a1 / 4294967296))))) / 4294967296)), IntKind.u64.wrap (a0 * a1))) = some (r1, r2) := h
  clear h
  simp only [Option.some.injEq, Prod.mk.injEq] at H
  obtain ⟨rfl, rfl⟩ := H
  go_enter Try.func108, Try.ntmps108
  go_wp2
  go_ret2
  exact ⟨by first | rfl | (simp; done) | (simp [*]; done), by repeat (first | exact Drawn0.refl _ | apply Drawn0.step)⟩

end Go.Proofs.Ytmfdhcgdibefiaa.A

/- math/bits.Div64, plain: the quotient of a number of two words (long division with 32-bit digits). -/
namespace Go.Proofs.Ytmfdhcgdibefiaa.L
open Go.RowKit Go.Proofs.Ytmfdhcgdibefiaa.Q Go.Proofs.Ytmfdhcgdibefiaa.A Go.Proofs.YtmfdhcgdibefiaaW.PrintWords Go.Proofs.YtmfdhcgdibefiaaW.PrintLast Go.Proofs.YtmfdhcgdibefiaaW.PrintMore Go.Proofs.YtmfdhcgdibefiaaW.Lib
set_option linter.unusedVariables false
set_option linter.unusedSimpArgs false
theorem wrapU_id {x : Int} (h0 : 0 ≤ x) (h1 : x < 18446744073709551616) : IntKind.u64.wrap x = x := by
  simp only [IntKind.wrap, IntKind.signed, IntKind.bits]
  simp
  omega
theorem wrapU_mod (x : Int) : IntKind.u64.wrap x = x % 18446744073709551616 := by
  simp [IntKind.wrap, IntKind.signed, IntKind.bits]
/-- A digit guessed: too great just where the test says so. -/
theorem digit_test {Y y1 y0 u n q r Q : Int} (hY : Y = y1 * 4294967296 + y0) (hu : u = q * y1 + r) (hQ0 : Q * Y ≤ u * 4294967296 + n) (hQ1 : u * 4294967296 + n < (Q + 1) * Y) (hy : 0 < Y) :
    (4294967296 * r + n < q * y0 → Q < q) ∧ (q * y0 ≤ 4294967296 * r + n → q ≤ Q) := by
  have e : q * Y = (u - r) * 4294967296 + q * y0 := by
    rw [hY, Int.mul_add, ← Int.mul_assoc, show q * y1 = u - r by omega]
  constructor
  · intro h
    refine Int.not_le.1 fun hle => ?_
    have := Int.mul_le_mul_of_nonneg_right hle (Int.le_of_lt hy)
    omega
  · intro h
    refine Int.lt_add_one_iff.1 ?_
    refine Int.lt_of_mul_lt_mul_right (a := Y) ?_ (Int.le_of_lt hy)
    omega
theorem div_bounds {a Y : Int} (hy : 0 < Y) : a / Y * Y ≤ a ∧ a < (a / Y + 1) * Y := by
  have h1 := Int.mul_ediv_add_emod a Y
  have h2 := Int.emod_nonneg a (by omega : Y ≠ 0)
  have h3 := Int.emod_lt_of_pos a hy
  rw [Int.mul_comm] at h1
  rw [Int.add_mul]
  constructor <;> omega
theorem quo_unique {a Y q : Int} (hy : 0 < Y) (h0 : q * Y ≤ a) (h1 : a < (q + 1) * Y) : a / Y = q := by
  obtain ⟨g0, g1⟩ := div_bounds (a := a) hy
  have a1 : a / Y < q + 1 := Int.lt_of_mul_lt_mul_right (a := Y) (by omega) (Int.le_of_lt hy)
  have a2 : q < a / Y + 1 := Int.lt_of_mul_lt_mul_right (a := Y) (by omega) (Int.le_of_lt hy)
  omega
/-- What a round of the search starts from. -/
structure DigI (Y y1 y0 u n q r : Int) : Prop where
  Y_is : Y = y1 * 4294967296 + y0
  y1_lo : 2147483648 ≤ y1
  y1_hi : y1 < 4294967296
  y0_lo : 0 ≤ y0
  y0_hi : y0 < 4294967296
  n_lo : 0 ≤ n
  n_hi : n < 4294967296
  u_lo : 0 ≤ u
  u_hi : u < Y
  u_is : u = q * y1 + r
  r_lo : 0 ≤ r
  r_hi : r < 4294967296
  q_hi : q ≤ 4294967297
  q_lo : (u * 4294967296 + n) / Y ≤ q
theorem DigI.Y_pos {Y y1 y0 u n q r : Int} (h : DigI Y y1 y0 u n q r) : 0 < Y := by have := h.Y_is; have := h.y1_lo; have := h.y0_lo; omega
theorem DigI.quo {Y y1 y0 u n q r : Int} (h : DigI Y y1 y0 u n q r) : 0 ≤ (u * 4294967296 + n) / Y ∧ (u * 4294967296 + n) / Y < 4294967296 := by
  have hy := h.Y_pos
  have h1 := h.u_lo; have h2 := h.u_hi; have h3 := h.n_lo; have h4 := h.n_hi
  refine ⟨Int.ediv_nonneg (by omega) (Int.le_of_lt hy), Int.ediv_lt_of_lt_mul hy ?_⟩
  omega
/-- The test: is the digit too great? -/
def tooBig (y0 n q r : Int) : Bool := if q ≥ 4294967296 then true else decide (IntKind.u64.wrap (q * y0) > IntKind.u64.wrap (IntKind.u64.wrap (4294967296 * r) + n))
theorem DigI.test {Y y1 y0 u n q r : Int} (h : DigI Y y1 y0 u n q r) : tooBig y0 n q r = true ↔ (u * 4294967296 + n) / Y < q := by
  have hy := h.Y_pos
  obtain ⟨b0, b1⟩ := div_bounds (a := u * 4294967296 + n) hy
  have ht := digit_test h.Y_is h.u_is b0 b1 hy
  have hq := h.quo
  have hq0 := h.q_lo
  have r0 := h.r_lo; have r1 := h.r_hi; have n0 := h.n_lo; have n1 := h.n_hi
  unfold tooBig
  by_cases c : q ≥ 4294967296
  · rw [if_pos c]
    exact ⟨fun _ => by omega, fun _ => rfl⟩
  · rw [if_neg c]
    have p0 : 0 ≤ q * y0 := Int.mul_nonneg (by omega) h.y0_lo
    have p1 : q * y0 < 18446744073709551616 := by
      have a1 : q * y0 ≤ 4294967295 * y0 := Int.mul_le_mul_of_nonneg_right (by omega) h.y0_lo
      have := h.y0_hi; omega
    rw [wrapU_id p0 p1, wrapU_id (x := 4294967296 * r) (by omega) (by omega), wrapU_id (x := 4294967296 * r + n) (by omega) (by omega), decide_eq_true_iff]
    constructor
    · intro hg; exact ht.1 hg
    · intro hl
      refine Int.not_le.1 fun hle => ?_
      have := ht.2 hle
      omega
theorem DigI.next {Y y1 y0 u n q r : Int} (h : DigI Y y1 y0 u n q r) (hl : (u * 4294967296 + n) / Y < q) (hr : r + y1 < 4294967296) : DigI Y y1 y0 u n (q - 1) (r + y1) :=
  { h with u_is := by rw [Int.sub_mul, h.u_is]; omega, r_lo := by have := h.r_lo; have := h.y1_lo; omega, r_hi := hr, q_hi := by have := h.q_hi; omega, q_lo := by omega }
theorem DigI.last {Y y1 y0 u n q r : Int} (h : DigI Y y1 y0 u n q r) (hl : (u * 4294967296 + n) / Y < q) (hr : 4294967296 ≤ r + y1) : (u * 4294967296 + n) / Y = q - 1 := by
  have hy := h.Y_pos
  obtain ⟨b0, b1⟩ := div_bounds (a := u * 4294967296 + n) hy
  have hu : u = (q - 1) * y1 + (r + y1) := by rw [Int.sub_mul, h.u_is]; omega
  have ht := digit_test h.Y_is hu b0 b1 hy
  have hq := h.quo
  have p1 : (q - 1) * y0 ≤ 4294967296 * y0 := Int.mul_le_mul_of_nonneg_right (by have := h.q_hi; omega) h.y0_lo
  have := ht.2 (by have := h.y0_hi; have := h.n_lo; omega)
  omega
theorem DigI.first {Y y1 y0 u n : Int} (hY : Y = y1 * 4294967296 + y0) (a : 2147483648 ≤ y1) (b : y1 < 4294967296) (c : 0 ≤ y0) (d : y0 < 4294967296) (e : 0 ≤ n) (f : n < 4294967296) (g : 0 ≤ u) (i : u < Y) : DigI Y y1 y0 u n (u / y1) (u - u / y1 * y1) := by
  have h1 := Int.mul_ediv_add_emod u y1
  have h2 := Int.emod_nonneg u (by omega : y1 ≠ 0)
  have h3 := Int.emod_lt_of_pos u (by omega : 0 < y1)
  have hq : u / y1 ≤ 4294967297 := by
    refine Int.lt_add_one_iff.1 (Int.ediv_lt_of_lt_mul (by omega) ?_)
    omega
  refine ⟨hY, a, b, c, d, e, f, g, i, by omega, by rw [Int.mul_comm] at h1; omega, by rw [Int.mul_comm] at h1; omega, hq, ?_⟩
  have hy : 0 < Y := by omega
  obtain ⟨b0, b1⟩ := div_bounds (a := u * 4294967296 + n) hy
  obtain ⟨c0, c1⟩ := div_bounds (a := u) (Y := y1) (by omega)
  refine Int.lt_add_one_iff.1 (Int.lt_of_mul_lt_mul_right (a := Y) ?_ (Int.le_of_lt hy))
  have e1 : (u / y1 + 1) * Y = (u / y1 + 1) * y1 * 4294967296 + (u / y1 + 1) * y0 := by rw [hY, Int.mul_add, ← Int.mul_assoc]
  have e2 : 0 ≤ (u / y1 + 1) * y0 := Int.mul_nonneg (by have := Int.ediv_nonneg g (by omega : 0 ≤ y1); omega) c
  omega
end Go.Proofs.Ytmfdhcgdibefiaa.L

/- math/bits.Div64's and Mul64's answers. -/
namespace Go.Proofs.Ytmfdhcgdibefiaa.L
open Go.RowKit Go.Proofs.Ytmfdhcgdibefiaa.Q Go.Proofs.Ytmfdhcgdibefiaa.A Go.Proofs.YtmfdhcgdibefiaaW.PrintWords Go.Proofs.YtmfdhcgdibefiaaW.PrintLast Go.Proofs.YtmfdhcgdibefiaaW.PrintMore Go.Proofs.YtmfdhcgdibefiaaW.Lib
set_option linter.unusedVariables false
set_option linter.unusedSimpArgs false
theorem ite_arg {α β : Type} {c : Prop} [Decidable c] (f : β → α) (a b : β) : (if c then f a else f b) = f (if c then a else b) := by split <;> rfl
theorem l0_ev {Y y1 y0 u n m s : Int} {v : Int × Int} (hv : Ev (fun k => bits_Div64.j4 k Y s y1 y0 u n m ((u * 4294967296 + n) / Y)) v) : ∀ (d : Nat) (q r : Int), DigI Y y1 y0 u n q r → (q - (u * 4294967296 + n) / Y).toNat ≤ d → Ev (fun k => bits_Div64.l0 k Y s y1 y0 u n m q r) v := by
  intro d
  induction d with
  | zero =>
    intro q r h hd
    have hq := h.q_lo
    have e : q = (u * 4294967296 + n) / Y := by omega
    refine Ev.succ ?_
    simp only [bits_Div64.l0]
    rw [show (fun k => if q ≥ 4294967296 then bits_Div64.j3 k Y s y1 y0 u n m q r true else bits_Div64.j3 k Y s y1 y0 u n m q r (decide (IntKind.u64.wrap (q * y0) > IntKind.u64.wrap (IntKind.u64.wrap (4294967296 * r) + n)))) = fun k => bits_Div64.j3 k Y s y1 y0 u n m q r (tooBig y0 n q r) from funext fun k => ite_arg _ _ _]
    have ht : tooBig y0 n q r = false := by
      cases hb : tooBig y0 n q r with
      | false => rfl
      | true => have := h.test.1 hb; omega
    rw [ht]
    refine Ev.succ ?_
    simp only [bits_Div64.j3]
    refine Ev.neg (by decide) ?_
    rw [e]; exact hv
  | succ d ih =>
    intro q r h hd
    refine Ev.succ ?_
    simp only [bits_Div64.l0]
    rw [show (fun k => if q ≥ 4294967296 then bits_Div64.j3 k Y s y1 y0 u n m q r true else bits_Div64.j3 k Y s y1 y0 u n m q r (decide (IntKind.u64.wrap (q * y0) > IntKind.u64.wrap (IntKind.u64.wrap (4294967296 * r) + n)))) = fun k => bits_Div64.j3 k Y s y1 y0 u n m q r (tooBig y0 n q r) from funext fun k => ite_arg _ _ _]
    have hq := h.quo
    have hql := h.q_lo
    have hqh := h.q_hi
    have r0 := h.r_lo; have r1 := h.r_hi; have a0 := h.y1_lo; have a1 := h.y1_hi
    cases hb : tooBig y0 n q r with
    | false =>
      have hn : ¬ ((u * 4294967296 + n) / Y < q) := fun hl => (Bool.false_ne_true (hb.symm.trans (h.test.2 hl)))
      have e : q = (u * 4294967296 + n) / Y := by omega
      refine Ev.succ ?_
      simp only [bits_Div64.j3]
      refine Ev.neg (by decide) ?_
      rw [e]; exact hv
    | true =>
      have hl := h.test.1 hb
      refine Ev.succ ?_
      simp only [bits_Div64.j3]
      refine Ev.pos (by first | rfl | trivial) ?_
      rw [wrapU_id (x := r + y1) (by omega) (by omega), wrapU_id (x := q - 1) (by omega) (by omega)]
      by_cases c : r + y1 ≥ 4294967296
      · refine Ev.pos c ?_
        rw [← h.last hl c]; exact hv
      · refine Ev.neg c ?_
        exact ih (q - 1) (r + y1) (h.next hl (by omega)) (by omega)
theorem l1_ev {Y y1 y0 u n s p V : Int} (hs : 0 ≤ s) (hp : 0 ≤ p ∧ p < 4294967296) : ∀ (d : Nat) (q r : Int), DigI Y y1 y0 u n q r → (q - (u * 4294967296 + n) / Y).toNat ≤ d → ∃ z, Ev (fun k => bits_Div64.l1 k Y s y1 y0 n p r V q) (p * 4294967296 + (u * 4294967296 + n) / Y, z) := by
  intro d
  induction d with
  | zero =>
    intro q r h hd
    have hq := h.q_lo
    have hqq := h.quo
    have e : q = (u * 4294967296 + n) / Y := by omega
    have ht : tooBig y0 n q r = false := by
      cases hb : tooBig y0 n q r with
      | false => rfl
      | true => have := h.test.1 hb; omega
    refine ⟨?_, Ev.succ ?_⟩
    rotate_left
    · simp only [bits_Div64.l1]
      rw [show (fun k => if q ≥ 4294967296 then bits_Div64.j6 k Y s y1 y0 n p r V q true else bits_Div64.j6 k Y s y1 y0 n p r V q (decide (IntKind.u64.wrap (q * y0) > IntKind.u64.wrap (IntKind.u64.wrap (4294967296 * r) + n)))) = fun k => bits_Div64.j6 k Y s y1 y0 n p r V q (tooBig y0 n q r) from funext fun k => ite_arg _ _ _]
      rw [ht]
      refine Ev.succ ?_
      simp only [bits_Div64.j6]
      refine Ev.neg (by decide) (Ev.pos hs ?_)
      rw [wrapU_id (x := p * 4294967296) (by omega) (by omega), wrapU_id (x := p * 4294967296 + q) (by omega) (by omega), ← e]
      exact Ev.now _
  | succ d ih =>
    intro q r h hd
    have hq := h.quo
    have hql := h.q_lo
    have hqh := h.q_hi
    have r0 := h.r_lo; have r1 := h.r_hi; have a0 := h.y1_lo; have a1 := h.y1_hi
    have hpre : ∀ v, Ev (fun k => bits_Div64.j6 k Y s y1 y0 n p r V q (tooBig y0 n q r)) v → Ev (fun k => bits_Div64.l1 k Y s y1 y0 n p r V q) v := by
      intro v hv
      refine Ev.succ ?_
      simp only [bits_Div64.l1]
      rw [show (fun k => if q ≥ 4294967296 then bits_Div64.j6 k Y s y1 y0 n p r V q true else bits_Div64.j6 k Y s y1 y0 n p r V q (decide (IntKind.u64.wrap (q * y0) > IntKind.u64.wrap (IntKind.u64.wrap (4294967296 * r) + n)))) = fun k => bits_Div64.j6 k Y s y1 y0 n p r V q (tooBig y0 n q r) from funext fun k => ite_arg _ _ _]
      exact hv
    cases hb : tooBig y0 n q r with
    | false =>
      have hn : ¬ ((u * 4294967296 + n) / Y < q) := fun hl => (Bool.false_ne_true (hb.symm.trans (h.test.2 hl)))
      have e : q = (u * 4294967296 + n) / Y := by omega
      refine ⟨?_, hpre _ ?_⟩
      rotate_left
      · rw [hb]
        refine Ev.succ ?_
        simp only [bits_Div64.j6]
        refine Ev.neg (by decide) (Ev.pos hs ?_)
        rw [wrapU_id (x := p * 4294967296) (by omega) (by omega), wrapU_id (x := p * 4294967296 + q) (by omega) (by omega), ← e]
        exact Ev.now _
    | true =>
      have hl := h.test.1 hb
      by_cases c : r + y1 ≥ 4294967296
      · have e := h.last hl c
        refine ⟨?_, hpre _ ?_⟩
        rotate_left
        · rw [hb]
          refine Ev.succ ?_
          simp only [bits_Div64.j6]
          refine Ev.pos (by first | rfl | trivial) ?_
          rw [wrapU_id (x := r + y1) (by omega) (by omega), wrapU_id (x := q - 1) (by omega) (by omega)]
          refine Ev.pos c (Ev.pos hs ?_)
          rw [wrapU_id (x := p * 4294967296) (by omega) (by omega), wrapU_id (x := p * 4294967296 + (q - 1)) (by omega) (by omega), ← e]
          exact Ev.now _
      · obtain ⟨z, hz⟩ := ih (q - 1) (r + y1) (h.next hl (by omega)) (by omega)
        refine ⟨z, hpre _ ?_⟩
        rw [hb]
        refine Ev.succ ?_
        simp only [bits_Div64.j6]
        refine Ev.pos (by first | rfl | trivial) ?_
        rw [wrapU_id (x := r + y1) (by omega) (by omega), wrapU_id (x := q - 1) (by omega) (by omega)]
        exact Ev.neg c hz
theorem tdiv_pos {a b : Int} (h0 : 0 ≤ a) : Int.tdiv a b = a / b := Int.tdiv_eq_ediv_of_nonneg h0
/-- The second digit, behind the first. -/
theorem j4_ev {Y y1 y0 u n m s : Int} (hY : Y = y1 * 4294967296 + y0) (a : 2147483648 ≤ y1) (b : y1 < 4294967296) (c : 0 ≤ y0) (d : y0 < 4294967296) (e : 0 ≤ n) (f : n < 4294967296) (e' : 0 ≤ m) (f' : m < 4294967296) (g : 0 ≤ u) (i : u < Y) (hs : 0 ≤ s) :
    ∃ z, Ev (fun k => bits_Div64.j4 k Y s y1 y0 u n m ((u * 4294967296 + n) / Y)) (((u * 4294967296 + n) * 4294967296 + m) / Y, z) := by
  have hD := DigI.first hY a b c d e f g i
  have hq := hD.quo
  have hy := hD.Y_pos
  have h1 := Int.mul_ediv_add_emod (u * 4294967296 + n) Y
  have h2 := Int.emod_nonneg (u * 4294967296 + n) (by omega : Y ≠ 0)
  have h3 := Int.emod_lt_of_pos (u * 4294967296 + n) hy
  rw [Int.mul_comm] at h1
  generalize hQ : (u * 4294967296 + n) / Y = Q at *
  generalize hV : (u * 4294967296 + n) % Y = V at *
  have hV' : IntKind.u64.wrap (IntKind.u64.wrap (IntKind.u64.wrap (u * 4294967296) + n) - IntKind.u64.wrap (Q * Y)) = V := by
    simp only [wrapU_mod]
    generalize Q * Y = t at h1
    omega
  have hD2 := DigI.first (u := V) (n := m) hY a b c d e' f' h2 h3
  have hq2 := hD2.quo
  obtain ⟨z, hz⟩ := l1_ev (s := s) (p := Q) (V := V) hs hq _ _ _ hD2 (Nat.le_refl _)
  have hv0 : 0 ≤ V / y1 := Int.ediv_nonneg h2 (by omega)
  have hv1 := hD2.q_hi
  have hv2 := hD2.r_lo
  have hv3 := hD2.r_hi
  have hv4 : V / y1 * y1 < 18446744073709551616 := by omega
  have hv5 : 0 ≤ V / y1 * y1 := Int.mul_nonneg hv0 (by omega)
  have hfin : ((u * 4294967296 + n) * 4294967296 + m) / Y = Q * 4294967296 + (V * 4294967296 + m) / Y := by
    obtain ⟨k0, k1⟩ := div_bounds (a := V * 4294967296 + m) hy
    generalize (V * 4294967296 + m) / Y = R at *
    have t : Q * 4294967296 * Y = Q * Y * 4294967296 := by rw [Int.mul_assoc, Int.mul_comm 4294967296 Y, ← Int.mul_assoc]
    refine quo_unique hy ?_ ?_
    · rw [Int.add_mul, t]; omega
    · rw [show Q * 4294967296 + R + 1 = Q * 4294967296 + (R + 1) by omega, Int.add_mul (Q * 4294967296), t]; omega
  rw [hfin]
  refine ⟨z, Ev.succ ?_⟩
  simp only [bits_Div64.j4]
  refine Ev.neg (by omega) ?_
  rw [hV', tdiv_pos h2, wrapU_id (x := V / y1) hv0 (by omega), wrapU_id (x := V / y1 * y1) hv5 hv4, wrapU_id (x := V - V / y1 * y1) hv2 (by omega)]
  exact hz
end Go.Proofs.Ytmfdhcgdibefiaa.L

/- math/bits.Div64: the quotient; Mul64: the two words of a product. -/
namespace Go.Proofs.Ytmfdhcgdibefiaa.L
open Go.RowKit Go.Proofs.Ytmfdhcgdibefiaa.Q Go.Proofs.Ytmfdhcgdibefiaa.A Go.Proofs.YtmfdhcgdibefiaaW.PrintWords Go.Proofs.YtmfdhcgdibefiaaW.PrintLast Go.Proofs.YtmfdhcgdibefiaaW.PrintMore Go.Proofs.YtmfdhcgdibefiaaW.Lib
set_option linter.unusedVariables false
set_option linter.unusedSimpArgs false
theorem and_low (x : Int) (h0 : 0 ≤ x) (h1 : x < 18446744073709551616) : Go.bits .and .u64 x 4294967295 = x % 4294967296 := by
  rw [u64_and x 4294967295 h0 h1 (by decide) (by decide)]
  have e : x.toNat &&& (4294967295 : Int).toNat = x.toNat % 4294967296 := by
    rw [show (4294967295 : Int).toNat = 2 ^ 32 - 1 by decide, Nat.and_two_pow_sub_one_eq_mod]
  rw [e]
  omega
theorem two_pow_cast (n : Nat) : ((2 ^ n : Nat) : Int) = (2 : Int) ^ n := by rw [Int.natCast_pow]; rfl
/-- How far a number is to be shifted, and what that makes. -/
theorem shift_facts (y : Int) (h0 : 0 < y) (h1 : y < 18446744073709551616) : ∃ (s : Nat) (P M : Int), s ≤ 63 ∧ (Lib.bitLen y.toNat : Int) = 64 - (s : Int) ∧ P = 2 ^ s ∧ M = 2 ^ (64 - s) ∧ M * P = 18446744073709551616 ∧ 0 < P ∧ 0 < M ∧ 9223372036854775808 ≤ y * P ∧ y * P < 18446744073709551616 := by
  have hb := Lib.bitLenAux_bounds 64 y.toNat (by have : (2 : Nat) ^ 64 = 18446744073709551616 := by decide
                                                 omega) (by omega)
  have hl := Lib.bitLen_le y.toNat 64 (by omega) (by have : (2 : Nat) ^ 64 = 18446744073709551616 := by decide
                                                     omega)
  change 1 ≤ Lib.bitLen y.toNat ∧ 2 ^ (Lib.bitLen y.toNat - 1) ≤ y.toNat ∧ y.toNat < 2 ^ Lib.bitLen y.toNat at hb
  generalize Lib.bitLen y.toNat = L at *
  obtain ⟨b0, b1, b2⟩ := hb
  refine ⟨64 - L, 2 ^ (64 - L), 2 ^ (64 - (64 - L)), by omega, by omega, rfl, rfl, ?_, Int.pow_pos (by decide), Int.pow_pos (by decide), ?_, ?_⟩
  · rw [← Int.pow_add, show 64 - (64 - L) + (64 - L) = 64 by omega]; decide
  · have e : (2 : Nat) ^ (L - 1) * 2 ^ (64 - L) = 9223372036854775808 := by rw [← Nat.pow_add, show L - 1 + (64 - L) = 63 by omega]
    have h := Nat.mul_le_mul_right (2 ^ (64 - L)) b1
    rw [e] at h
    have h' : ((9223372036854775808 : Nat) : Int) ≤ ((y.toNat * 2 ^ (64 - L) : Nat) : Int) := by exact_mod_cast h
    rw [Int.natCast_mul, two_pow_cast, show ((y.toNat : Nat) : Int) = y by omega] at h'
    exact h'
  · have e : (2 : Nat) ^ L * 2 ^ (64 - L) = 18446744073709551616 := by rw [← Nat.pow_add, show L + (64 - L) = 64 by omega]
    have h := Nat.mul_lt_mul_of_pos_right b2 (Nat.pow_pos (n := 64 - L) (show 0 < 2 by decide))
    rw [e] at h
    have h' : ((y.toNat * 2 ^ (64 - L) : Nat) : Int) < ((18446744073709551616 : Nat) : Int) := by exact_mod_cast h
    rw [Int.natCast_mul, two_pow_cast, show ((y.toNat : Nat) : Int) = y by omega] at h'
    exact h'
theorem or_join (s : Nat) (a b P : Int) (hP : P = 2 ^ s) (ha : 0 ≤ a) (hb : 0 ≤ b) (hbP : b < P) (hlt : a * P < 18446744073709551616) (hP1 : P < 18446744073709551616) : Go.bits .or .u64 (a * P) b = a * P + b := by
  have hp : 0 < P := by rw [hP]; exact Int.pow_pos (by decide)
  have h0 : 0 ≤ a * P := Int.mul_nonneg ha (Int.le_of_lt hp)
  rw [u64_or _ _ h0 hlt hb (by omega)]
  have e1 : (a * P).toNat = a.toNat * 2 ^ s := by
    have : a * P = ((a.toNat * 2 ^ s : Nat) : Int) := by rw [Int.natCast_mul, two_pow_cast, ← hP, show ((a.toNat : Nat) : Int) = a by omega]
    rw [this]; rfl
  have e2 : b.toNat < 2 ^ s := by
    have : ((b.toNat : Nat) : Int) < ((2 ^ s : Nat) : Int) := by rw [two_pow_cast, ← hP]; omega
    exact_mod_cast this
  rw [nat_join s _ _ (by rw [e1]; exact Nat.mul_mod_left _ _) e2, Int.natCast_add]
  omega
theorem div64_ev (x0 x1 y : Int) (a0 : 0 ≤ x0) (a1 : x0 < y) (b0 : 0 ≤ x1) (b1 : x1 < 18446744073709551616) (hy : y < 18446744073709551616) :
    ∃ z, Ev (fun k => bits_Div64.f k x0 x1 y) ((x0 * 18446744073709551616 + x1) / y, z) := by
  have hpre : ∀ v, Ev (fun k => bits_Div64.j1 k x0 x1 y) v → Ev (fun k => bits_Div64.f k x0 x1 y) v := by
    intro v hv
    simp only [bits_Div64.f]
    refine Ev.neg (by omega) (Ev.succ ?_)
    simp only [bits_Div64.j0]
    exact Ev.neg (by omega) hv
  by_cases c : x0 = 0
  · subst c
    refine ⟨?_, hpre _ (Ev.succ ?_)⟩
    rotate_left
    · simp only [bits_Div64.j1]
      refine Ev.pos (by first | rfl | trivial) (Ev.neg (by omega) ?_)
      rw [tdiv_pos b0, wrapU_id (Int.ediv_nonneg b0 (by omega)) (by have := Int.ediv_le_self y b0; omega), Int.zero_mul, Int.zero_add]
      exact Ev.now _
  · obtain ⟨s, P, M, s1, hbl, hP, hM, hMP, p0, m0, y0, y1⟩ := shift_facts y (by omega) hy
    have hs0 : IntKind.u64.wrap (64 - (Lib.bitLen y.toNat : Int)) = s := by rw [hbl]; rw [wrapU_id (by omega) (by omega)]; omega
    have hs1 : IntKind.u64.wrap (64 - (s : Int)) = ((64 - s : Nat) : Int) := by rw [wrapU_id (by omega) (by omega)]; omega
    have hPlt : P < 18446744073709551616 := by
      have : 1 * P ≤ y * P := Int.mul_le_mul_of_nonneg_right (by omega) (Int.le_of_lt p0)
      omega
    have hshl : ∀ x : Int, shl .u64 x (s : Int) = IntKind.u64.wrap (x * P) := by
      intro x
      unfold shl
      rw [show min ((s : Int)).toNat IntKind.u64.bits = s by rw [Int.toNat_natCast]; exact Nat.min_eq_left (by show s ≤ 64; omega), hP]
    have hshr : ∀ x : Int, shr .u64 x ((64 - s : Nat) : Int) = x / M := by
      intro x
      unfold shr
      rw [show min (((64 - s : Nat) : Int)).toNat IntKind.u64.bits = 64 - s by rw [Int.toNat_natCast]; exact Nat.min_eq_left (by show 64 - s ≤ 64; omega), hM]
    have c0 : 0 ≤ x0 * P := Int.mul_nonneg a0 (Int.le_of_lt p0)
    have c1 : x0 * P < y * P := Int.mul_lt_mul_of_pos_right a1 p0
    have c2 : (x0 + 1) * P ≤ y * P := Int.mul_le_mul_of_nonneg_right (by omega) (Int.le_of_lt p0)
    rw [Int.add_mul, Int.one_mul] at c2
    have q0 : 0 ≤ x1 / M := Int.ediv_nonneg b0 (Int.le_of_lt m0)
    have q1 : x1 / M < P := by
      refine Int.ediv_lt_of_lt_mul m0 ?_
      rw [Int.mul_comm, hMP]; exact b1
    have r0 := Int.emod_nonneg x1 (by omega : M ≠ 0)
    have r1 := Int.emod_lt_of_pos x1 m0
    have r2 : (x1 % M) * P < 18446744073709551616 := by
      have : x1 % M * P < M * P := Int.mul_lt_mul_of_pos_right r1 p0
      omega
    have r3 : 0 ≤ (x1 % M) * P := Int.mul_nonneg r0 (Int.le_of_lt p0)
    have r4 : x1 * P = x1 / M * 18446744073709551616 + x1 % M * P := by
      have h := Int.mul_ediv_add_emod x1 M
      have h2 : (M * (x1 / M) + x1 % M) * P = x1 * P := by rw [h]
      rw [Int.add_mul, Int.mul_comm M, Int.mul_assoc, hMP] at h2
      omega
    have hor := or_join s x0 (x1 / M) P hP a0 q0 q1 (by omega) hPlt
    have hw1 : IntKind.u64.wrap (y * P) = y * P := wrapU_id (by omega) y1
    have hw0 : IntKind.u64.wrap (x0 * P) = x0 * P := wrapU_id c0 (by omega)
    have hw2 : IntKind.u64.wrap (x1 * P) = x1 % M * P := by rw [r4, wrapU_mod]; omega
    have hand1 := and_low (y * P) (by omega) y1
    have hand2 := and_low (x1 % M * P) r3 r2
    have htot : ((x0 * P + x1 / M) * 4294967296 + x1 % M * P / 4294967296) * 4294967296 + x1 % M * P % 4294967296 = (x0 * 18446744073709551616 + x1) * P := by
      rw [Int.add_mul (x0 * 18446744073709551616), r4, Int.mul_assoc x0, Int.mul_comm 18446744073709551616 P, ← Int.mul_assoc]
      omega
    have hfin : (x0 * 18446744073709551616 + x1) * P / (y * P) = (x0 * 18446744073709551616 + x1) / y := Int.mul_ediv_mul_of_pos_left _ _ p0
    have hb : y * P = y * P / 4294967296 * 4294967296 + y * P % 4294967296 := by omega
    obtain ⟨z, hz⟩ := j4_ev (Y := y * P) (y1 := y * P / 4294967296) (y0 := y * P % 4294967296) (u := x0 * P + x1 / M) (n := x1 % M * P / 4294967296) (m := x1 % M * P % 4294967296) (s := s) hb (by omega) (by omega) (by omega) (by omega) (by omega) (by omega) (by omega) (by omega) (by omega) (by omega) (by omega)
    rw [htot, hfin] at hz
    have hD := DigI.first (Y := y * P) (y1 := y * P / 4294967296) (y0 := y * P % 4294967296) (u := x0 * P + x1 / M) (n := x1 % M * P / 4294967296) hb (by omega) (by omega) (by omega) (by omega) (by omega) (by omega) (by omega) (by omega)
    refine ⟨z, hpre _ (Ev.succ ?_)⟩
    simp only [bits_Div64.j1]
    refine Ev.neg c ?_
    refine Ev.bind (a := 64 - (Lib.bitLen y.toNat : Int)) (Ev.const (by unfold bits_LeadingZeros64.f; rw [if_pos ⟨by omega, by omega⟩])) ?_
    rw [hs0, hs1, hshl y, hshl x0, hshl x1, hshr x1, hw0, hw1, hw2, hor, hand1, hand2]
    refine Ev.pos (by omega) (Ev.pos (by omega) (Ev.neg (by omega) ?_))
    have u0 : 0 ≤ x0 * P + x1 / M := by omega
    have v0 := Int.ediv_nonneg u0 (by omega : 0 ≤ y * P / 4294967296)
    have v1 := hD.q_hi
    have v2 := hD.u_is
    have v3 := hD.r_lo
    have v4 := hD.r_hi
    have v5 : 0 ≤ (x0 * P + x1 / M) / (y * P / 4294967296) * (y * P / 4294967296) := Int.mul_nonneg v0 (by omega)
    rw [tdiv_pos u0, wrapU_id (x := (x0 * P + x1 / M) / (y * P / 4294967296)) v0 (by omega), wrapU_id (x := (x0 * P + x1 / M) / (y * P / 4294967296) * (y * P / 4294967296)) v5 (by omega), wrapU_id (x := x0 * P + x1 / M - (x0 * P + x1 / M) / (y * P / 4294967296) * (y * P / 4294967296)) v3 (by omega)]
    exact l0_ev hz _ _ _ hD (Nat.le_refl _)
theorem prod_hi {a b : Int} (a0 : 0 ≤ a) (a1 : a < 4294967296) (b0 : 0 ≤ b) (b1 : b < 4294967296) : 0 ≤ a * b ∧ a * b ≤ 18446744065119617025 := by
  refine ⟨Int.mul_nonneg a0 b0, ?_⟩
  have h1 : a * b ≤ 4294967295 * b := Int.mul_le_mul_of_nonneg_right (by omega) b0
  omega
theorem mul64_is (a b : Int) (a0 : 0 ≤ a) (a1 : a < 18446744073709551616) (b0 : 0 ≤ b) (b1 : b < 18446744073709551616) : bits_Mul64.f a b = some (a * b / 18446744073709551616, a * b % 18446744073709551616) := by
  unfold bits_Mul64.f
  rw [and_low a a0 a1, and_low b b0 b1]
  obtain ⟨x1, hx1⟩ : ∃ x1, x1 = a / 4294967296 := ⟨_, rfl⟩
  obtain ⟨x0, hx0⟩ : ∃ x0, x0 = a % 4294967296 := ⟨_, rfl⟩
  obtain ⟨y1, hy1⟩ : ∃ y1, y1 = b / 4294967296 := ⟨_, rfl⟩
  obtain ⟨y0, hy0⟩ : ∃ y0, y0 = b % 4294967296 := ⟨_, rfl⟩
  rw [← hx1, ← hx0, ← hy1, ← hy0]
  have ea : a = x1 * 4294967296 + x0 := by omega
  have eb : b = y1 * 4294967296 + y0 := by omega
  have p11 := prod_hi (a := x1) (b := y1) (by omega) (by omega) (by omega) (by omega)
  have p10 := prod_hi (a := x1) (b := y0) (by omega) (by omega) (by omega) (by omega)
  have p01 := prod_hi (a := x0) (b := y1) (by omega) (by omega) (by omega) (by omega)
  have p00 := prod_hi (a := x0) (b := y0) (by omega) (by omega) (by omega) (by omega)
  have hab : a * b = x1 * y1 * 18446744073709551616 + (x1 * y0 + x0 * y1) * 4294967296 + x0 * y0 := by
    rw [ea, eb, Int.add_mul, Int.mul_add, Int.mul_add]
    rw [show x1 * 4294967296 * (y1 * 4294967296) = x1 * y1 * 18446744073709551616 by
      rw [Int.mul_assoc, Int.mul_comm 4294967296 (y1 * 4294967296), Int.mul_assoc, ← Int.mul_assoc]; rfl]
    rw [show x1 * 4294967296 * y0 = x1 * y0 * 4294967296 by rw [Int.mul_assoc, Int.mul_comm 4294967296 y0, ← Int.mul_assoc]]
    rw [show x0 * (y1 * 4294967296) = x0 * y1 * 4294967296 by rw [Int.mul_assoc]]
    rw [Int.add_mul]
    omega
  rw [hab, wrapU_mod (x1 * y1 * 18446744073709551616 + (x1 * y0 + x0 * y1) * 4294967296 + x0 * y0)]
  clear hab ea eb hx1 hx0 hy1 hy0
  generalize x1 * y1 = p at *
  generalize x1 * y0 = q at *
  generalize x0 * y1 = r at *
  generalize x0 * y0 = s at *
  rw [wrapU_id (x := p) (by omega) (by omega), wrapU_id (x := q) (by omega) (by omega), wrapU_id (x := r) (by omega) (by omega), wrapU_id (x := s) (by omega) (by omega), wrapU_id (x := q + s / 4294967296) (by omega) (by omega), and_low _ (by omega) (by omega),
    wrapU_id (x := p + (q + s / 4294967296) / 4294967296) (by omega) (by omega), wrapU_id (x := (q + s / 4294967296) % 4294967296 + r) (by omega) (by omega)]
  rw [wrapU_id (by omega) (by omega)]
  congr 2
  omega
end Go.Proofs.Ytmfdhcgdibefiaa.L

