-- Written by wip/tools/gp.py, a program of this session round the kit's printer. Lean checks it.
import Derived.Test.YtjgpggjjgimibaaProg
import Derived.Below
import Derived.Deep.Draws
import Derived.Deep.AppendLies
import Derived.Maps.AppendAt
import Derived.OwnWalk
import Derived.Laws.BytesArg
import Derived.Laws.MakeOwn
import Derived.Laws.OwnMore
import Derived.Deep.OwnRows
import Derived.Tactics
import Derived.Lib.ConvBytes
import Derived.Laws.Slices
import Derived.WalkKit
import Derived.KernelRfl
import Derived.RowKit3
import Derived.Deep.LoopGhost
import Derived.Deep.QuietTactic
import Derived.BigQuiet
import Derived.WideLaws
import Derived.Deep.DeepCutAuto
import Derived.Deep.CutBlock
import Derived.Deep.RegionHeld3
import Derived.Laws.Rows
import Derived.Lib.AppendStr
import Derived.ArgAppend
import Derived.Laws.IdiomCopy
import Derived.OrdersHeld
import Derived.Laws.BitsLemmas
import Derived.RowKit
import Derived.Test.YtjgpggjjgimibaaBndB
import Derived.Test.YtjgpggjjgimibaaBndI
import Derived.Test.YtjgpggjjgimibaaWWords
import Derived.Test.YtjgpggjjgimibaaWLast
import Derived.Test.YtjgpggjjgimibaaWTab
import Derived.Test.YtjgpggjjgimibaaWFour
import Derived.Test.YtjgpggjjgimibaaWQPut
import Derived.Test.YtjgpggjjgimibaaWApart
import Derived.Test.YtjgpggjjgimibaaWArr
import Derived.Test.YtjgpggjjgimibaaWZeros
import Derived.Test.YtjgpggjjgimibaaWFoot
import Derived.Test.YtjgpggjjgimibaaWKept
import Derived.Test.YtjgpggjjgimibaaWShare
import Derived.Test.YtjgpggjjgimibaaWN
import Derived.Test.YtjgpggjjgimibaaWFootNe
import Derived.Test.YtjgpggjjgimibaaWAt
import Derived.Test.YtjgpggjjgimibaaWEqStruct
import Derived.Test.YtjgpggjjgimibaaWRepsOne
import Derived.Test.YtjgpggjjgimibaaWInv
import Derived.Test.YtjgpggjjgimibaaWInvWords
import Derived.Test.YtjgpggjjgimibaaWGuard
import Derived.Test.YtjgpggjjgimibaaWNEv
import Derived.Test.YtjgpggjjgimibaaWMore
import Derived.Test.YtjgpggjjgimibaaQx0
namespace Go.Proofs.Ytjgpggjjgimibaa.M
open Go.RowKit Go.Proofs.Ytjgpggjjgimibaa.Q Go.Proofs.YtjgpggjjgimibaaW.PrintWords Go.Proofs.YtjgpggjjgimibaaW.PrintLast Go.Proofs.YtjgpggjjgimibaaW.PrintMore
attribute [local go_sem] max2_int min2_int max_two min_two max_three min_three max_four min_four   -- for this text's walks alone
set_option linter.unusedVariables false
set_option linter.unusedSimpArgs false




theorem info2 : (Try.prog.info? 2).map (fun i => (i.zero, i.size, i.bytes)) = some (some (.int .i64 0), 1, 8) := by kernel_rfl
-- the values' own types
def rd_L8 (xs : List (List Int)) (i : Int) : (List Int) := xs.getD i.toNat ([] : List Int)
theorem at_L8 {w : World} {A : Option Addr} {n : Nat} {xs : List (List Int)} (h : Kd.C (Kd.slice 2 (Kd.int .i64)) w A n xs) (i : Int) (h0 : 0 ≤ i) (h1 : i < n) : ∃ ad A0 c0, A = some ad ∧ w.cell? (ad.add i.toNat) = some (.slice A0 (rd_L8 xs i).length c0) ∧ (rd_L8 xs i).length ≤ c0 ∧ (Kd.int .i64).C w A0 (rd_L8 xs i).length (rd_L8 xs i) := by
  obtain ⟨ad, c, e, _, hK, hc0⟩ := Kd.C_get h ([] : List Int) i h0 h1
  have hc : ∀ j u, c[j]? = some u → w.cell? (ad.add (i.toNat * 1 + j)) = some u := hc0
  obtain ⟨A0, c0, rfl, l0, g0⟩ := hK
  exact ⟨ad, A0, c0, e, by have hq := hc 0 _ rfl; rwa [Nat.mul_one, Nat.add_zero] at hq, l0, g0⟩

def rd_L9 (xs : List (List S37)) (i : Int) : (List S37) := xs.getD i.toNat ([] : List S37)
theorem at_L9 {w : World} {A : Option Addr} {n : Nat} {xs : List (List S37)} (h : Kd.C (Kd.slice 37 k37) w A n xs) (i : Int) (h0 : 0 ≤ i) (h1 : i < n) : ∃ ad A0 c0, A = some ad ∧ w.cell? (ad.add i.toNat) = some (.slice A0 (rd_L9 xs i).length c0) ∧ (rd_L9 xs i).length ≤ c0 ∧ k37.C w A0 (rd_L9 xs i).length (rd_L9 xs i) := by
  obtain ⟨ad, c, e, _, hK, hc0⟩ := Kd.C_get h ([] : List S37) i h0 h1
  have hc : ∀ j u, c[j]? = some u → w.cell? (ad.add (i.toNat * 1 + j)) = some u := hc0
  obtain ⟨A0, c0, rfl, l0, g0⟩ := hK
  exact ⟨ad, A0, c0, e, by have hq := hc 0 _ rfl; rwa [Nat.mul_one, Nat.add_zero] at hq, l0, g0⟩

end Go.Proofs.Ytjgpggjjgimibaa.M
