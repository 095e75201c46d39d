-- Written by wip/tools/gp.py, a program of this session round the kit's printer. Lean checks it.
import Derived.Test.YtkcnfdffemddlaaProg
import Derived.Below
import Derived.Deep.Draws
import Derived.Deep.AppendLies
import Derived.Maps.AppendAt
import Derived.OwnWalk
import Derived.Laws.BytesArg
import Derived.Laws.MakeOwn
import Derived.Laws.OwnMore
import Derived.Deep.OwnRows
import Derived.Tactics
import Derived.Lib.ConvBytes
import Derived.Laws.Slices
import Derived.WalkKit
import Derived.KernelRfl
import Derived.RowKit3
import Derived.Deep.LoopGhost
import Derived.Deep.QuietTactic
import Derived.BigQuiet
import Derived.WideLaws
import Derived.Deep.DeepCutAuto
import Derived.Deep.CutBlock
import Derived.Deep.RegionHeld3
import Derived.Laws.Rows
import Derived.Lib.AppendStr
import Derived.ArgAppend
import Derived.Laws.IdiomCopy
import Derived.OrdersHeld
import Derived.Laws.BitsLemmas
import Derived.RowKit
import Derived.Test.YtkcnfdffemddlaaSortG
import Derived.Test.YtkcnfdffemddlaaWWords
import Derived.Test.YtkcnfdffemddlaaWLast
import Derived.Test.YtkcnfdffemddlaaWTab
import Derived.Test.YtkcnfdffemddlaaWFour
import Derived.Test.YtkcnfdffemddlaaWQPut
import Derived.Test.YtkcnfdffemddlaaWApart
import Derived.Test.YtkcnfdffemddlaaWArr
import Derived.Test.YtkcnfdffemddlaaWZeros
import Derived.Test.YtkcnfdffemddlaaWFoot
import Derived.Test.YtkcnfdffemddlaaWKept
import Derived.Test.YtkcnfdffemddlaaWShare
import Derived.Test.YtkcnfdffemddlaaWN
import Derived.Test.YtkcnfdffemddlaaWFootNe
import Derived.Test.YtkcnfdffemddlaaWAt
import Derived.Test.YtkcnfdffemddlaaWEqStruct
import Derived.Test.YtkcnfdffemddlaaWRepsOne
import Derived.Test.YtkcnfdffemddlaaWInv
import Derived.Test.YtkcnfdffemddlaaWInvWords
import Derived.Test.YtkcnfdffemddlaaWGuard
import Derived.Test.YtkcnfdffemddlaaWNEv
import Derived.Test.YtkcnfdffemddlaaWMore
import Derived.Test.YtkcnfdffemddlaaQx0
namespace Go.Proofs.Ytkcnfdffemddlaa.R
open Go.RowKit Go.Proofs.Ytkcnfdffemddlaa.Q Go.Proofs.YtkcnfdffemddlaaW.PrintWords Go.Proofs.YtkcnfdffemddlaaW.PrintLast Go.Proofs.YtkcnfdffemddlaaW.PrintMore
attribute [local go_sem] max2_int min2_int max_two min_two max_three min_three max_four min_four   -- for this text's walks alone
set_option linter.unusedVariables false
set_option linter.unusedSimpArgs false




-- the values' own types
def rd_L5 (xs : List (List S39)) (i : Int) : (List S39) := xs.getD i.toNat ([] : List S39)
theorem at_L5 {w : World} {A : Option Addr} {n : Nat} {xs : List (List S39)} (h : Kd.C (Kd.slice 39 k39) w A n xs) (i : Int) (h0 : 0 ≤ i) (h1 : i < n) : ∃ ad A0 c0, A = some ad ∧ w.cell? (ad.add i.toNat) = some (.slice A0 (rd_L5 xs i).length c0) ∧ (rd_L5 xs i).length ≤ c0 ∧ k39.C w A0 (rd_L5 xs i).length (rd_L5 xs i) := by
  obtain ⟨ad, c, e, _, hK, hc0⟩ := Kd.C_get h ([] : List S39) i h0 h1
  have hc : ∀ j u, c[j]? = some u → w.cell? (ad.add (i.toNat * 1 + j)) = some u := hc0
  obtain ⟨A0, c0, rfl, l0, g0⟩ := hK
  exact ⟨ad, A0, c0, e, by have hq := hc 0 _ rfl; rwa [Nat.mul_one, Nat.add_zero] at hq, l0, g0⟩

end Go.Proofs.Ytkcnfdffemddlaa.R
