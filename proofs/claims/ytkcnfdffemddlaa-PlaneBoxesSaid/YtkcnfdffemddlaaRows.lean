/-
  No cell of these rows narrows 'for every input' (looked for: loops, veiled, ifaces, maps, wideKeys, modest, calm, conditions, laid).
  DERIVED. THE GIVEN ROWS OF THIS SEAT. 8 by the template 'for every input the law returns true; each argument reads behind the call as it read before'; 0 by the template 'total and deterministic' (their statements: YtkcnfdffemddlaaTotals.lean).
  GIVEN WITH THE SEED: the statements are not yours to turn. If you find one false, say at which input.
  Laid BY PROGRAM, IN A SANDBOX (cutbox-rows.mjs): the forced cells as the released guide's own fill.sh prints them over the translation b6d814c6344c0bd7… (all of the seat's roots in one cut). By AI agents, Wed Nov 11 2026. No macro, syntax, notation, axiom, sorry.
-/
import Derived.Test.YtkcnfdffemddlaaChecked
import GoSem.Claim
import GoSem.ClaimJoined
import GoSem.ClaimMapViews
import Derived.JoinedTies
import Derived.KernelRfl
namespace Go.Proofs.Ytkcnfdffemddlaa
/- THE CELL 'sum', in the pinned program and in every row, IS THE sha256 OF THE DUMP (.gsa) THAT YtkcnfdffemddlaaProg.lean LOADS. Nothing in Lean hashes anything: it is a label: what it is worth is what the hold of that sum in a sandbox is worth. -/
noncomputable def Try.pinned : Pinned := { name := "ytkcnfdffemddlaa", sum := "b6d814c6344c0bd7699b24e9c7f765476931d1d5718b5edcf0dcb8d861b8c514", checked := Try.checked }
namespace Rows
def none {H : Type} : Left H := { results := [], args := [] }

/-- 'merkhetlaw25.PlanePoints': WHATEVER THE INPUT: true; the input reads as it did. -/
def planePointsSpec : ChangeSpec := { name := "planePoints", fn := fun _ => fun
  | [d1, d2, d3] => { results := [.lit (.bool true)], args := [d1, d2, d3] }
  | _ => none }
def planePointsRow : OpenClaim := { program := "ytkcnfdffemddlaa", sum := "b6d814c6344c0bd7699b24e9c7f765476931d1d5718b5edcf0dcb8d861b8c514", func := "merkhet/merkhetlaw25.PlanePoints", spec := "planePoints", inPlace := ["math.Float64bits", "math.Float64frombits", "math.archTrunc"], apart := false }
def PlanePointsSaid : Prop := planePointsRow.holds Try.pinned (OpenSpec.ofChange planePointsSpec)

/-- ITS FALSE NEIGHBOUR: 'it returns false'. Refute it at one input. -/
def planePointsWrong : ChangeSpec := { name := "planePoints", fn := fun _ => fun
  | [d1, d2, d3] => { results := [.lit (.bool false)], args := [d1, d2, d3] }
  | _ => none }
def PlanePointsWrongFalsely : Prop := planePointsRow.holds Try.pinned (OpenSpec.ofChange planePointsWrong)

/-- 'merkhetlaw01.SpanNames': WHATEVER THE INPUT: true; the input reads as it did. -/
def spanNamesSpec : ChangeSpec := { name := "spanNames", fn := fun _ => fun
  | [d] => { results := [.lit (.bool true)], args := [d] }
  | _ => none }
def spanNamesRow : OpenClaim := { program := "ytkcnfdffemddlaa", sum := "b6d814c6344c0bd7699b24e9c7f765476931d1d5718b5edcf0dcb8d861b8c514", func := "merkhet/merkhetlaw01.SpanNames", spec := "spanNames", inPlace := ["internal/bytealg.abigen_runtime_cmpstring"], apart := false }
def SpanNamesSaid : Prop := spanNamesRow.holds Try.pinned (OpenSpec.ofChange spanNamesSpec)

/-- ITS FALSE NEIGHBOUR: 'it returns false'. Refute it at one input. -/
def spanNamesWrong : ChangeSpec := { name := "spanNames", fn := fun _ => fun
  | [d] => { results := [.lit (.bool false)], args := [d] }
  | _ => none }
def SpanNamesWrongFalsely : Prop := spanNamesRow.holds Try.pinned (OpenSpec.ofChange spanNamesWrong)

/-- 'merkhetlaw01.SpanOrder': WHATEVER THE INPUT: true; the input reads as it did. -/
def spanOrderSpec : ChangeSpec := { name := "spanOrder", fn := fun _ => fun
  | [d1, d2, d3] => { results := [.lit (.bool true)], args := [d1, d2, d3] }
  | _ => none }
def spanOrderRow : OpenClaim := { program := "ytkcnfdffemddlaa", sum := "b6d814c6344c0bd7699b24e9c7f765476931d1d5718b5edcf0dcb8d861b8c514", func := "merkhet/merkhetlaw01.SpanOrder", spec := "spanOrder", inPlace := ["internal/bytealg.abigen_runtime_cmpstring"], apart := false }
def SpanOrderSaid : Prop := spanOrderRow.holds Try.pinned (OpenSpec.ofChange spanOrderSpec)

/-- ITS FALSE NEIGHBOUR: 'it returns false'. Refute it at one input. -/
def spanOrderWrong : ChangeSpec := { name := "spanOrder", fn := fun _ => fun
  | [d1, d2, d3] => { results := [.lit (.bool false)], args := [d1, d2, d3] }
  | _ => none }
def SpanOrderWrongFalsely : Prop := spanOrderRow.holds Try.pinned (OpenSpec.ofChange spanOrderWrong)

/-- 'merkhetlaw25.PlaneTurns': WHATEVER THE INPUT: true; the input reads as it did. -/
def planeTurnsSpec : ChangeSpec := { name := "planeTurns", fn := fun _ => fun
  | [d1, d2, d3] => { results := [.lit (.bool true)], args := [d1, d2, d3] }
  | _ => none }
def planeTurnsRow : OpenClaim := { program := "ytkcnfdffemddlaa", sum := "b6d814c6344c0bd7699b24e9c7f765476931d1d5718b5edcf0dcb8d861b8c514", func := "merkhet/merkhetlaw25.PlaneTurns", spec := "planeTurns", inPlace := ["math.Float64frombits", "math.archTrunc", "math.Float64bits"], apart := false }
def PlaneTurnsSaid : Prop := planeTurnsRow.holds Try.pinned (OpenSpec.ofChange planeTurnsSpec)

/-- ITS FALSE NEIGHBOUR: 'it returns false'. Refute it at one input. -/
def planeTurnsWrong : ChangeSpec := { name := "planeTurns", fn := fun _ => fun
  | [d1, d2, d3] => { results := [.lit (.bool false)], args := [d1, d2, d3] }
  | _ => none }
def PlaneTurnsWrongFalsely : Prop := planeTurnsRow.holds Try.pinned (OpenSpec.ofChange planeTurnsWrong)

/-- 'merkhetlaw25.PlaneRound': WHATEVER THE INPUT: true; the input reads as it did. -/
def planeRoundSpec : ChangeSpec := { name := "planeRound", fn := fun _ => fun
  | [d1, d2, d3] => { results := [.lit (.bool true)], args := [d1, d2, d3] }
  | _ => none }
def planeRoundRow : OpenClaim := { program := "ytkcnfdffemddlaa", sum := "b6d814c6344c0bd7699b24e9c7f765476931d1d5718b5edcf0dcb8d861b8c514", func := "merkhet/merkhetlaw25.PlaneRound", spec := "planeRound", inPlace := ["math.archTrunc", "math.Float64bits", "math.Float64frombits"], apart := false }
def PlaneRoundSaid : Prop := planeRoundRow.holds Try.pinned (OpenSpec.ofChange planeRoundSpec)

/-- ITS FALSE NEIGHBOUR: 'it returns false'. Refute it at one input. -/
def planeRoundWrong : ChangeSpec := { name := "planeRound", fn := fun _ => fun
  | [d1, d2, d3] => { results := [.lit (.bool false)], args := [d1, d2, d3] }
  | _ => none }
def PlaneRoundWrongFalsely : Prop := planeRoundRow.holds Try.pinned (OpenSpec.ofChange planeRoundWrong)

/-- 'merkhetlaw25.PlaneBoxes': WHATEVER THE INPUT: true; the input reads as it did. -/
def planeBoxesSpec : ChangeSpec := { name := "planeBoxes", fn := fun _ => fun
  | [d] => { results := [.lit (.bool true)], args := [d] }
  | _ => none }
def planeBoxesRow : OpenClaim := { program := "ytkcnfdffemddlaa", sum := "b6d814c6344c0bd7699b24e9c7f765476931d1d5718b5edcf0dcb8d861b8c514", func := "merkhet/merkhetlaw25.PlaneBoxes", spec := "planeBoxes", inPlace := ["math.archTrunc", "math.Float64bits", "math.Float64frombits"], apart := false }
def PlaneBoxesSaid : Prop := planeBoxesRow.holds Try.pinned (OpenSpec.ofChange planeBoxesSpec)

/-- ITS FALSE NEIGHBOUR: 'it returns false'. Refute it at one input. -/
def planeBoxesWrong : ChangeSpec := { name := "planeBoxes", fn := fun _ => fun
  | [d] => { results := [.lit (.bool false)], args := [d] }
  | _ => none }
def PlaneBoxesWrongFalsely : Prop := planeBoxesRow.holds Try.pinned (OpenSpec.ofChange planeBoxesWrong)

/-- 'merkhetlaw01.SpanMay': WHATEVER THE INPUT: true; the input reads as it did. -/
def spanMaySpec : ChangeSpec := { name := "spanMay", fn := fun _ => fun
  | [d] => { results := [.lit (.bool true)], args := [d] }
  | _ => none }
def spanMayRow : OpenClaim := { program := "ytkcnfdffemddlaa", sum := "b6d814c6344c0bd7699b24e9c7f765476931d1d5718b5edcf0dcb8d861b8c514", func := "merkhet/merkhetlaw01.SpanMay", spec := "spanMay", inPlace := ["internal/bytealg.abigen_runtime_cmpstring"], apart := false }
def SpanMaySaid : Prop := spanMayRow.holds Try.pinned (OpenSpec.ofChange spanMaySpec)

/-- ITS FALSE NEIGHBOUR: 'it returns false'. Refute it at one input. -/
def spanMayWrong : ChangeSpec := { name := "spanMay", fn := fun _ => fun
  | [d] => { results := [.lit (.bool false)], args := [d] }
  | _ => none }
def SpanMayWrongFalsely : Prop := spanMayRow.holds Try.pinned (OpenSpec.ofChange spanMayWrong)

/-- 'merkhetlaw01.SpanSorts': WHATEVER THE INPUT: true; the input reads as it did. -/
def spanSortsSpec : ChangeSpec := { name := "spanSorts", fn := fun _ => fun
  | [d] => { results := [.lit (.bool true)], args := [d] }
  | _ => none }
def spanSortsRow : OpenClaim := { program := "ytkcnfdffemddlaa", sum := "b6d814c6344c0bd7699b24e9c7f765476931d1d5718b5edcf0dcb8d861b8c514", func := "merkhet/merkhetlaw01.SpanSorts", spec := "spanSorts", inPlace := ["internal/bytealg.abigen_runtime_cmpstring"], unfollowed := true, recurses := true, apart := false }
def SpanSortsSaid : Prop := spanSortsRow.holds Try.pinned (OpenSpec.ofChange spanSortsSpec)

/-- ITS FALSE NEIGHBOUR: 'it returns false'. Refute it at one input. -/
def spanSortsWrong : ChangeSpec := { name := "spanSorts", fn := fun _ => fun
  | [d] => { results := [.lit (.bool false)], args := [d] }
  | _ => none }
def SpanSortsWrongFalsely : Prop := spanSortsRow.holds Try.pinned (OpenSpec.ofChange spanSortsWrong)

/- THE SECOND FORM. 'bulk': how many values and letters a reading holds, each counted each time it is reached (what is shared counts as often as it is met; a slice's spare places count too). A statement '..UptoSaid' is the law's where the arguments, and the package variables that the reading takes, are together of bulk at most 1048576: NARROWER than '..Said'. Prove '..Said' where nothing that the law and all that it calls make is longer than what came in: it says more and counts as full. Else prove '..UptoSaid'. A law counts once. -/
mutual
def uptoBulk {H : Type} : DataW H → Nat
  | .lit (.string bytes) => bytes.length + 1
  | .lit _ => 1
  | .nil => 1
  | .ptr d => uptoBulk d + 1
  | .slice elems spare => uptoBulkAll elems + uptoBulkAll spare + 1
  | .agg parts => uptoBulkAll parts + 1
  | .iface _ d => uptoBulk d + 1
  | .map entries => uptoBulkEntries entries + 1
  | .held _ => 1
def uptoBulkAll {H : Type} : List (DataW H) → Nat
  | [] => 0
  | d :: r => uptoBulk d + uptoBulkAll r
def uptoBulkEntries {H : Type} : List (Lit × DataW H) → Nat
  | [] => 0
  | x :: r => uptoBulkEntry x + uptoBulkEntries r
def uptoBulkEntry {H : Type} : Lit × DataW H → Nat
  | (.string bytes, d) => bytes.length + uptoBulk d + 1
  | (_, d) => uptoBulk d + 1
 end
def uptoSmall : (H : Type) → List (DataW H) → Bool := fun _ ds => decide (uptoBulkAll ds ≤ 1048576)
def OpenSpec.upto (s : _root_.Go.ChangeSpec) : _root_.Go.OpenSpec := { _root_.Go.OpenSpec.ofChange s with cond := some uptoSmall }

/-- 'merkhetlaw25.PlanePoints', WHERE WHAT IT READS IS OF BULK AT MOST 1048576: true; the input reads as it did. -/
def planePointsUptoRow : OpenClaim := { program := "ytkcnfdffemddlaa", sum := "b6d814c6344c0bd7699b24e9c7f765476931d1d5718b5edcf0dcb8d861b8c514", func := "merkhet/merkhetlaw25.PlanePoints", spec := "planePoints", inPlace := ["math.Float64bits", "math.Float64frombits", "math.archTrunc"], apart := false, narrowed := true }
def PlanePointsUptoSaid : Prop := planePointsUptoRow.holds Try.pinned (OpenSpec.upto planePointsSpec)

/-- 'merkhetlaw01.SpanNames', WHERE WHAT IT READS IS OF BULK AT MOST 1048576: true; the input reads as it did. -/
def spanNamesUptoRow : OpenClaim := { program := "ytkcnfdffemddlaa", sum := "b6d814c6344c0bd7699b24e9c7f765476931d1d5718b5edcf0dcb8d861b8c514", func := "merkhet/merkhetlaw01.SpanNames", spec := "spanNames", inPlace := ["internal/bytealg.abigen_runtime_cmpstring"], apart := false, narrowed := true }
def SpanNamesUptoSaid : Prop := spanNamesUptoRow.holds Try.pinned (OpenSpec.upto spanNamesSpec)

/-- 'merkhetlaw01.SpanOrder', WHERE WHAT IT READS IS OF BULK AT MOST 1048576: true; the input reads as it did. -/
def spanOrderUptoRow : OpenClaim := { program := "ytkcnfdffemddlaa", sum := "b6d814c6344c0bd7699b24e9c7f765476931d1d5718b5edcf0dcb8d861b8c514", func := "merkhet/merkhetlaw01.SpanOrder", spec := "spanOrder", inPlace := ["internal/bytealg.abigen_runtime_cmpstring"], apart := false, narrowed := true }
def SpanOrderUptoSaid : Prop := spanOrderUptoRow.holds Try.pinned (OpenSpec.upto spanOrderSpec)

/-- 'merkhetlaw25.PlaneTurns', WHERE WHAT IT READS IS OF BULK AT MOST 1048576: true; the input reads as it did. -/
def planeTurnsUptoRow : OpenClaim := { program := "ytkcnfdffemddlaa", sum := "b6d814c6344c0bd7699b24e9c7f765476931d1d5718b5edcf0dcb8d861b8c514", func := "merkhet/merkhetlaw25.PlaneTurns", spec := "planeTurns", inPlace := ["math.Float64frombits", "math.archTrunc", "math.Float64bits"], apart := false, narrowed := true }
def PlaneTurnsUptoSaid : Prop := planeTurnsUptoRow.holds Try.pinned (OpenSpec.upto planeTurnsSpec)

/-- 'merkhetlaw25.PlaneRound', WHERE WHAT IT READS IS OF BULK AT MOST 1048576: true; the input reads as it did. -/
def planeRoundUptoRow : OpenClaim := { program := "ytkcnfdffemddlaa", sum := "b6d814c6344c0bd7699b24e9c7f765476931d1d5718b5edcf0dcb8d861b8c514", func := "merkhet/merkhetlaw25.PlaneRound", spec := "planeRound", inPlace := ["math.archTrunc", "math.Float64bits", "math.Float64frombits"], apart := false, narrowed := true }
def PlaneRoundUptoSaid : Prop := planeRoundUptoRow.holds Try.pinned (OpenSpec.upto planeRoundSpec)

/-- 'merkhetlaw25.PlaneBoxes', WHERE WHAT IT READS IS OF BULK AT MOST 1048576: true; the input reads as it did. -/
def planeBoxesUptoRow : OpenClaim := { program := "ytkcnfdffemddlaa", sum := "b6d814c6344c0bd7699b24e9c7f765476931d1d5718b5edcf0dcb8d861b8c514", func := "merkhet/merkhetlaw25.PlaneBoxes", spec := "planeBoxes", inPlace := ["math.archTrunc", "math.Float64bits", "math.Float64frombits"], apart := false, narrowed := true }
def PlaneBoxesUptoSaid : Prop := planeBoxesUptoRow.holds Try.pinned (OpenSpec.upto planeBoxesSpec)

/-- 'merkhetlaw01.SpanMay', WHERE WHAT IT READS IS OF BULK AT MOST 1048576: true; the input reads as it did. -/
def spanMayUptoRow : OpenClaim := { program := "ytkcnfdffemddlaa", sum := "b6d814c6344c0bd7699b24e9c7f765476931d1d5718b5edcf0dcb8d861b8c514", func := "merkhet/merkhetlaw01.SpanMay", spec := "spanMay", inPlace := ["internal/bytealg.abigen_runtime_cmpstring"], apart := false, narrowed := true }
def SpanMayUptoSaid : Prop := spanMayUptoRow.holds Try.pinned (OpenSpec.upto spanMaySpec)

/-- 'merkhetlaw01.SpanSorts', WHERE WHAT IT READS IS OF BULK AT MOST 1048576: true; the input reads as it did. -/
def spanSortsUptoRow : OpenClaim := { program := "ytkcnfdffemddlaa", sum := "b6d814c6344c0bd7699b24e9c7f765476931d1d5718b5edcf0dcb8d861b8c514", func := "merkhet/merkhetlaw01.SpanSorts", spec := "spanSorts", inPlace := ["internal/bytealg.abigen_runtime_cmpstring"], unfollowed := true, recurses := true, apart := false, narrowed := true }
def SpanSortsUptoSaid : Prop := spanSortsUptoRow.holds Try.pinned (OpenSpec.upto spanSortsSpec)

end Rows
end Go.Proofs.Ytkcnfdffemddlaa
