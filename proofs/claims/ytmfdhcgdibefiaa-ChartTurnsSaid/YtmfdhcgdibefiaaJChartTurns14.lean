/- Texts joined by wip/tools/merge.py: WFour. -/
import Derived.Test.YtmfdhcgdibefiaaJChartTurns13
/-! ### 56. Four, five, six operations that may come up next, in any order -/
namespace Go.Proofs.YtmfdhcgdibefiaaW.PrintLast
section
variable {P : Program} {ops : Array Oper} {Q : Exit → Act → World → Prop} {md : Region.Mode} {S : World → Prop} {ds : List Nat} {T : Bool × List (List Nat × List Nat)}
end
end Go.Proofs.YtmfdhcgdibefiaaW.PrintLast

