/- Texts joined by wip/tools/merge.py: WInvWords. -/
import Derived.Test.YtmfdhcgdibefiaaJChartTurns19
import Derived.Test.YtmfdhcgdibefiaaJChartTurns15
namespace Go.Proofs.YtmfdhcgdibefiaaW.PrintWords
open Go.RowKit
end Go.Proofs.YtmfdhcgdibefiaaW.PrintWords
namespace Go.Proofs.YtmfdhcgdibefiaaW.PrintLast
section
variable {ops : Array Oper} {a : Act} {o og : Oper} {g : Nat} {t : Tmp} {u : Bool}
end
end Go.Proofs.YtmfdhcgdibefiaaW.PrintLast

