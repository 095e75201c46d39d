/- Texts joined by wip/tools/merge.py: WInvWords. -/
import Derived.Test.YtmfdhcgdibefiaaJStatsTallies17
import Derived.Test.YtmfdhcgdibefiaaJStatsTallies14
namespace Go.Proofs.YtmfdhcgdibefiaaW.PrintWords
open Go.RowKit
end Go.Proofs.YtmfdhcgdibefiaaW.PrintWords
namespace Go.Proofs.YtmfdhcgdibefiaaW.PrintLast
section
variable {ops : Array Oper} {a : Act} {o og : Oper} {g : Nat} {t : Tmp} {u : Bool}
end
end Go.Proofs.YtmfdhcgdibefiaaW.PrintLast

