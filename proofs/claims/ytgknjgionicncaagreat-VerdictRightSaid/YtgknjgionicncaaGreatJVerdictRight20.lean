/- Texts joined by wip/tools/merge.py: WInvWords. -/
import Derived.Test.YtgknjgionicncaaGreatJVerdictRight19
import Derived.Test.YtgknjgionicncaaGreatJVerdictRight15
namespace Go.Proofs.YtgknjgionicncaaGreatW.PrintWords
open Go.RowKit
end Go.Proofs.YtgknjgionicncaaGreatW.PrintWords
namespace Go.Proofs.YtgknjgionicncaaGreatW.PrintLast
section
variable {ops : Array Oper} {a : Act} {o og : Oper} {g : Nat} {t : Tmp} {u : Bool}
end
end Go.Proofs.YtgknjgionicncaaGreatW.PrintLast
