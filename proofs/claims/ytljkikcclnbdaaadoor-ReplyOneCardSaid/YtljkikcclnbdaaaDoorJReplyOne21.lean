/- Texts joined by wip/tools/merge.py: WInvWords. -/
import Derived.Test.YtljkikcclnbdaaaDoorJReplyOne20
import Derived.Test.YtljkikcclnbdaaaDoorJReplyOne16
namespace Go.Proofs.YtljkikcclnbdaaaDoorW.PrintWords
open Go.RowKit
end Go.Proofs.YtljkikcclnbdaaaDoorW.PrintWords
namespace Go.Proofs.YtljkikcclnbdaaaDoorW.PrintLast
section
variable {ops : Array Oper} {a : Act} {o og : Oper} {g : Nat} {t : Tmp} {u : Bool}
end
end Go.Proofs.YtljkikcclnbdaaaDoorW.PrintLast

