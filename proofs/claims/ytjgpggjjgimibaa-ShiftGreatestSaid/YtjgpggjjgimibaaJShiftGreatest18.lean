/- Texts joined by wip/tools/merge.py: WInvWords. -/
import Derived.Test.YtjgpggjjgimibaaJShiftGreatest17
import Derived.Test.YtjgpggjjgimibaaJShiftGreatest13
namespace Go.Proofs.YtjgpggjjgimibaaW.PrintWords
open Go.RowKit
end Go.Proofs.YtjgpggjjgimibaaW.PrintWords
namespace Go.Proofs.YtjgpggjjgimibaaW.PrintLast
section
variable {ops : Array Oper} {a : Act} {o og : Oper} {g : Nat} {t : Tmp} {u : Bool}
end
end Go.Proofs.YtjgpggjjgimibaaW.PrintLast

