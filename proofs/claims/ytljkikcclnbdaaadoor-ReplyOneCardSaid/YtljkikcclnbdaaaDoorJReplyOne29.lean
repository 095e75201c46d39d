/- Texts joined by wip/tools/merge.py: WOpens. -/
import Derived.Test.YtljkikcclnbdaaaDoorJReplyOne27
import Derived.Test.YtljkikcclnbdaaaDoorJReplyOne25
import Derived.KernelRfl
import Derived.Test.YtljkikcclnbdaaaDoorJReplyOne28
-- Written by wip/tools/row.py, a program of this session. Lean checks it.
namespace Go.Proofs.YtljkikcclnbdaaaDoor.W
open Go.RowKit Go.Proofs.YtljkikcclnbdaaaDoorW.PrintWords Go.Proofs.YtljkikcclnbdaaaDoorW.Open Go.Proofs.YtljkikcclnbdaaaDoor.Q Go.Proofs.YtljkikcclnbdaaaDoor.P
set_option linter.unusedVariables false

end Go.Proofs.YtljkikcclnbdaaaDoor.W

