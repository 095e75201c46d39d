-- Written by wip/tools/row.py, a program of this session. Lean checks it.
import Derived.Test.YtkpmaenhkjfncaaTx0
import Derived.Test.YtkpmaenhkjfncaaOpen
import Derived.KernelRfl
import Derived.Test.YtkpmaenhkjfncaaQOpens
namespace Go.Proofs.Ytkpmaenhkjfncaa.T
open Go.RowKit Go.Proofs.YtkpmaenhkjfncaaW.PrintWords Go.Proofs.YtkpmaenhkjfncaaW.Open Go.Proofs.Ytkpmaenhkjfncaa.Q
set_option linter.unusedVariables false

end Go.Proofs.Ytkpmaenhkjfncaa.T
