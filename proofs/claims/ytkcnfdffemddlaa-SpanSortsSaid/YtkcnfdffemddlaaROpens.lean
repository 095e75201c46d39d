-- Written by wip/tools/row.py, a program of this session. Lean checks it.
import Derived.Test.YtkcnfdffemddlaaRx0
import Derived.Test.YtkcnfdffemddlaaOpen
import Derived.KernelRfl
import Derived.Test.YtkcnfdffemddlaaQOpens
namespace Go.Proofs.Ytkcnfdffemddlaa.R
open Go.RowKit Go.Proofs.YtkcnfdffemddlaaW.PrintWords Go.Proofs.YtkcnfdffemddlaaW.Open Go.Proofs.Ytkcnfdffemddlaa.Q
set_option linter.unusedVariables false

end Go.Proofs.Ytkcnfdffemddlaa.R
