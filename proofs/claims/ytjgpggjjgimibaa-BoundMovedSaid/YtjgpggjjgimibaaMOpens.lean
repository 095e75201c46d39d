-- Written by wip/tools/row.py, a program of this session. Lean checks it.
import Derived.Test.YtjgpggjjgimibaaMx0
import Derived.Test.YtjgpggjjgimibaaOpen
import Derived.KernelRfl
import Derived.Test.YtjgpggjjgimibaaQOpens
namespace Go.Proofs.Ytjgpggjjgimibaa.M
open Go.RowKit Go.Proofs.YtjgpggjjgimibaaW.PrintWords Go.Proofs.YtjgpggjjgimibaaW.Open Go.Proofs.Ytjgpggjjgimibaa.Q
set_option linter.unusedVariables false

end Go.Proofs.Ytjgpggjjgimibaa.M
