/- Texts joined by wip/tools/merge.py: ArrE. -/
import Derived.ChangeKeysEq
import Derived.Test.YtmfdhcgdibefiaaJStatsMore1
/- Arrays, compared. -/
namespace Go.Proofs.YtmfdhcgdibefiaaW.ArrE
open Go.RowKit Go.Proofs.YtmfdhcgdibefiaaW.PrintWords
section
variable {P : Program} {w : World} {d c i : Nat} {e : TypeId} {xs ys : Array Value} {a b : Value} {r s : Bool} {is : List Nat}
end
end Go.Proofs.YtmfdhcgdibefiaaW.ArrE

