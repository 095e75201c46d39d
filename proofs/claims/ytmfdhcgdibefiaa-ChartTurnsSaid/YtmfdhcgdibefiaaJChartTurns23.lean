/- Texts joined by wip/tools/merge.py: WSized. -/
import Derived.SizedLaws
import Derived.ChangeSlices
namespace Go.Proofs.YtmfdhcgdibefiaaW.PrintWords
open Go.ChangeShapes Go.WideShapes
end Go.Proofs.YtmfdhcgdibefiaaW.PrintWords

