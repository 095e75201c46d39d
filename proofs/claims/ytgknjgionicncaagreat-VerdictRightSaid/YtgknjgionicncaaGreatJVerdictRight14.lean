/- Texts joined by wip/tools/merge.py: WFour. -/
import Derived.Test.YtgknjgionicncaaGreatJVerdictRight13
namespace Go.Proofs.YtgknjgionicncaaGreatW.PrintLast
section
variable {P : Program} {ops : Array Oper} {Q : Exit → Act → World → Prop} {md : Region.Mode} {S : World → Prop} {ds : List Nat} {T : Bool × List (List Nat × List Nat)}
end
end Go.Proofs.YtgknjgionicncaaGreatW.PrintLast
