/- Texts joined by wip/tools/merge.py: WFootNe. -/
import Derived.Test.YtgknjgionicncaaGreatJVerdictRight9
namespace Go.Proofs.YtgknjgionicncaaGreatW.PrintWords
open Go.RowKit
namespace Kd
section
variable {α : Type} {d : Kd α} {W : World} {g n : Nat} {S ok : Nat → Prop} {A : Option Addr} {ad : Addr} {xs : List α}
end
end Kd
end Go.Proofs.YtgknjgionicncaaGreatW.PrintWords
