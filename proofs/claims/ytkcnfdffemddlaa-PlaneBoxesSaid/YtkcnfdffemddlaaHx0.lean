/- The document's Num, as a kind. -/
import Derived.Test.YtkcnfdffemddlaaWWords
import Derived.Test.YtkcnfdffemddlaaProg
namespace Go.Proofs.Ytkcnfdffemddlaa.H
open Go.RowKit Go.Proofs.YtkcnfdffemddlaaW.PrintWords
set_option linter.unusedVariables false
structure S24 where
  f0 : Int
  f1 : Int
def k24 : Kd S24 := Kd.iso (Kd.pair (Kd.int .u64) (Kd.int .u64)) (fun x : S24 => (x.f0, x.f1))
theorem k24_open {w : World} {x : S24} {cs : List Value} (h : k24.K w x cs) : cs = [.int .u64 x.f0, .int .u64 x.f1] := by
  obtain ⟨_, _, rfl, rfl, rfl⟩ := h
  exact rfl
end Go.Proofs.Ytkcnfdffemddlaa.H
