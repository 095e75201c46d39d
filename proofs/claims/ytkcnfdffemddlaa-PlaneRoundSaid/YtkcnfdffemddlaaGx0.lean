/- Arrays of two, as kinds. -/
import Derived.Test.YtkcnfdffemddlaaWWords
import Derived.Test.YtkcnfdffemddlaaProg
namespace Go.Proofs.Ytkcnfdffemddlaa.G
open Go.RowKit Go.Proofs.YtkcnfdffemddlaaW.PrintWords
set_option linter.unusedVariables false
structure S48 where
  f0 : Int
  f1 : Int
def k48 : Kd S48 := Kd.iso (Kd.pair (Kd.int .i32) (Kd.int .i32)) (fun x : S48 => (x.f0, x.f1))
theorem k48_open {w : World} {x : S48} {cs : List Value} (h : k48.K w x cs) : cs = [.int .i32 x.f0, .int .i32 x.f1] := by
  obtain ⟨_, _, rfl, rfl, rfl⟩ := h
  exact rfl
structure S50 where
  f0 : Int
  f1 : Int
def k50 : Kd S50 := Kd.iso (Kd.pair (Kd.int .i16) (Kd.int .i16)) (fun x : S50 => (x.f0, x.f1))
theorem k50_open {w : World} {x : S50} {cs : List Value} (h : k50.K w x cs) : cs = [.int .i16 x.f0, .int .i16 x.f1] := by
  obtain ⟨_, _, rfl, rfl, rfl⟩ := h
  exact rfl
end Go.Proofs.Ytkcnfdffemddlaa.G
