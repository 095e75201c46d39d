/-
  No cell of these rows narrows 'for every input' (looked for: loops, veiled, ifaces, maps, wideKeys, modest, calm, conditions, laid).
  DERIVED. THE GIVEN ROWS OF THIS SEAT. 8 by the template 'for every input the law returns true; each argument reads behind the call as it read before'; 0 by the template 'total and deterministic' (their statements: YtjgpggjjgimibaaTotals.lean).
  GIVEN WITH THE SEED: the statements are not yours to turn. If you find one false, say at which input.
  Laid BY PROGRAM, IN A SANDBOX (cutbox-rows.mjs): the forced cells as the released guide's own fill.sh prints them over the translation ae11d8b669535687… (all of the seat's roots in one cut). By AI agents, Wed Nov 11 2026. No macro, syntax, notation, axiom, sorry.
-/
import Derived.Test.YtjgpggjjgimibaaChecked
import GoSem.Claim
import GoSem.ClaimJoined
import GoSem.ClaimMapViews
import Derived.JoinedTies
import Derived.KernelRfl
namespace Go.Proofs.Ytjgpggjjgimibaa
/- THE CELL 'sum', in the pinned program and in every row, IS THE sha256 OF THE DUMP (.gsa) THAT YtjgpggjjgimibaaProg.lean LOADS. Nothing in Lean hashes anything: it is a label: what it is worth is what the hold of that sum in a sandbox is worth. -/
noncomputable def Try.pinned : Pinned := { name := "ytjgpggjjgimibaa", sum := "ae11d8b66953568724ee630baeeb347bf40b5947fb88c3983dd22bffea16c6d8", checked := Try.checked }
namespace Rows
def none {H : Type} : Left H := { results := [], args := [] }

/-- 'merkhetlaw14.BoundOf': WHATEVER THE INPUT: true; the input reads as it did. -/
def boundOfSpec : ChangeSpec := { name := "boundOf", fn := fun _ => fun
  | [d1, d2] => { results := [.lit (.bool true)], args := [d1, d2] }
  | _ => none }
def boundOfRow : OpenClaim := { program := "ytjgpggjjgimibaa", sum := "ae11d8b66953568724ee630baeeb347bf40b5947fb88c3983dd22bffea16c6d8", func := "merkhet/merkhetlaw14.BoundOf", spec := "boundOf", unfollowed := true, recurses := true, apart := false }
def BoundOfSaid : Prop := boundOfRow.holds Try.pinned (OpenSpec.ofChange boundOfSpec)

/-- ITS FALSE NEIGHBOUR: 'it returns false'. Refute it at one input. -/
def boundOfWrong : ChangeSpec := { name := "boundOf", fn := fun _ => fun
  | [d1, d2] => { results := [.lit (.bool false)], args := [d1, d2] }
  | _ => none }
def BoundOfWrongFalsely : Prop := boundOfRow.holds Try.pinned (OpenSpec.ofChange boundOfWrong)

/-- 'merkhetlaw14.BoundHolds': WHATEVER THE INPUT: true; the input reads as it did. -/
def boundHoldsSpec : ChangeSpec := { name := "boundHolds", fn := fun _ => fun
  | [d1, d2] => { results := [.lit (.bool true)], args := [d1, d2] }
  | _ => none }
def boundHoldsRow : OpenClaim := { program := "ytjgpggjjgimibaa", sum := "ae11d8b66953568724ee630baeeb347bf40b5947fb88c3983dd22bffea16c6d8", func := "merkhet/merkhetlaw14.BoundHolds", spec := "boundHolds", inPlace := ["math/bits.Add64"], unfollowed := true, recurses := true, apart := false }
def BoundHoldsSaid : Prop := boundHoldsRow.holds Try.pinned (OpenSpec.ofChange boundHoldsSpec)

/-- ITS FALSE NEIGHBOUR: 'it returns false'. Refute it at one input. -/
def boundHoldsWrong : ChangeSpec := { name := "boundHolds", fn := fun _ => fun
  | [d1, d2] => { results := [.lit (.bool false)], args := [d1, d2] }
  | _ => none }
def BoundHoldsWrongFalsely : Prop := boundHoldsRow.holds Try.pinned (OpenSpec.ofChange boundHoldsWrong)

/-- 'merkhetlaw14.BoundMeans': WHATEVER THE INPUT: true; the input reads as it did. -/
def boundMeansSpec : ChangeSpec := { name := "boundMeans", fn := fun _ => fun
  | [d1, d2] => { results := [.lit (.bool true)], args := [d1, d2] }
  | _ => none }
def boundMeansRow : OpenClaim := { program := "ytjgpggjjgimibaa", sum := "ae11d8b66953568724ee630baeeb347bf40b5947fb88c3983dd22bffea16c6d8", func := "merkhet/merkhetlaw14.BoundMeans", spec := "boundMeans", inPlace := ["math/bits.Add64"], unfollowed := true, recurses := true, apart := false }
def BoundMeansSaid : Prop := boundMeansRow.holds Try.pinned (OpenSpec.ofChange boundMeansSpec)

/-- ITS FALSE NEIGHBOUR: 'it returns false'. Refute it at one input. -/
def boundMeansWrong : ChangeSpec := { name := "boundMeans", fn := fun _ => fun
  | [d1, d2] => { results := [.lit (.bool false)], args := [d1, d2] }
  | _ => none }
def BoundMeansWrongFalsely : Prop := boundMeansRow.holds Try.pinned (OpenSpec.ofChange boundMeansWrong)

/-- 'merkhetlaw14.BoundMoved': WHATEVER THE INPUT: true; the input reads as it did. -/
def boundMovedSpec : ChangeSpec := { name := "boundMoved", fn := fun _ => fun
  | [d1, d2, d3] => { results := [.lit (.bool true)], args := [d1, d2, d3] }
  | _ => none }
def boundMovedRow : OpenClaim := { program := "ytjgpggjjgimibaa", sum := "ae11d8b66953568724ee630baeeb347bf40b5947fb88c3983dd22bffea16c6d8", func := "merkhet/merkhetlaw14.BoundMoved", spec := "boundMoved", inPlace := ["math/bits.Add64"], unfollowed := true, recurses := true, apart := false }
def BoundMovedSaid : Prop := boundMovedRow.holds Try.pinned (OpenSpec.ofChange boundMovedSpec)

/-- ITS FALSE NEIGHBOUR: 'it returns false'. Refute it at one input. -/
def boundMovedWrong : ChangeSpec := { name := "boundMoved", fn := fun _ => fun
  | [d1, d2, d3] => { results := [.lit (.bool false)], args := [d1, d2, d3] }
  | _ => none }
def BoundMovedWrongFalsely : Prop := boundMovedRow.holds Try.pinned (OpenSpec.ofChange boundMovedWrong)

/-- 'merkhetlaw18.ShiftStarts': WHATEVER THE INPUT: true; the input reads as it did. -/
def shiftStartsSpec : ChangeSpec := { name := "shiftStarts", fn := fun _ => fun
  | [d1, d2] => { results := [.lit (.bool true)], args := [d1, d2] }
  | _ => none }
def shiftStartsRow : OpenClaim := { program := "ytjgpggjjgimibaa", sum := "ae11d8b66953568724ee630baeeb347bf40b5947fb88c3983dd22bffea16c6d8", func := "merkhet/merkhetlaw18.ShiftStarts", spec := "shiftStarts", unfollowed := true, recurses := true, apart := false }
def ShiftStartsSaid : Prop := shiftStartsRow.holds Try.pinned (OpenSpec.ofChange shiftStartsSpec)

/-- ITS FALSE NEIGHBOUR: 'it returns false'. Refute it at one input. -/
def shiftStartsWrong : ChangeSpec := { name := "shiftStarts", fn := fun _ => fun
  | [d1, d2] => { results := [.lit (.bool false)], args := [d1, d2] }
  | _ => none }
def ShiftStartsWrongFalsely : Prop := shiftStartsRow.holds Try.pinned (OpenSpec.ofChange shiftStartsWrong)

/-- 'merkhetlaw18.ShiftSolved': WHATEVER THE INPUT: true; the input reads as it did. -/
def shiftSolvedSpec : ChangeSpec := { name := "shiftSolved", fn := fun _ => fun
  | [d1, d2] => { results := [.lit (.bool true)], args := [d1, d2] }
  | _ => none }
def shiftSolvedRow : OpenClaim := { program := "ytjgpggjjgimibaa", sum := "ae11d8b66953568724ee630baeeb347bf40b5947fb88c3983dd22bffea16c6d8", func := "merkhet/merkhetlaw18.ShiftSolved", spec := "shiftSolved", unfollowed := true, recurses := true, apart := false }
def ShiftSolvedSaid : Prop := shiftSolvedRow.holds Try.pinned (OpenSpec.ofChange shiftSolvedSpec)

/-- ITS FALSE NEIGHBOUR: 'it returns false'. Refute it at one input. -/
def shiftSolvedWrong : ChangeSpec := { name := "shiftSolved", fn := fun _ => fun
  | [d1, d2] => { results := [.lit (.bool false)], args := [d1, d2] }
  | _ => none }
def ShiftSolvedWrongFalsely : Prop := shiftSolvedRow.holds Try.pinned (OpenSpec.ofChange shiftSolvedWrong)

/-- 'merkhetlaw18.ShiftRight': WHATEVER THE INPUT: true; the input reads as it did. -/
def shiftRightSpec : ChangeSpec := { name := "shiftRight", fn := fun _ => fun
  | [d] => { results := [.lit (.bool true)], args := [d] }
  | _ => none }
def shiftRightRow : OpenClaim := { program := "ytjgpggjjgimibaa", sum := "ae11d8b66953568724ee630baeeb347bf40b5947fb88c3983dd22bffea16c6d8", func := "merkhet/merkhetlaw18.ShiftRight", spec := "shiftRight", unfollowed := true, recurses := true, apart := false }
def ShiftRightSaid : Prop := shiftRightRow.holds Try.pinned (OpenSpec.ofChange shiftRightSpec)

/-- ITS FALSE NEIGHBOUR: 'it returns false'. Refute it at one input. -/
def shiftRightWrong : ChangeSpec := { name := "shiftRight", fn := fun _ => fun
  | [d] => { results := [.lit (.bool false)], args := [d] }
  | _ => none }
def ShiftRightWrongFalsely : Prop := shiftRightRow.holds Try.pinned (OpenSpec.ofChange shiftRightWrong)

/-- 'merkhetlaw18.ShiftGreatest': WHATEVER THE INPUT: true; the input reads as it did. -/
def shiftGreatestSpec : ChangeSpec := { name := "shiftGreatest", fn := fun _ => fun
  | [d1, d2] => { results := [.lit (.bool true)], args := [d1, d2] }
  | _ => none }
def shiftGreatestRow : OpenClaim := { program := "ytjgpggjjgimibaa", sum := "ae11d8b66953568724ee630baeeb347bf40b5947fb88c3983dd22bffea16c6d8", func := "merkhet/merkhetlaw18.ShiftGreatest", spec := "shiftGreatest", unfollowed := true, recurses := true, apart := false }
def ShiftGreatestSaid : Prop := shiftGreatestRow.holds Try.pinned (OpenSpec.ofChange shiftGreatestSpec)

/-- ITS FALSE NEIGHBOUR: 'it returns false'. Refute it at one input. -/
def shiftGreatestWrong : ChangeSpec := { name := "shiftGreatest", fn := fun _ => fun
  | [d1, d2] => { results := [.lit (.bool false)], args := [d1, d2] }
  | _ => none }
def ShiftGreatestWrongFalsely : Prop := shiftGreatestRow.holds Try.pinned (OpenSpec.ofChange shiftGreatestWrong)

/- THE SECOND FORM. 'bulk': how many values and letters a reading holds, each counted each time it is reached (what is shared counts as often as it is met; a slice's spare places count too). A statement '..UptoSaid' is the law's where the arguments, and the package variables that the reading takes, are together of bulk at most 1048576: NARROWER than '..Said'. Prove '..Said' where nothing that the law and all that it calls make is longer than what came in: it says more and counts as full. Else prove '..UptoSaid'. A law counts once. -/
mutual
def uptoBulk {H : Type} : DataW H → Nat
  | .lit (.string bytes) => bytes.length + 1
  | .lit _ => 1
  | .nil => 1
  | .ptr d => uptoBulk d + 1
  | .slice elems spare => uptoBulkAll elems + uptoBulkAll spare + 1
  | .agg parts => uptoBulkAll parts + 1
  | .iface _ d => uptoBulk d + 1
  | .map entries => uptoBulkEntries entries + 1
  | .held _ => 1
def uptoBulkAll {H : Type} : List (DataW H) → Nat
  | [] => 0
  | d :: r => uptoBulk d + uptoBulkAll r
def uptoBulkEntries {H : Type} : List (Lit × DataW H) → Nat
  | [] => 0
  | x :: r => uptoBulkEntry x + uptoBulkEntries r
def uptoBulkEntry {H : Type} : Lit × DataW H → Nat
  | (.string bytes, d) => bytes.length + uptoBulk d + 1
  | (_, d) => uptoBulk d + 1
 end
def uptoSmall : (H : Type) → List (DataW H) → Bool := fun _ ds => decide (uptoBulkAll ds ≤ 1048576)
def OpenSpec.upto (s : _root_.Go.ChangeSpec) : _root_.Go.OpenSpec := { _root_.Go.OpenSpec.ofChange s with cond := some uptoSmall }

/-- 'merkhetlaw14.BoundOf', WHERE WHAT IT READS IS OF BULK AT MOST 1048576: true; the input reads as it did. -/
def boundOfUptoRow : OpenClaim := { program := "ytjgpggjjgimibaa", sum := "ae11d8b66953568724ee630baeeb347bf40b5947fb88c3983dd22bffea16c6d8", func := "merkhet/merkhetlaw14.BoundOf", spec := "boundOf", unfollowed := true, recurses := true, apart := false, narrowed := true }
def BoundOfUptoSaid : Prop := boundOfUptoRow.holds Try.pinned (OpenSpec.upto boundOfSpec)

/-- 'merkhetlaw14.BoundHolds', WHERE WHAT IT READS IS OF BULK AT MOST 1048576: true; the input reads as it did. -/
def boundHoldsUptoRow : OpenClaim := { program := "ytjgpggjjgimibaa", sum := "ae11d8b66953568724ee630baeeb347bf40b5947fb88c3983dd22bffea16c6d8", func := "merkhet/merkhetlaw14.BoundHolds", spec := "boundHolds", inPlace := ["math/bits.Add64"], unfollowed := true, recurses := true, apart := false, narrowed := true }
def BoundHoldsUptoSaid : Prop := boundHoldsUptoRow.holds Try.pinned (OpenSpec.upto boundHoldsSpec)

/-- 'merkhetlaw14.BoundMeans', WHERE WHAT IT READS IS OF BULK AT MOST 1048576: true; the input reads as it did. -/
def boundMeansUptoRow : OpenClaim := { program := "ytjgpggjjgimibaa", sum := "ae11d8b66953568724ee630baeeb347bf40b5947fb88c3983dd22bffea16c6d8", func := "merkhet/merkhetlaw14.BoundMeans", spec := "boundMeans", inPlace := ["math/bits.Add64"], unfollowed := true, recurses := true, apart := false, narrowed := true }
def BoundMeansUptoSaid : Prop := boundMeansUptoRow.holds Try.pinned (OpenSpec.upto boundMeansSpec)

/-- 'merkhetlaw14.BoundMoved', WHERE WHAT IT READS IS OF BULK AT MOST 1048576: true; the input reads as it did. -/
def boundMovedUptoRow : OpenClaim := { program := "ytjgpggjjgimibaa", sum := "ae11d8b66953568724ee630baeeb347bf40b5947fb88c3983dd22bffea16c6d8", func := "merkhet/merkhetlaw14.BoundMoved", spec := "boundMoved", inPlace := ["math/bits.Add64"], unfollowed := true, recurses := true, apart := false, narrowed := true }
def BoundMovedUptoSaid : Prop := boundMovedUptoRow.holds Try.pinned (OpenSpec.upto boundMovedSpec)

/-- 'merkhetlaw18.ShiftStarts', WHERE WHAT IT READS IS OF BULK AT MOST 1048576: true; the input reads as it did. -/
def shiftStartsUptoRow : OpenClaim := { program := "ytjgpggjjgimibaa", sum := "ae11d8b66953568724ee630baeeb347bf40b5947fb88c3983dd22bffea16c6d8", func := "merkhet/merkhetlaw18.ShiftStarts", spec := "shiftStarts", unfollowed := true, recurses := true, apart := false, narrowed := true }
def ShiftStartsUptoSaid : Prop := shiftStartsUptoRow.holds Try.pinned (OpenSpec.upto shiftStartsSpec)

/-- 'merkhetlaw18.ShiftSolved', WHERE WHAT IT READS IS OF BULK AT MOST 1048576: true; the input reads as it did. -/
def shiftSolvedUptoRow : OpenClaim := { program := "ytjgpggjjgimibaa", sum := "ae11d8b66953568724ee630baeeb347bf40b5947fb88c3983dd22bffea16c6d8", func := "merkhet/merkhetlaw18.ShiftSolved", spec := "shiftSolved", unfollowed := true, recurses := true, apart := false, narrowed := true }
def ShiftSolvedUptoSaid : Prop := shiftSolvedUptoRow.holds Try.pinned (OpenSpec.upto shiftSolvedSpec)

/-- 'merkhetlaw18.ShiftRight', WHERE WHAT IT READS IS OF BULK AT MOST 1048576: true; the input reads as it did. -/
def shiftRightUptoRow : OpenClaim := { program := "ytjgpggjjgimibaa", sum := "ae11d8b66953568724ee630baeeb347bf40b5947fb88c3983dd22bffea16c6d8", func := "merkhet/merkhetlaw18.ShiftRight", spec := "shiftRight", unfollowed := true, recurses := true, apart := false, narrowed := true }
def ShiftRightUptoSaid : Prop := shiftRightUptoRow.holds Try.pinned (OpenSpec.upto shiftRightSpec)

/-- 'merkhetlaw18.ShiftGreatest', WHERE WHAT IT READS IS OF BULK AT MOST 1048576: true; the input reads as it did. -/
def shiftGreatestUptoRow : OpenClaim := { program := "ytjgpggjjgimibaa", sum := "ae11d8b66953568724ee630baeeb347bf40b5947fb88c3983dd22bffea16c6d8", func := "merkhet/merkhetlaw18.ShiftGreatest", spec := "shiftGreatest", unfollowed := true, recurses := true, apart := false, narrowed := true }
def ShiftGreatestUptoSaid : Prop := shiftGreatestUptoRow.holds Try.pinned (OpenSpec.upto shiftGreatestSpec)

end Rows
end Go.Proofs.Ytjgpggjjgimibaa
