/-
  No cell of these rows narrows 'for every input' (looked for: loops, veiled, ifaces, maps, wideKeys, modest, calm, conditions, laid).
  DERIVED. THE GIVEN ROWS OF THIS SEAT. 6 by the template 'for every input the law returns true; each argument reads behind the call as it read before'; 0 by the template 'total and deterministic' (their statements: YtgknjgionicncaaGreatTotals.lean).
  GIVEN WITH THE SEED: the statements are not yours to turn. If you find one false, say at which input.
  Laid BY PROGRAM, IN A SANDBOX (cutbox-rows.mjs): the forced cells as the released guide's own fill.sh prints them over the translation 04624fbce7ee997b… (all of the seat's roots in one cut). By AI agents, Wed Nov 11 2026. No macro, syntax, notation, axiom, sorry.
-/
import Derived.Test.YtgknjgionicncaaGreatChecked
import GoSem.Claim
import GoSem.ClaimJoined
import GoSem.ClaimMapViews
import Derived.JoinedTies
import Derived.KernelRfl
namespace Go.Proofs.YtgknjgionicncaaGreat
/- THE CELL 'sum', in the pinned program and in every row, IS THE sha256 OF THE DUMP (.gsa) THAT YtgknjgionicncaaGreatProg.lean LOADS. Nothing in Lean hashes anything: it is a label: what it is worth is what the hold of that sum in a sandbox is worth. -/
noncomputable def Tryz.pinned : Pinned := { name := "ytgknjgionicncaagreat", sum := "04624fbce7ee997b91dbaf6065835ff4f16773950ca02c02d407de6b75bdbef7", checked := Tryz.checked }
namespace Rows
def none {H : Type} : Left H := { results := [], args := [] }

/-- 'merkhetlaw20.VerdictOf': WHATEVER THE INPUT: true; the input reads as it did. -/
def verdictOfSpec : ChangeSpec := { name := "verdictOf", fn := fun _ => fun
  | [d1, d2] => { results := [.lit (.bool true)], args := [d1, d2] }
  | _ => none }
def verdictOfRow : OpenClaim := { program := "ytgknjgionicncaagreat", sum := "04624fbce7ee997b91dbaf6065835ff4f16773950ca02c02d407de6b75bdbef7", func := "merkhet/merkhetlaw20.VerdictOf", spec := "verdictOf", inPlace := ["internal/bytealg.abigen_runtime_cmpstring"], unfollowed := true, recurses := true, apart := false }
def VerdictOfSaid : Prop := verdictOfRow.holds Tryz.pinned (OpenSpec.ofChange verdictOfSpec)

/-- ITS FALSE NEIGHBOUR: 'it returns false'. Refute it at one input. -/
def verdictOfWrong : ChangeSpec := { name := "verdictOf", fn := fun _ => fun
  | [d1, d2] => { results := [.lit (.bool false)], args := [d1, d2] }
  | _ => none }
def VerdictOfWrongFalsely : Prop := verdictOfRow.holds Tryz.pinned (OpenSpec.ofChange verdictOfWrong)

/-- 'merkhetlaw20.VerdictSet': WHATEVER THE INPUT: true; the input reads as it did. -/
def verdictSetSpec : ChangeSpec := { name := "verdictSet", fn := fun _ => fun
  | [d1, d2, d3] => { results := [.lit (.bool true)], args := [d1, d2, d3] }
  | _ => none }
def verdictSetRow : OpenClaim := { program := "ytgknjgionicncaagreat", sum := "04624fbce7ee997b91dbaf6065835ff4f16773950ca02c02d407de6b75bdbef7", func := "merkhet/merkhetlaw20.VerdictSet", spec := "verdictSet", inPlace := ["internal/bytealg.abigen_runtime_cmpstring"], unfollowed := true, recurses := true, apart := false }
def VerdictSetSaid : Prop := verdictSetRow.holds Tryz.pinned (OpenSpec.ofChange verdictSetSpec)

/-- ITS FALSE NEIGHBOUR: 'it returns false'. Refute it at one input. -/
def verdictSetWrong : ChangeSpec := { name := "verdictSet", fn := fun _ => fun
  | [d1, d2, d3] => { results := [.lit (.bool false)], args := [d1, d2, d3] }
  | _ => none }
def VerdictSetWrongFalsely : Prop := verdictSetRow.holds Tryz.pinned (OpenSpec.ofChange verdictSetWrong)

/-- 'merkhetlaw20.VerdictSpans': WHATEVER THE INPUT: true; the input reads as it did. -/
def verdictSpansSpec : ChangeSpec := { name := "verdictSpans", fn := fun _ => fun
  | [d1, d2] => { results := [.lit (.bool true)], args := [d1, d2] }
  | _ => none }
def verdictSpansRow : OpenClaim := { program := "ytgknjgionicncaagreat", sum := "04624fbce7ee997b91dbaf6065835ff4f16773950ca02c02d407de6b75bdbef7", func := "merkhet/merkhetlaw20.VerdictSpans", spec := "verdictSpans", inPlace := ["internal/bytealg.abigen_runtime_cmpstring"], unfollowed := true, recurses := true, apart := false }
def VerdictSpansSaid : Prop := verdictSpansRow.holds Tryz.pinned (OpenSpec.ofChange verdictSpansSpec)

/-- ITS FALSE NEIGHBOUR: 'it returns false'. Refute it at one input. -/
def verdictSpansWrong : ChangeSpec := { name := "verdictSpans", fn := fun _ => fun
  | [d1, d2] => { results := [.lit (.bool false)], args := [d1, d2] }
  | _ => none }
def VerdictSpansWrongFalsely : Prop := verdictSpansRow.holds Tryz.pinned (OpenSpec.ofChange verdictSpansWrong)

/-- 'merkhetlaw20.VerdictRight': WHATEVER THE INPUT: true; the input reads as it did. -/
def verdictRightSpec : ChangeSpec := { name := "verdictRight", fn := fun _ => fun
  | [d1, d2, d3] => { results := [.lit (.bool true)], args := [d1, d2, d3] }
  | _ => none }
def verdictRightRow : OpenClaim := { program := "ytgknjgionicncaagreat", sum := "04624fbce7ee997b91dbaf6065835ff4f16773950ca02c02d407de6b75bdbef7", func := "merkhet/merkhetlaw20.VerdictRight", spec := "verdictRight", inPlace := ["internal/bytealg.abigen_runtime_cmpstring"], unfollowed := true, recurses := true, apart := false }
def VerdictRightSaid : Prop := verdictRightRow.holds Tryz.pinned (OpenSpec.ofChange verdictRightSpec)

/-- ITS FALSE NEIGHBOUR: 'it returns false'. Refute it at one input. -/
def verdictRightWrong : ChangeSpec := { name := "verdictRight", fn := fun _ => fun
  | [d1, d2, d3] => { results := [.lit (.bool false)], args := [d1, d2, d3] }
  | _ => none }
def VerdictRightWrongFalsely : Prop := verdictRightRow.holds Tryz.pinned (OpenSpec.ofChange verdictRightWrong)

/-- 'merkhetlaw20.VerdictClamped': WHATEVER THE INPUT: true; the input reads as it did. -/
def verdictClampedSpec : ChangeSpec := { name := "verdictClamped", fn := fun _ => fun
  | [d1, d2] => { results := [.lit (.bool true)], args := [d1, d2] }
  | _ => none }
def verdictClampedRow : OpenClaim := { program := "ytgknjgionicncaagreat", sum := "04624fbce7ee997b91dbaf6065835ff4f16773950ca02c02d407de6b75bdbef7", func := "merkhet/merkhetlaw20.VerdictClamped", spec := "verdictClamped", inPlace := ["internal/bytealg.abigen_runtime_cmpstring"], unfollowed := true, recurses := true, apart := false }
def VerdictClampedSaid : Prop := verdictClampedRow.holds Tryz.pinned (OpenSpec.ofChange verdictClampedSpec)

/-- ITS FALSE NEIGHBOUR: 'it returns false'. Refute it at one input. -/
def verdictClampedWrong : ChangeSpec := { name := "verdictClamped", fn := fun _ => fun
  | [d1, d2] => { results := [.lit (.bool false)], args := [d1, d2] }
  | _ => none }
def VerdictClampedWrongFalsely : Prop := verdictClampedRow.holds Tryz.pinned (OpenSpec.ofChange verdictClampedWrong)

/-- 'merkhetlaw20.VerdictAdjusted': WHATEVER THE INPUT: true; the input reads as it did. -/
def verdictAdjustedSpec : ChangeSpec := { name := "verdictAdjusted", fn := fun _ => fun
  | [d1, d2] => { results := [.lit (.bool true)], args := [d1, d2] }
  | _ => none }
def verdictAdjustedRow : OpenClaim := { program := "ytgknjgionicncaagreat", sum := "04624fbce7ee997b91dbaf6065835ff4f16773950ca02c02d407de6b75bdbef7", func := "merkhet/merkhetlaw20.VerdictAdjusted", spec := "verdictAdjusted", inPlace := ["internal/bytealg.abigen_runtime_cmpstring", "math/bits.Add64"], unfollowed := true, recurses := true, apart := false }
def VerdictAdjustedSaid : Prop := verdictAdjustedRow.holds Tryz.pinned (OpenSpec.ofChange verdictAdjustedSpec)

/-- ITS FALSE NEIGHBOUR: 'it returns false'. Refute it at one input. -/
def verdictAdjustedWrong : ChangeSpec := { name := "verdictAdjusted", fn := fun _ => fun
  | [d1, d2] => { results := [.lit (.bool false)], args := [d1, d2] }
  | _ => none }
def VerdictAdjustedWrongFalsely : Prop := verdictAdjustedRow.holds Tryz.pinned (OpenSpec.ofChange verdictAdjustedWrong)

/- THE SECOND FORM. 'bulk': how many values and letters a reading holds, each counted each time it is reached (what is shared counts as often as it is met; a slice's spare places count too). A statement '..UptoSaid' is the law's where the arguments, and the package variables that the reading takes, are together of bulk at most 1048576: NARROWER than '..Said'. Prove '..Said' where nothing that the law and all that it calls make is longer than what came in: it says more and counts as full. Else prove '..UptoSaid'. A law counts once. -/
mutual
def uptoBulk {H : Type} : DataW H → Nat
  | .lit (.string bytes) => bytes.length + 1
  | .lit _ => 1
  | .nil => 1
  | .ptr d => uptoBulk d + 1
  | .slice elems spare => uptoBulkAll elems + uptoBulkAll spare + 1
  | .agg parts => uptoBulkAll parts + 1
  | .iface _ d => uptoBulk d + 1
  | .map entries => uptoBulkEntries entries + 1
  | .held _ => 1
def uptoBulkAll {H : Type} : List (DataW H) → Nat
  | [] => 0
  | d :: r => uptoBulk d + uptoBulkAll r
def uptoBulkEntries {H : Type} : List (Lit × DataW H) → Nat
  | [] => 0
  | x :: r => uptoBulkEntry x + uptoBulkEntries r
def uptoBulkEntry {H : Type} : Lit × DataW H → Nat
  | (.string bytes, d) => bytes.length + uptoBulk d + 1
  | (_, d) => uptoBulk d + 1
 end
def uptoSmall : (H : Type) → List (DataW H) → Bool := fun _ ds => decide (uptoBulkAll ds ≤ 1048576)
def OpenSpec.upto (s : _root_.Go.ChangeSpec) : _root_.Go.OpenSpec := { _root_.Go.OpenSpec.ofChange s with cond := some uptoSmall }

/-- 'merkhetlaw20.VerdictOf', WHERE WHAT IT READS IS OF BULK AT MOST 1048576: true; the input reads as it did. -/
def verdictOfUptoRow : OpenClaim := { program := "ytgknjgionicncaagreat", sum := "04624fbce7ee997b91dbaf6065835ff4f16773950ca02c02d407de6b75bdbef7", func := "merkhet/merkhetlaw20.VerdictOf", spec := "verdictOf", inPlace := ["internal/bytealg.abigen_runtime_cmpstring"], unfollowed := true, recurses := true, apart := false, narrowed := true }
def VerdictOfUptoSaid : Prop := verdictOfUptoRow.holds Tryz.pinned (OpenSpec.upto verdictOfSpec)

/-- 'merkhetlaw20.VerdictSet', WHERE WHAT IT READS IS OF BULK AT MOST 1048576: true; the input reads as it did. -/
def verdictSetUptoRow : OpenClaim := { program := "ytgknjgionicncaagreat", sum := "04624fbce7ee997b91dbaf6065835ff4f16773950ca02c02d407de6b75bdbef7", func := "merkhet/merkhetlaw20.VerdictSet", spec := "verdictSet", inPlace := ["internal/bytealg.abigen_runtime_cmpstring"], unfollowed := true, recurses := true, apart := false, narrowed := true }
def VerdictSetUptoSaid : Prop := verdictSetUptoRow.holds Tryz.pinned (OpenSpec.upto verdictSetSpec)

/-- 'merkhetlaw20.VerdictSpans', WHERE WHAT IT READS IS OF BULK AT MOST 1048576: true; the input reads as it did. -/
def verdictSpansUptoRow : OpenClaim := { program := "ytgknjgionicncaagreat", sum := "04624fbce7ee997b91dbaf6065835ff4f16773950ca02c02d407de6b75bdbef7", func := "merkhet/merkhetlaw20.VerdictSpans", spec := "verdictSpans", inPlace := ["internal/bytealg.abigen_runtime_cmpstring"], unfollowed := true, recurses := true, apart := false, narrowed := true }
def VerdictSpansUptoSaid : Prop := verdictSpansUptoRow.holds Tryz.pinned (OpenSpec.upto verdictSpansSpec)

/-- 'merkhetlaw20.VerdictRight', WHERE WHAT IT READS IS OF BULK AT MOST 1048576: true; the input reads as it did. -/
def verdictRightUptoRow : OpenClaim := { program := "ytgknjgionicncaagreat", sum := "04624fbce7ee997b91dbaf6065835ff4f16773950ca02c02d407de6b75bdbef7", func := "merkhet/merkhetlaw20.VerdictRight", spec := "verdictRight", inPlace := ["internal/bytealg.abigen_runtime_cmpstring"], unfollowed := true, recurses := true, apart := false, narrowed := true }
def VerdictRightUptoSaid : Prop := verdictRightUptoRow.holds Tryz.pinned (OpenSpec.upto verdictRightSpec)

/-- 'merkhetlaw20.VerdictClamped', WHERE WHAT IT READS IS OF BULK AT MOST 1048576: true; the input reads as it did. -/
def verdictClampedUptoRow : OpenClaim := { program := "ytgknjgionicncaagreat", sum := "04624fbce7ee997b91dbaf6065835ff4f16773950ca02c02d407de6b75bdbef7", func := "merkhet/merkhetlaw20.VerdictClamped", spec := "verdictClamped", inPlace := ["internal/bytealg.abigen_runtime_cmpstring"], unfollowed := true, recurses := true, apart := false, narrowed := true }
def VerdictClampedUptoSaid : Prop := verdictClampedUptoRow.holds Tryz.pinned (OpenSpec.upto verdictClampedSpec)

/-- 'merkhetlaw20.VerdictAdjusted', WHERE WHAT IT READS IS OF BULK AT MOST 1048576: true; the input reads as it did. -/
def verdictAdjustedUptoRow : OpenClaim := { program := "ytgknjgionicncaagreat", sum := "04624fbce7ee997b91dbaf6065835ff4f16773950ca02c02d407de6b75bdbef7", func := "merkhet/merkhetlaw20.VerdictAdjusted", spec := "verdictAdjusted", inPlace := ["internal/bytealg.abigen_runtime_cmpstring", "math/bits.Add64"], unfollowed := true, recurses := true, apart := false, narrowed := true }
def VerdictAdjustedUptoSaid : Prop := verdictAdjustedUptoRow.holds Tryz.pinned (OpenSpec.upto verdictAdjustedSpec)

end Rows
end Go.Proofs.YtgknjgionicncaaGreat
