/-
  No cell of these rows narrows 'for every input' (looked for: loops, veiled, ifaces, maps, wideKeys, modest, calm, conditions, laid).
  DERIVED. THE GIVEN ROWS OF THIS SEAT. 10 by the template 'for every input the law returns true; each argument reads behind the call as it read before'; 0 by the template 'total and deterministic' (their statements: YtkpmaenhkjfncaaTotals.lean).
  GIVEN WITH THE SEED: the statements are not yours to turn. If you find one false, say at which input.
  Laid BY PROGRAM, IN A SANDBOX (cutbox-rows.mjs): the forced cells as the released guide's own fill.sh prints them over the translation 657ef75f4abee625… (all of the seat's roots in one cut). By AI agents, Wed Nov 11 2026. No macro, syntax, notation, axiom, sorry.
-/
import Derived.Test.YtkpmaenhkjfncaaChecked
import GoSem.Claim
import GoSem.ClaimJoined
import GoSem.ClaimMapViews
import Derived.JoinedTies
import Derived.KernelRfl
namespace Go.Proofs.Ytkpmaenhkjfncaa
/- THE CELL 'sum', in the pinned program and in every row, IS THE sha256 OF THE DUMP (.gsa) THAT YtkpmaenhkjfncaaProg.lean LOADS. Nothing in Lean hashes anything: it is a label: what it is worth is what the hold of that sum in a sandbox is worth. -/
noncomputable def Try.pinned : Pinned := { name := "ytkpmaenhkjfncaa", sum := "657ef75f4abee625046e5ed4672e9e5d0d5eaae51a5b78bd88672b8cc0c2066b", checked := Try.checked }
namespace Rows
def none {H : Type} : Left H := { results := [], args := [] }

/-- 'merkhetlaw13.HostsGreat': WHATEVER THE INPUT: true; the input reads as it did. -/
def hostsGreatSpec : ChangeSpec := { name := "hostsGreat", fn := fun _ => fun
  | [d1, d2] => { results := [.lit (.bool true)], args := [d1, d2] }
  | _ => none }
def hostsGreatRow : OpenClaim := { program := "ytkpmaenhkjfncaa", sum := "657ef75f4abee625046e5ed4672e9e5d0d5eaae51a5b78bd88672b8cc0c2066b", func := "merkhet/merkhetlaw13.HostsGreat", spec := "hostsGreat", recurses := true, apart := false }
def HostsGreatSaid : Prop := hostsGreatRow.holds Try.pinned (OpenSpec.ofChange hostsGreatSpec)

/-- ITS FALSE NEIGHBOUR: 'it returns false'. Refute it at one input. -/
def hostsGreatWrong : ChangeSpec := { name := "hostsGreat", fn := fun _ => fun
  | [d1, d2] => { results := [.lit (.bool false)], args := [d1, d2] }
  | _ => none }
def HostsGreatWrongFalsely : Prop := hostsGreatRow.holds Try.pinned (OpenSpec.ofChange hostsGreatWrong)

/-- 'merkhetlaw13.HostsOf': WHATEVER THE INPUT: true; the input reads as it did. -/
def hostsOfSpec : ChangeSpec := { name := "hostsOf", fn := fun _ => fun
  | [d] => { results := [.lit (.bool true)], args := [d] }
  | _ => none }
def hostsOfRow : OpenClaim := { program := "ytkpmaenhkjfncaa", sum := "657ef75f4abee625046e5ed4672e9e5d0d5eaae51a5b78bd88672b8cc0c2066b", func := "merkhet/merkhetlaw13.HostsOf", spec := "hostsOf", recurses := true, apart := false }
def HostsOfSaid : Prop := hostsOfRow.holds Try.pinned (OpenSpec.ofChange hostsOfSpec)

/-- ITS FALSE NEIGHBOUR: 'it returns false'. Refute it at one input. -/
def hostsOfWrong : ChangeSpec := { name := "hostsOf", fn := fun _ => fun
  | [d] => { results := [.lit (.bool false)], args := [d] }
  | _ => none }
def HostsOfWrongFalsely : Prop := hostsOfRow.holds Try.pinned (OpenSpec.ofChange hostsOfWrong)

/-- 'merkhetlaw13.HostsAll': WHATEVER THE INPUT: true; the input reads as it did. -/
def hostsAllSpec : ChangeSpec := { name := "hostsAll", fn := fun _ => fun
  | [d] => { results := [.lit (.bool true)], args := [d] }
  | _ => none }
def hostsAllRow : OpenClaim := { program := "ytkpmaenhkjfncaa", sum := "657ef75f4abee625046e5ed4672e9e5d0d5eaae51a5b78bd88672b8cc0c2066b", func := "merkhet/merkhetlaw13.HostsAll", spec := "hostsAll", recurses := true, apart := false }
def HostsAllSaid : Prop := hostsAllRow.holds Try.pinned (OpenSpec.ofChange hostsAllSpec)

/-- ITS FALSE NEIGHBOUR: 'it returns false'. Refute it at one input. -/
def hostsAllWrong : ChangeSpec := { name := "hostsAll", fn := fun _ => fun
  | [d] => { results := [.lit (.bool false)], args := [d] }
  | _ => none }
def HostsAllWrongFalsely : Prop := hostsAllRow.holds Try.pinned (OpenSpec.ofChange hostsAllWrong)

/-- 'merkhetlaw22.ShelfPlays': WHATEVER THE INPUT: true; the input reads as it did. -/
def shelfPlaysSpec : ChangeSpec := { name := "shelfPlays", fn := fun _ => fun
  | [d1, d2, d3] => { results := [.lit (.bool true)], args := [d1, d2, d3] }
  | _ => none }
def shelfPlaysRow : OpenClaim := { program := "ytkpmaenhkjfncaa", sum := "657ef75f4abee625046e5ed4672e9e5d0d5eaae51a5b78bd88672b8cc0c2066b", func := "merkhet/merkhetlaw22.ShelfPlays", spec := "shelfPlays", unfollowed := true, recurses := true, apart := false }
def ShelfPlaysSaid : Prop := shelfPlaysRow.holds Try.pinned (OpenSpec.ofChange shelfPlaysSpec)

/-- ITS FALSE NEIGHBOUR: 'it returns false'. Refute it at one input. -/
def shelfPlaysWrong : ChangeSpec := { name := "shelfPlays", fn := fun _ => fun
  | [d1, d2, d3] => { results := [.lit (.bool false)], args := [d1, d2, d3] }
  | _ => none }
def ShelfPlaysWrongFalsely : Prop := shelfPlaysRow.holds Try.pinned (OpenSpec.ofChange shelfPlaysWrong)

/-- 'merkhetlaw22.ShelfParts': WHATEVER THE INPUT: true; the input reads as it did. -/
def shelfPartsSpec : ChangeSpec := { name := "shelfParts", fn := fun _ => fun
  | [d1, d2, d3] => { results := [.lit (.bool true)], args := [d1, d2, d3] }
  | _ => none }
def shelfPartsRow : OpenClaim := { program := "ytkpmaenhkjfncaa", sum := "657ef75f4abee625046e5ed4672e9e5d0d5eaae51a5b78bd88672b8cc0c2066b", func := "merkhet/merkhetlaw22.ShelfParts", spec := "shelfParts", unfollowed := true, recurses := true, apart := false }
def ShelfPartsSaid : Prop := shelfPartsRow.holds Try.pinned (OpenSpec.ofChange shelfPartsSpec)

/-- ITS FALSE NEIGHBOUR: 'it returns false'. Refute it at one input. -/
def shelfPartsWrong : ChangeSpec := { name := "shelfParts", fn := fun _ => fun
  | [d1, d2, d3] => { results := [.lit (.bool false)], args := [d1, d2, d3] }
  | _ => none }
def ShelfPartsWrongFalsely : Prop := shelfPartsRow.holds Try.pinned (OpenSpec.ofChange shelfPartsWrong)

/-- 'merkhetlaw22.ShelfAll': WHATEVER THE INPUT: true; the input reads as it did. -/
def shelfAllSpec : ChangeSpec := { name := "shelfAll", fn := fun _ => fun
  | [d] => { results := [.lit (.bool true)], args := [d] }
  | _ => none }
def shelfAllRow : OpenClaim := { program := "ytkpmaenhkjfncaa", sum := "657ef75f4abee625046e5ed4672e9e5d0d5eaae51a5b78bd88672b8cc0c2066b", func := "merkhet/merkhetlaw22.ShelfAll", spec := "shelfAll", unfollowed := true, recurses := true, apart := false }
def ShelfAllSaid : Prop := shelfAllRow.holds Try.pinned (OpenSpec.ofChange shelfAllSpec)

/-- ITS FALSE NEIGHBOUR: 'it returns false'. Refute it at one input. -/
def shelfAllWrong : ChangeSpec := { name := "shelfAll", fn := fun _ => fun
  | [d] => { results := [.lit (.bool false)], args := [d] }
  | _ => none }
def ShelfAllWrongFalsely : Prop := shelfAllRow.holds Try.pinned (OpenSpec.ofChange shelfAllWrong)

/-- 'merkhetlaw09.DedupeOf': WHATEVER THE INPUT: true; the input reads as it did. -/
def dedupeOfSpec : ChangeSpec := { name := "dedupeOf", fn := fun _ => fun
  | [d1, d2] => { results := [.lit (.bool true)], args := [d1, d2] }
  | _ => none }
def dedupeOfRow : OpenClaim := { program := "ytkpmaenhkjfncaa", sum := "657ef75f4abee625046e5ed4672e9e5d0d5eaae51a5b78bd88672b8cc0c2066b", func := "merkhet/merkhetlaw09.DedupeOf", spec := "dedupeOf", inPlace := ["internal/bytealg.abigen_runtime_cmpstring"], unfollowed := true, recurses := true, apart := false }
def DedupeOfSaid : Prop := dedupeOfRow.holds Try.pinned (OpenSpec.ofChange dedupeOfSpec)

/-- ITS FALSE NEIGHBOUR: 'it returns false'. Refute it at one input. -/
def dedupeOfWrong : ChangeSpec := { name := "dedupeOf", fn := fun _ => fun
  | [d1, d2] => { results := [.lit (.bool false)], args := [d1, d2] }
  | _ => none }
def DedupeOfWrongFalsely : Prop := dedupeOfRow.holds Try.pinned (OpenSpec.ofChange dedupeOfWrong)

/-- 'merkhetlaw09.DedupeSet': WHATEVER THE INPUT: true; the input reads as it did. -/
def dedupeSetSpec : ChangeSpec := { name := "dedupeSet", fn := fun _ => fun
  | [d1, d2, d3] => { results := [.lit (.bool true)], args := [d1, d2, d3] }
  | _ => none }
def dedupeSetRow : OpenClaim := { program := "ytkpmaenhkjfncaa", sum := "657ef75f4abee625046e5ed4672e9e5d0d5eaae51a5b78bd88672b8cc0c2066b", func := "merkhet/merkhetlaw09.DedupeSet", spec := "dedupeSet", inPlace := ["internal/bytealg.abigen_runtime_cmpstring"], unfollowed := true, recurses := true, apart := false }
def DedupeSetSaid : Prop := dedupeSetRow.holds Try.pinned (OpenSpec.ofChange dedupeSetSpec)

/-- ITS FALSE NEIGHBOUR: 'it returns false'. Refute it at one input. -/
def dedupeSetWrong : ChangeSpec := { name := "dedupeSet", fn := fun _ => fun
  | [d1, d2, d3] => { results := [.lit (.bool false)], args := [d1, d2, d3] }
  | _ => none }
def DedupeSetWrongFalsely : Prop := dedupeSetRow.holds Try.pinned (OpenSpec.ofChange dedupeSetWrong)

/-- 'merkhetlaw09.DedupeOne': WHATEVER THE INPUT: true; the input reads as it did. -/
def dedupeOneSpec : ChangeSpec := { name := "dedupeOne", fn := fun _ => fun
  | [d1, d2] => { results := [.lit (.bool true)], args := [d1, d2] }
  | _ => none }
def dedupeOneRow : OpenClaim := { program := "ytkpmaenhkjfncaa", sum := "657ef75f4abee625046e5ed4672e9e5d0d5eaae51a5b78bd88672b8cc0c2066b", func := "merkhet/merkhetlaw09.DedupeOne", spec := "dedupeOne", inPlace := ["internal/bytealg.abigen_runtime_cmpstring"], unfollowed := true, recurses := true, apart := false }
def DedupeOneSaid : Prop := dedupeOneRow.holds Try.pinned (OpenSpec.ofChange dedupeOneSpec)

/-- ITS FALSE NEIGHBOUR: 'it returns false'. Refute it at one input. -/
def dedupeOneWrong : ChangeSpec := { name := "dedupeOne", fn := fun _ => fun
  | [d1, d2] => { results := [.lit (.bool false)], args := [d1, d2] }
  | _ => none }
def DedupeOneWrongFalsely : Prop := dedupeOneRow.holds Try.pinned (OpenSpec.ofChange dedupeOneWrong)

/-- 'merkhetlaw09.DedupeHosts': WHATEVER THE INPUT: true; the input reads as it did. -/
def dedupeHostsSpec : ChangeSpec := { name := "dedupeHosts", fn := fun _ => fun
  | [d1, d2, d3] => { results := [.lit (.bool true)], args := [d1, d2, d3] }
  | _ => none }
def dedupeHostsRow : OpenClaim := { program := "ytkpmaenhkjfncaa", sum := "657ef75f4abee625046e5ed4672e9e5d0d5eaae51a5b78bd88672b8cc0c2066b", func := "merkhet/merkhetlaw09.DedupeHosts", spec := "dedupeHosts", inPlace := ["internal/bytealg.abigen_runtime_cmpstring"], unfollowed := true, recurses := true, apart := false }
def DedupeHostsSaid : Prop := dedupeHostsRow.holds Try.pinned (OpenSpec.ofChange dedupeHostsSpec)

/-- ITS FALSE NEIGHBOUR: 'it returns false'. Refute it at one input. -/
def dedupeHostsWrong : ChangeSpec := { name := "dedupeHosts", fn := fun _ => fun
  | [d1, d2, d3] => { results := [.lit (.bool false)], args := [d1, d2, d3] }
  | _ => none }
def DedupeHostsWrongFalsely : Prop := dedupeHostsRow.holds Try.pinned (OpenSpec.ofChange dedupeHostsWrong)

/- THE SECOND FORM. 'bulk': how many values and letters a reading holds, each counted each time it is reached (what is shared counts as often as it is met; a slice's spare places count too). A statement '..UptoSaid' is the law's where the arguments, and the package variables that the reading takes, are together of bulk at most 1048576: NARROWER than '..Said'. Prove '..Said' where nothing that the law and all that it calls make is longer than what came in: it says more and counts as full. Else prove '..UptoSaid'. A law counts once. -/
mutual
def uptoBulk {H : Type} : DataW H → Nat
  | .lit (.string bytes) => bytes.length + 1
  | .lit _ => 1
  | .nil => 1
  | .ptr d => uptoBulk d + 1
  | .slice elems spare => uptoBulkAll elems + uptoBulkAll spare + 1
  | .agg parts => uptoBulkAll parts + 1
  | .iface _ d => uptoBulk d + 1
  | .map entries => uptoBulkEntries entries + 1
  | .held _ => 1
def uptoBulkAll {H : Type} : List (DataW H) → Nat
  | [] => 0
  | d :: r => uptoBulk d + uptoBulkAll r
def uptoBulkEntries {H : Type} : List (Lit × DataW H) → Nat
  | [] => 0
  | x :: r => uptoBulkEntry x + uptoBulkEntries r
def uptoBulkEntry {H : Type} : Lit × DataW H → Nat
  | (.string bytes, d) => bytes.length + uptoBulk d + 1
  | (_, d) => uptoBulk d + 1
 end
def uptoSmall : (H : Type) → List (DataW H) → Bool := fun _ ds => decide (uptoBulkAll ds ≤ 1048576)
def OpenSpec.upto (s : _root_.Go.ChangeSpec) : _root_.Go.OpenSpec := { _root_.Go.OpenSpec.ofChange s with cond := some uptoSmall }

/-- 'merkhetlaw13.HostsGreat', WHERE WHAT IT READS IS OF BULK AT MOST 1048576: true; the input reads as it did. -/
def hostsGreatUptoRow : OpenClaim := { program := "ytkpmaenhkjfncaa", sum := "657ef75f4abee625046e5ed4672e9e5d0d5eaae51a5b78bd88672b8cc0c2066b", func := "merkhet/merkhetlaw13.HostsGreat", spec := "hostsGreat", recurses := true, apart := false, narrowed := true }
def HostsGreatUptoSaid : Prop := hostsGreatUptoRow.holds Try.pinned (OpenSpec.upto hostsGreatSpec)

/-- 'merkhetlaw13.HostsOf', WHERE WHAT IT READS IS OF BULK AT MOST 1048576: true; the input reads as it did. -/
def hostsOfUptoRow : OpenClaim := { program := "ytkpmaenhkjfncaa", sum := "657ef75f4abee625046e5ed4672e9e5d0d5eaae51a5b78bd88672b8cc0c2066b", func := "merkhet/merkhetlaw13.HostsOf", spec := "hostsOf", recurses := true, apart := false, narrowed := true }
def HostsOfUptoSaid : Prop := hostsOfUptoRow.holds Try.pinned (OpenSpec.upto hostsOfSpec)

/-- 'merkhetlaw13.HostsAll', WHERE WHAT IT READS IS OF BULK AT MOST 1048576: true; the input reads as it did. -/
def hostsAllUptoRow : OpenClaim := { program := "ytkpmaenhkjfncaa", sum := "657ef75f4abee625046e5ed4672e9e5d0d5eaae51a5b78bd88672b8cc0c2066b", func := "merkhet/merkhetlaw13.HostsAll", spec := "hostsAll", recurses := true, apart := false, narrowed := true }
def HostsAllUptoSaid : Prop := hostsAllUptoRow.holds Try.pinned (OpenSpec.upto hostsAllSpec)

/-- 'merkhetlaw22.ShelfPlays', WHERE WHAT IT READS IS OF BULK AT MOST 1048576: true; the input reads as it did. -/
def shelfPlaysUptoRow : OpenClaim := { program := "ytkpmaenhkjfncaa", sum := "657ef75f4abee625046e5ed4672e9e5d0d5eaae51a5b78bd88672b8cc0c2066b", func := "merkhet/merkhetlaw22.ShelfPlays", spec := "shelfPlays", unfollowed := true, recurses := true, apart := false, narrowed := true }
def ShelfPlaysUptoSaid : Prop := shelfPlaysUptoRow.holds Try.pinned (OpenSpec.upto shelfPlaysSpec)

/-- 'merkhetlaw22.ShelfParts', WHERE WHAT IT READS IS OF BULK AT MOST 1048576: true; the input reads as it did. -/
def shelfPartsUptoRow : OpenClaim := { program := "ytkpmaenhkjfncaa", sum := "657ef75f4abee625046e5ed4672e9e5d0d5eaae51a5b78bd88672b8cc0c2066b", func := "merkhet/merkhetlaw22.ShelfParts", spec := "shelfParts", unfollowed := true, recurses := true, apart := false, narrowed := true }
def ShelfPartsUptoSaid : Prop := shelfPartsUptoRow.holds Try.pinned (OpenSpec.upto shelfPartsSpec)

/-- 'merkhetlaw22.ShelfAll', WHERE WHAT IT READS IS OF BULK AT MOST 1048576: true; the input reads as it did. -/
def shelfAllUptoRow : OpenClaim := { program := "ytkpmaenhkjfncaa", sum := "657ef75f4abee625046e5ed4672e9e5d0d5eaae51a5b78bd88672b8cc0c2066b", func := "merkhet/merkhetlaw22.ShelfAll", spec := "shelfAll", unfollowed := true, recurses := true, apart := false, narrowed := true }
def ShelfAllUptoSaid : Prop := shelfAllUptoRow.holds Try.pinned (OpenSpec.upto shelfAllSpec)

/-- 'merkhetlaw09.DedupeOf', WHERE WHAT IT READS IS OF BULK AT MOST 1048576: true; the input reads as it did. -/
def dedupeOfUptoRow : OpenClaim := { program := "ytkpmaenhkjfncaa", sum := "657ef75f4abee625046e5ed4672e9e5d0d5eaae51a5b78bd88672b8cc0c2066b", func := "merkhet/merkhetlaw09.DedupeOf", spec := "dedupeOf", inPlace := ["internal/bytealg.abigen_runtime_cmpstring"], unfollowed := true, recurses := true, apart := false, narrowed := true }
def DedupeOfUptoSaid : Prop := dedupeOfUptoRow.holds Try.pinned (OpenSpec.upto dedupeOfSpec)

/-- 'merkhetlaw09.DedupeSet', WHERE WHAT IT READS IS OF BULK AT MOST 1048576: true; the input reads as it did. -/
def dedupeSetUptoRow : OpenClaim := { program := "ytkpmaenhkjfncaa", sum := "657ef75f4abee625046e5ed4672e9e5d0d5eaae51a5b78bd88672b8cc0c2066b", func := "merkhet/merkhetlaw09.DedupeSet", spec := "dedupeSet", inPlace := ["internal/bytealg.abigen_runtime_cmpstring"], unfollowed := true, recurses := true, apart := false, narrowed := true }
def DedupeSetUptoSaid : Prop := dedupeSetUptoRow.holds Try.pinned (OpenSpec.upto dedupeSetSpec)

/-- 'merkhetlaw09.DedupeOne', WHERE WHAT IT READS IS OF BULK AT MOST 1048576: true; the input reads as it did. -/
def dedupeOneUptoRow : OpenClaim := { program := "ytkpmaenhkjfncaa", sum := "657ef75f4abee625046e5ed4672e9e5d0d5eaae51a5b78bd88672b8cc0c2066b", func := "merkhet/merkhetlaw09.DedupeOne", spec := "dedupeOne", inPlace := ["internal/bytealg.abigen_runtime_cmpstring"], unfollowed := true, recurses := true, apart := false, narrowed := true }
def DedupeOneUptoSaid : Prop := dedupeOneUptoRow.holds Try.pinned (OpenSpec.upto dedupeOneSpec)

/-- 'merkhetlaw09.DedupeHosts', WHERE WHAT IT READS IS OF BULK AT MOST 1048576: true; the input reads as it did. -/
def dedupeHostsUptoRow : OpenClaim := { program := "ytkpmaenhkjfncaa", sum := "657ef75f4abee625046e5ed4672e9e5d0d5eaae51a5b78bd88672b8cc0c2066b", func := "merkhet/merkhetlaw09.DedupeHosts", spec := "dedupeHosts", inPlace := ["internal/bytealg.abigen_runtime_cmpstring"], unfollowed := true, recurses := true, apart := false, narrowed := true }
def DedupeHostsUptoSaid : Prop := dedupeHostsUptoRow.holds Try.pinned (OpenSpec.upto dedupeHostsSpec)

end Rows
end Go.Proofs.Ytkpmaenhkjfncaa
