/-
  No cell of these rows narrows 'for every input' (looked for: loops, veiled, ifaces, maps, wideKeys, modest, calm, conditions, laid).
  DERIVED. THE GIVEN ROWS OF THIS SEAT. 9 by the template 'for every input the law returns true; each argument reads behind the call as it read before'; 0 by the template 'total and deterministic' (their statements: YtmfdhcgdibefiaaTotals.lean).
  GIVEN WITH THE SEED: the statements are not yours to turn. If you find one false, say at which input.
  Laid BY PROGRAM, IN A SANDBOX (cutbox-rows.mjs): the forced cells as the released guide's own fill.sh prints them over the translation 738e24007869fe34… (all of the seat's roots in one cut). By AI agents, Wed Nov 11 2026. No macro, syntax, notation, axiom, sorry.
-/
import Derived.Test.YtmfdhcgdibefiaaChecked
import GoSem.Claim
import GoSem.ClaimJoined
import GoSem.ClaimMapViews
import Derived.JoinedTies
import Derived.KernelRfl
namespace Go.Proofs.Ytmfdhcgdibefiaa
/- THE CELL 'sum', in the pinned program and in every row, IS THE sha256 OF THE DUMP (.gsa) THAT YtmfdhcgdibefiaaProg.lean LOADS. Nothing in Lean hashes anything: it is a label: what it is worth is what the hold of that sum in a sandbox is worth. -/
noncomputable def Try.pinned : Pinned := { name := "ytmfdhcgdibefiaa", sum := "738e24007869fe34097d041df2d6202c32d3bd5857d252f673099517a94a26e1", checked := Try.checked }
namespace Rows
def none {H : Type} : Left H := { results := [], args := [] }

/-- 'merkhetlaw27.StatsCovers': WHATEVER THE INPUT: true; the input reads as it did. -/
def statsCoversSpec : ChangeSpec := { name := "statsCovers", fn := fun _ => fun
  | [d] => { results := [.lit (.bool true)], args := [d] }
  | _ => none }
def statsCoversRow : OpenClaim := { program := "ytmfdhcgdibefiaa", sum := "738e24007869fe34097d041df2d6202c32d3bd5857d252f673099517a94a26e1", func := "merkhet/merkhetlaw27.StatsCovers", spec := "statsCovers", unfollowed := true, recurses := true, apart := false }
def StatsCoversSaid : Prop := statsCoversRow.holds Try.pinned (OpenSpec.ofChange statsCoversSpec)

/-- ITS FALSE NEIGHBOUR: 'it returns false'. Refute it at one input. -/
def statsCoversWrong : ChangeSpec := { name := "statsCovers", fn := fun _ => fun
  | [d] => { results := [.lit (.bool false)], args := [d] }
  | _ => none }
def StatsCoversWrongFalsely : Prop := statsCoversRow.holds Try.pinned (OpenSpec.ofChange statsCoversWrong)

/-- 'merkhetlaw27.StatsOwn': WHATEVER THE INPUT: true; the input reads as it did. -/
def statsOwnSpec : ChangeSpec := { name := "statsOwn", fn := fun _ => fun
  | [d1, d2] => { results := [.lit (.bool true)], args := [d1, d2] }
  | _ => none }
def statsOwnRow : OpenClaim := { program := "ytmfdhcgdibefiaa", sum := "738e24007869fe34097d041df2d6202c32d3bd5857d252f673099517a94a26e1", func := "merkhet/merkhetlaw27.StatsOwn", spec := "statsOwn", unfollowed := true, recurses := true, apart := false }
def StatsOwnSaid : Prop := statsOwnRow.holds Try.pinned (OpenSpec.ofChange statsOwnSpec)

/-- ITS FALSE NEIGHBOUR: 'it returns false'. Refute it at one input. -/
def statsOwnWrong : ChangeSpec := { name := "statsOwn", fn := fun _ => fun
  | [d1, d2] => { results := [.lit (.bool false)], args := [d1, d2] }
  | _ => none }
def StatsOwnWrongFalsely : Prop := statsOwnRow.holds Try.pinned (OpenSpec.ofChange statsOwnWrong)

/-- 'merkhetlaw27.StatsMore': WHATEVER THE INPUT: true; the input reads as it did. -/
def statsMoreSpec : ChangeSpec := { name := "statsMore", fn := fun _ => fun
  | [d1, d2] => { results := [.lit (.bool true)], args := [d1, d2] }
  | _ => none }
def statsMoreRow : OpenClaim := { program := "ytmfdhcgdibefiaa", sum := "738e24007869fe34097d041df2d6202c32d3bd5857d252f673099517a94a26e1", func := "merkhet/merkhetlaw27.StatsMore", spec := "statsMore", unfollowed := true, recurses := true, apart := false }
def StatsMoreSaid : Prop := statsMoreRow.holds Try.pinned (OpenSpec.ofChange statsMoreSpec)

/-- ITS FALSE NEIGHBOUR: 'it returns false'. Refute it at one input. -/
def statsMoreWrong : ChangeSpec := { name := "statsMore", fn := fun _ => fun
  | [d1, d2] => { results := [.lit (.bool false)], args := [d1, d2] }
  | _ => none }
def StatsMoreWrongFalsely : Prop := statsMoreRow.holds Try.pinned (OpenSpec.ofChange statsMoreWrong)

/-- 'merkhetlaw27.StatsTallies': WHATEVER THE INPUT: true; the input reads as it did. -/
def statsTalliesSpec : ChangeSpec := { name := "statsTallies", fn := fun _ => fun
  | [d] => { results := [.lit (.bool true)], args := [d] }
  | _ => none }
def statsTalliesRow : OpenClaim := { program := "ytmfdhcgdibefiaa", sum := "738e24007869fe34097d041df2d6202c32d3bd5857d252f673099517a94a26e1", func := "merkhet/merkhetlaw27.StatsTallies", spec := "statsTallies", inPlace := ["internal/bytealg.abigen_runtime_cmpstring"], unfollowed := true, recurses := true, apart := false }
def StatsTalliesSaid : Prop := statsTalliesRow.holds Try.pinned (OpenSpec.ofChange statsTalliesSpec)

/-- ITS FALSE NEIGHBOUR: 'it returns false'. Refute it at one input. -/
def statsTalliesWrong : ChangeSpec := { name := "statsTallies", fn := fun _ => fun
  | [d] => { results := [.lit (.bool false)], args := [d] }
  | _ => none }
def StatsTalliesWrongFalsely : Prop := statsTalliesRow.holds Try.pinned (OpenSpec.ofChange statsTalliesWrong)

/-- 'merkhetlaw27.StatsSums': WHATEVER THE INPUT: true; the input reads as it did. -/
def statsSumsSpec : ChangeSpec := { name := "statsSums", fn := fun _ => fun
  | [d] => { results := [.lit (.bool true)], args := [d] }
  | _ => none }
def statsSumsRow : OpenClaim := { program := "ytmfdhcgdibefiaa", sum := "738e24007869fe34097d041df2d6202c32d3bd5857d252f673099517a94a26e1", func := "merkhet/merkhetlaw27.StatsSums", spec := "statsSums", inPlace := ["internal/bytealg.abigen_runtime_cmpstring"], unfollowed := true, recurses := true, apart := false }
def StatsSumsSaid : Prop := statsSumsRow.holds Try.pinned (OpenSpec.ofChange statsSumsSpec)

/-- ITS FALSE NEIGHBOUR: 'it returns false'. Refute it at one input. -/
def statsSumsWrong : ChangeSpec := { name := "statsSums", fn := fun _ => fun
  | [d] => { results := [.lit (.bool false)], args := [d] }
  | _ => none }
def StatsSumsWrongFalsely : Prop := statsSumsRow.holds Try.pinned (OpenSpec.ofChange statsSumsWrong)

/-- 'merkhetlaw26.ChartBoxes': WHATEVER THE INPUT: true; the input reads as it did. -/
def chartBoxesSpec : ChangeSpec := { name := "chartBoxes", fn := fun _ => fun
  | [d1, d2] => { results := [.lit (.bool true)], args := [d1, d2] }
  | _ => none }
def chartBoxesRow : OpenClaim := { program := "ytmfdhcgdibefiaa", sum := "738e24007869fe34097d041df2d6202c32d3bd5857d252f673099517a94a26e1", func := "merkhet/merkhetlaw26.ChartBoxes", spec := "chartBoxes", inPlace := ["math.Float64bits"], unfollowed := true, recurses := true, named := ["math/bits.divideError", "math/bits.overflowError"], apart := false }
def ChartBoxesSaid : Prop := chartBoxesRow.holds Try.pinned (OpenSpec.ofChange chartBoxesSpec)

/-- ITS FALSE NEIGHBOUR: 'it returns false'. Refute it at one input. -/
def chartBoxesWrong : ChangeSpec := { name := "chartBoxes", fn := fun _ => fun
  | [d1, d2] => { results := [.lit (.bool false)], args := [d1, d2] }
  | _ => none }
def ChartBoxesWrongFalsely : Prop := chartBoxesRow.holds Try.pinned (OpenSpec.ofChange chartBoxesWrong)

/-- 'merkhetlaw26.ChartTurns': WHATEVER THE INPUT: true; the input reads as it did. -/
def chartTurnsSpec : ChangeSpec := { name := "chartTurns", fn := fun _ => fun
  | [d1, d2] => { results := [.lit (.bool true)], args := [d1, d2] }
  | _ => none }
def chartTurnsRow : OpenClaim := { program := "ytmfdhcgdibefiaa", sum := "738e24007869fe34097d041df2d6202c32d3bd5857d252f673099517a94a26e1", func := "merkhet/merkhetlaw26.ChartTurns", spec := "chartTurns", inPlace := ["math.Float64frombits", "math.archTrunc", "math.Float64bits"], unfollowed := true, recurses := true, named := ["math/bits.divideError", "math/bits.overflowError"], apart := false }
def ChartTurnsSaid : Prop := chartTurnsRow.holds Try.pinned (OpenSpec.ofChange chartTurnsSpec)

/-- ITS FALSE NEIGHBOUR: 'it returns false'. Refute it at one input. -/
def chartTurnsWrong : ChangeSpec := { name := "chartTurns", fn := fun _ => fun
  | [d1, d2] => { results := [.lit (.bool false)], args := [d1, d2] }
  | _ => none }
def ChartTurnsWrongFalsely : Prop := chartTurnsRow.holds Try.pinned (OpenSpec.ofChange chartTurnsWrong)

/-- 'merkhetlaw26.ChartRound': WHATEVER THE INPUT: true; the input reads as it did. -/
def chartRoundSpec : ChangeSpec := { name := "chartRound", fn := fun _ => fun
  | [d1, d2] => { results := [.lit (.bool true)], args := [d1, d2] }
  | _ => none }
def chartRoundRow : OpenClaim := { program := "ytmfdhcgdibefiaa", sum := "738e24007869fe34097d041df2d6202c32d3bd5857d252f673099517a94a26e1", func := "merkhet/merkhetlaw26.ChartRound", spec := "chartRound", inPlace := ["math.archTrunc", "math.Float64bits", "math.Float64frombits"], unfollowed := true, recurses := true, named := ["math/bits.divideError", "math/bits.overflowError"], apart := false }
def ChartRoundSaid : Prop := chartRoundRow.holds Try.pinned (OpenSpec.ofChange chartRoundSpec)

/-- ITS FALSE NEIGHBOUR: 'it returns false'. Refute it at one input. -/
def chartRoundWrong : ChangeSpec := { name := "chartRound", fn := fun _ => fun
  | [d1, d2] => { results := [.lit (.bool false)], args := [d1, d2] }
  | _ => none }
def ChartRoundWrongFalsely : Prop := chartRoundRow.holds Try.pinned (OpenSpec.ofChange chartRoundWrong)

/-- 'merkhetlaw26.ChartDraws': WHATEVER THE INPUT: true; the input reads as it did. -/
def chartDrawsSpec : ChangeSpec := { name := "chartDraws", fn := fun _ => fun
  | [d1, d2] => { results := [.lit (.bool true)], args := [d1, d2] }
  | _ => none }
def chartDrawsRow : OpenClaim := { program := "ytmfdhcgdibefiaa", sum := "738e24007869fe34097d041df2d6202c32d3bd5857d252f673099517a94a26e1", func := "merkhet/merkhetlaw26.ChartDraws", spec := "chartDraws", inPlace := ["math.Float64frombits", "math.archTrunc", "math.Float64bits", "internal/abi.NoEscape", "internal/bytealg.MakeNoZero"], unfollowed := true, recurses := true, named := ["math/bits.divideError", "math/bits.overflowError"], apart := false }
def ChartDrawsSaid : Prop := chartDrawsRow.holds Try.pinned (OpenSpec.ofChange chartDrawsSpec)

/-- ITS FALSE NEIGHBOUR: 'it returns false'. Refute it at one input. -/
def chartDrawsWrong : ChangeSpec := { name := "chartDraws", fn := fun _ => fun
  | [d1, d2] => { results := [.lit (.bool false)], args := [d1, d2] }
  | _ => none }
def ChartDrawsWrongFalsely : Prop := chartDrawsRow.holds Try.pinned (OpenSpec.ofChange chartDrawsWrong)

/- THE SECOND FORM. 'bulk': how many values and letters a reading holds, each counted each time it is reached (what is shared counts as often as it is met; a slice's spare places count too). A statement '..UptoSaid' is the law's where the arguments, and the package variables that the reading takes, are together of bulk at most 1048576: NARROWER than '..Said'. Prove '..Said' where nothing that the law and all that it calls make is longer than what came in: it says more and counts as full. Else prove '..UptoSaid'. A law counts once. -/
mutual
def uptoBulk {H : Type} : DataW H → Nat
  | .lit (.string bytes) => bytes.length + 1
  | .lit _ => 1
  | .nil => 1
  | .ptr d => uptoBulk d + 1
  | .slice elems spare => uptoBulkAll elems + uptoBulkAll spare + 1
  | .agg parts => uptoBulkAll parts + 1
  | .iface _ d => uptoBulk d + 1
  | .map entries => uptoBulkEntries entries + 1
  | .held _ => 1
def uptoBulkAll {H : Type} : List (DataW H) → Nat
  | [] => 0
  | d :: r => uptoBulk d + uptoBulkAll r
def uptoBulkEntries {H : Type} : List (Lit × DataW H) → Nat
  | [] => 0
  | x :: r => uptoBulkEntry x + uptoBulkEntries r
def uptoBulkEntry {H : Type} : Lit × DataW H → Nat
  | (.string bytes, d) => bytes.length + uptoBulk d + 1
  | (_, d) => uptoBulk d + 1
 end
def uptoSmall : (H : Type) → List (DataW H) → Bool := fun _ ds => decide (uptoBulkAll ds ≤ 1048576)
def OpenSpec.upto (s : _root_.Go.ChangeSpec) : _root_.Go.OpenSpec := { _root_.Go.OpenSpec.ofChange s with cond := some uptoSmall }

/-- 'merkhetlaw27.StatsCovers', WHERE WHAT IT READS IS OF BULK AT MOST 1048576: true; the input reads as it did. -/
def statsCoversUptoRow : OpenClaim := { program := "ytmfdhcgdibefiaa", sum := "738e24007869fe34097d041df2d6202c32d3bd5857d252f673099517a94a26e1", func := "merkhet/merkhetlaw27.StatsCovers", spec := "statsCovers", unfollowed := true, recurses := true, apart := false, narrowed := true }
def StatsCoversUptoSaid : Prop := statsCoversUptoRow.holds Try.pinned (OpenSpec.upto statsCoversSpec)

/-- 'merkhetlaw27.StatsOwn', WHERE WHAT IT READS IS OF BULK AT MOST 1048576: true; the input reads as it did. -/
def statsOwnUptoRow : OpenClaim := { program := "ytmfdhcgdibefiaa", sum := "738e24007869fe34097d041df2d6202c32d3bd5857d252f673099517a94a26e1", func := "merkhet/merkhetlaw27.StatsOwn", spec := "statsOwn", unfollowed := true, recurses := true, apart := false, narrowed := true }
def StatsOwnUptoSaid : Prop := statsOwnUptoRow.holds Try.pinned (OpenSpec.upto statsOwnSpec)

/-- 'merkhetlaw27.StatsMore', WHERE WHAT IT READS IS OF BULK AT MOST 1048576: true; the input reads as it did. -/
def statsMoreUptoRow : OpenClaim := { program := "ytmfdhcgdibefiaa", sum := "738e24007869fe34097d041df2d6202c32d3bd5857d252f673099517a94a26e1", func := "merkhet/merkhetlaw27.StatsMore", spec := "statsMore", unfollowed := true, recurses := true, apart := false, narrowed := true }
def StatsMoreUptoSaid : Prop := statsMoreUptoRow.holds Try.pinned (OpenSpec.upto statsMoreSpec)

/-- 'merkhetlaw27.StatsTallies', WHERE WHAT IT READS IS OF BULK AT MOST 1048576: true; the input reads as it did. -/
def statsTalliesUptoRow : OpenClaim := { program := "ytmfdhcgdibefiaa", sum := "738e24007869fe34097d041df2d6202c32d3bd5857d252f673099517a94a26e1", func := "merkhet/merkhetlaw27.StatsTallies", spec := "statsTallies", inPlace := ["internal/bytealg.abigen_runtime_cmpstring"], unfollowed := true, recurses := true, apart := false, narrowed := true }
def StatsTalliesUptoSaid : Prop := statsTalliesUptoRow.holds Try.pinned (OpenSpec.upto statsTalliesSpec)

/-- 'merkhetlaw27.StatsSums', WHERE WHAT IT READS IS OF BULK AT MOST 1048576: true; the input reads as it did. -/
def statsSumsUptoRow : OpenClaim := { program := "ytmfdhcgdibefiaa", sum := "738e24007869fe34097d041df2d6202c32d3bd5857d252f673099517a94a26e1", func := "merkhet/merkhetlaw27.StatsSums", spec := "statsSums", inPlace := ["internal/bytealg.abigen_runtime_cmpstring"], unfollowed := true, recurses := true, apart := false, narrowed := true }
def StatsSumsUptoSaid : Prop := statsSumsUptoRow.holds Try.pinned (OpenSpec.upto statsSumsSpec)

/-- 'merkhetlaw26.ChartBoxes', WHERE WHAT IT READS IS OF BULK AT MOST 1048576: true; the input reads as it did. -/
def chartBoxesUptoRow : OpenClaim := { program := "ytmfdhcgdibefiaa", sum := "738e24007869fe34097d041df2d6202c32d3bd5857d252f673099517a94a26e1", func := "merkhet/merkhetlaw26.ChartBoxes", spec := "chartBoxes", inPlace := ["math.Float64bits"], unfollowed := true, recurses := true, named := ["math/bits.divideError", "math/bits.overflowError"], apart := false, narrowed := true }
def ChartBoxesUptoSaid : Prop := chartBoxesUptoRow.holds Try.pinned (OpenSpec.upto chartBoxesSpec)

/-- 'merkhetlaw26.ChartTurns', WHERE WHAT IT READS IS OF BULK AT MOST 1048576: true; the input reads as it did. -/
def chartTurnsUptoRow : OpenClaim := { program := "ytmfdhcgdibefiaa", sum := "738e24007869fe34097d041df2d6202c32d3bd5857d252f673099517a94a26e1", func := "merkhet/merkhetlaw26.ChartTurns", spec := "chartTurns", inPlace := ["math.Float64frombits", "math.archTrunc", "math.Float64bits"], unfollowed := true, recurses := true, named := ["math/bits.divideError", "math/bits.overflowError"], apart := false, narrowed := true }
def ChartTurnsUptoSaid : Prop := chartTurnsUptoRow.holds Try.pinned (OpenSpec.upto chartTurnsSpec)

/-- 'merkhetlaw26.ChartRound', WHERE WHAT IT READS IS OF BULK AT MOST 1048576: true; the input reads as it did. -/
def chartRoundUptoRow : OpenClaim := { program := "ytmfdhcgdibefiaa", sum := "738e24007869fe34097d041df2d6202c32d3bd5857d252f673099517a94a26e1", func := "merkhet/merkhetlaw26.ChartRound", spec := "chartRound", inPlace := ["math.archTrunc", "math.Float64bits", "math.Float64frombits"], unfollowed := true, recurses := true, named := ["math/bits.divideError", "math/bits.overflowError"], apart := false, narrowed := true }
def ChartRoundUptoSaid : Prop := chartRoundUptoRow.holds Try.pinned (OpenSpec.upto chartRoundSpec)

/-- 'merkhetlaw26.ChartDraws', WHERE WHAT IT READS IS OF BULK AT MOST 1048576: true; the input reads as it did. -/
def chartDrawsUptoRow : OpenClaim := { program := "ytmfdhcgdibefiaa", sum := "738e24007869fe34097d041df2d6202c32d3bd5857d252f673099517a94a26e1", func := "merkhet/merkhetlaw26.ChartDraws", spec := "chartDraws", inPlace := ["math.Float64frombits", "math.archTrunc", "math.Float64bits", "internal/abi.NoEscape", "internal/bytealg.MakeNoZero"], unfollowed := true, recurses := true, named := ["math/bits.divideError", "math/bits.overflowError"], apart := false, narrowed := true }
def ChartDrawsUptoSaid : Prop := chartDrawsUptoRow.holds Try.pinned (OpenSpec.upto chartDrawsSpec)

end Rows
end Go.Proofs.Ytmfdhcgdibefiaa
