/-
  DERIVED. GIVEN WITH THE SEED: THE CARDS: each row of YtljkikcclnbdaaaDoorRows.lean that lists a variable, with what it lists TIED to the program's text (the seventh form; the later family's looks); each row that meets fmt, with fmt's text TOLD by the authors' own Lean function (tested against real Go, not proved from fmt's source: count such statements apart). THE CARD IS WHAT COUNTS. Prove the row's statement (the work); the ties are given (YtljkikcclnbdaaaDoorTie.lean); close each card by the builder's one call (the guide's Derived/Test/ToyasCard.lean, 'card_holds'). Laid BY PROGRAM, IN A SANDBOX (cutbox-door.mjs). By AI agents, Wed Nov 11 2026. No macro, syntax, notation, axiom, sorry.
-/
import Derived.Test.YtljkikcclnbdaaaDoorRows
import GoSem.ClaimSeven
namespace Go.Proofs.YtljkikcclnbdaaaDoor
namespace Rows

/-- THE TIED CARD OF 'merkhetlaw21.ReplyOne'. -/
def replyOneCard : Claim7 := { stood := { row := replyOneRow, standIns := [], harness := (true, "39905cd812a43cdceeb0892f662c92e75b7b9a1e64271666aa16f4c4dff36e24"), looks := true }, kinds := [], alts := [], laidByText := true, laidKinds := [.sentinel], laidTests := true, laidLooks := .later }
def ReplyOneCardSaid : Prop := Claim7.holds Tryd.pinned (.plain (OpenSpec.ofChange replyOneSpec)) replyOneCard

/-- THE TIED CARD OF 'merkhetlaw21.ReplyPuts'. -/
def replyPutsCard : Claim7 := { stood := { row := replyPutsRow, standIns := [], harness := (true, "39905cd812a43cdceeb0892f662c92e75b7b9a1e64271666aa16f4c4dff36e24"), looks := true }, kinds := [], alts := [], laidByText := true, laidKinds := [.sentinel], laidTests := true, laidLooks := .later }
def ReplyPutsCardSaid : Prop := Claim7.holds Tryd.pinned (.plain (OpenSpec.ofChange replyPutsSpec)) replyPutsCard

/-- THE TIED CARD OF 'merkhetlaw21.ReplyGets'. -/
def replyGetsCard : Claim7 := { stood := { row := replyGetsRow, standIns := [], harness := (true, "39905cd812a43cdceeb0892f662c92e75b7b9a1e64271666aa16f4c4dff36e24"), looks := true }, kinds := [], alts := [], laidByText := true, laidKinds := [.sentinel], laidTests := true, laidLooks := .later }
def ReplyGetsCardSaid : Prop := Claim7.holds Tryd.pinned (.plain (OpenSpec.ofChange replyGetsSpec)) replyGetsCard

/-- THE SECOND FORM's CARD OF 'merkhetlaw21.ReplyOne'. -/
def replyOneUptoCard : Claim7 := { stood := { row := replyOneUptoRow, standIns := [], harness := (true, "39905cd812a43cdceeb0892f662c92e75b7b9a1e64271666aa16f4c4dff36e24"), looks := true }, kinds := [], alts := [], laidByText := true, laidKinds := [.sentinel], laidTests := true, laidLooks := .later }
def ReplyOneUptoCardSaid : Prop := Claim7.holds Tryd.pinned (.plain (OpenSpec.upto replyOneSpec)) replyOneUptoCard

/-- THE SECOND FORM's CARD OF 'merkhetlaw21.ReplyPuts'. -/
def replyPutsUptoCard : Claim7 := { stood := { row := replyPutsUptoRow, standIns := [], harness := (true, "39905cd812a43cdceeb0892f662c92e75b7b9a1e64271666aa16f4c4dff36e24"), looks := true }, kinds := [], alts := [], laidByText := true, laidKinds := [.sentinel], laidTests := true, laidLooks := .later }
def ReplyPutsUptoCardSaid : Prop := Claim7.holds Tryd.pinned (.plain (OpenSpec.upto replyPutsSpec)) replyPutsUptoCard

/-- THE SECOND FORM's CARD OF 'merkhetlaw21.ReplyGets'. -/
def replyGetsUptoCard : Claim7 := { stood := { row := replyGetsUptoRow, standIns := [], harness := (true, "39905cd812a43cdceeb0892f662c92e75b7b9a1e64271666aa16f4c4dff36e24"), looks := true }, kinds := [], alts := [], laidByText := true, laidKinds := [.sentinel], laidTests := true, laidLooks := .later }
def ReplyGetsUptoCardSaid : Prop := Claim7.holds Tryd.pinned (.plain (OpenSpec.upto replyGetsSpec)) replyGetsUptoCard
end Rows
end Go.Proofs.YtljkikcclnbdaaaDoor
