/-
  DERIVED. GIVEN WITH THE SEED: THE CARDS: each row of YtjhhnhgflmkenaaGreatDoorRows.lean that lists a variable, with what it lists TIED to the program's text (the seventh form; the later family's looks); each row that meets fmt, with fmt's text TOLD by the authors' own Lean function (tested against real Go, not proved from fmt's source: count such statements apart). THE CARD IS WHAT COUNTS. Prove the row's statement (the work); the ties are given (YtjhhnhgflmkenaaGreatDoorTie.lean); close each card by the builder's one call (the guide's Derived/Test/ToyasCard.lean, 'card_holds'). Laid BY PROGRAM, IN A SANDBOX (cutbox-door.mjs). By AI agents, Wed Nov 11 2026. No macro, syntax, notation, axiom, sorry.
-/
import Derived.Test.YtjhhnhgflmkenaaGreatDoorRows
import GoSem.ClaimSeven
namespace Go.Proofs.YtjhhnhgflmkenaaGreatDoor
namespace Rows

/-- THE TIED CARD OF 'nameplantop.TopSignedTransfer'. -/
def topSignedTransferCard : Claim7 := { stood := { row := topSignedTransferRow, standIns := [], harness := (true, "5d8686b96a4d68668f73a5694f1be6467cfaef3b0673230713a1dfa259c2065e"), looks := true }, kinds := [], alts := [], laidByText := true, laidKinds := [.sentinel, .data, .sentinel], laidTests := true, laidLooks := .later }
def TopSignedTransferCardSaid : Prop := Claim7.holds Tryz.pinned (.plain (OpenSpec.ofChange topSignedTransferSpec)) topSignedTransferCard

/-- THE SECOND FORM's CARD OF 'nameplantop.TopSignedTransfer'. -/
def topSignedTransferUptoCard : Claim7 := { stood := { row := topSignedTransferUptoRow, standIns := [], harness := (true, "5d8686b96a4d68668f73a5694f1be6467cfaef3b0673230713a1dfa259c2065e"), looks := true }, kinds := [], alts := [], laidByText := true, laidKinds := [.sentinel, .data, .sentinel], laidTests := true, laidLooks := .later }
def TopSignedTransferUptoCardSaid : Prop := Claim7.holds Tryz.pinned (.plain (OpenSpec.upto topSignedTransferSpec)) topSignedTransferUptoCard
end Rows
end Go.Proofs.YtjhhnhgflmkenaaGreatDoor
