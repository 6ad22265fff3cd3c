/-
  DERIVED. GIVEN WITH THE SEED: THE CARDS: each row of YtdcenbhgholncaaGreatDoorRows.lean that lists a variable, with what it lists TIED to the program's text (the seventh form; the later family's looks); each row that meets fmt, with fmt's text TOLD by the authors' own Lean function (tested against real Go, not proved from fmt's source: count such statements apart). THE CARD IS WHAT COUNTS. Prove the row's statement (the work); the ties are given (YtdcenbhgholncaaGreatDoorTie.lean); close each card by the builder's one call (the guide's Derived/Test/ToyasCard.lean, 'card_holds'). Laid BY PROGRAM, IN A SANDBOX (cutbox-door.mjs). By AI agents, Wed Nov 11 2026. No macro, syntax, notation, axiom, sorry.
-/
import Derived.Test.YtdcenbhgholncaaGreatDoorRows
import GoSem.ClaimSeven
namespace Go.Proofs.YtdcenbhgholncaaGreatDoor
namespace Rows

/-- THE TIED CARD OF 'nameplantop.TopSigned'. -/
def topSignedCard : Claim7 := { stood := { row := topSignedRow, standIns := [], harness := (true, "3d7af8d62d7e7941f3e42890f3d11df56d21d3bf3d08ba9f143097f0972a9761"), looks := false }, kinds := [], alts := [], laidByText := true, laidKinds := [.data], laidTests := true, laidLooks := .later }
def TopSignedCardSaid : Prop := Claim7.holds Tryz.pinned (.plain (OpenSpec.ofChange topSignedSpec)) topSignedCard

/-- THE TIED CARD OF 'nameplantop.TopDenied'. -/
def topDeniedCard : Claim7 := { stood := { row := topDeniedRow, standIns := [], harness := (true, "3d7af8d62d7e7941f3e42890f3d11df56d21d3bf3d08ba9f143097f0972a9761"), looks := false }, kinds := [], alts := [], laidByText := true, laidKinds := [.data], laidTests := true, laidLooks := .later }
def TopDeniedCardSaid : Prop := Claim7.holds Tryz.pinned (.plain (OpenSpec.ofChange topDeniedSpec)) topDeniedCard

/-- THE SECOND FORM's CARD OF 'nameplantop.TopSigned'. -/
def topSignedUptoCard : Claim7 := { stood := { row := topSignedUptoRow, standIns := [], harness := (true, "3d7af8d62d7e7941f3e42890f3d11df56d21d3bf3d08ba9f143097f0972a9761"), looks := false }, kinds := [], alts := [], laidByText := true, laidKinds := [.data], laidTests := true, laidLooks := .later }
def TopSignedUptoCardSaid : Prop := Claim7.holds Tryz.pinned (.plain (OpenSpec.upto topSignedSpec)) topSignedUptoCard

/-- THE SECOND FORM's CARD OF 'nameplantop.TopDenied'. -/
def topDeniedUptoCard : Claim7 := { stood := { row := topDeniedUptoRow, standIns := [], harness := (true, "3d7af8d62d7e7941f3e42890f3d11df56d21d3bf3d08ba9f143097f0972a9761"), looks := false }, kinds := [], alts := [], laidByText := true, laidKinds := [.data], laidTests := true, laidLooks := .later }
def TopDeniedUptoCardSaid : Prop := Claim7.holds Tryz.pinned (.plain (OpenSpec.upto topDeniedSpec)) topDeniedUptoCard
end Rows
end Go.Proofs.YtdcenbhgholncaaGreatDoor
