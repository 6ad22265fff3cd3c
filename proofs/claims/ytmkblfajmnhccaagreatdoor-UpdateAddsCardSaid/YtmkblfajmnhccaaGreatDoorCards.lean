/-
  DERIVED. GIVEN WITH THE SEED: THE CARDS: each row of YtmkblfajmnhccaaGreatDoorRows.lean that lists a variable, with what it lists TIED to the program's text (the seventh form; the later family's looks); each row that meets fmt, with fmt's text TOLD by the authors' own Lean function (tested against real Go, not proved from fmt's source: count such statements apart). THE CARD IS WHAT COUNTS. Prove the row's statement (the work); the ties are given (YtmkblfajmnhccaaGreatDoorTie.lean); close each card by the builder's one call (the guide's Derived/Test/ToyasCard.lean, 'card_holds'). Laid BY PROGRAM, IN A SANDBOX (cutbox-door.mjs). By AI agents, Wed Nov 11 2026. No macro, syntax, notation, axiom, sorry.
-/
import Derived.Test.YtmkblfajmnhccaaGreatDoorRows
import GoSem.ClaimSeven
namespace Go.Proofs.YtmkblfajmnhccaaGreatDoor
namespace Rows

/-- THE TIED CARD OF 'nameplanlaw12.UpdateMatchesReference'. -/
def updateMatchesReferenceCard : Claim7 := { stood := { row := updateMatchesReferenceRow, standIns := [], harness := (true, "ae4fd49694d91b96f5ee8d8434b75f4ff0f6158c5d9c20085ae09407791ed623"), looks := true }, kinds := [], alts := [], laidByText := true, laidKinds := [.data], laidTests := true, laidLooks := .later }
def UpdateMatchesReferenceCardSaid : Prop := Claim7.holds Tryz.pinned (.plain (OpenSpec.ofChange updateMatchesReferenceSpec)) updateMatchesReferenceCard

/-- THE TIED CARD OF 'nameplanlaw12.UpdateNeeds'. -/
def updateNeedsCard : Claim7 := { stood := { row := updateNeedsRow, standIns := [], harness := (true, "ae4fd49694d91b96f5ee8d8434b75f4ff0f6158c5d9c20085ae09407791ed623"), looks := true }, kinds := [], alts := [], laidByText := true, laidKinds := [.data], laidTests := true, laidLooks := .later }
def UpdateNeedsCardSaid : Prop := Claim7.holds Tryz.pinned (.plain (OpenSpec.ofChange updateNeedsSpec)) updateNeedsCard

/-- THE TIED CARD OF 'nameplanlaw12.UpdateParts'. -/
def updatePartsCard : Claim7 := { stood := { row := updatePartsRow, standIns := [], harness := (true, "ae4fd49694d91b96f5ee8d8434b75f4ff0f6158c5d9c20085ae09407791ed623"), looks := true }, kinds := [], alts := [], laidByText := true, laidKinds := [.data], laidTests := true, laidLooks := .later }
def UpdatePartsCardSaid : Prop := Claim7.holds Tryz.pinned (.plain (OpenSpec.ofChange updatePartsSpec)) updatePartsCard

/-- THE TIED CARD OF 'nameplanlaw12.UpdateNames'. -/
def updateNamesCard : Claim7 := { stood := { row := updateNamesRow, standIns := [], harness := (true, "ae4fd49694d91b96f5ee8d8434b75f4ff0f6158c5d9c20085ae09407791ed623"), looks := true }, kinds := [], alts := [], laidByText := true, laidKinds := [.data], laidTests := true, laidLooks := .later }
def UpdateNamesCardSaid : Prop := Claim7.holds Tryz.pinned (.plain (OpenSpec.ofChange updateNamesSpec)) updateNamesCard

/-- THE TIED CARD OF 'nameplanlaw12.UpdateSerial'. -/
def updateSerialCard : Claim7 := { stood := { row := updateSerialRow, standIns := [], harness := (true, "ae4fd49694d91b96f5ee8d8434b75f4ff0f6158c5d9c20085ae09407791ed623"), looks := true }, kinds := [], alts := [], laidByText := true, laidKinds := [.data], laidTests := true, laidLooks := .later }
def UpdateSerialCardSaid : Prop := Claim7.holds Tryz.pinned (.plain (OpenSpec.ofChange updateSerialSpec)) updateSerialCard

/-- THE TIED CARD OF 'nameplanlaw12.UpdateAdds'. -/
def updateAddsCard : Claim7 := { stood := { row := updateAddsRow, standIns := [], harness := (true, "ae4fd49694d91b96f5ee8d8434b75f4ff0f6158c5d9c20085ae09407791ed623"), looks := true }, kinds := [], alts := [], laidByText := true, laidKinds := [.data], laidTests := true, laidLooks := .later }
def UpdateAddsCardSaid : Prop := Claim7.holds Tryz.pinned (.plain (OpenSpec.ofChange updateAddsSpec)) updateAddsCard

/-- THE TIED CARD OF 'nameplanlaw12.UpdateTakes'. -/
def updateTakesCard : Claim7 := { stood := { row := updateTakesRow, standIns := [], harness := (true, "ae4fd49694d91b96f5ee8d8434b75f4ff0f6158c5d9c20085ae09407791ed623"), looks := true }, kinds := [], alts := [], laidByText := true, laidKinds := [.data], laidTests := true, laidLooks := .later }
def UpdateTakesCardSaid : Prop := Claim7.holds Tryz.pinned (.plain (OpenSpec.ofChange updateTakesSpec)) updateTakesCard

/-- THE SECOND FORM's CARD OF 'nameplanlaw12.UpdateMatchesReference'. -/
def updateMatchesReferenceUptoCard : Claim7 := { stood := { row := updateMatchesReferenceUptoRow, standIns := [], harness := (true, "ae4fd49694d91b96f5ee8d8434b75f4ff0f6158c5d9c20085ae09407791ed623"), looks := true }, kinds := [], alts := [], laidByText := true, laidKinds := [.data], laidTests := true, laidLooks := .later }
def UpdateMatchesReferenceUptoCardSaid : Prop := Claim7.holds Tryz.pinned (.plain (OpenSpec.upto updateMatchesReferenceSpec)) updateMatchesReferenceUptoCard

/-- THE SECOND FORM's CARD OF 'nameplanlaw12.UpdateNeeds'. -/
def updateNeedsUptoCard : Claim7 := { stood := { row := updateNeedsUptoRow, standIns := [], harness := (true, "ae4fd49694d91b96f5ee8d8434b75f4ff0f6158c5d9c20085ae09407791ed623"), looks := true }, kinds := [], alts := [], laidByText := true, laidKinds := [.data], laidTests := true, laidLooks := .later }
def UpdateNeedsUptoCardSaid : Prop := Claim7.holds Tryz.pinned (.plain (OpenSpec.upto updateNeedsSpec)) updateNeedsUptoCard

/-- THE SECOND FORM's CARD OF 'nameplanlaw12.UpdateParts'. -/
def updatePartsUptoCard : Claim7 := { stood := { row := updatePartsUptoRow, standIns := [], harness := (true, "ae4fd49694d91b96f5ee8d8434b75f4ff0f6158c5d9c20085ae09407791ed623"), looks := true }, kinds := [], alts := [], laidByText := true, laidKinds := [.data], laidTests := true, laidLooks := .later }
def UpdatePartsUptoCardSaid : Prop := Claim7.holds Tryz.pinned (.plain (OpenSpec.upto updatePartsSpec)) updatePartsUptoCard

/-- THE SECOND FORM's CARD OF 'nameplanlaw12.UpdateNames'. -/
def updateNamesUptoCard : Claim7 := { stood := { row := updateNamesUptoRow, standIns := [], harness := (true, "ae4fd49694d91b96f5ee8d8434b75f4ff0f6158c5d9c20085ae09407791ed623"), looks := true }, kinds := [], alts := [], laidByText := true, laidKinds := [.data], laidTests := true, laidLooks := .later }
def UpdateNamesUptoCardSaid : Prop := Claim7.holds Tryz.pinned (.plain (OpenSpec.upto updateNamesSpec)) updateNamesUptoCard

/-- THE SECOND FORM's CARD OF 'nameplanlaw12.UpdateSerial'. -/
def updateSerialUptoCard : Claim7 := { stood := { row := updateSerialUptoRow, standIns := [], harness := (true, "ae4fd49694d91b96f5ee8d8434b75f4ff0f6158c5d9c20085ae09407791ed623"), looks := true }, kinds := [], alts := [], laidByText := true, laidKinds := [.data], laidTests := true, laidLooks := .later }
def UpdateSerialUptoCardSaid : Prop := Claim7.holds Tryz.pinned (.plain (OpenSpec.upto updateSerialSpec)) updateSerialUptoCard

/-- THE SECOND FORM's CARD OF 'nameplanlaw12.UpdateAdds'. -/
def updateAddsUptoCard : Claim7 := { stood := { row := updateAddsUptoRow, standIns := [], harness := (true, "ae4fd49694d91b96f5ee8d8434b75f4ff0f6158c5d9c20085ae09407791ed623"), looks := true }, kinds := [], alts := [], laidByText := true, laidKinds := [.data], laidTests := true, laidLooks := .later }
def UpdateAddsUptoCardSaid : Prop := Claim7.holds Tryz.pinned (.plain (OpenSpec.upto updateAddsSpec)) updateAddsUptoCard

/-- THE SECOND FORM's CARD OF 'nameplanlaw12.UpdateTakes'. -/
def updateTakesUptoCard : Claim7 := { stood := { row := updateTakesUptoRow, standIns := [], harness := (true, "ae4fd49694d91b96f5ee8d8434b75f4ff0f6158c5d9c20085ae09407791ed623"), looks := true }, kinds := [], alts := [], laidByText := true, laidKinds := [.data], laidTests := true, laidLooks := .later }
def UpdateTakesUptoCardSaid : Prop := Claim7.holds Tryz.pinned (.plain (OpenSpec.upto updateTakesSpec)) updateTakesUptoCard
end Rows
end Go.Proofs.YtmkblfajmnhccaaGreatDoor
