/-
  DERIVED. GIVEN WITH THE SEED: THE CARDS: each row of YtidphdaoejibcaaGreatDoorRows.lean that lists a variable, with what it lists TIED to the program's text (the seventh form; the later family's looks); each row that meets fmt, with fmt's text TOLD by the authors' own Lean function (tested against real Go, not proved from fmt's source: count such statements apart). THE CARD IS WHAT COUNTS. Prove the row's statement (the work); the ties are given (YtidphdaoejibcaaGreatDoorTie.lean); close each card by the builder's one call (the guide's Derived/Test/ToyasCard.lean, 'card_holds'). Laid BY PROGRAM, IN A SANDBOX (cutbox-door.mjs). By AI agents, Wed Nov 11 2026. No macro, syntax, notation, axiom, sorry.
-/
import Derived.Test.YtidphdaoejibcaaGreatDoorRows
import GoSem.ClaimSeven
namespace Go.Proofs.YtidphdaoejibcaaGreatDoor
namespace Rows

/-- THE TIED CARD OF 'nameplantop.TopZonesAgree'. -/
def topZonesAgreeCard : Claim7 := { stood := { row := topZonesAgreeRow, standIns := [], harness := (true, "630f1d6debed9bbd07bf8710a318750e8a8502c56b108a5bc9ba43001370d4f8"), looks := true }, kinds := [], alts := [], laidByText := true, laidKinds := [.sentinel, .data, .sentinel], laidTests := true, laidLooks := .later }
def TopZonesAgreeCardSaid : Prop := Claim7.holds Tryz.pinned (.plain (OpenSpec.ofChange topZonesAgreeSpec)) topZonesAgreeCard

/-- THE TIED CARD OF 'nameplantop.TopCrashedSecondary'. -/
def topCrashedSecondaryCard : Claim7 := { stood := { row := topCrashedSecondaryRow, standIns := [], harness := (true, "630f1d6debed9bbd07bf8710a318750e8a8502c56b108a5bc9ba43001370d4f8"), looks := true }, kinds := [], alts := [], laidByText := true, laidKinds := [.sentinel, .data, .sentinel], laidTests := true, laidLooks := .later }
def TopCrashedSecondaryCardSaid : Prop := Claim7.holds Tryz.pinned (.plain (OpenSpec.ofChange topCrashedSecondarySpec)) topCrashedSecondaryCard

/-- THE SECOND FORM's CARD OF 'nameplantop.TopZonesAgree'. -/
def topZonesAgreeUptoCard : Claim7 := { stood := { row := topZonesAgreeUptoRow, standIns := [], harness := (true, "630f1d6debed9bbd07bf8710a318750e8a8502c56b108a5bc9ba43001370d4f8"), looks := true }, kinds := [], alts := [], laidByText := true, laidKinds := [.sentinel, .data, .sentinel], laidTests := true, laidLooks := .later }
def TopZonesAgreeUptoCardSaid : Prop := Claim7.holds Tryz.pinned (.plain (OpenSpec.upto topZonesAgreeSpec)) topZonesAgreeUptoCard

/-- THE SECOND FORM's CARD OF 'nameplantop.TopCrashedSecondary'. -/
def topCrashedSecondaryUptoCard : Claim7 := { stood := { row := topCrashedSecondaryUptoRow, standIns := [], harness := (true, "630f1d6debed9bbd07bf8710a318750e8a8502c56b108a5bc9ba43001370d4f8"), looks := true }, kinds := [], alts := [], laidByText := true, laidKinds := [.sentinel, .data, .sentinel], laidTests := true, laidLooks := .later }
def TopCrashedSecondaryUptoCardSaid : Prop := Claim7.holds Tryz.pinned (.plain (OpenSpec.upto topCrashedSecondarySpec)) topCrashedSecondaryUptoCard
end Rows
end Go.Proofs.YtidphdaoejibcaaGreatDoor
