/-
  DERIVED. GIVEN WITH THE SEED: THE CARDS: each row of YtfggmgafjabbjaaGreatDoorRows.lean that lists a variable, with what it lists TIED to the program's text (the seventh form; the later family's looks); each row that meets fmt, with fmt's text TOLD by the authors' own Lean function (tested against real Go, not proved from fmt's source: count such statements apart). THE CARD IS WHAT COUNTS. Prove the row's statement (the work); the ties are given (YtfggmgafjabbjaaGreatDoorTie.lean); close each card by the builder's one call (the guide's Derived/Test/ToyasCard.lean, 'card_holds'). Laid BY PROGRAM, IN A SANDBOX (cutbox-door.mjs). By AI agents, Wed Nov 11 2026. No macro, syntax, notation, axiom, sorry.
-/
import Derived.Test.YtfggmgafjabbjaaGreatDoorRows
import GoSem.ClaimSeven
namespace Go.Proofs.YtfggmgafjabbjaaGreatDoor
namespace Rows

/-- THE TIED CARD OF 'nameplanlaw11.DeltaOnce'. -/
def deltaOnceCard : Claim7 := { stood := { row := deltaOnceRow, standIns := [], harness := (true, "40fc6cea5110cf3f9b1b3b35529bd134ea500527997ae13e9ff4a75fbe81b30d"), looks := false }, kinds := [], alts := [], laidByText := true, laidKinds := [.data], laidTests := true, laidLooks := .later }
def DeltaOnceCardSaid : Prop := Claim7.holds Tryz.pinned (.plain (OpenSpec.ofChange deltaOnceSpec)) deltaOnceCard

/-- THE TIED CARD OF 'nameplanlaw11.DeltaApplies'. -/
def deltaAppliesCard : Claim7 := { stood := { row := deltaAppliesRow, standIns := [], harness := (true, "40fc6cea5110cf3f9b1b3b35529bd134ea500527997ae13e9ff4a75fbe81b30d"), looks := false }, kinds := [], alts := [], laidByText := true, laidKinds := [.data], laidTests := true, laidLooks := .later }
def DeltaAppliesCardSaid : Prop := Claim7.holds Tryz.pinned (.plain (OpenSpec.ofChange deltaAppliesSpec)) deltaAppliesCard

/-- THE TIED CARD OF 'nameplanlaw11.DeltaMatchesReference'. -/
def deltaMatchesReferenceCard : Claim7 := { stood := { row := deltaMatchesReferenceRow, standIns := [], harness := (true, "40fc6cea5110cf3f9b1b3b35529bd134ea500527997ae13e9ff4a75fbe81b30d"), looks := false }, kinds := [], alts := [], laidByText := true, laidKinds := [.data], laidTests := true, laidLooks := .later }
def DeltaMatchesReferenceCardSaid : Prop := Claim7.holds Tryz.pinned (.plain (OpenSpec.ofChange deltaMatchesReferenceSpec)) deltaMatchesReferenceCard

/-- THE TIED CARD OF 'nameplanlaw11.DeltaJoins'. -/
def deltaJoinsCard : Claim7 := { stood := { row := deltaJoinsRow, standIns := [], harness := (true, "40fc6cea5110cf3f9b1b3b35529bd134ea500527997ae13e9ff4a75fbe81b30d"), looks := false }, kinds := [], alts := [], laidByText := true, laidKinds := [.data], laidTests := true, laidLooks := .later }
def DeltaJoinsCardSaid : Prop := Claim7.holds Tryz.pinned (.plain (OpenSpec.ofChange deltaJoinsSpec)) deltaJoinsCard

/-- THE TIED CARD OF 'nameplanlaw11.DeltaThree'. -/
def deltaThreeCard : Claim7 := { stood := { row := deltaThreeRow, standIns := [], harness := (true, "40fc6cea5110cf3f9b1b3b35529bd134ea500527997ae13e9ff4a75fbe81b30d"), looks := false }, kinds := [], alts := [], laidByText := true, laidKinds := [.data], laidTests := true, laidLooks := .later }
def DeltaThreeCardSaid : Prop := Claim7.holds Tryz.pinned (.plain (OpenSpec.ofChange deltaThreeSpec)) deltaThreeCard

/-- THE SECOND FORM's CARD OF 'nameplanlaw11.DeltaOnce'. -/
def deltaOnceUptoCard : Claim7 := { stood := { row := deltaOnceUptoRow, standIns := [], harness := (true, "40fc6cea5110cf3f9b1b3b35529bd134ea500527997ae13e9ff4a75fbe81b30d"), looks := false }, kinds := [], alts := [], laidByText := true, laidKinds := [.data], laidTests := true, laidLooks := .later }
def DeltaOnceUptoCardSaid : Prop := Claim7.holds Tryz.pinned (.plain (OpenSpec.upto deltaOnceSpec)) deltaOnceUptoCard

/-- THE SECOND FORM's CARD OF 'nameplanlaw11.DeltaApplies'. -/
def deltaAppliesUptoCard : Claim7 := { stood := { row := deltaAppliesUptoRow, standIns := [], harness := (true, "40fc6cea5110cf3f9b1b3b35529bd134ea500527997ae13e9ff4a75fbe81b30d"), looks := false }, kinds := [], alts := [], laidByText := true, laidKinds := [.data], laidTests := true, laidLooks := .later }
def DeltaAppliesUptoCardSaid : Prop := Claim7.holds Tryz.pinned (.plain (OpenSpec.upto deltaAppliesSpec)) deltaAppliesUptoCard

/-- THE SECOND FORM's CARD OF 'nameplanlaw11.DeltaMatchesReference'. -/
def deltaMatchesReferenceUptoCard : Claim7 := { stood := { row := deltaMatchesReferenceUptoRow, standIns := [], harness := (true, "40fc6cea5110cf3f9b1b3b35529bd134ea500527997ae13e9ff4a75fbe81b30d"), looks := false }, kinds := [], alts := [], laidByText := true, laidKinds := [.data], laidTests := true, laidLooks := .later }
def DeltaMatchesReferenceUptoCardSaid : Prop := Claim7.holds Tryz.pinned (.plain (OpenSpec.upto deltaMatchesReferenceSpec)) deltaMatchesReferenceUptoCard

/-- THE SECOND FORM's CARD OF 'nameplanlaw11.DeltaJoins'. -/
def deltaJoinsUptoCard : Claim7 := { stood := { row := deltaJoinsUptoRow, standIns := [], harness := (true, "40fc6cea5110cf3f9b1b3b35529bd134ea500527997ae13e9ff4a75fbe81b30d"), looks := false }, kinds := [], alts := [], laidByText := true, laidKinds := [.data], laidTests := true, laidLooks := .later }
def DeltaJoinsUptoCardSaid : Prop := Claim7.holds Tryz.pinned (.plain (OpenSpec.upto deltaJoinsSpec)) deltaJoinsUptoCard

/-- THE SECOND FORM's CARD OF 'nameplanlaw11.DeltaThree'. -/
def deltaThreeUptoCard : Claim7 := { stood := { row := deltaThreeUptoRow, standIns := [], harness := (true, "40fc6cea5110cf3f9b1b3b35529bd134ea500527997ae13e9ff4a75fbe81b30d"), looks := false }, kinds := [], alts := [], laidByText := true, laidKinds := [.data], laidTests := true, laidLooks := .later }
def DeltaThreeUptoCardSaid : Prop := Claim7.holds Tryz.pinned (.plain (OpenSpec.upto deltaThreeSpec)) deltaThreeUptoCard
end Rows
end Go.Proofs.YtfggmgafjabbjaaGreatDoor
