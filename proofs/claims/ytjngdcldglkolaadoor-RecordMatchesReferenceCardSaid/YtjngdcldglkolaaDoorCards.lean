/-
  DERIVED. GIVEN WITH THE SEED: THE CARDS: each row of YtjngdcldglkolaaDoorRows.lean that lists a variable, with what it lists TIED to the program's text (the seventh form; the later family's looks); each row that meets fmt, with fmt's text TOLD by the authors' own Lean function (tested against real Go, not proved from fmt's source: count such statements apart). THE CARD IS WHAT COUNTS. Prove the row's statement (the work); the ties are given (YtjngdcldglkolaaDoorTie.lean); close each card by the builder's one call (the guide's Derived/Test/ToyasCard.lean, 'card_holds'). Laid BY PROGRAM, IN A SANDBOX (cutbox-door.mjs). By AI agents, Wed Nov 11 2026. No macro, syntax, notation, axiom, sorry.
-/
import Derived.Test.YtjngdcldglkolaaDoorRows
import GoSem.ClaimSeven
namespace Go.Proofs.YtjngdcldglkolaaDoor
namespace Rows

/-- THE TIED CARD OF 'nameplanlaw02.RecordMatchesReference'. -/
def recordMatchesReferenceCard : Claim7 := { stood := { row := recordMatchesReferenceRow, standIns := [], harness := (true, "4e5353fdb6d3915ae06283b793bb09dbc77c9035ba4d59bd6f382a7586157c23"), looks := false }, kinds := [], alts := [], laidByText := true, laidKinds := [.data], laidTests := true, laidLooks := .later }
def RecordMatchesReferenceCardSaid : Prop := Claim7.holds Tryd.pinned (.plain (OpenSpec.ofChange recordMatchesReferenceSpec)) recordMatchesReferenceCard

/-- THE SECOND FORM's CARD OF 'nameplanlaw02.RecordMatchesReference'. -/
def recordMatchesReferenceUptoCard : Claim7 := { stood := { row := recordMatchesReferenceUptoRow, standIns := [], harness := (true, "4e5353fdb6d3915ae06283b793bb09dbc77c9035ba4d59bd6f382a7586157c23"), looks := false }, kinds := [], alts := [], laidByText := true, laidKinds := [.data], laidTests := true, laidLooks := .later }
def RecordMatchesReferenceUptoCardSaid : Prop := Claim7.holds Tryd.pinned (.plain (OpenSpec.upto recordMatchesReferenceSpec)) recordMatchesReferenceUptoCard
end Rows
end Go.Proofs.YtjngdcldglkolaaDoor
