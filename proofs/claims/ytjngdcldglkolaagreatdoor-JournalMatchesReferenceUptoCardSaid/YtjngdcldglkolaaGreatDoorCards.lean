/-
  DERIVED. GIVEN WITH THE SEED: THE CARDS: each row of YtjngdcldglkolaaGreatDoorRows.lean that lists a variable, with what it lists TIED to the program's text (the seventh form; the later family's looks); each row that meets fmt, with fmt's text TOLD by the authors' own Lean function (tested against real Go, not proved from fmt's source: count such statements apart). THE CARD IS WHAT COUNTS. Prove the row's statement (the work); the ties are given (YtjngdcldglkolaaGreatDoorTie.lean); close each card by the builder's one call (the guide's Derived/Test/ToyasCard.lean, 'card_holds'). Laid BY PROGRAM, IN A SANDBOX (cutbox-door.mjs). By AI agents, Wed Nov 11 2026. No macro, syntax, notation, axiom, sorry.
-/
import Derived.Test.YtjngdcldglkolaaGreatDoorRows
import GoSem.ClaimSeven
namespace Go.Proofs.YtjngdcldglkolaaGreatDoor
namespace Rows

/-- THE TIED CARD OF 'nameplanlaw13.JournalMatchesReference'. -/
def journalMatchesReferenceCard : Claim7 := { stood := { row := journalMatchesReferenceRow, standIns := [], harness := (true, "b5e68a1b925606b0381e7e76fc57798e0ae8aca2c8daf80d317bf08d34be077e"), looks := true }, kinds := [], alts := [], laidByText := true, laidKinds := [.sentinel, .data, .sentinel], laidTests := true, laidLooks := .later }
def JournalMatchesReferenceCardSaid : Prop := Claim7.holds Tryz.pinned (.plain (OpenSpec.ofChange journalMatchesReferenceSpec)) journalMatchesReferenceCard

/-- THE TIED CARD OF 'nameplanlaw13.JournalReads'. -/
def journalReadsCard : Claim7 := { stood := { row := journalReadsRow, standIns := [], harness := (true, "b5e68a1b925606b0381e7e76fc57798e0ae8aca2c8daf80d317bf08d34be077e"), looks := true }, kinds := [], alts := [], laidByText := true, laidKinds := [.sentinel, .data, .sentinel], laidTests := true, laidLooks := .later }
def JournalReadsCardSaid : Prop := Claim7.holds Tryz.pinned (.plain (OpenSpec.ofChange journalReadsSpec)) journalReadsCard

/-- THE TIED CARD OF 'nameplanlaw13.JournalCrashes'. -/
def journalCrashesCard : Claim7 := { stood := { row := journalCrashesRow, standIns := [], harness := (true, "b5e68a1b925606b0381e7e76fc57798e0ae8aca2c8daf80d317bf08d34be077e"), looks := true }, kinds := [], alts := [], laidByText := true, laidKinds := [.sentinel, .data, .sentinel], laidTests := true, laidLooks := .later }
def JournalCrashesCardSaid : Prop := Claim7.holds Tryz.pinned (.plain (OpenSpec.ofChange journalCrashesSpec)) journalCrashesCard

/-- THE TIED CARD OF 'nameplanlaw13.JournalAgain'. -/
def journalAgainCard : Claim7 := { stood := { row := journalAgainRow, standIns := [], harness := (true, "b5e68a1b925606b0381e7e76fc57798e0ae8aca2c8daf80d317bf08d34be077e"), looks := true }, kinds := [], alts := [], laidByText := true, laidKinds := [.sentinel, .data, .sentinel], laidTests := true, laidLooks := .later }
def JournalAgainCardSaid : Prop := Claim7.holds Tryz.pinned (.plain (OpenSpec.ofChange journalAgainSpec)) journalAgainCard

/-- THE TIED CARD OF 'nameplanlaw13.JournalDamage'. -/
def journalDamageCard : Claim7 := { stood := { row := journalDamageRow, standIns := [], harness := (true, "b5e68a1b925606b0381e7e76fc57798e0ae8aca2c8daf80d317bf08d34be077e"), looks := true }, kinds := [], alts := [], laidByText := true, laidKinds := [.sentinel, .data, .sentinel], laidTests := true, laidLooks := .later }
def JournalDamageCardSaid : Prop := Claim7.holds Tryz.pinned (.plain (OpenSpec.ofChange journalDamageSpec)) journalDamageCard

/-- THE TIED CARD OF 'nameplanlaw13.JournalOrder'. -/
def journalOrderCard : Claim7 := { stood := { row := journalOrderRow, standIns := [], harness := (true, "b5e68a1b925606b0381e7e76fc57798e0ae8aca2c8daf80d317bf08d34be077e"), looks := true }, kinds := [], alts := [], laidByText := true, laidKinds := [.sentinel, .data, .sentinel], laidTests := true, laidLooks := .later }
def JournalOrderCardSaid : Prop := Claim7.holds Tryz.pinned (.plain (OpenSpec.ofChange journalOrderSpec)) journalOrderCard

/-- THE SECOND FORM's CARD OF 'nameplanlaw13.JournalMatchesReference'. -/
def journalMatchesReferenceUptoCard : Claim7 := { stood := { row := journalMatchesReferenceUptoRow, standIns := [], harness := (true, "b5e68a1b925606b0381e7e76fc57798e0ae8aca2c8daf80d317bf08d34be077e"), looks := true }, kinds := [], alts := [], laidByText := true, laidKinds := [.sentinel, .data, .sentinel], laidTests := true, laidLooks := .later }
def JournalMatchesReferenceUptoCardSaid : Prop := Claim7.holds Tryz.pinned (.plain (OpenSpec.upto journalMatchesReferenceSpec)) journalMatchesReferenceUptoCard

/-- THE SECOND FORM's CARD OF 'nameplanlaw13.JournalReads'. -/
def journalReadsUptoCard : Claim7 := { stood := { row := journalReadsUptoRow, standIns := [], harness := (true, "b5e68a1b925606b0381e7e76fc57798e0ae8aca2c8daf80d317bf08d34be077e"), looks := true }, kinds := [], alts := [], laidByText := true, laidKinds := [.sentinel, .data, .sentinel], laidTests := true, laidLooks := .later }
def JournalReadsUptoCardSaid : Prop := Claim7.holds Tryz.pinned (.plain (OpenSpec.upto journalReadsSpec)) journalReadsUptoCard

/-- THE SECOND FORM's CARD OF 'nameplanlaw13.JournalCrashes'. -/
def journalCrashesUptoCard : Claim7 := { stood := { row := journalCrashesUptoRow, standIns := [], harness := (true, "b5e68a1b925606b0381e7e76fc57798e0ae8aca2c8daf80d317bf08d34be077e"), looks := true }, kinds := [], alts := [], laidByText := true, laidKinds := [.sentinel, .data, .sentinel], laidTests := true, laidLooks := .later }
def JournalCrashesUptoCardSaid : Prop := Claim7.holds Tryz.pinned (.plain (OpenSpec.upto journalCrashesSpec)) journalCrashesUptoCard

/-- THE SECOND FORM's CARD OF 'nameplanlaw13.JournalAgain'. -/
def journalAgainUptoCard : Claim7 := { stood := { row := journalAgainUptoRow, standIns := [], harness := (true, "b5e68a1b925606b0381e7e76fc57798e0ae8aca2c8daf80d317bf08d34be077e"), looks := true }, kinds := [], alts := [], laidByText := true, laidKinds := [.sentinel, .data, .sentinel], laidTests := true, laidLooks := .later }
def JournalAgainUptoCardSaid : Prop := Claim7.holds Tryz.pinned (.plain (OpenSpec.upto journalAgainSpec)) journalAgainUptoCard

/-- THE SECOND FORM's CARD OF 'nameplanlaw13.JournalDamage'. -/
def journalDamageUptoCard : Claim7 := { stood := { row := journalDamageUptoRow, standIns := [], harness := (true, "b5e68a1b925606b0381e7e76fc57798e0ae8aca2c8daf80d317bf08d34be077e"), looks := true }, kinds := [], alts := [], laidByText := true, laidKinds := [.sentinel, .data, .sentinel], laidTests := true, laidLooks := .later }
def JournalDamageUptoCardSaid : Prop := Claim7.holds Tryz.pinned (.plain (OpenSpec.upto journalDamageSpec)) journalDamageUptoCard

/-- THE SECOND FORM's CARD OF 'nameplanlaw13.JournalOrder'. -/
def journalOrderUptoCard : Claim7 := { stood := { row := journalOrderUptoRow, standIns := [], harness := (true, "b5e68a1b925606b0381e7e76fc57798e0ae8aca2c8daf80d317bf08d34be077e"), looks := true }, kinds := [], alts := [], laidByText := true, laidKinds := [.sentinel, .data, .sentinel], laidTests := true, laidLooks := .later }
def JournalOrderUptoCardSaid : Prop := Claim7.holds Tryz.pinned (.plain (OpenSpec.upto journalOrderSpec)) journalOrderUptoCard
end Rows
end Go.Proofs.YtjngdcldglkolaaGreatDoor
