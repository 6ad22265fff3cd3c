/-
  DERIVED. GIVEN WITH THE SEED: THE CARDS: each row of YtfggmgafjabbjaaDoorRows.lean that lists a variable, with what it lists TIED to the program's text (the seventh form; the later family's looks); each row that meets fmt, with fmt's text TOLD by the authors' own Lean function (tested against real Go, not proved from fmt's source: count such statements apart). THE CARD IS WHAT COUNTS. Prove the row's statement (the work); the ties are given (YtfggmgafjabbjaaDoorTie.lean); close each card by the builder's one call (the guide's Derived/Test/ToyasCard.lean, 'card_holds'). Laid BY PROGRAM, IN A SANDBOX (cutbox-door.mjs). By AI agents, Wed Nov 11 2026. No macro, syntax, notation, axiom, sorry.
-/
import Derived.Test.YtfggmgafjabbjaaDoorRows
import GoSem.ClaimSeven
namespace Go.Proofs.YtfggmgafjabbjaaDoor
namespace Rows

/-- THE TIED CARD OF 'nameplanlaw02.RecordMatchesReference'. -/
def recordMatchesReferenceCard : Claim7 := { stood := { row := recordMatchesReferenceRow, standIns := [], harness := (true, "7ff5454d8941030c7907abbbdfe727bed0d01a2a76f250d6977df8f04d78bd99"), looks := false }, kinds := [], alts := [], laidByText := true, laidKinds := [.data], laidTests := true, laidLooks := .later }
def RecordMatchesReferenceCardSaid : Prop := Claim7.holds Tryd.pinned (.plain (OpenSpec.ofChange recordMatchesReferenceSpec)) recordMatchesReferenceCard

/-- THE TIED CARD OF 'nameplanlaw02.RecordBytes'. -/
def recordBytesCard : Claim7 := { stood := { row := recordBytesRow, standIns := [], harness := (true, "7ff5454d8941030c7907abbbdfe727bed0d01a2a76f250d6977df8f04d78bd99"), looks := false }, kinds := [], alts := [], laidByText := true, laidKinds := [.data], laidTests := true, laidLooks := .later }
def RecordBytesCardSaid : Prop := Claim7.holds Tryd.pinned (.plain (OpenSpec.ofChange recordBytesSpec)) recordBytesCard

/-- THE TIED CARD OF 'nameplanlaw02.RecordOrder'. -/
def recordOrderCard : Claim7 := { stood := { row := recordOrderRow, standIns := [], harness := (true, "7ff5454d8941030c7907abbbdfe727bed0d01a2a76f250d6977df8f04d78bd99"), looks := false }, kinds := [], alts := [], laidByText := true, laidKinds := [.data], laidTests := true, laidLooks := .later }
def RecordOrderCardSaid : Prop := Claim7.holds Tryd.pinned (.plain (OpenSpec.ofChange recordOrderSpec)) recordOrderCard

/-- THE TIED CARD OF 'nameplanlaw02.RecordDamage'. -/
def recordDamageCard : Claim7 := { stood := { row := recordDamageRow, standIns := [], harness := (true, "7ff5454d8941030c7907abbbdfe727bed0d01a2a76f250d6977df8f04d78bd99"), looks := false }, kinds := [], alts := [], laidByText := true, laidKinds := [.data], laidTests := true, laidLooks := .later }
def RecordDamageCardSaid : Prop := Claim7.holds Tryd.pinned (.plain (OpenSpec.ofChange recordDamageSpec)) recordDamageCard

/-- THE TIED CARD OF 'nameplanlaw11.DeltaSerials'. -/
def deltaSerialsCard : Claim7 := { stood := { row := deltaSerialsRow, standIns := [], harness := (true, "7ff5454d8941030c7907abbbdfe727bed0d01a2a76f250d6977df8f04d78bd99"), looks := false }, kinds := [], alts := [], laidByText := true, laidKinds := [.data], laidTests := true, laidLooks := .later }
def DeltaSerialsCardSaid : Prop := Claim7.holds Tryd.pinned (.plain (OpenSpec.ofChange deltaSerialsSpec)) deltaSerialsCard

/-- THE SECOND FORM's CARD OF 'nameplanlaw02.RecordMatchesReference'. -/
def recordMatchesReferenceUptoCard : Claim7 := { stood := { row := recordMatchesReferenceUptoRow, standIns := [], harness := (true, "7ff5454d8941030c7907abbbdfe727bed0d01a2a76f250d6977df8f04d78bd99"), looks := false }, kinds := [], alts := [], laidByText := true, laidKinds := [.data], laidTests := true, laidLooks := .later }
def RecordMatchesReferenceUptoCardSaid : Prop := Claim7.holds Tryd.pinned (.plain (OpenSpec.upto recordMatchesReferenceSpec)) recordMatchesReferenceUptoCard

/-- THE SECOND FORM's CARD OF 'nameplanlaw02.RecordBytes'. -/
def recordBytesUptoCard : Claim7 := { stood := { row := recordBytesUptoRow, standIns := [], harness := (true, "7ff5454d8941030c7907abbbdfe727bed0d01a2a76f250d6977df8f04d78bd99"), looks := false }, kinds := [], alts := [], laidByText := true, laidKinds := [.data], laidTests := true, laidLooks := .later }
def RecordBytesUptoCardSaid : Prop := Claim7.holds Tryd.pinned (.plain (OpenSpec.upto recordBytesSpec)) recordBytesUptoCard

/-- THE SECOND FORM's CARD OF 'nameplanlaw02.RecordOrder'. -/
def recordOrderUptoCard : Claim7 := { stood := { row := recordOrderUptoRow, standIns := [], harness := (true, "7ff5454d8941030c7907abbbdfe727bed0d01a2a76f250d6977df8f04d78bd99"), looks := false }, kinds := [], alts := [], laidByText := true, laidKinds := [.data], laidTests := true, laidLooks := .later }
def RecordOrderUptoCardSaid : Prop := Claim7.holds Tryd.pinned (.plain (OpenSpec.upto recordOrderSpec)) recordOrderUptoCard

/-- THE SECOND FORM's CARD OF 'nameplanlaw02.RecordDamage'. -/
def recordDamageUptoCard : Claim7 := { stood := { row := recordDamageUptoRow, standIns := [], harness := (true, "7ff5454d8941030c7907abbbdfe727bed0d01a2a76f250d6977df8f04d78bd99"), looks := false }, kinds := [], alts := [], laidByText := true, laidKinds := [.data], laidTests := true, laidLooks := .later }
def RecordDamageUptoCardSaid : Prop := Claim7.holds Tryd.pinned (.plain (OpenSpec.upto recordDamageSpec)) recordDamageUptoCard

/-- THE SECOND FORM's CARD OF 'nameplanlaw11.DeltaSerials'. -/
def deltaSerialsUptoCard : Claim7 := { stood := { row := deltaSerialsUptoRow, standIns := [], harness := (true, "7ff5454d8941030c7907abbbdfe727bed0d01a2a76f250d6977df8f04d78bd99"), looks := false }, kinds := [], alts := [], laidByText := true, laidKinds := [.data], laidTests := true, laidLooks := .later }
def DeltaSerialsUptoCardSaid : Prop := Claim7.holds Tryd.pinned (.plain (OpenSpec.upto deltaSerialsSpec)) deltaSerialsUptoCard
end Rows
end Go.Proofs.YtfggmgafjabbjaaDoor
