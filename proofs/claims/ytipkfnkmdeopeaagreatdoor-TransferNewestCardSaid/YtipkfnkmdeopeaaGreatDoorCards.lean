/-
  DERIVED. GIVEN WITH THE SEED: THE CARDS: each row of YtipkfnkmdeopeaaGreatDoorRows.lean that lists a variable, with what it lists TIED to the program's text (the seventh form; the later family's looks); each row that meets fmt, with fmt's text TOLD by the authors' own Lean function (tested against real Go, not proved from fmt's source: count such statements apart). THE CARD IS WHAT COUNTS. Prove the row's statement (the work); the ties are given (YtipkfnkmdeopeaaGreatDoorTie.lean); close each card by the builder's one call (the guide's Derived/Test/ToyasCard.lean, 'card_holds'). Laid BY PROGRAM, IN A SANDBOX (cutbox-door.mjs). By AI agents, Wed Nov 11 2026. No macro, syntax, notation, axiom, sorry.
-/
import Derived.Test.YtipkfnkmdeopeaaGreatDoorRows
import GoSem.ClaimSeven
namespace Go.Proofs.YtipkfnkmdeopeaaGreatDoor
namespace Rows

/-- THE TIED CARD OF 'nameplanlaw14.TransferMatchesReference'. -/
def transferMatchesReferenceCard : Claim7 := { stood := { row := transferMatchesReferenceRow, standIns := [], harness := (true, "d8c34198b770ef5422c3ec300eaabc3d58cdc6669f939eead089ad3d70e40a33"), looks := false }, kinds := [], alts := [], laidByText := true, laidKinds := [.data], laidTests := true, laidLooks := .later }
def TransferMatchesReferenceCardSaid : Prop := Claim7.holds Tryz.pinned (.plain (OpenSpec.ofChange transferMatchesReferenceSpec)) transferMatchesReferenceCard

/-- THE TIED CARD OF 'nameplanlaw14.TransferNewest'. -/
def transferNewestCard : Claim7 := { stood := { row := transferNewestRow, standIns := [], harness := (true, "d8c34198b770ef5422c3ec300eaabc3d58cdc6669f939eead089ad3d70e40a33"), looks := false }, kinds := [], alts := [], laidByText := true, laidKinds := [.data], laidTests := true, laidLooks := .later }
def TransferNewestCardSaid : Prop := Claim7.holds Tryz.pinned (.plain (OpenSpec.ofChange transferNewestSpec)) transferNewestCard

/-- THE TIED CARD OF 'nameplanlaw14.TransferIncremental'. -/
def transferIncrementalCard : Claim7 := { stood := { row := transferIncrementalRow, standIns := [], harness := (true, "d8c34198b770ef5422c3ec300eaabc3d58cdc6669f939eead089ad3d70e40a33"), looks := false }, kinds := [], alts := [], laidByText := true, laidKinds := [.data], laidTests := true, laidLooks := .later }
def TransferIncrementalCardSaid : Prop := Claim7.holds Tryz.pinned (.plain (OpenSpec.ofChange transferIncrementalSpec)) transferIncrementalCard

/-- THE TIED CARD OF 'nameplanlaw14.TransferLagging'. -/
def transferLaggingCard : Claim7 := { stood := { row := transferLaggingRow, standIns := [], harness := (true, "d8c34198b770ef5422c3ec300eaabc3d58cdc6669f939eead089ad3d70e40a33"), looks := false }, kinds := [], alts := [], laidByText := true, laidKinds := [.data], laidTests := true, laidLooks := .later }
def TransferLaggingCardSaid : Prop := Claim7.holds Tryz.pinned (.plain (OpenSpec.ofChange transferLaggingSpec)) transferLaggingCard

/-- THE TIED CARD OF 'nameplanlaw14.TransferOld'. -/
def transferOldCard : Claim7 := { stood := { row := transferOldRow, standIns := [], harness := (true, "d8c34198b770ef5422c3ec300eaabc3d58cdc6669f939eead089ad3d70e40a33"), looks := false }, kinds := [], alts := [], laidByText := true, laidKinds := [.data], laidTests := true, laidLooks := .later }
def TransferOldCardSaid : Prop := Claim7.holds Tryz.pinned (.plain (OpenSpec.ofChange transferOldSpec)) transferOldCard

/-- THE TIED CARD OF 'nameplanlaw14.TransferPatience'. -/
def transferPatienceCard : Claim7 := { stood := { row := transferPatienceRow, standIns := [], harness := (true, "d8c34198b770ef5422c3ec300eaabc3d58cdc6669f939eead089ad3d70e40a33"), looks := false }, kinds := [], alts := [], laidByText := true, laidKinds := [.data], laidTests := true, laidLooks := .later }
def TransferPatienceCardSaid : Prop := Claim7.holds Tryz.pinned (.plain (OpenSpec.ofChange transferPatienceSpec)) transferPatienceCard

/-- THE SECOND FORM's CARD OF 'nameplanlaw14.TransferMatchesReference'. -/
def transferMatchesReferenceUptoCard : Claim7 := { stood := { row := transferMatchesReferenceUptoRow, standIns := [], harness := (true, "d8c34198b770ef5422c3ec300eaabc3d58cdc6669f939eead089ad3d70e40a33"), looks := false }, kinds := [], alts := [], laidByText := true, laidKinds := [.data], laidTests := true, laidLooks := .later }
def TransferMatchesReferenceUptoCardSaid : Prop := Claim7.holds Tryz.pinned (.plain (OpenSpec.upto transferMatchesReferenceSpec)) transferMatchesReferenceUptoCard

/-- THE SECOND FORM's CARD OF 'nameplanlaw14.TransferNewest'. -/
def transferNewestUptoCard : Claim7 := { stood := { row := transferNewestUptoRow, standIns := [], harness := (true, "d8c34198b770ef5422c3ec300eaabc3d58cdc6669f939eead089ad3d70e40a33"), looks := false }, kinds := [], alts := [], laidByText := true, laidKinds := [.data], laidTests := true, laidLooks := .later }
def TransferNewestUptoCardSaid : Prop := Claim7.holds Tryz.pinned (.plain (OpenSpec.upto transferNewestSpec)) transferNewestUptoCard

/-- THE SECOND FORM's CARD OF 'nameplanlaw14.TransferIncremental'. -/
def transferIncrementalUptoCard : Claim7 := { stood := { row := transferIncrementalUptoRow, standIns := [], harness := (true, "d8c34198b770ef5422c3ec300eaabc3d58cdc6669f939eead089ad3d70e40a33"), looks := false }, kinds := [], alts := [], laidByText := true, laidKinds := [.data], laidTests := true, laidLooks := .later }
def TransferIncrementalUptoCardSaid : Prop := Claim7.holds Tryz.pinned (.plain (OpenSpec.upto transferIncrementalSpec)) transferIncrementalUptoCard

/-- THE SECOND FORM's CARD OF 'nameplanlaw14.TransferLagging'. -/
def transferLaggingUptoCard : Claim7 := { stood := { row := transferLaggingUptoRow, standIns := [], harness := (true, "d8c34198b770ef5422c3ec300eaabc3d58cdc6669f939eead089ad3d70e40a33"), looks := false }, kinds := [], alts := [], laidByText := true, laidKinds := [.data], laidTests := true, laidLooks := .later }
def TransferLaggingUptoCardSaid : Prop := Claim7.holds Tryz.pinned (.plain (OpenSpec.upto transferLaggingSpec)) transferLaggingUptoCard

/-- THE SECOND FORM's CARD OF 'nameplanlaw14.TransferOld'. -/
def transferOldUptoCard : Claim7 := { stood := { row := transferOldUptoRow, standIns := [], harness := (true, "d8c34198b770ef5422c3ec300eaabc3d58cdc6669f939eead089ad3d70e40a33"), looks := false }, kinds := [], alts := [], laidByText := true, laidKinds := [.data], laidTests := true, laidLooks := .later }
def TransferOldUptoCardSaid : Prop := Claim7.holds Tryz.pinned (.plain (OpenSpec.upto transferOldSpec)) transferOldUptoCard

/-- THE SECOND FORM's CARD OF 'nameplanlaw14.TransferPatience'. -/
def transferPatienceUptoCard : Claim7 := { stood := { row := transferPatienceUptoRow, standIns := [], harness := (true, "d8c34198b770ef5422c3ec300eaabc3d58cdc6669f939eead089ad3d70e40a33"), looks := false }, kinds := [], alts := [], laidByText := true, laidKinds := [.data], laidTests := true, laidLooks := .later }
def TransferPatienceUptoCardSaid : Prop := Claim7.holds Tryz.pinned (.plain (OpenSpec.upto transferPatienceSpec)) transferPatienceUptoCard
end Rows
end Go.Proofs.YtipkfnkmdeopeaaGreatDoor
