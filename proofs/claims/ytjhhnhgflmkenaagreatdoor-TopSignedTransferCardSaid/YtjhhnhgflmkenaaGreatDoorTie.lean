/-
  DERIVED. GIVEN WITH THE SEED: THE PROGRAM's TIES (one call each: nine closed facts by the kernel) AND EACH ROW's TIE, after the 31st guide's Derived/Test/Toyas{Tie, Card}.lean. No idea stands in it: it is a product of the set-up. Laid BY PROGRAM, IN A SANDBOX (cutbox-door.mjs). By AI agents, Wed Nov 11 2026. No macro, syntax, notation, axiom, sorry.
-/
import Derived.Test.YtjhhnhgflmkenaaGreatDoorRows
import Derived.LaidByTextLater
import Derived.SevenTiedAt
import Derived.LaidSub
import Derived.LaidOnce
namespace Go.Proofs.YtjhhnhgflmkenaaGreatDoor
open Go
set_option maxRecDepth 100000
theorem seatTie1 : Tryz.prog.laidByTextLater [("bytes.ErrTooLarge", Rows.laid_bytes_ErrTooLarge), ("nameplan/record.rules", Rows.laid_nameplan_record_rules), ("nameplan/journal.errBroken", Rows.laid_nameplan_journal_errBroken)] [.sentinel, .data, .sentinel] true :=
  Program.laidByTextLater_by_one 61 8 73 (by kernel_rfl) (by kernel_rfl) (by kernel_rfl) (by kernel_rfl) (by kernel_rfl) (by kernel_rfl) (fun _ _ => by kernel_rfl)
theorem noOwnUnsafe : Tryz.pinned.checked.prog.headLifts.contains "ownunsafe" = false := by kernel_rfl
theorem tie : Tryz.prog.laidByTextLater [("bytes.ErrTooLarge", Rows.laid_bytes_ErrTooLarge), ("nameplan/record.rules", Rows.laid_nameplan_record_rules), ("nameplan/journal.errBroken", Rows.laid_nameplan_journal_errBroken)] [.sentinel, .data, .sentinel] true :=
  Program.laidByTextLater.sub seatTie1 ["bytes.ErrTooLarge", "nameplan/record.rules", "nameplan/journal.errBroken"] (by kernel_rfl) (by kernel_rfl)
theorem topSignedTransfer_row_tie : Rows.topSignedTransferRow.laidByTextAt .later Tryz.pinned [.sentinel, .data, .sentinel] true :=
  OpenClaim.laidByTextAt_later rfl rfl tie noOwnUnsafe
theorem topSignedTransferUpto_row_tie : Rows.topSignedTransferUptoRow.laidByTextAt .later Tryz.pinned [.sentinel, .data, .sentinel] true :=
  OpenClaim.laidByTextAt_later rfl rfl tie noOwnUnsafe
end Go.Proofs.YtjhhnhgflmkenaaGreatDoor
