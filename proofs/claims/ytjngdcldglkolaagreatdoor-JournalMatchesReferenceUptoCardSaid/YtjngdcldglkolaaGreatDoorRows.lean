/-
  NARROWER THAN 'FOR EVERY INPUT', by the rows' own cells (each row's printed sentence says how): JournalMatchesReference: laid · JournalReads: laid · JournalCrashes: laid · JournalAgain: laid · JournalDamage: laid · JournalOrder: laid.
  DERIVED. THE GIVEN ROWS OF THIS SEAT. 6 by the template 'for every input the law returns true; each argument reads behind the call as it read before'; 0 by the template 'total and deterministic' (their statements: YtjngdcldglkolaaGreatDoorTotals.lean).
  GIVEN WITH THE SEED: the statements are not yours to turn. If you find one false, say at which input.
  Laid BY PROGRAM, IN A SANDBOX (cutbox-rows.mjs): the forced cells as the released guide's own fill.sh prints them over the translation c535cb1deb8ca477… (all of the seat's roots in one cut). By AI agents, Wed Nov 11 2026. No macro, syntax, notation, axiom, sorry.
-/
import Derived.Test.YtjngdcldglkolaaGreatDoorChecked
import GoSem.Claim
import GoSem.ClaimJoined
import GoSem.ClaimMapViews
import Derived.JoinedTies
import Derived.KernelRfl
namespace Go.Proofs.YtjngdcldglkolaaGreatDoor
/- THE CELL 'sum', in the pinned program and in every row, IS THE sha256 OF THE DUMP (.gsa) THAT YtjngdcldglkolaaGreatDoorProg.lean LOADS. Nothing in Lean hashes anything: it is a label: what it is worth is what the hold of that sum in a sandbox is worth. -/
noncomputable def Tryz.pinned : Pinned := { name := "ytjngdcldglkolaagreatdoor", sum := "c535cb1deb8ca4778c29fef836b097d853d12ada9fa6f263cb5410d9bbce36e5", checked := Tryz.checked }
namespace Rows
def none {H : Type} : Left H := { results := [], args := [] }

/- WHAT THE LISTED PACKAGE-LEVEL VARIABLES READ AS WHEN THE CALL BEGINS. Each datum BY PROGRAM (the guide's laid-datum.mjs) off the statement by which the dump's own 'gosem.cut.vars' lays the variable. In a bare row this is a premise. The card (YtjngdcldglkolaaGreatDoorCards.lean) ties it to the program's text. -/
def laid_bytes_ErrTooLarge {H : Type} : DataW H := .iface "*errors.errorString" (.ptr (.agg [.lit (.string [98, 121, 116, 101, 115, 46, 66, 117, 102, 102, 101, 114, 58, 32, 116, 111, 111, 32, 108, 97, 114, 103, 101])]))
def laid_nameplan_record_rules {H : Type} : DataW H := .agg [.agg [.lit (.int .i64 0), .lit (.int .i64 0), .lit (.int .i64 0), .lit (.int .i64 0), .lit (.int .i64 0), .lit (.bool false), .lit (.bool false), .lit (.bool false)], .agg [.lit (.int .i64 0), .lit (.int .i64 1), .lit (.int .i64 1000000), .lit (.int .i64 0), .lit (.int .i64 0), .lit (.bool false), .lit (.bool false), .lit (.bool true)], .agg [.lit (.int .i64 1), .lit (.int .i64 0), .lit (.int .i64 0), .lit (.int .i64 0), .lit (.int .i64 0), .lit (.bool false), .lit (.bool false), .lit (.bool false)], .agg [.lit (.int .i64 1), .lit (.int .i64 0), .lit (.int .i64 0), .lit (.int .i64 0), .lit (.int .i64 0), .lit (.bool false), .lit (.bool true), .lit (.bool false)], .agg [.lit (.int .i64 0), .lit (.int .i64 0), .lit (.int .i64 65535), .lit (.int .i64 0), .lit (.int .i64 100000), .lit (.bool false), .lit (.bool true), .lit (.bool false)], .agg [.lit (.int .i64 3), .lit (.int .i64 0), .lit (.int .i64 0), .lit (.int .i64 0), .lit (.int .i64 0), .lit (.bool false), .lit (.bool false), .lit (.bool true)], .agg [.lit (.int .i64 0), .lit (.int .i64 1), .lit (.int .i64 1000000), .lit (.int .i64 1), .lit (.int .i64 3), .lit (.bool false), .lit (.bool false), .lit (.bool false)], .agg [.lit (.int .i64 0), .lit (.int .i64 1), .lit (.int .i64 1000000), .lit (.int .i64 1), .lit (.int .i64 3), .lit (.bool false), .lit (.bool false), .lit (.bool false)], .agg [.lit (.int .i64 2), .lit (.int .i64 2), .lit (.int .i64 510), .lit (.int .i64 0), .lit (.int .i64 0), .lit (.bool true), .lit (.bool false), .lit (.bool true)]]
def laid_nameplan_journal_errBroken {H : Type} : DataW H := .iface "*errors.errorString" (.ptr (.agg [.lit (.string [106, 111, 117, 114, 110, 97, 108, 58, 32, 98, 114, 111, 107, 101, 110])]))

/-- 'nameplanlaw13.JournalMatchesReference': WHATEVER THE INPUT: true; the input reads as it did. -/
def journalMatchesReferenceSpec : ChangeSpec := { name := "journalMatchesReference", fn := fun _ => fun
  | [d1, d2, d3, d4, d5] => { results := [.lit (.bool true)], args := [d1, d2, d3, d4, d5] }
  | _ => none }
def journalMatchesReferenceRow : OpenClaim := { program := "ytjngdcldglkolaagreatdoor", sum := "c535cb1deb8ca4778c29fef836b097d853d12ada9fa6f263cb5410d9bbce36e5", func := "nameplan/nameplanlaw13.JournalMatchesReference", spec := "journalMatchesReference", inPlace := ["internal/bytealg.abigen_runtime_cmpstring", "internal/reflectlite.TypeOf"], unfollowed := true, recurses := true, named := ["nameplan/record.rules", "bytes.ErrTooLarge", "nameplan/journal.errBroken"], plainKeys := false, apart := false, laid := [("bytes.ErrTooLarge", laid_bytes_ErrTooLarge), ("nameplan/record.rules", laid_nameplan_record_rules), ("nameplan/journal.errBroken", laid_nameplan_journal_errBroken)] }
def JournalMatchesReferenceSaid : Prop := journalMatchesReferenceRow.holds Tryz.pinned (OpenSpec.ofChange journalMatchesReferenceSpec)

/-- ITS FALSE NEIGHBOUR: 'it returns false'. Refute it at one input. -/
def journalMatchesReferenceWrong : ChangeSpec := { name := "journalMatchesReference", fn := fun _ => fun
  | [d1, d2, d3, d4, d5] => { results := [.lit (.bool false)], args := [d1, d2, d3, d4, d5] }
  | _ => none }
def JournalMatchesReferenceWrongFalsely : Prop := journalMatchesReferenceRow.holds Tryz.pinned (OpenSpec.ofChange journalMatchesReferenceWrong)

/-- 'nameplanlaw13.JournalReads': WHATEVER THE INPUT: true; the input reads as it did. -/
def journalReadsSpec : ChangeSpec := { name := "journalReads", fn := fun _ => fun
  | [d1, d2] => { results := [.lit (.bool true)], args := [d1, d2] }
  | _ => none }
def journalReadsRow : OpenClaim := { program := "ytjngdcldglkolaagreatdoor", sum := "c535cb1deb8ca4778c29fef836b097d853d12ada9fa6f263cb5410d9bbce36e5", func := "nameplan/nameplanlaw13.JournalReads", spec := "journalReads", inPlace := ["internal/bytealg.abigen_runtime_cmpstring", "internal/reflectlite.TypeOf"], unfollowed := true, recurses := true, named := ["nameplan/record.rules", "bytes.ErrTooLarge", "nameplan/journal.errBroken"], plainKeys := false, apart := false, laid := [("bytes.ErrTooLarge", laid_bytes_ErrTooLarge), ("nameplan/record.rules", laid_nameplan_record_rules), ("nameplan/journal.errBroken", laid_nameplan_journal_errBroken)] }
def JournalReadsSaid : Prop := journalReadsRow.holds Tryz.pinned (OpenSpec.ofChange journalReadsSpec)

/-- ITS FALSE NEIGHBOUR: 'it returns false'. Refute it at one input. -/
def journalReadsWrong : ChangeSpec := { name := "journalReads", fn := fun _ => fun
  | [d1, d2] => { results := [.lit (.bool false)], args := [d1, d2] }
  | _ => none }
def JournalReadsWrongFalsely : Prop := journalReadsRow.holds Tryz.pinned (OpenSpec.ofChange journalReadsWrong)

/-- 'nameplanlaw13.JournalCrashes': WHATEVER THE INPUT: true; the input reads as it did. -/
def journalCrashesSpec : ChangeSpec := { name := "journalCrashes", fn := fun _ => fun
  | [d1, d2, d3] => { results := [.lit (.bool true)], args := [d1, d2, d3] }
  | _ => none }
def journalCrashesRow : OpenClaim := { program := "ytjngdcldglkolaagreatdoor", sum := "c535cb1deb8ca4778c29fef836b097d853d12ada9fa6f263cb5410d9bbce36e5", func := "nameplan/nameplanlaw13.JournalCrashes", spec := "journalCrashes", inPlace := ["internal/bytealg.abigen_runtime_cmpstring", "internal/reflectlite.TypeOf"], unfollowed := true, recurses := true, named := ["nameplan/record.rules", "bytes.ErrTooLarge", "nameplan/journal.errBroken"], plainKeys := false, apart := false, laid := [("bytes.ErrTooLarge", laid_bytes_ErrTooLarge), ("nameplan/record.rules", laid_nameplan_record_rules), ("nameplan/journal.errBroken", laid_nameplan_journal_errBroken)] }
def JournalCrashesSaid : Prop := journalCrashesRow.holds Tryz.pinned (OpenSpec.ofChange journalCrashesSpec)

/-- ITS FALSE NEIGHBOUR: 'it returns false'. Refute it at one input. -/
def journalCrashesWrong : ChangeSpec := { name := "journalCrashes", fn := fun _ => fun
  | [d1, d2, d3] => { results := [.lit (.bool false)], args := [d1, d2, d3] }
  | _ => none }
def JournalCrashesWrongFalsely : Prop := journalCrashesRow.holds Tryz.pinned (OpenSpec.ofChange journalCrashesWrong)

/-- 'nameplanlaw13.JournalAgain': WHATEVER THE INPUT: true; the input reads as it did. -/
def journalAgainSpec : ChangeSpec := { name := "journalAgain", fn := fun _ => fun
  | [d1, d2, d3, d4] => { results := [.lit (.bool true)], args := [d1, d2, d3, d4] }
  | _ => none }
def journalAgainRow : OpenClaim := { program := "ytjngdcldglkolaagreatdoor", sum := "c535cb1deb8ca4778c29fef836b097d853d12ada9fa6f263cb5410d9bbce36e5", func := "nameplan/nameplanlaw13.JournalAgain", spec := "journalAgain", inPlace := ["internal/bytealg.abigen_runtime_cmpstring", "internal/reflectlite.TypeOf"], unfollowed := true, recurses := true, named := ["nameplan/record.rules", "bytes.ErrTooLarge", "nameplan/journal.errBroken"], plainKeys := false, apart := false, laid := [("bytes.ErrTooLarge", laid_bytes_ErrTooLarge), ("nameplan/record.rules", laid_nameplan_record_rules), ("nameplan/journal.errBroken", laid_nameplan_journal_errBroken)] }
def JournalAgainSaid : Prop := journalAgainRow.holds Tryz.pinned (OpenSpec.ofChange journalAgainSpec)

/-- ITS FALSE NEIGHBOUR: 'it returns false'. Refute it at one input. -/
def journalAgainWrong : ChangeSpec := { name := "journalAgain", fn := fun _ => fun
  | [d1, d2, d3, d4] => { results := [.lit (.bool false)], args := [d1, d2, d3, d4] }
  | _ => none }
def JournalAgainWrongFalsely : Prop := journalAgainRow.holds Tryz.pinned (OpenSpec.ofChange journalAgainWrong)

/-- 'nameplanlaw13.JournalDamage': WHATEVER THE INPUT: true; the input reads as it did. -/
def journalDamageSpec : ChangeSpec := { name := "journalDamage", fn := fun _ => fun
  | [d1, d2, d3] => { results := [.lit (.bool true)], args := [d1, d2, d3] }
  | _ => none }
def journalDamageRow : OpenClaim := { program := "ytjngdcldglkolaagreatdoor", sum := "c535cb1deb8ca4778c29fef836b097d853d12ada9fa6f263cb5410d9bbce36e5", func := "nameplan/nameplanlaw13.JournalDamage", spec := "journalDamage", inPlace := ["internal/bytealg.abigen_runtime_cmpstring", "internal/reflectlite.TypeOf"], unfollowed := true, recurses := true, named := ["nameplan/record.rules", "bytes.ErrTooLarge", "nameplan/journal.errBroken"], plainKeys := false, apart := false, laid := [("bytes.ErrTooLarge", laid_bytes_ErrTooLarge), ("nameplan/record.rules", laid_nameplan_record_rules), ("nameplan/journal.errBroken", laid_nameplan_journal_errBroken)] }
def JournalDamageSaid : Prop := journalDamageRow.holds Tryz.pinned (OpenSpec.ofChange journalDamageSpec)

/-- ITS FALSE NEIGHBOUR: 'it returns false'. Refute it at one input. -/
def journalDamageWrong : ChangeSpec := { name := "journalDamage", fn := fun _ => fun
  | [d1, d2, d3] => { results := [.lit (.bool false)], args := [d1, d2, d3] }
  | _ => none }
def JournalDamageWrongFalsely : Prop := journalDamageRow.holds Tryz.pinned (OpenSpec.ofChange journalDamageWrong)

/-- 'nameplanlaw13.JournalOrder': WHATEVER THE INPUT: true; the input reads as it did. -/
def journalOrderSpec : ChangeSpec := { name := "journalOrder", fn := fun _ => fun
  | [d1, d2] => { results := [.lit (.bool true)], args := [d1, d2] }
  | _ => none }
def journalOrderRow : OpenClaim := { program := "ytjngdcldglkolaagreatdoor", sum := "c535cb1deb8ca4778c29fef836b097d853d12ada9fa6f263cb5410d9bbce36e5", func := "nameplan/nameplanlaw13.JournalOrder", spec := "journalOrder", inPlace := ["internal/bytealg.abigen_runtime_cmpstring", "internal/reflectlite.TypeOf"], unfollowed := true, recurses := true, named := ["nameplan/record.rules", "bytes.ErrTooLarge", "nameplan/journal.errBroken"], plainKeys := false, apart := false, laid := [("bytes.ErrTooLarge", laid_bytes_ErrTooLarge), ("nameplan/record.rules", laid_nameplan_record_rules), ("nameplan/journal.errBroken", laid_nameplan_journal_errBroken)] }
def JournalOrderSaid : Prop := journalOrderRow.holds Tryz.pinned (OpenSpec.ofChange journalOrderSpec)

/-- ITS FALSE NEIGHBOUR: 'it returns false'. Refute it at one input. -/
def journalOrderWrong : ChangeSpec := { name := "journalOrder", fn := fun _ => fun
  | [d1, d2] => { results := [.lit (.bool false)], args := [d1, d2] }
  | _ => none }
def JournalOrderWrongFalsely : Prop := journalOrderRow.holds Tryz.pinned (OpenSpec.ofChange journalOrderWrong)

/- THE SECOND FORM. 'bulk': how many values and letters a reading holds, each counted each time it is reached (what is shared counts as often as it is met; a slice's spare places count too). A statement '..UptoSaid' is the law's where the arguments, and the package variables that the reading takes, are together of bulk at most 1048576: NARROWER than '..Said'. Prove '..Said' where nothing that the law and all that it calls make is longer than what came in: it says more and counts as full. Else prove '..UptoSaid'. A law counts once. -/
mutual
def uptoBulk {H : Type} : DataW H → Nat
  | .lit (.string bytes) => bytes.length + 1
  | .lit _ => 1
  | .nil => 1
  | .ptr d => uptoBulk d + 1
  | .slice elems spare => uptoBulkAll elems + uptoBulkAll spare + 1
  | .agg parts => uptoBulkAll parts + 1
  | .iface _ d => uptoBulk d + 1
  | .map entries => uptoBulkEntries entries + 1
  | .held _ => 1
def uptoBulkAll {H : Type} : List (DataW H) → Nat
  | [] => 0
  | d :: r => uptoBulk d + uptoBulkAll r
def uptoBulkEntries {H : Type} : List (Lit × DataW H) → Nat
  | [] => 0
  | x :: r => uptoBulkEntry x + uptoBulkEntries r
def uptoBulkEntry {H : Type} : Lit × DataW H → Nat
  | (.string bytes, d) => bytes.length + uptoBulk d + 1
  | (_, d) => uptoBulk d + 1
 end
def uptoSmall : (H : Type) → List (DataW H) → Bool := fun _ ds => decide (uptoBulkAll ds ≤ 1048576)
def OpenSpec.upto (s : _root_.Go.ChangeSpec) : _root_.Go.OpenSpec := { _root_.Go.OpenSpec.ofChange s with cond := some uptoSmall }

/-- 'nameplanlaw13.JournalMatchesReference', WHERE WHAT IT READS IS OF BULK AT MOST 1048576: true; the input reads as it did. -/
def journalMatchesReferenceUptoRow : OpenClaim := { program := "ytjngdcldglkolaagreatdoor", sum := "c535cb1deb8ca4778c29fef836b097d853d12ada9fa6f263cb5410d9bbce36e5", func := "nameplan/nameplanlaw13.JournalMatchesReference", spec := "journalMatchesReference", inPlace := ["internal/bytealg.abigen_runtime_cmpstring", "internal/reflectlite.TypeOf"], unfollowed := true, recurses := true, named := ["nameplan/record.rules", "bytes.ErrTooLarge", "nameplan/journal.errBroken"], plainKeys := false, apart := false, laid := [("bytes.ErrTooLarge", laid_bytes_ErrTooLarge), ("nameplan/record.rules", laid_nameplan_record_rules), ("nameplan/journal.errBroken", laid_nameplan_journal_errBroken)], narrowed := true }
def JournalMatchesReferenceUptoSaid : Prop := journalMatchesReferenceUptoRow.holds Tryz.pinned (OpenSpec.upto journalMatchesReferenceSpec)

/-- 'nameplanlaw13.JournalReads', WHERE WHAT IT READS IS OF BULK AT MOST 1048576: true; the input reads as it did. -/
def journalReadsUptoRow : OpenClaim := { program := "ytjngdcldglkolaagreatdoor", sum := "c535cb1deb8ca4778c29fef836b097d853d12ada9fa6f263cb5410d9bbce36e5", func := "nameplan/nameplanlaw13.JournalReads", spec := "journalReads", inPlace := ["internal/bytealg.abigen_runtime_cmpstring", "internal/reflectlite.TypeOf"], unfollowed := true, recurses := true, named := ["nameplan/record.rules", "bytes.ErrTooLarge", "nameplan/journal.errBroken"], plainKeys := false, apart := false, laid := [("bytes.ErrTooLarge", laid_bytes_ErrTooLarge), ("nameplan/record.rules", laid_nameplan_record_rules), ("nameplan/journal.errBroken", laid_nameplan_journal_errBroken)], narrowed := true }
def JournalReadsUptoSaid : Prop := journalReadsUptoRow.holds Tryz.pinned (OpenSpec.upto journalReadsSpec)

/-- 'nameplanlaw13.JournalCrashes', WHERE WHAT IT READS IS OF BULK AT MOST 1048576: true; the input reads as it did. -/
def journalCrashesUptoRow : OpenClaim := { program := "ytjngdcldglkolaagreatdoor", sum := "c535cb1deb8ca4778c29fef836b097d853d12ada9fa6f263cb5410d9bbce36e5", func := "nameplan/nameplanlaw13.JournalCrashes", spec := "journalCrashes", inPlace := ["internal/bytealg.abigen_runtime_cmpstring", "internal/reflectlite.TypeOf"], unfollowed := true, recurses := true, named := ["nameplan/record.rules", "bytes.ErrTooLarge", "nameplan/journal.errBroken"], plainKeys := false, apart := false, laid := [("bytes.ErrTooLarge", laid_bytes_ErrTooLarge), ("nameplan/record.rules", laid_nameplan_record_rules), ("nameplan/journal.errBroken", laid_nameplan_journal_errBroken)], narrowed := true }
def JournalCrashesUptoSaid : Prop := journalCrashesUptoRow.holds Tryz.pinned (OpenSpec.upto journalCrashesSpec)

/-- 'nameplanlaw13.JournalAgain', WHERE WHAT IT READS IS OF BULK AT MOST 1048576: true; the input reads as it did. -/
def journalAgainUptoRow : OpenClaim := { program := "ytjngdcldglkolaagreatdoor", sum := "c535cb1deb8ca4778c29fef836b097d853d12ada9fa6f263cb5410d9bbce36e5", func := "nameplan/nameplanlaw13.JournalAgain", spec := "journalAgain", inPlace := ["internal/bytealg.abigen_runtime_cmpstring", "internal/reflectlite.TypeOf"], unfollowed := true, recurses := true, named := ["nameplan/record.rules", "bytes.ErrTooLarge", "nameplan/journal.errBroken"], plainKeys := false, apart := false, laid := [("bytes.ErrTooLarge", laid_bytes_ErrTooLarge), ("nameplan/record.rules", laid_nameplan_record_rules), ("nameplan/journal.errBroken", laid_nameplan_journal_errBroken)], narrowed := true }
def JournalAgainUptoSaid : Prop := journalAgainUptoRow.holds Tryz.pinned (OpenSpec.upto journalAgainSpec)

/-- 'nameplanlaw13.JournalDamage', WHERE WHAT IT READS IS OF BULK AT MOST 1048576: true; the input reads as it did. -/
def journalDamageUptoRow : OpenClaim := { program := "ytjngdcldglkolaagreatdoor", sum := "c535cb1deb8ca4778c29fef836b097d853d12ada9fa6f263cb5410d9bbce36e5", func := "nameplan/nameplanlaw13.JournalDamage", spec := "journalDamage", inPlace := ["internal/bytealg.abigen_runtime_cmpstring", "internal/reflectlite.TypeOf"], unfollowed := true, recurses := true, named := ["nameplan/record.rules", "bytes.ErrTooLarge", "nameplan/journal.errBroken"], plainKeys := false, apart := false, laid := [("bytes.ErrTooLarge", laid_bytes_ErrTooLarge), ("nameplan/record.rules", laid_nameplan_record_rules), ("nameplan/journal.errBroken", laid_nameplan_journal_errBroken)], narrowed := true }
def JournalDamageUptoSaid : Prop := journalDamageUptoRow.holds Tryz.pinned (OpenSpec.upto journalDamageSpec)

/-- 'nameplanlaw13.JournalOrder', WHERE WHAT IT READS IS OF BULK AT MOST 1048576: true; the input reads as it did. -/
def journalOrderUptoRow : OpenClaim := { program := "ytjngdcldglkolaagreatdoor", sum := "c535cb1deb8ca4778c29fef836b097d853d12ada9fa6f263cb5410d9bbce36e5", func := "nameplan/nameplanlaw13.JournalOrder", spec := "journalOrder", inPlace := ["internal/bytealg.abigen_runtime_cmpstring", "internal/reflectlite.TypeOf"], unfollowed := true, recurses := true, named := ["nameplan/record.rules", "bytes.ErrTooLarge", "nameplan/journal.errBroken"], plainKeys := false, apart := false, laid := [("bytes.ErrTooLarge", laid_bytes_ErrTooLarge), ("nameplan/record.rules", laid_nameplan_record_rules), ("nameplan/journal.errBroken", laid_nameplan_journal_errBroken)], narrowed := true }
def JournalOrderUptoSaid : Prop := journalOrderUptoRow.holds Tryz.pinned (OpenSpec.upto journalOrderSpec)

end Rows
end Go.Proofs.YtjngdcldglkolaaGreatDoor
