/-
  NARROWER THAN 'FOR EVERY INPUT', by the rows' own cells (each row's printed sentence says how): RecordMatchesReference: laid · RecordBytes: laid · RecordOrder: laid · RecordDamage: laid · DeltaSerials: laid.
  DERIVED. THE GIVEN ROWS OF THIS SEAT. 5 by the template 'for every input the law returns true; each argument reads behind the call as it read before'; 0 by the template 'total and deterministic' (their statements: YtfggmgafjabbjaaDoorTotals.lean).
  GIVEN WITH THE SEED: the statements are not yours to turn. If you find one false, say at which input.
  Laid BY PROGRAM, IN A SANDBOX (cutbox-rows.mjs): the forced cells as the released guide's own fill.sh prints them over the translation f63899b6bf9a9965… (all of the seat's roots in one cut). By AI agents, Wed Nov 11 2026. No macro, syntax, notation, axiom, sorry.
-/
import Derived.Test.YtfggmgafjabbjaaDoorChecked
import GoSem.Claim
import GoSem.ClaimJoined
import GoSem.ClaimMapViews
import Derived.JoinedTies
import Derived.KernelRfl
namespace Go.Proofs.YtfggmgafjabbjaaDoor
/- THE CELL 'sum', in the pinned program and in every row, IS THE sha256 OF THE DUMP (.gsa) THAT YtfggmgafjabbjaaDoorProg.lean LOADS. Nothing in Lean hashes anything: it is a label: what it is worth is what the hold of that sum in a sandbox is worth. -/
noncomputable def Tryd.pinned : Pinned := { name := "ytfggmgafjabbjaadoor", sum := "f63899b6bf9a9965c843e92a09ad199452003f9d4c5c5d1889b6ebdc3fe63196", checked := Tryd.checked }
namespace Rows
def none {H : Type} : Left H := { results := [], args := [] }

/- WHAT THE LISTED PACKAGE-LEVEL VARIABLES READ AS WHEN THE CALL BEGINS. Each datum BY PROGRAM (the guide's laid-datum.mjs) off the statement by which the dump's own 'gosem.cut.vars' lays the variable. In a bare row this is a premise. The card (YtfggmgafjabbjaaDoorCards.lean) ties it to the program's text. -/
def laid_nameplan_record_rules {H : Type} : DataW H := .agg [.agg [.lit (.int .i64 0), .lit (.int .i64 0), .lit (.int .i64 0), .lit (.int .i64 0), .lit (.int .i64 0), .lit (.bool false), .lit (.bool false), .lit (.bool false)], .agg [.lit (.int .i64 0), .lit (.int .i64 1), .lit (.int .i64 1000000), .lit (.int .i64 0), .lit (.int .i64 0), .lit (.bool false), .lit (.bool false), .lit (.bool true)], .agg [.lit (.int .i64 1), .lit (.int .i64 0), .lit (.int .i64 0), .lit (.int .i64 0), .lit (.int .i64 0), .lit (.bool false), .lit (.bool false), .lit (.bool false)], .agg [.lit (.int .i64 1), .lit (.int .i64 0), .lit (.int .i64 0), .lit (.int .i64 0), .lit (.int .i64 0), .lit (.bool false), .lit (.bool true), .lit (.bool false)], .agg [.lit (.int .i64 0), .lit (.int .i64 0), .lit (.int .i64 65535), .lit (.int .i64 0), .lit (.int .i64 100000), .lit (.bool false), .lit (.bool true), .lit (.bool false)], .agg [.lit (.int .i64 3), .lit (.int .i64 0), .lit (.int .i64 0), .lit (.int .i64 0), .lit (.int .i64 0), .lit (.bool false), .lit (.bool false), .lit (.bool true)], .agg [.lit (.int .i64 0), .lit (.int .i64 1), .lit (.int .i64 1000000), .lit (.int .i64 1), .lit (.int .i64 3), .lit (.bool false), .lit (.bool false), .lit (.bool false)], .agg [.lit (.int .i64 0), .lit (.int .i64 1), .lit (.int .i64 1000000), .lit (.int .i64 1), .lit (.int .i64 3), .lit (.bool false), .lit (.bool false), .lit (.bool false)], .agg [.lit (.int .i64 2), .lit (.int .i64 2), .lit (.int .i64 510), .lit (.int .i64 0), .lit (.int .i64 0), .lit (.bool true), .lit (.bool false), .lit (.bool true)]]

/-- 'nameplanlaw02.RecordMatchesReference': WHATEVER THE INPUT: true; the input reads as it did. -/
def recordMatchesReferenceSpec : ChangeSpec := { name := "recordMatchesReference", fn := fun _ => fun
  | [d1, d2, d3, d4] => { results := [.lit (.bool true)], args := [d1, d2, d3, d4] }
  | _ => none }
def recordMatchesReferenceRow : OpenClaim := { program := "ytfggmgafjabbjaadoor", sum := "f63899b6bf9a9965c843e92a09ad199452003f9d4c5c5d1889b6ebdc3fe63196", func := "nameplan/nameplanlaw02.RecordMatchesReference", spec := "recordMatchesReference", inPlace := ["internal/bytealg.abigen_runtime_cmpstring"], unfollowed := true, recurses := true, named := ["nameplan/record.rules"], plainKeys := false, apart := false, laid := [("nameplan/record.rules", laid_nameplan_record_rules)] }
def RecordMatchesReferenceSaid : Prop := recordMatchesReferenceRow.holds Tryd.pinned (OpenSpec.ofChange recordMatchesReferenceSpec)

/-- ITS FALSE NEIGHBOUR: 'it returns false'. Refute it at one input. -/
def recordMatchesReferenceWrong : ChangeSpec := { name := "recordMatchesReference", fn := fun _ => fun
  | [d1, d2, d3, d4] => { results := [.lit (.bool false)], args := [d1, d2, d3, d4] }
  | _ => none }
def RecordMatchesReferenceWrongFalsely : Prop := recordMatchesReferenceRow.holds Tryd.pinned (OpenSpec.ofChange recordMatchesReferenceWrong)

/-- 'nameplanlaw02.RecordBytes': WHATEVER THE INPUT: true; the input reads as it did. -/
def recordBytesSpec : ChangeSpec := { name := "recordBytes", fn := fun _ => fun
  | [d1, d2, d3, d4] => { results := [.lit (.bool true)], args := [d1, d2, d3, d4] }
  | _ => none }
def recordBytesRow : OpenClaim := { program := "ytfggmgafjabbjaadoor", sum := "f63899b6bf9a9965c843e92a09ad199452003f9d4c5c5d1889b6ebdc3fe63196", func := "nameplan/nameplanlaw02.RecordBytes", spec := "recordBytes", inPlace := ["internal/bytealg.abigen_runtime_cmpstring"], unfollowed := true, recurses := true, named := ["nameplan/record.rules"], plainKeys := false, apart := false, laid := [("nameplan/record.rules", laid_nameplan_record_rules)] }
def RecordBytesSaid : Prop := recordBytesRow.holds Tryd.pinned (OpenSpec.ofChange recordBytesSpec)

/-- ITS FALSE NEIGHBOUR: 'it returns false'. Refute it at one input. -/
def recordBytesWrong : ChangeSpec := { name := "recordBytes", fn := fun _ => fun
  | [d1, d2, d3, d4] => { results := [.lit (.bool false)], args := [d1, d2, d3, d4] }
  | _ => none }
def RecordBytesWrongFalsely : Prop := recordBytesRow.holds Tryd.pinned (OpenSpec.ofChange recordBytesWrong)

/-- 'nameplanlaw02.RecordOrder': WHATEVER THE INPUT: true; the input reads as it did. -/
def recordOrderSpec : ChangeSpec := { name := "recordOrder", fn := fun _ => fun
  | [d1, d2, d3] => { results := [.lit (.bool true)], args := [d1, d2, d3] }
  | _ => none }
def recordOrderRow : OpenClaim := { program := "ytfggmgafjabbjaadoor", sum := "f63899b6bf9a9965c843e92a09ad199452003f9d4c5c5d1889b6ebdc3fe63196", func := "nameplan/nameplanlaw02.RecordOrder", spec := "recordOrder", inPlace := ["internal/bytealg.abigen_runtime_cmpstring"], unfollowed := true, recurses := true, named := ["nameplan/record.rules"], plainKeys := false, apart := false, laid := [("nameplan/record.rules", laid_nameplan_record_rules)] }
def RecordOrderSaid : Prop := recordOrderRow.holds Tryd.pinned (OpenSpec.ofChange recordOrderSpec)

/-- ITS FALSE NEIGHBOUR: 'it returns false'. Refute it at one input. -/
def recordOrderWrong : ChangeSpec := { name := "recordOrder", fn := fun _ => fun
  | [d1, d2, d3] => { results := [.lit (.bool false)], args := [d1, d2, d3] }
  | _ => none }
def RecordOrderWrongFalsely : Prop := recordOrderRow.holds Tryd.pinned (OpenSpec.ofChange recordOrderWrong)

/-- 'nameplanlaw02.RecordDamage': WHATEVER THE INPUT: true; the input reads as it did. -/
def recordDamageSpec : ChangeSpec := { name := "recordDamage", fn := fun _ => fun
  | [d1, d2, d3] => { results := [.lit (.bool true)], args := [d1, d2, d3] }
  | _ => none }
def recordDamageRow : OpenClaim := { program := "ytfggmgafjabbjaadoor", sum := "f63899b6bf9a9965c843e92a09ad199452003f9d4c5c5d1889b6ebdc3fe63196", func := "nameplan/nameplanlaw02.RecordDamage", spec := "recordDamage", inPlace := ["internal/bytealg.abigen_runtime_cmpstring"], unfollowed := true, recurses := true, named := ["nameplan/record.rules"], plainKeys := false, apart := false, laid := [("nameplan/record.rules", laid_nameplan_record_rules)] }
def RecordDamageSaid : Prop := recordDamageRow.holds Tryd.pinned (OpenSpec.ofChange recordDamageSpec)

/-- ITS FALSE NEIGHBOUR: 'it returns false'. Refute it at one input. -/
def recordDamageWrong : ChangeSpec := { name := "recordDamage", fn := fun _ => fun
  | [d1, d2, d3] => { results := [.lit (.bool false)], args := [d1, d2, d3] }
  | _ => none }
def RecordDamageWrongFalsely : Prop := recordDamageRow.holds Tryd.pinned (OpenSpec.ofChange recordDamageWrong)

/-- 'nameplanlaw11.DeltaSerials': WHATEVER THE INPUT: true; the input reads as it did. -/
def deltaSerialsSpec : ChangeSpec := { name := "deltaSerials", fn := fun _ => fun
  | [d1, d2, d3] => { results := [.lit (.bool true)], args := [d1, d2, d3] }
  | _ => none }
def deltaSerialsRow : OpenClaim := { program := "ytfggmgafjabbjaadoor", sum := "f63899b6bf9a9965c843e92a09ad199452003f9d4c5c5d1889b6ebdc3fe63196", func := "nameplan/nameplanlaw11.DeltaSerials", spec := "deltaSerials", inPlace := ["internal/bytealg.abigen_runtime_cmpstring"], unfollowed := true, recurses := true, named := ["nameplan/record.rules"], plainKeys := false, apart := false, laid := [("nameplan/record.rules", laid_nameplan_record_rules)] }
def DeltaSerialsSaid : Prop := deltaSerialsRow.holds Tryd.pinned (OpenSpec.ofChange deltaSerialsSpec)

/-- ITS FALSE NEIGHBOUR: 'it returns false'. Refute it at one input. -/
def deltaSerialsWrong : ChangeSpec := { name := "deltaSerials", fn := fun _ => fun
  | [d1, d2, d3] => { results := [.lit (.bool false)], args := [d1, d2, d3] }
  | _ => none }
def DeltaSerialsWrongFalsely : Prop := deltaSerialsRow.holds Tryd.pinned (OpenSpec.ofChange deltaSerialsWrong)

/- THE SECOND FORM. 'bulk': how many values and letters a reading holds, each counted each time it is reached (what is shared counts as often as it is met; a slice's spare places count too). A statement '..UptoSaid' is the law's where the arguments, and the package variables that the reading takes, are together of bulk at most 1048576: NARROWER than '..Said'. Prove '..Said' where nothing that the law and all that it calls make is longer than what came in: it says more and counts as full. Else prove '..UptoSaid'. A law counts once. -/
mutual
def uptoBulk {H : Type} : DataW H → Nat
  | .lit (.string bytes) => bytes.length + 1
  | .lit _ => 1
  | .nil => 1
  | .ptr d => uptoBulk d + 1
  | .slice elems spare => uptoBulkAll elems + uptoBulkAll spare + 1
  | .agg parts => uptoBulkAll parts + 1
  | .iface _ d => uptoBulk d + 1
  | .map entries => uptoBulkEntries entries + 1
  | .held _ => 1
def uptoBulkAll {H : Type} : List (DataW H) → Nat
  | [] => 0
  | d :: r => uptoBulk d + uptoBulkAll r
def uptoBulkEntries {H : Type} : List (Lit × DataW H) → Nat
  | [] => 0
  | x :: r => uptoBulkEntry x + uptoBulkEntries r
def uptoBulkEntry {H : Type} : Lit × DataW H → Nat
  | (.string bytes, d) => bytes.length + uptoBulk d + 1
  | (_, d) => uptoBulk d + 1
 end
def uptoSmall : (H : Type) → List (DataW H) → Bool := fun _ ds => decide (uptoBulkAll ds ≤ 1048576)
def OpenSpec.upto (s : _root_.Go.ChangeSpec) : _root_.Go.OpenSpec := { _root_.Go.OpenSpec.ofChange s with cond := some uptoSmall }

/-- 'nameplanlaw02.RecordMatchesReference', WHERE WHAT IT READS IS OF BULK AT MOST 1048576: true; the input reads as it did. -/
def recordMatchesReferenceUptoRow : OpenClaim := { program := "ytfggmgafjabbjaadoor", sum := "f63899b6bf9a9965c843e92a09ad199452003f9d4c5c5d1889b6ebdc3fe63196", func := "nameplan/nameplanlaw02.RecordMatchesReference", spec := "recordMatchesReference", inPlace := ["internal/bytealg.abigen_runtime_cmpstring"], unfollowed := true, recurses := true, named := ["nameplan/record.rules"], plainKeys := false, apart := false, laid := [("nameplan/record.rules", laid_nameplan_record_rules)], narrowed := true }
def RecordMatchesReferenceUptoSaid : Prop := recordMatchesReferenceUptoRow.holds Tryd.pinned (OpenSpec.upto recordMatchesReferenceSpec)

/-- 'nameplanlaw02.RecordBytes', WHERE WHAT IT READS IS OF BULK AT MOST 1048576: true; the input reads as it did. -/
def recordBytesUptoRow : OpenClaim := { program := "ytfggmgafjabbjaadoor", sum := "f63899b6bf9a9965c843e92a09ad199452003f9d4c5c5d1889b6ebdc3fe63196", func := "nameplan/nameplanlaw02.RecordBytes", spec := "recordBytes", inPlace := ["internal/bytealg.abigen_runtime_cmpstring"], unfollowed := true, recurses := true, named := ["nameplan/record.rules"], plainKeys := false, apart := false, laid := [("nameplan/record.rules", laid_nameplan_record_rules)], narrowed := true }
def RecordBytesUptoSaid : Prop := recordBytesUptoRow.holds Tryd.pinned (OpenSpec.upto recordBytesSpec)

/-- 'nameplanlaw02.RecordOrder', WHERE WHAT IT READS IS OF BULK AT MOST 1048576: true; the input reads as it did. -/
def recordOrderUptoRow : OpenClaim := { program := "ytfggmgafjabbjaadoor", sum := "f63899b6bf9a9965c843e92a09ad199452003f9d4c5c5d1889b6ebdc3fe63196", func := "nameplan/nameplanlaw02.RecordOrder", spec := "recordOrder", inPlace := ["internal/bytealg.abigen_runtime_cmpstring"], unfollowed := true, recurses := true, named := ["nameplan/record.rules"], plainKeys := false, apart := false, laid := [("nameplan/record.rules", laid_nameplan_record_rules)], narrowed := true }
def RecordOrderUptoSaid : Prop := recordOrderUptoRow.holds Tryd.pinned (OpenSpec.upto recordOrderSpec)

/-- 'nameplanlaw02.RecordDamage', WHERE WHAT IT READS IS OF BULK AT MOST 1048576: true; the input reads as it did. -/
def recordDamageUptoRow : OpenClaim := { program := "ytfggmgafjabbjaadoor", sum := "f63899b6bf9a9965c843e92a09ad199452003f9d4c5c5d1889b6ebdc3fe63196", func := "nameplan/nameplanlaw02.RecordDamage", spec := "recordDamage", inPlace := ["internal/bytealg.abigen_runtime_cmpstring"], unfollowed := true, recurses := true, named := ["nameplan/record.rules"], plainKeys := false, apart := false, laid := [("nameplan/record.rules", laid_nameplan_record_rules)], narrowed := true }
def RecordDamageUptoSaid : Prop := recordDamageUptoRow.holds Tryd.pinned (OpenSpec.upto recordDamageSpec)

/-- 'nameplanlaw11.DeltaSerials', WHERE WHAT IT READS IS OF BULK AT MOST 1048576: true; the input reads as it did. -/
def deltaSerialsUptoRow : OpenClaim := { program := "ytfggmgafjabbjaadoor", sum := "f63899b6bf9a9965c843e92a09ad199452003f9d4c5c5d1889b6ebdc3fe63196", func := "nameplan/nameplanlaw11.DeltaSerials", spec := "deltaSerials", inPlace := ["internal/bytealg.abigen_runtime_cmpstring"], unfollowed := true, recurses := true, named := ["nameplan/record.rules"], plainKeys := false, apart := false, laid := [("nameplan/record.rules", laid_nameplan_record_rules)], narrowed := true }
def DeltaSerialsUptoSaid : Prop := deltaSerialsUptoRow.holds Tryd.pinned (OpenSpec.upto deltaSerialsSpec)

end Rows
end Go.Proofs.YtfggmgafjabbjaaDoor
