/-
  NARROWER THAN 'FOR EVERY INPUT', by the rows' own cells (each row's printed sentence says how): TransferMatchesReference: laid · TransferNewest: laid · TransferIncremental: laid · TransferLagging: laid · TransferOld: laid · TransferPatience: laid.
  DERIVED. THE GIVEN ROWS OF THIS SEAT. 6 by the template 'for every input the law returns true; each argument reads behind the call as it read before'; 0 by the template 'total and deterministic' (their statements: YtipkfnkmdeopeaaGreatDoorTotals.lean).
  GIVEN WITH THE SEED: the statements are not yours to turn. If you find one false, say at which input.
  Laid BY PROGRAM, IN A SANDBOX (cutbox-rows.mjs): the forced cells as the released guide's own fill.sh prints them over the translation a5ea47c2cdaaec59… (all of the seat's roots in one cut). By AI agents, Wed Nov 11 2026. No macro, syntax, notation, axiom, sorry.
-/
import Derived.Test.YtipkfnkmdeopeaaGreatDoorChecked
import GoSem.Claim
import GoSem.ClaimJoined
import GoSem.ClaimMapViews
import Derived.JoinedTies
import Derived.KernelRfl
namespace Go.Proofs.YtipkfnkmdeopeaaGreatDoor
/- THE CELL 'sum', in the pinned program and in every row, IS THE sha256 OF THE DUMP (.gsa) THAT YtipkfnkmdeopeaaGreatDoorProg.lean LOADS. Nothing in Lean hashes anything: it is a label: what it is worth is what the hold of that sum in a sandbox is worth. -/
noncomputable def Tryz.pinned : Pinned := { name := "ytipkfnkmdeopeaagreatdoor", sum := "a5ea47c2cdaaec59d02080ce85b0f5806c9bd656317c334f716d673afc4a7b20", checked := Tryz.checked }
namespace Rows
def none {H : Type} : Left H := { results := [], args := [] }

/- WHAT THE LISTED PACKAGE-LEVEL VARIABLES READ AS WHEN THE CALL BEGINS. Each datum BY PROGRAM (the guide's laid-datum.mjs) off the statement by which the dump's own 'gosem.cut.vars' lays the variable. In a bare row this is a premise. The card (YtipkfnkmdeopeaaGreatDoorCards.lean) ties it to the program's text. -/
def laid_nameplan_record_rules {H : Type} : DataW H := .agg [.agg [.lit (.int .i64 0), .lit (.int .i64 0), .lit (.int .i64 0), .lit (.int .i64 0), .lit (.int .i64 0), .lit (.bool false), .lit (.bool false), .lit (.bool false)], .agg [.lit (.int .i64 0), .lit (.int .i64 1), .lit (.int .i64 1000000), .lit (.int .i64 0), .lit (.int .i64 0), .lit (.bool false), .lit (.bool false), .lit (.bool true)], .agg [.lit (.int .i64 1), .lit (.int .i64 0), .lit (.int .i64 0), .lit (.int .i64 0), .lit (.int .i64 0), .lit (.bool false), .lit (.bool false), .lit (.bool false)], .agg [.lit (.int .i64 1), .lit (.int .i64 0), .lit (.int .i64 0), .lit (.int .i64 0), .lit (.int .i64 0), .lit (.bool false), .lit (.bool true), .lit (.bool false)], .agg [.lit (.int .i64 0), .lit (.int .i64 0), .lit (.int .i64 65535), .lit (.int .i64 0), .lit (.int .i64 100000), .lit (.bool false), .lit (.bool true), .lit (.bool false)], .agg [.lit (.int .i64 3), .lit (.int .i64 0), .lit (.int .i64 0), .lit (.int .i64 0), .lit (.int .i64 0), .lit (.bool false), .lit (.bool false), .lit (.bool true)], .agg [.lit (.int .i64 0), .lit (.int .i64 1), .lit (.int .i64 1000000), .lit (.int .i64 1), .lit (.int .i64 3), .lit (.bool false), .lit (.bool false), .lit (.bool false)], .agg [.lit (.int .i64 0), .lit (.int .i64 1), .lit (.int .i64 1000000), .lit (.int .i64 1), .lit (.int .i64 3), .lit (.bool false), .lit (.bool false), .lit (.bool false)], .agg [.lit (.int .i64 2), .lit (.int .i64 2), .lit (.int .i64 510), .lit (.int .i64 0), .lit (.int .i64 0), .lit (.bool true), .lit (.bool false), .lit (.bool true)]]

/-- 'nameplanlaw14.TransferMatchesReference': WHATEVER THE INPUT: true; the input reads as it did. -/
def transferMatchesReferenceSpec : ChangeSpec := { name := "transferMatchesReference", fn := fun _ => fun
  | [d1, d2, d3, d4, d5, d6, d7] => { results := [.lit (.bool true)], args := [d1, d2, d3, d4, d5, d6, d7] }
  | _ => none }
def transferMatchesReferenceRow : OpenClaim := { program := "ytipkfnkmdeopeaagreatdoor", sum := "a5ea47c2cdaaec59d02080ce85b0f5806c9bd656317c334f716d673afc4a7b20", func := "nameplan/nameplanlaw14.TransferMatchesReference", spec := "transferMatchesReference", inPlace := ["internal/bytealg.abigen_runtime_cmpstring"], unfollowed := true, recurses := true, named := ["nameplan/record.rules"], plainKeys := false, apart := false, laid := [("nameplan/record.rules", laid_nameplan_record_rules)] }
def TransferMatchesReferenceSaid : Prop := transferMatchesReferenceRow.holds Tryz.pinned (OpenSpec.ofChange transferMatchesReferenceSpec)

/-- ITS FALSE NEIGHBOUR: 'it returns false'. Refute it at one input. -/
def transferMatchesReferenceWrong : ChangeSpec := { name := "transferMatchesReference", fn := fun _ => fun
  | [d1, d2, d3, d4, d5, d6, d7] => { results := [.lit (.bool false)], args := [d1, d2, d3, d4, d5, d6, d7] }
  | _ => none }
def TransferMatchesReferenceWrongFalsely : Prop := transferMatchesReferenceRow.holds Tryz.pinned (OpenSpec.ofChange transferMatchesReferenceWrong)

/-- 'nameplanlaw14.TransferNewest': WHATEVER THE INPUT: true; the input reads as it did. -/
def transferNewestSpec : ChangeSpec := { name := "transferNewest", fn := fun _ => fun
  | [d1, d2, d3, d4] => { results := [.lit (.bool true)], args := [d1, d2, d3, d4] }
  | _ => none }
def transferNewestRow : OpenClaim := { program := "ytipkfnkmdeopeaagreatdoor", sum := "a5ea47c2cdaaec59d02080ce85b0f5806c9bd656317c334f716d673afc4a7b20", func := "nameplan/nameplanlaw14.TransferNewest", spec := "transferNewest", inPlace := ["internal/bytealg.abigen_runtime_cmpstring"], unfollowed := true, recurses := true, named := ["nameplan/record.rules"], plainKeys := false, apart := false, laid := [("nameplan/record.rules", laid_nameplan_record_rules)] }
def TransferNewestSaid : Prop := transferNewestRow.holds Tryz.pinned (OpenSpec.ofChange transferNewestSpec)

/-- ITS FALSE NEIGHBOUR: 'it returns false'. Refute it at one input. -/
def transferNewestWrong : ChangeSpec := { name := "transferNewest", fn := fun _ => fun
  | [d1, d2, d3, d4] => { results := [.lit (.bool false)], args := [d1, d2, d3, d4] }
  | _ => none }
def TransferNewestWrongFalsely : Prop := transferNewestRow.holds Tryz.pinned (OpenSpec.ofChange transferNewestWrong)

/-- 'nameplanlaw14.TransferIncremental': WHATEVER THE INPUT: true; the input reads as it did. -/
def transferIncrementalSpec : ChangeSpec := { name := "transferIncremental", fn := fun _ => fun
  | [d1, d2, d3] => { results := [.lit (.bool true)], args := [d1, d2, d3] }
  | _ => none }
def transferIncrementalRow : OpenClaim := { program := "ytipkfnkmdeopeaagreatdoor", sum := "a5ea47c2cdaaec59d02080ce85b0f5806c9bd656317c334f716d673afc4a7b20", func := "nameplan/nameplanlaw14.TransferIncremental", spec := "transferIncremental", inPlace := ["internal/bytealg.abigen_runtime_cmpstring"], unfollowed := true, recurses := true, named := ["nameplan/record.rules"], plainKeys := false, apart := false, laid := [("nameplan/record.rules", laid_nameplan_record_rules)] }
def TransferIncrementalSaid : Prop := transferIncrementalRow.holds Tryz.pinned (OpenSpec.ofChange transferIncrementalSpec)

/-- ITS FALSE NEIGHBOUR: 'it returns false'. Refute it at one input. -/
def transferIncrementalWrong : ChangeSpec := { name := "transferIncremental", fn := fun _ => fun
  | [d1, d2, d3] => { results := [.lit (.bool false)], args := [d1, d2, d3] }
  | _ => none }
def TransferIncrementalWrongFalsely : Prop := transferIncrementalRow.holds Tryz.pinned (OpenSpec.ofChange transferIncrementalWrong)

/-- 'nameplanlaw14.TransferLagging': WHATEVER THE INPUT: true; the input reads as it did. -/
def transferLaggingSpec : ChangeSpec := { name := "transferLagging", fn := fun _ => fun
  | [d1, d2] => { results := [.lit (.bool true)], args := [d1, d2] }
  | _ => none }
def transferLaggingRow : OpenClaim := { program := "ytipkfnkmdeopeaagreatdoor", sum := "a5ea47c2cdaaec59d02080ce85b0f5806c9bd656317c334f716d673afc4a7b20", func := "nameplan/nameplanlaw14.TransferLagging", spec := "transferLagging", inPlace := ["internal/bytealg.abigen_runtime_cmpstring"], unfollowed := true, recurses := true, named := ["nameplan/record.rules"], plainKeys := false, apart := false, laid := [("nameplan/record.rules", laid_nameplan_record_rules)] }
def TransferLaggingSaid : Prop := transferLaggingRow.holds Tryz.pinned (OpenSpec.ofChange transferLaggingSpec)

/-- ITS FALSE NEIGHBOUR: 'it returns false'. Refute it at one input. -/
def transferLaggingWrong : ChangeSpec := { name := "transferLagging", fn := fun _ => fun
  | [d1, d2] => { results := [.lit (.bool false)], args := [d1, d2] }
  | _ => none }
def TransferLaggingWrongFalsely : Prop := transferLaggingRow.holds Tryz.pinned (OpenSpec.ofChange transferLaggingWrong)

/-- 'nameplanlaw14.TransferOld': WHATEVER THE INPUT: true; the input reads as it did. -/
def transferOldSpec : ChangeSpec := { name := "transferOld", fn := fun _ => fun
  | [d1, d2, d3] => { results := [.lit (.bool true)], args := [d1, d2, d3] }
  | _ => none }
def transferOldRow : OpenClaim := { program := "ytipkfnkmdeopeaagreatdoor", sum := "a5ea47c2cdaaec59d02080ce85b0f5806c9bd656317c334f716d673afc4a7b20", func := "nameplan/nameplanlaw14.TransferOld", spec := "transferOld", inPlace := ["internal/bytealg.abigen_runtime_cmpstring"], unfollowed := true, recurses := true, named := ["nameplan/record.rules"], plainKeys := false, apart := false, laid := [("nameplan/record.rules", laid_nameplan_record_rules)] }
def TransferOldSaid : Prop := transferOldRow.holds Tryz.pinned (OpenSpec.ofChange transferOldSpec)

/-- ITS FALSE NEIGHBOUR: 'it returns false'. Refute it at one input. -/
def transferOldWrong : ChangeSpec := { name := "transferOld", fn := fun _ => fun
  | [d1, d2, d3] => { results := [.lit (.bool false)], args := [d1, d2, d3] }
  | _ => none }
def TransferOldWrongFalsely : Prop := transferOldRow.holds Tryz.pinned (OpenSpec.ofChange transferOldWrong)

/-- 'nameplanlaw14.TransferPatience': WHATEVER THE INPUT: true; the input reads as it did. -/
def transferPatienceSpec : ChangeSpec := { name := "transferPatience", fn := fun _ => fun
  | [d1, d2, d3, d4, d5] => { results := [.lit (.bool true)], args := [d1, d2, d3, d4, d5] }
  | _ => none }
def transferPatienceRow : OpenClaim := { program := "ytipkfnkmdeopeaagreatdoor", sum := "a5ea47c2cdaaec59d02080ce85b0f5806c9bd656317c334f716d673afc4a7b20", func := "nameplan/nameplanlaw14.TransferPatience", spec := "transferPatience", inPlace := ["internal/bytealg.abigen_runtime_cmpstring"], unfollowed := true, recurses := true, named := ["nameplan/record.rules"], plainKeys := false, apart := false, laid := [("nameplan/record.rules", laid_nameplan_record_rules)] }
def TransferPatienceSaid : Prop := transferPatienceRow.holds Tryz.pinned (OpenSpec.ofChange transferPatienceSpec)

/-- ITS FALSE NEIGHBOUR: 'it returns false'. Refute it at one input. -/
def transferPatienceWrong : ChangeSpec := { name := "transferPatience", fn := fun _ => fun
  | [d1, d2, d3, d4, d5] => { results := [.lit (.bool false)], args := [d1, d2, d3, d4, d5] }
  | _ => none }
def TransferPatienceWrongFalsely : Prop := transferPatienceRow.holds Tryz.pinned (OpenSpec.ofChange transferPatienceWrong)

/- THE SECOND FORM. 'bulk': how many values and letters a reading holds, each counted each time it is reached (what is shared counts as often as it is met; a slice's spare places count too). A statement '..UptoSaid' is the law's where the arguments, and the package variables that the reading takes, are together of bulk at most 1048576: NARROWER than '..Said'. Prove '..Said' where nothing that the law and all that it calls make is longer than what came in: it says more and counts as full. Else prove '..UptoSaid'. A law counts once. -/
mutual
def uptoBulk {H : Type} : DataW H → Nat
  | .lit (.string bytes) => bytes.length + 1
  | .lit _ => 1
  | .nil => 1
  | .ptr d => uptoBulk d + 1
  | .slice elems spare => uptoBulkAll elems + uptoBulkAll spare + 1
  | .agg parts => uptoBulkAll parts + 1
  | .iface _ d => uptoBulk d + 1
  | .map entries => uptoBulkEntries entries + 1
  | .held _ => 1
def uptoBulkAll {H : Type} : List (DataW H) → Nat
  | [] => 0
  | d :: r => uptoBulk d + uptoBulkAll r
def uptoBulkEntries {H : Type} : List (Lit × DataW H) → Nat
  | [] => 0
  | x :: r => uptoBulkEntry x + uptoBulkEntries r
def uptoBulkEntry {H : Type} : Lit × DataW H → Nat
  | (.string bytes, d) => bytes.length + uptoBulk d + 1
  | (_, d) => uptoBulk d + 1
 end
def uptoSmall : (H : Type) → List (DataW H) → Bool := fun _ ds => decide (uptoBulkAll ds ≤ 1048576)
def OpenSpec.upto (s : _root_.Go.ChangeSpec) : _root_.Go.OpenSpec := { _root_.Go.OpenSpec.ofChange s with cond := some uptoSmall }

/-- 'nameplanlaw14.TransferMatchesReference', WHERE WHAT IT READS IS OF BULK AT MOST 1048576: true; the input reads as it did. -/
def transferMatchesReferenceUptoRow : OpenClaim := { program := "ytipkfnkmdeopeaagreatdoor", sum := "a5ea47c2cdaaec59d02080ce85b0f5806c9bd656317c334f716d673afc4a7b20", func := "nameplan/nameplanlaw14.TransferMatchesReference", spec := "transferMatchesReference", inPlace := ["internal/bytealg.abigen_runtime_cmpstring"], unfollowed := true, recurses := true, named := ["nameplan/record.rules"], plainKeys := false, apart := false, laid := [("nameplan/record.rules", laid_nameplan_record_rules)], narrowed := true }
def TransferMatchesReferenceUptoSaid : Prop := transferMatchesReferenceUptoRow.holds Tryz.pinned (OpenSpec.upto transferMatchesReferenceSpec)

/-- 'nameplanlaw14.TransferNewest', WHERE WHAT IT READS IS OF BULK AT MOST 1048576: true; the input reads as it did. -/
def transferNewestUptoRow : OpenClaim := { program := "ytipkfnkmdeopeaagreatdoor", sum := "a5ea47c2cdaaec59d02080ce85b0f5806c9bd656317c334f716d673afc4a7b20", func := "nameplan/nameplanlaw14.TransferNewest", spec := "transferNewest", inPlace := ["internal/bytealg.abigen_runtime_cmpstring"], unfollowed := true, recurses := true, named := ["nameplan/record.rules"], plainKeys := false, apart := false, laid := [("nameplan/record.rules", laid_nameplan_record_rules)], narrowed := true }
def TransferNewestUptoSaid : Prop := transferNewestUptoRow.holds Tryz.pinned (OpenSpec.upto transferNewestSpec)

/-- 'nameplanlaw14.TransferIncremental', WHERE WHAT IT READS IS OF BULK AT MOST 1048576: true; the input reads as it did. -/
def transferIncrementalUptoRow : OpenClaim := { program := "ytipkfnkmdeopeaagreatdoor", sum := "a5ea47c2cdaaec59d02080ce85b0f5806c9bd656317c334f716d673afc4a7b20", func := "nameplan/nameplanlaw14.TransferIncremental", spec := "transferIncremental", inPlace := ["internal/bytealg.abigen_runtime_cmpstring"], unfollowed := true, recurses := true, named := ["nameplan/record.rules"], plainKeys := false, apart := false, laid := [("nameplan/record.rules", laid_nameplan_record_rules)], narrowed := true }
def TransferIncrementalUptoSaid : Prop := transferIncrementalUptoRow.holds Tryz.pinned (OpenSpec.upto transferIncrementalSpec)

/-- 'nameplanlaw14.TransferLagging', WHERE WHAT IT READS IS OF BULK AT MOST 1048576: true; the input reads as it did. -/
def transferLaggingUptoRow : OpenClaim := { program := "ytipkfnkmdeopeaagreatdoor", sum := "a5ea47c2cdaaec59d02080ce85b0f5806c9bd656317c334f716d673afc4a7b20", func := "nameplan/nameplanlaw14.TransferLagging", spec := "transferLagging", inPlace := ["internal/bytealg.abigen_runtime_cmpstring"], unfollowed := true, recurses := true, named := ["nameplan/record.rules"], plainKeys := false, apart := false, laid := [("nameplan/record.rules", laid_nameplan_record_rules)], narrowed := true }
def TransferLaggingUptoSaid : Prop := transferLaggingUptoRow.holds Tryz.pinned (OpenSpec.upto transferLaggingSpec)

/-- 'nameplanlaw14.TransferOld', WHERE WHAT IT READS IS OF BULK AT MOST 1048576: true; the input reads as it did. -/
def transferOldUptoRow : OpenClaim := { program := "ytipkfnkmdeopeaagreatdoor", sum := "a5ea47c2cdaaec59d02080ce85b0f5806c9bd656317c334f716d673afc4a7b20", func := "nameplan/nameplanlaw14.TransferOld", spec := "transferOld", inPlace := ["internal/bytealg.abigen_runtime_cmpstring"], unfollowed := true, recurses := true, named := ["nameplan/record.rules"], plainKeys := false, apart := false, laid := [("nameplan/record.rules", laid_nameplan_record_rules)], narrowed := true }
def TransferOldUptoSaid : Prop := transferOldUptoRow.holds Tryz.pinned (OpenSpec.upto transferOldSpec)

/-- 'nameplanlaw14.TransferPatience', WHERE WHAT IT READS IS OF BULK AT MOST 1048576: true; the input reads as it did. -/
def transferPatienceUptoRow : OpenClaim := { program := "ytipkfnkmdeopeaagreatdoor", sum := "a5ea47c2cdaaec59d02080ce85b0f5806c9bd656317c334f716d673afc4a7b20", func := "nameplan/nameplanlaw14.TransferPatience", spec := "transferPatience", inPlace := ["internal/bytealg.abigen_runtime_cmpstring"], unfollowed := true, recurses := true, named := ["nameplan/record.rules"], plainKeys := false, apart := false, laid := [("nameplan/record.rules", laid_nameplan_record_rules)], narrowed := true }
def TransferPatienceUptoSaid : Prop := transferPatienceUptoRow.holds Tryz.pinned (OpenSpec.upto transferPatienceSpec)

end Rows
end Go.Proofs.YtipkfnkmdeopeaaGreatDoor
