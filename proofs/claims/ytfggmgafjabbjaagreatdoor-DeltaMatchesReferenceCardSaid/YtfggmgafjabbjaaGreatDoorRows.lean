/-
  NARROWER THAN 'FOR EVERY INPUT', by the rows' own cells (each row's printed sentence says how): DeltaOnce: laid · DeltaApplies: laid · DeltaMatchesReference: laid · DeltaJoins: laid · DeltaThree: laid.
  DERIVED. THE GIVEN ROWS OF THIS SEAT. 5 by the template 'for every input the law returns true; each argument reads behind the call as it read before'; 0 by the template 'total and deterministic' (their statements: YtfggmgafjabbjaaGreatDoorTotals.lean).
  GIVEN WITH THE SEED: the statements are not yours to turn. If you find one false, say at which input.
  Laid BY PROGRAM, IN A SANDBOX (cutbox-rows.mjs): the forced cells as the released guide's own fill.sh prints them over the translation a346b49d2dbe54ad… (all of the seat's roots in one cut). By AI agents, Wed Nov 11 2026. No macro, syntax, notation, axiom, sorry.
-/
import Derived.Test.YtfggmgafjabbjaaGreatDoorChecked
import GoSem.Claim
import GoSem.ClaimJoined
import GoSem.ClaimMapViews
import Derived.JoinedTies
import Derived.KernelRfl
namespace Go.Proofs.YtfggmgafjabbjaaGreatDoor
/- THE CELL 'sum', in the pinned program and in every row, IS THE sha256 OF THE DUMP (.gsa) THAT YtfggmgafjabbjaaGreatDoorProg.lean LOADS. Nothing in Lean hashes anything: it is a label: what it is worth is what the hold of that sum in a sandbox is worth. -/
noncomputable def Tryz.pinned : Pinned := { name := "ytfggmgafjabbjaagreatdoor", sum := "a346b49d2dbe54adb0681a28d28068419c8beba340256fe2c1c1de39d7671913", checked := Tryz.checked }
namespace Rows
def none {H : Type} : Left H := { results := [], args := [] }

/- WHAT THE LISTED PACKAGE-LEVEL VARIABLES READ AS WHEN THE CALL BEGINS. Each datum BY PROGRAM (the guide's laid-datum.mjs) off the statement by which the dump's own 'gosem.cut.vars' lays the variable. In a bare row this is a premise. The card (YtfggmgafjabbjaaGreatDoorCards.lean) ties it to the program's text. -/
def laid_nameplan_record_rules {H : Type} : DataW H := .agg [.agg [.lit (.int .i64 0), .lit (.int .i64 0), .lit (.int .i64 0), .lit (.int .i64 0), .lit (.int .i64 0), .lit (.bool false), .lit (.bool false), .lit (.bool false)], .agg [.lit (.int .i64 0), .lit (.int .i64 1), .lit (.int .i64 1000000), .lit (.int .i64 0), .lit (.int .i64 0), .lit (.bool false), .lit (.bool false), .lit (.bool true)], .agg [.lit (.int .i64 1), .lit (.int .i64 0), .lit (.int .i64 0), .lit (.int .i64 0), .lit (.int .i64 0), .lit (.bool false), .lit (.bool false), .lit (.bool false)], .agg [.lit (.int .i64 1), .lit (.int .i64 0), .lit (.int .i64 0), .lit (.int .i64 0), .lit (.int .i64 0), .lit (.bool false), .lit (.bool true), .lit (.bool false)], .agg [.lit (.int .i64 0), .lit (.int .i64 0), .lit (.int .i64 65535), .lit (.int .i64 0), .lit (.int .i64 100000), .lit (.bool false), .lit (.bool true), .lit (.bool false)], .agg [.lit (.int .i64 3), .lit (.int .i64 0), .lit (.int .i64 0), .lit (.int .i64 0), .lit (.int .i64 0), .lit (.bool false), .lit (.bool false), .lit (.bool true)], .agg [.lit (.int .i64 0), .lit (.int .i64 1), .lit (.int .i64 1000000), .lit (.int .i64 1), .lit (.int .i64 3), .lit (.bool false), .lit (.bool false), .lit (.bool false)], .agg [.lit (.int .i64 0), .lit (.int .i64 1), .lit (.int .i64 1000000), .lit (.int .i64 1), .lit (.int .i64 3), .lit (.bool false), .lit (.bool false), .lit (.bool false)], .agg [.lit (.int .i64 2), .lit (.int .i64 2), .lit (.int .i64 510), .lit (.int .i64 0), .lit (.int .i64 0), .lit (.bool true), .lit (.bool false), .lit (.bool true)]]

/-- 'nameplanlaw11.DeltaOnce': WHATEVER THE INPUT: true; the input reads as it did. -/
def deltaOnceSpec : ChangeSpec := { name := "deltaOnce", fn := fun _ => fun
  | [d1, d2] => { results := [.lit (.bool true)], args := [d1, d2] }
  | _ => none }
def deltaOnceRow : OpenClaim := { program := "ytfggmgafjabbjaagreatdoor", sum := "a346b49d2dbe54adb0681a28d28068419c8beba340256fe2c1c1de39d7671913", func := "nameplan/nameplanlaw11.DeltaOnce", spec := "deltaOnce", inPlace := ["internal/bytealg.abigen_runtime_cmpstring"], unfollowed := true, recurses := true, named := ["nameplan/record.rules"], plainKeys := false, apart := false, laid := [("nameplan/record.rules", laid_nameplan_record_rules)] }
def DeltaOnceSaid : Prop := deltaOnceRow.holds Tryz.pinned (OpenSpec.ofChange deltaOnceSpec)

/-- ITS FALSE NEIGHBOUR: 'it returns false'. Refute it at one input. -/
def deltaOnceWrong : ChangeSpec := { name := "deltaOnce", fn := fun _ => fun
  | [d1, d2] => { results := [.lit (.bool false)], args := [d1, d2] }
  | _ => none }
def DeltaOnceWrongFalsely : Prop := deltaOnceRow.holds Tryz.pinned (OpenSpec.ofChange deltaOnceWrong)

/-- 'nameplanlaw11.DeltaApplies': WHATEVER THE INPUT: true; the input reads as it did. -/
def deltaAppliesSpec : ChangeSpec := { name := "deltaApplies", fn := fun _ => fun
  | [d1, d2] => { results := [.lit (.bool true)], args := [d1, d2] }
  | _ => none }
def deltaAppliesRow : OpenClaim := { program := "ytfggmgafjabbjaagreatdoor", sum := "a346b49d2dbe54adb0681a28d28068419c8beba340256fe2c1c1de39d7671913", func := "nameplan/nameplanlaw11.DeltaApplies", spec := "deltaApplies", inPlace := ["internal/bytealg.abigen_runtime_cmpstring"], unfollowed := true, recurses := true, named := ["nameplan/record.rules"], plainKeys := false, apart := false, laid := [("nameplan/record.rules", laid_nameplan_record_rules)] }
def DeltaAppliesSaid : Prop := deltaAppliesRow.holds Tryz.pinned (OpenSpec.ofChange deltaAppliesSpec)

/-- ITS FALSE NEIGHBOUR: 'it returns false'. Refute it at one input. -/
def deltaAppliesWrong : ChangeSpec := { name := "deltaApplies", fn := fun _ => fun
  | [d1, d2] => { results := [.lit (.bool false)], args := [d1, d2] }
  | _ => none }
def DeltaAppliesWrongFalsely : Prop := deltaAppliesRow.holds Tryz.pinned (OpenSpec.ofChange deltaAppliesWrong)

/-- 'nameplanlaw11.DeltaMatchesReference': WHATEVER THE INPUT: true; the input reads as it did. -/
def deltaMatchesReferenceSpec : ChangeSpec := { name := "deltaMatchesReference", fn := fun _ => fun
  | [d1, d2, d3, d4, d5, d6] => { results := [.lit (.bool true)], args := [d1, d2, d3, d4, d5, d6] }
  | _ => none }
def deltaMatchesReferenceRow : OpenClaim := { program := "ytfggmgafjabbjaagreatdoor", sum := "a346b49d2dbe54adb0681a28d28068419c8beba340256fe2c1c1de39d7671913", func := "nameplan/nameplanlaw11.DeltaMatchesReference", spec := "deltaMatchesReference", inPlace := ["internal/bytealg.abigen_runtime_cmpstring"], unfollowed := true, recurses := true, named := ["nameplan/record.rules"], plainKeys := false, apart := false, laid := [("nameplan/record.rules", laid_nameplan_record_rules)] }
def DeltaMatchesReferenceSaid : Prop := deltaMatchesReferenceRow.holds Tryz.pinned (OpenSpec.ofChange deltaMatchesReferenceSpec)

/-- ITS FALSE NEIGHBOUR: 'it returns false'. Refute it at one input. -/
def deltaMatchesReferenceWrong : ChangeSpec := { name := "deltaMatchesReference", fn := fun _ => fun
  | [d1, d2, d3, d4, d5, d6] => { results := [.lit (.bool false)], args := [d1, d2, d3, d4, d5, d6] }
  | _ => none }
def DeltaMatchesReferenceWrongFalsely : Prop := deltaMatchesReferenceRow.holds Tryz.pinned (OpenSpec.ofChange deltaMatchesReferenceWrong)

/-- 'nameplanlaw11.DeltaJoins': WHATEVER THE INPUT: true; the input reads as it did. -/
def deltaJoinsSpec : ChangeSpec := { name := "deltaJoins", fn := fun _ => fun
  | [d1, d2, d3] => { results := [.lit (.bool true)], args := [d1, d2, d3] }
  | _ => none }
def deltaJoinsRow : OpenClaim := { program := "ytfggmgafjabbjaagreatdoor", sum := "a346b49d2dbe54adb0681a28d28068419c8beba340256fe2c1c1de39d7671913", func := "nameplan/nameplanlaw11.DeltaJoins", spec := "deltaJoins", inPlace := ["internal/bytealg.abigen_runtime_cmpstring"], unfollowed := true, recurses := true, named := ["nameplan/record.rules"], plainKeys := false, apart := false, laid := [("nameplan/record.rules", laid_nameplan_record_rules)] }
def DeltaJoinsSaid : Prop := deltaJoinsRow.holds Tryz.pinned (OpenSpec.ofChange deltaJoinsSpec)

/-- ITS FALSE NEIGHBOUR: 'it returns false'. Refute it at one input. -/
def deltaJoinsWrong : ChangeSpec := { name := "deltaJoins", fn := fun _ => fun
  | [d1, d2, d3] => { results := [.lit (.bool false)], args := [d1, d2, d3] }
  | _ => none }
def DeltaJoinsWrongFalsely : Prop := deltaJoinsRow.holds Tryz.pinned (OpenSpec.ofChange deltaJoinsWrong)

/-- 'nameplanlaw11.DeltaThree': WHATEVER THE INPUT: true; the input reads as it did. -/
def deltaThreeSpec : ChangeSpec := { name := "deltaThree", fn := fun _ => fun
  | [d1, d2, d3] => { results := [.lit (.bool true)], args := [d1, d2, d3] }
  | _ => none }
def deltaThreeRow : OpenClaim := { program := "ytfggmgafjabbjaagreatdoor", sum := "a346b49d2dbe54adb0681a28d28068419c8beba340256fe2c1c1de39d7671913", func := "nameplan/nameplanlaw11.DeltaThree", spec := "deltaThree", inPlace := ["internal/bytealg.abigen_runtime_cmpstring"], unfollowed := true, recurses := true, named := ["nameplan/record.rules"], plainKeys := false, apart := false, laid := [("nameplan/record.rules", laid_nameplan_record_rules)] }
def DeltaThreeSaid : Prop := deltaThreeRow.holds Tryz.pinned (OpenSpec.ofChange deltaThreeSpec)

/-- ITS FALSE NEIGHBOUR: 'it returns false'. Refute it at one input. -/
def deltaThreeWrong : ChangeSpec := { name := "deltaThree", fn := fun _ => fun
  | [d1, d2, d3] => { results := [.lit (.bool false)], args := [d1, d2, d3] }
  | _ => none }
def DeltaThreeWrongFalsely : Prop := deltaThreeRow.holds Tryz.pinned (OpenSpec.ofChange deltaThreeWrong)

/- THE SECOND FORM. 'bulk': how many values and letters a reading holds, each counted each time it is reached (what is shared counts as often as it is met; a slice's spare places count too). A statement '..UptoSaid' is the law's where the arguments, and the package variables that the reading takes, are together of bulk at most 1048576: NARROWER than '..Said'. Prove '..Said' where nothing that the law and all that it calls make is longer than what came in: it says more and counts as full. Else prove '..UptoSaid'. A law counts once. -/
mutual
def uptoBulk {H : Type} : DataW H → Nat
  | .lit (.string bytes) => bytes.length + 1
  | .lit _ => 1
  | .nil => 1
  | .ptr d => uptoBulk d + 1
  | .slice elems spare => uptoBulkAll elems + uptoBulkAll spare + 1
  | .agg parts => uptoBulkAll parts + 1
  | .iface _ d => uptoBulk d + 1
  | .map entries => uptoBulkEntries entries + 1
  | .held _ => 1
def uptoBulkAll {H : Type} : List (DataW H) → Nat
  | [] => 0
  | d :: r => uptoBulk d + uptoBulkAll r
def uptoBulkEntries {H : Type} : List (Lit × DataW H) → Nat
  | [] => 0
  | x :: r => uptoBulkEntry x + uptoBulkEntries r
def uptoBulkEntry {H : Type} : Lit × DataW H → Nat
  | (.string bytes, d) => bytes.length + uptoBulk d + 1
  | (_, d) => uptoBulk d + 1
 end
def uptoSmall : (H : Type) → List (DataW H) → Bool := fun _ ds => decide (uptoBulkAll ds ≤ 1048576)
def OpenSpec.upto (s : _root_.Go.ChangeSpec) : _root_.Go.OpenSpec := { _root_.Go.OpenSpec.ofChange s with cond := some uptoSmall }

/-- 'nameplanlaw11.DeltaOnce', WHERE WHAT IT READS IS OF BULK AT MOST 1048576: true; the input reads as it did. -/
def deltaOnceUptoRow : OpenClaim := { program := "ytfggmgafjabbjaagreatdoor", sum := "a346b49d2dbe54adb0681a28d28068419c8beba340256fe2c1c1de39d7671913", func := "nameplan/nameplanlaw11.DeltaOnce", spec := "deltaOnce", inPlace := ["internal/bytealg.abigen_runtime_cmpstring"], unfollowed := true, recurses := true, named := ["nameplan/record.rules"], plainKeys := false, apart := false, laid := [("nameplan/record.rules", laid_nameplan_record_rules)], narrowed := true }
def DeltaOnceUptoSaid : Prop := deltaOnceUptoRow.holds Tryz.pinned (OpenSpec.upto deltaOnceSpec)

/-- 'nameplanlaw11.DeltaApplies', WHERE WHAT IT READS IS OF BULK AT MOST 1048576: true; the input reads as it did. -/
def deltaAppliesUptoRow : OpenClaim := { program := "ytfggmgafjabbjaagreatdoor", sum := "a346b49d2dbe54adb0681a28d28068419c8beba340256fe2c1c1de39d7671913", func := "nameplan/nameplanlaw11.DeltaApplies", spec := "deltaApplies", inPlace := ["internal/bytealg.abigen_runtime_cmpstring"], unfollowed := true, recurses := true, named := ["nameplan/record.rules"], plainKeys := false, apart := false, laid := [("nameplan/record.rules", laid_nameplan_record_rules)], narrowed := true }
def DeltaAppliesUptoSaid : Prop := deltaAppliesUptoRow.holds Tryz.pinned (OpenSpec.upto deltaAppliesSpec)

/-- 'nameplanlaw11.DeltaMatchesReference', WHERE WHAT IT READS IS OF BULK AT MOST 1048576: true; the input reads as it did. -/
def deltaMatchesReferenceUptoRow : OpenClaim := { program := "ytfggmgafjabbjaagreatdoor", sum := "a346b49d2dbe54adb0681a28d28068419c8beba340256fe2c1c1de39d7671913", func := "nameplan/nameplanlaw11.DeltaMatchesReference", spec := "deltaMatchesReference", inPlace := ["internal/bytealg.abigen_runtime_cmpstring"], unfollowed := true, recurses := true, named := ["nameplan/record.rules"], plainKeys := false, apart := false, laid := [("nameplan/record.rules", laid_nameplan_record_rules)], narrowed := true }
def DeltaMatchesReferenceUptoSaid : Prop := deltaMatchesReferenceUptoRow.holds Tryz.pinned (OpenSpec.upto deltaMatchesReferenceSpec)

/-- 'nameplanlaw11.DeltaJoins', WHERE WHAT IT READS IS OF BULK AT MOST 1048576: true; the input reads as it did. -/
def deltaJoinsUptoRow : OpenClaim := { program := "ytfggmgafjabbjaagreatdoor", sum := "a346b49d2dbe54adb0681a28d28068419c8beba340256fe2c1c1de39d7671913", func := "nameplan/nameplanlaw11.DeltaJoins", spec := "deltaJoins", inPlace := ["internal/bytealg.abigen_runtime_cmpstring"], unfollowed := true, recurses := true, named := ["nameplan/record.rules"], plainKeys := false, apart := false, laid := [("nameplan/record.rules", laid_nameplan_record_rules)], narrowed := true }
def DeltaJoinsUptoSaid : Prop := deltaJoinsUptoRow.holds Tryz.pinned (OpenSpec.upto deltaJoinsSpec)

/-- 'nameplanlaw11.DeltaThree', WHERE WHAT IT READS IS OF BULK AT MOST 1048576: true; the input reads as it did. -/
def deltaThreeUptoRow : OpenClaim := { program := "ytfggmgafjabbjaagreatdoor", sum := "a346b49d2dbe54adb0681a28d28068419c8beba340256fe2c1c1de39d7671913", func := "nameplan/nameplanlaw11.DeltaThree", spec := "deltaThree", inPlace := ["internal/bytealg.abigen_runtime_cmpstring"], unfollowed := true, recurses := true, named := ["nameplan/record.rules"], plainKeys := false, apart := false, laid := [("nameplan/record.rules", laid_nameplan_record_rules)], narrowed := true }
def DeltaThreeUptoSaid : Prop := deltaThreeUptoRow.holds Tryz.pinned (OpenSpec.upto deltaThreeSpec)

end Rows
end Go.Proofs.YtfggmgafjabbjaaGreatDoor
