/-
  NARROWER THAN 'FOR EVERY INPUT', by the rows' own cells (each row's printed sentence says how): UpdateMatchesReference: laid · UpdateNeeds: laid · UpdateParts: laid · UpdateNames: laid · UpdateSerial: laid · UpdateAdds: laid · UpdateTakes: laid.
  DERIVED. THE GIVEN ROWS OF THIS SEAT. 7 by the template 'for every input the law returns true; each argument reads behind the call as it read before'; 0 by the template 'total and deterministic' (their statements: YtmkblfajmnhccaaGreatDoorTotals.lean).
  GIVEN WITH THE SEED: the statements are not yours to turn. If you find one false, say at which input.
  Laid BY PROGRAM, IN A SANDBOX (cutbox-rows.mjs): the forced cells as the released guide's own fill.sh prints them over the translation 72686869a4ce6b42… (all of the seat's roots in one cut). By AI agents, Wed Nov 11 2026. No macro, syntax, notation, axiom, sorry.
-/
import Derived.Test.YtmkblfajmnhccaaGreatDoorChecked
import GoSem.Claim
import GoSem.ClaimJoined
import GoSem.ClaimMapViews
import Derived.JoinedTies
import Derived.KernelRfl
namespace Go.Proofs.YtmkblfajmnhccaaGreatDoor
/- THE CELL 'sum', in the pinned program and in every row, IS THE sha256 OF THE DUMP (.gsa) THAT YtmkblfajmnhccaaGreatDoorProg.lean LOADS. Nothing in Lean hashes anything: it is a label: what it is worth is what the hold of that sum in a sandbox is worth. -/
noncomputable def Tryz.pinned : Pinned := { name := "ytmkblfajmnhccaagreatdoor", sum := "72686869a4ce6b42518cd6ecf4e92023809b9ac4b82d500f1adf9178671a52c4", checked := Tryz.checked }
namespace Rows
def none {H : Type} : Left H := { results := [], args := [] }

/- WHAT THE LISTED PACKAGE-LEVEL VARIABLES READ AS WHEN THE CALL BEGINS. Each datum BY PROGRAM (the guide's laid-datum.mjs) off the statement by which the dump's own 'gosem.cut.vars' lays the variable. In a bare row this is a premise. The card (YtmkblfajmnhccaaGreatDoorCards.lean) ties it to the program's text. -/
def laid_nameplan_record_rules {H : Type} : DataW H := .agg [.agg [.lit (.int .i64 0), .lit (.int .i64 0), .lit (.int .i64 0), .lit (.int .i64 0), .lit (.int .i64 0), .lit (.bool false), .lit (.bool false), .lit (.bool false)], .agg [.lit (.int .i64 0), .lit (.int .i64 1), .lit (.int .i64 1000000), .lit (.int .i64 0), .lit (.int .i64 0), .lit (.bool false), .lit (.bool false), .lit (.bool true)], .agg [.lit (.int .i64 1), .lit (.int .i64 0), .lit (.int .i64 0), .lit (.int .i64 0), .lit (.int .i64 0), .lit (.bool false), .lit (.bool false), .lit (.bool false)], .agg [.lit (.int .i64 1), .lit (.int .i64 0), .lit (.int .i64 0), .lit (.int .i64 0), .lit (.int .i64 0), .lit (.bool false), .lit (.bool true), .lit (.bool false)], .agg [.lit (.int .i64 0), .lit (.int .i64 0), .lit (.int .i64 65535), .lit (.int .i64 0), .lit (.int .i64 100000), .lit (.bool false), .lit (.bool true), .lit (.bool false)], .agg [.lit (.int .i64 3), .lit (.int .i64 0), .lit (.int .i64 0), .lit (.int .i64 0), .lit (.int .i64 0), .lit (.bool false), .lit (.bool false), .lit (.bool true)], .agg [.lit (.int .i64 0), .lit (.int .i64 1), .lit (.int .i64 1000000), .lit (.int .i64 1), .lit (.int .i64 3), .lit (.bool false), .lit (.bool false), .lit (.bool false)], .agg [.lit (.int .i64 0), .lit (.int .i64 1), .lit (.int .i64 1000000), .lit (.int .i64 1), .lit (.int .i64 3), .lit (.bool false), .lit (.bool false), .lit (.bool false)], .agg [.lit (.int .i64 2), .lit (.int .i64 2), .lit (.int .i64 510), .lit (.int .i64 0), .lit (.int .i64 0), .lit (.bool true), .lit (.bool false), .lit (.bool true)]]

/-- 'nameplanlaw12.UpdateMatchesReference': WHATEVER THE INPUT: true; the input reads as it did. -/
def updateMatchesReferenceSpec : ChangeSpec := { name := "updateMatchesReference", fn := fun _ => fun
  | [d1, d2, d3] => { results := [.lit (.bool true)], args := [d1, d2, d3] }
  | _ => none }
def updateMatchesReferenceRow : OpenClaim := { program := "ytmkblfajmnhccaagreatdoor", sum := "72686869a4ce6b42518cd6ecf4e92023809b9ac4b82d500f1adf9178671a52c4", func := "nameplan/nameplanlaw12.UpdateMatchesReference", spec := "updateMatchesReference", inPlace := ["internal/bytealg.abigen_runtime_cmpstring", "slices.overlaps[nameplan/api.Signed]"], unfollowed := true, recurses := true, named := ["nameplan/record.rules"], apart := false, laid := [("nameplan/record.rules", laid_nameplan_record_rules)] }
def UpdateMatchesReferenceSaid : Prop := updateMatchesReferenceRow.holds Tryz.pinned (OpenSpec.ofChange updateMatchesReferenceSpec)

/-- ITS FALSE NEIGHBOUR: 'it returns false'. Refute it at one input. -/
def updateMatchesReferenceWrong : ChangeSpec := { name := "updateMatchesReference", fn := fun _ => fun
  | [d1, d2, d3] => { results := [.lit (.bool false)], args := [d1, d2, d3] }
  | _ => none }
def UpdateMatchesReferenceWrongFalsely : Prop := updateMatchesReferenceRow.holds Tryz.pinned (OpenSpec.ofChange updateMatchesReferenceWrong)

/-- 'nameplanlaw12.UpdateNeeds': WHATEVER THE INPUT: true; the input reads as it did. -/
def updateNeedsSpec : ChangeSpec := { name := "updateNeeds", fn := fun _ => fun
  | [d1, d2] => { results := [.lit (.bool true)], args := [d1, d2] }
  | _ => none }
def updateNeedsRow : OpenClaim := { program := "ytmkblfajmnhccaagreatdoor", sum := "72686869a4ce6b42518cd6ecf4e92023809b9ac4b82d500f1adf9178671a52c4", func := "nameplan/nameplanlaw12.UpdateNeeds", spec := "updateNeeds", inPlace := ["internal/bytealg.abigen_runtime_cmpstring", "slices.overlaps[nameplan/api.Signed]"], unfollowed := true, recurses := true, named := ["nameplan/record.rules"], apart := false, laid := [("nameplan/record.rules", laid_nameplan_record_rules)] }
def UpdateNeedsSaid : Prop := updateNeedsRow.holds Tryz.pinned (OpenSpec.ofChange updateNeedsSpec)

/-- ITS FALSE NEIGHBOUR: 'it returns false'. Refute it at one input. -/
def updateNeedsWrong : ChangeSpec := { name := "updateNeeds", fn := fun _ => fun
  | [d1, d2] => { results := [.lit (.bool false)], args := [d1, d2] }
  | _ => none }
def UpdateNeedsWrongFalsely : Prop := updateNeedsRow.holds Tryz.pinned (OpenSpec.ofChange updateNeedsWrong)

/-- 'nameplanlaw12.UpdateParts': WHATEVER THE INPUT: true; the input reads as it did. -/
def updatePartsSpec : ChangeSpec := { name := "updateParts", fn := fun _ => fun
  | [d1, d2, d3] => { results := [.lit (.bool true)], args := [d1, d2, d3] }
  | _ => none }
def updatePartsRow : OpenClaim := { program := "ytmkblfajmnhccaagreatdoor", sum := "72686869a4ce6b42518cd6ecf4e92023809b9ac4b82d500f1adf9178671a52c4", func := "nameplan/nameplanlaw12.UpdateParts", spec := "updateParts", inPlace := ["internal/bytealg.abigen_runtime_cmpstring", "slices.overlaps[nameplan/api.Signed]"], unfollowed := true, recurses := true, named := ["nameplan/record.rules"], apart := false, laid := [("nameplan/record.rules", laid_nameplan_record_rules)] }
def UpdatePartsSaid : Prop := updatePartsRow.holds Tryz.pinned (OpenSpec.ofChange updatePartsSpec)

/-- ITS FALSE NEIGHBOUR: 'it returns false'. Refute it at one input. -/
def updatePartsWrong : ChangeSpec := { name := "updateParts", fn := fun _ => fun
  | [d1, d2, d3] => { results := [.lit (.bool false)], args := [d1, d2, d3] }
  | _ => none }
def UpdatePartsWrongFalsely : Prop := updatePartsRow.holds Tryz.pinned (OpenSpec.ofChange updatePartsWrong)

/-- 'nameplanlaw12.UpdateNames': WHATEVER THE INPUT: true; the input reads as it did. -/
def updateNamesSpec : ChangeSpec := { name := "updateNames", fn := fun _ => fun
  | [d1, d2] => { results := [.lit (.bool true)], args := [d1, d2] }
  | _ => none }
def updateNamesRow : OpenClaim := { program := "ytmkblfajmnhccaagreatdoor", sum := "72686869a4ce6b42518cd6ecf4e92023809b9ac4b82d500f1adf9178671a52c4", func := "nameplan/nameplanlaw12.UpdateNames", spec := "updateNames", inPlace := ["internal/bytealg.abigen_runtime_cmpstring", "slices.overlaps[nameplan/api.Signed]"], unfollowed := true, recurses := true, named := ["nameplan/record.rules"], apart := false, laid := [("nameplan/record.rules", laid_nameplan_record_rules)] }
def UpdateNamesSaid : Prop := updateNamesRow.holds Tryz.pinned (OpenSpec.ofChange updateNamesSpec)

/-- ITS FALSE NEIGHBOUR: 'it returns false'. Refute it at one input. -/
def updateNamesWrong : ChangeSpec := { name := "updateNames", fn := fun _ => fun
  | [d1, d2] => { results := [.lit (.bool false)], args := [d1, d2] }
  | _ => none }
def UpdateNamesWrongFalsely : Prop := updateNamesRow.holds Tryz.pinned (OpenSpec.ofChange updateNamesWrong)

/-- 'nameplanlaw12.UpdateSerial': WHATEVER THE INPUT: true; the input reads as it did. -/
def updateSerialSpec : ChangeSpec := { name := "updateSerial", fn := fun _ => fun
  | [d1, d2] => { results := [.lit (.bool true)], args := [d1, d2] }
  | _ => none }
def updateSerialRow : OpenClaim := { program := "ytmkblfajmnhccaagreatdoor", sum := "72686869a4ce6b42518cd6ecf4e92023809b9ac4b82d500f1adf9178671a52c4", func := "nameplan/nameplanlaw12.UpdateSerial", spec := "updateSerial", inPlace := ["internal/bytealg.abigen_runtime_cmpstring", "slices.overlaps[nameplan/api.Signed]"], unfollowed := true, recurses := true, named := ["nameplan/record.rules"], apart := false, laid := [("nameplan/record.rules", laid_nameplan_record_rules)] }
def UpdateSerialSaid : Prop := updateSerialRow.holds Tryz.pinned (OpenSpec.ofChange updateSerialSpec)

/-- ITS FALSE NEIGHBOUR: 'it returns false'. Refute it at one input. -/
def updateSerialWrong : ChangeSpec := { name := "updateSerial", fn := fun _ => fun
  | [d1, d2] => { results := [.lit (.bool false)], args := [d1, d2] }
  | _ => none }
def UpdateSerialWrongFalsely : Prop := updateSerialRow.holds Tryz.pinned (OpenSpec.ofChange updateSerialWrong)

/-- 'nameplanlaw12.UpdateAdds': WHATEVER THE INPUT: true; the input reads as it did. -/
def updateAddsSpec : ChangeSpec := { name := "updateAdds", fn := fun _ => fun
  | [d1, d2] => { results := [.lit (.bool true)], args := [d1, d2] }
  | _ => none }
def updateAddsRow : OpenClaim := { program := "ytmkblfajmnhccaagreatdoor", sum := "72686869a4ce6b42518cd6ecf4e92023809b9ac4b82d500f1adf9178671a52c4", func := "nameplan/nameplanlaw12.UpdateAdds", spec := "updateAdds", inPlace := ["internal/bytealg.abigen_runtime_cmpstring", "slices.overlaps[nameplan/api.Signed]"], unfollowed := true, recurses := true, named := ["nameplan/record.rules"], apart := false, laid := [("nameplan/record.rules", laid_nameplan_record_rules)] }
def UpdateAddsSaid : Prop := updateAddsRow.holds Tryz.pinned (OpenSpec.ofChange updateAddsSpec)

/-- ITS FALSE NEIGHBOUR: 'it returns false'. Refute it at one input. -/
def updateAddsWrong : ChangeSpec := { name := "updateAdds", fn := fun _ => fun
  | [d1, d2] => { results := [.lit (.bool false)], args := [d1, d2] }
  | _ => none }
def UpdateAddsWrongFalsely : Prop := updateAddsRow.holds Tryz.pinned (OpenSpec.ofChange updateAddsWrong)

/-- 'nameplanlaw12.UpdateTakes': WHATEVER THE INPUT: true; the input reads as it did. -/
def updateTakesSpec : ChangeSpec := { name := "updateTakes", fn := fun _ => fun
  | [d1, d2] => { results := [.lit (.bool true)], args := [d1, d2] }
  | _ => none }
def updateTakesRow : OpenClaim := { program := "ytmkblfajmnhccaagreatdoor", sum := "72686869a4ce6b42518cd6ecf4e92023809b9ac4b82d500f1adf9178671a52c4", func := "nameplan/nameplanlaw12.UpdateTakes", spec := "updateTakes", inPlace := ["internal/bytealg.abigen_runtime_cmpstring", "slices.overlaps[nameplan/api.Signed]"], unfollowed := true, recurses := true, named := ["nameplan/record.rules"], apart := false, laid := [("nameplan/record.rules", laid_nameplan_record_rules)] }
def UpdateTakesSaid : Prop := updateTakesRow.holds Tryz.pinned (OpenSpec.ofChange updateTakesSpec)

/-- ITS FALSE NEIGHBOUR: 'it returns false'. Refute it at one input. -/
def updateTakesWrong : ChangeSpec := { name := "updateTakes", fn := fun _ => fun
  | [d1, d2] => { results := [.lit (.bool false)], args := [d1, d2] }
  | _ => none }
def UpdateTakesWrongFalsely : Prop := updateTakesRow.holds Tryz.pinned (OpenSpec.ofChange updateTakesWrong)

/- THE SECOND FORM. 'bulk': how many values and letters a reading holds, each counted each time it is reached (what is shared counts as often as it is met; a slice's spare places count too). A statement '..UptoSaid' is the law's where the arguments, and the package variables that the reading takes, are together of bulk at most 1048576: NARROWER than '..Said'. Prove '..Said' where nothing that the law and all that it calls make is longer than what came in: it says more and counts as full. Else prove '..UptoSaid'. A law counts once. -/
mutual
def uptoBulk {H : Type} : DataW H → Nat
  | .lit (.string bytes) => bytes.length + 1
  | .lit _ => 1
  | .nil => 1
  | .ptr d => uptoBulk d + 1
  | .slice elems spare => uptoBulkAll elems + uptoBulkAll spare + 1
  | .agg parts => uptoBulkAll parts + 1
  | .iface _ d => uptoBulk d + 1
  | .map entries => uptoBulkEntries entries + 1
  | .held _ => 1
def uptoBulkAll {H : Type} : List (DataW H) → Nat
  | [] => 0
  | d :: r => uptoBulk d + uptoBulkAll r
def uptoBulkEntries {H : Type} : List (Lit × DataW H) → Nat
  | [] => 0
  | x :: r => uptoBulkEntry x + uptoBulkEntries r
def uptoBulkEntry {H : Type} : Lit × DataW H → Nat
  | (.string bytes, d) => bytes.length + uptoBulk d + 1
  | (_, d) => uptoBulk d + 1
 end
def uptoSmall : (H : Type) → List (DataW H) → Bool := fun _ ds => decide (uptoBulkAll ds ≤ 1048576)
def OpenSpec.upto (s : _root_.Go.ChangeSpec) : _root_.Go.OpenSpec := { _root_.Go.OpenSpec.ofChange s with cond := some uptoSmall }

/-- 'nameplanlaw12.UpdateMatchesReference', WHERE WHAT IT READS IS OF BULK AT MOST 1048576: true; the input reads as it did. -/
def updateMatchesReferenceUptoRow : OpenClaim := { program := "ytmkblfajmnhccaagreatdoor", sum := "72686869a4ce6b42518cd6ecf4e92023809b9ac4b82d500f1adf9178671a52c4", func := "nameplan/nameplanlaw12.UpdateMatchesReference", spec := "updateMatchesReference", inPlace := ["internal/bytealg.abigen_runtime_cmpstring", "slices.overlaps[nameplan/api.Signed]"], unfollowed := true, recurses := true, named := ["nameplan/record.rules"], apart := false, laid := [("nameplan/record.rules", laid_nameplan_record_rules)], narrowed := true }
def UpdateMatchesReferenceUptoSaid : Prop := updateMatchesReferenceUptoRow.holds Tryz.pinned (OpenSpec.upto updateMatchesReferenceSpec)

/-- 'nameplanlaw12.UpdateNeeds', WHERE WHAT IT READS IS OF BULK AT MOST 1048576: true; the input reads as it did. -/
def updateNeedsUptoRow : OpenClaim := { program := "ytmkblfajmnhccaagreatdoor", sum := "72686869a4ce6b42518cd6ecf4e92023809b9ac4b82d500f1adf9178671a52c4", func := "nameplan/nameplanlaw12.UpdateNeeds", spec := "updateNeeds", inPlace := ["internal/bytealg.abigen_runtime_cmpstring", "slices.overlaps[nameplan/api.Signed]"], unfollowed := true, recurses := true, named := ["nameplan/record.rules"], apart := false, laid := [("nameplan/record.rules", laid_nameplan_record_rules)], narrowed := true }
def UpdateNeedsUptoSaid : Prop := updateNeedsUptoRow.holds Tryz.pinned (OpenSpec.upto updateNeedsSpec)

/-- 'nameplanlaw12.UpdateParts', WHERE WHAT IT READS IS OF BULK AT MOST 1048576: true; the input reads as it did. -/
def updatePartsUptoRow : OpenClaim := { program := "ytmkblfajmnhccaagreatdoor", sum := "72686869a4ce6b42518cd6ecf4e92023809b9ac4b82d500f1adf9178671a52c4", func := "nameplan/nameplanlaw12.UpdateParts", spec := "updateParts", inPlace := ["internal/bytealg.abigen_runtime_cmpstring", "slices.overlaps[nameplan/api.Signed]"], unfollowed := true, recurses := true, named := ["nameplan/record.rules"], apart := false, laid := [("nameplan/record.rules", laid_nameplan_record_rules)], narrowed := true }
def UpdatePartsUptoSaid : Prop := updatePartsUptoRow.holds Tryz.pinned (OpenSpec.upto updatePartsSpec)

/-- 'nameplanlaw12.UpdateNames', WHERE WHAT IT READS IS OF BULK AT MOST 1048576: true; the input reads as it did. -/
def updateNamesUptoRow : OpenClaim := { program := "ytmkblfajmnhccaagreatdoor", sum := "72686869a4ce6b42518cd6ecf4e92023809b9ac4b82d500f1adf9178671a52c4", func := "nameplan/nameplanlaw12.UpdateNames", spec := "updateNames", inPlace := ["internal/bytealg.abigen_runtime_cmpstring", "slices.overlaps[nameplan/api.Signed]"], unfollowed := true, recurses := true, named := ["nameplan/record.rules"], apart := false, laid := [("nameplan/record.rules", laid_nameplan_record_rules)], narrowed := true }
def UpdateNamesUptoSaid : Prop := updateNamesUptoRow.holds Tryz.pinned (OpenSpec.upto updateNamesSpec)

/-- 'nameplanlaw12.UpdateSerial', WHERE WHAT IT READS IS OF BULK AT MOST 1048576: true; the input reads as it did. -/
def updateSerialUptoRow : OpenClaim := { program := "ytmkblfajmnhccaagreatdoor", sum := "72686869a4ce6b42518cd6ecf4e92023809b9ac4b82d500f1adf9178671a52c4", func := "nameplan/nameplanlaw12.UpdateSerial", spec := "updateSerial", inPlace := ["internal/bytealg.abigen_runtime_cmpstring", "slices.overlaps[nameplan/api.Signed]"], unfollowed := true, recurses := true, named := ["nameplan/record.rules"], apart := false, laid := [("nameplan/record.rules", laid_nameplan_record_rules)], narrowed := true }
def UpdateSerialUptoSaid : Prop := updateSerialUptoRow.holds Tryz.pinned (OpenSpec.upto updateSerialSpec)

/-- 'nameplanlaw12.UpdateAdds', WHERE WHAT IT READS IS OF BULK AT MOST 1048576: true; the input reads as it did. -/
def updateAddsUptoRow : OpenClaim := { program := "ytmkblfajmnhccaagreatdoor", sum := "72686869a4ce6b42518cd6ecf4e92023809b9ac4b82d500f1adf9178671a52c4", func := "nameplan/nameplanlaw12.UpdateAdds", spec := "updateAdds", inPlace := ["internal/bytealg.abigen_runtime_cmpstring", "slices.overlaps[nameplan/api.Signed]"], unfollowed := true, recurses := true, named := ["nameplan/record.rules"], apart := false, laid := [("nameplan/record.rules", laid_nameplan_record_rules)], narrowed := true }
def UpdateAddsUptoSaid : Prop := updateAddsUptoRow.holds Tryz.pinned (OpenSpec.upto updateAddsSpec)

/-- 'nameplanlaw12.UpdateTakes', WHERE WHAT IT READS IS OF BULK AT MOST 1048576: true; the input reads as it did. -/
def updateTakesUptoRow : OpenClaim := { program := "ytmkblfajmnhccaagreatdoor", sum := "72686869a4ce6b42518cd6ecf4e92023809b9ac4b82d500f1adf9178671a52c4", func := "nameplan/nameplanlaw12.UpdateTakes", spec := "updateTakes", inPlace := ["internal/bytealg.abigen_runtime_cmpstring", "slices.overlaps[nameplan/api.Signed]"], unfollowed := true, recurses := true, named := ["nameplan/record.rules"], apart := false, laid := [("nameplan/record.rules", laid_nameplan_record_rules)], narrowed := true }
def UpdateTakesUptoSaid : Prop := updateTakesUptoRow.holds Tryz.pinned (OpenSpec.upto updateTakesSpec)

end Rows
end Go.Proofs.YtmkblfajmnhccaaGreatDoor
