/-
  NARROWER THAN 'FOR EVERY INPUT', by the rows' own cells (each row's printed sentence says how): TopSigned: laid · TopDenied: laid.
  DERIVED. THE GIVEN ROWS OF THIS SEAT. 2 by the template 'for every input the law returns true; each argument reads behind the call as it read before'; 0 by the template 'total and deterministic' (their statements: YtdcenbhgholncaaGreatDoorTotals.lean).
  GIVEN WITH THE SEED: the statements are not yours to turn. If you find one false, say at which input.
  Laid BY PROGRAM, IN A SANDBOX (cutbox-rows.mjs): the forced cells as the released guide's own fill.sh prints them over the translation 48a0405d7e17126d… (all of the seat's roots in one cut). By AI agents, Wed Nov 11 2026. No macro, syntax, notation, axiom, sorry.
-/
import Derived.Test.YtdcenbhgholncaaGreatDoorChecked
import GoSem.Claim
import GoSem.ClaimJoined
import GoSem.ClaimMapViews
import Derived.JoinedTies
import Derived.KernelRfl
namespace Go.Proofs.YtdcenbhgholncaaGreatDoor
/- THE CELL 'sum', in the pinned program and in every row, IS THE sha256 OF THE DUMP (.gsa) THAT YtdcenbhgholncaaGreatDoorProg.lean LOADS. Nothing in Lean hashes anything: it is a label: what it is worth is what the hold of that sum in a sandbox is worth. -/
noncomputable def Tryz.pinned : Pinned := { name := "ytdcenbhgholncaagreatdoor", sum := "48a0405d7e17126d6492b3a5d976531b684d8c0c5475cb124cfea03e70fd59cd", checked := Tryz.checked }
namespace Rows
def none {H : Type} : Left H := { results := [], args := [] }

/- WHAT THE LISTED PACKAGE-LEVEL VARIABLES READ AS WHEN THE CALL BEGINS. Each datum BY PROGRAM (the guide's laid-datum.mjs) off the statement by which the dump's own 'gosem.cut.vars' lays the variable. In a bare row this is a premise. The card (YtdcenbhgholncaaGreatDoorCards.lean) ties it to the program's text. -/
def laid_nameplan_record_rules {H : Type} : DataW H := .agg [.agg [.lit (.int .i64 0), .lit (.int .i64 0), .lit (.int .i64 0), .lit (.int .i64 0), .lit (.int .i64 0), .lit (.bool false), .lit (.bool false), .lit (.bool false)], .agg [.lit (.int .i64 0), .lit (.int .i64 1), .lit (.int .i64 1000000), .lit (.int .i64 0), .lit (.int .i64 0), .lit (.bool false), .lit (.bool false), .lit (.bool true)], .agg [.lit (.int .i64 1), .lit (.int .i64 0), .lit (.int .i64 0), .lit (.int .i64 0), .lit (.int .i64 0), .lit (.bool false), .lit (.bool false), .lit (.bool false)], .agg [.lit (.int .i64 1), .lit (.int .i64 0), .lit (.int .i64 0), .lit (.int .i64 0), .lit (.int .i64 0), .lit (.bool false), .lit (.bool true), .lit (.bool false)], .agg [.lit (.int .i64 0), .lit (.int .i64 0), .lit (.int .i64 65535), .lit (.int .i64 0), .lit (.int .i64 100000), .lit (.bool false), .lit (.bool true), .lit (.bool false)], .agg [.lit (.int .i64 3), .lit (.int .i64 0), .lit (.int .i64 0), .lit (.int .i64 0), .lit (.int .i64 0), .lit (.bool false), .lit (.bool false), .lit (.bool true)], .agg [.lit (.int .i64 0), .lit (.int .i64 1), .lit (.int .i64 1000000), .lit (.int .i64 1), .lit (.int .i64 3), .lit (.bool false), .lit (.bool false), .lit (.bool false)], .agg [.lit (.int .i64 0), .lit (.int .i64 1), .lit (.int .i64 1000000), .lit (.int .i64 1), .lit (.int .i64 3), .lit (.bool false), .lit (.bool false), .lit (.bool false)], .agg [.lit (.int .i64 2), .lit (.int .i64 2), .lit (.int .i64 510), .lit (.int .i64 0), .lit (.int .i64 0), .lit (.bool true), .lit (.bool false), .lit (.bool true)]]

/-- 'nameplantop.TopSigned': WHATEVER THE INPUT: true; the input reads as it did. -/
def topSignedSpec : ChangeSpec := { name := "topSigned", fn := fun _ => fun
  | [d1, d2, d3, d4, d5, d6, d7] => { results := [.lit (.bool true)], args := [d1, d2, d3, d4, d5, d6, d7] }
  | _ => none }
def topSignedRow : OpenClaim := { program := "ytdcenbhgholncaagreatdoor", sum := "48a0405d7e17126d6492b3a5d976531b684d8c0c5475cb124cfea03e70fd59cd", func := "nameplan/nameplantop.TopSigned", spec := "topSigned", inPlace := ["internal/bytealg.abigen_runtime_cmpstring", "slices.overlaps[nameplan/api.Signed]", "internal/bytealg.IndexByteString", "internal/abi.NoEscape", "internal/bytealg.MakeNoZero"], unfollowed := true, recurses := true, named := ["nameplan/record.rules"], plainKeys := false, apart := false, laid := [("nameplan/record.rules", laid_nameplan_record_rules)] }
def TopSignedSaid : Prop := topSignedRow.holds Tryz.pinned (OpenSpec.ofChange topSignedSpec)

/-- ITS FALSE NEIGHBOUR: 'it returns false'. Refute it at one input. -/
def topSignedWrong : ChangeSpec := { name := "topSigned", fn := fun _ => fun
  | [d1, d2, d3, d4, d5, d6, d7] => { results := [.lit (.bool false)], args := [d1, d2, d3, d4, d5, d6, d7] }
  | _ => none }
def TopSignedWrongFalsely : Prop := topSignedRow.holds Tryz.pinned (OpenSpec.ofChange topSignedWrong)

/-- 'nameplantop.TopDenied': WHATEVER THE INPUT: true; the input reads as it did. -/
def topDeniedSpec : ChangeSpec := { name := "topDenied", fn := fun _ => fun
  | [d1, d2] => { results := [.lit (.bool true)], args := [d1, d2] }
  | _ => none }
def topDeniedRow : OpenClaim := { program := "ytdcenbhgholncaagreatdoor", sum := "48a0405d7e17126d6492b3a5d976531b684d8c0c5475cb124cfea03e70fd59cd", func := "nameplan/nameplantop.TopDenied", spec := "topDenied", inPlace := ["internal/bytealg.abigen_runtime_cmpstring", "slices.overlaps[nameplan/api.Signed]", "internal/bytealg.IndexByteString", "internal/abi.NoEscape", "internal/bytealg.MakeNoZero"], unfollowed := true, recurses := true, named := ["nameplan/record.rules"], plainKeys := false, apart := false, laid := [("nameplan/record.rules", laid_nameplan_record_rules)] }
def TopDeniedSaid : Prop := topDeniedRow.holds Tryz.pinned (OpenSpec.ofChange topDeniedSpec)

/-- ITS FALSE NEIGHBOUR: 'it returns false'. Refute it at one input. -/
def topDeniedWrong : ChangeSpec := { name := "topDenied", fn := fun _ => fun
  | [d1, d2] => { results := [.lit (.bool false)], args := [d1, d2] }
  | _ => none }
def TopDeniedWrongFalsely : Prop := topDeniedRow.holds Tryz.pinned (OpenSpec.ofChange topDeniedWrong)

/- THE SECOND FORM. 'bulk': how many values and letters a reading holds, each counted each time it is reached (what is shared counts as often as it is met; a slice's spare places count too). A statement '..UptoSaid' is the law's where the arguments, and the package variables that the reading takes, are together of bulk at most 1048576: NARROWER than '..Said'. Prove '..Said' where nothing that the law and all that it calls make is longer than what came in: it says more and counts as full. Else prove '..UptoSaid'. A law counts once. -/
mutual
def uptoBulk {H : Type} : DataW H → Nat
  | .lit (.string bytes) => bytes.length + 1
  | .lit _ => 1
  | .nil => 1
  | .ptr d => uptoBulk d + 1
  | .slice elems spare => uptoBulkAll elems + uptoBulkAll spare + 1
  | .agg parts => uptoBulkAll parts + 1
  | .iface _ d => uptoBulk d + 1
  | .map entries => uptoBulkEntries entries + 1
  | .held _ => 1
def uptoBulkAll {H : Type} : List (DataW H) → Nat
  | [] => 0
  | d :: r => uptoBulk d + uptoBulkAll r
def uptoBulkEntries {H : Type} : List (Lit × DataW H) → Nat
  | [] => 0
  | x :: r => uptoBulkEntry x + uptoBulkEntries r
def uptoBulkEntry {H : Type} : Lit × DataW H → Nat
  | (.string bytes, d) => bytes.length + uptoBulk d + 1
  | (_, d) => uptoBulk d + 1
 end
def uptoSmall : (H : Type) → List (DataW H) → Bool := fun _ ds => decide (uptoBulkAll ds ≤ 1048576)
def OpenSpec.upto (s : _root_.Go.ChangeSpec) : _root_.Go.OpenSpec := { _root_.Go.OpenSpec.ofChange s with cond := some uptoSmall }

/-- 'nameplantop.TopSigned', WHERE WHAT IT READS IS OF BULK AT MOST 1048576: true; the input reads as it did. -/
def topSignedUptoRow : OpenClaim := { program := "ytdcenbhgholncaagreatdoor", sum := "48a0405d7e17126d6492b3a5d976531b684d8c0c5475cb124cfea03e70fd59cd", func := "nameplan/nameplantop.TopSigned", spec := "topSigned", inPlace := ["internal/bytealg.abigen_runtime_cmpstring", "slices.overlaps[nameplan/api.Signed]", "internal/bytealg.IndexByteString", "internal/abi.NoEscape", "internal/bytealg.MakeNoZero"], unfollowed := true, recurses := true, named := ["nameplan/record.rules"], plainKeys := false, apart := false, laid := [("nameplan/record.rules", laid_nameplan_record_rules)], narrowed := true }
def TopSignedUptoSaid : Prop := topSignedUptoRow.holds Tryz.pinned (OpenSpec.upto topSignedSpec)

/-- 'nameplantop.TopDenied', WHERE WHAT IT READS IS OF BULK AT MOST 1048576: true; the input reads as it did. -/
def topDeniedUptoRow : OpenClaim := { program := "ytdcenbhgholncaagreatdoor", sum := "48a0405d7e17126d6492b3a5d976531b684d8c0c5475cb124cfea03e70fd59cd", func := "nameplan/nameplantop.TopDenied", spec := "topDenied", inPlace := ["internal/bytealg.abigen_runtime_cmpstring", "slices.overlaps[nameplan/api.Signed]", "internal/bytealg.IndexByteString", "internal/abi.NoEscape", "internal/bytealg.MakeNoZero"], unfollowed := true, recurses := true, named := ["nameplan/record.rules"], plainKeys := false, apart := false, laid := [("nameplan/record.rules", laid_nameplan_record_rules)], narrowed := true }
def TopDeniedUptoSaid : Prop := topDeniedUptoRow.holds Tryz.pinned (OpenSpec.upto topDeniedSpec)

end Rows
end Go.Proofs.YtdcenbhgholncaaGreatDoor
