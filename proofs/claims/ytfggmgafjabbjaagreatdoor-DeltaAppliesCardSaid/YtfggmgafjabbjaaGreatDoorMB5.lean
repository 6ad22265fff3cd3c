/-
  MANY TEXTS OF MINE IN ONE (a claim has a limit of files): DoCon, DlW6, DpCon, DlW7, DqCon, DlW8, DrCon, DlW9, DlW10, DsCon, DlW11, DSort, DlW12, LaCon, LaW1, DClaim, DLaid. Conditions: none.
-/
import Derived.Shelf.SlSortCmp.NoneTotal
import Derived.Carry
import Derived.RowKit
import Derived.ChangeSame
import Derived.OpenShut
import Derived.LaidMore
import Derived.Lay
import Derived.Test.YtfggmgafjabbjaaGreatDoorMB2
import Derived.Test.YtfggmgafjabbjaaGreatDoorMB3
import Derived.Test.YtfggmgafjabbjaaGreatDoorMB4
/-
  MADE BY A PROGRAM OF MINE: what the functions that leave memory alone give. Conditions: none.
-/
namespace Go.Proofs.YtfggmgafjabbjaaGreatDoor
open Go.DL Go.Str Go.Rec Go.Zon
set_option linter.unusedVariables false
def Un : Con where
  pure := fun k => [176, 169, 153, 114, 113, 81, 123, 90, 115, 171, 155, 122, 120, 125, 127, 172, 116, 156, 173, 126, 159, 124, 91, 128, 110, 157, 150, 119, 129, 118, 158, 130, 93, 83, 117, 85, 63, 165, 141, 102, 84, 82, 101, 92, 103, 86, 104, 89, 61, 111, 20, 60, 18, 100, 99, 46, 47, 48, 50, 51, 52, 53, 49, 14, 13, 59, 32, 33, 34, 151, 121, 87, 35, 88, 36, 11, 17, 9, 65, 64, 16, 54, 23, 22, 25, 24, 67, 41, 112, 66, 78, 79, 80, 77, 27, 10, 21, 26, 30, 29, 31, 97, 98, 45, 62, 19].contains k
  pf := fun k xs => match k, xs with
    | 176, [x0, x1] => .i (lastIx (str1 x0) (int1 x1))
    | 169, [x0, x1] => .i (lastIx (str1 x0) (int1 x1))
    | 153, [x0] => .b (labelOk (str1 x0))
    | 114, [x0] => .b (labelOk (str1 x0))
    | 113, [x0] => .list false ((splitF (str1 x0)).map sR)
    | 81, [x0] => .b (nameOk (str1 x0))
    | 123, [x0] => .b (nameOk (str1 x0))
    | 90, [x0] => .b (nameOk (str1 x0))
    | 115, [x0] => .list false ((partsOf (str1 x0)).map sR)
    | 171, [x0, x1] => .i (Go.Lib.compareBytes (str1 x0) (str1 x1))
    | 155, [x0, x1] => .i (Go.Lib.compareBytes (str1 x0) (str1 x1))
    | 122, [x0, x1] => .i (nmOrd (str1 x0) (str1 x1))
    | 120, [x0, x1] => .tuple [.i (if nameOk (str1 x0) && nameOk (str1 x1) then nmCmp (str1 x0) (str1 x1) else 0), .i (if nameOk (str1 x0) && nameOk (str1 x1) then 0 else 11)]
    | 125, [x0, x1] => .tuple [.i (if nameOk (str1 x0) && nameOk (str1 x1) then nmCmp (str1 x0) (str1 x1) else 0), .i (if nameOk (str1 x0) && nameOk (str1 x1) then 0 else 11)]
    | 127, [x0, x1, x2] => .b (inR (int1 x0) (int1 x1) (int1 x2))
    | 172, [x0, x1, x2] => .b (inR (int1 x0) (int1 x1) (int1 x2))
    | 116, [x0, x1, x2] => .b (inR (int1 x0) (int1 x1) (int1 x2))
    | 156, [x0] => .b ((int1 x0) != (int1 x0))
    | 173, [x0] => .b ((str1 x0) != (str1 x0))
    | 126, [x0, x1] => .i (cmpI (int1 x0) (int1 x1))
    | 159, [x0, x1] => .i (cmpS (str1 x0) (str1 x1))
    | 124, [x0, x1] => .b (hasPre (str1 x0) (str1 x1))
    | 91, [x0, x1] => .b (hasPre (str1 x0) (str1 x1))
    | 128, [x0] => .b (wildB (str1 x0))
    | 110, [x0] => .b (wildB (str1 x0))
    | 157, [x0] => .b (freeB (str1 x0))
    | 150, [x0] => .b (freeB (str1 x0))
    | 119, [x0, x1] => .b (less (dat1 x0) (dat1 x1))
    | 129, [x0, x1] => .b (datOk (rule1 x0) (dat1 x1))
    | 118, [x0, x1] => .b (rDatOk (int1 x0) (dat1 x1))
    | 158, [x0] => .i (orFrom (ints1 x0) 0)
    | 130, [x0, x1] => .i (datC (dat1 x0) (dat1 x1))
    | 93, [x0] => .b (setOk (set1 x0))
    | 83, [x0] => .b (setOk (set1 x0))
    | 117, [x0] => .b (singleB (int1 x0))
    | 85, [x0, x1] => .i (rOrd (set1 x0) (set1 x1))
    | 63, [x0, x1] => .b (sameB (set1 x0) (set1 x1))
    | 165, [x0, x1] => .b (hasSuf (str1 x0) (str1 x1))
    | 141, [x0, x1] => .b (hasSuf (str1 x0) (str1 x1))
    | 102, [x0, x1] => .tuple [.b (underV (str1 x0) (str1 x1)), .i (if nameOk (str1 x0) && nameOk (str1 x1) then 0 else 11)]
    | 84, [x0, x1] => .b (inB (str1 x0) (str1 x1))
    | 82, [x0] => .b (wild1 (str1 x0))
    | 101, [x0, x1, x2, x3] => .i (qC ⟨(str1 x0), (int1 x1)⟩ ⟨(str1 x2), (int1 x3)⟩)
    | 92, [x0, x1] => .i (qC (qst1 x0) (qst1 x1))
    | 103, [x0, x1] => .b (fits (int1 x0) (bool1 x1))
    | 86, [x0, x1] => .b (fits (int1 x0) (bool1 x1))
    | 104, [x0, x1] => .b (sigsOk (sigs1 x0) (str1 x1))
    | 89, [x0, x1] => .b (sigsOk (sigs1 x0) (str1 x1))
    | 61, [x0] => .b (qOk (qst1 x0))
    | 111, [x0] => .b (qOk (qst1 x0))
    | 20, [x0, x1] => .b (sameSgd (sgd1 x0) (sgd1 x1))
    | 60, [x0, x1] => .b (sameList (sgds1 x0) (sgds1 x1))
    | 18, [x0, x1] => .b (sameZ (zon1 x0) (zon1 x1))
    | 100, [x0, x1] => .i (qC (sgd1 x0).q (qst1 x1))
    | 99, [x0, x1, x2] => .tuple [.i (findIx (sgds1 x0) (qst1 x1)), .b (findOk (sgds1 x0) (qst1 x1))]
    | 46, [x0, x1] => .tuple [.i (findIx (zon1 x0).sets (qst1 x1)), .b (findOk (zon1 x0).sets (qst1 x1))]
    | 47, [x0] => .b (ordered (zon1 x0))
    | 48, [x0] => .b (apexHolds (zon1 x0))
    | 50, [x0] => .b (aliasB (lay1 x0))
    | 51, [x0] => .b (cutB (lay1 x0))
    | 52, [x0] => .b (glueB (lay1 x0))
    | 53, [x0] => .b (formB (lay1 x0))
    | 49, [x0] => .agg (layOf (zon1 x0)).d
    | 14, [x0] => .b (zoneOk (zon1 x0))
    | 13, [x0] => .tuple [.i (if zoneOk (zon1 x0) then serialOf (zon1 x0) else 0), .i (if zoneOk (zon1 x0) then 0 else 1)]
    | 59, [x0, x1] => .i (atF (zon1 x0).sets (qst1 x1))
    | 32, [x0] => .b (oneB (zon1 x0))
    | 33, [x0] => .b (twoB (zon1 x0))
    | 34, [x0] => .b (threeB (zon1 x0))
    | 151, [x0] => .list false ((cutsF (zon1 x0)).map sR)
    | 121, [x0] => .list false ((highF (zon1 x0)).map sR)
    | 87, [x0] => .list false ((behR (zon1 x0)).map sR)
    | 35, [x0] => .b (fourB (zon1 x0))
    | 88, [x0] => .list false ((ownF (zon1 x0)).map bR)
    | 36, [x0] => .b (fiveB (zon1 x0))
    | 11, [x0] => .b (refOk (zon1 x0))
    | 17, [x0] => .i (serialR (zon1 x0))
    | 9, [x0] => .b (fewZ (zon1 x0))
    | 65, [x0] => .b (serB (int1 x0))
    | 64, [x0] => .b (serB (int1 x0))
    | 16, [x0, x1] => .b (befB (int1 x0) (int1 x1))
    | 54, [x0, x1] => .b (befB (int1 x0) (int1 x1))
    | 23, [x0, x1] => .tuple [.b (lessF (int1 x0) (int1 x1)).1, .i (lessF (int1 x0) (int1 x1)).2]
    | 22, [x0, x1] => .tuple [.b (lessF (int1 x0) (int1 x1)).1, .i (lessF (int1 x0) (int1 x1)).2]
    | 25, [x0] => .tuple [.i (afterF (int1 x0)).1, .i (afterF (int1 x0)).2]
    | 24, [x0] => .tuple [.i (afterF (int1 x0)).1, .i (afterF (int1 x0)).2]
    | 67, [x0] => .agg (sgd1 x0).q.d
    | 41, [x0] => .agg (sgd1 x0).q.d
    | 112, [x0, x1] => .i (qO (qst1 x0) (qst1 x1))
    | 66, [x0, x1] => .i (atF (sgds1 x0) (qst1 x1))
    | 78, [x0, x1] => .b (askB (qsts1 x0) (qst1 x1))
    | 79, [x0, x1] => .list false ((sortedF (sgds1 x0) (sgd1 x1)).map Sgd.d)
    | 80, [x0, x1] => .list false ((addF (qsts1 x0) (qst1 x1)).map Qst.d)
    | 77, [x0] => .b (dltOk (dlt1 x0))
    | 27, [x0, x1] => .b (sameD (dlt1 x0) (dlt1 x1))
    | 10, [x0] => .b (fewD (dlt1 x0))
    | 21, [x0, x1, x2, x3] => .b (fewAll (zon1 x0) (zon1 x1) (dlt1 x2) (dlt1 x3))
    | 26, [x0, x1] => .tuple [.agg (diffR (zon1 x0) (zon1 x1)).1.d, .i (diffR (zon1 x0) (zon1 x1)).2]
    | 30, [x0, x1] => .tuple [.agg (applyR (zon1 x0) (dlt1 x1)).1.d, .i (applyR (zon1 x0) (dlt1 x1)).2]
    | 29, [x0, x1] => .tuple [.agg (joinR (dlt1 x0) (dlt1 x1)).1.d, .i (joinR (dlt1 x0) (dlt1 x1)).2]
    | 31, [x0, x1] => .agg (smallZ (int1 x0) (str1 x1)).d
    | 97, [x0] => .list false ((dats1 x0).map Dat.d)
    | 98, [x0] => .list false ((sigs1 x0).map RSig.d)
    | 45, [x0] => .agg (sgd1 x0).d
    | 62, [x0] => .agg (sgd1 x0).d
    | 19, [x0, x1] => .tuple [.agg (findR (zon1 x0) (qst1 x1)).1.d, .b (findR (zon1 x0) (qst1 x1)).2.1, .i (findR (zon1 x0) (qst1 x1)).2.2]
    | _, _ => .junk
@[go_sem] theorem unp176 : Un.pure 176 = true := rfl
@[go_sem] theorem unf176 {x0 x1 : D} : Un.pf 176 [x0, x1] = .i (lastIx (str1 x0) (int1 x1)) := rfl
@[go_sem] theorem unp169 : Un.pure 169 = true := rfl
@[go_sem] theorem unf169 {x0 x1 : D} : Un.pf 169 [x0, x1] = .i (lastIx (str1 x0) (int1 x1)) := rfl
@[go_sem] theorem unp153 : Un.pure 153 = true := rfl
@[go_sem] theorem unf153 {x0 : D} : Un.pf 153 [x0] = .b (labelOk (str1 x0)) := rfl
@[go_sem] theorem unp114 : Un.pure 114 = true := rfl
@[go_sem] theorem unf114 {x0 : D} : Un.pf 114 [x0] = .b (labelOk (str1 x0)) := rfl
@[go_sem] theorem unp113 : Un.pure 113 = true := rfl
@[go_sem] theorem unf113 {x0 : D} : Un.pf 113 [x0] = .list false ((splitF (str1 x0)).map sR) := rfl
@[go_sem] theorem unp81 : Un.pure 81 = true := rfl
@[go_sem] theorem unf81 {x0 : D} : Un.pf 81 [x0] = .b (nameOk (str1 x0)) := rfl
@[go_sem] theorem unp123 : Un.pure 123 = true := rfl
@[go_sem] theorem unf123 {x0 : D} : Un.pf 123 [x0] = .b (nameOk (str1 x0)) := rfl
@[go_sem] theorem unp90 : Un.pure 90 = true := rfl
@[go_sem] theorem unf90 {x0 : D} : Un.pf 90 [x0] = .b (nameOk (str1 x0)) := rfl
@[go_sem] theorem unp115 : Un.pure 115 = true := rfl
@[go_sem] theorem unf115 {x0 : D} : Un.pf 115 [x0] = .list false ((partsOf (str1 x0)).map sR) := rfl
@[go_sem] theorem unp171 : Un.pure 171 = true := rfl
@[go_sem] theorem unf171 {x0 x1 : D} : Un.pf 171 [x0, x1] = .i (Go.Lib.compareBytes (str1 x0) (str1 x1)) := rfl
@[go_sem] theorem unp155 : Un.pure 155 = true := rfl
@[go_sem] theorem unf155 {x0 x1 : D} : Un.pf 155 [x0, x1] = .i (Go.Lib.compareBytes (str1 x0) (str1 x1)) := rfl
@[go_sem] theorem unp122 : Un.pure 122 = true := rfl
@[go_sem] theorem unf122 {x0 x1 : D} : Un.pf 122 [x0, x1] = .i (nmOrd (str1 x0) (str1 x1)) := rfl
@[go_sem] theorem unp120 : Un.pure 120 = true := rfl
@[go_sem] theorem unf120 {x0 x1 : D} : Un.pf 120 [x0, x1] = .tuple [.i (if nameOk (str1 x0) && nameOk (str1 x1) then nmCmp (str1 x0) (str1 x1) else 0), .i (if nameOk (str1 x0) && nameOk (str1 x1) then 0 else 11)] := rfl
@[go_sem] theorem unp125 : Un.pure 125 = true := rfl
@[go_sem] theorem unf125 {x0 x1 : D} : Un.pf 125 [x0, x1] = .tuple [.i (if nameOk (str1 x0) && nameOk (str1 x1) then nmCmp (str1 x0) (str1 x1) else 0), .i (if nameOk (str1 x0) && nameOk (str1 x1) then 0 else 11)] := rfl
@[go_sem] theorem unp127 : Un.pure 127 = true := rfl
@[go_sem] theorem unf127 {x0 x1 x2 : D} : Un.pf 127 [x0, x1, x2] = .b (inR (int1 x0) (int1 x1) (int1 x2)) := rfl
@[go_sem] theorem unp172 : Un.pure 172 = true := rfl
@[go_sem] theorem unf172 {x0 x1 x2 : D} : Un.pf 172 [x0, x1, x2] = .b (inR (int1 x0) (int1 x1) (int1 x2)) := rfl
@[go_sem] theorem unp116 : Un.pure 116 = true := rfl
@[go_sem] theorem unf116 {x0 x1 x2 : D} : Un.pf 116 [x0, x1, x2] = .b (inR (int1 x0) (int1 x1) (int1 x2)) := rfl
@[go_sem] theorem unp156 : Un.pure 156 = true := rfl
@[go_sem] theorem unf156 {x0 : D} : Un.pf 156 [x0] = .b ((int1 x0) != (int1 x0)) := rfl
@[go_sem] theorem unp173 : Un.pure 173 = true := rfl
@[go_sem] theorem unf173 {x0 : D} : Un.pf 173 [x0] = .b ((str1 x0) != (str1 x0)) := rfl
@[go_sem] theorem unp126 : Un.pure 126 = true := rfl
@[go_sem] theorem unf126 {x0 x1 : D} : Un.pf 126 [x0, x1] = .i (cmpI (int1 x0) (int1 x1)) := rfl
@[go_sem] theorem unp159 : Un.pure 159 = true := rfl
@[go_sem] theorem unf159 {x0 x1 : D} : Un.pf 159 [x0, x1] = .i (cmpS (str1 x0) (str1 x1)) := rfl
@[go_sem] theorem unp124 : Un.pure 124 = true := rfl
@[go_sem] theorem unf124 {x0 x1 : D} : Un.pf 124 [x0, x1] = .b (hasPre (str1 x0) (str1 x1)) := rfl
@[go_sem] theorem unp91 : Un.pure 91 = true := rfl
@[go_sem] theorem unf91 {x0 x1 : D} : Un.pf 91 [x0, x1] = .b (hasPre (str1 x0) (str1 x1)) := rfl
@[go_sem] theorem unp128 : Un.pure 128 = true := rfl
@[go_sem] theorem unf128 {x0 : D} : Un.pf 128 [x0] = .b (wildB (str1 x0)) := rfl
@[go_sem] theorem unp110 : Un.pure 110 = true := rfl
@[go_sem] theorem unf110 {x0 : D} : Un.pf 110 [x0] = .b (wildB (str1 x0)) := rfl
@[go_sem] theorem unp157 : Un.pure 157 = true := rfl
@[go_sem] theorem unf157 {x0 : D} : Un.pf 157 [x0] = .b (freeB (str1 x0)) := rfl
@[go_sem] theorem unp150 : Un.pure 150 = true := rfl
@[go_sem] theorem unf150 {x0 : D} : Un.pf 150 [x0] = .b (freeB (str1 x0)) := rfl
@[go_sem] theorem unp119 : Un.pure 119 = true := rfl
@[go_sem] theorem unf119 {x0 x1 : D} : Un.pf 119 [x0, x1] = .b (less (dat1 x0) (dat1 x1)) := rfl
@[go_sem] theorem unp129 : Un.pure 129 = true := rfl
@[go_sem] theorem unf129 {x0 x1 : D} : Un.pf 129 [x0, x1] = .b (datOk (rule1 x0) (dat1 x1)) := rfl
@[go_sem] theorem unp118 : Un.pure 118 = true := rfl
@[go_sem] theorem unf118 {x0 x1 : D} : Un.pf 118 [x0, x1] = .b (rDatOk (int1 x0) (dat1 x1)) := rfl
@[go_sem] theorem unp158 : Un.pure 158 = true := rfl
@[go_sem] theorem unf158 {x0 : D} : Un.pf 158 [x0] = .i (orFrom (ints1 x0) 0) := rfl
@[go_sem] theorem unp130 : Un.pure 130 = true := rfl
@[go_sem] theorem unf130 {x0 x1 : D} : Un.pf 130 [x0, x1] = .i (datC (dat1 x0) (dat1 x1)) := rfl
@[go_sem] theorem unp93 : Un.pure 93 = true := rfl
@[go_sem] theorem unf93 {x0 : D} : Un.pf 93 [x0] = .b (setOk (set1 x0)) := rfl
@[go_sem] theorem unp83 : Un.pure 83 = true := rfl
@[go_sem] theorem unf83 {x0 : D} : Un.pf 83 [x0] = .b (setOk (set1 x0)) := rfl
@[go_sem] theorem unp117 : Un.pure 117 = true := rfl
@[go_sem] theorem unf117 {x0 : D} : Un.pf 117 [x0] = .b (singleB (int1 x0)) := rfl
@[go_sem] theorem unp85 : Un.pure 85 = true := rfl
@[go_sem] theorem unf85 {x0 x1 : D} : Un.pf 85 [x0, x1] = .i (rOrd (set1 x0) (set1 x1)) := rfl
@[go_sem] theorem unp63 : Un.pure 63 = true := rfl
@[go_sem] theorem unf63 {x0 x1 : D} : Un.pf 63 [x0, x1] = .b (sameB (set1 x0) (set1 x1)) := rfl
@[go_sem] theorem unp165 : Un.pure 165 = true := rfl
@[go_sem] theorem unf165 {x0 x1 : D} : Un.pf 165 [x0, x1] = .b (hasSuf (str1 x0) (str1 x1)) := rfl
@[go_sem] theorem unp141 : Un.pure 141 = true := rfl
@[go_sem] theorem unf141 {x0 x1 : D} : Un.pf 141 [x0, x1] = .b (hasSuf (str1 x0) (str1 x1)) := rfl
@[go_sem] theorem unp102 : Un.pure 102 = true := rfl
@[go_sem] theorem unf102 {x0 x1 : D} : Un.pf 102 [x0, x1] = .tuple [.b (underV (str1 x0) (str1 x1)), .i (if nameOk (str1 x0) && nameOk (str1 x1) then 0 else 11)] := rfl
@[go_sem] theorem unp84 : Un.pure 84 = true := rfl
@[go_sem] theorem unf84 {x0 x1 : D} : Un.pf 84 [x0, x1] = .b (inB (str1 x0) (str1 x1)) := rfl
@[go_sem] theorem unp82 : Un.pure 82 = true := rfl
@[go_sem] theorem unf82 {x0 : D} : Un.pf 82 [x0] = .b (wild1 (str1 x0)) := rfl
@[go_sem] theorem unp101 : Un.pure 101 = true := rfl
@[go_sem] theorem unf101 {x0 x1 x2 x3 : D} : Un.pf 101 [x0, x1, x2, x3] = .i (qC ⟨(str1 x0), (int1 x1)⟩ ⟨(str1 x2), (int1 x3)⟩) := rfl
@[go_sem] theorem unp92 : Un.pure 92 = true := rfl
@[go_sem] theorem unf92 {x0 x1 : D} : Un.pf 92 [x0, x1] = .i (qC (qst1 x0) (qst1 x1)) := rfl
@[go_sem] theorem unp103 : Un.pure 103 = true := rfl
@[go_sem] theorem unf103 {x0 x1 : D} : Un.pf 103 [x0, x1] = .b (fits (int1 x0) (bool1 x1)) := rfl
@[go_sem] theorem unp86 : Un.pure 86 = true := rfl
@[go_sem] theorem unf86 {x0 x1 : D} : Un.pf 86 [x0, x1] = .b (fits (int1 x0) (bool1 x1)) := rfl
@[go_sem] theorem unp104 : Un.pure 104 = true := rfl
@[go_sem] theorem unf104 {x0 x1 : D} : Un.pf 104 [x0, x1] = .b (sigsOk (sigs1 x0) (str1 x1)) := rfl
@[go_sem] theorem unp89 : Un.pure 89 = true := rfl
@[go_sem] theorem unf89 {x0 x1 : D} : Un.pf 89 [x0, x1] = .b (sigsOk (sigs1 x0) (str1 x1)) := rfl
@[go_sem] theorem unp61 : Un.pure 61 = true := rfl
@[go_sem] theorem unf61 {x0 : D} : Un.pf 61 [x0] = .b (qOk (qst1 x0)) := rfl
@[go_sem] theorem unp111 : Un.pure 111 = true := rfl
@[go_sem] theorem unf111 {x0 : D} : Un.pf 111 [x0] = .b (qOk (qst1 x0)) := rfl
@[go_sem] theorem unp20 : Un.pure 20 = true := rfl
@[go_sem] theorem unf20 {x0 x1 : D} : Un.pf 20 [x0, x1] = .b (sameSgd (sgd1 x0) (sgd1 x1)) := rfl
@[go_sem] theorem unp60 : Un.pure 60 = true := rfl
@[go_sem] theorem unf60 {x0 x1 : D} : Un.pf 60 [x0, x1] = .b (sameList (sgds1 x0) (sgds1 x1)) := rfl
@[go_sem] theorem unp18 : Un.pure 18 = true := rfl
@[go_sem] theorem unf18 {x0 x1 : D} : Un.pf 18 [x0, x1] = .b (sameZ (zon1 x0) (zon1 x1)) := rfl
@[go_sem] theorem unp100 : Un.pure 100 = true := rfl
@[go_sem] theorem unf100 {x0 x1 : D} : Un.pf 100 [x0, x1] = .i (qC (sgd1 x0).q (qst1 x1)) := rfl
@[go_sem] theorem unp99 : Un.pure 99 = true := rfl
@[go_sem] theorem unf99 {x0 x1 x2 : D} : Un.pf 99 [x0, x1, x2] = .tuple [.i (findIx (sgds1 x0) (qst1 x1)), .b (findOk (sgds1 x0) (qst1 x1))] := rfl
@[go_sem] theorem unp46 : Un.pure 46 = true := rfl
@[go_sem] theorem unf46 {x0 x1 : D} : Un.pf 46 [x0, x1] = .tuple [.i (findIx (zon1 x0).sets (qst1 x1)), .b (findOk (zon1 x0).sets (qst1 x1))] := rfl
@[go_sem] theorem unp47 : Un.pure 47 = true := rfl
@[go_sem] theorem unf47 {x0 : D} : Un.pf 47 [x0] = .b (ordered (zon1 x0)) := rfl
@[go_sem] theorem unp48 : Un.pure 48 = true := rfl
@[go_sem] theorem unf48 {x0 : D} : Un.pf 48 [x0] = .b (apexHolds (zon1 x0)) := rfl
@[go_sem] theorem unp50 : Un.pure 50 = true := rfl
@[go_sem] theorem unf50 {x0 : D} : Un.pf 50 [x0] = .b (aliasB (lay1 x0)) := rfl
@[go_sem] theorem unp51 : Un.pure 51 = true := rfl
@[go_sem] theorem unf51 {x0 : D} : Un.pf 51 [x0] = .b (cutB (lay1 x0)) := rfl
@[go_sem] theorem unp52 : Un.pure 52 = true := rfl
@[go_sem] theorem unf52 {x0 : D} : Un.pf 52 [x0] = .b (glueB (lay1 x0)) := rfl
@[go_sem] theorem unp53 : Un.pure 53 = true := rfl
@[go_sem] theorem unf53 {x0 : D} : Un.pf 53 [x0] = .b (formB (lay1 x0)) := rfl
@[go_sem] theorem unp49 : Un.pure 49 = true := rfl
@[go_sem] theorem unf49 {x0 : D} : Un.pf 49 [x0] = .agg (layOf (zon1 x0)).d := rfl
@[go_sem] theorem unp14 : Un.pure 14 = true := rfl
@[go_sem] theorem unf14 {x0 : D} : Un.pf 14 [x0] = .b (zoneOk (zon1 x0)) := rfl
@[go_sem] theorem unp13 : Un.pure 13 = true := rfl
@[go_sem] theorem unf13 {x0 : D} : Un.pf 13 [x0] = .tuple [.i (if zoneOk (zon1 x0) then serialOf (zon1 x0) else 0), .i (if zoneOk (zon1 x0) then 0 else 1)] := rfl
@[go_sem] theorem unp59 : Un.pure 59 = true := rfl
@[go_sem] theorem unf59 {x0 x1 : D} : Un.pf 59 [x0, x1] = .i (atF (zon1 x0).sets (qst1 x1)) := rfl
@[go_sem] theorem unp32 : Un.pure 32 = true := rfl
@[go_sem] theorem unf32 {x0 : D} : Un.pf 32 [x0] = .b (oneB (zon1 x0)) := rfl
@[go_sem] theorem unp33 : Un.pure 33 = true := rfl
@[go_sem] theorem unf33 {x0 : D} : Un.pf 33 [x0] = .b (twoB (zon1 x0)) := rfl
@[go_sem] theorem unp34 : Un.pure 34 = true := rfl
@[go_sem] theorem unf34 {x0 : D} : Un.pf 34 [x0] = .b (threeB (zon1 x0)) := rfl
@[go_sem] theorem unp151 : Un.pure 151 = true := rfl
@[go_sem] theorem unf151 {x0 : D} : Un.pf 151 [x0] = .list false ((cutsF (zon1 x0)).map sR) := rfl
@[go_sem] theorem unp121 : Un.pure 121 = true := rfl
@[go_sem] theorem unf121 {x0 : D} : Un.pf 121 [x0] = .list false ((highF (zon1 x0)).map sR) := rfl
@[go_sem] theorem unp87 : Un.pure 87 = true := rfl
@[go_sem] theorem unf87 {x0 : D} : Un.pf 87 [x0] = .list false ((behR (zon1 x0)).map sR) := rfl
@[go_sem] theorem unp35 : Un.pure 35 = true := rfl
@[go_sem] theorem unf35 {x0 : D} : Un.pf 35 [x0] = .b (fourB (zon1 x0)) := rfl
@[go_sem] theorem unp88 : Un.pure 88 = true := rfl
@[go_sem] theorem unf88 {x0 : D} : Un.pf 88 [x0] = .list false ((ownF (zon1 x0)).map bR) := rfl
@[go_sem] theorem unp36 : Un.pure 36 = true := rfl
@[go_sem] theorem unf36 {x0 : D} : Un.pf 36 [x0] = .b (fiveB (zon1 x0)) := rfl
@[go_sem] theorem unp11 : Un.pure 11 = true := rfl
@[go_sem] theorem unf11 {x0 : D} : Un.pf 11 [x0] = .b (refOk (zon1 x0)) := rfl
@[go_sem] theorem unp17 : Un.pure 17 = true := rfl
@[go_sem] theorem unf17 {x0 : D} : Un.pf 17 [x0] = .i (serialR (zon1 x0)) := rfl
@[go_sem] theorem unp9 : Un.pure 9 = true := rfl
@[go_sem] theorem unf9 {x0 : D} : Un.pf 9 [x0] = .b (fewZ (zon1 x0)) := rfl
@[go_sem] theorem unp65 : Un.pure 65 = true := rfl
@[go_sem] theorem unf65 {x0 : D} : Un.pf 65 [x0] = .b (serB (int1 x0)) := rfl
@[go_sem] theorem unp64 : Un.pure 64 = true := rfl
@[go_sem] theorem unf64 {x0 : D} : Un.pf 64 [x0] = .b (serB (int1 x0)) := rfl
@[go_sem] theorem unp16 : Un.pure 16 = true := rfl
@[go_sem] theorem unf16 {x0 x1 : D} : Un.pf 16 [x0, x1] = .b (befB (int1 x0) (int1 x1)) := rfl
@[go_sem] theorem unp54 : Un.pure 54 = true := rfl
@[go_sem] theorem unf54 {x0 x1 : D} : Un.pf 54 [x0, x1] = .b (befB (int1 x0) (int1 x1)) := rfl
@[go_sem] theorem unp23 : Un.pure 23 = true := rfl
@[go_sem] theorem unf23 {x0 x1 : D} : Un.pf 23 [x0, x1] = .tuple [.b (lessF (int1 x0) (int1 x1)).1, .i (lessF (int1 x0) (int1 x1)).2] := rfl
@[go_sem] theorem unp22 : Un.pure 22 = true := rfl
@[go_sem] theorem unf22 {x0 x1 : D} : Un.pf 22 [x0, x1] = .tuple [.b (lessF (int1 x0) (int1 x1)).1, .i (lessF (int1 x0) (int1 x1)).2] := rfl
@[go_sem] theorem unp25 : Un.pure 25 = true := rfl
@[go_sem] theorem unf25 {x0 : D} : Un.pf 25 [x0] = .tuple [.i (afterF (int1 x0)).1, .i (afterF (int1 x0)).2] := rfl
@[go_sem] theorem unp24 : Un.pure 24 = true := rfl
@[go_sem] theorem unf24 {x0 : D} : Un.pf 24 [x0] = .tuple [.i (afterF (int1 x0)).1, .i (afterF (int1 x0)).2] := rfl
@[go_sem] theorem unp67 : Un.pure 67 = true := rfl
@[go_sem] theorem unf67 {x0 : D} : Un.pf 67 [x0] = .agg (sgd1 x0).q.d := rfl
@[go_sem] theorem unp41 : Un.pure 41 = true := rfl
@[go_sem] theorem unf41 {x0 : D} : Un.pf 41 [x0] = .agg (sgd1 x0).q.d := rfl
@[go_sem] theorem unp112 : Un.pure 112 = true := rfl
@[go_sem] theorem unf112 {x0 x1 : D} : Un.pf 112 [x0, x1] = .i (qO (qst1 x0) (qst1 x1)) := rfl
@[go_sem] theorem unp66 : Un.pure 66 = true := rfl
@[go_sem] theorem unf66 {x0 x1 : D} : Un.pf 66 [x0, x1] = .i (atF (sgds1 x0) (qst1 x1)) := rfl
@[go_sem] theorem unp78 : Un.pure 78 = true := rfl
@[go_sem] theorem unf78 {x0 x1 : D} : Un.pf 78 [x0, x1] = .b (askB (qsts1 x0) (qst1 x1)) := rfl
@[go_sem] theorem unp79 : Un.pure 79 = true := rfl
@[go_sem] theorem unf79 {x0 x1 : D} : Un.pf 79 [x0, x1] = .list false ((sortedF (sgds1 x0) (sgd1 x1)).map Sgd.d) := rfl
@[go_sem] theorem unp80 : Un.pure 80 = true := rfl
@[go_sem] theorem unf80 {x0 x1 : D} : Un.pf 80 [x0, x1] = .list false ((addF (qsts1 x0) (qst1 x1)).map Qst.d) := rfl
@[go_sem] theorem unp77 : Un.pure 77 = true := rfl
@[go_sem] theorem unf77 {x0 : D} : Un.pf 77 [x0] = .b (dltOk (dlt1 x0)) := rfl
@[go_sem] theorem unp27 : Un.pure 27 = true := rfl
@[go_sem] theorem unf27 {x0 x1 : D} : Un.pf 27 [x0, x1] = .b (sameD (dlt1 x0) (dlt1 x1)) := rfl
@[go_sem] theorem unp10 : Un.pure 10 = true := rfl
@[go_sem] theorem unf10 {x0 : D} : Un.pf 10 [x0] = .b (fewD (dlt1 x0)) := rfl
@[go_sem] theorem unp21 : Un.pure 21 = true := rfl
@[go_sem] theorem unf21 {x0 x1 x2 x3 : D} : Un.pf 21 [x0, x1, x2, x3] = .b (fewAll (zon1 x0) (zon1 x1) (dlt1 x2) (dlt1 x3)) := rfl
@[go_sem] theorem unp26 : Un.pure 26 = true := rfl
@[go_sem] theorem unf26 {x0 x1 : D} : Un.pf 26 [x0, x1] = .tuple [.agg (diffR (zon1 x0) (zon1 x1)).1.d, .i (diffR (zon1 x0) (zon1 x1)).2] := rfl
@[go_sem] theorem unp30 : Un.pure 30 = true := rfl
@[go_sem] theorem unf30 {x0 x1 : D} : Un.pf 30 [x0, x1] = .tuple [.agg (applyR (zon1 x0) (dlt1 x1)).1.d, .i (applyR (zon1 x0) (dlt1 x1)).2] := rfl
@[go_sem] theorem unp29 : Un.pure 29 = true := rfl
@[go_sem] theorem unf29 {x0 x1 : D} : Un.pf 29 [x0, x1] = .tuple [.agg (joinR (dlt1 x0) (dlt1 x1)).1.d, .i (joinR (dlt1 x0) (dlt1 x1)).2] := rfl
@[go_sem] theorem unp31 : Un.pure 31 = true := rfl
@[go_sem] theorem unf31 {x0 x1 : D} : Un.pf 31 [x0, x1] = .agg (smallZ (int1 x0) (str1 x1)).d := rfl
@[go_sem] theorem unp97 : Un.pure 97 = true := rfl
@[go_sem] theorem unf97 {x0 : D} : Un.pf 97 [x0] = .list false ((dats1 x0).map Dat.d) := rfl
@[go_sem] theorem unp98 : Un.pure 98 = true := rfl
@[go_sem] theorem unf98 {x0 : D} : Un.pf 98 [x0] = .list false ((sigs1 x0).map RSig.d) := rfl
@[go_sem] theorem unp45 : Un.pure 45 = true := rfl
@[go_sem] theorem unf45 {x0 : D} : Un.pf 45 [x0] = .agg (sgd1 x0).d := rfl
@[go_sem] theorem unp62 : Un.pure 62 = true := rfl
@[go_sem] theorem unf62 {x0 : D} : Un.pf 62 [x0] = .agg (sgd1 x0).d := rfl
@[go_sem] theorem unp19 : Un.pure 19 = true := rfl
@[go_sem] theorem unf19 {x0 x1 : D} : Un.pf 19 [x0, x1] = .tuple [.agg (findR (zon1 x0) (qst1 x1)).1.d, .b (findR (zon1 x0) (qst1 x1)).2.1, .i (findR (zon1 x0) (qst1 x1)).2.2] := rfl
def UnB : Con := { Un with bs := true }
@[go_sem] theorem unB_p {k : FuncId} : UnB.pure k = Un.pure k := rfl
@[go_sem] theorem unB_f {k : FuncId} {xs : List D} : UnB.pf k xs = Un.pf k xs := rfl
@[go_sem] theorem unB_b : UnB.bs = true := rfl
@[go_sem] theorem un_b : Un.bs = false := rfl
@[go_sem] theorem un_c : Un.cf = false := rfl
@[go_sem] theorem unB_c : UnB.cf = false := rfl
def UnF : Con := { Un with cf := true }
@[go_sem] theorem unF_p {k : FuncId} : UnF.pure k = Un.pure k := rfl
@[go_sem] theorem unF_f {k : FuncId} {xs : List D} : UnF.pf k xs = Un.pf k xs := rfl
@[go_sem] theorem unF_b : UnF.bs = false := rfl
@[go_sem] theorem unF_c : UnF.cf = true := rfl
end Go.Proofs.YtfggmgafjabbjaaGreatDoor
namespace Go.Proofs.YtfggmgafjabbjaaGreatDoor
open Go.DL Go.Str Go.Rec Go.Cmp Go.Zon
set_option maxRecDepth 10000
set_option linter.unusedSimpArgs false
set_option linter.unusedVariables false
@[go_sem] theorem all_dat6 {l : List Dat} : (∀ r ∈ l.map Dat.d, r.length = 3) = True := by
  apply eq_true
  intro r hr
  obtain ⟨x, _, rfl⟩ := List.mem_map.1 hr
  rfl
theorem bo97 : hasBody Tryz.prog 97 = true := by kernel_rfl
theorem clonedat_ct (l : List Dat) (hl : l.length ≤ 1000000) : PureCt Tryz.prog 97 [.list false (l.map Dat.d)] (.list false (l.map Dat.d)) := by
  refine pure_of_dw Tryz.func97 rfl bo97 (by simp [go_sem, D.nr, nrs, nrr]) (by simp [Tryz.f97]) ?_
  unfold Tryz.f97
  simp only [init_eq]
  have ff := True.intro
  refine stp Un ?_
  refine dw_seq ?_
  refine dw_seq (dw_seg ?_)
  refine seg_eqnil (C := Un) 1 (e := 78) (by omega) (arr_at rfl) rfl rfl (by kernel_rfl) (by simp only [List.drop_succ_cons, List.drop_zero, List.take_succ_cons, List.take_zero, S.put, Nat.sub_self, go_sem, ff]; exact rfl) ?_ (by rfl) (by simp only [go_sem, ff]; exact rfl) (fun y hy => ?_)
  · try simp only [go_sem, ff]
    all_goals (first | done | (repeat' (with_reducible apply And.intro)) <;> first | omega | (with_reducible assumption) | (intros; omega) | (intros; simp only [decide_eq_true_eq, decide_eq_false_iff_not, Bool.or_eq_true, Bool.and_eq_true, Bool.or_eq_false_iff, Bool.not_eq_true', Bool.not_eq_false'] at *; omega) | (simp_all; done) | (simp_all; omega))
  refine seg_done (C := Un) (by first | decide | simp) (by simp only [List.drop_succ_cons, List.drop_zero, List.take_succ_cons, List.take_zero, S.put, Nat.sub_self, go_sem, ff]; exact rfl) ?_ rfl ?_
  · try simp only [go_sem, ff]
    all_goals (first | done | (repeat' (with_reducible apply And.intro)) <;> first | omega | (with_reducible assumption) | (intros; omega) | (intros; simp only [decide_eq_true_eq, decide_eq_false_iff_not, Bool.or_eq_true, Bool.and_eq_true, Bool.or_eq_false_iff, Bool.not_eq_true', Bool.not_eq_false'] at *; omega) | (simp_all; done) | (simp_all; omega))
  try simp only [clear_eq]
  refine cd (fun c1 => ?_) (fun c1 => ?_) (hp := rfl) (hq := rfl)
  · skip
    have hn : l = [] := List.map_eq_nil_iff.1 (hy c1)
    subst hn
    refine stp Un ?_
    refine dw_ret ?_
    exact fin 1 (hr := by (try simp only [go_sem, ff]); all_goals (rfl))
  · skip
    refine dw_skip ?_
    show DW _ _ _ _ _
    refine stp Un ?_
    refine dw_ret ?_
    exact fin 1 (hr := by (try simp only [go_sem, ff]); all_goals (rfl))
theorem bo98 : hasBody Tryz.prog 98 = true := by kernel_rfl
theorem clonesig_ct (l : List RSig) (hl : l.length ≤ 1000000) : PureCt Tryz.prog 98 [.list false (l.map RSig.d)] (.list false (l.map RSig.d)) := by
  refine pure_of_dw Tryz.func98 rfl bo98 (by simp [go_sem, D.nr, nrs, nrr]) (by simp [Tryz.f98]) ?_
  unfold Tryz.f98
  simp only [init_eq]
  have ff := True.intro
  refine stp Un ?_
  refine dw_seq ?_
  refine dw_seq (dw_seg ?_)
  refine seg_eqnil (C := Un) 1 (e := 91) (by omega) (arr_at rfl) rfl rfl (by kernel_rfl) (by simp only [List.drop_succ_cons, List.drop_zero, List.take_succ_cons, List.take_zero, S.put, Nat.sub_self, go_sem, ff]; exact rfl) ?_ (by rfl) (by simp only [go_sem, ff]; exact rfl) (fun y hy => ?_)
  · try simp only [go_sem, ff]
    all_goals (first | done | (repeat' (with_reducible apply And.intro)) <;> first | omega | (with_reducible assumption) | (intros; omega) | (intros; simp only [decide_eq_true_eq, decide_eq_false_iff_not, Bool.or_eq_true, Bool.and_eq_true, Bool.or_eq_false_iff, Bool.not_eq_true', Bool.not_eq_false'] at *; omega) | (simp_all; done) | (simp_all; omega))
  refine seg_done (C := Un) (by first | decide | simp) (by simp only [List.drop_succ_cons, List.drop_zero, List.take_succ_cons, List.take_zero, S.put, Nat.sub_self, go_sem, ff]; exact rfl) ?_ rfl ?_
  · try simp only [go_sem, ff]
    all_goals (first | done | (repeat' (with_reducible apply And.intro)) <;> first | omega | (with_reducible assumption) | (intros; omega) | (intros; simp only [decide_eq_true_eq, decide_eq_false_iff_not, Bool.or_eq_true, Bool.and_eq_true, Bool.or_eq_false_iff, Bool.not_eq_true', Bool.not_eq_false'] at *; omega) | (simp_all; done) | (simp_all; omega))
  try simp only [clear_eq]
  refine cd (fun c1 => ?_) (fun c1 => ?_) (hp := rfl) (hq := rfl)
  · skip
    have hn : l = [] := List.map_eq_nil_iff.1 (hy c1)
    subst hn
    refine stp Un ?_
    refine dw_ret ?_
    exact fin 1 (hr := by (try simp only [go_sem, ff]); all_goals (rfl))
  · skip
    refine dw_skip ?_
    show DW _ _ _ _ _
    refine stp Un ?_
    refine dw_ret ?_
    exact fin 1 (hr := by (try simp only [go_sem, ff]); all_goals (rfl))
theorem bo45 : hasBody Tryz.prog 45 = true := by kernel_rfl
theorem dclone_ct (s : Sgd) (hs : fit1 s) : PureCt Tryz.prog 45 [.agg s.d] (.agg s.d) := by
  refine pure_of_dw Tryz.func45 rfl bo45 (by simp [go_sem, D.nr, nrs, nrr]) (by simp [Tryz.f45]) ?_
  unfold Tryz.f45
  simp only [init_eq]
  have ff := True.intro
  refine stp Un ?_
  refine stp Un ?_ (hok := by (try simp only [go_sem, ff]); all_goals (exact clonedat_ct _ (Nat.le_trans hs.1 (by omega))))
  refine stp Un ?_ (hok := by (try simp only [go_sem, ff]); all_goals (exact clonesig_ct _ (Nat.le_trans hs.2 (by omega))))
  refine stp Un ?_
  refine dw_ret ?_
  exact fin 2 (hr := by (try simp only [go_sem, ff]); all_goals (rfl))
theorem bo62 : hasBody Tryz.prog 62 = true := by kernel_rfl
theorem zclone_ct (s : Sgd) (hs : fit1 s) : PureCt Tryz.prog 62 [.agg s.d] (.agg s.d) := by
  refine pure_of_dw Tryz.func62 rfl bo62 (by simp [go_sem, D.nr, nrs, nrr]) (by simp [Tryz.f62]) ?_
  unfold Tryz.f62
  simp only [init_eq]
  have ff := True.intro
  refine stp Un ?_
  refine stp Un ?_ (hok := by (try simp only [go_sem, ff]); all_goals (exact clonedat_ct _ (Nat.le_trans hs.1 (by omega))))
  refine stp Un ?_ (hok := by (try simp only [go_sem, ff]); all_goals (exact clonesig_ct _ (Nat.le_trans hs.2 (by omega))))
  refine stp Un ?_
  refine dw_ret ?_
  exact fin 2 (hr := by (try simp only [go_sem, ff]); all_goals (rfl))
theorem bo19 : hasBody Tryz.prog 19 = true := by kernel_rfl
theorem zfindF_ct (z : Zon) (q : Qst) (hf : fitL z.sets) : PureCt Tryz.prog 19 [.agg z.d, .agg q.d] (.tuple [.agg (findR z q).1.d, .b (findR z q).2.1, .i (findR z q).2.2]) := by
  refine pure_of_dw Tryz.func19 rfl bo19 (by simp [go_sem, D.nr, nrs, nrr]) (by simp [Tryz.f19]) ?_
  unfold Tryz.f19
  simp only [init_eq]
  have ff := True.intro
  refine stp Un ?_
  refine dw_seq ?_
  refine stp Un ?_ (hok := by (try simp only [go_sem, ff]); all_goals (first | done | ((repeat' (with_reducible apply And.intro)) <;> first | exact zquest_ct _ | (intros; exact zquest_ct _) | exact (fun _ => zvalid_ct _) | (intros; exact (fun _ => zvalid_ct _)) | skip)))
  refine cd (fun c1 => ?_) (fun c1 => ?_)
  · skip
    refine stp Un ?_
    refine dw_ret ?_
    exact fin 2 (hr := by (try simp only [go_sem, ff]); all_goals (rw [findR, if_neg (by simp only [Bool.and_eq_true]; grind)]; try rfl))
  · skip
    refine dw_skip ?_
    show DW _ _ _ _ _
    refine stp Un ?_ (hok := by (try simp only [go_sem, ff]); all_goals (exact zfind_ct z q hf.1))
    refine dw_seq ?_
    refine stp Un ?_
    refine cd (fun c2 => ?_) (fun c2 => ?_)
    · skip
      refine stp Un ?_
      refine dw_ret ?_
      exact fin 2 (hr := by (try simp only [go_sem, ff]); all_goals (rw [findR, if_pos (by simp only [Bool.and_eq_true]; grind), if_neg (by simp [c2])]; try rfl))
    · skip
      refine dw_skip ?_
      show DW _ _ _ _ _
      have h9 : findIx z.sets q < z.sets.length := by simp only [findOk, Bool.and_eq_true, decide_eq_true_eq] at c2; exact c2.1
      have ff := And.intro (getD_sgd h9) ff
      refine stp Un ?_ (hok := by (try simp only [go_sem, ff]); all_goals (first | done | ((repeat' (with_reducible apply And.intro)) <;> first | exact zclone_ct z.sets[findIx z.sets q]! (hf.2 _ h9) | (intros; exact zclone_ct z.sets[findIx z.sets q]! (hf.2 _ h9)) | omega | skip)))
      refine dw_ret ?_
      exact fin 2 (hr := by (try simp only [go_sem, ff]); all_goals (rw [findR, if_pos (by simp only [Bool.and_eq_true]; grind), if_pos c2]; try rfl))

end Go.Proofs.YtfggmgafjabbjaaGreatDoor
/-
  MADE BY A PROGRAM OF MINE: what the functions that leave memory alone give. Conditions: none.
-/
namespace Go.Proofs.YtfggmgafjabbjaaGreatDoor
open Go.DL Go.Str Go.Rec Go.Zon
set_option linter.unusedVariables false
def Tn : Con where
  pure := fun k => [176, 169, 153, 114, 113, 81, 123, 90, 115, 171, 155, 122, 120, 125, 127, 172, 116, 156, 173, 126, 159, 124, 91, 128, 110, 157, 150, 119, 129, 118, 158, 130, 93, 83, 117, 85, 63, 165, 141, 102, 84, 82, 101, 92, 103, 86, 104, 89, 61, 111, 20, 60, 18, 100, 99, 46, 47, 48, 50, 51, 52, 53, 49, 14, 13, 59, 32, 33, 34, 151, 121, 87, 35, 88, 36, 11, 17, 9, 65, 64, 16, 54, 23, 22, 25, 24, 67, 41, 112, 66, 78, 79, 80, 77, 27, 10, 21, 26, 30, 29, 31, 97, 98, 45, 62, 19].contains k
  pf := fun k xs => match k, xs with
    | 176, [x0, x1] => .i (lastIx (str1 x0) (int1 x1))
    | 169, [x0, x1] => .i (lastIx (str1 x0) (int1 x1))
    | 153, [x0] => .b (labelOk (str1 x0))
    | 114, [x0] => .b (labelOk (str1 x0))
    | 113, [x0] => .list false ((splitF (str1 x0)).map sR)
    | 81, [x0] => .b (nameOk (str1 x0))
    | 123, [x0] => .b (nameOk (str1 x0))
    | 90, [x0] => .b (nameOk (str1 x0))
    | 115, [x0] => .list false ((partsOf (str1 x0)).map sR)
    | 171, [x0, x1] => .i (Go.Lib.compareBytes (str1 x0) (str1 x1))
    | 155, [x0, x1] => .i (Go.Lib.compareBytes (str1 x0) (str1 x1))
    | 122, [x0, x1] => .i (nmOrd (str1 x0) (str1 x1))
    | 120, [x0, x1] => .tuple [.i (if nameOk (str1 x0) && nameOk (str1 x1) then nmCmp (str1 x0) (str1 x1) else 0), .i (if nameOk (str1 x0) && nameOk (str1 x1) then 0 else 11)]
    | 125, [x0, x1] => .tuple [.i (if nameOk (str1 x0) && nameOk (str1 x1) then nmCmp (str1 x0) (str1 x1) else 0), .i (if nameOk (str1 x0) && nameOk (str1 x1) then 0 else 11)]
    | 127, [x0, x1, x2] => .b (inR (int1 x0) (int1 x1) (int1 x2))
    | 172, [x0, x1, x2] => .b (inR (int1 x0) (int1 x1) (int1 x2))
    | 116, [x0, x1, x2] => .b (inR (int1 x0) (int1 x1) (int1 x2))
    | 156, [x0] => .b ((int1 x0) != (int1 x0))
    | 173, [x0] => .b ((str1 x0) != (str1 x0))
    | 126, [x0, x1] => .i (cmpI (int1 x0) (int1 x1))
    | 159, [x0, x1] => .i (cmpS (str1 x0) (str1 x1))
    | 124, [x0, x1] => .b (hasPre (str1 x0) (str1 x1))
    | 91, [x0, x1] => .b (hasPre (str1 x0) (str1 x1))
    | 128, [x0] => .b (wildB (str1 x0))
    | 110, [x0] => .b (wildB (str1 x0))
    | 157, [x0] => .b (freeB (str1 x0))
    | 150, [x0] => .b (freeB (str1 x0))
    | 119, [x0, x1] => .b (less (dat1 x0) (dat1 x1))
    | 129, [x0, x1] => .b (datOk (rule1 x0) (dat1 x1))
    | 118, [x0, x1] => .b (rDatOk (int1 x0) (dat1 x1))
    | 158, [x0] => .i (orFrom (ints1 x0) 0)
    | 130, [x0, x1] => .i (datC (dat1 x0) (dat1 x1))
    | 93, [x0] => .b (setOk (set1 x0))
    | 83, [x0] => .b (setOk (set1 x0))
    | 117, [x0] => .b (singleB (int1 x0))
    | 85, [x0, x1] => .i (rOrd (set1 x0) (set1 x1))
    | 63, [x0, x1] => .b (sameB (set1 x0) (set1 x1))
    | 165, [x0, x1] => .b (hasSuf (str1 x0) (str1 x1))
    | 141, [x0, x1] => .b (hasSuf (str1 x0) (str1 x1))
    | 102, [x0, x1] => .tuple [.b (underV (str1 x0) (str1 x1)), .i (if nameOk (str1 x0) && nameOk (str1 x1) then 0 else 11)]
    | 84, [x0, x1] => .b (inB (str1 x0) (str1 x1))
    | 82, [x0] => .b (wild1 (str1 x0))
    | 101, [x0, x1, x2, x3] => .i (qC ⟨(str1 x0), (int1 x1)⟩ ⟨(str1 x2), (int1 x3)⟩)
    | 92, [x0, x1] => .i (qC (qst1 x0) (qst1 x1))
    | 103, [x0, x1] => .b (fits (int1 x0) (bool1 x1))
    | 86, [x0, x1] => .b (fits (int1 x0) (bool1 x1))
    | 104, [x0, x1] => .b (sigsOk (sigs1 x0) (str1 x1))
    | 89, [x0, x1] => .b (sigsOk (sigs1 x0) (str1 x1))
    | 61, [x0] => .b (qOk (qst1 x0))
    | 111, [x0] => .b (qOk (qst1 x0))
    | 20, [x0, x1] => .b (sameSgd (sgd1 x0) (sgd1 x1))
    | 60, [x0, x1] => .b (sameList (sgds1 x0) (sgds1 x1))
    | 18, [x0, x1] => .b (sameZ (zon1 x0) (zon1 x1))
    | 100, [x0, x1] => .i (qC (sgd1 x0).q (qst1 x1))
    | 99, [x0, x1, x2] => .tuple [.i (findIx (sgds1 x0) (qst1 x1)), .b (findOk (sgds1 x0) (qst1 x1))]
    | 46, [x0, x1] => .tuple [.i (findIx (zon1 x0).sets (qst1 x1)), .b (findOk (zon1 x0).sets (qst1 x1))]
    | 47, [x0] => .b (ordered (zon1 x0))
    | 48, [x0] => .b (apexHolds (zon1 x0))
    | 50, [x0] => .b (aliasB (lay1 x0))
    | 51, [x0] => .b (cutB (lay1 x0))
    | 52, [x0] => .b (glueB (lay1 x0))
    | 53, [x0] => .b (formB (lay1 x0))
    | 49, [x0] => .agg (layOf (zon1 x0)).d
    | 14, [x0] => .b (zoneOk (zon1 x0))
    | 13, [x0] => .tuple [.i (if zoneOk (zon1 x0) then serialOf (zon1 x0) else 0), .i (if zoneOk (zon1 x0) then 0 else 1)]
    | 59, [x0, x1] => .i (atF (zon1 x0).sets (qst1 x1))
    | 32, [x0] => .b (oneB (zon1 x0))
    | 33, [x0] => .b (twoB (zon1 x0))
    | 34, [x0] => .b (threeB (zon1 x0))
    | 151, [x0] => .list false ((cutsF (zon1 x0)).map sR)
    | 121, [x0] => .list false ((highF (zon1 x0)).map sR)
    | 87, [x0] => .list false ((behR (zon1 x0)).map sR)
    | 35, [x0] => .b (fourB (zon1 x0))
    | 88, [x0] => .list false ((ownF (zon1 x0)).map bR)
    | 36, [x0] => .b (fiveB (zon1 x0))
    | 11, [x0] => .b (refOk (zon1 x0))
    | 17, [x0] => .i (serialR (zon1 x0))
    | 9, [x0] => .b (fewZ (zon1 x0))
    | 65, [x0] => .b (serB (int1 x0))
    | 64, [x0] => .b (serB (int1 x0))
    | 16, [x0, x1] => .b (befB (int1 x0) (int1 x1))
    | 54, [x0, x1] => .b (befB (int1 x0) (int1 x1))
    | 23, [x0, x1] => .tuple [.b (lessF (int1 x0) (int1 x1)).1, .i (lessF (int1 x0) (int1 x1)).2]
    | 22, [x0, x1] => .tuple [.b (lessF (int1 x0) (int1 x1)).1, .i (lessF (int1 x0) (int1 x1)).2]
    | 25, [x0] => .tuple [.i (afterF (int1 x0)).1, .i (afterF (int1 x0)).2]
    | 24, [x0] => .tuple [.i (afterF (int1 x0)).1, .i (afterF (int1 x0)).2]
    | 67, [x0] => .agg (sgd1 x0).q.d
    | 41, [x0] => .agg (sgd1 x0).q.d
    | 112, [x0, x1] => .i (qO (qst1 x0) (qst1 x1))
    | 66, [x0, x1] => .i (atF (sgds1 x0) (qst1 x1))
    | 78, [x0, x1] => .b (askB (qsts1 x0) (qst1 x1))
    | 79, [x0, x1] => .list false ((sortedF (sgds1 x0) (sgd1 x1)).map Sgd.d)
    | 80, [x0, x1] => .list false ((addF (qsts1 x0) (qst1 x1)).map Qst.d)
    | 77, [x0] => .b (dltOk (dlt1 x0))
    | 27, [x0, x1] => .b (sameD (dlt1 x0) (dlt1 x1))
    | 10, [x0] => .b (fewD (dlt1 x0))
    | 21, [x0, x1, x2, x3] => .b (fewAll (zon1 x0) (zon1 x1) (dlt1 x2) (dlt1 x3))
    | 26, [x0, x1] => .tuple [.agg (diffR (zon1 x0) (zon1 x1)).1.d, .i (diffR (zon1 x0) (zon1 x1)).2]
    | 30, [x0, x1] => .tuple [.agg (applyR (zon1 x0) (dlt1 x1)).1.d, .i (applyR (zon1 x0) (dlt1 x1)).2]
    | 29, [x0, x1] => .tuple [.agg (joinR (dlt1 x0) (dlt1 x1)).1.d, .i (joinR (dlt1 x0) (dlt1 x1)).2]
    | 31, [x0, x1] => .agg (smallZ (int1 x0) (str1 x1)).d
    | 97, [x0] => .list false ((dats1 x0).map Dat.d)
    | 98, [x0] => .list false ((sigs1 x0).map RSig.d)
    | 45, [x0] => .agg (sgd1 x0).d
    | 62, [x0] => .agg (sgd1 x0).d
    | 19, [x0, x1] => .tuple [.agg (findR (zon1 x0) (qst1 x1)).1.d, .b (findR (zon1 x0) (qst1 x1)).2.1, .i (findR (zon1 x0) (qst1 x1)).2.2]
    | _, _ => .junk
@[go_sem] theorem tnp176 : Tn.pure 176 = true := rfl
@[go_sem] theorem tnf176 {x0 x1 : D} : Tn.pf 176 [x0, x1] = .i (lastIx (str1 x0) (int1 x1)) := rfl
@[go_sem] theorem tnp169 : Tn.pure 169 = true := rfl
@[go_sem] theorem tnf169 {x0 x1 : D} : Tn.pf 169 [x0, x1] = .i (lastIx (str1 x0) (int1 x1)) := rfl
@[go_sem] theorem tnp153 : Tn.pure 153 = true := rfl
@[go_sem] theorem tnf153 {x0 : D} : Tn.pf 153 [x0] = .b (labelOk (str1 x0)) := rfl
@[go_sem] theorem tnp114 : Tn.pure 114 = true := rfl
@[go_sem] theorem tnf114 {x0 : D} : Tn.pf 114 [x0] = .b (labelOk (str1 x0)) := rfl
@[go_sem] theorem tnp113 : Tn.pure 113 = true := rfl
@[go_sem] theorem tnf113 {x0 : D} : Tn.pf 113 [x0] = .list false ((splitF (str1 x0)).map sR) := rfl
@[go_sem] theorem tnp81 : Tn.pure 81 = true := rfl
@[go_sem] theorem tnf81 {x0 : D} : Tn.pf 81 [x0] = .b (nameOk (str1 x0)) := rfl
@[go_sem] theorem tnp123 : Tn.pure 123 = true := rfl
@[go_sem] theorem tnf123 {x0 : D} : Tn.pf 123 [x0] = .b (nameOk (str1 x0)) := rfl
@[go_sem] theorem tnp90 : Tn.pure 90 = true := rfl
@[go_sem] theorem tnf90 {x0 : D} : Tn.pf 90 [x0] = .b (nameOk (str1 x0)) := rfl
@[go_sem] theorem tnp115 : Tn.pure 115 = true := rfl
@[go_sem] theorem tnf115 {x0 : D} : Tn.pf 115 [x0] = .list false ((partsOf (str1 x0)).map sR) := rfl
@[go_sem] theorem tnp171 : Tn.pure 171 = true := rfl
@[go_sem] theorem tnf171 {x0 x1 : D} : Tn.pf 171 [x0, x1] = .i (Go.Lib.compareBytes (str1 x0) (str1 x1)) := rfl
@[go_sem] theorem tnp155 : Tn.pure 155 = true := rfl
@[go_sem] theorem tnf155 {x0 x1 : D} : Tn.pf 155 [x0, x1] = .i (Go.Lib.compareBytes (str1 x0) (str1 x1)) := rfl
@[go_sem] theorem tnp122 : Tn.pure 122 = true := rfl
@[go_sem] theorem tnf122 {x0 x1 : D} : Tn.pf 122 [x0, x1] = .i (nmOrd (str1 x0) (str1 x1)) := rfl
@[go_sem] theorem tnp120 : Tn.pure 120 = true := rfl
@[go_sem] theorem tnf120 {x0 x1 : D} : Tn.pf 120 [x0, x1] = .tuple [.i (if nameOk (str1 x0) && nameOk (str1 x1) then nmCmp (str1 x0) (str1 x1) else 0), .i (if nameOk (str1 x0) && nameOk (str1 x1) then 0 else 11)] := rfl
@[go_sem] theorem tnp125 : Tn.pure 125 = true := rfl
@[go_sem] theorem tnf125 {x0 x1 : D} : Tn.pf 125 [x0, x1] = .tuple [.i (if nameOk (str1 x0) && nameOk (str1 x1) then nmCmp (str1 x0) (str1 x1) else 0), .i (if nameOk (str1 x0) && nameOk (str1 x1) then 0 else 11)] := rfl
@[go_sem] theorem tnp127 : Tn.pure 127 = true := rfl
@[go_sem] theorem tnf127 {x0 x1 x2 : D} : Tn.pf 127 [x0, x1, x2] = .b (inR (int1 x0) (int1 x1) (int1 x2)) := rfl
@[go_sem] theorem tnp172 : Tn.pure 172 = true := rfl
@[go_sem] theorem tnf172 {x0 x1 x2 : D} : Tn.pf 172 [x0, x1, x2] = .b (inR (int1 x0) (int1 x1) (int1 x2)) := rfl
@[go_sem] theorem tnp116 : Tn.pure 116 = true := rfl
@[go_sem] theorem tnf116 {x0 x1 x2 : D} : Tn.pf 116 [x0, x1, x2] = .b (inR (int1 x0) (int1 x1) (int1 x2)) := rfl
@[go_sem] theorem tnp156 : Tn.pure 156 = true := rfl
@[go_sem] theorem tnf156 {x0 : D} : Tn.pf 156 [x0] = .b ((int1 x0) != (int1 x0)) := rfl
@[go_sem] theorem tnp173 : Tn.pure 173 = true := rfl
@[go_sem] theorem tnf173 {x0 : D} : Tn.pf 173 [x0] = .b ((str1 x0) != (str1 x0)) := rfl
@[go_sem] theorem tnp126 : Tn.pure 126 = true := rfl
@[go_sem] theorem tnf126 {x0 x1 : D} : Tn.pf 126 [x0, x1] = .i (cmpI (int1 x0) (int1 x1)) := rfl
@[go_sem] theorem tnp159 : Tn.pure 159 = true := rfl
@[go_sem] theorem tnf159 {x0 x1 : D} : Tn.pf 159 [x0, x1] = .i (cmpS (str1 x0) (str1 x1)) := rfl
@[go_sem] theorem tnp124 : Tn.pure 124 = true := rfl
@[go_sem] theorem tnf124 {x0 x1 : D} : Tn.pf 124 [x0, x1] = .b (hasPre (str1 x0) (str1 x1)) := rfl
@[go_sem] theorem tnp91 : Tn.pure 91 = true := rfl
@[go_sem] theorem tnf91 {x0 x1 : D} : Tn.pf 91 [x0, x1] = .b (hasPre (str1 x0) (str1 x1)) := rfl
@[go_sem] theorem tnp128 : Tn.pure 128 = true := rfl
@[go_sem] theorem tnf128 {x0 : D} : Tn.pf 128 [x0] = .b (wildB (str1 x0)) := rfl
@[go_sem] theorem tnp110 : Tn.pure 110 = true := rfl
@[go_sem] theorem tnf110 {x0 : D} : Tn.pf 110 [x0] = .b (wildB (str1 x0)) := rfl
@[go_sem] theorem tnp157 : Tn.pure 157 = true := rfl
@[go_sem] theorem tnf157 {x0 : D} : Tn.pf 157 [x0] = .b (freeB (str1 x0)) := rfl
@[go_sem] theorem tnp150 : Tn.pure 150 = true := rfl
@[go_sem] theorem tnf150 {x0 : D} : Tn.pf 150 [x0] = .b (freeB (str1 x0)) := rfl
@[go_sem] theorem tnp119 : Tn.pure 119 = true := rfl
@[go_sem] theorem tnf119 {x0 x1 : D} : Tn.pf 119 [x0, x1] = .b (less (dat1 x0) (dat1 x1)) := rfl
@[go_sem] theorem tnp129 : Tn.pure 129 = true := rfl
@[go_sem] theorem tnf129 {x0 x1 : D} : Tn.pf 129 [x0, x1] = .b (datOk (rule1 x0) (dat1 x1)) := rfl
@[go_sem] theorem tnp118 : Tn.pure 118 = true := rfl
@[go_sem] theorem tnf118 {x0 x1 : D} : Tn.pf 118 [x0, x1] = .b (rDatOk (int1 x0) (dat1 x1)) := rfl
@[go_sem] theorem tnp158 : Tn.pure 158 = true := rfl
@[go_sem] theorem tnf158 {x0 : D} : Tn.pf 158 [x0] = .i (orFrom (ints1 x0) 0) := rfl
@[go_sem] theorem tnp130 : Tn.pure 130 = true := rfl
@[go_sem] theorem tnf130 {x0 x1 : D} : Tn.pf 130 [x0, x1] = .i (datC (dat1 x0) (dat1 x1)) := rfl
@[go_sem] theorem tnp93 : Tn.pure 93 = true := rfl
@[go_sem] theorem tnf93 {x0 : D} : Tn.pf 93 [x0] = .b (setOk (set1 x0)) := rfl
@[go_sem] theorem tnp83 : Tn.pure 83 = true := rfl
@[go_sem] theorem tnf83 {x0 : D} : Tn.pf 83 [x0] = .b (setOk (set1 x0)) := rfl
@[go_sem] theorem tnp117 : Tn.pure 117 = true := rfl
@[go_sem] theorem tnf117 {x0 : D} : Tn.pf 117 [x0] = .b (singleB (int1 x0)) := rfl
@[go_sem] theorem tnp85 : Tn.pure 85 = true := rfl
@[go_sem] theorem tnf85 {x0 x1 : D} : Tn.pf 85 [x0, x1] = .i (rOrd (set1 x0) (set1 x1)) := rfl
@[go_sem] theorem tnp63 : Tn.pure 63 = true := rfl
@[go_sem] theorem tnf63 {x0 x1 : D} : Tn.pf 63 [x0, x1] = .b (sameB (set1 x0) (set1 x1)) := rfl
@[go_sem] theorem tnp165 : Tn.pure 165 = true := rfl
@[go_sem] theorem tnf165 {x0 x1 : D} : Tn.pf 165 [x0, x1] = .b (hasSuf (str1 x0) (str1 x1)) := rfl
@[go_sem] theorem tnp141 : Tn.pure 141 = true := rfl
@[go_sem] theorem tnf141 {x0 x1 : D} : Tn.pf 141 [x0, x1] = .b (hasSuf (str1 x0) (str1 x1)) := rfl
@[go_sem] theorem tnp102 : Tn.pure 102 = true := rfl
@[go_sem] theorem tnf102 {x0 x1 : D} : Tn.pf 102 [x0, x1] = .tuple [.b (underV (str1 x0) (str1 x1)), .i (if nameOk (str1 x0) && nameOk (str1 x1) then 0 else 11)] := rfl
@[go_sem] theorem tnp84 : Tn.pure 84 = true := rfl
@[go_sem] theorem tnf84 {x0 x1 : D} : Tn.pf 84 [x0, x1] = .b (inB (str1 x0) (str1 x1)) := rfl
@[go_sem] theorem tnp82 : Tn.pure 82 = true := rfl
@[go_sem] theorem tnf82 {x0 : D} : Tn.pf 82 [x0] = .b (wild1 (str1 x0)) := rfl
@[go_sem] theorem tnp101 : Tn.pure 101 = true := rfl
@[go_sem] theorem tnf101 {x0 x1 x2 x3 : D} : Tn.pf 101 [x0, x1, x2, x3] = .i (qC ⟨(str1 x0), (int1 x1)⟩ ⟨(str1 x2), (int1 x3)⟩) := rfl
@[go_sem] theorem tnp92 : Tn.pure 92 = true := rfl
@[go_sem] theorem tnf92 {x0 x1 : D} : Tn.pf 92 [x0, x1] = .i (qC (qst1 x0) (qst1 x1)) := rfl
@[go_sem] theorem tnp103 : Tn.pure 103 = true := rfl
@[go_sem] theorem tnf103 {x0 x1 : D} : Tn.pf 103 [x0, x1] = .b (fits (int1 x0) (bool1 x1)) := rfl
@[go_sem] theorem tnp86 : Tn.pure 86 = true := rfl
@[go_sem] theorem tnf86 {x0 x1 : D} : Tn.pf 86 [x0, x1] = .b (fits (int1 x0) (bool1 x1)) := rfl
@[go_sem] theorem tnp104 : Tn.pure 104 = true := rfl
@[go_sem] theorem tnf104 {x0 x1 : D} : Tn.pf 104 [x0, x1] = .b (sigsOk (sigs1 x0) (str1 x1)) := rfl
@[go_sem] theorem tnp89 : Tn.pure 89 = true := rfl
@[go_sem] theorem tnf89 {x0 x1 : D} : Tn.pf 89 [x0, x1] = .b (sigsOk (sigs1 x0) (str1 x1)) := rfl
@[go_sem] theorem tnp61 : Tn.pure 61 = true := rfl
@[go_sem] theorem tnf61 {x0 : D} : Tn.pf 61 [x0] = .b (qOk (qst1 x0)) := rfl
@[go_sem] theorem tnp111 : Tn.pure 111 = true := rfl
@[go_sem] theorem tnf111 {x0 : D} : Tn.pf 111 [x0] = .b (qOk (qst1 x0)) := rfl
@[go_sem] theorem tnp20 : Tn.pure 20 = true := rfl
@[go_sem] theorem tnf20 {x0 x1 : D} : Tn.pf 20 [x0, x1] = .b (sameSgd (sgd1 x0) (sgd1 x1)) := rfl
@[go_sem] theorem tnp60 : Tn.pure 60 = true := rfl
@[go_sem] theorem tnf60 {x0 x1 : D} : Tn.pf 60 [x0, x1] = .b (sameList (sgds1 x0) (sgds1 x1)) := rfl
@[go_sem] theorem tnp18 : Tn.pure 18 = true := rfl
@[go_sem] theorem tnf18 {x0 x1 : D} : Tn.pf 18 [x0, x1] = .b (sameZ (zon1 x0) (zon1 x1)) := rfl
@[go_sem] theorem tnp100 : Tn.pure 100 = true := rfl
@[go_sem] theorem tnf100 {x0 x1 : D} : Tn.pf 100 [x0, x1] = .i (qC (sgd1 x0).q (qst1 x1)) := rfl
@[go_sem] theorem tnp99 : Tn.pure 99 = true := rfl
@[go_sem] theorem tnf99 {x0 x1 x2 : D} : Tn.pf 99 [x0, x1, x2] = .tuple [.i (findIx (sgds1 x0) (qst1 x1)), .b (findOk (sgds1 x0) (qst1 x1))] := rfl
@[go_sem] theorem tnp46 : Tn.pure 46 = true := rfl
@[go_sem] theorem tnf46 {x0 x1 : D} : Tn.pf 46 [x0, x1] = .tuple [.i (findIx (zon1 x0).sets (qst1 x1)), .b (findOk (zon1 x0).sets (qst1 x1))] := rfl
@[go_sem] theorem tnp47 : Tn.pure 47 = true := rfl
@[go_sem] theorem tnf47 {x0 : D} : Tn.pf 47 [x0] = .b (ordered (zon1 x0)) := rfl
@[go_sem] theorem tnp48 : Tn.pure 48 = true := rfl
@[go_sem] theorem tnf48 {x0 : D} : Tn.pf 48 [x0] = .b (apexHolds (zon1 x0)) := rfl
@[go_sem] theorem tnp50 : Tn.pure 50 = true := rfl
@[go_sem] theorem tnf50 {x0 : D} : Tn.pf 50 [x0] = .b (aliasB (lay1 x0)) := rfl
@[go_sem] theorem tnp51 : Tn.pure 51 = true := rfl
@[go_sem] theorem tnf51 {x0 : D} : Tn.pf 51 [x0] = .b (cutB (lay1 x0)) := rfl
@[go_sem] theorem tnp52 : Tn.pure 52 = true := rfl
@[go_sem] theorem tnf52 {x0 : D} : Tn.pf 52 [x0] = .b (glueB (lay1 x0)) := rfl
@[go_sem] theorem tnp53 : Tn.pure 53 = true := rfl
@[go_sem] theorem tnf53 {x0 : D} : Tn.pf 53 [x0] = .b (formB (lay1 x0)) := rfl
@[go_sem] theorem tnp49 : Tn.pure 49 = true := rfl
@[go_sem] theorem tnf49 {x0 : D} : Tn.pf 49 [x0] = .agg (layOf (zon1 x0)).d := rfl
@[go_sem] theorem tnp14 : Tn.pure 14 = true := rfl
@[go_sem] theorem tnf14 {x0 : D} : Tn.pf 14 [x0] = .b (zoneOk (zon1 x0)) := rfl
@[go_sem] theorem tnp13 : Tn.pure 13 = true := rfl
@[go_sem] theorem tnf13 {x0 : D} : Tn.pf 13 [x0] = .tuple [.i (if zoneOk (zon1 x0) then serialOf (zon1 x0) else 0), .i (if zoneOk (zon1 x0) then 0 else 1)] := rfl
@[go_sem] theorem tnp59 : Tn.pure 59 = true := rfl
@[go_sem] theorem tnf59 {x0 x1 : D} : Tn.pf 59 [x0, x1] = .i (atF (zon1 x0).sets (qst1 x1)) := rfl
@[go_sem] theorem tnp32 : Tn.pure 32 = true := rfl
@[go_sem] theorem tnf32 {x0 : D} : Tn.pf 32 [x0] = .b (oneB (zon1 x0)) := rfl
@[go_sem] theorem tnp33 : Tn.pure 33 = true := rfl
@[go_sem] theorem tnf33 {x0 : D} : Tn.pf 33 [x0] = .b (twoB (zon1 x0)) := rfl
@[go_sem] theorem tnp34 : Tn.pure 34 = true := rfl
@[go_sem] theorem tnf34 {x0 : D} : Tn.pf 34 [x0] = .b (threeB (zon1 x0)) := rfl
@[go_sem] theorem tnp151 : Tn.pure 151 = true := rfl
@[go_sem] theorem tnf151 {x0 : D} : Tn.pf 151 [x0] = .list false ((cutsF (zon1 x0)).map sR) := rfl
@[go_sem] theorem tnp121 : Tn.pure 121 = true := rfl
@[go_sem] theorem tnf121 {x0 : D} : Tn.pf 121 [x0] = .list false ((highF (zon1 x0)).map sR) := rfl
@[go_sem] theorem tnp87 : Tn.pure 87 = true := rfl
@[go_sem] theorem tnf87 {x0 : D} : Tn.pf 87 [x0] = .list false ((behR (zon1 x0)).map sR) := rfl
@[go_sem] theorem tnp35 : Tn.pure 35 = true := rfl
@[go_sem] theorem tnf35 {x0 : D} : Tn.pf 35 [x0] = .b (fourB (zon1 x0)) := rfl
@[go_sem] theorem tnp88 : Tn.pure 88 = true := rfl
@[go_sem] theorem tnf88 {x0 : D} : Tn.pf 88 [x0] = .list false ((ownF (zon1 x0)).map bR) := rfl
@[go_sem] theorem tnp36 : Tn.pure 36 = true := rfl
@[go_sem] theorem tnf36 {x0 : D} : Tn.pf 36 [x0] = .b (fiveB (zon1 x0)) := rfl
@[go_sem] theorem tnp11 : Tn.pure 11 = true := rfl
@[go_sem] theorem tnf11 {x0 : D} : Tn.pf 11 [x0] = .b (refOk (zon1 x0)) := rfl
@[go_sem] theorem tnp17 : Tn.pure 17 = true := rfl
@[go_sem] theorem tnf17 {x0 : D} : Tn.pf 17 [x0] = .i (serialR (zon1 x0)) := rfl
@[go_sem] theorem tnp9 : Tn.pure 9 = true := rfl
@[go_sem] theorem tnf9 {x0 : D} : Tn.pf 9 [x0] = .b (fewZ (zon1 x0)) := rfl
@[go_sem] theorem tnp65 : Tn.pure 65 = true := rfl
@[go_sem] theorem tnf65 {x0 : D} : Tn.pf 65 [x0] = .b (serB (int1 x0)) := rfl
@[go_sem] theorem tnp64 : Tn.pure 64 = true := rfl
@[go_sem] theorem tnf64 {x0 : D} : Tn.pf 64 [x0] = .b (serB (int1 x0)) := rfl
@[go_sem] theorem tnp16 : Tn.pure 16 = true := rfl
@[go_sem] theorem tnf16 {x0 x1 : D} : Tn.pf 16 [x0, x1] = .b (befB (int1 x0) (int1 x1)) := rfl
@[go_sem] theorem tnp54 : Tn.pure 54 = true := rfl
@[go_sem] theorem tnf54 {x0 x1 : D} : Tn.pf 54 [x0, x1] = .b (befB (int1 x0) (int1 x1)) := rfl
@[go_sem] theorem tnp23 : Tn.pure 23 = true := rfl
@[go_sem] theorem tnf23 {x0 x1 : D} : Tn.pf 23 [x0, x1] = .tuple [.b (lessF (int1 x0) (int1 x1)).1, .i (lessF (int1 x0) (int1 x1)).2] := rfl
@[go_sem] theorem tnp22 : Tn.pure 22 = true := rfl
@[go_sem] theorem tnf22 {x0 x1 : D} : Tn.pf 22 [x0, x1] = .tuple [.b (lessF (int1 x0) (int1 x1)).1, .i (lessF (int1 x0) (int1 x1)).2] := rfl
@[go_sem] theorem tnp25 : Tn.pure 25 = true := rfl
@[go_sem] theorem tnf25 {x0 : D} : Tn.pf 25 [x0] = .tuple [.i (afterF (int1 x0)).1, .i (afterF (int1 x0)).2] := rfl
@[go_sem] theorem tnp24 : Tn.pure 24 = true := rfl
@[go_sem] theorem tnf24 {x0 : D} : Tn.pf 24 [x0] = .tuple [.i (afterF (int1 x0)).1, .i (afterF (int1 x0)).2] := rfl
@[go_sem] theorem tnp67 : Tn.pure 67 = true := rfl
@[go_sem] theorem tnf67 {x0 : D} : Tn.pf 67 [x0] = .agg (sgd1 x0).q.d := rfl
@[go_sem] theorem tnp41 : Tn.pure 41 = true := rfl
@[go_sem] theorem tnf41 {x0 : D} : Tn.pf 41 [x0] = .agg (sgd1 x0).q.d := rfl
@[go_sem] theorem tnp112 : Tn.pure 112 = true := rfl
@[go_sem] theorem tnf112 {x0 x1 : D} : Tn.pf 112 [x0, x1] = .i (qO (qst1 x0) (qst1 x1)) := rfl
@[go_sem] theorem tnp66 : Tn.pure 66 = true := rfl
@[go_sem] theorem tnf66 {x0 x1 : D} : Tn.pf 66 [x0, x1] = .i (atF (sgds1 x0) (qst1 x1)) := rfl
@[go_sem] theorem tnp78 : Tn.pure 78 = true := rfl
@[go_sem] theorem tnf78 {x0 x1 : D} : Tn.pf 78 [x0, x1] = .b (askB (qsts1 x0) (qst1 x1)) := rfl
@[go_sem] theorem tnp79 : Tn.pure 79 = true := rfl
@[go_sem] theorem tnf79 {x0 x1 : D} : Tn.pf 79 [x0, x1] = .list false ((sortedF (sgds1 x0) (sgd1 x1)).map Sgd.d) := rfl
@[go_sem] theorem tnp80 : Tn.pure 80 = true := rfl
@[go_sem] theorem tnf80 {x0 x1 : D} : Tn.pf 80 [x0, x1] = .list false ((addF (qsts1 x0) (qst1 x1)).map Qst.d) := rfl
@[go_sem] theorem tnp77 : Tn.pure 77 = true := rfl
@[go_sem] theorem tnf77 {x0 : D} : Tn.pf 77 [x0] = .b (dltOk (dlt1 x0)) := rfl
@[go_sem] theorem tnp27 : Tn.pure 27 = true := rfl
@[go_sem] theorem tnf27 {x0 x1 : D} : Tn.pf 27 [x0, x1] = .b (sameD (dlt1 x0) (dlt1 x1)) := rfl
@[go_sem] theorem tnp10 : Tn.pure 10 = true := rfl
@[go_sem] theorem tnf10 {x0 : D} : Tn.pf 10 [x0] = .b (fewD (dlt1 x0)) := rfl
@[go_sem] theorem tnp21 : Tn.pure 21 = true := rfl
@[go_sem] theorem tnf21 {x0 x1 x2 x3 : D} : Tn.pf 21 [x0, x1, x2, x3] = .b (fewAll (zon1 x0) (zon1 x1) (dlt1 x2) (dlt1 x3)) := rfl
@[go_sem] theorem tnp26 : Tn.pure 26 = true := rfl
@[go_sem] theorem tnf26 {x0 x1 : D} : Tn.pf 26 [x0, x1] = .tuple [.agg (diffR (zon1 x0) (zon1 x1)).1.d, .i (diffR (zon1 x0) (zon1 x1)).2] := rfl
@[go_sem] theorem tnp30 : Tn.pure 30 = true := rfl
@[go_sem] theorem tnf30 {x0 x1 : D} : Tn.pf 30 [x0, x1] = .tuple [.agg (applyR (zon1 x0) (dlt1 x1)).1.d, .i (applyR (zon1 x0) (dlt1 x1)).2] := rfl
@[go_sem] theorem tnp29 : Tn.pure 29 = true := rfl
@[go_sem] theorem tnf29 {x0 x1 : D} : Tn.pf 29 [x0, x1] = .tuple [.agg (joinR (dlt1 x0) (dlt1 x1)).1.d, .i (joinR (dlt1 x0) (dlt1 x1)).2] := rfl
@[go_sem] theorem tnp31 : Tn.pure 31 = true := rfl
@[go_sem] theorem tnf31 {x0 x1 : D} : Tn.pf 31 [x0, x1] = .agg (smallZ (int1 x0) (str1 x1)).d := rfl
@[go_sem] theorem tnp97 : Tn.pure 97 = true := rfl
@[go_sem] theorem tnf97 {x0 : D} : Tn.pf 97 [x0] = .list false ((dats1 x0).map Dat.d) := rfl
@[go_sem] theorem tnp98 : Tn.pure 98 = true := rfl
@[go_sem] theorem tnf98 {x0 : D} : Tn.pf 98 [x0] = .list false ((sigs1 x0).map RSig.d) := rfl
@[go_sem] theorem tnp45 : Tn.pure 45 = true := rfl
@[go_sem] theorem tnf45 {x0 : D} : Tn.pf 45 [x0] = .agg (sgd1 x0).d := rfl
@[go_sem] theorem tnp62 : Tn.pure 62 = true := rfl
@[go_sem] theorem tnf62 {x0 : D} : Tn.pf 62 [x0] = .agg (sgd1 x0).d := rfl
@[go_sem] theorem tnp19 : Tn.pure 19 = true := rfl
@[go_sem] theorem tnf19 {x0 x1 : D} : Tn.pf 19 [x0, x1] = .tuple [.agg (findR (zon1 x0) (qst1 x1)).1.d, .b (findR (zon1 x0) (qst1 x1)).2.1, .i (findR (zon1 x0) (qst1 x1)).2.2] := rfl
def TnB : Con := { Tn with bs := true }
@[go_sem] theorem tnB_p {k : FuncId} : TnB.pure k = Tn.pure k := rfl
@[go_sem] theorem tnB_f {k : FuncId} {xs : List D} : TnB.pf k xs = Tn.pf k xs := rfl
@[go_sem] theorem tnB_b : TnB.bs = true := rfl
@[go_sem] theorem tn_b : Tn.bs = false := rfl
@[go_sem] theorem tn_c : Tn.cf = false := rfl
@[go_sem] theorem tnB_c : TnB.cf = false := rfl
def TnF : Con := { Tn with cf := true }
@[go_sem] theorem tnF_p {k : FuncId} : TnF.pure k = Tn.pure k := rfl
@[go_sem] theorem tnF_f {k : FuncId} {xs : List D} : TnF.pf k xs = Tn.pf k xs := rfl
@[go_sem] theorem tnF_b : TnF.bs = false := rfl
@[go_sem] theorem tnF_c : TnF.cf = true := rfl
end Go.Proofs.YtfggmgafjabbjaaGreatDoor
namespace Go.Proofs.YtfggmgafjabbjaaGreatDoor
open Go.DL Go.Str Go.Rec Go.Cmp Go.Zon
set_option maxRecDepth 10000
set_option linter.unusedSimpArgs false
set_option linter.unusedVariables false
theorem bo31 : hasBody Tryz.prog 31 = true := by kernel_rfl
theorem small11_ct (n : Int) (s : Str) : PureCt Tryz.prog 31 [.i n, .v (.string (bs s))] (.agg (smallZ n s).d) := by
  refine pure_of_dw Tryz.func31 rfl bo31 (by simp [go_sem, D.nr, nrs, nrr]) (by simp [Tryz.f31]) ?_
  unfold Tryz.f31
  simp only [init_eq]
  have ff := True.intro
  refine stp Tn ?_
  refine stp Tn ?_
  refine dw_seq ?_
  refine dw_ownj 2 1 24 49 (by simp only [go_sem, ff]; exact rfl) (by rfl) (by simp only [go_sem, ff]) ?_
  simp only [List.set_cons_succ, List.set_cons_zero]
  refine stp Tn ?_
  refine dw_block ?_
  refine lp (α := (Nat) × (Nat) × Nat) [4, 5, 20, 21] (fun ⟨k, r, nx⟩ => (k ≤ 3) ∧ (r < nx) ∧ (2 < r) ∧ True) (fun ⟨k, r, nx⟩ => 3 - k) (fun ⟨k, r, nx⟩ => [(22, .i k)]) (fun ⟨k, r, nx⟩ => [(0, ⟨24, [[.v (.string (bs [])), .list true []]]⟩), (2, ⟨24, [[.v (.string (bs [120])), .mrow r 0 k]]⟩), (r, ⟨49, ([[.v (.string (bs [120])), .i 2, .i 0, .list true [[.v (.string (bs [97, 46, 110, 115])), .i 0, .i 0]], .list true []], [.v (.string (bs [120])), .i 4, .i 0, .list true [[.v (.string (bs [])), .i n, .i 0]], .list true []], [.v (.string (bs s)), .i 1, .i 0, .list true [[.v (.string (bs [])), .i 7, .i 0]], .list true []]]).take k⟩)]) (fun ⟨k, r, nx⟩ => nx) (0, 4, _) (hA := ⟨iv, iv, iv, trivial⟩) (round := ?_)
  rintro ⟨k, r, nx⟩ ⟨hk, hr, hr0, -⟩
  show DW _ _ _ _ { n := _, t := tab _, h := _, nx := _, e := _ }
  simp only [List.cons_append, List.nil_append]
  have n0 : 2 < nx := by omega
  have z0_2 : (0 = 2) = False := eq_false (by omega)
  have y2_0 : (2 = 0) = False := eq_false (by omega)
  have z0_r : (0 = r) = False := eq_false (by omega)
  have yr_0 : (r = 0) = False := eq_false (by omega)
  have z2_r : (2 = r) = False := eq_false (by omega)
  have yr_2 : (r = 2) = False := eq_false (by omega)
  have ff := And.intro @hr (And.intro @n0 (And.intro @z0_2 (And.intro @y2_0 (And.intro @z0_r (And.intro @yr_0 (And.intro @z2_r (And.intro @yr_2 ff)))))))
  refine stp Tn ?_
  refine dw_seq ?_
  refine cd (fun c1 => ?_) (fun c1 => ?_) (hp := rfl)
  · skip
    have h012 : k = 0 ∨ k = 1 ∨ k = 2 := by have h9 : (k:Int) < 3 := (by simpa using c1); omega
    refine dw_skip ?_
    show DW _ _ _ _ _
    refine dw_seq ?_
    refine dw_block ?_
    rcases h012 with e0 | e0 | e0
    · skip
      have ff := And.intro @e0 ff
      refine stp Tn ?_
      refine rgn Tn ?_
      show DW _ _ _ _ _
      refine rgn Tn ?_
      show ∃ _, _
      exact rnd (k + 1, (nx + 10), _) (h1 := ⟨iv, iv, iv, trivial⟩) (h3 := by (try simp only [go_sem, ff]); all_goals (first | done | rfl | (simp; done) | (left; simp; done) | (right; simp; done))) (h4 := by (try simp only [go_sem, ff]); all_goals (first | done | rfl | (simp; done) | (left; simp; done) | (right; simp; done))) (h5 := by (try simp only [go_sem, ff]); all_goals (first | done | rfl | (simp; done) | (left; simp; done) | (right; simp; done)))
    · skip
      have ff := And.intro @e0 ff
      refine stp Tn ?_
      refine rgn Tn ?_
      show DW _ _ _ _ _
      refine rgn Tn ?_
      show ∃ _, _
      exact rnd (k + 1, (nx + 10), _) (h1 := ⟨iv, iv, iv, trivial⟩) (h3 := by (try simp only [go_sem, ff]); all_goals (first | done | rfl | (simp; done) | (left; simp; done) | (right; simp; done))) (h4 := by (try simp only [go_sem, ff]); all_goals (first | done | rfl | (simp; done) | (left; simp; done) | (right; simp; done))) (h5 := by (try simp only [go_sem, ff]); all_goals (first | done | rfl | (simp; done) | (left; simp; done) | (right; simp; done)))
    · skip
      have ff := And.intro @e0 ff
      refine stp Tn ?_
      refine rgn Tn ?_
      show DW _ _ _ _ _
      refine rgn Tn ?_
      show ∃ _, _
      exact rnd (k + 1, (nx + 10), _) (h1 := ⟨iv, iv, iv, trivial⟩) (h3 := by (try simp only [go_sem, ff]); all_goals (first | done | rfl | (simp; done) | (left; simp; done) | (right; simp; done))) (h4 := by (try simp only [go_sem, ff]); all_goals (first | done | rfl | (simp; done) | (left; simp; done) | (right; simp; done))) (h5 := by (try simp only [go_sem, ff]); all_goals (first | done | rfl | (simp; done) | (left; simp; done) | (right; simp; done)))
  · skip
    refine dw_exit ?_
    show DW _ _ _ _ _
    have e9 : k = 3 := by have h9 : ¬ (k:Int) < 3 := (by simpa using c1); omega
    subst e9
    refine stp Tn ?_
    refine dw_ret ?_
    exact fin 5 (hr := by (try simp only [go_sem, ff]); all_goals (rfl))

end Go.Proofs.YtfggmgafjabbjaaGreatDoor
/-
  MADE BY A PROGRAM OF MINE: what the functions that leave memory alone give. Conditions: none.
-/
namespace Go.Proofs.YtfggmgafjabbjaaGreatDoor
open Go.DL Go.Str Go.Rec Go.Zon
set_option linter.unusedVariables false
def Sn : Con where
  pure := fun k => [176, 169, 153, 114, 113, 81, 123, 90, 115, 171, 155, 122, 120, 125, 127, 172, 116, 156, 173, 126, 159, 124, 91, 128, 110, 157, 150, 119, 129, 118, 158, 130, 93, 83, 117, 85, 63, 165, 141, 102, 84, 82, 101, 92, 103, 86, 104, 89, 61, 111, 20, 60, 18, 100, 99, 46, 47, 48, 50, 51, 52, 53, 49, 14, 13, 59, 32, 33, 34, 151, 121, 87, 35, 88, 36, 11, 17, 9, 65, 64, 16, 54, 23, 22, 25, 24, 67, 41, 112, 66, 78, 79, 80, 77, 27, 10, 21, 26, 30, 29, 31, 97, 98, 45, 62, 19, 38].contains k
  pf := fun k xs => match k, xs with
    | 176, [x0, x1] => .i (lastIx (str1 x0) (int1 x1))
    | 169, [x0, x1] => .i (lastIx (str1 x0) (int1 x1))
    | 153, [x0] => .b (labelOk (str1 x0))
    | 114, [x0] => .b (labelOk (str1 x0))
    | 113, [x0] => .list false ((splitF (str1 x0)).map sR)
    | 81, [x0] => .b (nameOk (str1 x0))
    | 123, [x0] => .b (nameOk (str1 x0))
    | 90, [x0] => .b (nameOk (str1 x0))
    | 115, [x0] => .list false ((partsOf (str1 x0)).map sR)
    | 171, [x0, x1] => .i (Go.Lib.compareBytes (str1 x0) (str1 x1))
    | 155, [x0, x1] => .i (Go.Lib.compareBytes (str1 x0) (str1 x1))
    | 122, [x0, x1] => .i (nmOrd (str1 x0) (str1 x1))
    | 120, [x0, x1] => .tuple [.i (if nameOk (str1 x0) && nameOk (str1 x1) then nmCmp (str1 x0) (str1 x1) else 0), .i (if nameOk (str1 x0) && nameOk (str1 x1) then 0 else 11)]
    | 125, [x0, x1] => .tuple [.i (if nameOk (str1 x0) && nameOk (str1 x1) then nmCmp (str1 x0) (str1 x1) else 0), .i (if nameOk (str1 x0) && nameOk (str1 x1) then 0 else 11)]
    | 127, [x0, x1, x2] => .b (inR (int1 x0) (int1 x1) (int1 x2))
    | 172, [x0, x1, x2] => .b (inR (int1 x0) (int1 x1) (int1 x2))
    | 116, [x0, x1, x2] => .b (inR (int1 x0) (int1 x1) (int1 x2))
    | 156, [x0] => .b ((int1 x0) != (int1 x0))
    | 173, [x0] => .b ((str1 x0) != (str1 x0))
    | 126, [x0, x1] => .i (cmpI (int1 x0) (int1 x1))
    | 159, [x0, x1] => .i (cmpS (str1 x0) (str1 x1))
    | 124, [x0, x1] => .b (hasPre (str1 x0) (str1 x1))
    | 91, [x0, x1] => .b (hasPre (str1 x0) (str1 x1))
    | 128, [x0] => .b (wildB (str1 x0))
    | 110, [x0] => .b (wildB (str1 x0))
    | 157, [x0] => .b (freeB (str1 x0))
    | 150, [x0] => .b (freeB (str1 x0))
    | 119, [x0, x1] => .b (less (dat1 x0) (dat1 x1))
    | 129, [x0, x1] => .b (datOk (rule1 x0) (dat1 x1))
    | 118, [x0, x1] => .b (rDatOk (int1 x0) (dat1 x1))
    | 158, [x0] => .i (orFrom (ints1 x0) 0)
    | 130, [x0, x1] => .i (datC (dat1 x0) (dat1 x1))
    | 93, [x0] => .b (setOk (set1 x0))
    | 83, [x0] => .b (setOk (set1 x0))
    | 117, [x0] => .b (singleB (int1 x0))
    | 85, [x0, x1] => .i (rOrd (set1 x0) (set1 x1))
    | 63, [x0, x1] => .b (sameB (set1 x0) (set1 x1))
    | 165, [x0, x1] => .b (hasSuf (str1 x0) (str1 x1))
    | 141, [x0, x1] => .b (hasSuf (str1 x0) (str1 x1))
    | 102, [x0, x1] => .tuple [.b (underV (str1 x0) (str1 x1)), .i (if nameOk (str1 x0) && nameOk (str1 x1) then 0 else 11)]
    | 84, [x0, x1] => .b (inB (str1 x0) (str1 x1))
    | 82, [x0] => .b (wild1 (str1 x0))
    | 101, [x0, x1, x2, x3] => .i (qC ⟨(str1 x0), (int1 x1)⟩ ⟨(str1 x2), (int1 x3)⟩)
    | 92, [x0, x1] => .i (qC (qst1 x0) (qst1 x1))
    | 103, [x0, x1] => .b (fits (int1 x0) (bool1 x1))
    | 86, [x0, x1] => .b (fits (int1 x0) (bool1 x1))
    | 104, [x0, x1] => .b (sigsOk (sigs1 x0) (str1 x1))
    | 89, [x0, x1] => .b (sigsOk (sigs1 x0) (str1 x1))
    | 61, [x0] => .b (qOk (qst1 x0))
    | 111, [x0] => .b (qOk (qst1 x0))
    | 20, [x0, x1] => .b (sameSgd (sgd1 x0) (sgd1 x1))
    | 60, [x0, x1] => .b (sameList (sgds1 x0) (sgds1 x1))
    | 18, [x0, x1] => .b (sameZ (zon1 x0) (zon1 x1))
    | 100, [x0, x1] => .i (qC (sgd1 x0).q (qst1 x1))
    | 99, [x0, x1, x2] => .tuple [.i (findIx (sgds1 x0) (qst1 x1)), .b (findOk (sgds1 x0) (qst1 x1))]
    | 46, [x0, x1] => .tuple [.i (findIx (zon1 x0).sets (qst1 x1)), .b (findOk (zon1 x0).sets (qst1 x1))]
    | 47, [x0] => .b (ordered (zon1 x0))
    | 48, [x0] => .b (apexHolds (zon1 x0))
    | 50, [x0] => .b (aliasB (lay1 x0))
    | 51, [x0] => .b (cutB (lay1 x0))
    | 52, [x0] => .b (glueB (lay1 x0))
    | 53, [x0] => .b (formB (lay1 x0))
    | 49, [x0] => .agg (layOf (zon1 x0)).d
    | 14, [x0] => .b (zoneOk (zon1 x0))
    | 13, [x0] => .tuple [.i (if zoneOk (zon1 x0) then serialOf (zon1 x0) else 0), .i (if zoneOk (zon1 x0) then 0 else 1)]
    | 59, [x0, x1] => .i (atF (zon1 x0).sets (qst1 x1))
    | 32, [x0] => .b (oneB (zon1 x0))
    | 33, [x0] => .b (twoB (zon1 x0))
    | 34, [x0] => .b (threeB (zon1 x0))
    | 151, [x0] => .list false ((cutsF (zon1 x0)).map sR)
    | 121, [x0] => .list false ((highF (zon1 x0)).map sR)
    | 87, [x0] => .list false ((behR (zon1 x0)).map sR)
    | 35, [x0] => .b (fourB (zon1 x0))
    | 88, [x0] => .list false ((ownF (zon1 x0)).map bR)
    | 36, [x0] => .b (fiveB (zon1 x0))
    | 11, [x0] => .b (refOk (zon1 x0))
    | 17, [x0] => .i (serialR (zon1 x0))
    | 9, [x0] => .b (fewZ (zon1 x0))
    | 65, [x0] => .b (serB (int1 x0))
    | 64, [x0] => .b (serB (int1 x0))
    | 16, [x0, x1] => .b (befB (int1 x0) (int1 x1))
    | 54, [x0, x1] => .b (befB (int1 x0) (int1 x1))
    | 23, [x0, x1] => .tuple [.b (lessF (int1 x0) (int1 x1)).1, .i (lessF (int1 x0) (int1 x1)).2]
    | 22, [x0, x1] => .tuple [.b (lessF (int1 x0) (int1 x1)).1, .i (lessF (int1 x0) (int1 x1)).2]
    | 25, [x0] => .tuple [.i (afterF (int1 x0)).1, .i (afterF (int1 x0)).2]
    | 24, [x0] => .tuple [.i (afterF (int1 x0)).1, .i (afterF (int1 x0)).2]
    | 67, [x0] => .agg (sgd1 x0).q.d
    | 41, [x0] => .agg (sgd1 x0).q.d
    | 112, [x0, x1] => .i (qO (qst1 x0) (qst1 x1))
    | 66, [x0, x1] => .i (atF (sgds1 x0) (qst1 x1))
    | 78, [x0, x1] => .b (askB (qsts1 x0) (qst1 x1))
    | 79, [x0, x1] => .list false ((sortedF (sgds1 x0) (sgd1 x1)).map Sgd.d)
    | 80, [x0, x1] => .list false ((addF (qsts1 x0) (qst1 x1)).map Qst.d)
    | 77, [x0] => .b (dltOk (dlt1 x0))
    | 27, [x0, x1] => .b (sameD (dlt1 x0) (dlt1 x1))
    | 10, [x0] => .b (fewD (dlt1 x0))
    | 21, [x0, x1, x2, x3] => .b (fewAll (zon1 x0) (zon1 x1) (dlt1 x2) (dlt1 x3))
    | 26, [x0, x1] => .tuple [.agg (diffR (zon1 x0) (zon1 x1)).1.d, .i (diffR (zon1 x0) (zon1 x1)).2]
    | 30, [x0, x1] => .tuple [.agg (applyR (zon1 x0) (dlt1 x1)).1.d, .i (applyR (zon1 x0) (dlt1 x1)).2]
    | 29, [x0, x1] => .tuple [.agg (joinR (dlt1 x0) (dlt1 x1)).1.d, .i (joinR (dlt1 x0) (dlt1 x1)).2]
    | 31, [x0, x1] => .agg (smallZ (int1 x0) (str1 x1)).d
    | 97, [x0] => .list false ((dats1 x0).map Dat.d)
    | 98, [x0] => .list false ((sigs1 x0).map RSig.d)
    | 45, [x0] => .agg (sgd1 x0).d
    | 62, [x0] => .agg (sgd1 x0).d
    | 19, [x0, x1] => .tuple [.agg (findR (zon1 x0) (qst1 x1)).1.d, .b (findR (zon1 x0) (qst1 x1)).2.1, .i (findR (zon1 x0) (qst1 x1)).2.2]
    | 38, [x0] => .fmap (kvP (mapP (sgds1 x0)))
    | _, _ => .junk
@[go_sem] theorem snp176 : Sn.pure 176 = true := rfl
@[go_sem] theorem snf176 {x0 x1 : D} : Sn.pf 176 [x0, x1] = .i (lastIx (str1 x0) (int1 x1)) := rfl
@[go_sem] theorem snp169 : Sn.pure 169 = true := rfl
@[go_sem] theorem snf169 {x0 x1 : D} : Sn.pf 169 [x0, x1] = .i (lastIx (str1 x0) (int1 x1)) := rfl
@[go_sem] theorem snp153 : Sn.pure 153 = true := rfl
@[go_sem] theorem snf153 {x0 : D} : Sn.pf 153 [x0] = .b (labelOk (str1 x0)) := rfl
@[go_sem] theorem snp114 : Sn.pure 114 = true := rfl
@[go_sem] theorem snf114 {x0 : D} : Sn.pf 114 [x0] = .b (labelOk (str1 x0)) := rfl
@[go_sem] theorem snp113 : Sn.pure 113 = true := rfl
@[go_sem] theorem snf113 {x0 : D} : Sn.pf 113 [x0] = .list false ((splitF (str1 x0)).map sR) := rfl
@[go_sem] theorem snp81 : Sn.pure 81 = true := rfl
@[go_sem] theorem snf81 {x0 : D} : Sn.pf 81 [x0] = .b (nameOk (str1 x0)) := rfl
@[go_sem] theorem snp123 : Sn.pure 123 = true := rfl
@[go_sem] theorem snf123 {x0 : D} : Sn.pf 123 [x0] = .b (nameOk (str1 x0)) := rfl
@[go_sem] theorem snp90 : Sn.pure 90 = true := rfl
@[go_sem] theorem snf90 {x0 : D} : Sn.pf 90 [x0] = .b (nameOk (str1 x0)) := rfl
@[go_sem] theorem snp115 : Sn.pure 115 = true := rfl
@[go_sem] theorem snf115 {x0 : D} : Sn.pf 115 [x0] = .list false ((partsOf (str1 x0)).map sR) := rfl
@[go_sem] theorem snp171 : Sn.pure 171 = true := rfl
@[go_sem] theorem snf171 {x0 x1 : D} : Sn.pf 171 [x0, x1] = .i (Go.Lib.compareBytes (str1 x0) (str1 x1)) := rfl
@[go_sem] theorem snp155 : Sn.pure 155 = true := rfl
@[go_sem] theorem snf155 {x0 x1 : D} : Sn.pf 155 [x0, x1] = .i (Go.Lib.compareBytes (str1 x0) (str1 x1)) := rfl
@[go_sem] theorem snp122 : Sn.pure 122 = true := rfl
@[go_sem] theorem snf122 {x0 x1 : D} : Sn.pf 122 [x0, x1] = .i (nmOrd (str1 x0) (str1 x1)) := rfl
@[go_sem] theorem snp120 : Sn.pure 120 = true := rfl
@[go_sem] theorem snf120 {x0 x1 : D} : Sn.pf 120 [x0, x1] = .tuple [.i (if nameOk (str1 x0) && nameOk (str1 x1) then nmCmp (str1 x0) (str1 x1) else 0), .i (if nameOk (str1 x0) && nameOk (str1 x1) then 0 else 11)] := rfl
@[go_sem] theorem snp125 : Sn.pure 125 = true := rfl
@[go_sem] theorem snf125 {x0 x1 : D} : Sn.pf 125 [x0, x1] = .tuple [.i (if nameOk (str1 x0) && nameOk (str1 x1) then nmCmp (str1 x0) (str1 x1) else 0), .i (if nameOk (str1 x0) && nameOk (str1 x1) then 0 else 11)] := rfl
@[go_sem] theorem snp127 : Sn.pure 127 = true := rfl
@[go_sem] theorem snf127 {x0 x1 x2 : D} : Sn.pf 127 [x0, x1, x2] = .b (inR (int1 x0) (int1 x1) (int1 x2)) := rfl
@[go_sem] theorem snp172 : Sn.pure 172 = true := rfl
@[go_sem] theorem snf172 {x0 x1 x2 : D} : Sn.pf 172 [x0, x1, x2] = .b (inR (int1 x0) (int1 x1) (int1 x2)) := rfl
@[go_sem] theorem snp116 : Sn.pure 116 = true := rfl
@[go_sem] theorem snf116 {x0 x1 x2 : D} : Sn.pf 116 [x0, x1, x2] = .b (inR (int1 x0) (int1 x1) (int1 x2)) := rfl
@[go_sem] theorem snp156 : Sn.pure 156 = true := rfl
@[go_sem] theorem snf156 {x0 : D} : Sn.pf 156 [x0] = .b ((int1 x0) != (int1 x0)) := rfl
@[go_sem] theorem snp173 : Sn.pure 173 = true := rfl
@[go_sem] theorem snf173 {x0 : D} : Sn.pf 173 [x0] = .b ((str1 x0) != (str1 x0)) := rfl
@[go_sem] theorem snp126 : Sn.pure 126 = true := rfl
@[go_sem] theorem snf126 {x0 x1 : D} : Sn.pf 126 [x0, x1] = .i (cmpI (int1 x0) (int1 x1)) := rfl
@[go_sem] theorem snp159 : Sn.pure 159 = true := rfl
@[go_sem] theorem snf159 {x0 x1 : D} : Sn.pf 159 [x0, x1] = .i (cmpS (str1 x0) (str1 x1)) := rfl
@[go_sem] theorem snp124 : Sn.pure 124 = true := rfl
@[go_sem] theorem snf124 {x0 x1 : D} : Sn.pf 124 [x0, x1] = .b (hasPre (str1 x0) (str1 x1)) := rfl
@[go_sem] theorem snp91 : Sn.pure 91 = true := rfl
@[go_sem] theorem snf91 {x0 x1 : D} : Sn.pf 91 [x0, x1] = .b (hasPre (str1 x0) (str1 x1)) := rfl
@[go_sem] theorem snp128 : Sn.pure 128 = true := rfl
@[go_sem] theorem snf128 {x0 : D} : Sn.pf 128 [x0] = .b (wildB (str1 x0)) := rfl
@[go_sem] theorem snp110 : Sn.pure 110 = true := rfl
@[go_sem] theorem snf110 {x0 : D} : Sn.pf 110 [x0] = .b (wildB (str1 x0)) := rfl
@[go_sem] theorem snp157 : Sn.pure 157 = true := rfl
@[go_sem] theorem snf157 {x0 : D} : Sn.pf 157 [x0] = .b (freeB (str1 x0)) := rfl
@[go_sem] theorem snp150 : Sn.pure 150 = true := rfl
@[go_sem] theorem snf150 {x0 : D} : Sn.pf 150 [x0] = .b (freeB (str1 x0)) := rfl
@[go_sem] theorem snp119 : Sn.pure 119 = true := rfl
@[go_sem] theorem snf119 {x0 x1 : D} : Sn.pf 119 [x0, x1] = .b (less (dat1 x0) (dat1 x1)) := rfl
@[go_sem] theorem snp129 : Sn.pure 129 = true := rfl
@[go_sem] theorem snf129 {x0 x1 : D} : Sn.pf 129 [x0, x1] = .b (datOk (rule1 x0) (dat1 x1)) := rfl
@[go_sem] theorem snp118 : Sn.pure 118 = true := rfl
@[go_sem] theorem snf118 {x0 x1 : D} : Sn.pf 118 [x0, x1] = .b (rDatOk (int1 x0) (dat1 x1)) := rfl
@[go_sem] theorem snp158 : Sn.pure 158 = true := rfl
@[go_sem] theorem snf158 {x0 : D} : Sn.pf 158 [x0] = .i (orFrom (ints1 x0) 0) := rfl
@[go_sem] theorem snp130 : Sn.pure 130 = true := rfl
@[go_sem] theorem snf130 {x0 x1 : D} : Sn.pf 130 [x0, x1] = .i (datC (dat1 x0) (dat1 x1)) := rfl
@[go_sem] theorem snp93 : Sn.pure 93 = true := rfl
@[go_sem] theorem snf93 {x0 : D} : Sn.pf 93 [x0] = .b (setOk (set1 x0)) := rfl
@[go_sem] theorem snp83 : Sn.pure 83 = true := rfl
@[go_sem] theorem snf83 {x0 : D} : Sn.pf 83 [x0] = .b (setOk (set1 x0)) := rfl
@[go_sem] theorem snp117 : Sn.pure 117 = true := rfl
@[go_sem] theorem snf117 {x0 : D} : Sn.pf 117 [x0] = .b (singleB (int1 x0)) := rfl
@[go_sem] theorem snp85 : Sn.pure 85 = true := rfl
@[go_sem] theorem snf85 {x0 x1 : D} : Sn.pf 85 [x0, x1] = .i (rOrd (set1 x0) (set1 x1)) := rfl
@[go_sem] theorem snp63 : Sn.pure 63 = true := rfl
@[go_sem] theorem snf63 {x0 x1 : D} : Sn.pf 63 [x0, x1] = .b (sameB (set1 x0) (set1 x1)) := rfl
@[go_sem] theorem snp165 : Sn.pure 165 = true := rfl
@[go_sem] theorem snf165 {x0 x1 : D} : Sn.pf 165 [x0, x1] = .b (hasSuf (str1 x0) (str1 x1)) := rfl
@[go_sem] theorem snp141 : Sn.pure 141 = true := rfl
@[go_sem] theorem snf141 {x0 x1 : D} : Sn.pf 141 [x0, x1] = .b (hasSuf (str1 x0) (str1 x1)) := rfl
@[go_sem] theorem snp102 : Sn.pure 102 = true := rfl
@[go_sem] theorem snf102 {x0 x1 : D} : Sn.pf 102 [x0, x1] = .tuple [.b (underV (str1 x0) (str1 x1)), .i (if nameOk (str1 x0) && nameOk (str1 x1) then 0 else 11)] := rfl
@[go_sem] theorem snp84 : Sn.pure 84 = true := rfl
@[go_sem] theorem snf84 {x0 x1 : D} : Sn.pf 84 [x0, x1] = .b (inB (str1 x0) (str1 x1)) := rfl
@[go_sem] theorem snp82 : Sn.pure 82 = true := rfl
@[go_sem] theorem snf82 {x0 : D} : Sn.pf 82 [x0] = .b (wild1 (str1 x0)) := rfl
@[go_sem] theorem snp101 : Sn.pure 101 = true := rfl
@[go_sem] theorem snf101 {x0 x1 x2 x3 : D} : Sn.pf 101 [x0, x1, x2, x3] = .i (qC ⟨(str1 x0), (int1 x1)⟩ ⟨(str1 x2), (int1 x3)⟩) := rfl
@[go_sem] theorem snp92 : Sn.pure 92 = true := rfl
@[go_sem] theorem snf92 {x0 x1 : D} : Sn.pf 92 [x0, x1] = .i (qC (qst1 x0) (qst1 x1)) := rfl
@[go_sem] theorem snp103 : Sn.pure 103 = true := rfl
@[go_sem] theorem snf103 {x0 x1 : D} : Sn.pf 103 [x0, x1] = .b (fits (int1 x0) (bool1 x1)) := rfl
@[go_sem] theorem snp86 : Sn.pure 86 = true := rfl
@[go_sem] theorem snf86 {x0 x1 : D} : Sn.pf 86 [x0, x1] = .b (fits (int1 x0) (bool1 x1)) := rfl
@[go_sem] theorem snp104 : Sn.pure 104 = true := rfl
@[go_sem] theorem snf104 {x0 x1 : D} : Sn.pf 104 [x0, x1] = .b (sigsOk (sigs1 x0) (str1 x1)) := rfl
@[go_sem] theorem snp89 : Sn.pure 89 = true := rfl
@[go_sem] theorem snf89 {x0 x1 : D} : Sn.pf 89 [x0, x1] = .b (sigsOk (sigs1 x0) (str1 x1)) := rfl
@[go_sem] theorem snp61 : Sn.pure 61 = true := rfl
@[go_sem] theorem snf61 {x0 : D} : Sn.pf 61 [x0] = .b (qOk (qst1 x0)) := rfl
@[go_sem] theorem snp111 : Sn.pure 111 = true := rfl
@[go_sem] theorem snf111 {x0 : D} : Sn.pf 111 [x0] = .b (qOk (qst1 x0)) := rfl
@[go_sem] theorem snp20 : Sn.pure 20 = true := rfl
@[go_sem] theorem snf20 {x0 x1 : D} : Sn.pf 20 [x0, x1] = .b (sameSgd (sgd1 x0) (sgd1 x1)) := rfl
@[go_sem] theorem snp60 : Sn.pure 60 = true := rfl
@[go_sem] theorem snf60 {x0 x1 : D} : Sn.pf 60 [x0, x1] = .b (sameList (sgds1 x0) (sgds1 x1)) := rfl
@[go_sem] theorem snp18 : Sn.pure 18 = true := rfl
@[go_sem] theorem snf18 {x0 x1 : D} : Sn.pf 18 [x0, x1] = .b (sameZ (zon1 x0) (zon1 x1)) := rfl
@[go_sem] theorem snp100 : Sn.pure 100 = true := rfl
@[go_sem] theorem snf100 {x0 x1 : D} : Sn.pf 100 [x0, x1] = .i (qC (sgd1 x0).q (qst1 x1)) := rfl
@[go_sem] theorem snp99 : Sn.pure 99 = true := rfl
@[go_sem] theorem snf99 {x0 x1 x2 : D} : Sn.pf 99 [x0, x1, x2] = .tuple [.i (findIx (sgds1 x0) (qst1 x1)), .b (findOk (sgds1 x0) (qst1 x1))] := rfl
@[go_sem] theorem snp46 : Sn.pure 46 = true := rfl
@[go_sem] theorem snf46 {x0 x1 : D} : Sn.pf 46 [x0, x1] = .tuple [.i (findIx (zon1 x0).sets (qst1 x1)), .b (findOk (zon1 x0).sets (qst1 x1))] := rfl
@[go_sem] theorem snp47 : Sn.pure 47 = true := rfl
@[go_sem] theorem snf47 {x0 : D} : Sn.pf 47 [x0] = .b (ordered (zon1 x0)) := rfl
@[go_sem] theorem snp48 : Sn.pure 48 = true := rfl
@[go_sem] theorem snf48 {x0 : D} : Sn.pf 48 [x0] = .b (apexHolds (zon1 x0)) := rfl
@[go_sem] theorem snp50 : Sn.pure 50 = true := rfl
@[go_sem] theorem snf50 {x0 : D} : Sn.pf 50 [x0] = .b (aliasB (lay1 x0)) := rfl
@[go_sem] theorem snp51 : Sn.pure 51 = true := rfl
@[go_sem] theorem snf51 {x0 : D} : Sn.pf 51 [x0] = .b (cutB (lay1 x0)) := rfl
@[go_sem] theorem snp52 : Sn.pure 52 = true := rfl
@[go_sem] theorem snf52 {x0 : D} : Sn.pf 52 [x0] = .b (glueB (lay1 x0)) := rfl
@[go_sem] theorem snp53 : Sn.pure 53 = true := rfl
@[go_sem] theorem snf53 {x0 : D} : Sn.pf 53 [x0] = .b (formB (lay1 x0)) := rfl
@[go_sem] theorem snp49 : Sn.pure 49 = true := rfl
@[go_sem] theorem snf49 {x0 : D} : Sn.pf 49 [x0] = .agg (layOf (zon1 x0)).d := rfl
@[go_sem] theorem snp14 : Sn.pure 14 = true := rfl
@[go_sem] theorem snf14 {x0 : D} : Sn.pf 14 [x0] = .b (zoneOk (zon1 x0)) := rfl
@[go_sem] theorem snp13 : Sn.pure 13 = true := rfl
@[go_sem] theorem snf13 {x0 : D} : Sn.pf 13 [x0] = .tuple [.i (if zoneOk (zon1 x0) then serialOf (zon1 x0) else 0), .i (if zoneOk (zon1 x0) then 0 else 1)] := rfl
@[go_sem] theorem snp59 : Sn.pure 59 = true := rfl
@[go_sem] theorem snf59 {x0 x1 : D} : Sn.pf 59 [x0, x1] = .i (atF (zon1 x0).sets (qst1 x1)) := rfl
@[go_sem] theorem snp32 : Sn.pure 32 = true := rfl
@[go_sem] theorem snf32 {x0 : D} : Sn.pf 32 [x0] = .b (oneB (zon1 x0)) := rfl
@[go_sem] theorem snp33 : Sn.pure 33 = true := rfl
@[go_sem] theorem snf33 {x0 : D} : Sn.pf 33 [x0] = .b (twoB (zon1 x0)) := rfl
@[go_sem] theorem snp34 : Sn.pure 34 = true := rfl
@[go_sem] theorem snf34 {x0 : D} : Sn.pf 34 [x0] = .b (threeB (zon1 x0)) := rfl
@[go_sem] theorem snp151 : Sn.pure 151 = true := rfl
@[go_sem] theorem snf151 {x0 : D} : Sn.pf 151 [x0] = .list false ((cutsF (zon1 x0)).map sR) := rfl
@[go_sem] theorem snp121 : Sn.pure 121 = true := rfl
@[go_sem] theorem snf121 {x0 : D} : Sn.pf 121 [x0] = .list false ((highF (zon1 x0)).map sR) := rfl
@[go_sem] theorem snp87 : Sn.pure 87 = true := rfl
@[go_sem] theorem snf87 {x0 : D} : Sn.pf 87 [x0] = .list false ((behR (zon1 x0)).map sR) := rfl
@[go_sem] theorem snp35 : Sn.pure 35 = true := rfl
@[go_sem] theorem snf35 {x0 : D} : Sn.pf 35 [x0] = .b (fourB (zon1 x0)) := rfl
@[go_sem] theorem snp88 : Sn.pure 88 = true := rfl
@[go_sem] theorem snf88 {x0 : D} : Sn.pf 88 [x0] = .list false ((ownF (zon1 x0)).map bR) := rfl
@[go_sem] theorem snp36 : Sn.pure 36 = true := rfl
@[go_sem] theorem snf36 {x0 : D} : Sn.pf 36 [x0] = .b (fiveB (zon1 x0)) := rfl
@[go_sem] theorem snp11 : Sn.pure 11 = true := rfl
@[go_sem] theorem snf11 {x0 : D} : Sn.pf 11 [x0] = .b (refOk (zon1 x0)) := rfl
@[go_sem] theorem snp17 : Sn.pure 17 = true := rfl
@[go_sem] theorem snf17 {x0 : D} : Sn.pf 17 [x0] = .i (serialR (zon1 x0)) := rfl
@[go_sem] theorem snp9 : Sn.pure 9 = true := rfl
@[go_sem] theorem snf9 {x0 : D} : Sn.pf 9 [x0] = .b (fewZ (zon1 x0)) := rfl
@[go_sem] theorem snp65 : Sn.pure 65 = true := rfl
@[go_sem] theorem snf65 {x0 : D} : Sn.pf 65 [x0] = .b (serB (int1 x0)) := rfl
@[go_sem] theorem snp64 : Sn.pure 64 = true := rfl
@[go_sem] theorem snf64 {x0 : D} : Sn.pf 64 [x0] = .b (serB (int1 x0)) := rfl
@[go_sem] theorem snp16 : Sn.pure 16 = true := rfl
@[go_sem] theorem snf16 {x0 x1 : D} : Sn.pf 16 [x0, x1] = .b (befB (int1 x0) (int1 x1)) := rfl
@[go_sem] theorem snp54 : Sn.pure 54 = true := rfl
@[go_sem] theorem snf54 {x0 x1 : D} : Sn.pf 54 [x0, x1] = .b (befB (int1 x0) (int1 x1)) := rfl
@[go_sem] theorem snp23 : Sn.pure 23 = true := rfl
@[go_sem] theorem snf23 {x0 x1 : D} : Sn.pf 23 [x0, x1] = .tuple [.b (lessF (int1 x0) (int1 x1)).1, .i (lessF (int1 x0) (int1 x1)).2] := rfl
@[go_sem] theorem snp22 : Sn.pure 22 = true := rfl
@[go_sem] theorem snf22 {x0 x1 : D} : Sn.pf 22 [x0, x1] = .tuple [.b (lessF (int1 x0) (int1 x1)).1, .i (lessF (int1 x0) (int1 x1)).2] := rfl
@[go_sem] theorem snp25 : Sn.pure 25 = true := rfl
@[go_sem] theorem snf25 {x0 : D} : Sn.pf 25 [x0] = .tuple [.i (afterF (int1 x0)).1, .i (afterF (int1 x0)).2] := rfl
@[go_sem] theorem snp24 : Sn.pure 24 = true := rfl
@[go_sem] theorem snf24 {x0 : D} : Sn.pf 24 [x0] = .tuple [.i (afterF (int1 x0)).1, .i (afterF (int1 x0)).2] := rfl
@[go_sem] theorem snp67 : Sn.pure 67 = true := rfl
@[go_sem] theorem snf67 {x0 : D} : Sn.pf 67 [x0] = .agg (sgd1 x0).q.d := rfl
@[go_sem] theorem snp41 : Sn.pure 41 = true := rfl
@[go_sem] theorem snf41 {x0 : D} : Sn.pf 41 [x0] = .agg (sgd1 x0).q.d := rfl
@[go_sem] theorem snp112 : Sn.pure 112 = true := rfl
@[go_sem] theorem snf112 {x0 x1 : D} : Sn.pf 112 [x0, x1] = .i (qO (qst1 x0) (qst1 x1)) := rfl
@[go_sem] theorem snp66 : Sn.pure 66 = true := rfl
@[go_sem] theorem snf66 {x0 x1 : D} : Sn.pf 66 [x0, x1] = .i (atF (sgds1 x0) (qst1 x1)) := rfl
@[go_sem] theorem snp78 : Sn.pure 78 = true := rfl
@[go_sem] theorem snf78 {x0 x1 : D} : Sn.pf 78 [x0, x1] = .b (askB (qsts1 x0) (qst1 x1)) := rfl
@[go_sem] theorem snp79 : Sn.pure 79 = true := rfl
@[go_sem] theorem snf79 {x0 x1 : D} : Sn.pf 79 [x0, x1] = .list false ((sortedF (sgds1 x0) (sgd1 x1)).map Sgd.d) := rfl
@[go_sem] theorem snp80 : Sn.pure 80 = true := rfl
@[go_sem] theorem snf80 {x0 x1 : D} : Sn.pf 80 [x0, x1] = .list false ((addF (qsts1 x0) (qst1 x1)).map Qst.d) := rfl
@[go_sem] theorem snp77 : Sn.pure 77 = true := rfl
@[go_sem] theorem snf77 {x0 : D} : Sn.pf 77 [x0] = .b (dltOk (dlt1 x0)) := rfl
@[go_sem] theorem snp27 : Sn.pure 27 = true := rfl
@[go_sem] theorem snf27 {x0 x1 : D} : Sn.pf 27 [x0, x1] = .b (sameD (dlt1 x0) (dlt1 x1)) := rfl
@[go_sem] theorem snp10 : Sn.pure 10 = true := rfl
@[go_sem] theorem snf10 {x0 : D} : Sn.pf 10 [x0] = .b (fewD (dlt1 x0)) := rfl
@[go_sem] theorem snp21 : Sn.pure 21 = true := rfl
@[go_sem] theorem snf21 {x0 x1 x2 x3 : D} : Sn.pf 21 [x0, x1, x2, x3] = .b (fewAll (zon1 x0) (zon1 x1) (dlt1 x2) (dlt1 x3)) := rfl
@[go_sem] theorem snp26 : Sn.pure 26 = true := rfl
@[go_sem] theorem snf26 {x0 x1 : D} : Sn.pf 26 [x0, x1] = .tuple [.agg (diffR (zon1 x0) (zon1 x1)).1.d, .i (diffR (zon1 x0) (zon1 x1)).2] := rfl
@[go_sem] theorem snp30 : Sn.pure 30 = true := rfl
@[go_sem] theorem snf30 {x0 x1 : D} : Sn.pf 30 [x0, x1] = .tuple [.agg (applyR (zon1 x0) (dlt1 x1)).1.d, .i (applyR (zon1 x0) (dlt1 x1)).2] := rfl
@[go_sem] theorem snp29 : Sn.pure 29 = true := rfl
@[go_sem] theorem snf29 {x0 x1 : D} : Sn.pf 29 [x0, x1] = .tuple [.agg (joinR (dlt1 x0) (dlt1 x1)).1.d, .i (joinR (dlt1 x0) (dlt1 x1)).2] := rfl
@[go_sem] theorem snp31 : Sn.pure 31 = true := rfl
@[go_sem] theorem snf31 {x0 x1 : D} : Sn.pf 31 [x0, x1] = .agg (smallZ (int1 x0) (str1 x1)).d := rfl
@[go_sem] theorem snp97 : Sn.pure 97 = true := rfl
@[go_sem] theorem snf97 {x0 : D} : Sn.pf 97 [x0] = .list false ((dats1 x0).map Dat.d) := rfl
@[go_sem] theorem snp98 : Sn.pure 98 = true := rfl
@[go_sem] theorem snf98 {x0 : D} : Sn.pf 98 [x0] = .list false ((sigs1 x0).map RSig.d) := rfl
@[go_sem] theorem snp45 : Sn.pure 45 = true := rfl
@[go_sem] theorem snf45 {x0 : D} : Sn.pf 45 [x0] = .agg (sgd1 x0).d := rfl
@[go_sem] theorem snp62 : Sn.pure 62 = true := rfl
@[go_sem] theorem snf62 {x0 : D} : Sn.pf 62 [x0] = .agg (sgd1 x0).d := rfl
@[go_sem] theorem snp19 : Sn.pure 19 = true := rfl
@[go_sem] theorem snf19 {x0 x1 : D} : Sn.pf 19 [x0, x1] = .tuple [.agg (findR (zon1 x0) (qst1 x1)).1.d, .b (findR (zon1 x0) (qst1 x1)).2.1, .i (findR (zon1 x0) (qst1 x1)).2.2] := rfl
@[go_sem] theorem snp38 : Sn.pure 38 = true := rfl
@[go_sem] theorem snf38 {x0 : D} : Sn.pf 38 [x0] = .fmap (kvP (mapP (sgds1 x0))) := rfl
def SnB : Con := { Sn with bs := true }
@[go_sem] theorem snB_p {k : FuncId} : SnB.pure k = Sn.pure k := rfl
@[go_sem] theorem snB_f {k : FuncId} {xs : List D} : SnB.pf k xs = Sn.pf k xs := rfl
@[go_sem] theorem snB_b : SnB.bs = true := rfl
@[go_sem] theorem sn_b : Sn.bs = false := rfl
@[go_sem] theorem sn_c : Sn.cf = false := rfl
@[go_sem] theorem snB_c : SnB.cf = false := rfl
def SnF : Con := { Sn with cf := true }
@[go_sem] theorem snF_p {k : FuncId} : SnF.pure k = Sn.pure k := rfl
@[go_sem] theorem snF_f {k : FuncId} {xs : List D} : SnF.pf k xs = Sn.pf k xs := rfl
@[go_sem] theorem snF_b : SnF.bs = false := rfl
@[go_sem] theorem snF_c : SnF.cf = true := rfl
end Go.Proofs.YtfggmgafjabbjaaGreatDoor
namespace Go.Proofs.YtfggmgafjabbjaaGreatDoor
open Go.DL Go.Str Go.Rec Go.Cmp Go.Zon
set_option maxRecDepth 10000
set_option linter.unusedSimpArgs false
set_option linter.unusedVariables false
@[go_sem] theorem ofV_map {o : Option Nat} : ofV (.map o) = .v (.map o) := by cases o <;> rfl
@[go_sem] theorem keysOk_Q {m : List Sgd} : keysOk Tryz.prog 43 (kvQ m) = true := by
  induction m with
  | nil => rfl
  | cons s m ih => rw [kvQ_cons]; simp only [keysOk, ih, Qst.d, ko43, Bool.and_self]
@[go_sem] theorem mapTo_0 {l : List Sgd} : mapTo l 0 = [] := rfl
attribute [go_sem] kvQ_nil
theorem kvQ_step {l : List Sgd} {k : Nat} : kvSet (kvQ (mapTo l k)) (.agg [.v (.string (bs l[k]!.q.name)), .i l[k]!.q.ty]) (.agg [.v (.string (bs l[k]!.set.name)), .i l[k]!.set.ty, .i l[k]!.set.life, .list false (l[k]!.set.data.map Dat.d), .list false (l[k]!.sigs.map RSig.d)]) = kvQ (mapTo l (k + 1)) := kvSet_Q
theorem bo38 : hasBody Tryz.prog 38 = true := by kernel_rfl
theorem dbyplace_ct (l : List Sgd) (hl : l.length ≤ 1000000) : PureCt Tryz.prog 38 [.list false (l.map Sgd.d)] (.fmap (kvP (mapP l))) := by
  refine pure_of_dw Tryz.func38 rfl bo38 (by simp [go_sem, D.nr, nrs, nrr]) (by simp [Tryz.f38]) ?_
  unfold Tryz.f38
  simp only [init_eq]
  have ff := True.intro
  refine stp Sn ?_
  refine stp Sn ?_
  refine dw_seq ?_
  refine stp Sn ?_
  refine dw_block ?_
  refine lp (α := (Nat) × Nat) [3, 9, 10] (fun ⟨k, nx⟩ => (k ≤ l.length) ∧ (3 < nx) ∧ True) (fun ⟨k, nx⟩ => l.length - k) (fun ⟨k, nx⟩ => [(11, .i k)]) (fun ⟨k, nx⟩ => [(3, ⟨63, mapRows (kvQ (mapTo l k))⟩)]) (fun ⟨k, nx⟩ => nx) (0, _) (hA := ⟨iv, iv, trivial⟩) (round := ?_)
  rintro ⟨k, nx⟩ ⟨hk, hx, -⟩
  show DW _ _ _ _ { n := _, t := tab _, h := _, nx := _, e := _ }
  simp only [List.cons_append, List.nil_append]
  have ff := And.intro @hx ff
  refine stp Sn ?_
  refine dw_seq ?_
  refine cd (fun c1 => ?_) (fun c1 => ?_) (hp := rfl)
  · skip
    have hk2 : k < l.length := by simpa using c1
    have ff := And.intro (getD_sgd hk2) (And.intro (kvQ_step (l := l) (k := k)) ff)
    refine dw_skip ?_
    show DW _ _ _ _ _
    refine dw_seq ?_
    refine dw_block ?_
    refine stp Sn ?_
    refine rgn Sn ?_ (hok := by (try simp only [go_sem, ff]); all_goals (first | done | ((repeat' (with_reducible apply And.intro)) <;> first | exact dplace_ct l[k]! | (intros; exact dplace_ct l[k]!) | omega | skip)))
    show DW _ _ _ _ _
    refine rgn Sn ?_
    show ∃ _, _
    exact rnd (k + 1, _) (h1 := ⟨iv, iv, trivial⟩)
  · skip
    refine dw_exit ?_
    show DW _ _ _ _ _
    have e9 : k = l.length := by have h9 : ¬ (k:Int) < l.length := (by simpa using c1); omega
    subst e9
    refine dw_freezem 3 3 ev ev rfl nrs_kvQ ?_
    refine stp Sn ?_
    refine dw_ret ?_
    exact fin 1 (hr := by (try simp only [go_sem, ff]); all_goals (show (D.fmap (kvQ (mapF l))) = _; rw [kvQ_mapF]))

end Go.Proofs.YtfggmgafjabbjaaGreatDoor
/-
  MADE BY A PROGRAM OF MINE: what the functions that leave memory alone give. Conditions: none.
-/
namespace Go.Proofs.YtfggmgafjabbjaaGreatDoor
open Go.DL Go.Str Go.Rec Go.Zon
set_option linter.unusedVariables false
def Qn : Con where
  pure := fun k => [176, 169, 153, 114, 113, 81, 123, 90, 115, 171, 155, 122, 120, 125, 127, 172, 116, 156, 173, 126, 159, 124, 91, 128, 110, 157, 150, 119, 129, 118, 158, 130, 93, 83, 117, 85, 63, 165, 141, 102, 84, 82, 101, 92, 103, 86, 104, 89, 61, 111, 20, 60, 18, 100, 99, 46, 47, 48, 50, 51, 52, 53, 49, 14, 13, 59, 32, 33, 34, 151, 121, 87, 35, 88, 36, 11, 17, 9, 65, 64, 16, 54, 23, 22, 25, 24, 67, 41, 112, 66, 78, 79, 80, 77, 27, 10, 21, 26, 30, 29, 31, 97, 98, 45, 62, 19, 38, 105, 106, 58, 56, 57, 40, 68, 44, 76, 69, 75, 55, 73, 39, 43, 96, 72, 109].contains k
  pf := fun k xs => match k, xs with
    | 176, [x0, x1] => .i (lastIx (str1 x0) (int1 x1))
    | 169, [x0, x1] => .i (lastIx (str1 x0) (int1 x1))
    | 153, [x0] => .b (labelOk (str1 x0))
    | 114, [x0] => .b (labelOk (str1 x0))
    | 113, [x0] => .list false ((splitF (str1 x0)).map sR)
    | 81, [x0] => .b (nameOk (str1 x0))
    | 123, [x0] => .b (nameOk (str1 x0))
    | 90, [x0] => .b (nameOk (str1 x0))
    | 115, [x0] => .list false ((partsOf (str1 x0)).map sR)
    | 171, [x0, x1] => .i (Go.Lib.compareBytes (str1 x0) (str1 x1))
    | 155, [x0, x1] => .i (Go.Lib.compareBytes (str1 x0) (str1 x1))
    | 122, [x0, x1] => .i (nmOrd (str1 x0) (str1 x1))
    | 120, [x0, x1] => .tuple [.i (if nameOk (str1 x0) && nameOk (str1 x1) then nmCmp (str1 x0) (str1 x1) else 0), .i (if nameOk (str1 x0) && nameOk (str1 x1) then 0 else 11)]
    | 125, [x0, x1] => .tuple [.i (if nameOk (str1 x0) && nameOk (str1 x1) then nmCmp (str1 x0) (str1 x1) else 0), .i (if nameOk (str1 x0) && nameOk (str1 x1) then 0 else 11)]
    | 127, [x0, x1, x2] => .b (inR (int1 x0) (int1 x1) (int1 x2))
    | 172, [x0, x1, x2] => .b (inR (int1 x0) (int1 x1) (int1 x2))
    | 116, [x0, x1, x2] => .b (inR (int1 x0) (int1 x1) (int1 x2))
    | 156, [x0] => .b ((int1 x0) != (int1 x0))
    | 173, [x0] => .b ((str1 x0) != (str1 x0))
    | 126, [x0, x1] => .i (cmpI (int1 x0) (int1 x1))
    | 159, [x0, x1] => .i (cmpS (str1 x0) (str1 x1))
    | 124, [x0, x1] => .b (hasPre (str1 x0) (str1 x1))
    | 91, [x0, x1] => .b (hasPre (str1 x0) (str1 x1))
    | 128, [x0] => .b (wildB (str1 x0))
    | 110, [x0] => .b (wildB (str1 x0))
    | 157, [x0] => .b (freeB (str1 x0))
    | 150, [x0] => .b (freeB (str1 x0))
    | 119, [x0, x1] => .b (less (dat1 x0) (dat1 x1))
    | 129, [x0, x1] => .b (datOk (rule1 x0) (dat1 x1))
    | 118, [x0, x1] => .b (rDatOk (int1 x0) (dat1 x1))
    | 158, [x0] => .i (orFrom (ints1 x0) 0)
    | 130, [x0, x1] => .i (datC (dat1 x0) (dat1 x1))
    | 93, [x0] => .b (setOk (set1 x0))
    | 83, [x0] => .b (setOk (set1 x0))
    | 117, [x0] => .b (singleB (int1 x0))
    | 85, [x0, x1] => .i (rOrd (set1 x0) (set1 x1))
    | 63, [x0, x1] => .b (sameB (set1 x0) (set1 x1))
    | 165, [x0, x1] => .b (hasSuf (str1 x0) (str1 x1))
    | 141, [x0, x1] => .b (hasSuf (str1 x0) (str1 x1))
    | 102, [x0, x1] => .tuple [.b (underV (str1 x0) (str1 x1)), .i (if nameOk (str1 x0) && nameOk (str1 x1) then 0 else 11)]
    | 84, [x0, x1] => .b (inB (str1 x0) (str1 x1))
    | 82, [x0] => .b (wild1 (str1 x0))
    | 101, [x0, x1, x2, x3] => .i (qC ⟨(str1 x0), (int1 x1)⟩ ⟨(str1 x2), (int1 x3)⟩)
    | 92, [x0, x1] => .i (qC (qst1 x0) (qst1 x1))
    | 103, [x0, x1] => .b (fits (int1 x0) (bool1 x1))
    | 86, [x0, x1] => .b (fits (int1 x0) (bool1 x1))
    | 104, [x0, x1] => .b (sigsOk (sigs1 x0) (str1 x1))
    | 89, [x0, x1] => .b (sigsOk (sigs1 x0) (str1 x1))
    | 61, [x0] => .b (qOk (qst1 x0))
    | 111, [x0] => .b (qOk (qst1 x0))
    | 20, [x0, x1] => .b (sameSgd (sgd1 x0) (sgd1 x1))
    | 60, [x0, x1] => .b (sameList (sgds1 x0) (sgds1 x1))
    | 18, [x0, x1] => .b (sameZ (zon1 x0) (zon1 x1))
    | 100, [x0, x1] => .i (qC (sgd1 x0).q (qst1 x1))
    | 99, [x0, x1, x2] => .tuple [.i (findIx (sgds1 x0) (qst1 x1)), .b (findOk (sgds1 x0) (qst1 x1))]
    | 46, [x0, x1] => .tuple [.i (findIx (zon1 x0).sets (qst1 x1)), .b (findOk (zon1 x0).sets (qst1 x1))]
    | 47, [x0] => .b (ordered (zon1 x0))
    | 48, [x0] => .b (apexHolds (zon1 x0))
    | 50, [x0] => .b (aliasB (lay1 x0))
    | 51, [x0] => .b (cutB (lay1 x0))
    | 52, [x0] => .b (glueB (lay1 x0))
    | 53, [x0] => .b (formB (lay1 x0))
    | 49, [x0] => .agg (layOf (zon1 x0)).d
    | 14, [x0] => .b (zoneOk (zon1 x0))
    | 13, [x0] => .tuple [.i (if zoneOk (zon1 x0) then serialOf (zon1 x0) else 0), .i (if zoneOk (zon1 x0) then 0 else 1)]
    | 59, [x0, x1] => .i (atF (zon1 x0).sets (qst1 x1))
    | 32, [x0] => .b (oneB (zon1 x0))
    | 33, [x0] => .b (twoB (zon1 x0))
    | 34, [x0] => .b (threeB (zon1 x0))
    | 151, [x0] => .list false ((cutsF (zon1 x0)).map sR)
    | 121, [x0] => .list false ((highF (zon1 x0)).map sR)
    | 87, [x0] => .list false ((behR (zon1 x0)).map sR)
    | 35, [x0] => .b (fourB (zon1 x0))
    | 88, [x0] => .list false ((ownF (zon1 x0)).map bR)
    | 36, [x0] => .b (fiveB (zon1 x0))
    | 11, [x0] => .b (refOk (zon1 x0))
    | 17, [x0] => .i (serialR (zon1 x0))
    | 9, [x0] => .b (fewZ (zon1 x0))
    | 65, [x0] => .b (serB (int1 x0))
    | 64, [x0] => .b (serB (int1 x0))
    | 16, [x0, x1] => .b (befB (int1 x0) (int1 x1))
    | 54, [x0, x1] => .b (befB (int1 x0) (int1 x1))
    | 23, [x0, x1] => .tuple [.b (lessF (int1 x0) (int1 x1)).1, .i (lessF (int1 x0) (int1 x1)).2]
    | 22, [x0, x1] => .tuple [.b (lessF (int1 x0) (int1 x1)).1, .i (lessF (int1 x0) (int1 x1)).2]
    | 25, [x0] => .tuple [.i (afterF (int1 x0)).1, .i (afterF (int1 x0)).2]
    | 24, [x0] => .tuple [.i (afterF (int1 x0)).1, .i (afterF (int1 x0)).2]
    | 67, [x0] => .agg (sgd1 x0).q.d
    | 41, [x0] => .agg (sgd1 x0).q.d
    | 112, [x0, x1] => .i (qO (qst1 x0) (qst1 x1))
    | 66, [x0, x1] => .i (atF (sgds1 x0) (qst1 x1))
    | 78, [x0, x1] => .b (askB (qsts1 x0) (qst1 x1))
    | 79, [x0, x1] => .list false ((sortedF (sgds1 x0) (sgd1 x1)).map Sgd.d)
    | 80, [x0, x1] => .list false ((addF (qsts1 x0) (qst1 x1)).map Qst.d)
    | 77, [x0] => .b (dltOk (dlt1 x0))
    | 27, [x0, x1] => .b (sameD (dlt1 x0) (dlt1 x1))
    | 10, [x0] => .b (fewD (dlt1 x0))
    | 21, [x0, x1, x2, x3] => .b (fewAll (zon1 x0) (zon1 x1) (dlt1 x2) (dlt1 x3))
    | 26, [x0, x1] => .tuple [.agg (diffR (zon1 x0) (zon1 x1)).1.d, .i (diffR (zon1 x0) (zon1 x1)).2]
    | 30, [x0, x1] => .tuple [.agg (applyR (zon1 x0) (dlt1 x1)).1.d, .i (applyR (zon1 x0) (dlt1 x1)).2]
    | 29, [x0, x1] => .tuple [.agg (joinR (dlt1 x0) (dlt1 x1)).1.d, .i (joinR (dlt1 x0) (dlt1 x1)).2]
    | 31, [x0, x1] => .agg (smallZ (int1 x0) (str1 x1)).d
    | 97, [x0] => .list false ((dats1 x0).map Dat.d)
    | 98, [x0] => .list false ((sigs1 x0).map RSig.d)
    | 45, [x0] => .agg (sgd1 x0).d
    | 62, [x0] => .agg (sgd1 x0).d
    | 19, [x0, x1] => .tuple [.agg (findR (zon1 x0) (qst1 x1)).1.d, .b (findR (zon1 x0) (qst1 x1)).2.1, .i (findR (zon1 x0) (qst1 x1)).2.2]
    | 38, [x0] => .fmap (kvP (mapP (sgds1 x0)))
    | 105, [x0, x1] => .b (eqDat (dats1 x0) (dats1 x1))
    | 106, [x0, x1] => .b (eqSig (sigs1 x0) (sigs1 x1))
    | 58, [x0, x1] => .b (sameX (sgd1 x0) (sgd1 x1))
    | 56, [x0, x1] => .tuple [.agg (sgd1 x0).q.d, .b (newB (mapc1 x1) (sgd1 x0).q)]
    | 57, [x0, x1] => .tuple [.agg (sgd1 x0).d, .b (diffS (pget (mapc1 x1) (sgd1 x0).q) (sgd1 x0))]
    | 40, [x0, x1] => .tuple [.agg (sgd1 x0).d, .b (newB (mapc1 x1) (sgd1 x0).q)]
    | 68, [x0, x1] => .tuple [.agg (sgd1 x0).d, .b (newB (mapc1 x1) (sgd1 x0).q)]
    | 44, [x0] => .tuple [.agg (sgd1 x0).d, .b true]
    | 76, [x0] => .tuple [.agg (sgd1 x0).d, .b true]
    | 69, [x0] => .agg (qst1 x0).d
    | 75, [x0, x1] => .tuple [.agg (qst1 x0).d, .b (newB (mapc1 x1) (qst1 x0))]
    | 55, [x0, x1] => .list false (((sgds1 x0).filterMap (d1S (capm1 x1))).map Qst.d)
    | 73, [x0, x1] => .list false (((qsts1 x0).filterMap (j3S (capm1 x1))).map Qst.d)
    | 39, [x0, x1] => .list false (((sgds1 x0).filterMap (semS (x1))).map Sgd.d)
    | 43, [x0] => .fn (.func 96) [] [.eptr [.fn (.func 41) [] []]]
    | 96, [x0, x1, x2] => .i (qC (sgd1 x0).q (sgd1 x1).q)
    | 72, [x0] => .fn (.func 109) [] [.eptr [.fn (.func 69) [] []]]
    | 109, [x0, x1, x2] => .i (qC (qst1 x0) (qst1 x1))
    | _, _ => .junk
@[go_sem] theorem qnp176 : Qn.pure 176 = true := rfl
@[go_sem] theorem qnf176 {x0 x1 : D} : Qn.pf 176 [x0, x1] = .i (lastIx (str1 x0) (int1 x1)) := rfl
@[go_sem] theorem qnp169 : Qn.pure 169 = true := rfl
@[go_sem] theorem qnf169 {x0 x1 : D} : Qn.pf 169 [x0, x1] = .i (lastIx (str1 x0) (int1 x1)) := rfl
@[go_sem] theorem qnp153 : Qn.pure 153 = true := rfl
@[go_sem] theorem qnf153 {x0 : D} : Qn.pf 153 [x0] = .b (labelOk (str1 x0)) := rfl
@[go_sem] theorem qnp114 : Qn.pure 114 = true := rfl
@[go_sem] theorem qnf114 {x0 : D} : Qn.pf 114 [x0] = .b (labelOk (str1 x0)) := rfl
@[go_sem] theorem qnp113 : Qn.pure 113 = true := rfl
@[go_sem] theorem qnf113 {x0 : D} : Qn.pf 113 [x0] = .list false ((splitF (str1 x0)).map sR) := rfl
@[go_sem] theorem qnp81 : Qn.pure 81 = true := rfl
@[go_sem] theorem qnf81 {x0 : D} : Qn.pf 81 [x0] = .b (nameOk (str1 x0)) := rfl
@[go_sem] theorem qnp123 : Qn.pure 123 = true := rfl
@[go_sem] theorem qnf123 {x0 : D} : Qn.pf 123 [x0] = .b (nameOk (str1 x0)) := rfl
@[go_sem] theorem qnp90 : Qn.pure 90 = true := rfl
@[go_sem] theorem qnf90 {x0 : D} : Qn.pf 90 [x0] = .b (nameOk (str1 x0)) := rfl
@[go_sem] theorem qnp115 : Qn.pure 115 = true := rfl
@[go_sem] theorem qnf115 {x0 : D} : Qn.pf 115 [x0] = .list false ((partsOf (str1 x0)).map sR) := rfl
@[go_sem] theorem qnp171 : Qn.pure 171 = true := rfl
@[go_sem] theorem qnf171 {x0 x1 : D} : Qn.pf 171 [x0, x1] = .i (Go.Lib.compareBytes (str1 x0) (str1 x1)) := rfl
@[go_sem] theorem qnp155 : Qn.pure 155 = true := rfl
@[go_sem] theorem qnf155 {x0 x1 : D} : Qn.pf 155 [x0, x1] = .i (Go.Lib.compareBytes (str1 x0) (str1 x1)) := rfl
@[go_sem] theorem qnp122 : Qn.pure 122 = true := rfl
@[go_sem] theorem qnf122 {x0 x1 : D} : Qn.pf 122 [x0, x1] = .i (nmOrd (str1 x0) (str1 x1)) := rfl
@[go_sem] theorem qnp120 : Qn.pure 120 = true := rfl
@[go_sem] theorem qnf120 {x0 x1 : D} : Qn.pf 120 [x0, x1] = .tuple [.i (if nameOk (str1 x0) && nameOk (str1 x1) then nmCmp (str1 x0) (str1 x1) else 0), .i (if nameOk (str1 x0) && nameOk (str1 x1) then 0 else 11)] := rfl
@[go_sem] theorem qnp125 : Qn.pure 125 = true := rfl
@[go_sem] theorem qnf125 {x0 x1 : D} : Qn.pf 125 [x0, x1] = .tuple [.i (if nameOk (str1 x0) && nameOk (str1 x1) then nmCmp (str1 x0) (str1 x1) else 0), .i (if nameOk (str1 x0) && nameOk (str1 x1) then 0 else 11)] := rfl
@[go_sem] theorem qnp127 : Qn.pure 127 = true := rfl
@[go_sem] theorem qnf127 {x0 x1 x2 : D} : Qn.pf 127 [x0, x1, x2] = .b (inR (int1 x0) (int1 x1) (int1 x2)) := rfl
@[go_sem] theorem qnp172 : Qn.pure 172 = true := rfl
@[go_sem] theorem qnf172 {x0 x1 x2 : D} : Qn.pf 172 [x0, x1, x2] = .b (inR (int1 x0) (int1 x1) (int1 x2)) := rfl
@[go_sem] theorem qnp116 : Qn.pure 116 = true := rfl
@[go_sem] theorem qnf116 {x0 x1 x2 : D} : Qn.pf 116 [x0, x1, x2] = .b (inR (int1 x0) (int1 x1) (int1 x2)) := rfl
@[go_sem] theorem qnp156 : Qn.pure 156 = true := rfl
@[go_sem] theorem qnf156 {x0 : D} : Qn.pf 156 [x0] = .b ((int1 x0) != (int1 x0)) := rfl
@[go_sem] theorem qnp173 : Qn.pure 173 = true := rfl
@[go_sem] theorem qnf173 {x0 : D} : Qn.pf 173 [x0] = .b ((str1 x0) != (str1 x0)) := rfl
@[go_sem] theorem qnp126 : Qn.pure 126 = true := rfl
@[go_sem] theorem qnf126 {x0 x1 : D} : Qn.pf 126 [x0, x1] = .i (cmpI (int1 x0) (int1 x1)) := rfl
@[go_sem] theorem qnp159 : Qn.pure 159 = true := rfl
@[go_sem] theorem qnf159 {x0 x1 : D} : Qn.pf 159 [x0, x1] = .i (cmpS (str1 x0) (str1 x1)) := rfl
@[go_sem] theorem qnp124 : Qn.pure 124 = true := rfl
@[go_sem] theorem qnf124 {x0 x1 : D} : Qn.pf 124 [x0, x1] = .b (hasPre (str1 x0) (str1 x1)) := rfl
@[go_sem] theorem qnp91 : Qn.pure 91 = true := rfl
@[go_sem] theorem qnf91 {x0 x1 : D} : Qn.pf 91 [x0, x1] = .b (hasPre (str1 x0) (str1 x1)) := rfl
@[go_sem] theorem qnp128 : Qn.pure 128 = true := rfl
@[go_sem] theorem qnf128 {x0 : D} : Qn.pf 128 [x0] = .b (wildB (str1 x0)) := rfl
@[go_sem] theorem qnp110 : Qn.pure 110 = true := rfl
@[go_sem] theorem qnf110 {x0 : D} : Qn.pf 110 [x0] = .b (wildB (str1 x0)) := rfl
@[go_sem] theorem qnp157 : Qn.pure 157 = true := rfl
@[go_sem] theorem qnf157 {x0 : D} : Qn.pf 157 [x0] = .b (freeB (str1 x0)) := rfl
@[go_sem] theorem qnp150 : Qn.pure 150 = true := rfl
@[go_sem] theorem qnf150 {x0 : D} : Qn.pf 150 [x0] = .b (freeB (str1 x0)) := rfl
@[go_sem] theorem qnp119 : Qn.pure 119 = true := rfl
@[go_sem] theorem qnf119 {x0 x1 : D} : Qn.pf 119 [x0, x1] = .b (less (dat1 x0) (dat1 x1)) := rfl
@[go_sem] theorem qnp129 : Qn.pure 129 = true := rfl
@[go_sem] theorem qnf129 {x0 x1 : D} : Qn.pf 129 [x0, x1] = .b (datOk (rule1 x0) (dat1 x1)) := rfl
@[go_sem] theorem qnp118 : Qn.pure 118 = true := rfl
@[go_sem] theorem qnf118 {x0 x1 : D} : Qn.pf 118 [x0, x1] = .b (rDatOk (int1 x0) (dat1 x1)) := rfl
@[go_sem] theorem qnp158 : Qn.pure 158 = true := rfl
@[go_sem] theorem qnf158 {x0 : D} : Qn.pf 158 [x0] = .i (orFrom (ints1 x0) 0) := rfl
@[go_sem] theorem qnp130 : Qn.pure 130 = true := rfl
@[go_sem] theorem qnf130 {x0 x1 : D} : Qn.pf 130 [x0, x1] = .i (datC (dat1 x0) (dat1 x1)) := rfl
@[go_sem] theorem qnp93 : Qn.pure 93 = true := rfl
@[go_sem] theorem qnf93 {x0 : D} : Qn.pf 93 [x0] = .b (setOk (set1 x0)) := rfl
@[go_sem] theorem qnp83 : Qn.pure 83 = true := rfl
@[go_sem] theorem qnf83 {x0 : D} : Qn.pf 83 [x0] = .b (setOk (set1 x0)) := rfl
@[go_sem] theorem qnp117 : Qn.pure 117 = true := rfl
@[go_sem] theorem qnf117 {x0 : D} : Qn.pf 117 [x0] = .b (singleB (int1 x0)) := rfl
@[go_sem] theorem qnp85 : Qn.pure 85 = true := rfl
@[go_sem] theorem qnf85 {x0 x1 : D} : Qn.pf 85 [x0, x1] = .i (rOrd (set1 x0) (set1 x1)) := rfl
@[go_sem] theorem qnp63 : Qn.pure 63 = true := rfl
@[go_sem] theorem qnf63 {x0 x1 : D} : Qn.pf 63 [x0, x1] = .b (sameB (set1 x0) (set1 x1)) := rfl
@[go_sem] theorem qnp165 : Qn.pure 165 = true := rfl
@[go_sem] theorem qnf165 {x0 x1 : D} : Qn.pf 165 [x0, x1] = .b (hasSuf (str1 x0) (str1 x1)) := rfl
@[go_sem] theorem qnp141 : Qn.pure 141 = true := rfl
@[go_sem] theorem qnf141 {x0 x1 : D} : Qn.pf 141 [x0, x1] = .b (hasSuf (str1 x0) (str1 x1)) := rfl
@[go_sem] theorem qnp102 : Qn.pure 102 = true := rfl
@[go_sem] theorem qnf102 {x0 x1 : D} : Qn.pf 102 [x0, x1] = .tuple [.b (underV (str1 x0) (str1 x1)), .i (if nameOk (str1 x0) && nameOk (str1 x1) then 0 else 11)] := rfl
@[go_sem] theorem qnp84 : Qn.pure 84 = true := rfl
@[go_sem] theorem qnf84 {x0 x1 : D} : Qn.pf 84 [x0, x1] = .b (inB (str1 x0) (str1 x1)) := rfl
@[go_sem] theorem qnp82 : Qn.pure 82 = true := rfl
@[go_sem] theorem qnf82 {x0 : D} : Qn.pf 82 [x0] = .b (wild1 (str1 x0)) := rfl
@[go_sem] theorem qnp101 : Qn.pure 101 = true := rfl
@[go_sem] theorem qnf101 {x0 x1 x2 x3 : D} : Qn.pf 101 [x0, x1, x2, x3] = .i (qC ⟨(str1 x0), (int1 x1)⟩ ⟨(str1 x2), (int1 x3)⟩) := rfl
@[go_sem] theorem qnp92 : Qn.pure 92 = true := rfl
@[go_sem] theorem qnf92 {x0 x1 : D} : Qn.pf 92 [x0, x1] = .i (qC (qst1 x0) (qst1 x1)) := rfl
@[go_sem] theorem qnp103 : Qn.pure 103 = true := rfl
@[go_sem] theorem qnf103 {x0 x1 : D} : Qn.pf 103 [x0, x1] = .b (fits (int1 x0) (bool1 x1)) := rfl
@[go_sem] theorem qnp86 : Qn.pure 86 = true := rfl
@[go_sem] theorem qnf86 {x0 x1 : D} : Qn.pf 86 [x0, x1] = .b (fits (int1 x0) (bool1 x1)) := rfl
@[go_sem] theorem qnp104 : Qn.pure 104 = true := rfl
@[go_sem] theorem qnf104 {x0 x1 : D} : Qn.pf 104 [x0, x1] = .b (sigsOk (sigs1 x0) (str1 x1)) := rfl
@[go_sem] theorem qnp89 : Qn.pure 89 = true := rfl
@[go_sem] theorem qnf89 {x0 x1 : D} : Qn.pf 89 [x0, x1] = .b (sigsOk (sigs1 x0) (str1 x1)) := rfl
@[go_sem] theorem qnp61 : Qn.pure 61 = true := rfl
@[go_sem] theorem qnf61 {x0 : D} : Qn.pf 61 [x0] = .b (qOk (qst1 x0)) := rfl
@[go_sem] theorem qnp111 : Qn.pure 111 = true := rfl
@[go_sem] theorem qnf111 {x0 : D} : Qn.pf 111 [x0] = .b (qOk (qst1 x0)) := rfl
@[go_sem] theorem qnp20 : Qn.pure 20 = true := rfl
@[go_sem] theorem qnf20 {x0 x1 : D} : Qn.pf 20 [x0, x1] = .b (sameSgd (sgd1 x0) (sgd1 x1)) := rfl
@[go_sem] theorem qnp60 : Qn.pure 60 = true := rfl
@[go_sem] theorem qnf60 {x0 x1 : D} : Qn.pf 60 [x0, x1] = .b (sameList (sgds1 x0) (sgds1 x1)) := rfl
@[go_sem] theorem qnp18 : Qn.pure 18 = true := rfl
@[go_sem] theorem qnf18 {x0 x1 : D} : Qn.pf 18 [x0, x1] = .b (sameZ (zon1 x0) (zon1 x1)) := rfl
@[go_sem] theorem qnp100 : Qn.pure 100 = true := rfl
@[go_sem] theorem qnf100 {x0 x1 : D} : Qn.pf 100 [x0, x1] = .i (qC (sgd1 x0).q (qst1 x1)) := rfl
@[go_sem] theorem qnp99 : Qn.pure 99 = true := rfl
@[go_sem] theorem qnf99 {x0 x1 x2 : D} : Qn.pf 99 [x0, x1, x2] = .tuple [.i (findIx (sgds1 x0) (qst1 x1)), .b (findOk (sgds1 x0) (qst1 x1))] := rfl
@[go_sem] theorem qnp46 : Qn.pure 46 = true := rfl
@[go_sem] theorem qnf46 {x0 x1 : D} : Qn.pf 46 [x0, x1] = .tuple [.i (findIx (zon1 x0).sets (qst1 x1)), .b (findOk (zon1 x0).sets (qst1 x1))] := rfl
@[go_sem] theorem qnp47 : Qn.pure 47 = true := rfl
@[go_sem] theorem qnf47 {x0 : D} : Qn.pf 47 [x0] = .b (ordered (zon1 x0)) := rfl
@[go_sem] theorem qnp48 : Qn.pure 48 = true := rfl
@[go_sem] theorem qnf48 {x0 : D} : Qn.pf 48 [x0] = .b (apexHolds (zon1 x0)) := rfl
@[go_sem] theorem qnp50 : Qn.pure 50 = true := rfl
@[go_sem] theorem qnf50 {x0 : D} : Qn.pf 50 [x0] = .b (aliasB (lay1 x0)) := rfl
@[go_sem] theorem qnp51 : Qn.pure 51 = true := rfl
@[go_sem] theorem qnf51 {x0 : D} : Qn.pf 51 [x0] = .b (cutB (lay1 x0)) := rfl
@[go_sem] theorem qnp52 : Qn.pure 52 = true := rfl
@[go_sem] theorem qnf52 {x0 : D} : Qn.pf 52 [x0] = .b (glueB (lay1 x0)) := rfl
@[go_sem] theorem qnp53 : Qn.pure 53 = true := rfl
@[go_sem] theorem qnf53 {x0 : D} : Qn.pf 53 [x0] = .b (formB (lay1 x0)) := rfl
@[go_sem] theorem qnp49 : Qn.pure 49 = true := rfl
@[go_sem] theorem qnf49 {x0 : D} : Qn.pf 49 [x0] = .agg (layOf (zon1 x0)).d := rfl
@[go_sem] theorem qnp14 : Qn.pure 14 = true := rfl
@[go_sem] theorem qnf14 {x0 : D} : Qn.pf 14 [x0] = .b (zoneOk (zon1 x0)) := rfl
@[go_sem] theorem qnp13 : Qn.pure 13 = true := rfl
@[go_sem] theorem qnf13 {x0 : D} : Qn.pf 13 [x0] = .tuple [.i (if zoneOk (zon1 x0) then serialOf (zon1 x0) else 0), .i (if zoneOk (zon1 x0) then 0 else 1)] := rfl
@[go_sem] theorem qnp59 : Qn.pure 59 = true := rfl
@[go_sem] theorem qnf59 {x0 x1 : D} : Qn.pf 59 [x0, x1] = .i (atF (zon1 x0).sets (qst1 x1)) := rfl
@[go_sem] theorem qnp32 : Qn.pure 32 = true := rfl
@[go_sem] theorem qnf32 {x0 : D} : Qn.pf 32 [x0] = .b (oneB (zon1 x0)) := rfl
@[go_sem] theorem qnp33 : Qn.pure 33 = true := rfl
@[go_sem] theorem qnf33 {x0 : D} : Qn.pf 33 [x0] = .b (twoB (zon1 x0)) := rfl
@[go_sem] theorem qnp34 : Qn.pure 34 = true := rfl
@[go_sem] theorem qnf34 {x0 : D} : Qn.pf 34 [x0] = .b (threeB (zon1 x0)) := rfl
@[go_sem] theorem qnp151 : Qn.pure 151 = true := rfl
@[go_sem] theorem qnf151 {x0 : D} : Qn.pf 151 [x0] = .list false ((cutsF (zon1 x0)).map sR) := rfl
@[go_sem] theorem qnp121 : Qn.pure 121 = true := rfl
@[go_sem] theorem qnf121 {x0 : D} : Qn.pf 121 [x0] = .list false ((highF (zon1 x0)).map sR) := rfl
@[go_sem] theorem qnp87 : Qn.pure 87 = true := rfl
@[go_sem] theorem qnf87 {x0 : D} : Qn.pf 87 [x0] = .list false ((behR (zon1 x0)).map sR) := rfl
@[go_sem] theorem qnp35 : Qn.pure 35 = true := rfl
@[go_sem] theorem qnf35 {x0 : D} : Qn.pf 35 [x0] = .b (fourB (zon1 x0)) := rfl
@[go_sem] theorem qnp88 : Qn.pure 88 = true := rfl
@[go_sem] theorem qnf88 {x0 : D} : Qn.pf 88 [x0] = .list false ((ownF (zon1 x0)).map bR) := rfl
@[go_sem] theorem qnp36 : Qn.pure 36 = true := rfl
@[go_sem] theorem qnf36 {x0 : D} : Qn.pf 36 [x0] = .b (fiveB (zon1 x0)) := rfl
@[go_sem] theorem qnp11 : Qn.pure 11 = true := rfl
@[go_sem] theorem qnf11 {x0 : D} : Qn.pf 11 [x0] = .b (refOk (zon1 x0)) := rfl
@[go_sem] theorem qnp17 : Qn.pure 17 = true := rfl
@[go_sem] theorem qnf17 {x0 : D} : Qn.pf 17 [x0] = .i (serialR (zon1 x0)) := rfl
@[go_sem] theorem qnp9 : Qn.pure 9 = true := rfl
@[go_sem] theorem qnf9 {x0 : D} : Qn.pf 9 [x0] = .b (fewZ (zon1 x0)) := rfl
@[go_sem] theorem qnp65 : Qn.pure 65 = true := rfl
@[go_sem] theorem qnf65 {x0 : D} : Qn.pf 65 [x0] = .b (serB (int1 x0)) := rfl
@[go_sem] theorem qnp64 : Qn.pure 64 = true := rfl
@[go_sem] theorem qnf64 {x0 : D} : Qn.pf 64 [x0] = .b (serB (int1 x0)) := rfl
@[go_sem] theorem qnp16 : Qn.pure 16 = true := rfl
@[go_sem] theorem qnf16 {x0 x1 : D} : Qn.pf 16 [x0, x1] = .b (befB (int1 x0) (int1 x1)) := rfl
@[go_sem] theorem qnp54 : Qn.pure 54 = true := rfl
@[go_sem] theorem qnf54 {x0 x1 : D} : Qn.pf 54 [x0, x1] = .b (befB (int1 x0) (int1 x1)) := rfl
@[go_sem] theorem qnp23 : Qn.pure 23 = true := rfl
@[go_sem] theorem qnf23 {x0 x1 : D} : Qn.pf 23 [x0, x1] = .tuple [.b (lessF (int1 x0) (int1 x1)).1, .i (lessF (int1 x0) (int1 x1)).2] := rfl
@[go_sem] theorem qnp22 : Qn.pure 22 = true := rfl
@[go_sem] theorem qnf22 {x0 x1 : D} : Qn.pf 22 [x0, x1] = .tuple [.b (lessF (int1 x0) (int1 x1)).1, .i (lessF (int1 x0) (int1 x1)).2] := rfl
@[go_sem] theorem qnp25 : Qn.pure 25 = true := rfl
@[go_sem] theorem qnf25 {x0 : D} : Qn.pf 25 [x0] = .tuple [.i (afterF (int1 x0)).1, .i (afterF (int1 x0)).2] := rfl
@[go_sem] theorem qnp24 : Qn.pure 24 = true := rfl
@[go_sem] theorem qnf24 {x0 : D} : Qn.pf 24 [x0] = .tuple [.i (afterF (int1 x0)).1, .i (afterF (int1 x0)).2] := rfl
@[go_sem] theorem qnp67 : Qn.pure 67 = true := rfl
@[go_sem] theorem qnf67 {x0 : D} : Qn.pf 67 [x0] = .agg (sgd1 x0).q.d := rfl
@[go_sem] theorem qnp41 : Qn.pure 41 = true := rfl
@[go_sem] theorem qnf41 {x0 : D} : Qn.pf 41 [x0] = .agg (sgd1 x0).q.d := rfl
@[go_sem] theorem qnp112 : Qn.pure 112 = true := rfl
@[go_sem] theorem qnf112 {x0 x1 : D} : Qn.pf 112 [x0, x1] = .i (qO (qst1 x0) (qst1 x1)) := rfl
@[go_sem] theorem qnp66 : Qn.pure 66 = true := rfl
@[go_sem] theorem qnf66 {x0 x1 : D} : Qn.pf 66 [x0, x1] = .i (atF (sgds1 x0) (qst1 x1)) := rfl
@[go_sem] theorem qnp78 : Qn.pure 78 = true := rfl
@[go_sem] theorem qnf78 {x0 x1 : D} : Qn.pf 78 [x0, x1] = .b (askB (qsts1 x0) (qst1 x1)) := rfl
@[go_sem] theorem qnp79 : Qn.pure 79 = true := rfl
@[go_sem] theorem qnf79 {x0 x1 : D} : Qn.pf 79 [x0, x1] = .list false ((sortedF (sgds1 x0) (sgd1 x1)).map Sgd.d) := rfl
@[go_sem] theorem qnp80 : Qn.pure 80 = true := rfl
@[go_sem] theorem qnf80 {x0 x1 : D} : Qn.pf 80 [x0, x1] = .list false ((addF (qsts1 x0) (qst1 x1)).map Qst.d) := rfl
@[go_sem] theorem qnp77 : Qn.pure 77 = true := rfl
@[go_sem] theorem qnf77 {x0 : D} : Qn.pf 77 [x0] = .b (dltOk (dlt1 x0)) := rfl
@[go_sem] theorem qnp27 : Qn.pure 27 = true := rfl
@[go_sem] theorem qnf27 {x0 x1 : D} : Qn.pf 27 [x0, x1] = .b (sameD (dlt1 x0) (dlt1 x1)) := rfl
@[go_sem] theorem qnp10 : Qn.pure 10 = true := rfl
@[go_sem] theorem qnf10 {x0 : D} : Qn.pf 10 [x0] = .b (fewD (dlt1 x0)) := rfl
@[go_sem] theorem qnp21 : Qn.pure 21 = true := rfl
@[go_sem] theorem qnf21 {x0 x1 x2 x3 : D} : Qn.pf 21 [x0, x1, x2, x3] = .b (fewAll (zon1 x0) (zon1 x1) (dlt1 x2) (dlt1 x3)) := rfl
@[go_sem] theorem qnp26 : Qn.pure 26 = true := rfl
@[go_sem] theorem qnf26 {x0 x1 : D} : Qn.pf 26 [x0, x1] = .tuple [.agg (diffR (zon1 x0) (zon1 x1)).1.d, .i (diffR (zon1 x0) (zon1 x1)).2] := rfl
@[go_sem] theorem qnp30 : Qn.pure 30 = true := rfl
@[go_sem] theorem qnf30 {x0 x1 : D} : Qn.pf 30 [x0, x1] = .tuple [.agg (applyR (zon1 x0) (dlt1 x1)).1.d, .i (applyR (zon1 x0) (dlt1 x1)).2] := rfl
@[go_sem] theorem qnp29 : Qn.pure 29 = true := rfl
@[go_sem] theorem qnf29 {x0 x1 : D} : Qn.pf 29 [x0, x1] = .tuple [.agg (joinR (dlt1 x0) (dlt1 x1)).1.d, .i (joinR (dlt1 x0) (dlt1 x1)).2] := rfl
@[go_sem] theorem qnp31 : Qn.pure 31 = true := rfl
@[go_sem] theorem qnf31 {x0 x1 : D} : Qn.pf 31 [x0, x1] = .agg (smallZ (int1 x0) (str1 x1)).d := rfl
@[go_sem] theorem qnp97 : Qn.pure 97 = true := rfl
@[go_sem] theorem qnf97 {x0 : D} : Qn.pf 97 [x0] = .list false ((dats1 x0).map Dat.d) := rfl
@[go_sem] theorem qnp98 : Qn.pure 98 = true := rfl
@[go_sem] theorem qnf98 {x0 : D} : Qn.pf 98 [x0] = .list false ((sigs1 x0).map RSig.d) := rfl
@[go_sem] theorem qnp45 : Qn.pure 45 = true := rfl
@[go_sem] theorem qnf45 {x0 : D} : Qn.pf 45 [x0] = .agg (sgd1 x0).d := rfl
@[go_sem] theorem qnp62 : Qn.pure 62 = true := rfl
@[go_sem] theorem qnf62 {x0 : D} : Qn.pf 62 [x0] = .agg (sgd1 x0).d := rfl
@[go_sem] theorem qnp19 : Qn.pure 19 = true := rfl
@[go_sem] theorem qnf19 {x0 x1 : D} : Qn.pf 19 [x0, x1] = .tuple [.agg (findR (zon1 x0) (qst1 x1)).1.d, .b (findR (zon1 x0) (qst1 x1)).2.1, .i (findR (zon1 x0) (qst1 x1)).2.2] := rfl
@[go_sem] theorem qnp38 : Qn.pure 38 = true := rfl
@[go_sem] theorem qnf38 {x0 : D} : Qn.pf 38 [x0] = .fmap (kvP (mapP (sgds1 x0))) := rfl
@[go_sem] theorem qnp105 : Qn.pure 105 = true := rfl
@[go_sem] theorem qnf105 {x0 x1 : D} : Qn.pf 105 [x0, x1] = .b (eqDat (dats1 x0) (dats1 x1)) := rfl
@[go_sem] theorem qnp106 : Qn.pure 106 = true := rfl
@[go_sem] theorem qnf106 {x0 x1 : D} : Qn.pf 106 [x0, x1] = .b (eqSig (sigs1 x0) (sigs1 x1)) := rfl
@[go_sem] theorem qnp58 : Qn.pure 58 = true := rfl
@[go_sem] theorem qnf58 {x0 x1 : D} : Qn.pf 58 [x0, x1] = .b (sameX (sgd1 x0) (sgd1 x1)) := rfl
@[go_sem] theorem qnp56 : Qn.pure 56 = true := rfl
@[go_sem] theorem qnf56 {x0 x1 : D} : Qn.pf 56 [x0, x1] = .tuple [.agg (sgd1 x0).q.d, .b (newB (mapc1 x1) (sgd1 x0).q)] := rfl
@[go_sem] theorem qnp57 : Qn.pure 57 = true := rfl
@[go_sem] theorem qnf57 {x0 x1 : D} : Qn.pf 57 [x0, x1] = .tuple [.agg (sgd1 x0).d, .b (diffS (pget (mapc1 x1) (sgd1 x0).q) (sgd1 x0))] := rfl
@[go_sem] theorem qnp40 : Qn.pure 40 = true := rfl
@[go_sem] theorem qnf40 {x0 x1 : D} : Qn.pf 40 [x0, x1] = .tuple [.agg (sgd1 x0).d, .b (newB (mapc1 x1) (sgd1 x0).q)] := rfl
@[go_sem] theorem qnp68 : Qn.pure 68 = true := rfl
@[go_sem] theorem qnf68 {x0 x1 : D} : Qn.pf 68 [x0, x1] = .tuple [.agg (sgd1 x0).d, .b (newB (mapc1 x1) (sgd1 x0).q)] := rfl
@[go_sem] theorem qnp44 : Qn.pure 44 = true := rfl
@[go_sem] theorem qnf44 {x0 : D} : Qn.pf 44 [x0] = .tuple [.agg (sgd1 x0).d, .b true] := rfl
@[go_sem] theorem qnp76 : Qn.pure 76 = true := rfl
@[go_sem] theorem qnf76 {x0 : D} : Qn.pf 76 [x0] = .tuple [.agg (sgd1 x0).d, .b true] := rfl
@[go_sem] theorem qnp69 : Qn.pure 69 = true := rfl
@[go_sem] theorem qnf69 {x0 : D} : Qn.pf 69 [x0] = .agg (qst1 x0).d := rfl
@[go_sem] theorem qnp75 : Qn.pure 75 = true := rfl
@[go_sem] theorem qnf75 {x0 x1 : D} : Qn.pf 75 [x0, x1] = .tuple [.agg (qst1 x0).d, .b (newB (mapc1 x1) (qst1 x0))] := rfl
@[go_sem] theorem qnp55 : Qn.pure 55 = true := rfl
@[go_sem] theorem qnf55 {x0 x1 : D} : Qn.pf 55 [x0, x1] = .list false (((sgds1 x0).filterMap (d1S (capm1 x1))).map Qst.d) := rfl
@[go_sem] theorem qnp73 : Qn.pure 73 = true := rfl
@[go_sem] theorem qnf73 {x0 x1 : D} : Qn.pf 73 [x0, x1] = .list false (((qsts1 x0).filterMap (j3S (capm1 x1))).map Qst.d) := rfl
@[go_sem] theorem qnp39 : Qn.pure 39 = true := rfl
@[go_sem] theorem qnf39 {x0 x1 : D} : Qn.pf 39 [x0, x1] = .list false (((sgds1 x0).filterMap (semS (x1))).map Sgd.d) := rfl
@[go_sem] theorem qnp43 : Qn.pure 43 = true := rfl
@[go_sem] theorem qnf43 {x0 : D} : Qn.pf 43 [x0] = .fn (.func 96) [] [.eptr [.fn (.func 41) [] []]] := rfl
@[go_sem] theorem qnp96 : Qn.pure 96 = true := rfl
@[go_sem] theorem qnf96 {x0 x1 x2 : D} : Qn.pf 96 [x0, x1, x2] = .i (qC (sgd1 x0).q (sgd1 x1).q) := rfl
@[go_sem] theorem qnp72 : Qn.pure 72 = true := rfl
@[go_sem] theorem qnf72 {x0 : D} : Qn.pf 72 [x0] = .fn (.func 109) [] [.eptr [.fn (.func 69) [] []]] := rfl
@[go_sem] theorem qnp109 : Qn.pure 109 = true := rfl
@[go_sem] theorem qnf109 {x0 x1 x2 : D} : Qn.pf 109 [x0, x1, x2] = .i (qC (qst1 x0) (qst1 x1)) := rfl
def QnB : Con := { Qn with bs := true }
@[go_sem] theorem qnB_p {k : FuncId} : QnB.pure k = Qn.pure k := rfl
@[go_sem] theorem qnB_f {k : FuncId} {xs : List D} : QnB.pf k xs = Qn.pf k xs := rfl
@[go_sem] theorem qnB_b : QnB.bs = true := rfl
@[go_sem] theorem qn_b : Qn.bs = false := rfl
@[go_sem] theorem qn_c : Qn.cf = false := rfl
@[go_sem] theorem qnB_c : QnB.cf = false := rfl
def QnF : Con := { Qn with cf := true }
@[go_sem] theorem qnF_p {k : FuncId} : QnF.pure k = Qn.pure k := rfl
@[go_sem] theorem qnF_f {k : FuncId} {xs : List D} : QnF.pf k xs = Qn.pf k xs := rfl
@[go_sem] theorem qnF_b : QnF.bs = false := rfl
@[go_sem] theorem qnF_c : QnF.cf = true := rfl
end Go.Proofs.YtfggmgafjabbjaaGreatDoor
namespace Go.Proofs.YtfggmgafjabbjaaGreatDoor
open Go.DL Go.Str Go.Rec Go.Cmp Go.Zon
set_option maxRecDepth 10000
set_option linter.unusedSimpArgs false
set_option linter.unusedVariables false
@[go_sem] theorem keysOk_P {m : PM} : keysOk Tryz.prog 43 (kvP m) = true := by
  induction m with
  | nil => rfl
  | cons p m ih => rw [kvP_cons]; simp only [keysOk, ih, Qst.d, ko43, Bool.and_self]
theorem bo105 : hasBody Tryz.prog 105 = true := by kernel_rfl
theorem eqdat_ct (a : List Dat) (b : List Dat) (hl : a.length ≤ 1000000) : PureCt Tryz.prog 105 [.list false (a.map Dat.d), .list false (b.map Dat.d)] (.b (eqDat a b)) := by
  refine pure_of_dw Tryz.func105 rfl bo105 (by simp [go_sem, D.nr, nrs, nrr]) (by simp [Tryz.f105]) ?_
  unfold Tryz.f105
  simp only [init_eq]
  have ff := True.intro
  refine stp Qn ?_
  refine dw_seq ?_
  refine stp Qn ?_
  refine cd (fun c1 => ?_) (fun c1 => ?_)
  · skip
    refine stp Qn ?_
    refine dw_ret ?_
    exact fin 0 (hr := by (try simp only [go_sem, ff]); all_goals (rw [show eqDat a b = false from decide_eq_false (eq_len (by omega))]))
  · skip
    have hab : a.length = b.length := by omega
    refine dw_skip ?_
    show DW _ _ _ _ _
    refine dw_seq ?_
    refine stp Qn ?_
    refine dw_block ?_
    refine lp (α := (Nat) × Nat) [0, 1, 12] (fun ⟨k, nx⟩ => (k ≤ a.length) ∧ (∀ i, i < k → a[i]! = b[i]!) ∧ True) (fun ⟨k, nx⟩ => a.length - k) (fun ⟨k, nx⟩ => [(13, .i k)]) (fun ⟨k, nx⟩ => []) (fun ⟨k, nx⟩ => nx) (0, _) (hA := ⟨iv, (by first | (intro i hi; omega) | (dsimp only; intro i hi; omega)), trivial⟩) (round := ?_)
    rintro ⟨k, nx⟩ ⟨hk, hv, -⟩
    show DW _ _ _ _ { n := _, t := tab _, h := _, nx := _, e := _ }
    simp only [List.cons_append, List.nil_append]
    refine stp Qn ?_
    refine dw_seq ?_
    refine cd (fun c2 => ?_) (fun c2 => ?_) (hp := rfl)
    · skip
      have hk2 : k < a.length := by simpa using c2
      have hk3 : k < b.length := by omega
      have ff := And.intro (getD_dat hk2) (And.intro (getD_dat hk3) ff)
      refine dw_skip ?_
      show DW _ _ _ _ _
      refine dw_seq ?_
      refine dw_block ?_
      refine stp Qn ?_
      refine stp Qn ?_
      refine cd (fun c3 => ?_) (fun c3 => ?_)
      · skip
        refine stp Qn ?_
        refine dw_ret ?_
        exact fin 0 (hr := by (try simp only [go_sem, ff]); all_goals (rw [show eqDat a b = false from decide_eq_false fun e => by subst e; simp at c3]))
      · skip
        refine dw_skip ?_
        show DW _ _ _ _ _
        refine rgn Qn ?_
        show ∃ _, _
        exact rnd (k + 1, _) (h1 := ⟨iv, (by (try dsimp only); intro i hi; by_cases e : i = k; subst e; exact dat_eqX c3; exact hv i (by omega)), trivial⟩)
    · skip
      refine dw_exit ?_
      show DW _ _ _ _ _
      refine stp Qn ?_
      refine dw_ret ?_
      exact fin 0 (hr := by (try simp only [go_sem, ff]); all_goals (rw [show eqDat a b = true from decide_eq_true (list_ext! hab fun i hi => hv i (by omega))]))
theorem bo106 : hasBody Tryz.prog 106 = true := by kernel_rfl
theorem eqsig_ct (a : List RSig) (b : List RSig) (hl : a.length ≤ 1000000) : PureCt Tryz.prog 106 [.list false (a.map RSig.d), .list false (b.map RSig.d)] (.b (eqSig a b)) := by
  refine pure_of_dw Tryz.func106 rfl bo106 (by simp [go_sem, D.nr, nrs, nrr]) (by simp [Tryz.f106]) ?_
  unfold Tryz.f106
  simp only [init_eq]
  have ff := True.intro
  refine stp Qn ?_
  refine dw_seq ?_
  refine stp Qn ?_
  refine cd (fun c1 => ?_) (fun c1 => ?_)
  · skip
    refine stp Qn ?_
    refine dw_ret ?_
    exact fin 0 (hr := by (try simp only [go_sem, ff]); all_goals (rw [show eqSig a b = false from decide_eq_false (eq_len (by omega))]))
  · skip
    have hab : a.length = b.length := by omega
    refine dw_skip ?_
    show DW _ _ _ _ _
    refine dw_seq ?_
    refine stp Qn ?_
    refine dw_block ?_
    refine lp (α := (Nat) × Nat) [0, 1, 12] (fun ⟨k, nx⟩ => (k ≤ a.length) ∧ (∀ i, i < k → a[i]! = b[i]!) ∧ True) (fun ⟨k, nx⟩ => a.length - k) (fun ⟨k, nx⟩ => [(13, .i k)]) (fun ⟨k, nx⟩ => []) (fun ⟨k, nx⟩ => nx) (0, _) (hA := ⟨iv, (by first | (intro i hi; omega) | (dsimp only; intro i hi; omega)), trivial⟩) (round := ?_)
    rintro ⟨k, nx⟩ ⟨hk, hv, -⟩
    show DW _ _ _ _ { n := _, t := tab _, h := _, nx := _, e := _ }
    simp only [List.cons_append, List.nil_append]
    refine stp Qn ?_
    refine dw_seq ?_
    refine cd (fun c2 => ?_) (fun c2 => ?_) (hp := rfl)
    · skip
      have hk2 : k < a.length := by simpa using c2
      have hk3 : k < b.length := by omega
      have ff := And.intro (getD_sig hk2) (And.intro (getD_sig hk3) ff)
      refine dw_skip ?_
      show DW _ _ _ _ _
      refine dw_seq ?_
      refine dw_block ?_
      refine stp Qn ?_
      refine stp Qn ?_
      refine cd (fun c3 => ?_) (fun c3 => ?_)
      · skip
        refine stp Qn ?_
        refine dw_ret ?_
        exact fin 0 (hr := by (try simp only [go_sem, ff]); all_goals (rw [show eqSig a b = false from decide_eq_false fun e => by subst e; simp at c3]))
      · skip
        refine dw_skip ?_
        show DW _ _ _ _ _
        refine rgn Qn ?_
        show ∃ _, _
        exact rnd (k + 1, _) (h1 := ⟨iv, (by (try dsimp only); intro i hi; by_cases e : i = k; subst e; exact sig_eqF c3; exact hv i (by omega)), trivial⟩)
    · skip
      refine dw_exit ?_
      show DW _ _ _ _ _
      refine stp Qn ?_
      refine dw_ret ?_
      exact fin 0 (hr := by (try simp only [go_sem, ff]); all_goals (rw [show eqSig a b = true from decide_eq_true (list_ext! hab fun i hi => hv i (by omega))]))
theorem bo58 : hasBody Tryz.prog 58 = true := by kernel_rfl
theorem dsame_ct (a : Sgd) (b : Sgd) (ha : fit1 a) : PureCt Tryz.prog 58 [.agg a.d, .agg b.d] (.b (sameX a b)) := by
  refine pure_of_dw Tryz.func58 rfl bo58 (by simp [go_sem, D.nr, nrs, nrr]) (by simp [Tryz.f58]) ?_
  unfold Tryz.f58
  simp only [init_eq]
  have ff := True.intro
  refine stp Qn ?_
  refine stp Qn ?_ (hok := by (try simp only [go_sem, ff]); all_goals (first | done | ((repeat' (with_reducible apply And.intro)) <;> first | exact (fun _ => eqdat_ct _ _ (Nat.le_trans ha.1 (by omega))) | (intros; exact (fun _ => eqdat_ct _ _ (Nat.le_trans ha.1 (by omega)))) | exact (fun _ => eqsig_ct _ _ (Nat.le_trans ha.2 (by omega))) | (intros; exact (fun _ => eqsig_ct _ _ (Nat.le_trans ha.2 (by omega)))) | skip)))
  refine dw_ret ?_
  exact fin 0 (hr := by (try simp only [go_sem, ff]); all_goals (rw [sameX_eq, Bool.and_assoc]))
theorem bo56 : hasBody Tryz.prog 56 = true := by kernel_rfl
theorem ddiff1_ct (s : Sgd) (m : PM) : PureCt Tryz.prog 56 [.agg s.d, .eptr [.fmap (kvP m)]] (.tuple [.agg s.q.d, .b (newB m s.q)]) := by
  refine pure_of_dw Tryz.func56 rfl bo56 (by simp [go_sem, D.nr, nrs, nrr]) (by simp [Tryz.f56]) ?_
  unfold Tryz.f56
  simp only [init_eq]
  have ff := True.intro
  refine stp Qn ?_
  refine stp Qn ?_ (hok := by (try simp only [go_sem, ff]); all_goals (first | done | ((repeat' (with_reducible apply And.intro)) <;> first | exact dplace_ct s | (intros; exact dplace_ct s) | skip)))
  rcases hp : pget m s.q with _ | x
  · skip
    have ff := And.intro @hp ff
    refine stp Qn ?_
    refine stp Qn ?_
    refine dw_ret ?_
    exact fin 3 (hr := by (try simp only [go_sem, ff]); all_goals (simp [newB, hp]))
  · skip
    have ff := And.intro @hp ff
    refine stp Qn ?_
    refine stp Qn ?_
    refine dw_ret ?_
    exact fin 3 (hr := by (try simp only [go_sem, ff]); all_goals (simp [newB, hp]))
theorem bo40 : hasBody Tryz.prog 40 = true := by kernel_rfl
theorem dapp1_ct (s : Sgd) (m : PM) : PureCt Tryz.prog 40 [.agg s.d, .eptr [.fmap (kvP m)]] (.tuple [.agg s.d, .b (newB m s.q)]) := by
  refine pure_of_dw Tryz.func40 rfl bo40 (by simp [go_sem, D.nr, nrs, nrr]) (by simp [Tryz.f40]) ?_
  unfold Tryz.f40
  simp only [init_eq]
  have ff := True.intro
  refine stp Qn ?_
  rcases hp : pget m s.q with _ | x
  · skip
    have ff := And.intro @hp ff
    refine stp QnF ?_ (hok := by (try simp only [go_sem, ff]); all_goals (first | done | ((repeat' (with_reducible apply And.intro)) <;> first | exact dplace_ct s | (intros; exact dplace_ct s) | skip)))
    refine stp Qn ?_
    refine dw_ret ?_
    exact fin 3 (hr := by (try simp only [go_sem, ff]); all_goals (simp [newB, hp]))
  · skip
    have ff := And.intro @hp ff
    refine stp QnF ?_ (hok := by (try simp only [go_sem, ff]); all_goals (first | done | ((repeat' (with_reducible apply And.intro)) <;> first | exact dplace_ct s | (intros; exact dplace_ct s) | skip)))
    refine stp Qn ?_
    refine dw_ret ?_
    exact fin 3 (hr := by (try simp only [go_sem, ff]); all_goals (simp [newB, hp]))
theorem bo57 : hasBody Tryz.prog 57 = true := by kernel_rfl
theorem ddiff2_ct (s : Sgd) (m : PM) (hs : fit1 s) (hm : ∀ x, pget m s.q = some x → fit1 x) : PureCt Tryz.prog 57 [.agg s.d, .eptr [.fmap (kvP m)]] (.tuple [.agg s.d, .b (diffS (pget m s.q) s)]) := by
  refine pure_of_dw Tryz.func57 rfl bo57 (by simp [go_sem, D.nr, nrs, nrr]) (by simp [Tryz.f57]) ?_
  unfold Tryz.f57
  simp only [init_eq]
  have ff := True.intro
  refine stp Qn ?_
  rcases hp : pget m s.q with _ | x
  · skip
    have ff := And.intro @hp ff
    refine stp QnF ?_ (hok := by (try simp only [go_sem, ff]); all_goals (first | done | ((repeat' (with_reducible apply And.intro)) <;> first | exact dplace_ct s | (intros; exact dplace_ct s) | skip)))
    refine stp Qn ?_ (hok := by (try simp only [go_sem, ff]); all_goals (first | done | ((repeat' (with_reducible apply And.intro)) <;> first | exact dclone_ct s hs | (intros; exact dclone_ct s hs) | exact dsame_ct x s (hm x hp) | (intros; exact dsame_ct x s (hm x hp)) | exact (fun _ => dsame_ct x s (hm x hp)) | (intros; exact (fun _ => dsame_ct x s (hm x hp))) | skip)))
    refine dw_ret ?_
    exact fin 3 (hr := by (try simp only [go_sem, ff]); all_goals (simp [diffS, hp]))
  · skip
    have ff := And.intro @hp ff
    refine stp QnF ?_ (hok := by (try simp only [go_sem, ff]); all_goals (first | done | ((repeat' (with_reducible apply And.intro)) <;> first | exact dplace_ct s | (intros; exact dplace_ct s) | skip)))
    refine stp Qn ?_ (hok := by (try simp only [go_sem, ff]); all_goals (first | done | ((repeat' (with_reducible apply And.intro)) <;> first | exact dclone_ct s hs | (intros; exact dclone_ct s hs) | exact dsame_ct x s (hm x hp) | (intros; exact dsame_ct x s (hm x hp)) | exact (fun _ => dsame_ct x s (hm x hp)) | (intros; exact (fun _ => dsame_ct x s (hm x hp))) | skip)))
    refine dw_ret ?_
    exact fin 3 (hr := by (try simp only [go_sem, ff]); all_goals (simp [diffS, hp]))
theorem bo44 : hasBody Tryz.prog 44 = true := by kernel_rfl
theorem dapp2_ct (s : Sgd) (hs : fit1 s) : PureCt Tryz.prog 44 [.agg s.d] (.tuple [.agg s.d, .b true]) := by
  refine pure_of_dw Tryz.func44 rfl bo44 (by simp [go_sem, D.nr, nrs, nrr]) (by simp [Tryz.f44]) ?_
  unfold Tryz.f44
  simp only [init_eq]
  have ff := True.intro
  refine stp Qn ?_
  refine stp Qn ?_ (hok := by (try simp only [go_sem, ff]); all_goals (exact dclone_ct s hs))
  refine dw_ret ?_
  exact fin 2 (hr := by (try simp only [go_sem, ff]); all_goals (rfl))
end Go.Proofs.YtfggmgafjabbjaaGreatDoor
namespace Go.Proofs.YtfggmgafjabbjaaGreatDoor
open Go.DL Go.Str Go.Rec Go.Cmp Go.Zon
set_option maxRecDepth 10000
set_option linter.unusedSimpArgs false
set_option linter.unusedVariables false
theorem bo43 : hasBody Tryz.prog 43 = true := by kernel_rfl
theorem dcomp_ct  : PureCt Tryz.prog 43 [.fn (.func 41) [] []] (.fn (.func 96) [] [.eptr [.fn (.func 41) [] []]]) := by
  refine pure_of_dw Tryz.func43 rfl bo43 (by simp [go_sem, D.nr, nrs, nrr]) (by simp [Tryz.f43]) ?_
  unfold Tryz.f43
  simp only [init_eq]
  have ff := True.intro
  refine stp Qn ?_
  refine stp Qn ?_
  refine dw_ret ?_
  exact fin 2 (hr := by (try simp only [go_sem, ff]); all_goals (rfl)) (hk := by (try simp only [go_sem, ff]); all_goals (first | done | rfl | (simp; done)))
theorem bo96 : hasBody Tryz.prog 96 = true := by kernel_rfl
theorem dcmp1_ct (a : Sgd) (b : Sgd) : PureCt Tryz.prog 96 [.agg a.d, .agg b.d, .eptr [.fn (.func 41) [] []]] (.i (qC a.q b.q)) := by
  refine pure_of_dw Tryz.func96 rfl bo96 (by simp [go_sem, D.nr, nrs, nrr]) (by simp [Tryz.f96]) ?_
  unfold Tryz.f96
  simp only [init_eq]
  have ff := True.intro
  refine stp Qn ?_
  refine stp Qn ?_ (hok := by (try simp only [go_sem, ff]); all_goals (first | done | ((repeat' (with_reducible apply And.intro)) <;> first | exact dplace_ct a | (intros; exact dplace_ct a) | exact dplace_ct b | (intros; exact dplace_ct b) | exact dcmppl_ct a.q b.q | (intros; exact dcmppl_ct a.q b.q) | skip)))
  refine dw_ret ?_
  exact fin 0 (hr := by (try simp only [go_sem, ff]); all_goals (rfl))
theorem bo55 : hasBody Tryz.prog 55 = true := by kernel_rfl
theorem dcollsq_ct (l : List Sgd) (m : PM) (hl : fitL l) : PureCt Tryz.prog 55 [.list false (l.map Sgd.d), .fn (.func 56) [] [.eptr [.fmap (kvP m)]]] (.list false ((l.filterMap (d1S m)).map Qst.d)) := by
  refine pure_of_dw Tryz.func55 rfl bo55 (by simp [go_sem, D.nr, nrs, nrr]) (by simp [Tryz.f55]) ?_
  unfold Tryz.f55
  simp only [init_eq]
  have ff := True.intro
  have hl1 := hl.1
  refine stp Qn ?_
  refine stp Qn ?_
  refine dw_seq ?_
  refine dw_own 5 43 (by simp only [go_sem, ff]) (by simp only [go_sem, ff]) ?_
  refine stp Qn ?_
  refine dw_block ?_
  refine lp (α := (Nat) × (Nat) × Nat) [1, 10, 11] (fun ⟨k, r, nx⟩ => (k ≤ l.length) ∧ (r < nx) ∧ True) (fun ⟨k, r, nx⟩ => l.length - k) (fun ⟨k, r, nx⟩ => [(5, .mrow r 0 ((l.take k).filterMap (d1S m)).length), (12, .i k)]) (fun ⟨k, r, nx⟩ => [(r, ⟨43, ((l.take k).filterMap (d1S m)).map Qst.d⟩)]) (fun ⟨k, r, nx⟩ => nx) (0, 2, _) (hA := ⟨iv, iv, trivial⟩) (round := ?_)
  rintro ⟨k, r, nx⟩ ⟨hk, hr, -⟩
  show DW _ _ _ _ { n := _, t := tab _, h := _, nx := _, e := _ }
  simp only [List.cons_append, List.nil_append]
  have hfl := fm_len (d1S m) l k
  have ff := And.intro @hr ff
  refine stp Qn ?_
  refine dw_seq ?_
  refine cd (fun c1 => ?_) (fun c1 => ?_) (hp := rfl)
  · skip
    have hk2 : k < l.length := by simpa using c1
    have ff := And.intro (getD_sgd hk2) ff
    refine dw_skip ?_
    show DW _ _ _ _ _
    refine dw_seq ?_
    refine dw_block ?_
    refine stp Qn ?_
    refine stp Qn ?_ (hok := by (try simp only [go_sem, ff]); all_goals (first | done | ((repeat' (with_reducible apply And.intro)) <;> first | exact ddiff1_ct l[k]! m | (intros; exact ddiff1_ct l[k]! m) | skip)))
    refine stp Qn ?_
    refine cd (fun c2 => ?_) (fun c2 => ?_)
    · skip
      refine rgn Qn ?_
      show DW _ _ _ _ _
      refine rgn Qn ?_
      show ∃ _, _
      have hst := fm_yes (f := d1S m) hk2 (by simp only [d1S]; rw [if_pos (by first | exact c2 | simpa using c2)])
      have hsd : ((l.take (k + 1)).filterMap (d1S m)).map Qst.d = ((l.take k).filterMap (d1S m)).map Qst.d ++ [[.v (.string (bs l[k]!.q.name)), .i l[k]!.q.ty]] := by rw [hst, List.map_append]; rfl
      have hsl : ((l.take (k + 1)).filterMap (d1S m)).length = ((l.take k).filterMap (d1S m)).length + 1 := by rw [hst, List.length_append]; rfl
      have ff := And.intro hsd (And.intro hsl ff)
      exact rnd (k + 1, (nx + 18), _) (h1 := ⟨iv, iv, trivial⟩)
    · skip
      refine dw_skip ?_
      show DW _ _ _ _ _
      refine rgn Qn ?_
      show ∃ _, _
      have ff := And.intro (fm_no (f := d1S m) hk2 (by simp only [d1S]; rw [if_neg (by rw [c2]; exact Bool.false_ne_true)])) ff
      exact rnd (k + 1, r, _) (h1 := ⟨iv, iv, trivial⟩)
  · skip
    refine dw_exit ?_
    show DW _ _ _ _ _
    have e9 : k = l.length := by have h9 : ¬ (k:Int) < l.length := (by simpa using c1); omega
    subst e9
    rw [List.take_length] at *
    refine stp Qn ?_
    refine dw_ret ?_
    exact fin 1 (hr := by (try simp only [go_sem, ff]); all_goals (rw [List.take_length]))
theorem bo39 : hasBody Tryz.prog 39 = true := by kernel_rfl
theorem dcollssA2_ct (l : List Sgd)  (hl : fitL l) : PureCt Tryz.prog 39 [.list false (l.map Sgd.d), .fn (.func 44) [] []] (.list false ((l.filterMap (some)).map Sgd.d)) := by
  refine pure_of_dw Tryz.func39 rfl bo39 (by simp [go_sem, D.nr, nrs, nrr]) (by simp [Tryz.f39]) ?_
  unfold Tryz.f39
  simp only [init_eq]
  have ff := True.intro
  have hl1 := hl.1
  refine stp Qn ?_
  refine stp Qn ?_
  refine dw_seq ?_
  refine dw_own 5 49 (by simp only [go_sem, ff]) (by simp only [go_sem, ff]) ?_
  refine stp Qn ?_
  refine dw_block ?_
  refine lp (α := (Nat) × (Nat) × Nat) [1, 10, 11] (fun ⟨k, r, nx⟩ => (k ≤ l.length) ∧ (r < nx) ∧ True) (fun ⟨k, r, nx⟩ => l.length - k) (fun ⟨k, r, nx⟩ => [(5, .mrow r 0 ((l.take k).filterMap (some)).length), (12, .i k)]) (fun ⟨k, r, nx⟩ => [(r, ⟨49, ((l.take k).filterMap (some)).map Sgd.d⟩)]) (fun ⟨k, r, nx⟩ => nx) (0, 2, _) (hA := ⟨iv, iv, trivial⟩) (round := ?_)
  rintro ⟨k, r, nx⟩ ⟨hk, hr, -⟩
  show DW _ _ _ _ { n := _, t := tab _, h := _, nx := _, e := _ }
  simp only [List.cons_append, List.nil_append]
  have hfl := fm_len (some) l k
  have ff := And.intro @hr ff
  refine stp Qn ?_
  refine dw_seq ?_
  refine cd (fun c1 => ?_) (fun c1 => ?_) (hp := rfl)
  · skip
    have hk2 : k < l.length := by simpa using c1
    have ff := And.intro (getD_sgd hk2) ff
    refine dw_skip ?_
    show DW _ _ _ _ _
    refine dw_seq ?_
    refine dw_block ?_
    refine stp Qn ?_
    refine stp Qn ?_ (hok := by (try simp only [go_sem, ff]); all_goals (first | done | ((repeat' (with_reducible apply And.intro)) <;> first | exact dapp2_ct l[k]! (hl.2 k hk2) | (intros; exact dapp2_ct l[k]! (hl.2 k hk2)) | skip)))
    refine stp Qn ?_
    refine cd (fun c2 => ?_) (fun c2 => ?_)
    · skip
      refine rgn Qn ?_
      show DW _ _ _ _ _
      refine rgn Qn ?_
      show ∃ _, _
      have hst := fm_yes (f := some) hk2 (rfl)
      have hsd : ((l.take (k + 1)).filterMap (some)).map Sgd.d = ((l.take k).filterMap (some)).map Sgd.d ++ [[.v (.string (bs l[k]!.set.name)), .i l[k]!.set.ty, .i l[k]!.set.life, .list false (l[k]!.set.data.map Dat.d), .list false (l[k]!.sigs.map RSig.d)]] := by rw [hst, List.map_append]; rfl
      have hsl : ((l.take (k + 1)).filterMap (some)).length = ((l.take k).filterMap (some)).length + 1 := by rw [hst, List.length_append]; rfl
      have ff := And.intro hsd (And.intro hsl ff)
      exact rnd (k + 1, (nx + 18), _) (h1 := ⟨iv, iv, trivial⟩)
    · skip
      refine dw_skip ?_
      show DW _ _ _ _ _
      refine rgn Qn ?_
      show ∃ _, _
      have ff := And.intro (fm_no (f := some) hk2 (by cases c2)) ff
      exact rnd (k + 1, r, _) (h1 := ⟨iv, iv, trivial⟩)
  · skip
    refine dw_exit ?_
    show DW _ _ _ _ _
    have e9 : k = l.length := by have h9 : ¬ (k:Int) < l.length := (by simpa using c1); omega
    subst e9
    rw [List.take_length] at *
    refine stp Qn ?_
    refine dw_ret ?_
    exact fin 1 (hr := by (try simp only [go_sem, ff]); all_goals (rw [List.take_length]))
theorem dcollssD2_ct (l : List Sgd) (m : PM) (hl : fitL l) (hm : ∀ k, k < l.length → ∀ x, pget m l[k]!.q = some x → fit1 x) : PureCt Tryz.prog 39 [.list false (l.map Sgd.d), .fn (.func 57) [] [.eptr [.fmap (kvP m)]]] (.list false ((l.filterMap (d2S m)).map Sgd.d)) := by
  refine pure_of_dw Tryz.func39 rfl bo39 (by simp [go_sem, D.nr, nrs, nrr]) (by simp [Tryz.f39]) ?_
  unfold Tryz.f39
  simp only [init_eq]
  have ff := True.intro
  have hl1 := hl.1
  refine stp Qn ?_
  refine stp Qn ?_
  refine dw_seq ?_
  refine dw_own 5 49 (by simp only [go_sem, ff]) (by simp only [go_sem, ff]) ?_
  refine stp Qn ?_
  refine dw_block ?_
  refine lp (α := (Nat) × (Nat) × Nat) [1, 10, 11] (fun ⟨k, r, nx⟩ => (k ≤ l.length) ∧ (r < nx) ∧ True) (fun ⟨k, r, nx⟩ => l.length - k) (fun ⟨k, r, nx⟩ => [(5, .mrow r 0 ((l.take k).filterMap (d2S m)).length), (12, .i k)]) (fun ⟨k, r, nx⟩ => [(r, ⟨49, ((l.take k).filterMap (d2S m)).map Sgd.d⟩)]) (fun ⟨k, r, nx⟩ => nx) (0, 2, _) (hA := ⟨iv, iv, trivial⟩) (round := ?_)
  rintro ⟨k, r, nx⟩ ⟨hk, hr, -⟩
  show DW _ _ _ _ { n := _, t := tab _, h := _, nx := _, e := _ }
  simp only [List.cons_append, List.nil_append]
  have hfl := fm_len (d2S m) l k
  have ff := And.intro @hr ff
  refine stp Qn ?_
  refine dw_seq ?_
  refine cd (fun c1 => ?_) (fun c1 => ?_) (hp := rfl)
  · skip
    have hk2 : k < l.length := by simpa using c1
    have ff := And.intro (getD_sgd hk2) ff
    refine dw_skip ?_
    show DW _ _ _ _ _
    refine dw_seq ?_
    refine dw_block ?_
    refine stp Qn ?_
    refine stp Qn ?_ (hok := by (try simp only [go_sem, ff]); all_goals (first | done | ((repeat' (with_reducible apply And.intro)) <;> first | exact ddiff2_ct l[k]! m (hl.2 k hk2) (hm k hk2) | (intros; exact ddiff2_ct l[k]! m (hl.2 k hk2) (hm k hk2)) | skip)))
    refine stp Qn ?_
    refine cd (fun c2 => ?_) (fun c2 => ?_)
    · skip
      refine rgn Qn ?_
      show DW _ _ _ _ _
      refine rgn Qn ?_
      show ∃ _, _
      have hst := fm_yes (f := d2S m) hk2 (by simp only [d2S]; rw [if_pos (by first | exact c2 | simpa using c2)])
      have hsd : ((l.take (k + 1)).filterMap (d2S m)).map Sgd.d = ((l.take k).filterMap (d2S m)).map Sgd.d ++ [[.v (.string (bs l[k]!.set.name)), .i l[k]!.set.ty, .i l[k]!.set.life, .list false (l[k]!.set.data.map Dat.d), .list false (l[k]!.sigs.map RSig.d)]] := by rw [hst, List.map_append]; rfl
      have hsl : ((l.take (k + 1)).filterMap (d2S m)).length = ((l.take k).filterMap (d2S m)).length + 1 := by rw [hst, List.length_append]; rfl
      have ff := And.intro hsd (And.intro hsl ff)
      exact rnd (k + 1, (nx + 18), _) (h1 := ⟨iv, iv, trivial⟩)
    · skip
      refine dw_skip ?_
      show DW _ _ _ _ _
      refine rgn Qn ?_
      show ∃ _, _
      have ff := And.intro (fm_no (f := d2S m) hk2 (by simp only [d2S]; rw [if_neg (by rw [c2]; exact Bool.false_ne_true)])) ff
      exact rnd (k + 1, r, _) (h1 := ⟨iv, iv, trivial⟩)
  · skip
    refine dw_exit ?_
    show DW _ _ _ _ _
    have e9 : k = l.length := by have h9 : ¬ (k:Int) < l.length := (by simpa using c1); omega
    subst e9
    rw [List.take_length] at *
    refine stp Qn ?_
    refine dw_ret ?_
    exact fin 1 (hr := by (try simp only [go_sem, ff]); all_goals (rw [List.take_length]))
theorem dcollssA1_ct (l : List Sgd) (m : PM) (hl : fitL l) (h : H) (n : Nat) : RCt Tryz.prog 39 [.list false (l.map Sgd.d), .fn (.func 40) [] [.eptr [.fmap (kvP m)]]] h n (fun d h' n' => ∃ r, d = .mrow r 0 (l.filterMap (goS m)).length ∧ h' = upd h r (some ⟨49, (l.filterMap (goS m)).map Sgd.d⟩) ∧ n ≤ r ∧ r < n') := by
  refine rct_of_dw Tryz.func39 rfl bo39 (by simp [Tryz.f39]) (fun hnone => ?_)
  unfold Tryz.f39
  have ff := True.intro
  have hl1 := hl.1
  refine stp Qn ?_
  refine stp Qn ?_
  refine dw_seq ?_
  refine dw_own 5 49 (by simp only [go_sem, ff]) (by simp only [go_sem, ff]) ?_
  refine stp Qn ?_
  refine dw_block ?_
  refine lph (α := (Nat) × (Nat) × Nat) [1, 10, 11] (fun ⟨k, r, nx⟩ => (k ≤ l.length) ∧ (r < nx) ∧ (n ≤ r) ∧ True) (fun ⟨k, r, nx⟩ => l.length - k) (fun ⟨k, r, nx⟩ => [(5, .mrow r 0 ((l.take k).filterMap (goS m)).length), (12, .i k)]) (fun ⟨k, r, nx⟩ => upd h r (some ⟨49, ((l.take k).filterMap (goS m)).map Sgd.d⟩)) (fun ⟨k, r, nx⟩ => nx) (0, (n + 2), _) (hA := ⟨iv, iv, iv, trivial⟩) (round := ?_)
  rintro ⟨k, r, nx⟩ ⟨hk, hr, hr0, -⟩
  show DW _ _ _ _ { n := _, t := tab _, h := _, nx := _, e := _ }
  simp only [List.cons_append, List.nil_append]
  have hfl := fm_len (goS m) l k
  have ff := And.intro @hr ff
  refine stp Qn ?_
  refine dw_seq ?_
  refine cd (fun c1 => ?_) (fun c1 => ?_) (hp := rfl)
  · skip
    have hk2 : k < l.length := by simpa using c1
    have ff := And.intro (getD_sgd hk2) ff
    refine dw_skip ?_
    show DW _ _ _ _ _
    refine dw_seq ?_
    refine dw_block ?_
    refine stp Qn ?_
    refine stp Qn ?_ (hok := by (try simp only [go_sem, ff]); all_goals (first | done | ((repeat' (with_reducible apply And.intro)) <;> first | exact dapp1_ct l[k]! m | (intros; exact dapp1_ct l[k]! m) | skip)))
    refine stp Qn ?_
    refine cd (fun c2 => ?_) (fun c2 => ?_)
    · skip
      refine rgn Qn ?_
      show DW _ _ _ _ _
      refine rgn Qn ?_
      show ∃ _, _
      have hst := fm_yes (f := goS m) hk2 (by simp only [goS]; rw [if_pos (by first | exact c2 | simpa using c2)])
      have hsd : ((l.take (k + 1)).filterMap (goS m)).map Sgd.d = ((l.take k).filterMap (goS m)).map Sgd.d ++ [[.v (.string (bs l[k]!.set.name)), .i l[k]!.set.ty, .i l[k]!.set.life, .list false (l[k]!.set.data.map Dat.d), .list false (l[k]!.sigs.map RSig.d)]] := by rw [hst, List.map_append]; rfl
      have hsl : ((l.take (k + 1)).filterMap (goS m)).length = ((l.take k).filterMap (goS m)).length + 1 := by rw [hst, List.length_append]; rfl
      have ff := And.intro hsd (And.intro hsl ff)
      refine rnd (k + 1, (nx + 18), _) (h1 := ⟨iv, iv, iv, trivial⟩) (h5 := ?_)
      refine less_fresh hnone (by simp only [go_sem, ff]) (fun q hq => ?_)
      simp only [upd]
      repeat rw [if_neg (by omega)]
    · skip
      refine dw_skip ?_
      show DW _ _ _ _ _
      refine rgn Qn ?_
      show ∃ _, _
      have ff := And.intro (fm_no (f := goS m) hk2 (by simp only [goS]; rw [if_neg (by rw [c2]; exact Bool.false_ne_true)])) ff
      refine rnd (k + 1, r, _) (h1 := ⟨iv, iv, iv, trivial⟩) (h5 := ?_)
      refine less_fresh hnone (by simp only [go_sem, ff]) (fun q hq => ?_)
      simp only [upd]
      repeat rw [if_neg (by omega)]
  · skip
    refine dw_exit ?_
    show DW _ _ _ _ _
    have e9 : k = l.length := by have h9 : ¬ (k:Int) < l.length := (by simpa using c1); omega
    subst e9
    rw [List.take_length] at *
    refine stp Qn ?_
    refine dw_ret ?_
    exact finr (upd h r (some ⟨49, (l.filterMap (goS m)).map Sgd.d⟩)) (hr := by (try simp only [go_sem, ff]); all_goals (exact ⟨r, rfl, rfl, by omega, by omega⟩))
theorem dbyplaceL_ct (l : List Sgd) (hl : l.length ≤ 1000000) (h : H) (n : Nat) : RCt Tryz.prog 38 [.list false (l.map Sgd.d)] h n (fun d h' n' => ∃ r, d = .mp r ∧ h' = upd h r (some ⟨63, mapRows (kvZ (mapZ l))⟩) ∧ n ≤ r ∧ r < n') := by
  refine rct_of_dw Tryz.func38 rfl bo38 (by simp [Tryz.f38]) (fun hnone => ?_)
  unfold Tryz.f38
  have ff := True.intro
  refine stp Qn ?_
  refine stp Qn ?_
  refine dw_seq ?_
  refine stp Qn ?_
  refine dw_block ?_
  refine lph (α := (Nat) × Nat) [3, 9, 10] (fun ⟨k, nx⟩ => (k ≤ l.length) ∧ (n + 3 < nx) ∧ True) (fun ⟨k, nx⟩ => l.length - k) (fun ⟨k, nx⟩ => [(11, .i k)]) (fun ⟨k, nx⟩ => upd h (n + 3) (some ⟨63, mapRows (kvQ (mapTo l k))⟩)) (fun ⟨k, nx⟩ => nx) (0, _) (hA := ⟨iv, iv, trivial⟩) (round := ?_) (hhh := by exact fun _ => .inl rfl)
  rintro ⟨k, nx⟩ ⟨hk, hx, -⟩
  show DW _ _ _ _ { n := _, t := tab _, h := _, nx := _, e := _ }
  simp only [List.cons_append, List.nil_append]
  have ff := And.intro @hx ff
  refine stp Qn ?_
  refine dw_seq ?_
  refine cd (fun c1 => ?_) (fun c1 => ?_) (hp := rfl)
  · skip
    have hk2 : k < l.length := by simpa using c1
    have ff := And.intro (getD_sgd hk2) (And.intro (kvQ_step (l := l) (k := k)) ff)
    refine dw_skip ?_
    show DW _ _ _ _ _
    refine dw_seq ?_
    refine dw_block ?_
    refine stp Qn ?_
    refine rgn Qn ?_ (hok := by (try simp only [go_sem, ff]); all_goals (first | done | ((repeat' (with_reducible apply And.intro)) <;> first | exact dplace_ct l[k]! | (intros; exact dplace_ct l[k]!) | omega | skip)))
    show DW _ _ _ _ _
    refine rgn Qn ?_
    show ∃ _, _
    refine rnd (k + 1, _) (h1 := ⟨iv, iv, trivial⟩) (h5 := ?_)
    refine less_fresh hnone (by simp only [go_sem, ff]) (fun q hq => ?_)
    simp only [upd]
    repeat rw [if_neg (by omega)]
  · skip
    refine dw_exit ?_
    show DW _ _ _ _ _
    have e9 : k = l.length := by have h9 : ¬ (k:Int) < l.length := (by simpa using c1); omega
    subst e9
    refine stp Qn ?_
    refine dw_ret ?_
    exact finr (upd h (n + 3) (some ⟨63, mapRows (kvZ (mapZ l))⟩)) (hr := by (try simp only [go_sem, ff]); all_goals (exact ⟨n + 3, rfl, rfl, by omega, by omega⟩)) (hh := by rw [← kvQ_mapZ]; exact less_refl _)

end Go.Proofs.YtfggmgafjabbjaaGreatDoor
/-
  MADE BY A PROGRAM OF MINE: what the functions that leave memory alone give. Conditions: none.
-/
namespace Go.Proofs.YtfggmgafjabbjaaGreatDoor
open Go.DL Go.Str Go.Rec Go.Zon
set_option linter.unusedVariables false
def Pn : Con where
  pure := fun k => [176, 169, 153, 114, 113, 81, 123, 90, 115, 171, 155, 122, 120, 125, 127, 172, 116, 156, 173, 126, 159, 124, 91, 128, 110, 157, 150, 119, 129, 118, 158, 130, 93, 83, 117, 85, 63, 165, 141, 102, 84, 82, 101, 92, 103, 86, 104, 89, 61, 111, 20, 60, 18, 100, 99, 46, 47, 48, 50, 51, 52, 53, 49, 14, 13, 59, 32, 33, 34, 151, 121, 87, 35, 88, 36, 11, 17, 9, 65, 64, 16, 54, 23, 22, 25, 24, 67, 41, 112, 66, 78, 79, 80, 77, 27, 10, 21, 26, 30, 29, 31, 97, 98, 45, 62, 19, 38, 105, 106, 58, 56, 57, 40, 68, 44, 76, 69, 75, 55, 73, 39, 43, 96, 72, 109, 37, 15, 12].contains k
  pf := fun k xs => match k, xs with
    | 176, [x0, x1] => .i (lastIx (str1 x0) (int1 x1))
    | 169, [x0, x1] => .i (lastIx (str1 x0) (int1 x1))
    | 153, [x0] => .b (labelOk (str1 x0))
    | 114, [x0] => .b (labelOk (str1 x0))
    | 113, [x0] => .list false ((splitF (str1 x0)).map sR)
    | 81, [x0] => .b (nameOk (str1 x0))
    | 123, [x0] => .b (nameOk (str1 x0))
    | 90, [x0] => .b (nameOk (str1 x0))
    | 115, [x0] => .list false ((partsOf (str1 x0)).map sR)
    | 171, [x0, x1] => .i (Go.Lib.compareBytes (str1 x0) (str1 x1))
    | 155, [x0, x1] => .i (Go.Lib.compareBytes (str1 x0) (str1 x1))
    | 122, [x0, x1] => .i (nmOrd (str1 x0) (str1 x1))
    | 120, [x0, x1] => .tuple [.i (if nameOk (str1 x0) && nameOk (str1 x1) then nmCmp (str1 x0) (str1 x1) else 0), .i (if nameOk (str1 x0) && nameOk (str1 x1) then 0 else 11)]
    | 125, [x0, x1] => .tuple [.i (if nameOk (str1 x0) && nameOk (str1 x1) then nmCmp (str1 x0) (str1 x1) else 0), .i (if nameOk (str1 x0) && nameOk (str1 x1) then 0 else 11)]
    | 127, [x0, x1, x2] => .b (inR (int1 x0) (int1 x1) (int1 x2))
    | 172, [x0, x1, x2] => .b (inR (int1 x0) (int1 x1) (int1 x2))
    | 116, [x0, x1, x2] => .b (inR (int1 x0) (int1 x1) (int1 x2))
    | 156, [x0] => .b ((int1 x0) != (int1 x0))
    | 173, [x0] => .b ((str1 x0) != (str1 x0))
    | 126, [x0, x1] => .i (cmpI (int1 x0) (int1 x1))
    | 159, [x0, x1] => .i (cmpS (str1 x0) (str1 x1))
    | 124, [x0, x1] => .b (hasPre (str1 x0) (str1 x1))
    | 91, [x0, x1] => .b (hasPre (str1 x0) (str1 x1))
    | 128, [x0] => .b (wildB (str1 x0))
    | 110, [x0] => .b (wildB (str1 x0))
    | 157, [x0] => .b (freeB (str1 x0))
    | 150, [x0] => .b (freeB (str1 x0))
    | 119, [x0, x1] => .b (less (dat1 x0) (dat1 x1))
    | 129, [x0, x1] => .b (datOk (rule1 x0) (dat1 x1))
    | 118, [x0, x1] => .b (rDatOk (int1 x0) (dat1 x1))
    | 158, [x0] => .i (orFrom (ints1 x0) 0)
    | 130, [x0, x1] => .i (datC (dat1 x0) (dat1 x1))
    | 93, [x0] => .b (setOk (set1 x0))
    | 83, [x0] => .b (setOk (set1 x0))
    | 117, [x0] => .b (singleB (int1 x0))
    | 85, [x0, x1] => .i (rOrd (set1 x0) (set1 x1))
    | 63, [x0, x1] => .b (sameB (set1 x0) (set1 x1))
    | 165, [x0, x1] => .b (hasSuf (str1 x0) (str1 x1))
    | 141, [x0, x1] => .b (hasSuf (str1 x0) (str1 x1))
    | 102, [x0, x1] => .tuple [.b (underV (str1 x0) (str1 x1)), .i (if nameOk (str1 x0) && nameOk (str1 x1) then 0 else 11)]
    | 84, [x0, x1] => .b (inB (str1 x0) (str1 x1))
    | 82, [x0] => .b (wild1 (str1 x0))
    | 101, [x0, x1, x2, x3] => .i (qC ⟨(str1 x0), (int1 x1)⟩ ⟨(str1 x2), (int1 x3)⟩)
    | 92, [x0, x1] => .i (qC (qst1 x0) (qst1 x1))
    | 103, [x0, x1] => .b (fits (int1 x0) (bool1 x1))
    | 86, [x0, x1] => .b (fits (int1 x0) (bool1 x1))
    | 104, [x0, x1] => .b (sigsOk (sigs1 x0) (str1 x1))
    | 89, [x0, x1] => .b (sigsOk (sigs1 x0) (str1 x1))
    | 61, [x0] => .b (qOk (qst1 x0))
    | 111, [x0] => .b (qOk (qst1 x0))
    | 20, [x0, x1] => .b (sameSgd (sgd1 x0) (sgd1 x1))
    | 60, [x0, x1] => .b (sameList (sgds1 x0) (sgds1 x1))
    | 18, [x0, x1] => .b (sameZ (zon1 x0) (zon1 x1))
    | 100, [x0, x1] => .i (qC (sgd1 x0).q (qst1 x1))
    | 99, [x0, x1, x2] => .tuple [.i (findIx (sgds1 x0) (qst1 x1)), .b (findOk (sgds1 x0) (qst1 x1))]
    | 46, [x0, x1] => .tuple [.i (findIx (zon1 x0).sets (qst1 x1)), .b (findOk (zon1 x0).sets (qst1 x1))]
    | 47, [x0] => .b (ordered (zon1 x0))
    | 48, [x0] => .b (apexHolds (zon1 x0))
    | 50, [x0] => .b (aliasB (lay1 x0))
    | 51, [x0] => .b (cutB (lay1 x0))
    | 52, [x0] => .b (glueB (lay1 x0))
    | 53, [x0] => .b (formB (lay1 x0))
    | 49, [x0] => .agg (layOf (zon1 x0)).d
    | 14, [x0] => .b (zoneOk (zon1 x0))
    | 13, [x0] => .tuple [.i (if zoneOk (zon1 x0) then serialOf (zon1 x0) else 0), .i (if zoneOk (zon1 x0) then 0 else 1)]
    | 59, [x0, x1] => .i (atF (zon1 x0).sets (qst1 x1))
    | 32, [x0] => .b (oneB (zon1 x0))
    | 33, [x0] => .b (twoB (zon1 x0))
    | 34, [x0] => .b (threeB (zon1 x0))
    | 151, [x0] => .list false ((cutsF (zon1 x0)).map sR)
    | 121, [x0] => .list false ((highF (zon1 x0)).map sR)
    | 87, [x0] => .list false ((behR (zon1 x0)).map sR)
    | 35, [x0] => .b (fourB (zon1 x0))
    | 88, [x0] => .list false ((ownF (zon1 x0)).map bR)
    | 36, [x0] => .b (fiveB (zon1 x0))
    | 11, [x0] => .b (refOk (zon1 x0))
    | 17, [x0] => .i (serialR (zon1 x0))
    | 9, [x0] => .b (fewZ (zon1 x0))
    | 65, [x0] => .b (serB (int1 x0))
    | 64, [x0] => .b (serB (int1 x0))
    | 16, [x0, x1] => .b (befB (int1 x0) (int1 x1))
    | 54, [x0, x1] => .b (befB (int1 x0) (int1 x1))
    | 23, [x0, x1] => .tuple [.b (lessF (int1 x0) (int1 x1)).1, .i (lessF (int1 x0) (int1 x1)).2]
    | 22, [x0, x1] => .tuple [.b (lessF (int1 x0) (int1 x1)).1, .i (lessF (int1 x0) (int1 x1)).2]
    | 25, [x0] => .tuple [.i (afterF (int1 x0)).1, .i (afterF (int1 x0)).2]
    | 24, [x0] => .tuple [.i (afterF (int1 x0)).1, .i (afterF (int1 x0)).2]
    | 67, [x0] => .agg (sgd1 x0).q.d
    | 41, [x0] => .agg (sgd1 x0).q.d
    | 112, [x0, x1] => .i (qO (qst1 x0) (qst1 x1))
    | 66, [x0, x1] => .i (atF (sgds1 x0) (qst1 x1))
    | 78, [x0, x1] => .b (askB (qsts1 x0) (qst1 x1))
    | 79, [x0, x1] => .list false ((sortedF (sgds1 x0) (sgd1 x1)).map Sgd.d)
    | 80, [x0, x1] => .list false ((addF (qsts1 x0) (qst1 x1)).map Qst.d)
    | 77, [x0] => .b (dltOk (dlt1 x0))
    | 27, [x0, x1] => .b (sameD (dlt1 x0) (dlt1 x1))
    | 10, [x0] => .b (fewD (dlt1 x0))
    | 21, [x0, x1, x2, x3] => .b (fewAll (zon1 x0) (zon1 x1) (dlt1 x2) (dlt1 x3))
    | 26, [x0, x1] => .tuple [.agg (diffR (zon1 x0) (zon1 x1)).1.d, .i (diffR (zon1 x0) (zon1 x1)).2]
    | 30, [x0, x1] => .tuple [.agg (applyR (zon1 x0) (dlt1 x1)).1.d, .i (applyR (zon1 x0) (dlt1 x1)).2]
    | 29, [x0, x1] => .tuple [.agg (joinR (dlt1 x0) (dlt1 x1)).1.d, .i (joinR (dlt1 x0) (dlt1 x1)).2]
    | 31, [x0, x1] => .agg (smallZ (int1 x0) (str1 x1)).d
    | 97, [x0] => .list false ((dats1 x0).map Dat.d)
    | 98, [x0] => .list false ((sigs1 x0).map RSig.d)
    | 45, [x0] => .agg (sgd1 x0).d
    | 62, [x0] => .agg (sgd1 x0).d
    | 19, [x0, x1] => .tuple [.agg (findR (zon1 x0) (qst1 x1)).1.d, .b (findR (zon1 x0) (qst1 x1)).2.1, .i (findR (zon1 x0) (qst1 x1)).2.2]
    | 38, [x0] => .fmap (kvP (mapP (sgds1 x0)))
    | 105, [x0, x1] => .b (eqDat (dats1 x0) (dats1 x1))
    | 106, [x0, x1] => .b (eqSig (sigs1 x0) (sigs1 x1))
    | 58, [x0, x1] => .b (sameX (sgd1 x0) (sgd1 x1))
    | 56, [x0, x1] => .tuple [.agg (sgd1 x0).q.d, .b (newB (mapc1 x1) (sgd1 x0).q)]
    | 57, [x0, x1] => .tuple [.agg (sgd1 x0).d, .b (diffS (pget (mapc1 x1) (sgd1 x0).q) (sgd1 x0))]
    | 40, [x0, x1] => .tuple [.agg (sgd1 x0).d, .b (newB (mapc1 x1) (sgd1 x0).q)]
    | 68, [x0, x1] => .tuple [.agg (sgd1 x0).d, .b (newB (mapc1 x1) (sgd1 x0).q)]
    | 44, [x0] => .tuple [.agg (sgd1 x0).d, .b true]
    | 76, [x0] => .tuple [.agg (sgd1 x0).d, .b true]
    | 69, [x0] => .agg (qst1 x0).d
    | 75, [x0, x1] => .tuple [.agg (qst1 x0).d, .b (newB (mapc1 x1) (qst1 x0))]
    | 55, [x0, x1] => .list false (((sgds1 x0).filterMap (d1S (capm1 x1))).map Qst.d)
    | 73, [x0, x1] => .list false (((qsts1 x0).filterMap (j3S (capm1 x1))).map Qst.d)
    | 39, [x0, x1] => .list false (((sgds1 x0).filterMap (semS (x1))).map Sgd.d)
    | 43, [x0] => .fn (.func 96) [] [.eptr [.fn (.func 41) [] []]]
    | 96, [x0, x1, x2] => .i (qC (sgd1 x0).q (sgd1 x1).q)
    | 72, [x0] => .fn (.func 109) [] [.eptr [.fn (.func 69) [] []]]
    | 109, [x0, x1, x2] => .i (qC (qst1 x0) (qst1 x1))
    | 37, [x0] => .b (dltOk (dlt1 x0))
    | 15, [x0, x1] => .tuple [.agg (diffP (zon1 x0) (zon1 x1)).1.d, .i (diffP (zon1 x0) (zon1 x1)).2]
    | 12, [x0, x1] => .tuple [.agg (applyP (zon1 x0) (dlt1 x1)).1.d, .i (applyP (zon1 x0) (dlt1 x1)).2]
    | _, _ => .junk
@[go_sem] theorem pnp176 : Pn.pure 176 = true := rfl
@[go_sem] theorem pnf176 {x0 x1 : D} : Pn.pf 176 [x0, x1] = .i (lastIx (str1 x0) (int1 x1)) := rfl
@[go_sem] theorem pnp169 : Pn.pure 169 = true := rfl
@[go_sem] theorem pnf169 {x0 x1 : D} : Pn.pf 169 [x0, x1] = .i (lastIx (str1 x0) (int1 x1)) := rfl
@[go_sem] theorem pnp153 : Pn.pure 153 = true := rfl
@[go_sem] theorem pnf153 {x0 : D} : Pn.pf 153 [x0] = .b (labelOk (str1 x0)) := rfl
@[go_sem] theorem pnp114 : Pn.pure 114 = true := rfl
@[go_sem] theorem pnf114 {x0 : D} : Pn.pf 114 [x0] = .b (labelOk (str1 x0)) := rfl
@[go_sem] theorem pnp113 : Pn.pure 113 = true := rfl
@[go_sem] theorem pnf113 {x0 : D} : Pn.pf 113 [x0] = .list false ((splitF (str1 x0)).map sR) := rfl
@[go_sem] theorem pnp81 : Pn.pure 81 = true := rfl
@[go_sem] theorem pnf81 {x0 : D} : Pn.pf 81 [x0] = .b (nameOk (str1 x0)) := rfl
@[go_sem] theorem pnp123 : Pn.pure 123 = true := rfl
@[go_sem] theorem pnf123 {x0 : D} : Pn.pf 123 [x0] = .b (nameOk (str1 x0)) := rfl
@[go_sem] theorem pnp90 : Pn.pure 90 = true := rfl
@[go_sem] theorem pnf90 {x0 : D} : Pn.pf 90 [x0] = .b (nameOk (str1 x0)) := rfl
@[go_sem] theorem pnp115 : Pn.pure 115 = true := rfl
@[go_sem] theorem pnf115 {x0 : D} : Pn.pf 115 [x0] = .list false ((partsOf (str1 x0)).map sR) := rfl
@[go_sem] theorem pnp171 : Pn.pure 171 = true := rfl
@[go_sem] theorem pnf171 {x0 x1 : D} : Pn.pf 171 [x0, x1] = .i (Go.Lib.compareBytes (str1 x0) (str1 x1)) := rfl
@[go_sem] theorem pnp155 : Pn.pure 155 = true := rfl
@[go_sem] theorem pnf155 {x0 x1 : D} : Pn.pf 155 [x0, x1] = .i (Go.Lib.compareBytes (str1 x0) (str1 x1)) := rfl
@[go_sem] theorem pnp122 : Pn.pure 122 = true := rfl
@[go_sem] theorem pnf122 {x0 x1 : D} : Pn.pf 122 [x0, x1] = .i (nmOrd (str1 x0) (str1 x1)) := rfl
@[go_sem] theorem pnp120 : Pn.pure 120 = true := rfl
@[go_sem] theorem pnf120 {x0 x1 : D} : Pn.pf 120 [x0, x1] = .tuple [.i (if nameOk (str1 x0) && nameOk (str1 x1) then nmCmp (str1 x0) (str1 x1) else 0), .i (if nameOk (str1 x0) && nameOk (str1 x1) then 0 else 11)] := rfl
@[go_sem] theorem pnp125 : Pn.pure 125 = true := rfl
@[go_sem] theorem pnf125 {x0 x1 : D} : Pn.pf 125 [x0, x1] = .tuple [.i (if nameOk (str1 x0) && nameOk (str1 x1) then nmCmp (str1 x0) (str1 x1) else 0), .i (if nameOk (str1 x0) && nameOk (str1 x1) then 0 else 11)] := rfl
@[go_sem] theorem pnp127 : Pn.pure 127 = true := rfl
@[go_sem] theorem pnf127 {x0 x1 x2 : D} : Pn.pf 127 [x0, x1, x2] = .b (inR (int1 x0) (int1 x1) (int1 x2)) := rfl
@[go_sem] theorem pnp172 : Pn.pure 172 = true := rfl
@[go_sem] theorem pnf172 {x0 x1 x2 : D} : Pn.pf 172 [x0, x1, x2] = .b (inR (int1 x0) (int1 x1) (int1 x2)) := rfl
@[go_sem] theorem pnp116 : Pn.pure 116 = true := rfl
@[go_sem] theorem pnf116 {x0 x1 x2 : D} : Pn.pf 116 [x0, x1, x2] = .b (inR (int1 x0) (int1 x1) (int1 x2)) := rfl
@[go_sem] theorem pnp156 : Pn.pure 156 = true := rfl
@[go_sem] theorem pnf156 {x0 : D} : Pn.pf 156 [x0] = .b ((int1 x0) != (int1 x0)) := rfl
@[go_sem] theorem pnp173 : Pn.pure 173 = true := rfl
@[go_sem] theorem pnf173 {x0 : D} : Pn.pf 173 [x0] = .b ((str1 x0) != (str1 x0)) := rfl
@[go_sem] theorem pnp126 : Pn.pure 126 = true := rfl
@[go_sem] theorem pnf126 {x0 x1 : D} : Pn.pf 126 [x0, x1] = .i (cmpI (int1 x0) (int1 x1)) := rfl
@[go_sem] theorem pnp159 : Pn.pure 159 = true := rfl
@[go_sem] theorem pnf159 {x0 x1 : D} : Pn.pf 159 [x0, x1] = .i (cmpS (str1 x0) (str1 x1)) := rfl
@[go_sem] theorem pnp124 : Pn.pure 124 = true := rfl
@[go_sem] theorem pnf124 {x0 x1 : D} : Pn.pf 124 [x0, x1] = .b (hasPre (str1 x0) (str1 x1)) := rfl
@[go_sem] theorem pnp91 : Pn.pure 91 = true := rfl
@[go_sem] theorem pnf91 {x0 x1 : D} : Pn.pf 91 [x0, x1] = .b (hasPre (str1 x0) (str1 x1)) := rfl
@[go_sem] theorem pnp128 : Pn.pure 128 = true := rfl
@[go_sem] theorem pnf128 {x0 : D} : Pn.pf 128 [x0] = .b (wildB (str1 x0)) := rfl
@[go_sem] theorem pnp110 : Pn.pure 110 = true := rfl
@[go_sem] theorem pnf110 {x0 : D} : Pn.pf 110 [x0] = .b (wildB (str1 x0)) := rfl
@[go_sem] theorem pnp157 : Pn.pure 157 = true := rfl
@[go_sem] theorem pnf157 {x0 : D} : Pn.pf 157 [x0] = .b (freeB (str1 x0)) := rfl
@[go_sem] theorem pnp150 : Pn.pure 150 = true := rfl
@[go_sem] theorem pnf150 {x0 : D} : Pn.pf 150 [x0] = .b (freeB (str1 x0)) := rfl
@[go_sem] theorem pnp119 : Pn.pure 119 = true := rfl
@[go_sem] theorem pnf119 {x0 x1 : D} : Pn.pf 119 [x0, x1] = .b (less (dat1 x0) (dat1 x1)) := rfl
@[go_sem] theorem pnp129 : Pn.pure 129 = true := rfl
@[go_sem] theorem pnf129 {x0 x1 : D} : Pn.pf 129 [x0, x1] = .b (datOk (rule1 x0) (dat1 x1)) := rfl
@[go_sem] theorem pnp118 : Pn.pure 118 = true := rfl
@[go_sem] theorem pnf118 {x0 x1 : D} : Pn.pf 118 [x0, x1] = .b (rDatOk (int1 x0) (dat1 x1)) := rfl
@[go_sem] theorem pnp158 : Pn.pure 158 = true := rfl
@[go_sem] theorem pnf158 {x0 : D} : Pn.pf 158 [x0] = .i (orFrom (ints1 x0) 0) := rfl
@[go_sem] theorem pnp130 : Pn.pure 130 = true := rfl
@[go_sem] theorem pnf130 {x0 x1 : D} : Pn.pf 130 [x0, x1] = .i (datC (dat1 x0) (dat1 x1)) := rfl
@[go_sem] theorem pnp93 : Pn.pure 93 = true := rfl
@[go_sem] theorem pnf93 {x0 : D} : Pn.pf 93 [x0] = .b (setOk (set1 x0)) := rfl
@[go_sem] theorem pnp83 : Pn.pure 83 = true := rfl
@[go_sem] theorem pnf83 {x0 : D} : Pn.pf 83 [x0] = .b (setOk (set1 x0)) := rfl
@[go_sem] theorem pnp117 : Pn.pure 117 = true := rfl
@[go_sem] theorem pnf117 {x0 : D} : Pn.pf 117 [x0] = .b (singleB (int1 x0)) := rfl
@[go_sem] theorem pnp85 : Pn.pure 85 = true := rfl
@[go_sem] theorem pnf85 {x0 x1 : D} : Pn.pf 85 [x0, x1] = .i (rOrd (set1 x0) (set1 x1)) := rfl
@[go_sem] theorem pnp63 : Pn.pure 63 = true := rfl
@[go_sem] theorem pnf63 {x0 x1 : D} : Pn.pf 63 [x0, x1] = .b (sameB (set1 x0) (set1 x1)) := rfl
@[go_sem] theorem pnp165 : Pn.pure 165 = true := rfl
@[go_sem] theorem pnf165 {x0 x1 : D} : Pn.pf 165 [x0, x1] = .b (hasSuf (str1 x0) (str1 x1)) := rfl
@[go_sem] theorem pnp141 : Pn.pure 141 = true := rfl
@[go_sem] theorem pnf141 {x0 x1 : D} : Pn.pf 141 [x0, x1] = .b (hasSuf (str1 x0) (str1 x1)) := rfl
@[go_sem] theorem pnp102 : Pn.pure 102 = true := rfl
@[go_sem] theorem pnf102 {x0 x1 : D} : Pn.pf 102 [x0, x1] = .tuple [.b (underV (str1 x0) (str1 x1)), .i (if nameOk (str1 x0) && nameOk (str1 x1) then 0 else 11)] := rfl
@[go_sem] theorem pnp84 : Pn.pure 84 = true := rfl
@[go_sem] theorem pnf84 {x0 x1 : D} : Pn.pf 84 [x0, x1] = .b (inB (str1 x0) (str1 x1)) := rfl
@[go_sem] theorem pnp82 : Pn.pure 82 = true := rfl
@[go_sem] theorem pnf82 {x0 : D} : Pn.pf 82 [x0] = .b (wild1 (str1 x0)) := rfl
@[go_sem] theorem pnp101 : Pn.pure 101 = true := rfl
@[go_sem] theorem pnf101 {x0 x1 x2 x3 : D} : Pn.pf 101 [x0, x1, x2, x3] = .i (qC ⟨(str1 x0), (int1 x1)⟩ ⟨(str1 x2), (int1 x3)⟩) := rfl
@[go_sem] theorem pnp92 : Pn.pure 92 = true := rfl
@[go_sem] theorem pnf92 {x0 x1 : D} : Pn.pf 92 [x0, x1] = .i (qC (qst1 x0) (qst1 x1)) := rfl
@[go_sem] theorem pnp103 : Pn.pure 103 = true := rfl
@[go_sem] theorem pnf103 {x0 x1 : D} : Pn.pf 103 [x0, x1] = .b (fits (int1 x0) (bool1 x1)) := rfl
@[go_sem] theorem pnp86 : Pn.pure 86 = true := rfl
@[go_sem] theorem pnf86 {x0 x1 : D} : Pn.pf 86 [x0, x1] = .b (fits (int1 x0) (bool1 x1)) := rfl
@[go_sem] theorem pnp104 : Pn.pure 104 = true := rfl
@[go_sem] theorem pnf104 {x0 x1 : D} : Pn.pf 104 [x0, x1] = .b (sigsOk (sigs1 x0) (str1 x1)) := rfl
@[go_sem] theorem pnp89 : Pn.pure 89 = true := rfl
@[go_sem] theorem pnf89 {x0 x1 : D} : Pn.pf 89 [x0, x1] = .b (sigsOk (sigs1 x0) (str1 x1)) := rfl
@[go_sem] theorem pnp61 : Pn.pure 61 = true := rfl
@[go_sem] theorem pnf61 {x0 : D} : Pn.pf 61 [x0] = .b (qOk (qst1 x0)) := rfl
@[go_sem] theorem pnp111 : Pn.pure 111 = true := rfl
@[go_sem] theorem pnf111 {x0 : D} : Pn.pf 111 [x0] = .b (qOk (qst1 x0)) := rfl
@[go_sem] theorem pnp20 : Pn.pure 20 = true := rfl
@[go_sem] theorem pnf20 {x0 x1 : D} : Pn.pf 20 [x0, x1] = .b (sameSgd (sgd1 x0) (sgd1 x1)) := rfl
@[go_sem] theorem pnp60 : Pn.pure 60 = true := rfl
@[go_sem] theorem pnf60 {x0 x1 : D} : Pn.pf 60 [x0, x1] = .b (sameList (sgds1 x0) (sgds1 x1)) := rfl
@[go_sem] theorem pnp18 : Pn.pure 18 = true := rfl
@[go_sem] theorem pnf18 {x0 x1 : D} : Pn.pf 18 [x0, x1] = .b (sameZ (zon1 x0) (zon1 x1)) := rfl
@[go_sem] theorem pnp100 : Pn.pure 100 = true := rfl
@[go_sem] theorem pnf100 {x0 x1 : D} : Pn.pf 100 [x0, x1] = .i (qC (sgd1 x0).q (qst1 x1)) := rfl
@[go_sem] theorem pnp99 : Pn.pure 99 = true := rfl
@[go_sem] theorem pnf99 {x0 x1 x2 : D} : Pn.pf 99 [x0, x1, x2] = .tuple [.i (findIx (sgds1 x0) (qst1 x1)), .b (findOk (sgds1 x0) (qst1 x1))] := rfl
@[go_sem] theorem pnp46 : Pn.pure 46 = true := rfl
@[go_sem] theorem pnf46 {x0 x1 : D} : Pn.pf 46 [x0, x1] = .tuple [.i (findIx (zon1 x0).sets (qst1 x1)), .b (findOk (zon1 x0).sets (qst1 x1))] := rfl
@[go_sem] theorem pnp47 : Pn.pure 47 = true := rfl
@[go_sem] theorem pnf47 {x0 : D} : Pn.pf 47 [x0] = .b (ordered (zon1 x0)) := rfl
@[go_sem] theorem pnp48 : Pn.pure 48 = true := rfl
@[go_sem] theorem pnf48 {x0 : D} : Pn.pf 48 [x0] = .b (apexHolds (zon1 x0)) := rfl
@[go_sem] theorem pnp50 : Pn.pure 50 = true := rfl
@[go_sem] theorem pnf50 {x0 : D} : Pn.pf 50 [x0] = .b (aliasB (lay1 x0)) := rfl
@[go_sem] theorem pnp51 : Pn.pure 51 = true := rfl
@[go_sem] theorem pnf51 {x0 : D} : Pn.pf 51 [x0] = .b (cutB (lay1 x0)) := rfl
@[go_sem] theorem pnp52 : Pn.pure 52 = true := rfl
@[go_sem] theorem pnf52 {x0 : D} : Pn.pf 52 [x0] = .b (glueB (lay1 x0)) := rfl
@[go_sem] theorem pnp53 : Pn.pure 53 = true := rfl
@[go_sem] theorem pnf53 {x0 : D} : Pn.pf 53 [x0] = .b (formB (lay1 x0)) := rfl
@[go_sem] theorem pnp49 : Pn.pure 49 = true := rfl
@[go_sem] theorem pnf49 {x0 : D} : Pn.pf 49 [x0] = .agg (layOf (zon1 x0)).d := rfl
@[go_sem] theorem pnp14 : Pn.pure 14 = true := rfl
@[go_sem] theorem pnf14 {x0 : D} : Pn.pf 14 [x0] = .b (zoneOk (zon1 x0)) := rfl
@[go_sem] theorem pnp13 : Pn.pure 13 = true := rfl
@[go_sem] theorem pnf13 {x0 : D} : Pn.pf 13 [x0] = .tuple [.i (if zoneOk (zon1 x0) then serialOf (zon1 x0) else 0), .i (if zoneOk (zon1 x0) then 0 else 1)] := rfl
@[go_sem] theorem pnp59 : Pn.pure 59 = true := rfl
@[go_sem] theorem pnf59 {x0 x1 : D} : Pn.pf 59 [x0, x1] = .i (atF (zon1 x0).sets (qst1 x1)) := rfl
@[go_sem] theorem pnp32 : Pn.pure 32 = true := rfl
@[go_sem] theorem pnf32 {x0 : D} : Pn.pf 32 [x0] = .b (oneB (zon1 x0)) := rfl
@[go_sem] theorem pnp33 : Pn.pure 33 = true := rfl
@[go_sem] theorem pnf33 {x0 : D} : Pn.pf 33 [x0] = .b (twoB (zon1 x0)) := rfl
@[go_sem] theorem pnp34 : Pn.pure 34 = true := rfl
@[go_sem] theorem pnf34 {x0 : D} : Pn.pf 34 [x0] = .b (threeB (zon1 x0)) := rfl
@[go_sem] theorem pnp151 : Pn.pure 151 = true := rfl
@[go_sem] theorem pnf151 {x0 : D} : Pn.pf 151 [x0] = .list false ((cutsF (zon1 x0)).map sR) := rfl
@[go_sem] theorem pnp121 : Pn.pure 121 = true := rfl
@[go_sem] theorem pnf121 {x0 : D} : Pn.pf 121 [x0] = .list false ((highF (zon1 x0)).map sR) := rfl
@[go_sem] theorem pnp87 : Pn.pure 87 = true := rfl
@[go_sem] theorem pnf87 {x0 : D} : Pn.pf 87 [x0] = .list false ((behR (zon1 x0)).map sR) := rfl
@[go_sem] theorem pnp35 : Pn.pure 35 = true := rfl
@[go_sem] theorem pnf35 {x0 : D} : Pn.pf 35 [x0] = .b (fourB (zon1 x0)) := rfl
@[go_sem] theorem pnp88 : Pn.pure 88 = true := rfl
@[go_sem] theorem pnf88 {x0 : D} : Pn.pf 88 [x0] = .list false ((ownF (zon1 x0)).map bR) := rfl
@[go_sem] theorem pnp36 : Pn.pure 36 = true := rfl
@[go_sem] theorem pnf36 {x0 : D} : Pn.pf 36 [x0] = .b (fiveB (zon1 x0)) := rfl
@[go_sem] theorem pnp11 : Pn.pure 11 = true := rfl
@[go_sem] theorem pnf11 {x0 : D} : Pn.pf 11 [x0] = .b (refOk (zon1 x0)) := rfl
@[go_sem] theorem pnp17 : Pn.pure 17 = true := rfl
@[go_sem] theorem pnf17 {x0 : D} : Pn.pf 17 [x0] = .i (serialR (zon1 x0)) := rfl
@[go_sem] theorem pnp9 : Pn.pure 9 = true := rfl
@[go_sem] theorem pnf9 {x0 : D} : Pn.pf 9 [x0] = .b (fewZ (zon1 x0)) := rfl
@[go_sem] theorem pnp65 : Pn.pure 65 = true := rfl
@[go_sem] theorem pnf65 {x0 : D} : Pn.pf 65 [x0] = .b (serB (int1 x0)) := rfl
@[go_sem] theorem pnp64 : Pn.pure 64 = true := rfl
@[go_sem] theorem pnf64 {x0 : D} : Pn.pf 64 [x0] = .b (serB (int1 x0)) := rfl
@[go_sem] theorem pnp16 : Pn.pure 16 = true := rfl
@[go_sem] theorem pnf16 {x0 x1 : D} : Pn.pf 16 [x0, x1] = .b (befB (int1 x0) (int1 x1)) := rfl
@[go_sem] theorem pnp54 : Pn.pure 54 = true := rfl
@[go_sem] theorem pnf54 {x0 x1 : D} : Pn.pf 54 [x0, x1] = .b (befB (int1 x0) (int1 x1)) := rfl
@[go_sem] theorem pnp23 : Pn.pure 23 = true := rfl
@[go_sem] theorem pnf23 {x0 x1 : D} : Pn.pf 23 [x0, x1] = .tuple [.b (lessF (int1 x0) (int1 x1)).1, .i (lessF (int1 x0) (int1 x1)).2] := rfl
@[go_sem] theorem pnp22 : Pn.pure 22 = true := rfl
@[go_sem] theorem pnf22 {x0 x1 : D} : Pn.pf 22 [x0, x1] = .tuple [.b (lessF (int1 x0) (int1 x1)).1, .i (lessF (int1 x0) (int1 x1)).2] := rfl
@[go_sem] theorem pnp25 : Pn.pure 25 = true := rfl
@[go_sem] theorem pnf25 {x0 : D} : Pn.pf 25 [x0] = .tuple [.i (afterF (int1 x0)).1, .i (afterF (int1 x0)).2] := rfl
@[go_sem] theorem pnp24 : Pn.pure 24 = true := rfl
@[go_sem] theorem pnf24 {x0 : D} : Pn.pf 24 [x0] = .tuple [.i (afterF (int1 x0)).1, .i (afterF (int1 x0)).2] := rfl
@[go_sem] theorem pnp67 : Pn.pure 67 = true := rfl
@[go_sem] theorem pnf67 {x0 : D} : Pn.pf 67 [x0] = .agg (sgd1 x0).q.d := rfl
@[go_sem] theorem pnp41 : Pn.pure 41 = true := rfl
@[go_sem] theorem pnf41 {x0 : D} : Pn.pf 41 [x0] = .agg (sgd1 x0).q.d := rfl
@[go_sem] theorem pnp112 : Pn.pure 112 = true := rfl
@[go_sem] theorem pnf112 {x0 x1 : D} : Pn.pf 112 [x0, x1] = .i (qO (qst1 x0) (qst1 x1)) := rfl
@[go_sem] theorem pnp66 : Pn.pure 66 = true := rfl
@[go_sem] theorem pnf66 {x0 x1 : D} : Pn.pf 66 [x0, x1] = .i (atF (sgds1 x0) (qst1 x1)) := rfl
@[go_sem] theorem pnp78 : Pn.pure 78 = true := rfl
@[go_sem] theorem pnf78 {x0 x1 : D} : Pn.pf 78 [x0, x1] = .b (askB (qsts1 x0) (qst1 x1)) := rfl
@[go_sem] theorem pnp79 : Pn.pure 79 = true := rfl
@[go_sem] theorem pnf79 {x0 x1 : D} : Pn.pf 79 [x0, x1] = .list false ((sortedF (sgds1 x0) (sgd1 x1)).map Sgd.d) := rfl
@[go_sem] theorem pnp80 : Pn.pure 80 = true := rfl
@[go_sem] theorem pnf80 {x0 x1 : D} : Pn.pf 80 [x0, x1] = .list false ((addF (qsts1 x0) (qst1 x1)).map Qst.d) := rfl
@[go_sem] theorem pnp77 : Pn.pure 77 = true := rfl
@[go_sem] theorem pnf77 {x0 : D} : Pn.pf 77 [x0] = .b (dltOk (dlt1 x0)) := rfl
@[go_sem] theorem pnp27 : Pn.pure 27 = true := rfl
@[go_sem] theorem pnf27 {x0 x1 : D} : Pn.pf 27 [x0, x1] = .b (sameD (dlt1 x0) (dlt1 x1)) := rfl
@[go_sem] theorem pnp10 : Pn.pure 10 = true := rfl
@[go_sem] theorem pnf10 {x0 : D} : Pn.pf 10 [x0] = .b (fewD (dlt1 x0)) := rfl
@[go_sem] theorem pnp21 : Pn.pure 21 = true := rfl
@[go_sem] theorem pnf21 {x0 x1 x2 x3 : D} : Pn.pf 21 [x0, x1, x2, x3] = .b (fewAll (zon1 x0) (zon1 x1) (dlt1 x2) (dlt1 x3)) := rfl
@[go_sem] theorem pnp26 : Pn.pure 26 = true := rfl
@[go_sem] theorem pnf26 {x0 x1 : D} : Pn.pf 26 [x0, x1] = .tuple [.agg (diffR (zon1 x0) (zon1 x1)).1.d, .i (diffR (zon1 x0) (zon1 x1)).2] := rfl
@[go_sem] theorem pnp30 : Pn.pure 30 = true := rfl
@[go_sem] theorem pnf30 {x0 x1 : D} : Pn.pf 30 [x0, x1] = .tuple [.agg (applyR (zon1 x0) (dlt1 x1)).1.d, .i (applyR (zon1 x0) (dlt1 x1)).2] := rfl
@[go_sem] theorem pnp29 : Pn.pure 29 = true := rfl
@[go_sem] theorem pnf29 {x0 x1 : D} : Pn.pf 29 [x0, x1] = .tuple [.agg (joinR (dlt1 x0) (dlt1 x1)).1.d, .i (joinR (dlt1 x0) (dlt1 x1)).2] := rfl
@[go_sem] theorem pnp31 : Pn.pure 31 = true := rfl
@[go_sem] theorem pnf31 {x0 x1 : D} : Pn.pf 31 [x0, x1] = .agg (smallZ (int1 x0) (str1 x1)).d := rfl
@[go_sem] theorem pnp97 : Pn.pure 97 = true := rfl
@[go_sem] theorem pnf97 {x0 : D} : Pn.pf 97 [x0] = .list false ((dats1 x0).map Dat.d) := rfl
@[go_sem] theorem pnp98 : Pn.pure 98 = true := rfl
@[go_sem] theorem pnf98 {x0 : D} : Pn.pf 98 [x0] = .list false ((sigs1 x0).map RSig.d) := rfl
@[go_sem] theorem pnp45 : Pn.pure 45 = true := rfl
@[go_sem] theorem pnf45 {x0 : D} : Pn.pf 45 [x0] = .agg (sgd1 x0).d := rfl
@[go_sem] theorem pnp62 : Pn.pure 62 = true := rfl
@[go_sem] theorem pnf62 {x0 : D} : Pn.pf 62 [x0] = .agg (sgd1 x0).d := rfl
@[go_sem] theorem pnp19 : Pn.pure 19 = true := rfl
@[go_sem] theorem pnf19 {x0 x1 : D} : Pn.pf 19 [x0, x1] = .tuple [.agg (findR (zon1 x0) (qst1 x1)).1.d, .b (findR (zon1 x0) (qst1 x1)).2.1, .i (findR (zon1 x0) (qst1 x1)).2.2] := rfl
@[go_sem] theorem pnp38 : Pn.pure 38 = true := rfl
@[go_sem] theorem pnf38 {x0 : D} : Pn.pf 38 [x0] = .fmap (kvP (mapP (sgds1 x0))) := rfl
@[go_sem] theorem pnp105 : Pn.pure 105 = true := rfl
@[go_sem] theorem pnf105 {x0 x1 : D} : Pn.pf 105 [x0, x1] = .b (eqDat (dats1 x0) (dats1 x1)) := rfl
@[go_sem] theorem pnp106 : Pn.pure 106 = true := rfl
@[go_sem] theorem pnf106 {x0 x1 : D} : Pn.pf 106 [x0, x1] = .b (eqSig (sigs1 x0) (sigs1 x1)) := rfl
@[go_sem] theorem pnp58 : Pn.pure 58 = true := rfl
@[go_sem] theorem pnf58 {x0 x1 : D} : Pn.pf 58 [x0, x1] = .b (sameX (sgd1 x0) (sgd1 x1)) := rfl
@[go_sem] theorem pnp56 : Pn.pure 56 = true := rfl
@[go_sem] theorem pnf56 {x0 x1 : D} : Pn.pf 56 [x0, x1] = .tuple [.agg (sgd1 x0).q.d, .b (newB (mapc1 x1) (sgd1 x0).q)] := rfl
@[go_sem] theorem pnp57 : Pn.pure 57 = true := rfl
@[go_sem] theorem pnf57 {x0 x1 : D} : Pn.pf 57 [x0, x1] = .tuple [.agg (sgd1 x0).d, .b (diffS (pget (mapc1 x1) (sgd1 x0).q) (sgd1 x0))] := rfl
@[go_sem] theorem pnp40 : Pn.pure 40 = true := rfl
@[go_sem] theorem pnf40 {x0 x1 : D} : Pn.pf 40 [x0, x1] = .tuple [.agg (sgd1 x0).d, .b (newB (mapc1 x1) (sgd1 x0).q)] := rfl
@[go_sem] theorem pnp68 : Pn.pure 68 = true := rfl
@[go_sem] theorem pnf68 {x0 x1 : D} : Pn.pf 68 [x0, x1] = .tuple [.agg (sgd1 x0).d, .b (newB (mapc1 x1) (sgd1 x0).q)] := rfl
@[go_sem] theorem pnp44 : Pn.pure 44 = true := rfl
@[go_sem] theorem pnf44 {x0 : D} : Pn.pf 44 [x0] = .tuple [.agg (sgd1 x0).d, .b true] := rfl
@[go_sem] theorem pnp76 : Pn.pure 76 = true := rfl
@[go_sem] theorem pnf76 {x0 : D} : Pn.pf 76 [x0] = .tuple [.agg (sgd1 x0).d, .b true] := rfl
@[go_sem] theorem pnp69 : Pn.pure 69 = true := rfl
@[go_sem] theorem pnf69 {x0 : D} : Pn.pf 69 [x0] = .agg (qst1 x0).d := rfl
@[go_sem] theorem pnp75 : Pn.pure 75 = true := rfl
@[go_sem] theorem pnf75 {x0 x1 : D} : Pn.pf 75 [x0, x1] = .tuple [.agg (qst1 x0).d, .b (newB (mapc1 x1) (qst1 x0))] := rfl
@[go_sem] theorem pnp55 : Pn.pure 55 = true := rfl
@[go_sem] theorem pnf55 {x0 x1 : D} : Pn.pf 55 [x0, x1] = .list false (((sgds1 x0).filterMap (d1S (capm1 x1))).map Qst.d) := rfl
@[go_sem] theorem pnp73 : Pn.pure 73 = true := rfl
@[go_sem] theorem pnf73 {x0 x1 : D} : Pn.pf 73 [x0, x1] = .list false (((qsts1 x0).filterMap (j3S (capm1 x1))).map Qst.d) := rfl
@[go_sem] theorem pnp39 : Pn.pure 39 = true := rfl
@[go_sem] theorem pnf39 {x0 x1 : D} : Pn.pf 39 [x0, x1] = .list false (((sgds1 x0).filterMap (semS (x1))).map Sgd.d) := rfl
@[go_sem] theorem pnp43 : Pn.pure 43 = true := rfl
@[go_sem] theorem pnf43 {x0 : D} : Pn.pf 43 [x0] = .fn (.func 96) [] [.eptr [.fn (.func 41) [] []]] := rfl
@[go_sem] theorem pnp96 : Pn.pure 96 = true := rfl
@[go_sem] theorem pnf96 {x0 x1 x2 : D} : Pn.pf 96 [x0, x1, x2] = .i (qC (sgd1 x0).q (sgd1 x1).q) := rfl
@[go_sem] theorem pnp72 : Pn.pure 72 = true := rfl
@[go_sem] theorem pnf72 {x0 : D} : Pn.pf 72 [x0] = .fn (.func 109) [] [.eptr [.fn (.func 69) [] []]] := rfl
@[go_sem] theorem pnp109 : Pn.pure 109 = true := rfl
@[go_sem] theorem pnf109 {x0 x1 x2 : D} : Pn.pf 109 [x0, x1, x2] = .i (qC (qst1 x0) (qst1 x1)) := rfl
@[go_sem] theorem pnp37 : Pn.pure 37 = true := rfl
@[go_sem] theorem pnf37 {x0 : D} : Pn.pf 37 [x0] = .b (dltOk (dlt1 x0)) := rfl
@[go_sem] theorem pnp15 : Pn.pure 15 = true := rfl
@[go_sem] theorem pnf15 {x0 x1 : D} : Pn.pf 15 [x0, x1] = .tuple [.agg (diffP (zon1 x0) (zon1 x1)).1.d, .i (diffP (zon1 x0) (zon1 x1)).2] := rfl
@[go_sem] theorem pnp12 : Pn.pure 12 = true := rfl
@[go_sem] theorem pnf12 {x0 x1 : D} : Pn.pf 12 [x0, x1] = .tuple [.agg (applyP (zon1 x0) (dlt1 x1)).1.d, .i (applyP (zon1 x0) (dlt1 x1)).2] := rfl
def PnB : Con := { Pn with bs := true }
@[go_sem] theorem pnB_p {k : FuncId} : PnB.pure k = Pn.pure k := rfl
@[go_sem] theorem pnB_f {k : FuncId} {xs : List D} : PnB.pf k xs = Pn.pf k xs := rfl
@[go_sem] theorem pnB_b : PnB.bs = true := rfl
@[go_sem] theorem pn_b : Pn.bs = false := rfl
@[go_sem] theorem pn_c : Pn.cf = false := rfl
@[go_sem] theorem pnB_c : PnB.cf = false := rfl
def PnF : Con := { Pn with cf := true }
@[go_sem] theorem pnF_p {k : FuncId} : PnF.pure k = Pn.pure k := rfl
@[go_sem] theorem pnF_f {k : FuncId} {xs : List D} : PnF.pf k xs = Pn.pf k xs := rfl
@[go_sem] theorem pnF_b : PnF.bs = false := rfl
@[go_sem] theorem pnF_c : PnF.cf = true := rfl
end Go.Proofs.YtfggmgafjabbjaaGreatDoor
namespace Go.Proofs.YtfggmgafjabbjaaGreatDoor
open Go.DL Go.Str Go.Rec Go.Cmp Go.Zon
set_option maxRecDepth 10000
set_option linter.unusedSimpArgs false
set_option linter.unusedVariables false
theorem zserial_yes {z : Zon} (h : zoneOk z = true) : PureCt Tryz.prog 13 [.agg z.d] (.tuple [.i (serialOf z), .i 0]) := by
  have := zserial_ct z
  rwa [if_pos h, if_pos h] at this
theorem zserial_no {z : Zon} (h : zoneOk z = false) : PureCt Tryz.prog 13 [.agg z.d] (.tuple [.i 0, .i 1]) := by
  have := zserial_ct z
  rwa [if_neg (by simp [h]), if_neg (by simp [h])] at this
@[go_sem] theorem keysOk_S {m : List Qst} : keysOk Tryz.prog 43 (kvS m) = true := by
  induction m with
  | nil => rfl
  | cons p m ih => rw [kvS_cons]; simp only [keysOk, ih, Qst.d, ko43, Bool.and_self]
@[go_sem] theorem keysOk_Z {m : PZ} : keysOk Tryz.prog 43 (kvZ m) = true := by
  induction m with
  | nil => rfl
  | cons p m ih => rw [kvZ_cons]; simp only [keysOk, ih, Qst.d, ko43, Bool.and_self]
theorem bo37 : hasBody Tryz.prog 37 = true := by kernel_rfl
theorem dinform_ct (d : Dlt) : PureCt Tryz.prog 37 [.agg d.d] (.b (dltOk d)) := by
  refine pure_of_dw Tryz.func37 rfl bo37 (by simp [go_sem, D.nr, nrs, nrr]) (by simp [Tryz.f37]) ?_
  unfold Tryz.f37
  simp only [init_eq]
  have ff := True.intro
  refine stp Pn ?_
  refine dw_seq ?_
  refine stp Pn ?_ (hok := by (try simp only [go_sem, ff]); all_goals (first | done | ((repeat' (with_reducible apply And.intro)) <;> first | exact nvalid_ct _ | (intros; exact nvalid_ct _) | exact (fun _ => haspre_ct _ _) | (intros; exact (fun _ => haspre_ct _ _)) | skip)))
  refine cd (fun c1 => ?_) (fun c1 => ?_)
  · skip
    refine stp Pn ?_
    refine dw_ret ?_
    exact fin 0 (hr := by (try simp only [go_sem, ff]); all_goals (rw [← dltC_ok]; simp only [dltC]; (try rw [wild_pre] at *); grind))
  · skip
    refine dw_skip ?_
    show DW _ _ _ _ _
    refine dw_seq ?_
    refine stp Pn ?_ (hok := by (try simp only [go_sem, ff]); all_goals (first | done | ((repeat' (with_reducible apply And.intro)) <;> first | exact dserial_ct _ | (intros; exact dserial_ct _) | exact (fun _ => dserial_ct _) | (intros; exact (fun _ => dserial_ct _)) | exact (fun h => dbefore_ct _ _ (by simp_all) (by simp_all)) | (intros; exact (fun h => dbefore_ct _ _ (by simp_all) (by simp_all))) | (intros; simp_all; done) | skip)))
    refine cd (fun c2 => ?_) (fun c2 => ?_)
    · skip
      refine stp Pn ?_
      refine dw_ret ?_
      exact fin 0 (hr := by (try simp only [go_sem, ff]); all_goals (rw [← dltC_ok]; simp only [dltC]; (try rw [wild_pre] at *); grind))
    · skip
      refine dw_skip ?_
      show DW _ _ _ _ _
      refine dw_seq ?_
      refine stp Pn ?_
      refine cd (fun c3 => ?_) (fun c3 => ?_)
      · skip
        refine stp Pn ?_
        refine dw_ret ?_
        exact fin 0 (hr := by (try simp only [go_sem, ff]); all_goals (rw [← dltC_ok]; simp only [dltC]; (try rw [wild_pre] at *); grind))
      · skip
        refine dw_skip ?_
        show DW _ _ _ _ _
        refine stp Pn ?_
        refine dw_seq ?_
        refine stp Pn ?_
        refine dw_block ?_
        refine lp (α := (Nat) × Nat) [1, 3, 50, 51] (fun ⟨k, nx⟩ => (k ≤ d.drop.length) ∧ (allN d.drop.length (dropAtC d.drop) 0 = allN d.drop.length (dropAtC d.drop) k) ∧ (42 < nx) ∧ True) (fun ⟨k, nx⟩ => d.drop.length - k) (fun ⟨k, nx⟩ => [(52, .i k)]) (fun ⟨k, nx⟩ => [(0, ⟨27, [d.d]⟩), (42, ⟨115, mapRows (kvS (qsTo d.drop (k)))⟩)]) (fun ⟨k, nx⟩ => nx) (0, _) (hA := ⟨iv, rfl, iv, trivial⟩) (round := ?_)
        rintro ⟨k, nx⟩ ⟨hk, hv1, hx, -⟩
        show DW _ _ _ _ { n := _, t := tab _, h := _, nx := _, e := _ }
        simp only [List.cons_append, List.nil_append]
        have n0 : 0 < nx := by omega
        have ff := And.intro @hx (And.intro @n0 ff)
        refine stp Pn ?_
        refine dw_seq ?_
        refine cd (fun c4 => ?_) (fun c4 => ?_) (hp := rfl)
        · skip
          have hk2 : k < d.drop.length := by simpa using c4
          have hk1 : k - 1 < d.drop.length := by omega
          have e1 : ((k:Int) - 1).toNat = k - 1 := by omega
          have ff := And.intro (getD_qst hk2) (And.intro (getD_qst hk1) (And.intro @e1 ff))
          refine dw_skip ?_
          show DW _ _ _ _ _
          refine dw_seq ?_
          refine dw_block ?_
          refine stp Pn ?_
          refine dw_seq ?_
          refine stp Pn ?_ (hok := by (try simp only [go_sem, ff]); all_goals (first | done | ((repeat' (with_reducible apply And.intro)) <;> first | exact nvalid_ct _ | (intros; exact nvalid_ct _) | omega | (intro h; simp only [Bool.and_eq_true, decide_eq_true_eq] at h; omega) | (intros; omega) | (intros; simp_all; done) | skip)))
          refine cd (fun c5 => ?_) (fun c5 => ?_)
          · skip
            refine stp Pn ?_
            refine dw_ret ?_
            exact fin 0 (hr := by (try simp only [go_sem, ff]); all_goals (rw [← dltC_ok]; have hF : (dropAtC d.drop) k = false := (by simp only [dropAtC, qOk, inR]; grind); simp only [dltC]; rw [hv1, allN_no hk2 hF]; try simp))
          · skip
            refine dw_skip ?_
            show DW _ _ _ _ _
            refine dw_seq ?_
            refine stp Pn ?_ (hok := by (try simp only [go_sem, ff]); all_goals (first | done | ((repeat' (with_reducible apply And.intro)) <;> first | exact (fun _ => dcmppl_ct d.drop[k - 1]! d.drop[k]!) | (intros; exact (fun _ => dcmppl_ct d.drop[k - 1]! d.drop[k]!)) | omega | (intro h; simp only [Bool.and_eq_true, decide_eq_true_eq] at h; omega) | (intros; omega) | (intros; simp_all; done) | skip)))
            refine cd (fun c6 => ?_) (fun c6 => ?_)
            · skip
              refine stp Pn ?_
              refine dw_ret ?_
              exact fin 0 (hr := by (try simp only [go_sem, ff]); all_goals (rw [← dltC_ok]; have hF : (dropAtC d.drop) k = false := (by simp only [dropAtC, qOk, inR]; grind); simp only [dltC]; rw [hv1, allN_no hk2 hF]; try simp))
            · skip
              refine dw_skip ?_
              show DW _ _ _ _ _
              refine rgn Pn ?_
              show DW _ _ _ _ _
              refine rgn Pn ?_
              show ∃ _, _
              have h8 : (dropAtC d.drop) k = true := by simp only [dropAtC, qOk, inR]; grind
              have ff := And.intro (show qset (qsTo d.drop k) d.drop[k]! = qsTo d.drop (k + 1) from rfl) ff
              exact rnd (k + 1, _) (h1 := ⟨iv, (by first | (rw [hv1, allN_yes hk2 h8]) | (dsimp only; rw [hv1, allN_yes hk2 h8])), iv, trivial⟩)
        · skip
          have e9 : k = d.drop.length := by omega
          subst e9
          refine dw_exit ?_
          show DW _ _ _ _ _
          refine dw_seq ?_
          refine stp Pn ?_
          refine dw_block ?_
          refine lp (α := (Nat) × Nat) [1, 3, 88, 89] (fun ⟨k, nx⟩ => (k ≤ d.put.length) ∧ (allN d.put.length (putAtC d) 0 = allN d.put.length (putAtC d) k) ∧ (42 < nx) ∧ True) (fun ⟨k, nx⟩ => d.put.length - k) (fun ⟨k, nx⟩ => [(90, .i k)]) (fun ⟨k, nx⟩ => [(0, ⟨27, [d.d]⟩), (42, ⟨115, mapRows (kvS (qsTo d.drop (d.drop.length)))⟩)]) (fun ⟨k, nx⟩ => nx) (0, _) (hA := ⟨iv, rfl, iv, trivial⟩) (round := ?_)
          rintro ⟨k, nx⟩ ⟨hk, hv, hx, -⟩
          show DW _ _ _ _ { n := _, t := tab _, h := _, nx := _, e := _ }
          simp only [List.cons_append, List.nil_append]
          have n0 : 0 < nx := by omega
          have ff := And.intro @hx (And.intro @n0 ff)
          refine stp Pn ?_
          refine dw_seq ?_
          refine cd (fun c7 => ?_) (fun c7 => ?_) (hp := rfl)
          · skip
            have hk2 : k < d.put.length := by simpa using c7
            have hk1 : k - 1 < d.put.length := by omega
            have e1 : ((k:Int) - 1).toNat = k - 1 := by omega
            have ff := And.intro (getD_sgd hk2) (And.intro (getD_sgd hk1) (And.intro @e1 ff))
            refine dw_skip ?_
            show DW _ _ _ _ _
            refine dw_seq ?_
            refine dw_block ?_
            refine stp Pn ?_
            refine dw_seq ?_
            refine stp Pn ?_ (hok := by (try simp only [go_sem, ff]); all_goals (first | done | ((repeat' (with_reducible apply And.intro)) <;> first | exact rvalid_ct _ | (intros; exact rvalid_ct _) | exact (fun _ => dplace_ct d.put[k]!) | (intros; exact (fun _ => dplace_ct d.put[k]!)) | omega | (intro h; simp only [Bool.and_eq_true, decide_eq_true_eq] at h; omega) | (intros; omega) | (intros; simp_all; done) | skip)))
            refine cd (fun c8 => ?_) (fun c8 => ?_)
            · skip
              refine stp Pn ?_
              refine dw_ret ?_
              exact fin 0 (hr := by (try simp only [go_sem, ff]); all_goals (rw [← dltC_ok]; have hF : (putAtC d) k = false := (by simp only [putAtC]; grind); simp only [dltC]; rw [hv, allN_no hk2 hF]; try simp))
            · skip
              refine dw_skip ?_
              show DW _ _ _ _ _
              refine stp Pn ?_ (hok := by (try simp only [go_sem, ff]); all_goals (first | done | ((repeat' (with_reducible apply And.intro)) <;> first | exact (fun _ => dplace_ct d.put[k]!) | (intros; exact (fun _ => dplace_ct d.put[k]!)) | exact (fun _ => dplace_ct d.put[k - 1]!) | (intros; exact (fun _ => dplace_ct d.put[k - 1]!)) | exact (fun _ => dcmppl_ct d.put[k - 1]!.q d.put[k]!.q) | (intros; exact (fun _ => dcmppl_ct d.put[k - 1]!.q d.put[k]!.q)) | omega | (intro h; simp only [Bool.and_eq_true, decide_eq_true_eq] at h; omega) | (intros; omega) | (intros; simp_all; done) | skip)))
              refine cd (fun c9 => ?_) (fun c9 => ?_)
              · skip
                refine stp Pn ?_
                refine dw_ret ?_
                exact fin 0 (hr := by (try simp only [go_sem, ff]); all_goals (rw [← dltC_ok]; have hF : (putAtC d) k = false := (by simp only [putAtC]; grind); simp only [dltC]; rw [hv, allN_no hk2 hF]; try simp))
              · skip
                refine dw_skip ?_
                show DW _ _ _ _ _
                refine rgn Pn ?_
                show ∃ _, _
                have h8 : (putAtC d) k = true := by simp only [putAtC]; grind
                exact rnd (k + 1, _) (h1 := ⟨iv, (by first | (rw [hv, allN_yes hk2 h8]) | (dsimp only; rw [hv, allN_yes hk2 h8])), iv, trivial⟩)
          · skip
            refine dw_exit ?_
            show DW _ _ _ _ _
            refine stp Pn ?_
            refine dw_ret ?_
            exact fin 0 (hr := by (try simp only [go_sem, ff]); all_goals (rw [← dltC_ok]; simp only [dltC]; (try rw [wild_pre] at *); rw [hv1, hv, allN_end (n := d.drop.length) (by omega), allN_end (by omega)]; grind))
theorem bo15 : hasBody Tryz.prog 15 = true := by kernel_rfl
theorem ddiff_ct (a : Zon) (b : Zon) : PureCt Tryz.prog 15 [.agg a.d, .agg b.d] (.tuple [.agg (diffP a b).1.d, .i (diffP a b).2]) := by
  refine pure_of_dw Tryz.func15 rfl bo15 (by simp [go_sem, D.nr, nrs, nrr]) (by simp [Tryz.f15]) ?_
  unfold Tryz.f15
  simp only [init_eq]
  have ff := True.intro
  refine stp Pn ?_
  rcases ha : zoneOk a with _ | _ <;> rcases hb : zoneOk b with _ | _
  · skip
    have ff := And.intro @ha (And.intro @hb ff)
    refine stp Pn ?_ (hok := by (try simp only [go_sem, ff]); all_goals (first | exact zserial_yes ha | exact zserial_no ha))
    refine stp Pn ?_ (hok := by (try simp only [go_sem, ff]); all_goals (first | exact zserial_yes hb | exact zserial_no hb))
    refine dw_seq ?_
    refine stp Pn ?_
    refine cd (fun c1 => ?_) (fun c1 => ?_) (hq := rfl)
    · skip
      refine stp Pn ?_
      refine dw_ret ?_
      exact fin 3 (hr := by (try simp only [go_sem, ff]); all_goals (rw [diffP, if_pos (by simp_all)]; rfl))
    · skip
      first | exact c1.elim | (simp at c1; done)
  · skip
    have ff := And.intro @ha (And.intro @hb ff)
    refine stp Pn ?_ (hok := by (try simp only [go_sem, ff]); all_goals (first | exact zserial_yes ha | exact zserial_no ha))
    refine stp Pn ?_ (hok := by (try simp only [go_sem, ff]); all_goals (first | exact zserial_yes hb | exact zserial_no hb))
    refine dw_seq ?_
    refine stp Pn ?_
    refine cd (fun c1 => ?_) (fun c1 => ?_) (hq := rfl)
    · skip
      refine stp Pn ?_
      refine dw_ret ?_
      exact fin 3 (hr := by (try simp only [go_sem, ff]); all_goals (rw [diffP, if_pos (by simp_all)]; rfl))
    · skip
      first | exact c1.elim | (simp at c1; done)
  · skip
    have ff := And.intro @ha (And.intro @hb ff)
    refine stp Pn ?_ (hok := by (try simp only [go_sem, ff]); all_goals (first | exact zserial_yes ha | exact zserial_no ha))
    refine stp Pn ?_ (hok := by (try simp only [go_sem, ff]); all_goals (first | exact zserial_yes hb | exact zserial_no hb))
    refine dw_seq ?_
    refine stp Pn ?_
    refine cd (fun c1 => ?_) (fun c1 => ?_) (hq := rfl)
    · skip
      refine stp Pn ?_
      refine dw_ret ?_
      exact fin 3 (hr := by (try simp only [go_sem, ff]); all_goals (rw [diffP, if_pos (by simp_all)]; rfl))
    · skip
      first | exact c1.elim | (simp at c1; done)
  · skip
    have hfa := zone_fit ha
    have hfb := zone_fit hb
    have hsa : serB (serialOf a) = true := by rw [serial_ref ha]; exact ref_ser (by rw [← zoneOk_ref]; exact ha)
    have hsb : serB (serialOf b) = true := by rw [serial_ref hb]; exact ref_ser (by rw [← zoneOk_ref]; exact hb)
    have ff := And.intro @ha (And.intro @hb ff)
    refine stp Pn ?_ (hok := by (try simp only [go_sem, ff]); all_goals (first | exact zserial_yes ha | exact zserial_no ha))
    refine stp Pn ?_ (hok := by (try simp only [go_sem, ff]); all_goals (first | exact zserial_yes hb | exact zserial_no hb))
    refine dw_seq ?_
    refine stp Pn ?_
    refine cd (fun c1 => ?_) (fun c1 => ?_)
    · skip
      refine stp Pn ?_
      refine dw_ret ?_
      exact fin 3 (hr := by (try simp only [go_sem, ff]); all_goals (rw [diffP, if_pos (by simp_all)]; rfl))
    · skip
      refine dw_skip ?_
      show DW _ _ _ _ _
      refine dw_seq ?_
      refine stp Pn ?_ (hok := by (try simp only [go_sem, ff]); all_goals (exact dbefore_ct _ _ hsa hsb))
      refine cd (fun c2 => ?_) (fun c2 => ?_)
      · skip
        refine stp Pn ?_
        refine dw_ret ?_
        exact fin 3 (hr := by (try simp only [go_sem, ff]); all_goals (rw [diffP, if_neg (by simp_all), if_pos (by simp_all)]; rfl))
      · skip
        refine dw_skip ?_
        show DW _ _ _ _ _
        refine stp PnF ?_ (hok := by (try simp only [go_sem, ff]); all_goals (first | done | ((repeat' (with_reducible apply And.intro)) <;> first | exact dbyplace_ct a.sets hfa.1 | (intros; exact dbyplace_ct a.sets hfa.1) | exact dbyplace_ct b.sets hfb.1 | (intros; exact dbyplace_ct b.sets hfb.1) | skip)))
        refine stp Pn ?_
        refine dw_freezep 11 42 ev ev nrs_fmapP ?_
        refine stp Pn ?_ (hok := by (try simp only [go_sem, ff]); all_goals (first | done | ((repeat' (with_reducible apply And.intro)) <;> first | exact dcollsq_ct a.sets (mapP b.sets) hfa | (intros; exact dcollsq_ct a.sets (mapP b.sets) hfa) | skip)))
        refine dw_freezep 10 41 ev ev nrs_fmapP ?_
        refine stp Pn ?_ (hok := by (try simp only [go_sem, ff]); all_goals (first | done | ((repeat' (with_reducible apply And.intro)) <;> first | exact dcollssD2_ct b.sets (mapP a.sets) hfb (fun k hk x hx => fit_mem hfa (mapP_mem hx).1) | (intros; exact dcollssD2_ct b.sets (mapP a.sets) hfb (fun k hk x hx => fit_mem hfa (mapP_mem hx).1)) | skip)))
        refine stp Pn ?_
        refine dw_ret ?_
        exact fin 3 (hr := by (try simp only [go_sem, ff]); all_goals (rw [diffP, if_neg (by simp_all), if_neg (by simp_all)]; try rfl))

end Go.Proofs.YtfggmgafjabbjaaGreatDoor
/-
  THE D LAYER, 18: slices.SortFunc on a block that may be written (structs): the library's proved contract, told on plain data. Conditions: none.
-/
namespace Go.DL
open Go.RowKit
variable {P : Program}

/-- sorted by 'not greater' -/
def SortedBy (cf : List D → List D → Int) (rows : List (List D)) : Prop := rows.Pairwise fun x y => ¬ cf y x < 0
/-- a strict weak order, on these -/
structure SwoOn (cf : List D → List D → Int) (rows : List (List D)) : Prop where
  irrefl : ∀ x ∈ rows, ¬ cf x x < 0
  trans : ∀ x ∈ rows, ∀ y ∈ rows, ∀ z ∈ rows, cf x y < 0 → cf y z < 0 → cf x z < 0
  ntrans : ∀ x ∈ rows, ∀ y ∈ rows, ∀ z ∈ rows, ¬ cf x y < 0 → ¬ cf y z < 0 → ¬ cf x z < 0

theorem sortWorld_heap (enc : Nat → List Value) (k : Nat) (w : World) (b m : Nat) (d : Array Nat) (os : Array Obj) (i : Nat) (hi : i < w.heap.size) (hb : i ≠ b) : (Go.Proofs.sortWorldK enc k w b 0 m d os).heap[i]? = w.heap[i]? := by
  unfold Go.Proofs.sortWorldK Go.Sort.putRowK Go.Sort.putRow Go.Sort.mapBlock Go.Sort.grow
  simp only [Go.Sort.ahead]
  rw [Array.getElem?_append_left (by simpa using hi), Array.getElem?_modify, if_neg (Ne.symm hb)]
theorem sortWorld_at (enc : Nat → List Value) (k : Nat) (w : World) (b m : Nat) (d : Array Nat) (os : Array Obj) {cur : Array Value} {ty : TypeId} (hb : w.heap[b]? = some (.cells cur ty (0, 0))) :
    (Go.Proofs.sortWorldK enc k w b 0 m d os).heap[b]? = some (.cells (Go.Sort.putCells id 0 (Go.Sort.flatK enc k d) cur) ty (0, 0)) := by
  have hi : b < w.heap.size := (Array.getElem?_eq_some_iff.1 hb).1
  unfold Go.Proofs.sortWorldK Go.Sort.putRowK Go.Sort.putRow Go.Sort.mapBlock Go.Sort.grow
  simp only [Go.Sort.ahead]
  rw [Array.getElem?_append_left (by simpa using hi), Array.getElem?_modify, if_pos rfl, hb]
  rfl
theorem sortWorld_size (enc : Nat → List Value) (k : Nat) (w : World) (b m : Nat) (d : Array Nat) (os : Array Obj) : (Go.Proofs.sortWorldK enc k w b 0 m d os).heap.size = w.heap.size + os.size := by
  unfold Go.Proofs.sortWorldK Go.Sort.putRowK Go.Sort.putRow Go.Sort.mapBlock Go.Sort.grow
  simp [Go.Sort.ahead]
theorem bel_grow {w w' : World} (h : Bel w w') : ∃ q os, w' = Go.Sort.grow (w.drewN q) os := by
  refine ⟨w'.drawn - w.drawn, w'.heap.extract w.heap.size w'.heap.size, ?_⟩
  obtain ⟨h1, h2, h3, h4, h5, h6⟩ := h
  have hh : w'.heap = w.heap ++ w'.heap.extract w.heap.size w'.heap.size := by
    apply Array.ext_getElem?
    intro i
    by_cases hi : i < w.heap.size
    · rw [Array.getElem?_append_left hi, h6 i hi]
    · rw [Array.getElem?_append_right (by omega), Array.getElem?_extract]
      by_cases hj : i < w'.heap.size
      · rw [if_pos (by omega)]
        congr 1
        omega
      · rw [if_neg (by omega), Array.getElem?_eq_none (by omega)]
  cases w'
  cases w
  simp only at h1 h2 h3 h5 hh
  simp only [Go.Sort.grow, World.drewN, World.mk.injEq]
  refine ⟨hh, h2, ?_, h1, h3⟩
  omega

theorem sort_rct [Glob P] {ρ : Go.Shelf.Ren} (L : Go.Proofs.SlLaysF0.n6 P ρ) {fS ty : Nat} (hfS : ρ.f 6 = fS) (hty : ρ.t 24 = ty) (aE : ∀ w, (isAgg ty).run P w = .ok true w) (zE : ∀ w, (Go.sizeOf ty).run P w = .ok (P.cellsOf ty) w)
    {r nf g : Nat} {rows : List (List D)} {h : H} {caps : List D} (cf : List D → List D → Int) (hbS : hasBody P fS = true) (hr : h r = some ⟨ty, rows⟩) (hnr : nrr rows = true) (hcn : caps.all D.nr = true) (hmax : rows.length < 4611686018427387904)
    (hcmp : ∀ x ∈ rows, ∀ y ∈ rows, PureCt P g ([.agg x, .agg y] ++ caps) (.i (cf x y))) (hO : SwoOn cf rows) :
    RCt P fS [.mrow r 0 rows.length, .fn (.func g) [] caps] h nf (fun d h' n' => d = .tuple [] ∧ n' = nf ∧ ∃ rows', rows'.Perm rows ∧ SortedBy cf rows' ∧ h' = upd h r (some ⟨ty, rows'⟩)) := by
  refine ⟨hbS, fun w gm vs hm hU hrs => ?_⟩
  obtain ⟨x, vs1, rfl, hx, h1⟩ := hrs.of_cons
  obtain ⟨f, vs2, rfl, hf, h2⟩ := h1.of_cons
  rw [h2.of_nil]
  cases hf with | fn _ _ _ fs cs l1 l2 r1 r2 =>
  have hfs : fs = #[] := Array.eq_empty_of_size_eq_zero (by simpa using l1.symm)
  subst hfs
  cases hx with | mrow _ _ _ _ _ hUr hv =>
  obtain ⟨blk, c, q1, q2, q3, q4, q5⟩ := hm.blk r _ hr
  obtain ⟨v1, v2⟩ := hv _ _ _ q1
  by_cases hne : rows = []
  · subst hne
    have hx' : ∃ p cap, x = .slice p 0 cap := by
      rcases v2 with ⟨_, a, rfl⟩ | ⟨_, b, _, rfl⟩
      · exact ⟨a, 0, rfl⟩
      · exact ⟨_, _, rfl⟩
    obtain ⟨p, cap, rfl⟩ := hx'
    have key := Go.Proofs.AnyF.slices_SortFunc_none L p cap (.func (.func g) #[] cs) w
    rw [hfS] at key
    refine callsIn_wide.2 (key.mono ?_)
    rintro e w' ⟨rfl, rfl⟩
    refine ⟨_, gm, _, h, nf, ⟨rfl, rfl, [], .refl _, .nil, ?_⟩, rfl, .mk_tuple (vs := #[]) .nil, hm, Mono.refl _ _, hU⟩
    funext i
    unfold upd
    split
    · rename_i e; subst e; exact hr
    · rfl
  · have hn0 : 0 < rows.length := List.length_pos_iff.2 hne
    rcases q5 with ⟨_, q5⟩ | ⟨b, cur, rfl, q6, q7, q8, q9⟩
    · simp only at q3; omega
    have q6 := q6.cells v1.2
    have q7 := q7 v1.2
    have q4 := v1.2
    rcases v2 with ⟨e0, a, rfl⟩ | ⟨hc0, b', hb', rfl⟩
    · simp only at q3; omega
    cases hb'
    have hbw : b < w.heap.size := (Array.getElem?_eq_some_iff.1 q6).1
    generalize hk : P.cellsOf ty = k at *
    simp only at q3
    -- the values of a row, by its number
    let ix : Nat → Nat := fun i => if i < rows.length then i else 0
    have hix : ∀ i, ix i < rows.length := fun i => by simp only [ix]; split <;> assumption
    have hixs : ∀ i, i < rows.length → ix i = i := fun i hi => by simp only [ix]; rw [if_pos hi]
    let enc : Nat → List Value := fun i => (List.range k).map fun j => cur.getD (ix i * k + j) undef
    have hklen : ∀ i, (enc i).length = k := fun i => by simp [enc]
    have hrow : ∀ i, i < rows.length → (rows.getD i []).length = k ∧ ∀ (j : Nat) d, (rows.getD i [])[j]? = some d → (enc i)[j]? = some (cur.getD (i * k + j) undef) ∧ cur[i * k + j]? = some (cur.getD (i * k + j) undef) ∧ (cur.getD (i * k + j) undef).oneCell' = true ∧ Rep w gm d (cur.getD (i * k + j) undef) := by
      intro i hi
      have e1 : rows[i]? = some (rows.getD i []) := by simp [List.getD, hi]
      obtain ⟨p1, p2⟩ := q9 i _ e1
      simp only [hk] at p1 p2
      refine ⟨p1, fun j d hd => ?_⟩
      obtain ⟨u, u1, u2, u3⟩ := p2 j d hd
      have e2 : cur.getD (i * k + j) undef = u := by simp [Array.getD_eq_getD_getElem?, u1]
      have hj : j < k := by rw [← p1]; exact (List.getElem?_eq_some_iff.1 hd).1
      rw [e2]
      refine ⟨by simp [enc, hj, hixs i hi]; rw [← e2]; simp [Array.getD_eq_getD_getElem?], u1, u2, u3⟩
    have hencI : ∀ i, enc i = enc (ix i) := fun i => by simp only [enc]; rw [hixs (ix i) (hix i)]
    have hone : ∀ i, ∀ v ∈ enc i, v.oneCell' = true := by
      intro i v hv
      rw [hencI] at hv
      obtain ⟨j, hj⟩ := List.getElem?_of_mem hv
      have hjk : j < k := by rw [← hklen (ix i)]; exact (List.getElem?_eq_some_iff.1 hj).1
      obtain ⟨p1, p2⟩ := hrow (ix i) (hix i)
      have hd : (rows.getD (ix i) [])[j]? = some ((rows.getD (ix i) [])[j]'(by omega)) := by simp
      obtain ⟨u1, _, u2, _⟩ := p2 j _ hd
      rw [u1] at hj
      cases hj
      exact u2
    let rw' : Nat → List D := fun i => rows.getD (ix i) []
    have hmem : ∀ i, rw' i ∈ rows := fun i => by
      have : rw' i = rows[ix i]'(hix i) := by simp [rw', List.getD, hix i]
      rw [this]; exact List.getElem_mem _
    let cn : Nat → Nat → Int := fun i j => cf (rw' i) (rw' j)
    have hswo : Go.Sort.SWO (Go.Proofs.ltOf cn) := by
      refine ⟨fun x => ?_, fun x y z p1 p2 => ?_, fun x y z p1 p2 => ?_⟩
      · simp only [Go.Proofs.ltOf, cn, decide_eq_false_iff_not]; exact hO.irrefl _ (hmem x)
      · simp only [Go.Proofs.ltOf, cn, decide_eq_true_eq] at *; exact hO.trans _ (hmem x) _ (hmem y) _ (hmem z) p1 p2
      · simp only [Go.Proofs.ltOf, cn, decide_eq_false_iff_not] at *; exact hO.ntrans _ (hmem x) _ (hmem y) _ (hmem z) p1 p2
    let d : Array Nat := Array.range rows.length
    have hds : d.size = rows.length := by simp [d]
    have hdg : ∀ i, i < rows.length → d[i]! = i := fun i hi => by simp [d, hi]
    have hmodlt : ∀ t, t < rows.length * k → t / k < rows.length ∧ t % k < k := fun t ht => ⟨Nat.div_lt_of_lt_mul (by rw [Nat.mul_comm]; exact ht), Nat.mod_lt _ q2⟩
    have hget : ∀ i j, i < rows.length → j < k → (enc i)[j]! = cur.getD (i * k + j) undef := by
      intro i j hi hj
      obtain ⟨p1, p2⟩ := hrow i hi
      have hd : (rows.getD i [])[j]? = some ((rows.getD i [])[j]'(by omega)) := by simp
      rw [List.getElem!_eq_getElem?_getD, (p2 j _ hd).1]; rfl
    have hH : Go.Sort.HoldsK enc k w b 0 d := by
      intro t ht
      simp only [Go.Sort.size_flatK, hds] at ht
      rw [Go.Sort.get_flatK _ _ _ _ (by rw [hds]; exact ht)]
      obtain ⟨t1, t2⟩ := hmodlt t ht
      rw [hdg _ t1, hget _ _ t1 t2]
      have e : t / k * k + t % k = t := by rw [Nat.mul_comm]; exact Nat.div_add_mod t k
      rw [e, Nat.zero_add]
      have hlt : t < cur.size := by rw [q7]; exact Nat.lt_of_lt_of_le ht (Nat.mul_le_mul_right k q3)
      refine ⟨?_, ?_⟩
      · simp [World.cell?, q6, hlt, id, Array.getD_eq_getD_getElem?]
      · simp [World.frozen?, q6]
    have hcl : Go.Proofs.CmpLays P g cs enc k cn b 0 d.size w := by
      intro m os dk hdk x y
      obtain ⟨hbd, _, hct⟩ := hcmp _ (hmem x) _ (hmem y)
      have hW := sortWorld_size enc k w b m dk os
      have hI : ∀ b', gm.I b' → b' < (Go.Proofs.sortWorldK enc k w b 0 m dk os).heap.size := fun b' hb' => by rw [hW]; have := hm.imm b' hb'; omega
      have hrep : ∀ {d : D} {v : Value}, d.nr = true → Rep w gm d v → Rep (Go.Proofs.sortWorldK enc k w b 0 m dk os) (noM gm.I) d v := by
        intro d v hd hv
        have h1 := Rep.clean (g' := noM gm.I) hv hd (fun b hb => hb)
        refine Rep.mono (g := noM gm.I) (g' := noM gm.I) (fun b' hb' => ⟨hb', ?_⟩) (fun _ h => h) (fun _ h => .inl rfl) h1
        exact sortWorld_heap enc k w b m dk os b' (hm.imm b' hb') (fun e => q8 (e ▸ hb'))
      have hagg : ∀ i, Rep (Go.Proofs.sortWorldK enc k w b 0 m dk os) (noM gm.I) (.agg (rw' i)) (.agg (enc i).toArray) := by
        intro i
        rw [hencI i]
        obtain ⟨p1, p2⟩ := hrow (ix i) (hix i)
        refine .mk_agg ⟨by rw [p1, hklen], fun j d v e1 e2 => ?_⟩
        obtain ⟨u1, _, _, u4⟩ := p2 j d e1
        rw [u1] at e2
        cases e2
        exact hrep (nrs_mem (nrr_mem hnr (hmem i)) (List.mem_of_getElem? e1)) u4
      have hargs : Reps (Go.Proofs.sortWorldK enc k w b 0 m dk os) (noM gm.I) ([.agg (rw' x), .agg (rw' y)] ++ caps) ([.agg (enc x).toArray, .agg (enc y).toArray] ++ cs.toList) := by
        refine Reps.append (.cons (hagg x) (.cons (hagg y) .nil)) ⟨by simpa using l2, fun i d v e1 e2 => ?_⟩
        exact hrep (List.all_eq_true.1 hcn d (List.mem_of_getElem? e1)) (r2 i d v e1 (by simpa using e2))
      have := callsIn_wide.1 (hct _ gm.I _ hI (hm.gr.later fun b' hb' => ⟨hb', sortWorld_heap enc k w b m dk os b' (hm.imm b' hb') (fun e => q8 (e ▸ hb'))⟩) hargs)
      have ea : ([.agg (enc x).toArray, .agg (enc y).toArray] ++ cs.toList : List Value).toArray = #[.agg (enc x).toArray, .agg (enc y).toArray] ++ cs := by apply Array.ext'; simp
      rw [ea] at this
      refine this.mono ?_
      rintro e w' ⟨v, rfl, hb, hv⟩
      refine ⟨?_, bel_grow hb⟩
      rw [hv.v_inv]
    have key := Go.Proofs.AnyQ.slices_SortFunc L k (by rw [hty]; exact aE) (by rw [hty]; exact zE) enc hklen hone cn hswo g cs b 0 c d w (fun args w => callFunc_run (hcmp _ (hmem 0) _ (hmem 0)).1 args w) hcl hH hbw (by rw [hds]; exact hmax)
    rw [hfS, hds] at key
    have ev : (Value.slice (some ⟨b, 0 * k, Option.none⟩) rows.length (c - 0)) = Value.slice (some ⟨b, 0, Option.none⟩) rows.length c := by simp
    rw [ev]
    refine callsIn_wide.2 (key.mono ?_)
    rintro e w' ⟨rfl, d', n', os, hperm, hsort, rfl⟩
    obtain ⟨hsz, _, hpm⟩ := hperm
    rw [hds] at hsz
    have hex : ∀ a : Array Nat, a.size = rows.length → a.extract 0 rows.length = a := fun a ha => by rw [← ha]; exact Array.extract_size
    rw [hex d' hsz, hex d hds] at hpm
    have hlt' : ∀ i, i < rows.length → d'[i]! < rows.length := by
      intro i hi
      have h1 : d'[i]! ∈ d'.toList := by
        rw [getElem!_pos d' i (by omega)]
        simp
      have := hpm.mem_iff.1 h1
      simpa [d] using this
    let rows' : List (List D) := d'.toList.map rw'
    have hrows : d.toList.map rw' = rows := by
      apply List.ext_getElem?
      intro i
      by_cases hi : i < rows.length
      · simp [d, hi, rw', hixs i hi, List.getD]
      · simp [d, hi]
    have hP : rows'.Perm rows := by rw [← hrows]; exact hpm.map rw'
    have hS : SortedBy cf rows' := by
      unfold SortedBy
      rw [List.pairwise_iff_getElem]
      intro i j hi hj hij
      have hj' : j < rows.length := by simpa [rows', hsz] using hj
      have := hsort i j (Nat.zero_le _) hij hj'
      simp only [Go.Proofs.ltOf, cn, decide_eq_false_iff_not] at this
      rw [getElem!_pos d' i (by omega), getElem!_pos d' j (by omega)] at this
      simpa [rows'] using this
    have hl' : rows'.length = rows.length := by simp [rows', hsz]
    have hput := hm.put (h' := upd h r (some ⟨ty, rows'⟩)) (w' := Go.Proofs.sortWorldK enc k w b 0 n' d' os) r b c ⟨ty, rows'⟩ (Go.Sort.putCells id 0 (Go.Sort.flatK enc k d') cur)
      (.inr (by simp only [hk]; exact q1)) (upd_same _ _ _) (fun r' hr' => .inl (upd_ne _ _ _ _ hr')) (.inr ⟨r, c, _, q1, .inl rfl⟩) (sortWorld_at enc k w b n' d' os q6) (by simp [Go.Sort.putCells, q7, hk]) (by simp only [hk]; exact q2)
      (by simp only [hl']; exact q3) q4 (by
        intro i row hi
        have hil : i < rows.length := by rw [← hl']; exact (List.getElem?_eq_some_iff.1 hi).1
        have e1 : row = rows.getD (d'[i]!) [] := by
          simp only [rows', List.getElem?_map] at hi
          rw [getElem!_pos d' i (by omega)]
          have : d'.toList[i]? = some d'[i] := by simp
          rw [this] at hi
          simp only [Option.map_some, Option.some.injEq] at hi
          rw [← hi]
          simp only [rw']
          rw [hixs _ (by have := hlt' i hil; rwa [getElem!_pos d' i (by omega)] at this)]
        obtain ⟨p1, p2⟩ := hrow _ (hlt' i hil)
        rw [← e1] at p1 p2
        simp only [hk]
        refine ⟨p1, fun j dd hd => ?_⟩
        have hjk : j < k := by rw [← p1]; exact (List.getElem?_eq_some_iff.1 hd).1
        obtain ⟨u1, u2, u3, u4⟩ := p2 j dd hd
        have hbound : i * k + j < rows.length * k := by
          have := Nat.mul_le_mul_right k (show i + 1 ≤ rows.length from hil)
          rw [Nat.add_mul, Nat.one_mul] at this; omega
        have hcs : i * k + j < cur.size := by rw [q7]; exact Nat.lt_of_lt_of_le hbound (Nat.mul_le_mul_right k q3)
        refine ⟨_, ?_, u3, u4⟩
        have hdiv : (i * k + j) / k = i := by rw [Nat.mul_comm, Nat.mul_add_div q2, Nat.div_eq_of_lt hjk]; rfl
        have hmod : (i * k + j) % k = j := by rw [Nat.mul_comm, Nat.mul_add_mod, Nat.mod_eq_of_lt hjk]
        simp only [Go.Sort.putCells, Array.getElem?_mapIdx, Array.getElem?_eq_getElem hcs, Option.map_some]
        rw [if_pos ⟨Nat.zero_le _, by simp only [Go.Sort.size_flatK, hsz]; omega⟩, Nat.sub_zero, Go.Sort.get_flatK _ _ _ _ (by rw [hsz]; exact hbound), hdiv, hmod, hget _ _ (hlt' i hil) hjk]
        rfl)
      ⟨rfl, rfl, rfl, by rw [sortWorld_size]; omega, fun i hi hne => sortWorld_heap enc k w b n' d' os i hi (fun e => hne (by rw [e]))⟩ (by unfold Go.Proofs.sortWorldK Go.Sort.putRowK Go.Sort.putRow Go.Sort.mapBlock Go.Sort.grow Go.Sort.ahead; exact Nat.le_add_right _ _)
    obtain ⟨g', g1, g2, g3, g4, g5⟩ := hput
    exact ⟨_, g', _, _, nf, ⟨rfl, rfl, rows', hP, hS, rfl⟩, rfl, .mk_tuple (vs := #[]) .nil, g4, g5, fun r' hr' => by
      rcases (g2 r').1 hr' with h | h
      · exact hU _ h
      · subst h; exact hU _ hUr⟩
end Go.DL
namespace Go.Proofs.YtfggmgafjabbjaaGreatDoor
open Go.DL Go.Str Go.Rec Go.Cmp Go.Zon
set_option maxRecDepth 10000
set_option linter.unusedSimpArgs false
set_option linter.unusedVariables false
def srtS_ren : Go.Shelf.Ren := { f := fun x => match x with | 6 => 42 | 15 => 95 | 14 => 94 | 28 => 139 | 29 => 140 | 20 => 131 | 21 => 132 | 22 => 133 | 23 => 134 | 24 => 135 | 25 => 136 | 26 => 137 | 27 => 138 | 46 => 160 | 47 => 161 | 48 => 162 | 49 => 163 | 50 => 164 | 57 => 174 | n => n, t := fun x => match x with | 22 => 22 | 24 => 49 | 25 => 70 | 3 => 3 | 39 => 118 | 0 => 0 | 53 => 154 | 55 => 89 | 4 => 4 | 46 => 148 | 45 => 147 | 50 => 73 | 5 => 5 | 9 => 9 | 66 => 166 | 70 => 170 | 76 => 176 | 77 => 177 | n => n, g := fun n => n }
theorem srtS : Go.Proofs.SlLaysF0.n6 Tryz.prog srtS_ren := {
  mixed := by kernel_rfl
  f6 := ⟨Tryz.f42.name, by decide, Tryz.func42.trans (by kernel_rfl)⟩
  f14 := ⟨Tryz.f94.name, by decide, Tryz.func94.trans (by kernel_rfl)⟩
  f15 := Tryz.func95.trans (by kernel_rfl)
  f20 := ⟨Tryz.f131.name, by decide, Tryz.func131.trans (by kernel_rfl)⟩
  f21 := ⟨Tryz.f132.name, by decide, Tryz.func132.trans (by kernel_rfl)⟩
  f22 := ⟨Tryz.f133.name, by decide, Tryz.func133.trans (by kernel_rfl)⟩
  f23 := ⟨Tryz.f134.name, by decide, Tryz.func134.trans (by kernel_rfl)⟩
  f24 := ⟨Tryz.f135.name, by decide, Tryz.func135.trans (by kernel_rfl)⟩
  f25 := ⟨Tryz.f136.name, by decide, Tryz.func136.trans (by kernel_rfl)⟩
  f26 := ⟨Tryz.f137.name, by decide, Tryz.func137.trans (by kernel_rfl)⟩
  f27 := ⟨Tryz.f138.name, by decide, Tryz.func138.trans (by kernel_rfl)⟩
  f28 := Tryz.func139.trans (by kernel_rfl)
  f29 := Tryz.func140.trans (by kernel_rfl)
  f46 := ⟨Tryz.f160.name, by decide, Tryz.func160.trans (by kernel_rfl)⟩
  f47 := Tryz.func161.trans (by kernel_rfl)
  f48 := Tryz.func162.trans (by kernel_rfl)
  f49 := ⟨Tryz.f163.name, by decide, Tryz.func163.trans (by kernel_rfl)⟩
  f50 := ⟨Tryz.f164.name, by decide, Tryz.func164.trans (by kernel_rfl)⟩
  f57 := ⟨Tryz.f174.name, by decide, Tryz.func174.trans (by kernel_rfl)⟩
  t0 := Tryz.underlying0
  a0 := Tryz.isAgg0
  z0 := Tryz.sizeOf0
  v0 := Tryz.zeroValue0
  t3 := Tryz.underlying3
  a3 := Tryz.isAgg3
  z3 := Tryz.sizeOf3
  v3 := Tryz.zeroValue3
  t4 := Tryz.underlying4
  a4 := Tryz.isAgg4
  z4 := Tryz.sizeOf4
  v4 := Tryz.zeroValue4
  t5 := Tryz.underlying5
  a5 := Tryz.isAgg5
  z5 := Tryz.sizeOf5
  v5 := Tryz.zeroValue5
  t9 := Tryz.underlying9
  a9 := Tryz.isAgg9
  z9 := Tryz.sizeOf9
  v9 := Tryz.zeroValue9
  t22 := Tryz.underlying22
  a22 := Tryz.isAgg22
  z22 := Tryz.sizeOf22
  v22 := Tryz.zeroValue22
  t25 := Tryz.underlying70
  a25 := Tryz.isAgg70
  z25 := Tryz.sizeOf70
  v25 := Tryz.zeroValue70
  t39 := Tryz.underlying118
  a39 := Tryz.isAgg118
  z39 := Tryz.sizeOf118
  v39 := Tryz.zeroValue118
  t45 := Tryz.underlying147
  a45 := Tryz.isAgg147
  z45 := Tryz.sizeOf147
  v45 := Tryz.zeroValue147
  t46 := Tryz.underlying148
  a46 := Tryz.isAgg148
  z46 := Tryz.sizeOf148
  v46 := Tryz.zeroValue148
  t50 := Tryz.underlying73
  a50 := Tryz.isAgg73
  z50 := Tryz.sizeOf73
  v50 := Tryz.zeroValue73
  t53 := Tryz.underlying154
  a53 := Tryz.isAgg154
  z53 := Tryz.sizeOf154
  v53 := Tryz.zeroValue154
  t55 := Tryz.underlying89
  a55 := Tryz.isAgg89
  z55 := Tryz.sizeOf89
  v55 := Tryz.zeroValue89
  t66 := Tryz.underlying166
  a66 := Tryz.isAgg166
  z66 := Tryz.sizeOf166
  v66 := Tryz.zeroValue166
  t70 := Tryz.underlying170
  a70 := Tryz.isAgg170
  z70 := Tryz.sizeOf170
  v70 := Tryz.zeroValue170
  t76 := Tryz.underlying176
  a76 := Tryz.isAgg176
  z76 := Tryz.sizeOf176
  v76 := Tryz.zeroValue176
  t77 := Tryz.underlying177
  a77 := Tryz.isAgg177
  z77 := Tryz.sizeOf177
  v77 := Tryz.zeroValue177 }
theorem sortG (l : List Sgd) (m : Nat) (h : H) (n r : Nat) (hm : m = l.length) (hl : l.length ≤ 1000000) (hn : ∀ s ∈ l, nameOk (s.q).name = true) (ho : Once l) (hr : h r = some ⟨49, l.map Sgd.d⟩) :
    RCt Tryz.prog 42 [.mrow r 0 m, .fn (.func 96) [] [.eptr [.fn (.func 41) [] []]]] h n (fun d h' n' => d = .tuple [] ∧ n' = n ∧ h' = upd h r (some ⟨49, (sortS l).map Sgd.d⟩)) := by
  have e : m = (l.map Sgd.d).length := by simp [hm]
  rw [e]
  have hx : ∀ x ∈ l.map Sgd.d, Sgd.d (Sgd.of x) = x ∧ nameOk ((fun s : Sgd => s.q) (Sgd.of x)).name = true := fun x hx => by
    obtain ⟨s, hs, rfl⟩ := List.mem_map.1 hx
    rw [of_sgd]
    exact ⟨rfl, hn s hs⟩
  have hc : ∀ x ∈ l.map Sgd.d, ∀ y ∈ l.map Sgd.d, qC (Sgd.of x).q (Sgd.of y).q = sp (Sgd.of x) (Sgd.of y) := fun x h1 y h2 => qC_qp (hx x h1).2 (hx y h2).2
  refine (sort_rct (ty := 49) srtS rfl rfl Tryz.isAgg49 Tryz.sizeOf49 (fun x y => qC (Sgd.of x).q (Sgd.of y).q) (by kernel_rfl) hr nrr_sgd rfl (by simp; omega) (fun x h1 y h2 => ?_) ⟨fun x h1 => ?_, fun x h1 y h2 z h3 => ?_, fun x h1 y h2 z h3 => ?_⟩).mono ?_
  · have := dcmp1_ct (Sgd.of x) (Sgd.of y)
    rw [(hx x h1).1, (hx y h2).1] at this
    exact this
  · rw [hc x h1 x h1, cm_s.self]; omega
  · rw [hc x h1 y h2, hc y h2 z h3, hc x h1 z h3]
    intro a b; exact cm_s.lt_le a (by omega)
  · rw [hc x h1 y h2, hc y h2 z h3, hc x h1 z h3]
    intro a b
    have h1 := cm_s.anti (Sgd.of x) (Sgd.of y); have h2 := cm_s.anti (Sgd.of y) (Sgd.of z); have h3 := cm_s.anti (Sgd.of x) (Sgd.of z)
    have := cm_s.tr (Sgd.of z) (Sgd.of y) (Sgd.of x) (by omega) (by omega)
    omega
  · rintro d h' n' ⟨rfl, rfl, rows', hp, hs, rfl⟩
    obtain ⟨q1, q2⟩ := rows_sorted of_sgd hp
    refine ⟨rfl, rfl, ?_⟩
    have hs' : (rows'.map Sgd.of).Pairwise fun a b => sp a b ≤ 0 := by
      rw [List.pairwise_map]
      refine hs.imp_of_mem fun {a b} h1 h2 h3 => ?_
      have h3 : ¬ (fun x y => qC (Sgd.of x).q (Sgd.of y).q) b a < 0 := h3
      dsimp only at h3
      have h4 := hc b (hp.mem_iff.1 h2) a (hp.mem_iff.1 h1)
      rw [h4] at h3
      have := cm_s.anti (Sgd.of a) (Sgd.of b)
      omega
    rw [← sortS_eq ho q2 hs', q1]
theorem dw_freezepw {P : Program} [Glob P] {ro : Option Nat} {Q : Exit → S → Prop} {c : Code} {s : S} (i r : Nat) {ty : TypeId} {row : List D} (hi : s.t i = .mptr r 0 0) (hr : s.h r = some ⟨ty, [row]⟩) (hn : nrs row = true) (h : DW P ro c Q { n := s.n, t := upd s.t i (.eptr (wks row)), h := upd s.h r none, nx := s.nx, e := s.e }) : DW P ro c Q s :=
  dw_freeze1 i r hi (fun _ _ _ hm hv => (frz_ptr hm hr hn hv).wk) h
theorem dstay_ct (z : Zon) (d : Dlt) (hl : fitL z.sets) (h : H) (n : Nat) : RCt Tryz.prog 39 [.list false (z.sets.map Sgd.d), .fn (.func 40) [] [.eptr [.fmap (kvP (zp (goesZ (mapZ d.put) d.drop d.drop.length)))]]] h n (fun x h' n' => ∃ r, x = .mrow r 0 (stayP z d).length ∧ h' = upd h r (some ⟨49, (stayP z d).map Sgd.d⟩) ∧ n ≤ r ∧ r < n') := dcollssA1_ct z.sets _ hl h n
theorem stay_names {z : Zon} {d : Dlt} (hz : ZOrd z) (hd : DOk d) : ∀ s ∈ stayP z d ++ d.put, nameOk s.q.name = true := fun s hs => (List.mem_append.1 hs).elim (fun k => hz.nms s (stay_mem.1 k).1) fun k => (hd.pok s k).name
theorem new_fit {z : Zon} {d : Dlt} (hz : fitL z.sets) (hp : fitL d.put) (hd : d.put.length ≤ 20000) (hl : (stayP z d).length ≤ 20000) : fitL (sortS (stayP z d ++ d.put)) := fit_of (by rw [sortS_len, List.length_append]; omega) fun s hs => (List.mem_append.1 (sortS_mem.1 hs)).elim (fun k => fit_mem hz (stay_mem.1 k).1) fun k => fit_mem hp k
theorem bo12 : hasBody Tryz.prog 12 = true := by kernel_rfl
theorem dapply_ct (z : Zon) (d : Dlt) (hp : fitL d.put) : PureCt Tryz.prog 12 [.agg z.d, .agg d.d] (.tuple [.agg (applyP z d).1.d, .i (applyP z d).2]) := by
  refine pure_of_dw Tryz.func12 rfl bo12 (by simp [go_sem, D.nr, nrs, nrr]) (by simp [Tryz.f12]) ?_
  unfold Tryz.f12
  simp only [init_eq]
  have ff := True.intro
  refine stp Pn ?_
  rcases ha : zoneOk z with _ | _
  · skip
    have ff := And.intro @ha ff
    refine stp Pn ?_ (hok := by (try simp only [go_sem, ff]); all_goals (first | exact zserial_yes ha | exact zserial_no ha))
    refine dw_seq ?_
    refine stp Pn ?_ (hok := by (try simp only [go_sem, ff]); all_goals (first | done | ((repeat' (with_reducible apply And.intro)) <;> first | exact dinform_ct d | (intros; exact dinform_ct d) | exact (fun _ => dinform_ct d) | (intros; exact (fun _ => dinform_ct d)) | skip)))
    refine cd (fun c1 => ?_) (fun c1 => ?_) (hq := rfl)
    · skip
      refine stp Pn ?_
      refine dw_ret ?_
      exact fin 3 (hr := by (try simp only [go_sem, ff]); all_goals (rw [applyP, if_pos (by grind)]; try rfl))
    · skip
      first | exact c1.elim | (simp at c1; done)
  · skip
    have hfa := zone_fit ha
    have hza := zone_ord ha
    have hlz := hza.len
    have ff := And.intro @ha ff
    refine stp Pn ?_ (hok := by (try simp only [go_sem, ff]); all_goals (first | exact zserial_yes ha | exact zserial_no ha))
    refine dw_seq ?_
    refine stp Pn ?_ (hok := by (try simp only [go_sem, ff]); all_goals (first | done | ((repeat' (with_reducible apply And.intro)) <;> first | exact dinform_ct d | (intros; exact dinform_ct d) | exact (fun _ => dinform_ct d) | (intros; exact (fun _ => dinform_ct d)) | skip)))
    refine cd (fun c1 => ?_) (fun c1 => ?_)
    · skip
      refine stp Pn ?_
      refine dw_ret ?_
      exact fin 3 (hr := by (try simp only [go_sem, ff]); all_goals (rw [applyP, if_pos (by grind)]; try rfl))
    · skip
      have hd : dltOk d = true := by grind
      have hax : z.apex = d.apex := by grind
      have p1 : ¬ (zoneOk z = false ∨ dltOk d = false ∨ z.apex ≠ d.apex) := by rintro (q | q | q); rw [ha] at q; cases q; rw [hd] at q; cases q; exact q hax
      have hdd := dlt_iff.1 hd
      have hld := hdd.dlen
      have hlp := hdd.plen
      have hsl := stay_len z d
      refine dw_skip ?_
      show DW _ _ _ _ _
      refine dw_seq ?_
      refine stp Pn ?_
      refine cd (fun c2 => ?_) (fun c2 => ?_)
      · skip
        have p2 : serialOf z ≠ d.frm := by grind
        refine stp Pn ?_
        refine dw_ret ?_
        exact fin 3 (hr := by (try simp only [go_sem, ff]); all_goals (rw [applyP, if_neg p1, if_pos p2]; try rfl))
      · skip
        have p2 : ¬ (serialOf z ≠ d.frm) := fun q => q (by grind)
        refine dw_skip ?_
        show DW _ _ _ _ _
        refine dw_seq (cal1 Pn 2 (hct := by exact dbyplaceL_ct d.put hp.1 _ _) (hk := ?_))
        rintro res h2 n2 ⟨r1, rfl, rfl, a1, b1⟩
        try dsimp only at a1 b1
        have z0_1 : (0 = 1) = False := eq_false (by omega)
        have y1_0 : (1 = 0) = False := eq_false (by omega)
        have z0_2 : (0 = 2) = False := eq_false (by omega)
        have y2_0 : (2 = 0) = False := eq_false (by omega)
        have z0_r1 : (0 = r1) = False := eq_false (by omega)
        have yr1_0 : (r1 = 0) = False := eq_false (by omega)
        have z0_n23 : (0 = n2 + 3) = False := eq_false (by omega)
        have yn23_0 : (n2 + 3 = 0) = False := eq_false (by omega)
        have z1_2 : (1 = 2) = False := eq_false (by omega)
        have y2_1 : (2 = 1) = False := eq_false (by omega)
        have z1_r1 : (1 = r1) = False := eq_false (by omega)
        have yr1_1 : (r1 = 1) = False := eq_false (by omega)
        have z1_n23 : (1 = n2 + 3) = False := eq_false (by omega)
        have yn23_1 : (n2 + 3 = 1) = False := eq_false (by omega)
        have z2_r1 : (2 = r1) = False := eq_false (by omega)
        have yr1_2 : (r1 = 2) = False := eq_false (by omega)
        have z2_n23 : (2 = n2 + 3) = False := eq_false (by omega)
        have yn23_2 : (n2 + 3 = 2) = False := eq_false (by omega)
        have zr1_n23 : (r1 = n2 + 3) = False := eq_false (by omega)
        have yn23_r1 : (n2 + 3 = r1) = False := eq_false (by omega)
        have ff := And.intro @b1 (And.intro @z0_1 (And.intro @y1_0 (And.intro @z0_2 (And.intro @y2_0 (And.intro @z0_r1 (And.intro @yr1_0 (And.intro @z0_n23 (And.intro @yn23_0 (And.intro @z1_2 (And.intro @y2_1 (And.intro @z1_r1 (And.intro @yr1_1 (And.intro @z1_n23 (And.intro @yn23_1 (And.intro @z2_r1 (And.intro @yr1_2 (And.intro @z2_n23 (And.intro @yn23_2 (And.intro @zr1_n23 (And.intro @yn23_r1 ff))))))))))))))))))))
        refine cal2 Pn ?_
        show DW _ _ _ _ _
        refine dw_seq ?_
        refine stp Pn ?_
        refine dw_block ?_
        refine lp (α := (Nat) × (Nat) × Nat) [2, 3, 4, 43, 44] (fun ⟨k, q, nx⟩ => (k ≤ d.drop.length) ∧ (q < nx) ∧ (r1 < q) ∧ (2 < r1) ∧ True) (fun ⟨k, q, nx⟩ => d.drop.length - k) (fun ⟨k, q, nx⟩ => [(8, .mptr q 0 0), (45, .i k)]) (fun ⟨k, q, nx⟩ => [(0, ⟨24, [z.d]⟩), (1, ⟨27, [d.d]⟩), (2, ⟨24, [[.v (.string (bs [])), .list true []]]⟩), (q, ⟨63, [[.mp r1]]⟩), (r1, ⟨63, mapRows (kvZ (goesZ (mapZ d.put) d.drop (k)))⟩)]) (fun ⟨k, q, nx⟩ => nx) (0, n2 + 3, _) (hA := ⟨iv, iv, iv, iv, trivial⟩) (round := ?_)
        rintro ⟨k, q, nx⟩ ⟨hk, hq, hqr, hr1, -⟩
        show DW _ _ _ _ { n := _, t := tab _, h := _, nx := _, e := _ }
        simp only [List.cons_append, List.nil_append]
        have n0 : 0 < nx := by omega
        have hrn : r1 < nx := by omega
        have z0_1 : (0 = 1) = False := eq_false (by omega)
        have y1_0 : (1 = 0) = False := eq_false (by omega)
        have z0_2 : (0 = 2) = False := eq_false (by omega)
        have y2_0 : (2 = 0) = False := eq_false (by omega)
        have z0_q : (0 = q) = False := eq_false (by omega)
        have yq_0 : (q = 0) = False := eq_false (by omega)
        have z0_r1 : (0 = r1) = False := eq_false (by omega)
        have yr1_0 : (r1 = 0) = False := eq_false (by omega)
        have z1_2 : (1 = 2) = False := eq_false (by omega)
        have y2_1 : (2 = 1) = False := eq_false (by omega)
        have z1_q : (1 = q) = False := eq_false (by omega)
        have yq_1 : (q = 1) = False := eq_false (by omega)
        have z1_r1 : (1 = r1) = False := eq_false (by omega)
        have yr1_1 : (r1 = 1) = False := eq_false (by omega)
        have z2_q : (2 = q) = False := eq_false (by omega)
        have yq_2 : (q = 2) = False := eq_false (by omega)
        have z2_r1 : (2 = r1) = False := eq_false (by omega)
        have yr1_2 : (r1 = 2) = False := eq_false (by omega)
        have zq_r1 : (q = r1) = False := eq_false (by omega)
        have yr1_q : (r1 = q) = False := eq_false (by omega)
        have ff := And.intro @hq (And.intro @n0 (And.intro @hrn (And.intro @z0_1 (And.intro @y1_0 (And.intro @z0_2 (And.intro @y2_0 (And.intro @z0_q (And.intro @yq_0 (And.intro @z0_r1 (And.intro @yr1_0 (And.intro @z1_2 (And.intro @y2_1 (And.intro @z1_q (And.intro @yq_1 (And.intro @z1_r1 (And.intro @yr1_1 (And.intro @z2_q (And.intro @yq_2 (And.intro @z2_r1 (And.intro @yr1_2 (And.intro @zq_r1 (And.intro @yr1_q ff))))))))))))))))))))))
        refine stp Pn ?_
        refine dw_seq ?_
        refine cd (fun c3 => ?_) (fun c3 => ?_) (hp := rfl)
        · skip
          have hk2 : k < d.drop.length := by simpa using c3
          have ff := And.intro (getD_qst hk2) ff
          refine dw_skip ?_
          show DW _ _ _ _ _
          refine dw_seq ?_
          refine dw_block ?_
          refine stp Pn ?_
          refine rgn Pn ?_
          show DW _ _ _ _ _
          refine rgn Pn ?_
          show ∃ _, _
          have ff := And.intro (show zset (goesZ (mapZ d.put) d.drop (k)) d.drop[k]! none = goesZ (mapZ d.put) d.drop (k + 1) from rfl) ff
          exact rnd (k + 1, q, _) (h1 := ⟨iv, iv, iv, iv, trivial⟩)
        · skip
          have e8 : k = d.drop.length := by omega
          subst e8
          refine dw_exit ?_
          show DW _ _ _ _ _
          refine dw_freezemc q 0 r1 ev rfl ev rfl (by omega) nrs_kvZ ?_
          simp only [List.set_cons_zero]
          refine dw_freezepw 8 q ev ev nrs_fmapZ ?_
          refine dw_seq (cal1 Pn 3 (hct := by exact dstay_ct z d hfa _ _) (hk := ?_))
          rintro res h2 n2 ⟨r2, rfl, rfl, a2, b2⟩
          try dsimp only at a2 b2
          have z0_1 : (0 = 1) = False := eq_false (by omega)
          have y1_0 : (1 = 0) = False := eq_false (by omega)
          have z0_2 : (0 = 2) = False := eq_false (by omega)
          have y2_0 : (2 = 0) = False := eq_false (by omega)
          have z0_r2 : (0 = r2) = False := eq_false (by omega)
          have yr2_0 : (r2 = 0) = False := eq_false (by omega)
          have z1_2 : (1 = 2) = False := eq_false (by omega)
          have y2_1 : (2 = 1) = False := eq_false (by omega)
          have z1_r2 : (1 = r2) = False := eq_false (by omega)
          have yr2_1 : (r2 = 1) = False := eq_false (by omega)
          have z2_r2 : (2 = r2) = False := eq_false (by omega)
          have yr2_2 : (r2 = 2) = False := eq_false (by omega)
          have ff := And.intro @b2 (And.intro @z0_1 (And.intro @y1_0 (And.intro @z0_2 (And.intro @y2_0 (And.intro @z0_r2 (And.intro @yr2_0 (And.intro @z1_2 (And.intro @y2_1 (And.intro @z1_r2 (And.intro @yr2_1 (And.intro @z2_r2 (And.intro @yr2_2 ff))))))))))))
          refine cal2 Pn ?_
          show DW _ _ _ _ _
          refine dw_seq ?_
          refine stp Pn ?_
          refine cd (fun c4 => ?_) (fun c4 => ?_)
          · skip
            refine stp Pn ?_
            refine dw_ret ?_
            exact fin 3 (hr := by (try simp only [go_sem, ff]); all_goals (rw [applyP, if_neg p1, if_neg p2, if_pos (by omega)]; try rfl))
          · skip
            refine dw_skip ?_
            show DW _ _ _ _ _
            refine stp Pn ?_
            obtain ⟨q5, hq5⟩ : ∃ q, q = n2 + 15 := ⟨_, rfl⟩
            rw [← hq5]
            have hq5b : q5 < n2 + 16 := by omega
            have z0_1 : (0 = 1) = False := eq_false (by omega)
            have y1_0 : (1 = 0) = False := eq_false (by omega)
            have z0_2 : (0 = 2) = False := eq_false (by omega)
            have y2_0 : (2 = 0) = False := eq_false (by omega)
            have z0_q5 : (0 = q5) = False := eq_false (by omega)
            have yq5_0 : (q5 = 0) = False := eq_false (by omega)
            have z1_2 : (1 = 2) = False := eq_false (by omega)
            have y2_1 : (2 = 1) = False := eq_false (by omega)
            have z1_q5 : (1 = q5) = False := eq_false (by omega)
            have yq5_1 : (q5 = 1) = False := eq_false (by omega)
            have z2_q5 : (2 = q5) = False := eq_false (by omega)
            have yq5_2 : (q5 = 2) = False := eq_false (by omega)
            have ff := And.intro @hq5b (And.intro @z0_1 (And.intro @y1_0 (And.intro @z0_2 (And.intro @y2_0 (And.intro @z0_q5 (And.intro @yq5_0 (And.intro @z1_2 (And.intro @y2_1 (And.intro @z1_q5 (And.intro @yq5_1 (And.intro @z2_q5 (And.intro @yq5_2 ff))))))))))))
            refine dw_seq (cal1 Pn 2 (hok := by (try simp only [go_sem, ff]); all_goals (first | done | ((repeat' (with_reducible apply And.intro)) <;> first | exact dcomp_ct | (intros; exact dcomp_ct) | skip))) (hct := by exact sortG (stayP z d ++ d.put) _ _ _ _ (by simp) (by rw [List.length_append]; omega) (stay_names hza hdd) (new_once hza.ord hdd.pord) (by simp only [go_sem, ff, List.map_append])) (hk := ?_))
            rintro res h2 n2 ⟨rfl, rfl, rfl⟩
            refine cal2 Pn ?_
            show DW _ _ _ _ _
            refine dw_freezet 12 q5 (rows := (sortS (stayP z d ++ d.put)).map Sgd.d) (off := 0) (len := (stayP z d).length + d.put.length) ev ev (by simp [sortS_len]) nrr_sgd ?_
            rw [List.drop_zero, List.take_of_length_le (by simp [sortS_len])]
            refine stp PnF ?_ (hok := by (try simp only [go_sem, ff]); all_goals (first | done | ((repeat' (with_reducible apply And.intro)) <;> first | exact dcollssA2_ct _ (new_fit hfa hp hlp (by omega)) | (intros; exact dcollssA2_ct _ (new_fit hfa hp hlp (by omega))) | omega | skip)))
            refine dw_seq ?_
            rcases hb : zoneOk (⟨z.apex, sortS (stayP z d ++ d.put)⟩ : Zon) with _ | _
            · skip
              have ff := And.intro @hb ff
              have ff := And.intro (fm_some (sortS (stayP z d ++ d.put))) ff
              refine stp Pn ?_ (hok := by (try simp only [go_sem, ff]); all_goals (first | exact zserial_yes (z := (⟨z.apex, sortS (stayP z d ++ d.put)⟩ : Zon)) hb | exact zserial_no (z := (⟨z.apex, sortS (stayP z d ++ d.put)⟩ : Zon)) hb))
              refine stp Pn ?_
              refine cd (fun c5 => ?_) (fun c5 => ?_) (hq := rfl)
              · skip
                refine stp Pn ?_
                refine dw_ret ?_
                exact fin 3 (hr := by (try simp only [go_sem, ff]); all_goals (rw [applyP, if_neg p1, if_neg p2, if_neg (by omega), if_pos (by show zoneOk (⟨z.apex, sortS (stayP z d ++ d.put)⟩ : Zon) = false ∨ serialOf (⟨z.apex, sortS (stayP z d ++ d.put)⟩ : Zon) ≠ d.too; rw [hb]; grind)]; try rfl))
              · skip
                first | exact c5.elim | (simp at c5; done)
            · skip
              have ff := And.intro @hb ff
              have ff := And.intro (fm_some (sortS (stayP z d ++ d.put))) ff
              refine stp Pn ?_ (hok := by (try simp only [go_sem, ff]); all_goals (first | exact zserial_yes (z := (⟨z.apex, sortS (stayP z d ++ d.put)⟩ : Zon)) hb | exact zserial_no (z := (⟨z.apex, sortS (stayP z d ++ d.put)⟩ : Zon)) hb))
              refine stp Pn ?_
              refine cd (fun c5 => ?_) (fun c5 => ?_)
              · skip
                refine stp Pn ?_
                refine dw_ret ?_
                exact fin 3 (hr := by (try simp only [go_sem, ff]); all_goals (rw [applyP, if_neg p1, if_neg p2, if_neg (by omega), if_pos (by show zoneOk (⟨z.apex, sortS (stayP z d ++ d.put)⟩ : Zon) = false ∨ serialOf (⟨z.apex, sortS (stayP z d ++ d.put)⟩ : Zon) ≠ d.too; rw [hb]; grind)]; try rfl))
              · skip
                refine dw_skip ?_
                show DW _ _ _ _ _
                refine stp Pn ?_
                refine dw_ret ?_
                exact fin 3 (hr := by (try simp only [go_sem, ff]); all_goals (rw [applyP, if_neg p1, if_neg p2, if_neg (by omega), if_neg (by show ¬ (zoneOk (⟨z.apex, sortS (stayP z d ++ d.put)⟩ : Zon) = false ∨ serialOf (⟨z.apex, sortS (stayP z d ++ d.put)⟩ : Zon) ≠ d.too); rw [hb]; grind)]; try rfl))

end Go.Proofs.YtfggmgafjabbjaaGreatDoor
/-
  MADE BY A PROGRAM OF MINE: what the functions that leave memory alone give. Conditions: none.
-/
namespace Go.Proofs.YtfggmgafjabbjaaGreatDoor
open Go.DL Go.Str Go.Rec Go.Zon
set_option linter.unusedVariables false
def Ln : Con where
  pure := fun k => [176, 169, 153, 114, 113, 81, 123, 90, 115, 171, 155, 122, 120, 125, 127, 172, 116, 156, 173, 126, 159, 124, 91, 128, 110, 157, 150, 119, 129, 118, 158, 130, 93, 83, 117, 85, 63, 165, 141, 102, 84, 82, 101, 92, 103, 86, 104, 89, 61, 111, 20, 60, 18, 100, 99, 46, 47, 48, 50, 51, 52, 53, 49, 14, 13, 59, 32, 33, 34, 151, 121, 87, 35, 88, 36, 11, 17, 9, 65, 64, 16, 54, 23, 22, 25, 24, 67, 41, 112, 66, 78, 79, 80, 77, 27, 10, 21, 26, 30, 29, 31, 97, 98, 45, 62, 19, 38, 105, 106, 58, 56, 57, 40, 68, 44, 76, 69, 75, 55, 73, 39, 43, 96, 72, 109, 37, 15, 12, 8, 3, 4].contains k
  pf := fun k xs => match k, xs with
    | 176, [x0, x1] => .i (lastIx (str1 x0) (int1 x1))
    | 169, [x0, x1] => .i (lastIx (str1 x0) (int1 x1))
    | 153, [x0] => .b (labelOk (str1 x0))
    | 114, [x0] => .b (labelOk (str1 x0))
    | 113, [x0] => .list false ((splitF (str1 x0)).map sR)
    | 81, [x0] => .b (nameOk (str1 x0))
    | 123, [x0] => .b (nameOk (str1 x0))
    | 90, [x0] => .b (nameOk (str1 x0))
    | 115, [x0] => .list false ((partsOf (str1 x0)).map sR)
    | 171, [x0, x1] => .i (Go.Lib.compareBytes (str1 x0) (str1 x1))
    | 155, [x0, x1] => .i (Go.Lib.compareBytes (str1 x0) (str1 x1))
    | 122, [x0, x1] => .i (nmOrd (str1 x0) (str1 x1))
    | 120, [x0, x1] => .tuple [.i (if nameOk (str1 x0) && nameOk (str1 x1) then nmCmp (str1 x0) (str1 x1) else 0), .i (if nameOk (str1 x0) && nameOk (str1 x1) then 0 else 11)]
    | 125, [x0, x1] => .tuple [.i (if nameOk (str1 x0) && nameOk (str1 x1) then nmCmp (str1 x0) (str1 x1) else 0), .i (if nameOk (str1 x0) && nameOk (str1 x1) then 0 else 11)]
    | 127, [x0, x1, x2] => .b (inR (int1 x0) (int1 x1) (int1 x2))
    | 172, [x0, x1, x2] => .b (inR (int1 x0) (int1 x1) (int1 x2))
    | 116, [x0, x1, x2] => .b (inR (int1 x0) (int1 x1) (int1 x2))
    | 156, [x0] => .b ((int1 x0) != (int1 x0))
    | 173, [x0] => .b ((str1 x0) != (str1 x0))
    | 126, [x0, x1] => .i (cmpI (int1 x0) (int1 x1))
    | 159, [x0, x1] => .i (cmpS (str1 x0) (str1 x1))
    | 124, [x0, x1] => .b (hasPre (str1 x0) (str1 x1))
    | 91, [x0, x1] => .b (hasPre (str1 x0) (str1 x1))
    | 128, [x0] => .b (wildB (str1 x0))
    | 110, [x0] => .b (wildB (str1 x0))
    | 157, [x0] => .b (freeB (str1 x0))
    | 150, [x0] => .b (freeB (str1 x0))
    | 119, [x0, x1] => .b (less (dat1 x0) (dat1 x1))
    | 129, [x0, x1] => .b (datOk (rule1 x0) (dat1 x1))
    | 118, [x0, x1] => .b (rDatOk (int1 x0) (dat1 x1))
    | 158, [x0] => .i (orFrom (ints1 x0) 0)
    | 130, [x0, x1] => .i (datC (dat1 x0) (dat1 x1))
    | 93, [x0] => .b (setOk (set1 x0))
    | 83, [x0] => .b (setOk (set1 x0))
    | 117, [x0] => .b (singleB (int1 x0))
    | 85, [x0, x1] => .i (rOrd (set1 x0) (set1 x1))
    | 63, [x0, x1] => .b (sameB (set1 x0) (set1 x1))
    | 165, [x0, x1] => .b (hasSuf (str1 x0) (str1 x1))
    | 141, [x0, x1] => .b (hasSuf (str1 x0) (str1 x1))
    | 102, [x0, x1] => .tuple [.b (underV (str1 x0) (str1 x1)), .i (if nameOk (str1 x0) && nameOk (str1 x1) then 0 else 11)]
    | 84, [x0, x1] => .b (inB (str1 x0) (str1 x1))
    | 82, [x0] => .b (wild1 (str1 x0))
    | 101, [x0, x1, x2, x3] => .i (qC ⟨(str1 x0), (int1 x1)⟩ ⟨(str1 x2), (int1 x3)⟩)
    | 92, [x0, x1] => .i (qC (qst1 x0) (qst1 x1))
    | 103, [x0, x1] => .b (fits (int1 x0) (bool1 x1))
    | 86, [x0, x1] => .b (fits (int1 x0) (bool1 x1))
    | 104, [x0, x1] => .b (sigsOk (sigs1 x0) (str1 x1))
    | 89, [x0, x1] => .b (sigsOk (sigs1 x0) (str1 x1))
    | 61, [x0] => .b (qOk (qst1 x0))
    | 111, [x0] => .b (qOk (qst1 x0))
    | 20, [x0, x1] => .b (sameSgd (sgd1 x0) (sgd1 x1))
    | 60, [x0, x1] => .b (sameList (sgds1 x0) (sgds1 x1))
    | 18, [x0, x1] => .b (sameZ (zon1 x0) (zon1 x1))
    | 100, [x0, x1] => .i (qC (sgd1 x0).q (qst1 x1))
    | 99, [x0, x1, x2] => .tuple [.i (findIx (sgds1 x0) (qst1 x1)), .b (findOk (sgds1 x0) (qst1 x1))]
    | 46, [x0, x1] => .tuple [.i (findIx (zon1 x0).sets (qst1 x1)), .b (findOk (zon1 x0).sets (qst1 x1))]
    | 47, [x0] => .b (ordered (zon1 x0))
    | 48, [x0] => .b (apexHolds (zon1 x0))
    | 50, [x0] => .b (aliasB (lay1 x0))
    | 51, [x0] => .b (cutB (lay1 x0))
    | 52, [x0] => .b (glueB (lay1 x0))
    | 53, [x0] => .b (formB (lay1 x0))
    | 49, [x0] => .agg (layOf (zon1 x0)).d
    | 14, [x0] => .b (zoneOk (zon1 x0))
    | 13, [x0] => .tuple [.i (if zoneOk (zon1 x0) then serialOf (zon1 x0) else 0), .i (if zoneOk (zon1 x0) then 0 else 1)]
    | 59, [x0, x1] => .i (atF (zon1 x0).sets (qst1 x1))
    | 32, [x0] => .b (oneB (zon1 x0))
    | 33, [x0] => .b (twoB (zon1 x0))
    | 34, [x0] => .b (threeB (zon1 x0))
    | 151, [x0] => .list false ((cutsF (zon1 x0)).map sR)
    | 121, [x0] => .list false ((highF (zon1 x0)).map sR)
    | 87, [x0] => .list false ((behR (zon1 x0)).map sR)
    | 35, [x0] => .b (fourB (zon1 x0))
    | 88, [x0] => .list false ((ownF (zon1 x0)).map bR)
    | 36, [x0] => .b (fiveB (zon1 x0))
    | 11, [x0] => .b (refOk (zon1 x0))
    | 17, [x0] => .i (serialR (zon1 x0))
    | 9, [x0] => .b (fewZ (zon1 x0))
    | 65, [x0] => .b (serB (int1 x0))
    | 64, [x0] => .b (serB (int1 x0))
    | 16, [x0, x1] => .b (befB (int1 x0) (int1 x1))
    | 54, [x0, x1] => .b (befB (int1 x0) (int1 x1))
    | 23, [x0, x1] => .tuple [.b (lessF (int1 x0) (int1 x1)).1, .i (lessF (int1 x0) (int1 x1)).2]
    | 22, [x0, x1] => .tuple [.b (lessF (int1 x0) (int1 x1)).1, .i (lessF (int1 x0) (int1 x1)).2]
    | 25, [x0] => .tuple [.i (afterF (int1 x0)).1, .i (afterF (int1 x0)).2]
    | 24, [x0] => .tuple [.i (afterF (int1 x0)).1, .i (afterF (int1 x0)).2]
    | 67, [x0] => .agg (sgd1 x0).q.d
    | 41, [x0] => .agg (sgd1 x0).q.d
    | 112, [x0, x1] => .i (qO (qst1 x0) (qst1 x1))
    | 66, [x0, x1] => .i (atF (sgds1 x0) (qst1 x1))
    | 78, [x0, x1] => .b (askB (qsts1 x0) (qst1 x1))
    | 79, [x0, x1] => .list false ((sortedF (sgds1 x0) (sgd1 x1)).map Sgd.d)
    | 80, [x0, x1] => .list false ((addF (qsts1 x0) (qst1 x1)).map Qst.d)
    | 77, [x0] => .b (dltOk (dlt1 x0))
    | 27, [x0, x1] => .b (sameD (dlt1 x0) (dlt1 x1))
    | 10, [x0] => .b (fewD (dlt1 x0))
    | 21, [x0, x1, x2, x3] => .b (fewAll (zon1 x0) (zon1 x1) (dlt1 x2) (dlt1 x3))
    | 26, [x0, x1] => .tuple [.agg (diffR (zon1 x0) (zon1 x1)).1.d, .i (diffR (zon1 x0) (zon1 x1)).2]
    | 30, [x0, x1] => .tuple [.agg (applyR (zon1 x0) (dlt1 x1)).1.d, .i (applyR (zon1 x0) (dlt1 x1)).2]
    | 29, [x0, x1] => .tuple [.agg (joinR (dlt1 x0) (dlt1 x1)).1.d, .i (joinR (dlt1 x0) (dlt1 x1)).2]
    | 31, [x0, x1] => .agg (smallZ (int1 x0) (str1 x1)).d
    | 97, [x0] => .list false ((dats1 x0).map Dat.d)
    | 98, [x0] => .list false ((sigs1 x0).map RSig.d)
    | 45, [x0] => .agg (sgd1 x0).d
    | 62, [x0] => .agg (sgd1 x0).d
    | 19, [x0, x1] => .tuple [.agg (findR (zon1 x0) (qst1 x1)).1.d, .b (findR (zon1 x0) (qst1 x1)).2.1, .i (findR (zon1 x0) (qst1 x1)).2.2]
    | 38, [x0] => .fmap (kvP (mapP (sgds1 x0)))
    | 105, [x0, x1] => .b (eqDat (dats1 x0) (dats1 x1))
    | 106, [x0, x1] => .b (eqSig (sigs1 x0) (sigs1 x1))
    | 58, [x0, x1] => .b (sameX (sgd1 x0) (sgd1 x1))
    | 56, [x0, x1] => .tuple [.agg (sgd1 x0).q.d, .b (newB (mapc1 x1) (sgd1 x0).q)]
    | 57, [x0, x1] => .tuple [.agg (sgd1 x0).d, .b (diffS (pget (mapc1 x1) (sgd1 x0).q) (sgd1 x0))]
    | 40, [x0, x1] => .tuple [.agg (sgd1 x0).d, .b (newB (mapc1 x1) (sgd1 x0).q)]
    | 68, [x0, x1] => .tuple [.agg (sgd1 x0).d, .b (newB (mapc1 x1) (sgd1 x0).q)]
    | 44, [x0] => .tuple [.agg (sgd1 x0).d, .b true]
    | 76, [x0] => .tuple [.agg (sgd1 x0).d, .b true]
    | 69, [x0] => .agg (qst1 x0).d
    | 75, [x0, x1] => .tuple [.agg (qst1 x0).d, .b (newB (mapc1 x1) (qst1 x0))]
    | 55, [x0, x1] => .list false (((sgds1 x0).filterMap (d1S (capm1 x1))).map Qst.d)
    | 73, [x0, x1] => .list false (((qsts1 x0).filterMap (j3S (capm1 x1))).map Qst.d)
    | 39, [x0, x1] => .list false (((sgds1 x0).filterMap (semS (x1))).map Sgd.d)
    | 43, [x0] => .fn (.func 96) [] [.eptr [.fn (.func 41) [] []]]
    | 96, [x0, x1, x2] => .i (qC (sgd1 x0).q (sgd1 x1).q)
    | 72, [x0] => .fn (.func 109) [] [.eptr [.fn (.func 69) [] []]]
    | 109, [x0, x1, x2] => .i (qC (qst1 x0) (qst1 x1))
    | 37, [x0] => .b (dltOk (dlt1 x0))
    | 15, [x0, x1] => .tuple [.agg (diffP (zon1 x0) (zon1 x1)).1.d, .i (diffP (zon1 x0) (zon1 x1)).2]
    | 12, [x0, x1] => .tuple [.agg (applyP (zon1 x0) (dlt1 x1)).1.d, .i (applyP (zon1 x0) (dlt1 x1)).2]
    | 8, [] => .b true
    | 3, [x0, x1] => .b true
    | 4, [x0, x1] => .b true
    | _, _ => .junk
@[go_sem] theorem lnp176 : Ln.pure 176 = true := rfl
@[go_sem] theorem lnf176 {x0 x1 : D} : Ln.pf 176 [x0, x1] = .i (lastIx (str1 x0) (int1 x1)) := rfl
@[go_sem] theorem lnp169 : Ln.pure 169 = true := rfl
@[go_sem] theorem lnf169 {x0 x1 : D} : Ln.pf 169 [x0, x1] = .i (lastIx (str1 x0) (int1 x1)) := rfl
@[go_sem] theorem lnp153 : Ln.pure 153 = true := rfl
@[go_sem] theorem lnf153 {x0 : D} : Ln.pf 153 [x0] = .b (labelOk (str1 x0)) := rfl
@[go_sem] theorem lnp114 : Ln.pure 114 = true := rfl
@[go_sem] theorem lnf114 {x0 : D} : Ln.pf 114 [x0] = .b (labelOk (str1 x0)) := rfl
@[go_sem] theorem lnp113 : Ln.pure 113 = true := rfl
@[go_sem] theorem lnf113 {x0 : D} : Ln.pf 113 [x0] = .list false ((splitF (str1 x0)).map sR) := rfl
@[go_sem] theorem lnp81 : Ln.pure 81 = true := rfl
@[go_sem] theorem lnf81 {x0 : D} : Ln.pf 81 [x0] = .b (nameOk (str1 x0)) := rfl
@[go_sem] theorem lnp123 : Ln.pure 123 = true := rfl
@[go_sem] theorem lnf123 {x0 : D} : Ln.pf 123 [x0] = .b (nameOk (str1 x0)) := rfl
@[go_sem] theorem lnp90 : Ln.pure 90 = true := rfl
@[go_sem] theorem lnf90 {x0 : D} : Ln.pf 90 [x0] = .b (nameOk (str1 x0)) := rfl
@[go_sem] theorem lnp115 : Ln.pure 115 = true := rfl
@[go_sem] theorem lnf115 {x0 : D} : Ln.pf 115 [x0] = .list false ((partsOf (str1 x0)).map sR) := rfl
@[go_sem] theorem lnp171 : Ln.pure 171 = true := rfl
@[go_sem] theorem lnf171 {x0 x1 : D} : Ln.pf 171 [x0, x1] = .i (Go.Lib.compareBytes (str1 x0) (str1 x1)) := rfl
@[go_sem] theorem lnp155 : Ln.pure 155 = true := rfl
@[go_sem] theorem lnf155 {x0 x1 : D} : Ln.pf 155 [x0, x1] = .i (Go.Lib.compareBytes (str1 x0) (str1 x1)) := rfl
@[go_sem] theorem lnp122 : Ln.pure 122 = true := rfl
@[go_sem] theorem lnf122 {x0 x1 : D} : Ln.pf 122 [x0, x1] = .i (nmOrd (str1 x0) (str1 x1)) := rfl
@[go_sem] theorem lnp120 : Ln.pure 120 = true := rfl
@[go_sem] theorem lnf120 {x0 x1 : D} : Ln.pf 120 [x0, x1] = .tuple [.i (if nameOk (str1 x0) && nameOk (str1 x1) then nmCmp (str1 x0) (str1 x1) else 0), .i (if nameOk (str1 x0) && nameOk (str1 x1) then 0 else 11)] := rfl
@[go_sem] theorem lnp125 : Ln.pure 125 = true := rfl
@[go_sem] theorem lnf125 {x0 x1 : D} : Ln.pf 125 [x0, x1] = .tuple [.i (if nameOk (str1 x0) && nameOk (str1 x1) then nmCmp (str1 x0) (str1 x1) else 0), .i (if nameOk (str1 x0) && nameOk (str1 x1) then 0 else 11)] := rfl
@[go_sem] theorem lnp127 : Ln.pure 127 = true := rfl
@[go_sem] theorem lnf127 {x0 x1 x2 : D} : Ln.pf 127 [x0, x1, x2] = .b (inR (int1 x0) (int1 x1) (int1 x2)) := rfl
@[go_sem] theorem lnp172 : Ln.pure 172 = true := rfl
@[go_sem] theorem lnf172 {x0 x1 x2 : D} : Ln.pf 172 [x0, x1, x2] = .b (inR (int1 x0) (int1 x1) (int1 x2)) := rfl
@[go_sem] theorem lnp116 : Ln.pure 116 = true := rfl
@[go_sem] theorem lnf116 {x0 x1 x2 : D} : Ln.pf 116 [x0, x1, x2] = .b (inR (int1 x0) (int1 x1) (int1 x2)) := rfl
@[go_sem] theorem lnp156 : Ln.pure 156 = true := rfl
@[go_sem] theorem lnf156 {x0 : D} : Ln.pf 156 [x0] = .b ((int1 x0) != (int1 x0)) := rfl
@[go_sem] theorem lnp173 : Ln.pure 173 = true := rfl
@[go_sem] theorem lnf173 {x0 : D} : Ln.pf 173 [x0] = .b ((str1 x0) != (str1 x0)) := rfl
@[go_sem] theorem lnp126 : Ln.pure 126 = true := rfl
@[go_sem] theorem lnf126 {x0 x1 : D} : Ln.pf 126 [x0, x1] = .i (cmpI (int1 x0) (int1 x1)) := rfl
@[go_sem] theorem lnp159 : Ln.pure 159 = true := rfl
@[go_sem] theorem lnf159 {x0 x1 : D} : Ln.pf 159 [x0, x1] = .i (cmpS (str1 x0) (str1 x1)) := rfl
@[go_sem] theorem lnp124 : Ln.pure 124 = true := rfl
@[go_sem] theorem lnf124 {x0 x1 : D} : Ln.pf 124 [x0, x1] = .b (hasPre (str1 x0) (str1 x1)) := rfl
@[go_sem] theorem lnp91 : Ln.pure 91 = true := rfl
@[go_sem] theorem lnf91 {x0 x1 : D} : Ln.pf 91 [x0, x1] = .b (hasPre (str1 x0) (str1 x1)) := rfl
@[go_sem] theorem lnp128 : Ln.pure 128 = true := rfl
@[go_sem] theorem lnf128 {x0 : D} : Ln.pf 128 [x0] = .b (wildB (str1 x0)) := rfl
@[go_sem] theorem lnp110 : Ln.pure 110 = true := rfl
@[go_sem] theorem lnf110 {x0 : D} : Ln.pf 110 [x0] = .b (wildB (str1 x0)) := rfl
@[go_sem] theorem lnp157 : Ln.pure 157 = true := rfl
@[go_sem] theorem lnf157 {x0 : D} : Ln.pf 157 [x0] = .b (freeB (str1 x0)) := rfl
@[go_sem] theorem lnp150 : Ln.pure 150 = true := rfl
@[go_sem] theorem lnf150 {x0 : D} : Ln.pf 150 [x0] = .b (freeB (str1 x0)) := rfl
@[go_sem] theorem lnp119 : Ln.pure 119 = true := rfl
@[go_sem] theorem lnf119 {x0 x1 : D} : Ln.pf 119 [x0, x1] = .b (less (dat1 x0) (dat1 x1)) := rfl
@[go_sem] theorem lnp129 : Ln.pure 129 = true := rfl
@[go_sem] theorem lnf129 {x0 x1 : D} : Ln.pf 129 [x0, x1] = .b (datOk (rule1 x0) (dat1 x1)) := rfl
@[go_sem] theorem lnp118 : Ln.pure 118 = true := rfl
@[go_sem] theorem lnf118 {x0 x1 : D} : Ln.pf 118 [x0, x1] = .b (rDatOk (int1 x0) (dat1 x1)) := rfl
@[go_sem] theorem lnp158 : Ln.pure 158 = true := rfl
@[go_sem] theorem lnf158 {x0 : D} : Ln.pf 158 [x0] = .i (orFrom (ints1 x0) 0) := rfl
@[go_sem] theorem lnp130 : Ln.pure 130 = true := rfl
@[go_sem] theorem lnf130 {x0 x1 : D} : Ln.pf 130 [x0, x1] = .i (datC (dat1 x0) (dat1 x1)) := rfl
@[go_sem] theorem lnp93 : Ln.pure 93 = true := rfl
@[go_sem] theorem lnf93 {x0 : D} : Ln.pf 93 [x0] = .b (setOk (set1 x0)) := rfl
@[go_sem] theorem lnp83 : Ln.pure 83 = true := rfl
@[go_sem] theorem lnf83 {x0 : D} : Ln.pf 83 [x0] = .b (setOk (set1 x0)) := rfl
@[go_sem] theorem lnp117 : Ln.pure 117 = true := rfl
@[go_sem] theorem lnf117 {x0 : D} : Ln.pf 117 [x0] = .b (singleB (int1 x0)) := rfl
@[go_sem] theorem lnp85 : Ln.pure 85 = true := rfl
@[go_sem] theorem lnf85 {x0 x1 : D} : Ln.pf 85 [x0, x1] = .i (rOrd (set1 x0) (set1 x1)) := rfl
@[go_sem] theorem lnp63 : Ln.pure 63 = true := rfl
@[go_sem] theorem lnf63 {x0 x1 : D} : Ln.pf 63 [x0, x1] = .b (sameB (set1 x0) (set1 x1)) := rfl
@[go_sem] theorem lnp165 : Ln.pure 165 = true := rfl
@[go_sem] theorem lnf165 {x0 x1 : D} : Ln.pf 165 [x0, x1] = .b (hasSuf (str1 x0) (str1 x1)) := rfl
@[go_sem] theorem lnp141 : Ln.pure 141 = true := rfl
@[go_sem] theorem lnf141 {x0 x1 : D} : Ln.pf 141 [x0, x1] = .b (hasSuf (str1 x0) (str1 x1)) := rfl
@[go_sem] theorem lnp102 : Ln.pure 102 = true := rfl
@[go_sem] theorem lnf102 {x0 x1 : D} : Ln.pf 102 [x0, x1] = .tuple [.b (underV (str1 x0) (str1 x1)), .i (if nameOk (str1 x0) && nameOk (str1 x1) then 0 else 11)] := rfl
@[go_sem] theorem lnp84 : Ln.pure 84 = true := rfl
@[go_sem] theorem lnf84 {x0 x1 : D} : Ln.pf 84 [x0, x1] = .b (inB (str1 x0) (str1 x1)) := rfl
@[go_sem] theorem lnp82 : Ln.pure 82 = true := rfl
@[go_sem] theorem lnf82 {x0 : D} : Ln.pf 82 [x0] = .b (wild1 (str1 x0)) := rfl
@[go_sem] theorem lnp101 : Ln.pure 101 = true := rfl
@[go_sem] theorem lnf101 {x0 x1 x2 x3 : D} : Ln.pf 101 [x0, x1, x2, x3] = .i (qC ⟨(str1 x0), (int1 x1)⟩ ⟨(str1 x2), (int1 x3)⟩) := rfl
@[go_sem] theorem lnp92 : Ln.pure 92 = true := rfl
@[go_sem] theorem lnf92 {x0 x1 : D} : Ln.pf 92 [x0, x1] = .i (qC (qst1 x0) (qst1 x1)) := rfl
@[go_sem] theorem lnp103 : Ln.pure 103 = true := rfl
@[go_sem] theorem lnf103 {x0 x1 : D} : Ln.pf 103 [x0, x1] = .b (fits (int1 x0) (bool1 x1)) := rfl
@[go_sem] theorem lnp86 : Ln.pure 86 = true := rfl
@[go_sem] theorem lnf86 {x0 x1 : D} : Ln.pf 86 [x0, x1] = .b (fits (int1 x0) (bool1 x1)) := rfl
@[go_sem] theorem lnp104 : Ln.pure 104 = true := rfl
@[go_sem] theorem lnf104 {x0 x1 : D} : Ln.pf 104 [x0, x1] = .b (sigsOk (sigs1 x0) (str1 x1)) := rfl
@[go_sem] theorem lnp89 : Ln.pure 89 = true := rfl
@[go_sem] theorem lnf89 {x0 x1 : D} : Ln.pf 89 [x0, x1] = .b (sigsOk (sigs1 x0) (str1 x1)) := rfl
@[go_sem] theorem lnp61 : Ln.pure 61 = true := rfl
@[go_sem] theorem lnf61 {x0 : D} : Ln.pf 61 [x0] = .b (qOk (qst1 x0)) := rfl
@[go_sem] theorem lnp111 : Ln.pure 111 = true := rfl
@[go_sem] theorem lnf111 {x0 : D} : Ln.pf 111 [x0] = .b (qOk (qst1 x0)) := rfl
@[go_sem] theorem lnp20 : Ln.pure 20 = true := rfl
@[go_sem] theorem lnf20 {x0 x1 : D} : Ln.pf 20 [x0, x1] = .b (sameSgd (sgd1 x0) (sgd1 x1)) := rfl
@[go_sem] theorem lnp60 : Ln.pure 60 = true := rfl
@[go_sem] theorem lnf60 {x0 x1 : D} : Ln.pf 60 [x0, x1] = .b (sameList (sgds1 x0) (sgds1 x1)) := rfl
@[go_sem] theorem lnp18 : Ln.pure 18 = true := rfl
@[go_sem] theorem lnf18 {x0 x1 : D} : Ln.pf 18 [x0, x1] = .b (sameZ (zon1 x0) (zon1 x1)) := rfl
@[go_sem] theorem lnp100 : Ln.pure 100 = true := rfl
@[go_sem] theorem lnf100 {x0 x1 : D} : Ln.pf 100 [x0, x1] = .i (qC (sgd1 x0).q (qst1 x1)) := rfl
@[go_sem] theorem lnp99 : Ln.pure 99 = true := rfl
@[go_sem] theorem lnf99 {x0 x1 x2 : D} : Ln.pf 99 [x0, x1, x2] = .tuple [.i (findIx (sgds1 x0) (qst1 x1)), .b (findOk (sgds1 x0) (qst1 x1))] := rfl
@[go_sem] theorem lnp46 : Ln.pure 46 = true := rfl
@[go_sem] theorem lnf46 {x0 x1 : D} : Ln.pf 46 [x0, x1] = .tuple [.i (findIx (zon1 x0).sets (qst1 x1)), .b (findOk (zon1 x0).sets (qst1 x1))] := rfl
@[go_sem] theorem lnp47 : Ln.pure 47 = true := rfl
@[go_sem] theorem lnf47 {x0 : D} : Ln.pf 47 [x0] = .b (ordered (zon1 x0)) := rfl
@[go_sem] theorem lnp48 : Ln.pure 48 = true := rfl
@[go_sem] theorem lnf48 {x0 : D} : Ln.pf 48 [x0] = .b (apexHolds (zon1 x0)) := rfl
@[go_sem] theorem lnp50 : Ln.pure 50 = true := rfl
@[go_sem] theorem lnf50 {x0 : D} : Ln.pf 50 [x0] = .b (aliasB (lay1 x0)) := rfl
@[go_sem] theorem lnp51 : Ln.pure 51 = true := rfl
@[go_sem] theorem lnf51 {x0 : D} : Ln.pf 51 [x0] = .b (cutB (lay1 x0)) := rfl
@[go_sem] theorem lnp52 : Ln.pure 52 = true := rfl
@[go_sem] theorem lnf52 {x0 : D} : Ln.pf 52 [x0] = .b (glueB (lay1 x0)) := rfl
@[go_sem] theorem lnp53 : Ln.pure 53 = true := rfl
@[go_sem] theorem lnf53 {x0 : D} : Ln.pf 53 [x0] = .b (formB (lay1 x0)) := rfl
@[go_sem] theorem lnp49 : Ln.pure 49 = true := rfl
@[go_sem] theorem lnf49 {x0 : D} : Ln.pf 49 [x0] = .agg (layOf (zon1 x0)).d := rfl
@[go_sem] theorem lnp14 : Ln.pure 14 = true := rfl
@[go_sem] theorem lnf14 {x0 : D} : Ln.pf 14 [x0] = .b (zoneOk (zon1 x0)) := rfl
@[go_sem] theorem lnp13 : Ln.pure 13 = true := rfl
@[go_sem] theorem lnf13 {x0 : D} : Ln.pf 13 [x0] = .tuple [.i (if zoneOk (zon1 x0) then serialOf (zon1 x0) else 0), .i (if zoneOk (zon1 x0) then 0 else 1)] := rfl
@[go_sem] theorem lnp59 : Ln.pure 59 = true := rfl
@[go_sem] theorem lnf59 {x0 x1 : D} : Ln.pf 59 [x0, x1] = .i (atF (zon1 x0).sets (qst1 x1)) := rfl
@[go_sem] theorem lnp32 : Ln.pure 32 = true := rfl
@[go_sem] theorem lnf32 {x0 : D} : Ln.pf 32 [x0] = .b (oneB (zon1 x0)) := rfl
@[go_sem] theorem lnp33 : Ln.pure 33 = true := rfl
@[go_sem] theorem lnf33 {x0 : D} : Ln.pf 33 [x0] = .b (twoB (zon1 x0)) := rfl
@[go_sem] theorem lnp34 : Ln.pure 34 = true := rfl
@[go_sem] theorem lnf34 {x0 : D} : Ln.pf 34 [x0] = .b (threeB (zon1 x0)) := rfl
@[go_sem] theorem lnp151 : Ln.pure 151 = true := rfl
@[go_sem] theorem lnf151 {x0 : D} : Ln.pf 151 [x0] = .list false ((cutsF (zon1 x0)).map sR) := rfl
@[go_sem] theorem lnp121 : Ln.pure 121 = true := rfl
@[go_sem] theorem lnf121 {x0 : D} : Ln.pf 121 [x0] = .list false ((highF (zon1 x0)).map sR) := rfl
@[go_sem] theorem lnp87 : Ln.pure 87 = true := rfl
@[go_sem] theorem lnf87 {x0 : D} : Ln.pf 87 [x0] = .list false ((behR (zon1 x0)).map sR) := rfl
@[go_sem] theorem lnp35 : Ln.pure 35 = true := rfl
@[go_sem] theorem lnf35 {x0 : D} : Ln.pf 35 [x0] = .b (fourB (zon1 x0)) := rfl
@[go_sem] theorem lnp88 : Ln.pure 88 = true := rfl
@[go_sem] theorem lnf88 {x0 : D} : Ln.pf 88 [x0] = .list false ((ownF (zon1 x0)).map bR) := rfl
@[go_sem] theorem lnp36 : Ln.pure 36 = true := rfl
@[go_sem] theorem lnf36 {x0 : D} : Ln.pf 36 [x0] = .b (fiveB (zon1 x0)) := rfl
@[go_sem] theorem lnp11 : Ln.pure 11 = true := rfl
@[go_sem] theorem lnf11 {x0 : D} : Ln.pf 11 [x0] = .b (refOk (zon1 x0)) := rfl
@[go_sem] theorem lnp17 : Ln.pure 17 = true := rfl
@[go_sem] theorem lnf17 {x0 : D} : Ln.pf 17 [x0] = .i (serialR (zon1 x0)) := rfl
@[go_sem] theorem lnp9 : Ln.pure 9 = true := rfl
@[go_sem] theorem lnf9 {x0 : D} : Ln.pf 9 [x0] = .b (fewZ (zon1 x0)) := rfl
@[go_sem] theorem lnp65 : Ln.pure 65 = true := rfl
@[go_sem] theorem lnf65 {x0 : D} : Ln.pf 65 [x0] = .b (serB (int1 x0)) := rfl
@[go_sem] theorem lnp64 : Ln.pure 64 = true := rfl
@[go_sem] theorem lnf64 {x0 : D} : Ln.pf 64 [x0] = .b (serB (int1 x0)) := rfl
@[go_sem] theorem lnp16 : Ln.pure 16 = true := rfl
@[go_sem] theorem lnf16 {x0 x1 : D} : Ln.pf 16 [x0, x1] = .b (befB (int1 x0) (int1 x1)) := rfl
@[go_sem] theorem lnp54 : Ln.pure 54 = true := rfl
@[go_sem] theorem lnf54 {x0 x1 : D} : Ln.pf 54 [x0, x1] = .b (befB (int1 x0) (int1 x1)) := rfl
@[go_sem] theorem lnp23 : Ln.pure 23 = true := rfl
@[go_sem] theorem lnf23 {x0 x1 : D} : Ln.pf 23 [x0, x1] = .tuple [.b (lessF (int1 x0) (int1 x1)).1, .i (lessF (int1 x0) (int1 x1)).2] := rfl
@[go_sem] theorem lnp22 : Ln.pure 22 = true := rfl
@[go_sem] theorem lnf22 {x0 x1 : D} : Ln.pf 22 [x0, x1] = .tuple [.b (lessF (int1 x0) (int1 x1)).1, .i (lessF (int1 x0) (int1 x1)).2] := rfl
@[go_sem] theorem lnp25 : Ln.pure 25 = true := rfl
@[go_sem] theorem lnf25 {x0 : D} : Ln.pf 25 [x0] = .tuple [.i (afterF (int1 x0)).1, .i (afterF (int1 x0)).2] := rfl
@[go_sem] theorem lnp24 : Ln.pure 24 = true := rfl
@[go_sem] theorem lnf24 {x0 : D} : Ln.pf 24 [x0] = .tuple [.i (afterF (int1 x0)).1, .i (afterF (int1 x0)).2] := rfl
@[go_sem] theorem lnp67 : Ln.pure 67 = true := rfl
@[go_sem] theorem lnf67 {x0 : D} : Ln.pf 67 [x0] = .agg (sgd1 x0).q.d := rfl
@[go_sem] theorem lnp41 : Ln.pure 41 = true := rfl
@[go_sem] theorem lnf41 {x0 : D} : Ln.pf 41 [x0] = .agg (sgd1 x0).q.d := rfl
@[go_sem] theorem lnp112 : Ln.pure 112 = true := rfl
@[go_sem] theorem lnf112 {x0 x1 : D} : Ln.pf 112 [x0, x1] = .i (qO (qst1 x0) (qst1 x1)) := rfl
@[go_sem] theorem lnp66 : Ln.pure 66 = true := rfl
@[go_sem] theorem lnf66 {x0 x1 : D} : Ln.pf 66 [x0, x1] = .i (atF (sgds1 x0) (qst1 x1)) := rfl
@[go_sem] theorem lnp78 : Ln.pure 78 = true := rfl
@[go_sem] theorem lnf78 {x0 x1 : D} : Ln.pf 78 [x0, x1] = .b (askB (qsts1 x0) (qst1 x1)) := rfl
@[go_sem] theorem lnp79 : Ln.pure 79 = true := rfl
@[go_sem] theorem lnf79 {x0 x1 : D} : Ln.pf 79 [x0, x1] = .list false ((sortedF (sgds1 x0) (sgd1 x1)).map Sgd.d) := rfl
@[go_sem] theorem lnp80 : Ln.pure 80 = true := rfl
@[go_sem] theorem lnf80 {x0 x1 : D} : Ln.pf 80 [x0, x1] = .list false ((addF (qsts1 x0) (qst1 x1)).map Qst.d) := rfl
@[go_sem] theorem lnp77 : Ln.pure 77 = true := rfl
@[go_sem] theorem lnf77 {x0 : D} : Ln.pf 77 [x0] = .b (dltOk (dlt1 x0)) := rfl
@[go_sem] theorem lnp27 : Ln.pure 27 = true := rfl
@[go_sem] theorem lnf27 {x0 x1 : D} : Ln.pf 27 [x0, x1] = .b (sameD (dlt1 x0) (dlt1 x1)) := rfl
@[go_sem] theorem lnp10 : Ln.pure 10 = true := rfl
@[go_sem] theorem lnf10 {x0 : D} : Ln.pf 10 [x0] = .b (fewD (dlt1 x0)) := rfl
@[go_sem] theorem lnp21 : Ln.pure 21 = true := rfl
@[go_sem] theorem lnf21 {x0 x1 x2 x3 : D} : Ln.pf 21 [x0, x1, x2, x3] = .b (fewAll (zon1 x0) (zon1 x1) (dlt1 x2) (dlt1 x3)) := rfl
@[go_sem] theorem lnp26 : Ln.pure 26 = true := rfl
@[go_sem] theorem lnf26 {x0 x1 : D} : Ln.pf 26 [x0, x1] = .tuple [.agg (diffR (zon1 x0) (zon1 x1)).1.d, .i (diffR (zon1 x0) (zon1 x1)).2] := rfl
@[go_sem] theorem lnp30 : Ln.pure 30 = true := rfl
@[go_sem] theorem lnf30 {x0 x1 : D} : Ln.pf 30 [x0, x1] = .tuple [.agg (applyR (zon1 x0) (dlt1 x1)).1.d, .i (applyR (zon1 x0) (dlt1 x1)).2] := rfl
@[go_sem] theorem lnp29 : Ln.pure 29 = true := rfl
@[go_sem] theorem lnf29 {x0 x1 : D} : Ln.pf 29 [x0, x1] = .tuple [.agg (joinR (dlt1 x0) (dlt1 x1)).1.d, .i (joinR (dlt1 x0) (dlt1 x1)).2] := rfl
@[go_sem] theorem lnp31 : Ln.pure 31 = true := rfl
@[go_sem] theorem lnf31 {x0 x1 : D} : Ln.pf 31 [x0, x1] = .agg (smallZ (int1 x0) (str1 x1)).d := rfl
@[go_sem] theorem lnp97 : Ln.pure 97 = true := rfl
@[go_sem] theorem lnf97 {x0 : D} : Ln.pf 97 [x0] = .list false ((dats1 x0).map Dat.d) := rfl
@[go_sem] theorem lnp98 : Ln.pure 98 = true := rfl
@[go_sem] theorem lnf98 {x0 : D} : Ln.pf 98 [x0] = .list false ((sigs1 x0).map RSig.d) := rfl
@[go_sem] theorem lnp45 : Ln.pure 45 = true := rfl
@[go_sem] theorem lnf45 {x0 : D} : Ln.pf 45 [x0] = .agg (sgd1 x0).d := rfl
@[go_sem] theorem lnp62 : Ln.pure 62 = true := rfl
@[go_sem] theorem lnf62 {x0 : D} : Ln.pf 62 [x0] = .agg (sgd1 x0).d := rfl
@[go_sem] theorem lnp19 : Ln.pure 19 = true := rfl
@[go_sem] theorem lnf19 {x0 x1 : D} : Ln.pf 19 [x0, x1] = .tuple [.agg (findR (zon1 x0) (qst1 x1)).1.d, .b (findR (zon1 x0) (qst1 x1)).2.1, .i (findR (zon1 x0) (qst1 x1)).2.2] := rfl
@[go_sem] theorem lnp38 : Ln.pure 38 = true := rfl
@[go_sem] theorem lnf38 {x0 : D} : Ln.pf 38 [x0] = .fmap (kvP (mapP (sgds1 x0))) := rfl
@[go_sem] theorem lnp105 : Ln.pure 105 = true := rfl
@[go_sem] theorem lnf105 {x0 x1 : D} : Ln.pf 105 [x0, x1] = .b (eqDat (dats1 x0) (dats1 x1)) := rfl
@[go_sem] theorem lnp106 : Ln.pure 106 = true := rfl
@[go_sem] theorem lnf106 {x0 x1 : D} : Ln.pf 106 [x0, x1] = .b (eqSig (sigs1 x0) (sigs1 x1)) := rfl
@[go_sem] theorem lnp58 : Ln.pure 58 = true := rfl
@[go_sem] theorem lnf58 {x0 x1 : D} : Ln.pf 58 [x0, x1] = .b (sameX (sgd1 x0) (sgd1 x1)) := rfl
@[go_sem] theorem lnp56 : Ln.pure 56 = true := rfl
@[go_sem] theorem lnf56 {x0 x1 : D} : Ln.pf 56 [x0, x1] = .tuple [.agg (sgd1 x0).q.d, .b (newB (mapc1 x1) (sgd1 x0).q)] := rfl
@[go_sem] theorem lnp57 : Ln.pure 57 = true := rfl
@[go_sem] theorem lnf57 {x0 x1 : D} : Ln.pf 57 [x0, x1] = .tuple [.agg (sgd1 x0).d, .b (diffS (pget (mapc1 x1) (sgd1 x0).q) (sgd1 x0))] := rfl
@[go_sem] theorem lnp40 : Ln.pure 40 = true := rfl
@[go_sem] theorem lnf40 {x0 x1 : D} : Ln.pf 40 [x0, x1] = .tuple [.agg (sgd1 x0).d, .b (newB (mapc1 x1) (sgd1 x0).q)] := rfl
@[go_sem] theorem lnp68 : Ln.pure 68 = true := rfl
@[go_sem] theorem lnf68 {x0 x1 : D} : Ln.pf 68 [x0, x1] = .tuple [.agg (sgd1 x0).d, .b (newB (mapc1 x1) (sgd1 x0).q)] := rfl
@[go_sem] theorem lnp44 : Ln.pure 44 = true := rfl
@[go_sem] theorem lnf44 {x0 : D} : Ln.pf 44 [x0] = .tuple [.agg (sgd1 x0).d, .b true] := rfl
@[go_sem] theorem lnp76 : Ln.pure 76 = true := rfl
@[go_sem] theorem lnf76 {x0 : D} : Ln.pf 76 [x0] = .tuple [.agg (sgd1 x0).d, .b true] := rfl
@[go_sem] theorem lnp69 : Ln.pure 69 = true := rfl
@[go_sem] theorem lnf69 {x0 : D} : Ln.pf 69 [x0] = .agg (qst1 x0).d := rfl
@[go_sem] theorem lnp75 : Ln.pure 75 = true := rfl
@[go_sem] theorem lnf75 {x0 x1 : D} : Ln.pf 75 [x0, x1] = .tuple [.agg (qst1 x0).d, .b (newB (mapc1 x1) (qst1 x0))] := rfl
@[go_sem] theorem lnp55 : Ln.pure 55 = true := rfl
@[go_sem] theorem lnf55 {x0 x1 : D} : Ln.pf 55 [x0, x1] = .list false (((sgds1 x0).filterMap (d1S (capm1 x1))).map Qst.d) := rfl
@[go_sem] theorem lnp73 : Ln.pure 73 = true := rfl
@[go_sem] theorem lnf73 {x0 x1 : D} : Ln.pf 73 [x0, x1] = .list false (((qsts1 x0).filterMap (j3S (capm1 x1))).map Qst.d) := rfl
@[go_sem] theorem lnp39 : Ln.pure 39 = true := rfl
@[go_sem] theorem lnf39 {x0 x1 : D} : Ln.pf 39 [x0, x1] = .list false (((sgds1 x0).filterMap (semS (x1))).map Sgd.d) := rfl
@[go_sem] theorem lnp43 : Ln.pure 43 = true := rfl
@[go_sem] theorem lnf43 {x0 : D} : Ln.pf 43 [x0] = .fn (.func 96) [] [.eptr [.fn (.func 41) [] []]] := rfl
@[go_sem] theorem lnp96 : Ln.pure 96 = true := rfl
@[go_sem] theorem lnf96 {x0 x1 x2 : D} : Ln.pf 96 [x0, x1, x2] = .i (qC (sgd1 x0).q (sgd1 x1).q) := rfl
@[go_sem] theorem lnp72 : Ln.pure 72 = true := rfl
@[go_sem] theorem lnf72 {x0 : D} : Ln.pf 72 [x0] = .fn (.func 109) [] [.eptr [.fn (.func 69) [] []]] := rfl
@[go_sem] theorem lnp109 : Ln.pure 109 = true := rfl
@[go_sem] theorem lnf109 {x0 x1 x2 : D} : Ln.pf 109 [x0, x1, x2] = .i (qC (qst1 x0) (qst1 x1)) := rfl
@[go_sem] theorem lnp37 : Ln.pure 37 = true := rfl
@[go_sem] theorem lnf37 {x0 : D} : Ln.pf 37 [x0] = .b (dltOk (dlt1 x0)) := rfl
@[go_sem] theorem lnp15 : Ln.pure 15 = true := rfl
@[go_sem] theorem lnf15 {x0 x1 : D} : Ln.pf 15 [x0, x1] = .tuple [.agg (diffP (zon1 x0) (zon1 x1)).1.d, .i (diffP (zon1 x0) (zon1 x1)).2] := rfl
@[go_sem] theorem lnp12 : Ln.pure 12 = true := rfl
@[go_sem] theorem lnf12 {x0 x1 : D} : Ln.pf 12 [x0, x1] = .tuple [.agg (applyP (zon1 x0) (dlt1 x1)).1.d, .i (applyP (zon1 x0) (dlt1 x1)).2] := rfl
@[go_sem] theorem lnp8 : Ln.pure 8 = true := rfl
@[go_sem] theorem lnf8 : Ln.pf 8 [] = .b true := rfl
@[go_sem] theorem lnp3 : Ln.pure 3 = true := rfl
@[go_sem] theorem lnf3 {x0 x1 : D} : Ln.pf 3 [x0, x1] = .b true := rfl
@[go_sem] theorem lnp4 : Ln.pure 4 = true := rfl
@[go_sem] theorem lnf4 {x0 x1 : D} : Ln.pf 4 [x0, x1] = .b true := rfl
def LnB : Con := { Ln with bs := true }
@[go_sem] theorem lnB_p {k : FuncId} : LnB.pure k = Ln.pure k := rfl
@[go_sem] theorem lnB_f {k : FuncId} {xs : List D} : LnB.pf k xs = Ln.pf k xs := rfl
@[go_sem] theorem lnB_b : LnB.bs = true := rfl
@[go_sem] theorem ln_b : Ln.bs = false := rfl
@[go_sem] theorem ln_c : Ln.cf = false := rfl
@[go_sem] theorem lnB_c : LnB.cf = false := rfl
def LnF : Con := { Ln with cf := true }
@[go_sem] theorem lnF_p {k : FuncId} : LnF.pure k = Ln.pure k := rfl
@[go_sem] theorem lnF_f {k : FuncId} {xs : List D} : LnF.pf k xs = Ln.pf k xs := rfl
@[go_sem] theorem lnF_b : LnF.bs = false := rfl
@[go_sem] theorem lnF_c : LnF.cf = true := rfl
end Go.Proofs.YtfggmgafjabbjaaGreatDoor
namespace Go.Proofs.YtfggmgafjabbjaaGreatDoor
open Go.DL Go.Str Go.Rec Go.Cmp Go.Zon
set_option maxRecDepth 10000
set_option linter.unusedSimpArgs false
set_option linter.unusedVariables false
def hD : Dlt := ⟨[120], 1, 2, [⟨[119, 46, 120], 1⟩], [⟨⟨[120], 4, 0, [⟨[], 2, 0⟩]⟩, []⟩, ⟨⟨[118, 46, 120], 1, 0, [⟨[], 7, 0⟩]⟩, []⟩]⟩
theorem hx1 : diffP (smallZ 1 [119, 46, 120]) (smallZ 2 [118, 46, 120]) = (hD, 0) := by kernel_rfl
theorem hx2 : applyP (smallZ 1 [119, 46, 120]) hD = (smallZ 2 [118, 46, 120], 0) := by kernel_rfl
theorem hx3 : applyP (smallZ 2 [118, 46, 120]) hD = (zon0, 23) := by kernel_rfl
theorem hx4 : diffP (smallZ 2 [118, 46, 120]) (smallZ 1 [119, 46, 120]) = (dlt0, 23) := by kernel_rfl
theorem hx5 : afterF 65535 = (0, 0) := by kernel_rfl
theorem hx6 : lessF 65535 32766 = (true, 0) := by kernel_rfl
theorem hx7 : lessF 65535 32767 = (false, 0) := by kernel_rfl
theorem hx8 : lessF 0 65536 = (false, 1) := by kernel_rfl
theorem hx9 : sameD hD ⟨[120], 1, 2, [⟨[119, 46, 120], 1⟩], [⟨⟨[120], 4, 0, [⟨[], 2, 0⟩]⟩, []⟩, ⟨⟨[118, 46, 120], 1, 0, [⟨[], 7, 0⟩]⟩, []⟩]⟩ = true := by kernel_rfl
theorem hx10 : sameZ (smallZ 2 [118, 46, 120]) (smallZ 2 [118, 46, 120]) = true := by kernel_rfl
theorem hfit : fitL hD.put := ⟨by decide, by intro k hk; have : k = 0 ∨ k = 1 := (by have : hD.put.length = 2 := rfl; omega); rcases this with e | e <;> subst e <;> exact ⟨by decide, by decide⟩⟩
theorem hfitz : fitL (smallZ 2 [118, 46, 120]).sets := ⟨by decide, by intro k hk; have : k = 0 ∨ k = 1 ∨ k = 2 := (by have : (smallZ 2 [118, 46, 120]).sets.length = 3 := rfl; omega); rcases this with e | e | e <;> subst e <;> exact ⟨by decide, by decide⟩⟩
theorem hg1 : ((smallZ 2 [118, 46, 120]).sets.map Sgd.d).getD 1 [] = [.v (.string (bs [120])), .i 4, .i 0, .list false [[.v (.string (bs [])), .i 2, .i 0]], .list false []] := rfl
theorem hg2 : ((smallZ 2 [118, 46, 120]).sets.map Sgd.d).getD 2 [] = [.v (.string (bs [118, 46, 120])), .i 1, .i 0, .list false [[.v (.string (bs [])), .i 7, .i 0]], .list false []] := rfl
theorem hgl : (smallZ 2 [118, 46, 120]).sets.length = 3 := rfl
theorem hd_1 : PureCt Tryz.prog 15 [.agg (smallZ 1 [119, 46, 120]).d, .agg (smallZ 2 [118, 46, 120]).d] (.tuple [.agg hD.d, .i 0]) := by
  have := ddiff_ct (smallZ 1 [119, 46, 120]) (smallZ 2 [118, 46, 120])
  rwa [hx1] at this
theorem hd_2 : PureCt Tryz.prog 12 [.agg (smallZ 1 [119, 46, 120]).d, .agg hD.d] (.tuple [.agg (smallZ 2 [118, 46, 120]).d, .i 0]) := by
  have := dapply_ct (smallZ 1 [119, 46, 120]) hD hfit
  rwa [hx2] at this
theorem hd_3 : PureCt Tryz.prog 12 [.agg (smallZ 2 [118, 46, 120]).d, .agg hD.d] (.tuple [.agg zon0.d, .i 23]) := by
  have := dapply_ct (smallZ 2 [118, 46, 120]) hD hfit
  rwa [hx3] at this
theorem hd_4 : PureCt Tryz.prog 15 [.agg (smallZ 2 [118, 46, 120]).d, .agg (smallZ 1 [119, 46, 120]).d] (.tuple [.agg dlt0.d, .i 23]) := by
  have := ddiff_ct (smallZ 2 [118, 46, 120]) (smallZ 1 [119, 46, 120])
  rwa [hx4] at this
theorem hd_5 : PureCt Tryz.prog 24 [.i 65535] (.tuple [.i 0, .i 0]) := by
  have := dafter_ct 65535
  rwa [hx5] at this
theorem hd_6 : PureCt Tryz.prog 22 [.i 65535, .i 32766] (.tuple [.b true, .i 0]) := by
  have := dless11_ct 65535 32766
  rwa [hx6] at this
theorem hd_7 : PureCt Tryz.prog 22 [.i 65535, .i 32767] (.tuple [.b false, .i 0]) := by
  have := dless11_ct 65535 32767
  rwa [hx7] at this
theorem hd_8 : PureCt Tryz.prog 22 [.i 0, .i 65536] (.tuple [.b false, .i 1]) := by
  have := dless11_ct 0 65536
  rwa [hx8] at this
theorem bo8 : hasBody Tryz.prog 8 = true := by kernel_rfl
theorem head11_ct  : PureCt Tryz.prog 8 [] (.b true) := by
  refine pure_of_dw Tryz.func8 rfl bo8 (by simp [go_sem, D.nr, nrs, nrr]) (by simp [Tryz.f8]) ?_
  unfold Tryz.f8
  simp only [init_eq]
  have ff := True.intro
  have ff := And.intro @hx1 (And.intro @hx2 (And.intro @hx3 (And.intro @hx4 (And.intro @hx5 (And.intro @hx6 (And.intro @hx7 (And.intro @hx8 (And.intro @hx9 (And.intro @hx10 (And.intro @hgl ff))))))))))
  refine stp Ln ?_
  refine stp Ln ?_ (hok := by (try simp only [go_sem, ff]); all_goals (first | done | ((repeat' (with_reducible apply And.intro)) <;> first | exact small11_ct 1 [119, 46, 120] | (intros; exact small11_ct 1 [119, 46, 120]) | exact small11_ct 2 [118, 46, 120] | (intros; exact small11_ct 2 [118, 46, 120]) | skip)))
  refine stp Ln ?_ (hok := by (try simp only [go_sem, ff]); all_goals (exact hd_1))
  refine stp Ln ?_ (hok := by (try simp only [go_sem, ff]); all_goals (exact hd_2))
  refine stp Ln ?_ (hok := by (try simp only [go_sem, ff]); all_goals (exact hd_3))
  refine stp Ln ?_ (hok := by (try simp only [go_sem, ff]); all_goals (exact hd_4))
  have ff := And.intro @hg1 (And.intro @hg2 ff)
  refine stp Ln ?_
  refine stp Ln ?_ (hok := by (try simp only [go_sem, ff]); all_goals (first | done | ((repeat' (with_reducible apply And.intro)) <;> first | exact (fun _ => rsame11_ct hD ⟨[120], 1, 2, [⟨[119, 46, 120], 1⟩], [⟨⟨[120], 4, 0, [⟨[], 2, 0⟩]⟩, []⟩, ⟨⟨[118, 46, 120], 1, 0, [⟨[], 7, 0⟩]⟩, []⟩]⟩ hfit (by decide)) | (intros; exact (fun _ => rsame11_ct hD ⟨[120], 1, 2, [⟨[119, 46, 120], 1⟩], [⟨⟨[120], 4, 0, [⟨[], 2, 0⟩]⟩, []⟩, ⟨⟨[118, 46, 120], 1, 0, [⟨[], 7, 0⟩]⟩, []⟩]⟩ hfit (by decide))) | exact rsame11_ct hD ⟨[120], 1, 2, [⟨[119, 46, 120], 1⟩], [⟨⟨[120], 4, 0, [⟨[], 2, 0⟩]⟩, []⟩, ⟨⟨[118, 46, 120], 1, 0, [⟨[], 7, 0⟩]⟩, []⟩]⟩ hfit (by decide) | (intros; exact rsame11_ct hD ⟨[120], 1, 2, [⟨[119, 46, 120], 1⟩], [⟨⟨[120], 4, 0, [⟨[], 2, 0⟩]⟩, []⟩, ⟨⟨[118, 46, 120], 1, 0, [⟨[], 7, 0⟩]⟩, []⟩]⟩ hfit (by decide)) | exact rsamez_ct (smallZ 2 [118, 46, 120]) (smallZ 2 [118, 46, 120]) hfitz | (intros; exact rsamez_ct (smallZ 2 [118, 46, 120]) (smallZ 2 [118, 46, 120]) hfitz) | skip)))
  refine stp Ln ?_ (hok := by (try simp only [go_sem, ff]); all_goals (exact hd_5))
  refine stp Ln ?_ (hok := by (try simp only [go_sem, ff]); all_goals (exact hd_6))
  refine stp Ln ?_ (hok := by (try simp only [go_sem, ff]); all_goals (exact hd_7))
  refine stp Ln ?_ (hok := by (try simp only [go_sem, ff]); all_goals (exact hd_8))
  refine stp Ln ?_
  refine dw_ret ?_
  exact fin 0 (hr := by (try simp only [go_sem, ff]); all_goals (first | rfl | kernel_rfl))

end Go.Proofs.YtfggmgafjabbjaaGreatDoor
/-
  THE D LAYER, 19: from a contract on plain data to a given row: what arguments read as; a law that answers true. Conditions: none.
-/
namespace Go.DL
open Go.RowKit Go.ChangeShapes Go.WideShapes
variable {P : Program}

/-! ### data of a type -/
def ShSt (Q : TypeId → List D → Prop) : List Field → List D → Prop
  | [], ds => ds = []
  | f :: fs, ds => ∃ a b, ds = a ++ b ∧ Q f.type a ∧ ShSt Q fs b
def Sh (P : Program) [Glob P] : Nat → TypeId → List D → Prop
  | 0, _, _ => False
  | k + 1, t, ds => match P.underlying t with
    | some .bool => ∃ b, ds = [.v (.bool b)]
    | some (.int q) => ∃ n, ds = [.v (.int q n)] ∧ (Lit.int q n).wf = true
    | some .string => ∃ s, ds = [.v (.string s)] ∧ s.size ≤ maxLen
    | some (.slice e) => ∃ rows, ds = [.list false rows] ∧ ∀ r ∈ rows, Sh P k e r
    | some (.struct fs) => ShSt (Sh P k) fs.toList ds
    | _ => False
def shB (P : Program) [Glob P] : Nat → TypeId → Bool
  | 0, _ => false
  | k + 1, t => match P.underlying t with
    | some .bool | some (.int _) | some .string => true
    | some (.slice e) => decide (0 < P.cellsOf e) && decide (e < P.types.size) && shB P k e
    | some (.struct fs) => fs.toList.all fun f => decide (f.type < P.types.size) && shB P k f.type
    | _ => false
/-- cells that stand for data -/
def RepC (w : World) (g : Mem) (ds : List D) (cs : List Value) : Prop := Reps w g ds cs ∧ ∀ v ∈ cs, v.oneCell' = true
theorem RepC.nil {w : World} {g : Mem} : RepC w g [] [] := ⟨.nil, fun v h => by cases h⟩
theorem RepC.one {w : World} {g : Mem} {d : D} {v : Value} (h : Rep w g d v) (h1 : v.oneCell' = true) : RepC w g [d] [v] :=
  ⟨.cons h .nil, fun u hu => by rw [List.mem_singleton] at hu; subst hu; exact h1⟩
theorem RepC.append {w : World} {g : Mem} {ds es : List D} {cs us : List Value} (h : RepC w g ds cs) (k : RepC w g es us) : RepC w g (ds ++ es) (cs ++ us) :=
  ⟨h.1.append k.1, fun v hv => (List.mem_append.1 hv).elim (h.2 v) (k.2 v)⟩
theorem cells_block {w : World} {a : Addr} {v : Value} (h : w.cell? a = some v) : a.block < w.heap.size := by
  unfold World.cell? at h
  split at h
  · rename_i c _ _ hb; exact (Array.getElem?_eq_some_iff.1 hb).1
  · cases h
theorem cells_get {w : World} {base : Nat} {a : Addr} {n : Nat} {cs : List Value} (h : w.cells? base a n = some cs) : cs.length = n ∧ ∀ j, j < n → w.cell? (a.add j) = cs[j]? := by
  unfold World.cells? at h
  split at h
  · have key : ∀ (l : List Nat) (cs : List Value), l.mapM (fun i => w.cell? (a.add i)) = some cs → cs.length = l.length ∧ ∀ (j i : Nat), l[j]? = some i → w.cell? (a.add i) = cs[j]? := by
      intro l
      induction l with
      | nil => intro cs h; simp at h; subst h; exact ⟨rfl, fun j i h => by simp at h⟩
      | cons i l ih =>
        intro cs h
        rw [List.mapM_cons] at h
        cases hc : w.cell? (a.add i) with
        | none => rw [hc] at h; simp at h
        | some v =>
          rw [hc] at h
          simp only [Option.bind_eq_bind, Option.bind_some] at h
          cases hr : l.mapM (fun i => w.cell? (a.add i)) with
          | none => rw [hr] at h; simp at h
          | some r =>
            rw [hr] at h
            simp at h
            subst h
            obtain ⟨h1, h2⟩ := ih r hr
            refine ⟨by simp [h1], fun j i' hj => ?_⟩
            cases j with
            | zero => simp at hj; subst hj; simpa using hc
            | succ j => simp at hj; simpa using h2 j i' hj
    obtain ⟨h1, h2⟩ := key _ _ h
    exact ⟨by simpa using h1, fun j hj => h2 j j (by simp [hj])⟩
  · cases h
theorem take_drop_append {α : Type} (l : List α) (m n : Nat) : (l.drop m).take n ++ (l.drop (m + n)) = l.drop m := by
  rw [← List.drop_drop]; exact List.take_append_drop n (l.drop m)

/-- WHAT IS READ STANDS FOR DATA OF ITS TYPE. -/
theorem reads [Glob P] {H : Type} {enc : TypeId × Value → H} {w : World} {base : Nat} {spare : Nat → Bool} {held : Bool} (hl : laidOutB P = true) :
    ∀ (k : Nat) (t : TypeId) (cs : List Value) (fuel : Nat) (x : DataW H × List MemPlace), t < P.types.size → shB P k t = true → DataW.trod enc P w base spare held fuel t cs = some x →
      ∃ ds, Sh P k t ds ∧ RepC w (noM fun b => b < w.heap.size) ds cs := by
  intro k
  induction k with
  | zero => intro t cs fuel x _ h; cases h
  | succ k ih =>
    intro t cs fuel x htl hs hr
    unfold shB at hs
    unfold Sh
    split at hs
    · rename_i hu
      obtain ⟨b, rfl, _⟩ := DataW.trod_bool hu hr
      exact ⟨_, ⟨b, rfl⟩, .one (.v _) rfl⟩
    · rename_i q hu
      obtain ⟨n, rfl, _, hw⟩ := DataW.trod_int hu hr
      exact ⟨_, ⟨n, rfl, hw⟩, .one (.v _) rfl⟩
    · rename_i hu
      obtain ⟨s, rfl, _, hw⟩ := DataW.trod_string hu hr
      exact ⟨_, ⟨s, rfl, hw⟩, .one (.v _) rfl⟩
    · rename_i e hu
      simp only [Bool.and_eq_true, decide_eq_true_eq] at hs
      obtain ⟨⟨hpos, hel⟩, hs⟩ := hs
      rcases DataW.trod_slice hu hr with ⟨rfl, _⟩ | ⟨a, len, cap, elems, rest, n, _, rfl, _, _, hlc, hcm, hlen, hrd, _, _⟩
      · exact ⟨_, ⟨[], rfl, fun r h => by cases h⟩, .one (.empty false none 0 (fun h => by cases h) (by simp [maxLen])) rfl⟩
      · -- each element
        have hrow : ∀ i, i < len → ∃ ds, Sh P k e ds ∧ ds.length = P.cellsOf e ∧ ∀ (j : Nat) d, ds[j]? = some d → ∃ v, w.cell? (a.add (i * P.cellsOf e + j)) = some v ∧ v.oneCell' = true ∧ Rep w (noM fun b => b < w.heap.size) d v := by
          intro i hi
          have h1 := hrd i hi
          have h2 : elems[i]? = some (elems[i]'(by omega)) := List.getElem?_eq_getElem _
          rw [h2] at h1
          rw [Option.bind_eq_some_iff] at h1
          obtain ⟨cs', hc, ht⟩ := h1
          obtain ⟨hcl, hcg⟩ := cells_get hc
          obtain ⟨ds, hsh, ⟨hrl, hrr⟩, ho⟩ := ih e cs' n _ hel hs ht
          refine ⟨ds, hsh, by rw [hrl, hcl], fun j d hd => ?_⟩
          have hj : j < cs'.length := by rw [← hrl]; exact (List.getElem?_eq_some_iff.1 hd).1
          have hcj := hcg j (by omega)
          rw [add_add'] at hcj
          have hg : cs'[j]? = some (cs'[j]'hj) := List.getElem?_eq_getElem _
          exact ⟨cs'[j]'hj, by rw [hcj, hg], ho _ (List.getElem_mem _), hrr j d _ hd hg⟩
        have hch : ∃ rows : List (List D), rows.length = len ∧ ∀ i r, rows[i]? = some r → Sh P k e r ∧ r.length = P.cellsOf e ∧ ∀ (j : Nat) d, r[j]? = some d → ∃ v, w.cell? (a.add (i * P.cellsOf e + j)) = some v ∧ v.oneCell' = true ∧ Rep w (noM fun b => b < w.heap.size) d v := by
          refine ⟨(List.range len).map fun i => if h : i < len then Classical.choose (hrow i h) else [], by simp, fun i r hr => ?_⟩
          rw [List.getElem?_map] at hr
          by_cases hi : i < len
          · rw [List.getElem?_range hi] at hr
            simp only [Option.map_some, Option.some.injEq] at hr
            rw [dif_pos hi] at hr
            subst hr
            exact Classical.choose_spec (hrow i hi)
          · rw [List.getElem?_eq_none (by simpa using hi)] at hr; cases hr
        obtain ⟨rows, hrl, hrr⟩ := hch
        refine ⟨_, ⟨rows, rfl, fun r h => by obtain ⟨i, hi⟩ := List.getElem?_of_mem h; exact (hrr i r hi).1⟩, .one ?_ rfl⟩
        cases hz : len with
        | zero =>
          subst hz
          have : rows = [] := List.eq_nil_of_length_eq_zero hrl
          subst this
          exact .empty false _ _ (fun h => by cases h) hcm
        | succ m =>
          rw [← hz, ← hrl]
          have hcv : ∀ i j, ∃ u, ∀ row d, rows[i]? = some row → row[j]? = some d → w.cell? (a.add (i * P.cellsOf e + j)) = some u ∧ u.oneCell' = true ∧ Rep w (noM fun b => b < w.heap.size) d u := by
            intro i j
            by_cases hh : ∃ row d, rows[i]? = some row ∧ row[j]? = some d
            · obtain ⟨row, d, q1, q2⟩ := hh
              obtain ⟨u, q3⟩ := (hrr i row q1).2.2 j d q2
              refine ⟨u, fun row' d' q1' q2' => ?_⟩
              rw [q1] at q1'; cases q1'
              rw [q2] at q2'; cases q2'
              exact q3
            · exact ⟨undef, fun row d q1 q2 => absurd ⟨row, d, q1, q2⟩ hh⟩
          have hcs : ∀ i j row d, rows[i]? = some row → row[j]? = some d → w.cell? (a.add (i * P.cellsOf e + j)) = some (Classical.choose (hcv i j)) ∧ (Classical.choose (hcv i j)).oneCell' = true ∧ Rep w (noM fun b => b < w.heap.size) d (Classical.choose (hcv i j)) := fun i j row d h1 h2 => Classical.choose_spec (hcv i j) row d h1 h2
          refine .list false rows a cap (P.cellsOf e) (fun i j => Classical.choose (hcv i j)) ?_ (by omega) (fun h => by cases h) hcm (fun r hr => ?_) (fun i j r d h1 h2 => ⟨(hcs i j r d h1 h2).1, (hcs i j r d h1 h2).2.1⟩) fun i j r d h1 h2 => (hcs i j r d h1 h2).2.2
          · show a.block < w.heap.size
            have h0 : rows[0]? = some (rows[0]'(by omega)) := List.getElem?_eq_getElem _
            obtain ⟨_, q2, q3⟩ := hrr 0 _ h0
            have h1 : (rows[0]'(by omega))[0]? = some ((rows[0]'(by omega))[0]'(by omega)) := List.getElem?_eq_getElem _
            obtain ⟨v, hv, _⟩ := q3 0 _ h1
            have := cells_block hv
            rwa [block_add] at this
          · obtain ⟨i, hi⟩ := List.getElem?_of_mem hr
            exact (hrr i r hi).2.1
    · rename_i fs hu
      obtain ⟨xs, n, _, _, hcl, hxl, hf⟩ := DataW.trod_struct hu hr
      obtain ⟨_, hsum, hoff⟩ := kid_struct hl htl hu
      simp only [List.all_eq_true, Bool.and_eq_true, decide_eq_true_eq] at hs
      have key : ∀ (fl : List Field) (i off : Nat), fs.toList.drop i = fl → off = ((fs.toList.take i).map fun f => P.cellsOf f.type).sum → ∃ ds, ShSt (Sh P k) fl ds ∧ RepC w (noM fun b => b < w.heap.size) ds (cs.drop off) := by
        intro fl
        induction fl with
        | nil =>
          intro i off hd ho
          have hil : fs.toList.length ≤ i := by
            have := congrArg List.length hd
            simp only [List.length_drop, List.length_nil] at this; omega
          have : off = cs.length := by rw [hcl, hsum, ho, List.take_of_length_le hil]
          rw [this, List.drop_length]
          exact ⟨[], rfl, .nil⟩
        | cons f fl ihf =>
          intro i off hd ho
          have hil : i < fs.toList.length := by
            have := congrArg List.length hd
            simp only [List.length_drop, List.length_cons] at this; omega
          have hfi : fs.toList[i]? = some f := by
            have : (fs.toList.drop i)[0]? = some f := by rw [hd]; rfl
            simpa using this
          have hofs := hoff i f hfi
          have hxi : xs[i]? = some (xs[i]'(by rw [hxl]; simpa using hil)) := List.getElem?_eq_getElem _
          have hrd := hf i f (by simpa using hfi)
          rw [hxi, hofs, ← ho] at hrd
          have hmem := List.mem_of_getElem? hfi
          obtain ⟨ds1, h1, h2⟩ := ih f.type _ n _ (hs f hmem).1 (hs f hmem).2 hrd
          have htk : fs.toList.take (i + 1) = fs.toList.take i ++ [f] := by rw [List.take_add_one, hfi]; rfl
          obtain ⟨ds2, h3, h4⟩ := ihf (i + 1) (off + P.cellsOf f.type) (by rw [← List.drop_drop, hd]; rfl) (by rw [htk, List.map_append, List.sum_append, ← ho]; simp)
          refine ⟨ds1 ++ ds2, ⟨ds1, ds2, rfl, h1, h3⟩, ?_⟩
          rw [← take_drop_append cs off (P.cellsOf f.type)]
          exact h2.append h4
      obtain ⟨ds, h1, h2⟩ := key fs.toList 0 0 rfl (by simp)
      exact ⟨ds, h1, by simpa using h2⟩
    · cases hs

/-! ### arguments -/
def shFuel : Nat := 12
def ShV (P : Program) [Glob P] (t : TypeId) (x : D) : Prop := match P.underlying t with
  | some (.struct _) => ∃ cs, x = .agg cs ∧ Sh P shFuel t cs
  | _ => Sh P shFuel t [x]
def ShArgs (P : Program) [Glob P] : List TypeId → List D → Prop
  | [], xs => xs = []
  | t :: ts, xs => ∃ x ys, xs = x :: ys ∧ ShV P t x ∧ ShArgs P ts ys
theorem readV [Glob P] {H : Type} {enc : TypeId × Value → H} {w : World} {spare : Nat → Bool} {held : Bool} {b0 : Nat} {t : TypeId} {v : Value} {d : DataW H} {ps : List MemPlace} (hl : laidOutB P = true) (htl : t < P.types.size) (hs : shB P shFuel t = true) (hv : Value.okWide P w .any b0 t v) (h : DataW.Trod enc P w 0 spare held t v d ps) :
    ∃ x, ShV P t x ∧ Rep w (noM fun b => b < w.heap.size) x v := by
  obtain ⟨fuel, h⟩ := h
  obtain ⟨ds, h1, h2⟩ := reads hl shFuel t v.cells.toList fuel _ htl hs h
  have one : v.cells = #[v] → ShV P t (ds.headD .junk) ∧ Rep w (noM fun b => b < w.heap.size) (ds.headD .junk) v ∨ (∃ fs, P.underlying t = some (.struct fs)) := by
    intro hc
    rw [hc] at h2
    have hlen : ds.length = 1 := h2.1.1
    match ds, hlen with
    | [x], _ =>
      by_cases hst : ∃ fs, P.underlying t = some (.struct fs)
      · exact .inr hst
      · refine .inl ⟨?_, h2.1.head⟩
        unfold ShV
        split
        · rename_i fs hu; exact absurd ⟨fs, hu⟩ hst
        · exact h1
  unfold shFuel shB at hs
  split at hs
  · rename_i hu
    obtain ⟨b, rfl⟩ := okWide_bool hu hv
    rcases one rfl with h | ⟨fs, h⟩
    · exact ⟨_, h⟩
    · rw [hu] at h; cases h
  · rename_i q hu
    obtain ⟨n, rfl⟩ := okWide_int hu hv
    rcases one rfl with h | ⟨fs, h⟩
    · exact ⟨_, h⟩
    · rw [hu] at h; cases h
  · rename_i hu
    obtain ⟨s, rfl⟩ := okWide_string hu hv
    rcases one rfl with h | ⟨fs, h⟩
    · exact ⟨_, h⟩
    · rw [hu] at h; cases h
  · rename_i e hu
    obtain ⟨a, len, cap, rfl⟩ := okWide_slice hu hv
    rcases one rfl with h | ⟨fs, h⟩
    · exact ⟨_, h⟩
    · rw [hu] at h; cases h
  · rename_i fs hu
    obtain ⟨cs, rfl, _⟩ := okWide_struct hu hv
    refine ⟨.agg ds, ?_, .mk_agg ?_⟩
    · unfold ShV; rw [hu]; exact ⟨ds, rfl, h1⟩
    · have : (Value.agg cs).cells = cs := rfl
      rw [this] at h2
      exact h2.1
  · cases hs
theorem readAll [Glob P] {H : Type} {enc : TypeId × Value → H} {w : World} {spare : Nat → Bool} {held : Bool} {b0 : Nat} (hl : laidOutB P = true) : ∀ (ts : List TypeId) (vs : List Value) (ds : List (DataW H)) (ps : List MemPlace), (∀ t ∈ ts, t < P.types.size ∧ shB P shFuel t = true) →
    (∀ (j : Nat) t v, ts[j]? = some t → vs[j]? = some v → Value.okWide P w .any b0 t v) → DataW.TrodAll enc P w 0 spare held ts vs ds ps → ∃ xs, ShArgs P ts xs ∧ Reps w (noM fun b => b < w.heap.size) xs vs
  | [], [], [], _, _, _, _ => ⟨[], rfl, .nil⟩
  | t :: ts, v :: vs, d :: ds, ps, ht, hv, ⟨p, q, h1, h2, _⟩ => by
    obtain ⟨x, hx1, hx2⟩ := readV hl (ht t (by simp)).1 (ht t (by simp)).2 (hv 0 t v rfl rfl) h1
    obtain ⟨xs, hy1, hy2⟩ := readAll hl ts vs ds q (fun t' h => ht t' (by simp [h])) (fun j t' v' e1 e2 => hv (j + 1) t' v' (by simpa using e1) (by simpa using e2)) h2
    exact ⟨x :: xs, ⟨x, xs, rfl, hx1, hy1⟩, .cons hx2 hy2⟩

/-! ### behind the call -/
theorem bel_kept {W W' : World} (hb : Bel W W') (may : MemPlace → Prop) : W.keptBut W' may := by
  refine ⟨hb.os, hb.output, fun i hi => ?_⟩
  rw [hb.block i hi]
  cases h : W.heap[i]? with
  | none => trivial
  | some o =>
    cases o <;> first
      | exact ⟨rfl, rfl, rfl, fun _ _ => rfl⟩
      | exact .inr ⟨rfl, rfl⟩
      | rfl
theorem trodAll_stays [Glob P] {H : Type} {enc : TypeId × Value → H} {W W' : World} (hl : laidOutB P = true) (hb : Bel W W') : ∀ (ts : List TypeId) (vs : List Value) (ds : List (DataW H)) (ps : List MemPlace), (∀ t ∈ ts, P.readableRec t = true ∧ t < P.types.size) →
    DataW.TrodAll enc P W 0 (fun _ => true) true ts vs ds ps → (∀ x ∈ ps, x.block < W.heap.size) → ∀ sp : Nat → Bool, (∀ x ∈ ps, sp x.block = true) → DataW.TrodAll enc P W' 0 sp true ts vs ds ps
  | [], [], [], _, _, h, _, _, _ => h
  | t :: ts, v :: vs, d :: ds, ps, ht, ⟨p, q, h1, h2, e⟩, hlt, sp, hsp => by
    subst e
    have hbe : Below W.heap.size W W' := ⟨hb.os, hb.tape, hb.output, hb.size, hb.block⟩
    exact ⟨p, q, WideElems.Trod_stays hl (ht t (by simp)).1 (ht t (by simp)).2 h1 (fun x hx => hbe.same (hlt x (List.mem_append_left _ hx))) (fun x hx => hsp x (List.mem_append_left _ hx)),
      trodAll_stays hl hb ts vs ds q (fun t' h => ht t' (by simp [h])) h2 (fun x hx => hlt x (List.mem_append_right _ hx)) sp (fun x hx => hsp x (List.mem_append_right _ hx)), rfl⟩
/-- A LAW THAT ANSWERS TRUE, and leaves memory alone. -/
theorem law_contract_g [Glob P] {H : Type} {enc : TypeId × Value → H} {f : FuncId} {fn : Func} {s : ChangeSpec} {tb : TypeId} {apart fresh handsOn again : Bool} (hl : laidOutB P = true) (hvars : s.vars = []) (hrt : fn.resultTypes = #[tb]) (hbool : P.underlying tb = some .bool)
    (hpar : (fn.params.toList.all fun t => P.readableRec t && decide (t < P.types.size) && shB P shFuel t) = true)
    (hfn : ∀ ds : List (DataW H), ds.length = fn.params.toList.length → s.fn H ds = { results := [.lit (.bool true)], args := ds })
    (hct : ∀ xs : List D, ShArgs P fn.params.toList xs → PureCt P f xs (.b true)) :
    ∀ (W : World) (base : Nat) (args : Array Value) (ds gs : List (DataW H)) (before : List MemPlace), Gr P (fun b => b < W.heap.size) W → (∀ (j : Nat) t v, fn.params[j]? = some t → args[j]? = some v → Value.okWide P W .any base t v) →
      DataW.Whole enc P fn.params.toList s.vars apart W args.toList ds gs before →
      Calls P f args W fun e W' => ∃ v, e = .returned v ∧ s.post enc P fn apart fresh handsOn again W args v W' := by
  intro W base args ds gs before hgr hval hW
  simp only [List.all_eq_true, Bool.and_eq_true, decide_eq_true_eq] at hpar
  have hW' := hW
  obtain ⟨p, q, hA, hV, hpq, hfz, hnd⟩ := hW
  rw [hvars] at hV
  obtain ⟨rfl, rfl⟩ : gs = [] ∧ q = [] := by
    cases gs with
    | nil => exact ⟨rfl, hV⟩
    | cons g gs => exact False.elim hV
  rw [List.append_nil] at hpq
  obtain ⟨xs, hx1, hx2⟩ := readAll hl _ _ _ _ (fun t ht => ⟨(hpar t ht).1.2, (hpar t ht).2⟩) (fun j t v h1 h2 => hval j t v (by simpa using h1) (by simpa using h2)) hA
  obtain ⟨_, _, hct⟩ := hct xs hx1
  have hlen : ∀ {ts : List TypeId} {vs : List Value} {ds : List (DataW H)} {ps : List MemPlace}, DataW.TrodAll enc P W 0 (fun _ => true) true ts vs ds ps → ds.length = ts.length := by
    intro ts
    induction ts with
    | nil => intro vs ds ps h; cases vs <;> cases ds <;> first | rfl | exact False.elim h
    | cons t ts ih =>
      intro vs ds ps h
      cases vs <;> cases ds <;> first | exact False.elim h | skip
      obtain ⟨_, _, _, h2, _⟩ := h
      simp [ih h2]
  have hres := hfn ds (hlen hA)
  have := callsIn_wide.1 (hct W (fun b => b < W.heap.size) _ (fun b h => h) hgr hx2)
  have ea : args.toList.toArray = args := by simp
  rw [ea] at this
  refine this.mono ?_
  rintro e W' ⟨v, rfl, hb, hv⟩
  rw [hv.v_inv]
  refine ⟨_, rfl, ?_⟩
  have hlt : ∀ x ∈ before, x.block < W.heap.size := fun x hx => hW'.lt x hx
  have hsp : ∀ sp : Nat → Bool, (∀ x ∈ before, sp x.block = true) → DataW.TrodAll enc P W' 0 sp true fn.params.toList args.toList ds before := by
    intro sp h
    rw [hpq] at h hlt ⊢
    exact trodAll_stays hl hb _ _ _ _ (fun t ht => (hpar t ht).1) hA hlt sp h
  have hfn' : s.fn H (ds ++ []) = { results := [.lit (.bool true)], args := ds } := by rw [List.append_nil]; exact hres
  have hrs : ∀ (b : Nat) (sp : Nat → Bool) (hd : Bool), DataW.TrodAll enc P W' b sp hd fn.resultTypes.toList ((Value.bool true).resultList fn.resultTypes.size) [.lit (.bool true)] [] := by
    intro b sp hd
    rw [hrt]
    exact trodAll_cons_mk (shut_bool hbool _) trodAll_mk0
  have hold : ∀ x ∈ before, (fun b => decide (b < W.heap.size)) x.block = true := fun x hx => by simpa using hlt x hx
  have hvs : ∀ sp : Nat → Bool, DataW.TrodVars enc P W' sp s.vars [] [] := fun sp => by rw [hvars]; exact rfl
  have hfz' : ∀ x ∈ before, ∀ b off, x = MemPlace.cell b off → W'.frozen? ⟨b, off, none⟩ = false := by
    intro x hx b off e
    subst e
    have hbl : b < W.heap.size := hlt _ hx
    have e2 : W'.frozen? ⟨b, off, none⟩ = W.frozen? ⟨b, off, none⟩ := World.frozen?_of_block (hb.block b hbl)
    rw [e2]
    exact hfz b off hx
  unfold ChangeSpec.post
  refine ⟨ds, [], before, [], before, [], hW', ?_, ?_, ?_, World.keptBut_mono (fun x hx => ⟨hx, .inr (.inl hx)⟩) (bel_kept hb (· ∈ before)), fun _ => ⟨?_, ?_⟩⟩
  · rw [hfn']; exact hrs _ _ _
  · rw [hfn']; exact hsp _ hold
  · rw [hfn']; exact hvs _
  · exact ok_one hrt rfl (okWide_bool_mk hbool _)
  · refine ⟨_, [], ([] ++ before) ++ [], ⟨[] ++ before, [], trodAll_append (hsp _ fun _ _ => rfl) (hrs _ _ _), hvs _, rfl, ?_, ?_⟩, ?_⟩
    · intro b off hx
      exact hfz' _ (by simpa using hx) b off rfl
    · intro ha
      simpa using hnd ha
    · intro x hx _
      simpa using hx
end Go.DL
/-
  THE D LAYER, 21: package-level variables that a row lists: what their cells hold. Conditions: none.
-/
set_option linter.unusedVariables false
set_option linter.unusedSimpArgs false
namespace Go.DL
open Go.RowKit Go.ChangeShapes Go.WideShapes
variable {P : Program}

def litV : Lit → Value
  | .bool b => .bool b
  | .int k n => .int k n
  | .string s => .string ⟨s.toArray⟩
  | _ => undef
/-- the cells that a datum stands for -/
def litCells {H : Type} : Nat → DataW H → List Value
  | 0, _ => []
  | k + 1, d => match d with
    | .lit l => [litV l]
    | .agg ds => ds.flatMap (litCells k)
    | _ => []
def litB (P : Program) : Nat → TypeId → Bool
  | 0, _ => false
  | k + 1, t => match P.underlying t with
    | some .bool | some (.int _) | some .string => true
    | some (.array _ e) => decide (e < P.types.size) && litB P k e
    | some (.struct fs) => fs.toList.all fun f => decide (f.type < P.types.size) && litB P k f.type
    | _ => false
theorem lits {H : Type} {enc : TypeId × Value → H} {w : World} {base : Nat} {spare : Nat → Bool} {held : Bool} (hl : laidOutB P = true) :
    ∀ (k : Nat) (t : TypeId) (cs : List Value) (fuel : Nat) (x : DataW H × List MemPlace), t < P.types.size → litB P k t = true → DataW.trod enc P w base spare held fuel t cs = some x → cs = litCells k x.1 := by
  intro k
  induction k with
  | zero => intro t cs fuel x _ h; cases h
  | succ k ih =>
    intro t cs fuel x htl hs hr
    unfold litB at hs
    split at hs
    · rename_i hu
      obtain ⟨b, rfl, rfl⟩ := DataW.trod_bool hu hr
      rfl
    · rename_i q hu
      obtain ⟨n, rfl, rfl, _⟩ := DataW.trod_int hu hr
      rfl
    · rename_i hu
      obtain ⟨s, rfl, rfl, _⟩ := DataW.trod_string hu hr
      show [Value.string s] = [Value.string ⟨s.data.toList.toArray⟩]
      simp
    · rename_i n e hu
      simp only [Bool.and_eq_true, decide_eq_true_eq] at hs
      obtain ⟨xs, m, _, rfl, hcl, hxl, hel⟩ := DataW.trod_array hu hr
      obtain ⟨_, hcn⟩ := kid_array hl htl hu
      have key : ∀ (j i : Nat), i + j = n → cs.drop (i * P.cellsOf e) = ((xs.drop i).map (·.1)).flatMap (litCells k) := by
        intro j
        induction j with
        | zero =>
          intro i hi
          have hi' : i = n := by omega
          subst hi'
          rw [← hcn, ← hcl, List.drop_length, ← hxl, List.drop_length]
          rfl
        | succ j ihj =>
          intro i hi
          have hlt : i < xs.length := by omega
          have h1 := hel i (by omega)
          rw [List.getElem?_eq_getElem hlt] at h1
          have h2 := ih e _ m _ hs.1 hs.2 h1
          have h3 := ihj (i + 1) (by omega)
          have e1 : (i + 1) * P.cellsOf e = i * P.cellsOf e + P.cellsOf e := by rw [Nat.succ_mul]
          rw [e1] at h3
          rw [List.drop_eq_getElem_cons hlt, List.map_cons, List.flatMap_cons, ← h3, ← h2]
          exact (take_drop_append cs _ _).symm
      have := key n 0 (by omega)
      simpa [litCells] using this
    · rename_i fs hu
      obtain ⟨xs, n, _, rfl, hcl, hxl, hf⟩ := DataW.trod_struct hu hr
      obtain ⟨_, hsum, hoff⟩ := kid_struct hl htl hu
      simp only [List.all_eq_true, Bool.and_eq_true, decide_eq_true_eq] at hs
      have hxl' : xs.length = fs.toList.length := by simpa using hxl
      have key : ∀ (j i : Nat), i + j = fs.toList.length → cs.drop ((fs.toList.take i).map fun f => P.cellsOf f.type).sum = ((xs.drop i).map (·.1)).flatMap (litCells k) := by
        intro j
        induction j with
        | zero =>
          intro i hi
          have hi' : i = fs.toList.length := by omega
          subst hi'
          rw [List.take_length, ← hsum, ← hcl, List.drop_length, ← hxl', List.drop_length]
          rfl
        | succ j ihj =>
          intro i hi
          have hlt : i < fs.toList.length := by omega
          have hltx : i < xs.length := by omega
          have hfi : fs.toList[i]? = some fs.toList[i] := List.getElem?_eq_getElem hlt
          have h1 := hf i fs.toList[i] (by simp)
          rw [hoff i _ hfi, List.getElem?_eq_getElem hltx] at h1
          have hm := hs _ (List.getElem_mem hlt)
          have h2 := ih _ _ n _ hm.1 hm.2 h1
          have h3 := ihj (i + 1) (by omega)
          have htk : fs.toList.take (i + 1) = fs.toList.take i ++ [fs.toList[i]] := by rw [List.take_add_one, hfi]; rfl
          rw [htk, List.map_append, List.sum_append] at h3
          simp only [List.map_cons, List.map_nil, List.sum_cons, List.sum_nil, Nat.add_zero] at h3
          rw [List.drop_eq_getElem_cons hltx, List.map_cons, List.flatMap_cons, ← h3, ← h2]
          exact (take_drop_append cs _ _).symm
      have := key fs.toList.length 0 (by omega)
      simpa [litCells] using this
    · cases hs
/-- WHAT A LISTED VARIABLE's CELLS HOLD: one variable. -/
theorem laid_one [Glob P] {nm : String} {d : DataW Unit} {W : World} {g : Nat} {t : TypeId} {k : Nat} {cells : List Value} (hl : laidOutB P = true) (hplain : ([(nm, d)].all fun x => x.2.handleName?.isNone) = true)
    (hg : P.globalNamed nm = some g) (ht : (P.globals[g]?).map (·.type) = some t) (htl : t < P.types.size) (hb : litB P k t = true) (hc : litCells k d = cells) (hgl : ∀ x cs, Glob.tab P x = some cs → x = g ∧ cs = cells) (hsz : 0 < cells.length)
    (h : laidMetH P [(nm, d)] W) : Gr P (fun b => b < W.heap.size) W := by
  rw [MakeChecks.laidMetH_plain _ _ _ hplain] at h
  obtain ⟨ps, ⟨g0, t0, cs, fuel, p, q, hg0, ht0, hv, hd, _, _⟩, _, _⟩ := h
  obtain rfl := Option.some.inj (hg.symm.trans hg0)
  obtain rfl := Option.some.inj (ht.symm.trans ht0)
  have hcs := lits hl k t _ _ _ htl hb hd
  rw [show litCells k (d, p).1 = cells from hc] at hcs
  intro x cs' hx
  obtain ⟨rfl, rfl⟩ := hgl x cs' hx
  have hcell := fun j => World.var?_cell hg0 hv j
  have hj : ∀ (j : Nat) v, cs'[j]? = some v → W.cell? ⟨x, j, none⟩ = some v := by
    intro j v hv'
    rw [hcell j]
    obtain ⟨l⟩ := cs
    simp only at hcs
    subst hcs
    simp [hv']
  refine ⟨?_, hj⟩
  have h0 : cs'[0]? = some (cs'[0]'hsz) := List.getElem?_eq_getElem hsz
  have := cells_block (hj 0 _ h0)
  exact this
end Go.DL
