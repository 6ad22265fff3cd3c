/-
  MADE BY A PROGRAM OF MINE: what the functions that leave memory alone give. Conditions: none.
-/
import Derived.Test.YtfggmgafjabbjaaDoorRec6
import Derived.Test.YtfggmgafjabbjaaDoorNmW6
namespace Go.Proofs.YtfggmgafjabbjaaDoor
open Go.DL Go.Str Go.Rec
def Rn : Con where
  pure := fun k => [147, 115, 100, 72, 71, 39, 66, 34, 117, 116, 93, 95, 62, 60, 35, 102, 40, 94, 103, 61, 70, 101, 67, 36, 41, 68, 73, 43, 37, 42, 69, 38, 14, 15, 33, 27, 28, 10, 11, 22, 16, 9, 21, 17, 19, 31, 12].contains k
  pf := fun k xs => match k, xs with
    | 147, [x0, x1] => .i (lastIx (str1 x0) (int1 x1))
    | 115, [x0, x1] => .i (lastIx (str1 x0) (int1 x1))
    | 100, [x0] => .b (labelOk (str1 x0))
    | 72, [x0] => .b (labelOk (str1 x0))
    | 71, [x0] => .list false ((splitF (str1 x0)).map sR)
    | 39, [x0] => .b (nameOk (str1 x0))
    | 66, [x0] => .b (nameOk (str1 x0))
    | 34, [x0] => .b (nameOk (str1 x0))
    | 117, [x0] => .list false ((partsOf (str1 x0)).map sR)
    | 116, [x0, x1] => .i (Go.Lib.compareBytes (str1 x0) (str1 x1))
    | 93, [x0, x1] => .i (Go.Lib.compareBytes (str1 x0) (str1 x1))
    | 95, [x0, x1] => .i (nmOrd (str1 x0) (str1 x1))
    | 62, [x0, x1] => .tuple [.i (if nameOk (str1 x0) && nameOk (str1 x1) then nmCmp (str1 x0) (str1 x1) else 0), .i (if nameOk (str1 x0) && nameOk (str1 x1) then 0 else 11)]
    | 60, [x0, x1] => .tuple [.i (if nameOk (str1 x0) && nameOk (str1 x1) then nmCmp (str1 x0) (str1 x1) else 0), .i (if nameOk (str1 x0) && nameOk (str1 x1) then 0 else 11)]
    | 35, [x0, x1, x2] => .b (inR (int1 x0) (int1 x1) (int1 x2))
    | 102, [x0, x1, x2] => .b (inR (int1 x0) (int1 x1) (int1 x2))
    | 40, [x0, x1, x2] => .b (inR (int1 x0) (int1 x1) (int1 x2))
    | 94, [x0] => .b ((int1 x0) != (int1 x0))
    | 103, [x0] => .b ((str1 x0) != (str1 x0))
    | 61, [x0, x1] => .i (cmpI (int1 x0) (int1 x1))
    | 70, [x0, x1] => .i (cmpS (str1 x0) (str1 x1))
    | 101, [x0, x1] => .b (hasPre (str1 x0) (str1 x1))
    | 67, [x0, x1] => .b (hasPre (str1 x0) (str1 x1))
    | 36, [x0] => .b (wildB (str1 x0))
    | 41, [x0] => .b (wildB (str1 x0))
    | 68, [x0] => .b (freeB (str1 x0))
    | 73, [x0] => .b (freeB (str1 x0))
    | 43, [x0, x1] => .b (less (dat1 x0) (dat1 x1))
    | 37, [x0, x1] => .b (datOk (rule1 x0) (dat1 x1))
    | 42, [x0, x1] => .b (rDatOk (int1 x0) (dat1 x1))
    | 69, [x0] => .i (orFrom (ints1 x0) 0)
    | 38, [x0, x1] => .i (datC (dat1 x0) (dat1 x1))
    | 14, [x0] => .b (setOk (set1 x0))
    | 15, [x0] => .b (setOk (set1 x0))
    | 33, [x0] => .b (singleB (int1 x0))
    | 27, [x0, x1] => .i (plC (set1 x0) (set1 x1))
    | 28, [x0, x1] => .i (rOrd (set1 x0) (set1 x1))
    | 10, [x0, x1] => .tuple [.i (cmpF (set1 x0) (set1 x1)).1, .i (cmpF (set1 x0) (set1 x1)).2]
    | 11, [x0, x1] => .tuple [.i (cmpF (set1 x0) (set1 x1)).1, .i (cmpF (set1 x0) (set1 x1)).2]
    | 22, [x0, x1] => .b (sameB (set1 x0) (set1 x1))
    | 16, [x0, x1] => .b (sameSetsB (sets1 x0) (sets1 x1))
    | 9, [x0] => .b (fewB (sets1 x0))
    | 21, [x0, x1] => .b (sameStr (bytes1 x0) (bytes1 x1))
    | 17, [x0] => .tuple [.list false ((bytesF (set1 x0)).1.map bD), .i (bytesF (set1 x0)).2]
    | 19, [x0] => .tuple [.agg (readF (bytes1 x0)).1.d, .i (readF (bytes1 x0)).2]
    | 31, [x0] => .agg (uniteF (sets1 x0)).d
    | 12, [x0] => .tuple [.list false ((mergeP (sets1 x0)).1.map RSet.d), .i (mergeP (sets1 x0)).2]
    | _, _ => .junk
@[go_sem] theorem rnp147 : Rn.pure 147 = true := rfl
@[go_sem] theorem rnf147 {x0 x1 : D} : Rn.pf 147 [x0, x1] = .i (lastIx (str1 x0) (int1 x1)) := rfl
@[go_sem] theorem rnp115 : Rn.pure 115 = true := rfl
@[go_sem] theorem rnf115 {x0 x1 : D} : Rn.pf 115 [x0, x1] = .i (lastIx (str1 x0) (int1 x1)) := rfl
@[go_sem] theorem rnp100 : Rn.pure 100 = true := rfl
@[go_sem] theorem rnf100 {x0 : D} : Rn.pf 100 [x0] = .b (labelOk (str1 x0)) := rfl
@[go_sem] theorem rnp72 : Rn.pure 72 = true := rfl
@[go_sem] theorem rnf72 {x0 : D} : Rn.pf 72 [x0] = .b (labelOk (str1 x0)) := rfl
@[go_sem] theorem rnp71 : Rn.pure 71 = true := rfl
@[go_sem] theorem rnf71 {x0 : D} : Rn.pf 71 [x0] = .list false ((splitF (str1 x0)).map sR) := rfl
@[go_sem] theorem rnp39 : Rn.pure 39 = true := rfl
@[go_sem] theorem rnf39 {x0 : D} : Rn.pf 39 [x0] = .b (nameOk (str1 x0)) := rfl
@[go_sem] theorem rnp66 : Rn.pure 66 = true := rfl
@[go_sem] theorem rnf66 {x0 : D} : Rn.pf 66 [x0] = .b (nameOk (str1 x0)) := rfl
@[go_sem] theorem rnp34 : Rn.pure 34 = true := rfl
@[go_sem] theorem rnf34 {x0 : D} : Rn.pf 34 [x0] = .b (nameOk (str1 x0)) := rfl
@[go_sem] theorem rnp117 : Rn.pure 117 = true := rfl
@[go_sem] theorem rnf117 {x0 : D} : Rn.pf 117 [x0] = .list false ((partsOf (str1 x0)).map sR) := rfl
@[go_sem] theorem rnp116 : Rn.pure 116 = true := rfl
@[go_sem] theorem rnf116 {x0 x1 : D} : Rn.pf 116 [x0, x1] = .i (Go.Lib.compareBytes (str1 x0) (str1 x1)) := rfl
@[go_sem] theorem rnp93 : Rn.pure 93 = true := rfl
@[go_sem] theorem rnf93 {x0 x1 : D} : Rn.pf 93 [x0, x1] = .i (Go.Lib.compareBytes (str1 x0) (str1 x1)) := rfl
@[go_sem] theorem rnp95 : Rn.pure 95 = true := rfl
@[go_sem] theorem rnf95 {x0 x1 : D} : Rn.pf 95 [x0, x1] = .i (nmOrd (str1 x0) (str1 x1)) := rfl
@[go_sem] theorem rnp62 : Rn.pure 62 = true := rfl
@[go_sem] theorem rnf62 {x0 x1 : D} : Rn.pf 62 [x0, x1] = .tuple [.i (if nameOk (str1 x0) && nameOk (str1 x1) then nmCmp (str1 x0) (str1 x1) else 0), .i (if nameOk (str1 x0) && nameOk (str1 x1) then 0 else 11)] := rfl
@[go_sem] theorem rnp60 : Rn.pure 60 = true := rfl
@[go_sem] theorem rnf60 {x0 x1 : D} : Rn.pf 60 [x0, x1] = .tuple [.i (if nameOk (str1 x0) && nameOk (str1 x1) then nmCmp (str1 x0) (str1 x1) else 0), .i (if nameOk (str1 x0) && nameOk (str1 x1) then 0 else 11)] := rfl
@[go_sem] theorem rnp35 : Rn.pure 35 = true := rfl
@[go_sem] theorem rnf35 {x0 x1 x2 : D} : Rn.pf 35 [x0, x1, x2] = .b (inR (int1 x0) (int1 x1) (int1 x2)) := rfl
@[go_sem] theorem rnp102 : Rn.pure 102 = true := rfl
@[go_sem] theorem rnf102 {x0 x1 x2 : D} : Rn.pf 102 [x0, x1, x2] = .b (inR (int1 x0) (int1 x1) (int1 x2)) := rfl
@[go_sem] theorem rnp40 : Rn.pure 40 = true := rfl
@[go_sem] theorem rnf40 {x0 x1 x2 : D} : Rn.pf 40 [x0, x1, x2] = .b (inR (int1 x0) (int1 x1) (int1 x2)) := rfl
@[go_sem] theorem rnp94 : Rn.pure 94 = true := rfl
@[go_sem] theorem rnf94 {x0 : D} : Rn.pf 94 [x0] = .b ((int1 x0) != (int1 x0)) := rfl
@[go_sem] theorem rnp103 : Rn.pure 103 = true := rfl
@[go_sem] theorem rnf103 {x0 : D} : Rn.pf 103 [x0] = .b ((str1 x0) != (str1 x0)) := rfl
@[go_sem] theorem rnp61 : Rn.pure 61 = true := rfl
@[go_sem] theorem rnf61 {x0 x1 : D} : Rn.pf 61 [x0, x1] = .i (cmpI (int1 x0) (int1 x1)) := rfl
@[go_sem] theorem rnp70 : Rn.pure 70 = true := rfl
@[go_sem] theorem rnf70 {x0 x1 : D} : Rn.pf 70 [x0, x1] = .i (cmpS (str1 x0) (str1 x1)) := rfl
@[go_sem] theorem rnp101 : Rn.pure 101 = true := rfl
@[go_sem] theorem rnf101 {x0 x1 : D} : Rn.pf 101 [x0, x1] = .b (hasPre (str1 x0) (str1 x1)) := rfl
@[go_sem] theorem rnp67 : Rn.pure 67 = true := rfl
@[go_sem] theorem rnf67 {x0 x1 : D} : Rn.pf 67 [x0, x1] = .b (hasPre (str1 x0) (str1 x1)) := rfl
@[go_sem] theorem rnp36 : Rn.pure 36 = true := rfl
@[go_sem] theorem rnf36 {x0 : D} : Rn.pf 36 [x0] = .b (wildB (str1 x0)) := rfl
@[go_sem] theorem rnp41 : Rn.pure 41 = true := rfl
@[go_sem] theorem rnf41 {x0 : D} : Rn.pf 41 [x0] = .b (wildB (str1 x0)) := rfl
@[go_sem] theorem rnp68 : Rn.pure 68 = true := rfl
@[go_sem] theorem rnf68 {x0 : D} : Rn.pf 68 [x0] = .b (freeB (str1 x0)) := rfl
@[go_sem] theorem rnp73 : Rn.pure 73 = true := rfl
@[go_sem] theorem rnf73 {x0 : D} : Rn.pf 73 [x0] = .b (freeB (str1 x0)) := rfl
@[go_sem] theorem rnp43 : Rn.pure 43 = true := rfl
@[go_sem] theorem rnf43 {x0 x1 : D} : Rn.pf 43 [x0, x1] = .b (less (dat1 x0) (dat1 x1)) := rfl
@[go_sem] theorem rnp37 : Rn.pure 37 = true := rfl
@[go_sem] theorem rnf37 {x0 x1 : D} : Rn.pf 37 [x0, x1] = .b (datOk (rule1 x0) (dat1 x1)) := rfl
@[go_sem] theorem rnp42 : Rn.pure 42 = true := rfl
@[go_sem] theorem rnf42 {x0 x1 : D} : Rn.pf 42 [x0, x1] = .b (rDatOk (int1 x0) (dat1 x1)) := rfl
@[go_sem] theorem rnp69 : Rn.pure 69 = true := rfl
@[go_sem] theorem rnf69 {x0 : D} : Rn.pf 69 [x0] = .i (orFrom (ints1 x0) 0) := rfl
@[go_sem] theorem rnp38 : Rn.pure 38 = true := rfl
@[go_sem] theorem rnf38 {x0 x1 : D} : Rn.pf 38 [x0, x1] = .i (datC (dat1 x0) (dat1 x1)) := rfl
@[go_sem] theorem rnp14 : Rn.pure 14 = true := rfl
@[go_sem] theorem rnf14 {x0 : D} : Rn.pf 14 [x0] = .b (setOk (set1 x0)) := rfl
@[go_sem] theorem rnp15 : Rn.pure 15 = true := rfl
@[go_sem] theorem rnf15 {x0 : D} : Rn.pf 15 [x0] = .b (setOk (set1 x0)) := rfl
@[go_sem] theorem rnp33 : Rn.pure 33 = true := rfl
@[go_sem] theorem rnf33 {x0 : D} : Rn.pf 33 [x0] = .b (singleB (int1 x0)) := rfl
@[go_sem] theorem rnp27 : Rn.pure 27 = true := rfl
@[go_sem] theorem rnf27 {x0 x1 : D} : Rn.pf 27 [x0, x1] = .i (plC (set1 x0) (set1 x1)) := rfl
@[go_sem] theorem rnp28 : Rn.pure 28 = true := rfl
@[go_sem] theorem rnf28 {x0 x1 : D} : Rn.pf 28 [x0, x1] = .i (rOrd (set1 x0) (set1 x1)) := rfl
@[go_sem] theorem rnp10 : Rn.pure 10 = true := rfl
@[go_sem] theorem rnf10 {x0 x1 : D} : Rn.pf 10 [x0, x1] = .tuple [.i (cmpF (set1 x0) (set1 x1)).1, .i (cmpF (set1 x0) (set1 x1)).2] := rfl
@[go_sem] theorem rnp11 : Rn.pure 11 = true := rfl
@[go_sem] theorem rnf11 {x0 x1 : D} : Rn.pf 11 [x0, x1] = .tuple [.i (cmpF (set1 x0) (set1 x1)).1, .i (cmpF (set1 x0) (set1 x1)).2] := rfl
@[go_sem] theorem rnp22 : Rn.pure 22 = true := rfl
@[go_sem] theorem rnf22 {x0 x1 : D} : Rn.pf 22 [x0, x1] = .b (sameB (set1 x0) (set1 x1)) := rfl
@[go_sem] theorem rnp16 : Rn.pure 16 = true := rfl
@[go_sem] theorem rnf16 {x0 x1 : D} : Rn.pf 16 [x0, x1] = .b (sameSetsB (sets1 x0) (sets1 x1)) := rfl
@[go_sem] theorem rnp9 : Rn.pure 9 = true := rfl
@[go_sem] theorem rnf9 {x0 : D} : Rn.pf 9 [x0] = .b (fewB (sets1 x0)) := rfl
@[go_sem] theorem rnp21 : Rn.pure 21 = true := rfl
@[go_sem] theorem rnf21 {x0 x1 : D} : Rn.pf 21 [x0, x1] = .b (sameStr (bytes1 x0) (bytes1 x1)) := rfl
@[go_sem] theorem rnp17 : Rn.pure 17 = true := rfl
@[go_sem] theorem rnf17 {x0 : D} : Rn.pf 17 [x0] = .tuple [.list false ((bytesF (set1 x0)).1.map bD), .i (bytesF (set1 x0)).2] := rfl
@[go_sem] theorem rnp19 : Rn.pure 19 = true := rfl
@[go_sem] theorem rnf19 {x0 : D} : Rn.pf 19 [x0] = .tuple [.agg (readF (bytes1 x0)).1.d, .i (readF (bytes1 x0)).2] := rfl
@[go_sem] theorem rnp31 : Rn.pure 31 = true := rfl
@[go_sem] theorem rnf31 {x0 : D} : Rn.pf 31 [x0] = .agg (uniteF (sets1 x0)).d := rfl
@[go_sem] theorem rnp12 : Rn.pure 12 = true := rfl
@[go_sem] theorem rnf12 {x0 : D} : Rn.pf 12 [x0] = .tuple [.list false ((mergeP (sets1 x0)).1.map RSet.d), .i (mergeP (sets1 x0)).2] := rfl
def RnB : Con := { Rn with bs := true }
@[go_sem] theorem rnB_p {k : FuncId} : RnB.pure k = Rn.pure k := rfl
@[go_sem] theorem rnB_f {k : FuncId} {xs : List D} : RnB.pf k xs = Rn.pf k xs := rfl
@[go_sem] theorem rnB_b : RnB.bs = true := rfl
@[go_sem] theorem rn_b : Rn.bs = false := rfl
end Go.Proofs.YtfggmgafjabbjaaDoor
