/-
  MADE BY A PROGRAM OF MINE: what the functions that leave memory alone give. Conditions: none.
-/
import Derived.Test.YtfggmgafjabbjaaDoorRec7
import Derived.Test.YtfggmgafjabbjaaDoorRcW11
namespace Go.Proofs.YtfggmgafjabbjaaDoor
open Go.DL Go.Str Go.Rec
def Ln : Con where
  pure := fun k => [147, 115, 100, 72, 71, 39, 66, 34, 117, 116, 93, 95, 62, 60, 35, 102, 40, 94, 103, 61, 70, 101, 67, 36, 41, 68, 73, 43, 37, 42, 69, 38, 14, 15, 33, 27, 28, 10, 11, 22, 16, 9, 21, 17, 19, 31, 12, 26, 8].contains k
  pf := fun k xs => match k, xs with
    | 147, [x0, x1] => .i (lastIx (str1 x0) (int1 x1))
    | 115, [x0, x1] => .i (lastIx (str1 x0) (int1 x1))
    | 100, [x0] => .b (labelOk (str1 x0))
    | 72, [x0] => .b (labelOk (str1 x0))
    | 71, [x0] => .list false ((splitF (str1 x0)).map sR)
    | 39, [x0] => .b (nameOk (str1 x0))
    | 66, [x0] => .b (nameOk (str1 x0))
    | 34, [x0] => .b (nameOk (str1 x0))
    | 117, [x0] => .list false ((partsOf (str1 x0)).map sR)
    | 116, [x0, x1] => .i (Go.Lib.compareBytes (str1 x0) (str1 x1))
    | 93, [x0, x1] => .i (Go.Lib.compareBytes (str1 x0) (str1 x1))
    | 95, [x0, x1] => .i (nmOrd (str1 x0) (str1 x1))
    | 62, [x0, x1] => .tuple [.i (if nameOk (str1 x0) && nameOk (str1 x1) then nmCmp (str1 x0) (str1 x1) else 0), .i (if nameOk (str1 x0) && nameOk (str1 x1) then 0 else 11)]
    | 60, [x0, x1] => .tuple [.i (if nameOk (str1 x0) && nameOk (str1 x1) then nmCmp (str1 x0) (str1 x1) else 0), .i (if nameOk (str1 x0) && nameOk (str1 x1) then 0 else 11)]
    | 35, [x0, x1, x2] => .b (inR (int1 x0) (int1 x1) (int1 x2))
    | 102, [x0, x1, x2] => .b (inR (int1 x0) (int1 x1) (int1 x2))
    | 40, [x0, x1, x2] => .b (inR (int1 x0) (int1 x1) (int1 x2))
    | 94, [x0] => .b ((int1 x0) != (int1 x0))
    | 103, [x0] => .b ((str1 x0) != (str1 x0))
    | 61, [x0, x1] => .i (cmpI (int1 x0) (int1 x1))
    | 70, [x0, x1] => .i (cmpS (str1 x0) (str1 x1))
    | 101, [x0, x1] => .b (hasPre (str1 x0) (str1 x1))
    | 67, [x0, x1] => .b (hasPre (str1 x0) (str1 x1))
    | 36, [x0] => .b (wildB (str1 x0))
    | 41, [x0] => .b (wildB (str1 x0))
    | 68, [x0] => .b (freeB (str1 x0))
    | 73, [x0] => .b (freeB (str1 x0))
    | 43, [x0, x1] => .b (less (dat1 x0) (dat1 x1))
    | 37, [x0, x1] => .b (datOk (rule1 x0) (dat1 x1))
    | 42, [x0, x1] => .b (rDatOk (int1 x0) (dat1 x1))
    | 69, [x0] => .i (orFrom (ints1 x0) 0)
    | 38, [x0, x1] => .i (datC (dat1 x0) (dat1 x1))
    | 14, [x0] => .b (setOk (set1 x0))
    | 15, [x0] => .b (setOk (set1 x0))
    | 33, [x0] => .b (singleB (int1 x0))
    | 27, [x0, x1] => .i (plC (set1 x0) (set1 x1))
    | 28, [x0, x1] => .i (rOrd (set1 x0) (set1 x1))
    | 10, [x0, x1] => .tuple [.i (cmpF (set1 x0) (set1 x1)).1, .i (cmpF (set1 x0) (set1 x1)).2]
    | 11, [x0, x1] => .tuple [.i (cmpF (set1 x0) (set1 x1)).1, .i (cmpF (set1 x0) (set1 x1)).2]
    | 22, [x0, x1] => .b (sameB (set1 x0) (set1 x1))
    | 16, [x0, x1] => .b (sameSetsB (sets1 x0) (sets1 x1))
    | 9, [x0] => .b (fewB (sets1 x0))
    | 21, [x0, x1] => .b (sameStr (bytes1 x0) (bytes1 x1))
    | 17, [x0] => .tuple [.list false ((bytesF (set1 x0)).1.map bD), .i (bytesF (set1 x0)).2]
    | 19, [x0] => .tuple [.agg (readF (bytes1 x0)).1.d, .i (readF (bytes1 x0)).2]
    | 31, [x0] => .agg (uniteF (sets1 x0)).d
    | 12, [x0] => .tuple [.list false ((mergeP (sets1 x0)).1.map RSet.d), .i (mergeP (sets1 x0)).2]
    | 26, [x0, x1] => .agg (addrF (int1 x0) (ints1 x1)).d
    | 8, [] => .b true
    | _, _ => .junk
@[go_sem] theorem lnp147 : Ln.pure 147 = true := rfl
@[go_sem] theorem lnf147 {x0 x1 : D} : Ln.pf 147 [x0, x1] = .i (lastIx (str1 x0) (int1 x1)) := rfl
@[go_sem] theorem lnp115 : Ln.pure 115 = true := rfl
@[go_sem] theorem lnf115 {x0 x1 : D} : Ln.pf 115 [x0, x1] = .i (lastIx (str1 x0) (int1 x1)) := rfl
@[go_sem] theorem lnp100 : Ln.pure 100 = true := rfl
@[go_sem] theorem lnf100 {x0 : D} : Ln.pf 100 [x0] = .b (labelOk (str1 x0)) := rfl
@[go_sem] theorem lnp72 : Ln.pure 72 = true := rfl
@[go_sem] theorem lnf72 {x0 : D} : Ln.pf 72 [x0] = .b (labelOk (str1 x0)) := rfl
@[go_sem] theorem lnp71 : Ln.pure 71 = true := rfl
@[go_sem] theorem lnf71 {x0 : D} : Ln.pf 71 [x0] = .list false ((splitF (str1 x0)).map sR) := rfl
@[go_sem] theorem lnp39 : Ln.pure 39 = true := rfl
@[go_sem] theorem lnf39 {x0 : D} : Ln.pf 39 [x0] = .b (nameOk (str1 x0)) := rfl
@[go_sem] theorem lnp66 : Ln.pure 66 = true := rfl
@[go_sem] theorem lnf66 {x0 : D} : Ln.pf 66 [x0] = .b (nameOk (str1 x0)) := rfl
@[go_sem] theorem lnp34 : Ln.pure 34 = true := rfl
@[go_sem] theorem lnf34 {x0 : D} : Ln.pf 34 [x0] = .b (nameOk (str1 x0)) := rfl
@[go_sem] theorem lnp117 : Ln.pure 117 = true := rfl
@[go_sem] theorem lnf117 {x0 : D} : Ln.pf 117 [x0] = .list false ((partsOf (str1 x0)).map sR) := rfl
@[go_sem] theorem lnp116 : Ln.pure 116 = true := rfl
@[go_sem] theorem lnf116 {x0 x1 : D} : Ln.pf 116 [x0, x1] = .i (Go.Lib.compareBytes (str1 x0) (str1 x1)) := rfl
@[go_sem] theorem lnp93 : Ln.pure 93 = true := rfl
@[go_sem] theorem lnf93 {x0 x1 : D} : Ln.pf 93 [x0, x1] = .i (Go.Lib.compareBytes (str1 x0) (str1 x1)) := rfl
@[go_sem] theorem lnp95 : Ln.pure 95 = true := rfl
@[go_sem] theorem lnf95 {x0 x1 : D} : Ln.pf 95 [x0, x1] = .i (nmOrd (str1 x0) (str1 x1)) := rfl
@[go_sem] theorem lnp62 : Ln.pure 62 = true := rfl
@[go_sem] theorem lnf62 {x0 x1 : D} : Ln.pf 62 [x0, x1] = .tuple [.i (if nameOk (str1 x0) && nameOk (str1 x1) then nmCmp (str1 x0) (str1 x1) else 0), .i (if nameOk (str1 x0) && nameOk (str1 x1) then 0 else 11)] := rfl
@[go_sem] theorem lnp60 : Ln.pure 60 = true := rfl
@[go_sem] theorem lnf60 {x0 x1 : D} : Ln.pf 60 [x0, x1] = .tuple [.i (if nameOk (str1 x0) && nameOk (str1 x1) then nmCmp (str1 x0) (str1 x1) else 0), .i (if nameOk (str1 x0) && nameOk (str1 x1) then 0 else 11)] := rfl
@[go_sem] theorem lnp35 : Ln.pure 35 = true := rfl
@[go_sem] theorem lnf35 {x0 x1 x2 : D} : Ln.pf 35 [x0, x1, x2] = .b (inR (int1 x0) (int1 x1) (int1 x2)) := rfl
@[go_sem] theorem lnp102 : Ln.pure 102 = true := rfl
@[go_sem] theorem lnf102 {x0 x1 x2 : D} : Ln.pf 102 [x0, x1, x2] = .b (inR (int1 x0) (int1 x1) (int1 x2)) := rfl
@[go_sem] theorem lnp40 : Ln.pure 40 = true := rfl
@[go_sem] theorem lnf40 {x0 x1 x2 : D} : Ln.pf 40 [x0, x1, x2] = .b (inR (int1 x0) (int1 x1) (int1 x2)) := rfl
@[go_sem] theorem lnp94 : Ln.pure 94 = true := rfl
@[go_sem] theorem lnf94 {x0 : D} : Ln.pf 94 [x0] = .b ((int1 x0) != (int1 x0)) := rfl
@[go_sem] theorem lnp103 : Ln.pure 103 = true := rfl
@[go_sem] theorem lnf103 {x0 : D} : Ln.pf 103 [x0] = .b ((str1 x0) != (str1 x0)) := rfl
@[go_sem] theorem lnp61 : Ln.pure 61 = true := rfl
@[go_sem] theorem lnf61 {x0 x1 : D} : Ln.pf 61 [x0, x1] = .i (cmpI (int1 x0) (int1 x1)) := rfl
@[go_sem] theorem lnp70 : Ln.pure 70 = true := rfl
@[go_sem] theorem lnf70 {x0 x1 : D} : Ln.pf 70 [x0, x1] = .i (cmpS (str1 x0) (str1 x1)) := rfl
@[go_sem] theorem lnp101 : Ln.pure 101 = true := rfl
@[go_sem] theorem lnf101 {x0 x1 : D} : Ln.pf 101 [x0, x1] = .b (hasPre (str1 x0) (str1 x1)) := rfl
@[go_sem] theorem lnp67 : Ln.pure 67 = true := rfl
@[go_sem] theorem lnf67 {x0 x1 : D} : Ln.pf 67 [x0, x1] = .b (hasPre (str1 x0) (str1 x1)) := rfl
@[go_sem] theorem lnp36 : Ln.pure 36 = true := rfl
@[go_sem] theorem lnf36 {x0 : D} : Ln.pf 36 [x0] = .b (wildB (str1 x0)) := rfl
@[go_sem] theorem lnp41 : Ln.pure 41 = true := rfl
@[go_sem] theorem lnf41 {x0 : D} : Ln.pf 41 [x0] = .b (wildB (str1 x0)) := rfl
@[go_sem] theorem lnp68 : Ln.pure 68 = true := rfl
@[go_sem] theorem lnf68 {x0 : D} : Ln.pf 68 [x0] = .b (freeB (str1 x0)) := rfl
@[go_sem] theorem lnp73 : Ln.pure 73 = true := rfl
@[go_sem] theorem lnf73 {x0 : D} : Ln.pf 73 [x0] = .b (freeB (str1 x0)) := rfl
@[go_sem] theorem lnp43 : Ln.pure 43 = true := rfl
@[go_sem] theorem lnf43 {x0 x1 : D} : Ln.pf 43 [x0, x1] = .b (less (dat1 x0) (dat1 x1)) := rfl
@[go_sem] theorem lnp37 : Ln.pure 37 = true := rfl
@[go_sem] theorem lnf37 {x0 x1 : D} : Ln.pf 37 [x0, x1] = .b (datOk (rule1 x0) (dat1 x1)) := rfl
@[go_sem] theorem lnp42 : Ln.pure 42 = true := rfl
@[go_sem] theorem lnf42 {x0 x1 : D} : Ln.pf 42 [x0, x1] = .b (rDatOk (int1 x0) (dat1 x1)) := rfl
@[go_sem] theorem lnp69 : Ln.pure 69 = true := rfl
@[go_sem] theorem lnf69 {x0 : D} : Ln.pf 69 [x0] = .i (orFrom (ints1 x0) 0) := rfl
@[go_sem] theorem lnp38 : Ln.pure 38 = true := rfl
@[go_sem] theorem lnf38 {x0 x1 : D} : Ln.pf 38 [x0, x1] = .i (datC (dat1 x0) (dat1 x1)) := rfl
@[go_sem] theorem lnp14 : Ln.pure 14 = true := rfl
@[go_sem] theorem lnf14 {x0 : D} : Ln.pf 14 [x0] = .b (setOk (set1 x0)) := rfl
@[go_sem] theorem lnp15 : Ln.pure 15 = true := rfl
@[go_sem] theorem lnf15 {x0 : D} : Ln.pf 15 [x0] = .b (setOk (set1 x0)) := rfl
@[go_sem] theorem lnp33 : Ln.pure 33 = true := rfl
@[go_sem] theorem lnf33 {x0 : D} : Ln.pf 33 [x0] = .b (singleB (int1 x0)) := rfl
@[go_sem] theorem lnp27 : Ln.pure 27 = true := rfl
@[go_sem] theorem lnf27 {x0 x1 : D} : Ln.pf 27 [x0, x1] = .i (plC (set1 x0) (set1 x1)) := rfl
@[go_sem] theorem lnp28 : Ln.pure 28 = true := rfl
@[go_sem] theorem lnf28 {x0 x1 : D} : Ln.pf 28 [x0, x1] = .i (rOrd (set1 x0) (set1 x1)) := rfl
@[go_sem] theorem lnp10 : Ln.pure 10 = true := rfl
@[go_sem] theorem lnf10 {x0 x1 : D} : Ln.pf 10 [x0, x1] = .tuple [.i (cmpF (set1 x0) (set1 x1)).1, .i (cmpF (set1 x0) (set1 x1)).2] := rfl
@[go_sem] theorem lnp11 : Ln.pure 11 = true := rfl
@[go_sem] theorem lnf11 {x0 x1 : D} : Ln.pf 11 [x0, x1] = .tuple [.i (cmpF (set1 x0) (set1 x1)).1, .i (cmpF (set1 x0) (set1 x1)).2] := rfl
@[go_sem] theorem lnp22 : Ln.pure 22 = true := rfl
@[go_sem] theorem lnf22 {x0 x1 : D} : Ln.pf 22 [x0, x1] = .b (sameB (set1 x0) (set1 x1)) := rfl
@[go_sem] theorem lnp16 : Ln.pure 16 = true := rfl
@[go_sem] theorem lnf16 {x0 x1 : D} : Ln.pf 16 [x0, x1] = .b (sameSetsB (sets1 x0) (sets1 x1)) := rfl
@[go_sem] theorem lnp9 : Ln.pure 9 = true := rfl
@[go_sem] theorem lnf9 {x0 : D} : Ln.pf 9 [x0] = .b (fewB (sets1 x0)) := rfl
@[go_sem] theorem lnp21 : Ln.pure 21 = true := rfl
@[go_sem] theorem lnf21 {x0 x1 : D} : Ln.pf 21 [x0, x1] = .b (sameStr (bytes1 x0) (bytes1 x1)) := rfl
@[go_sem] theorem lnp17 : Ln.pure 17 = true := rfl
@[go_sem] theorem lnf17 {x0 : D} : Ln.pf 17 [x0] = .tuple [.list false ((bytesF (set1 x0)).1.map bD), .i (bytesF (set1 x0)).2] := rfl
@[go_sem] theorem lnp19 : Ln.pure 19 = true := rfl
@[go_sem] theorem lnf19 {x0 : D} : Ln.pf 19 [x0] = .tuple [.agg (readF (bytes1 x0)).1.d, .i (readF (bytes1 x0)).2] := rfl
@[go_sem] theorem lnp31 : Ln.pure 31 = true := rfl
@[go_sem] theorem lnf31 {x0 : D} : Ln.pf 31 [x0] = .agg (uniteF (sets1 x0)).d := rfl
@[go_sem] theorem lnp12 : Ln.pure 12 = true := rfl
@[go_sem] theorem lnf12 {x0 : D} : Ln.pf 12 [x0] = .tuple [.list false ((mergeP (sets1 x0)).1.map RSet.d), .i (mergeP (sets1 x0)).2] := rfl
@[go_sem] theorem lnp26 : Ln.pure 26 = true := rfl
@[go_sem] theorem lnf26 {x0 x1 : D} : Ln.pf 26 [x0, x1] = .agg (addrF (int1 x0) (ints1 x1)).d := rfl
@[go_sem] theorem lnp8 : Ln.pure 8 = true := rfl
@[go_sem] theorem lnf8 : Ln.pf 8 [] = .b true := rfl
def LnB : Con := { Ln with bs := true }
@[go_sem] theorem lnB_p {k : FuncId} : LnB.pure k = Ln.pure k := rfl
@[go_sem] theorem lnB_f {k : FuncId} {xs : List D} : LnB.pf k xs = Ln.pf k xs := rfl
@[go_sem] theorem lnB_b : LnB.bs = true := rfl
@[go_sem] theorem ln_b : Ln.bs = false := rfl
end Go.Proofs.YtfggmgafjabbjaaDoor
