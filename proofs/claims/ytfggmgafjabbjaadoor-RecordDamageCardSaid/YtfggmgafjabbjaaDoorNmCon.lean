/-
  MADE BY A PROGRAM OF MINE: what the functions that leave memory alone give. Conditions: none.
-/
import Derived.Test.YtfggmgafjabbjaaDoorStr
import Derived.Test.YtfggmgafjabbjaaDoorTypes
namespace Go.Proofs.YtfggmgafjabbjaaDoor
open Go.DL Go.Str
def Cn : Con where
  pure := fun k => [147, 115, 100, 72, 71, 39, 66, 34, 117, 116, 93, 95, 62, 60].contains k
  pf := fun k xs => match k, xs with
    | 147, [x0, x1] => .i (lastIx (str1 x0) (int1 x1))
    | 115, [x0, x1] => .i (lastIx (str1 x0) (int1 x1))
    | 100, [x0] => .b (labelOk (str1 x0))
    | 72, [x0] => .b (labelOk (str1 x0))
    | 71, [x0] => .list false ((splitF (str1 x0)).map sR)
    | 39, [x0] => .b (nameOk (str1 x0))
    | 66, [x0] => .b (nameOk (str1 x0))
    | 34, [x0] => .b (nameOk (str1 x0))
    | 117, [x0] => .list false ((partsOf (str1 x0)).map sR)
    | 116, [x0, x1] => .i (Go.Lib.compareBytes (str1 x0) (str1 x1))
    | 93, [x0, x1] => .i (Go.Lib.compareBytes (str1 x0) (str1 x1))
    | 95, [x0, x1] => .i (nmOrd (str1 x0) (str1 x1))
    | 62, [x0, x1] => .tuple [.i (if nameOk (str1 x0) && nameOk (str1 x1) then nmCmp (str1 x0) (str1 x1) else 0), .i (if nameOk (str1 x0) && nameOk (str1 x1) then 0 else 11)]
    | 60, [x0, x1] => .tuple [.i (if nameOk (str1 x0) && nameOk (str1 x1) then nmCmp (str1 x0) (str1 x1) else 0), .i (if nameOk (str1 x0) && nameOk (str1 x1) then 0 else 11)]
    | _, _ => .junk
@[go_sem] theorem cnp147 : Cn.pure 147 = true := rfl
@[go_sem] theorem cnf147 {x0 x1 : D} : Cn.pf 147 [x0, x1] = .i (lastIx (str1 x0) (int1 x1)) := rfl
@[go_sem] theorem cnp115 : Cn.pure 115 = true := rfl
@[go_sem] theorem cnf115 {x0 x1 : D} : Cn.pf 115 [x0, x1] = .i (lastIx (str1 x0) (int1 x1)) := rfl
@[go_sem] theorem cnp100 : Cn.pure 100 = true := rfl
@[go_sem] theorem cnf100 {x0 : D} : Cn.pf 100 [x0] = .b (labelOk (str1 x0)) := rfl
@[go_sem] theorem cnp72 : Cn.pure 72 = true := rfl
@[go_sem] theorem cnf72 {x0 : D} : Cn.pf 72 [x0] = .b (labelOk (str1 x0)) := rfl
@[go_sem] theorem cnp71 : Cn.pure 71 = true := rfl
@[go_sem] theorem cnf71 {x0 : D} : Cn.pf 71 [x0] = .list false ((splitF (str1 x0)).map sR) := rfl
@[go_sem] theorem cnp39 : Cn.pure 39 = true := rfl
@[go_sem] theorem cnf39 {x0 : D} : Cn.pf 39 [x0] = .b (nameOk (str1 x0)) := rfl
@[go_sem] theorem cnp66 : Cn.pure 66 = true := rfl
@[go_sem] theorem cnf66 {x0 : D} : Cn.pf 66 [x0] = .b (nameOk (str1 x0)) := rfl
@[go_sem] theorem cnp34 : Cn.pure 34 = true := rfl
@[go_sem] theorem cnf34 {x0 : D} : Cn.pf 34 [x0] = .b (nameOk (str1 x0)) := rfl
@[go_sem] theorem cnp117 : Cn.pure 117 = true := rfl
@[go_sem] theorem cnf117 {x0 : D} : Cn.pf 117 [x0] = .list false ((partsOf (str1 x0)).map sR) := rfl
@[go_sem] theorem cnp116 : Cn.pure 116 = true := rfl
@[go_sem] theorem cnf116 {x0 x1 : D} : Cn.pf 116 [x0, x1] = .i (Go.Lib.compareBytes (str1 x0) (str1 x1)) := rfl
@[go_sem] theorem cnp93 : Cn.pure 93 = true := rfl
@[go_sem] theorem cnf93 {x0 x1 : D} : Cn.pf 93 [x0, x1] = .i (Go.Lib.compareBytes (str1 x0) (str1 x1)) := rfl
@[go_sem] theorem cnp95 : Cn.pure 95 = true := rfl
@[go_sem] theorem cnf95 {x0 x1 : D} : Cn.pf 95 [x0, x1] = .i (nmOrd (str1 x0) (str1 x1)) := rfl
@[go_sem] theorem cnp62 : Cn.pure 62 = true := rfl
@[go_sem] theorem cnf62 {x0 x1 : D} : Cn.pf 62 [x0, x1] = .tuple [.i (if nameOk (str1 x0) && nameOk (str1 x1) then nmCmp (str1 x0) (str1 x1) else 0), .i (if nameOk (str1 x0) && nameOk (str1 x1) then 0 else 11)] := rfl
@[go_sem] theorem cnp60 : Cn.pure 60 = true := rfl
@[go_sem] theorem cnf60 {x0 x1 : D} : Cn.pf 60 [x0, x1] = .tuple [.i (if nameOk (str1 x0) && nameOk (str1 x1) then nmCmp (str1 x0) (str1 x1) else 0), .i (if nameOk (str1 x0) && nameOk (str1 x1) then 0 else 11)] := rfl
def CnB : Con := { Cn with bs := true }
@[go_sem] theorem cnB_p {k : FuncId} : CnB.pure k = Cn.pure k := rfl
@[go_sem] theorem cnB_f {k : FuncId} {xs : List D} : CnB.pf k xs = Cn.pf k xs := rfl
@[go_sem] theorem cnB_b : CnB.bs = true := rfl
@[go_sem] theorem cn_b : Cn.bs = false := rfl
end Go.Proofs.YtfggmgafjabbjaaDoor
