/-
  MADE BY A PROGRAM OF MINE: what the functions that leave memory alone give. Conditions: none.
-/
import Derived.Test.YtfcdbijmoiegiaaSpanLaw
import Derived.Test.YtfcdbijmoiegiaaTypes
namespace Go.Proofs.Ytfcdbijmoiegiaa
open Go.DL Go.Span
def Cn : Con where
  pure := fun k => [22, 23, 10, 42, 33, 12, 36, 37, 15, 39, 17, 41, 19, 21, 25, 13, 28, 47, 31, 30, 32, 11, 61, 44, 49, 43, 24, 35, 38, 40, 48, 26, 20, 34, 9, 14, 16, 18].contains k
  pf := fun k xs => match k, xs with
    | 22, [x0] => .b (valid (sps x0))
    | 23, [x0] => .b (rvalid (sps x0))
    | 10, [x0] => .b (rfew (sps x0))
    | 42, [x0, x1] => .list false ((with1 (sps x0) (sp1 x1)).map Sp.d)
    | 33, [x0] => .list false ((rall (sps x0)).map Sp.d)
    | 12, [x0] => .tuple [.list false ((rnormal (sps x0)).1.map Sp.d), .i (rnormal (sps x0)).2]
    | 36, [x0] => .tuple [.list false ((rlimited (sps x0)).1.map Sp.d), .i (rlimited (sps x0)).2]
    | 37, [x0, x1] => .list false ((reither (sps x0) (sps x1)).map Sp.d)
    | 15, [x0, x1] => .tuple [.list false ((runion (sps x0) (sps x1)).1.map Sp.d), .i (runion (sps x0) (sps x1)).2]
    | 39, [x0, x1] => .list false ((rboth (sps x0) (sps x1)).map Sp.d)
    | 17, [x0, x1] => .tuple [.list false ((rcross (sps x0) (sps x1)).1.map Sp.d), .i (rcross (sps x0) (sps x1)).2]
    | 41, [x0] => .list false ((rnot (sps x0)).map Sp.d)
    | 19, [x0, x1] => .tuple [.list false ((rminus (sps x0) (sps x1)).1.map Sp.d), .i (rminus (sps x0) (sps x1)).2]
    | 21, [x0, x1, x2] => .tuple [.list false ((rgrow (sps x0) (int1 x1) (int1 x2)).1.map Sp.d), .i (rgrow (sps x0) (int1 x1) (int1 x2)).2]
    | 25, [x0, x1] => .b (rhas (sps x0) (int1 x1))
    | 13, [x0, x1] => .b (rsame (sps x0) (sps x1))
    | 28, [x0] => .b (lt1 (sp1 x0))
    | 47, [x0] => .b ((int1 x0) != (int1 x0))
    | 31, [x0, x1] => .i (cmpI (int1 x0) (int1 x1))
    | 30, [x0, x1] => .i (cmpI ((sp1 x0)).a ((sp1 x1)).a)
    | 32, [x0] => .list false ((united (sps x0)).map Sp.d)
    | 11, [x0] => .tuple [.list false ((rnormal (sps x0)).1.map Sp.d), .i (rnormal (sps x0)).2]
    | 61, [x0] => .list false ((flatL (sps x0)).map iD)
    | 44, [x0, x1] => .b (has1 (sp1 x0) (ptrT x1))
    | 49, [x0, x1] => .i (idxFrom (sps x0) (hasT x1) 0)
    | 43, [x0, x1] => .b (rhas (sps x0) (hasT x1))
    | 24, [x0, x1] => .b (rhas (sps x0) (int1 x1))
    | 35, [x0, x1] => .b (cnt 35 (bool1 x0) (bool1 x1))
    | 38, [x0, x1] => .b (cnt 38 (bool1 x0) (bool1 x1))
    | 40, [x0, x1] => .b (cnt 40 (bool1 x0) (bool1 x1))
    | 48, [x0, x1] => .fn (.func 60) [] [.eptr [.list false ((sps x0).map Sp.d)], .eptr [.list false ((sps x1).map Sp.d)]]
    | 26, [x0] => .list false ((spans (ints x0)).map Sp.d)
    | 20, [x0, x1, x2] => .tuple [.list false ((rgrow (sps x0) (int1 x1) (int1 x2)).1.map Sp.d), .i (rgrow (sps x0) (int1 x1) (int1 x2)).2]
    | 34, [x0, x1, x2] => .tuple [.list false ((swept (fnNo x2) (sps x0) (sps x1)).1.map Sp.d), .i (swept (fnNo x2) (sps x0) (sps x1)).2]
    | 9, [] => .b true
    | 14, [x0, x1] => .tuple [.list false ((runion (sps x0) (sps x1)).1.map Sp.d), .i (runion (sps x0) (sps x1)).2]
    | 16, [x0, x1] => .tuple [.list false ((rcross (sps x0) (sps x1)).1.map Sp.d), .i (rcross (sps x0) (sps x1)).2]
    | 18, [x0, x1] => .tuple [.list false ((rminus (sps x0) (sps x1)).1.map Sp.d), .i (rminus (sps x0) (sps x1)).2]
    | _, _ => .junk
@[go_sem] theorem cp22 : Cn.pure 22 = true := rfl
@[go_sem] theorem cf22 {x0 : D} : Cn.pf 22 [x0] = .b (valid (sps x0)) := rfl
@[go_sem] theorem cp23 : Cn.pure 23 = true := rfl
@[go_sem] theorem cf23 {x0 : D} : Cn.pf 23 [x0] = .b (rvalid (sps x0)) := rfl
@[go_sem] theorem cp10 : Cn.pure 10 = true := rfl
@[go_sem] theorem cf10 {x0 : D} : Cn.pf 10 [x0] = .b (rfew (sps x0)) := rfl
@[go_sem] theorem cp42 : Cn.pure 42 = true := rfl
@[go_sem] theorem cf42 {x0 x1 : D} : Cn.pf 42 [x0, x1] = .list false ((with1 (sps x0) (sp1 x1)).map Sp.d) := rfl
@[go_sem] theorem cp33 : Cn.pure 33 = true := rfl
@[go_sem] theorem cf33 {x0 : D} : Cn.pf 33 [x0] = .list false ((rall (sps x0)).map Sp.d) := rfl
@[go_sem] theorem cp12 : Cn.pure 12 = true := rfl
@[go_sem] theorem cf12 {x0 : D} : Cn.pf 12 [x0] = .tuple [.list false ((rnormal (sps x0)).1.map Sp.d), .i (rnormal (sps x0)).2] := rfl
@[go_sem] theorem cp36 : Cn.pure 36 = true := rfl
@[go_sem] theorem cf36 {x0 : D} : Cn.pf 36 [x0] = .tuple [.list false ((rlimited (sps x0)).1.map Sp.d), .i (rlimited (sps x0)).2] := rfl
@[go_sem] theorem cp37 : Cn.pure 37 = true := rfl
@[go_sem] theorem cf37 {x0 x1 : D} : Cn.pf 37 [x0, x1] = .list false ((reither (sps x0) (sps x1)).map Sp.d) := rfl
@[go_sem] theorem cp15 : Cn.pure 15 = true := rfl
@[go_sem] theorem cf15 {x0 x1 : D} : Cn.pf 15 [x0, x1] = .tuple [.list false ((runion (sps x0) (sps x1)).1.map Sp.d), .i (runion (sps x0) (sps x1)).2] := rfl
@[go_sem] theorem cp39 : Cn.pure 39 = true := rfl
@[go_sem] theorem cf39 {x0 x1 : D} : Cn.pf 39 [x0, x1] = .list false ((rboth (sps x0) (sps x1)).map Sp.d) := rfl
@[go_sem] theorem cp17 : Cn.pure 17 = true := rfl
@[go_sem] theorem cf17 {x0 x1 : D} : Cn.pf 17 [x0, x1] = .tuple [.list false ((rcross (sps x0) (sps x1)).1.map Sp.d), .i (rcross (sps x0) (sps x1)).2] := rfl
@[go_sem] theorem cp41 : Cn.pure 41 = true := rfl
@[go_sem] theorem cf41 {x0 : D} : Cn.pf 41 [x0] = .list false ((rnot (sps x0)).map Sp.d) := rfl
@[go_sem] theorem cp19 : Cn.pure 19 = true := rfl
@[go_sem] theorem cf19 {x0 x1 : D} : Cn.pf 19 [x0, x1] = .tuple [.list false ((rminus (sps x0) (sps x1)).1.map Sp.d), .i (rminus (sps x0) (sps x1)).2] := rfl
@[go_sem] theorem cp21 : Cn.pure 21 = true := rfl
@[go_sem] theorem cf21 {x0 x1 x2 : D} : Cn.pf 21 [x0, x1, x2] = .tuple [.list false ((rgrow (sps x0) (int1 x1) (int1 x2)).1.map Sp.d), .i (rgrow (sps x0) (int1 x1) (int1 x2)).2] := rfl
@[go_sem] theorem cp25 : Cn.pure 25 = true := rfl
@[go_sem] theorem cf25 {x0 x1 : D} : Cn.pf 25 [x0, x1] = .b (rhas (sps x0) (int1 x1)) := rfl
@[go_sem] theorem cp13 : Cn.pure 13 = true := rfl
@[go_sem] theorem cf13 {x0 x1 : D} : Cn.pf 13 [x0, x1] = .b (rsame (sps x0) (sps x1)) := rfl
@[go_sem] theorem cp28 : Cn.pure 28 = true := rfl
@[go_sem] theorem cf28 {x0 : D} : Cn.pf 28 [x0] = .b (lt1 (sp1 x0)) := rfl
@[go_sem] theorem cp47 : Cn.pure 47 = true := rfl
@[go_sem] theorem cf47 {x0 : D} : Cn.pf 47 [x0] = .b ((int1 x0) != (int1 x0)) := rfl
@[go_sem] theorem cp31 : Cn.pure 31 = true := rfl
@[go_sem] theorem cf31 {x0 x1 : D} : Cn.pf 31 [x0, x1] = .i (cmpI (int1 x0) (int1 x1)) := rfl
@[go_sem] theorem cp30 : Cn.pure 30 = true := rfl
@[go_sem] theorem cf30 {x0 x1 : D} : Cn.pf 30 [x0, x1] = .i (cmpI ((sp1 x0)).a ((sp1 x1)).a) := rfl
@[go_sem] theorem cp32 : Cn.pure 32 = true := rfl
@[go_sem] theorem cf32 {x0 : D} : Cn.pf 32 [x0] = .list false ((united (sps x0)).map Sp.d) := rfl
@[go_sem] theorem cp11 : Cn.pure 11 = true := rfl
@[go_sem] theorem cf11 {x0 : D} : Cn.pf 11 [x0] = .tuple [.list false ((rnormal (sps x0)).1.map Sp.d), .i (rnormal (sps x0)).2] := rfl
@[go_sem] theorem cp61 : Cn.pure 61 = true := rfl
@[go_sem] theorem cf61 {x0 : D} : Cn.pf 61 [x0] = .list false ((flatL (sps x0)).map iD) := rfl
@[go_sem] theorem cp44 : Cn.pure 44 = true := rfl
@[go_sem] theorem cf44 {x0 x1 : D} : Cn.pf 44 [x0, x1] = .b (has1 (sp1 x0) (ptrT x1)) := rfl
@[go_sem] theorem cp49 : Cn.pure 49 = true := rfl
@[go_sem] theorem cf49 {x0 x1 : D} : Cn.pf 49 [x0, x1] = .i (idxFrom (sps x0) (hasT x1) 0) := rfl
@[go_sem] theorem cp43 : Cn.pure 43 = true := rfl
@[go_sem] theorem cf43 {x0 x1 : D} : Cn.pf 43 [x0, x1] = .b (rhas (sps x0) (hasT x1)) := rfl
@[go_sem] theorem cp24 : Cn.pure 24 = true := rfl
@[go_sem] theorem cf24 {x0 x1 : D} : Cn.pf 24 [x0, x1] = .b (rhas (sps x0) (int1 x1)) := rfl
@[go_sem] theorem cp35 : Cn.pure 35 = true := rfl
@[go_sem] theorem cf35 {x0 x1 : D} : Cn.pf 35 [x0, x1] = .b (cnt 35 (bool1 x0) (bool1 x1)) := rfl
@[go_sem] theorem cp38 : Cn.pure 38 = true := rfl
@[go_sem] theorem cf38 {x0 x1 : D} : Cn.pf 38 [x0, x1] = .b (cnt 38 (bool1 x0) (bool1 x1)) := rfl
@[go_sem] theorem cp40 : Cn.pure 40 = true := rfl
@[go_sem] theorem cf40 {x0 x1 : D} : Cn.pf 40 [x0, x1] = .b (cnt 40 (bool1 x0) (bool1 x1)) := rfl
@[go_sem] theorem cp48 : Cn.pure 48 = true := rfl
@[go_sem] theorem cf48 {x0 x1 : D} : Cn.pf 48 [x0, x1] = .fn (.func 60) [] [.eptr [.list false ((sps x0).map Sp.d)], .eptr [.list false ((sps x1).map Sp.d)]] := rfl
@[go_sem] theorem cp26 : Cn.pure 26 = true := rfl
@[go_sem] theorem cf26 {x0 : D} : Cn.pf 26 [x0] = .list false ((spans (ints x0)).map Sp.d) := rfl
@[go_sem] theorem cp20 : Cn.pure 20 = true := rfl
@[go_sem] theorem cf20 {x0 x1 x2 : D} : Cn.pf 20 [x0, x1, x2] = .tuple [.list false ((rgrow (sps x0) (int1 x1) (int1 x2)).1.map Sp.d), .i (rgrow (sps x0) (int1 x1) (int1 x2)).2] := rfl
@[go_sem] theorem cp34 : Cn.pure 34 = true := rfl
@[go_sem] theorem cf34 {x0 x1 x2 : D} : Cn.pf 34 [x0, x1, x2] = .tuple [.list false ((swept (fnNo x2) (sps x0) (sps x1)).1.map Sp.d), .i (swept (fnNo x2) (sps x0) (sps x1)).2] := rfl
@[go_sem] theorem cp9 : Cn.pure 9 = true := rfl
@[go_sem] theorem cf9 : Cn.pf 9 [] = .b true := rfl
@[go_sem] theorem cp14 : Cn.pure 14 = true := rfl
@[go_sem] theorem cf14 {x0 x1 : D} : Cn.pf 14 [x0, x1] = .tuple [.list false ((runion (sps x0) (sps x1)).1.map Sp.d), .i (runion (sps x0) (sps x1)).2] := rfl
@[go_sem] theorem cp16 : Cn.pure 16 = true := rfl
@[go_sem] theorem cf16 {x0 x1 : D} : Cn.pf 16 [x0, x1] = .tuple [.list false ((rcross (sps x0) (sps x1)).1.map Sp.d), .i (rcross (sps x0) (sps x1)).2] := rfl
@[go_sem] theorem cp18 : Cn.pure 18 = true := rfl
@[go_sem] theorem cf18 {x0 x1 : D} : Cn.pf 18 [x0, x1] = .tuple [.list false ((rminus (sps x0) (sps x1)).1.map Sp.d), .i (rminus (sps x0) (sps x1)).2] := rfl
end Go.Proofs.Ytfcdbijmoiegiaa
