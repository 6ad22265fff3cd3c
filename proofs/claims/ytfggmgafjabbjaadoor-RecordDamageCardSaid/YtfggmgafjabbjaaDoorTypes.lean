/-
  MADE BY A PROGRAM OF MINE: closed facts on the types of the translation. Conditions: none.
-/
import Derived.Test.YtfggmgafjabbjaaDoorProg
import Derived.Test.YtfggmgafjabbjaaDoorDSimp
import Derived.KernelRfl
namespace Go.Proofs.YtfggmgafjabbjaaDoor
open Go.DL
def rulesTab : List Value := [.int .i64 0, .int .i64 0, .int .i64 0, .int .i64 0, .int .i64 0, .bool false, .bool false, .bool false, .int .i64 0, .int .i64 1, .int .i64 1000000, .int .i64 0, .int .i64 0, .bool false, .bool false, .bool true, .int .i64 1, .int .i64 0, .int .i64 0, .int .i64 0, .int .i64 0, .bool false, .bool false, .bool false, .int .i64 1, .int .i64 0, .int .i64 0, .int .i64 0, .int .i64 0, .bool false, .bool true, .bool false, .int .i64 0, .int .i64 0, .int .i64 65535, .int .i64 0, .int .i64 100000, .bool false, .bool true, .bool false, .int .i64 3, .int .i64 0, .int .i64 0, .int .i64 0, .int .i64 0, .bool false, .bool false, .bool true, .int .i64 0, .int .i64 1, .int .i64 1000000, .int .i64 1, .int .i64 3, .bool false, .bool false, .bool false, .int .i64 0, .int .i64 1, .int .i64 1000000, .int .i64 1, .int .i64 3, .bool false, .bool false, .bool false, .int .i64 2, .int .i64 2, .int .i64 510, .int .i64 0, .int .i64 0, .bool true, .bool false, .bool true]
instance : Glob Tryd.prog := ⟨fun x => match x with | 0 => some rulesTab | _ => none⟩
theorem glob0 : Glob.tab Tryd.prog 0 = some rulesTab := rfl
theorem mix : Tryd.prog.follows .mixedOrders = true := by kernel_rfl
/- func() -/
@[go_sem] theorem ag1 : aggB Tryd.prog 1 = false := by kernel_rfl
@[go_sem] theorem ce1 : Tryd.prog.cellsOf 1 = 1 := by kernel_rfl
@[go_sem] theorem by1 : Tryd.prog.bytesOf 1 = 8 := by kernel_rfl
@[go_sem] theorem ze1 : zeroCells Tryd.prog 1 = [.v .nilFunc] := by kernel_rfl
@[go_sem] theorem zl1 : zeroLen Tryd.prog 1 = true := by kernel_rfl
@[go_sem] theorem un1 : (Tryd.prog.underlying 1).isSome = true := by kernel_rfl
/- int64 -/
@[go_sem] theorem ag2 : aggB Tryd.prog 2 = false := by kernel_rfl
@[go_sem] theorem ce2 : Tryd.prog.cellsOf 2 = 1 := by kernel_rfl
@[go_sem] theorem by2 : Tryd.prog.bytesOf 2 = 8 := by kernel_rfl
@[go_sem] theorem ze2 : zeroCells Tryd.prog 2 = [.v (.int .i64 0)] := by kernel_rfl
@[go_sem] theorem zl2 : zeroLen Tryd.prog 2 = true := by kernel_rfl
@[go_sem] theorem un2 : Tryd.prog.underlying 2 = some (.int .i64) := by kernel_rfl
/- int -/
@[go_sem] theorem ag3 : aggB Tryd.prog 3 = false := by kernel_rfl
@[go_sem] theorem ce3 : Tryd.prog.cellsOf 3 = 1 := by kernel_rfl
@[go_sem] theorem by3 : Tryd.prog.bytesOf 3 = 8 := by kernel_rfl
@[go_sem] theorem ze3 : zeroCells Tryd.prog 3 = [.v (.int .i64 0)] := by kernel_rfl
@[go_sem] theorem zl3 : zeroLen Tryd.prog 3 = true := by kernel_rfl
@[go_sem] theorem un3 : Tryd.prog.underlying 3 = some (.int .i64) := by kernel_rfl
/- bool -/
@[go_sem] theorem ag4 : aggB Tryd.prog 4 = false := by kernel_rfl
@[go_sem] theorem ce4 : Tryd.prog.cellsOf 4 = 1 := by kernel_rfl
@[go_sem] theorem by4 : Tryd.prog.bytesOf 4 = 1 := by kernel_rfl
@[go_sem] theorem ze4 : zeroCells Tryd.prog 4 = [.v (.bool false)] := by kernel_rfl
@[go_sem] theorem zl4 : zeroLen Tryd.prog 4 = true := by kernel_rfl
@[go_sem] theorem un4 : Tryd.prog.underlying 4 = some .bool := by kernel_rfl
/- uint8 -/
@[go_sem] theorem ag5 : aggB Tryd.prog 5 = false := by kernel_rfl
@[go_sem] theorem ce5 : Tryd.prog.cellsOf 5 = 1 := by kernel_rfl
@[go_sem] theorem by5 : Tryd.prog.bytesOf 5 = 1 := by kernel_rfl
@[go_sem] theorem ze5 : zeroCells Tryd.prog 5 = [.v (.int .u8 0)] := by kernel_rfl
@[go_sem] theorem zl5 : zeroLen Tryd.prog 5 = true := by kernel_rfl
@[go_sem] theorem un5 : Tryd.prog.underlying 5 = some (.int .u8) := by kernel_rfl
/- string -/
@[go_sem] theorem ag9 : aggB Tryd.prog 9 = false := by kernel_rfl
@[go_sem] theorem ce9 : Tryd.prog.cellsOf 9 = 1 := by kernel_rfl
@[go_sem] theorem by9 : Tryd.prog.bytesOf 9 = 16 := by kernel_rfl
@[go_sem] theorem ze9 : zeroCells Tryd.prog 9 = [.v (.string ⟨⟨[]⟩⟩)] := by kernel_rfl
@[go_sem] theorem zl9 : zeroLen Tryd.prog 9 = true := by kernel_rfl
@[go_sem] theorem un9 : Tryd.prog.underlying 9 = some .string := by kernel_rfl
/- uintptr -/
@[go_sem] theorem ag12 : aggB Tryd.prog 12 = false := by kernel_rfl
@[go_sem] theorem ce12 : Tryd.prog.cellsOf 12 = 1 := by kernel_rfl
@[go_sem] theorem by12 : Tryd.prog.bytesOf 12 = 8 := by kernel_rfl
@[go_sem] theorem ze12 : zeroCells Tryd.prog 12 = [.v (.int .u64 0)] := by kernel_rfl
@[go_sem] theorem zl12 : zeroLen Tryd.prog 12 = true := by kernel_rfl
@[go_sem] theorem un12 : Tryd.prog.underlying 12 = some (.int .u64) := by kernel_rfl
/- struct { msg string; addr uintptr } -/
@[go_sem] theorem ag13 : aggB Tryd.prog 13 = true := by kernel_rfl
@[go_sem] theorem ce13 : Tryd.prog.cellsOf 13 = 2 := by kernel_rfl
@[go_sem] theorem by13 : Tryd.prog.bytesOf 13 = 24 := by kernel_rfl
@[go_sem] theorem ze13 : zeroCells Tryd.prog 13 = [.v (.string ⟨⟨[]⟩⟩), .v (.int .u64 0)] := by kernel_rfl
@[go_sem] theorem zl13 : zeroLen Tryd.prog 13 = true := by kernel_rfl
@[go_sem] theorem un13 : (Tryd.prog.underlying 13).isSome = true := by kernel_rfl
@[go_sem] theorem fl13_0 : fld Tryd.prog 13 0 = some (0, 9) := by kernel_rfl
@[go_sem] theorem fl13_1 : fld Tryd.prog 13 1 = some (1, 12) := by kernel_rfl
@[go_sem] theorem sb13 : structB Tryd.prog 13 = true := by kernel_rfl
/- interface {} -/
@[go_sem] theorem ag20 : aggB Tryd.prog 20 = false := by kernel_rfl
@[go_sem] theorem ce20 : Tryd.prog.cellsOf 20 = 1 := by kernel_rfl
@[go_sem] theorem by20 : Tryd.prog.bytesOf 20 = 16 := by kernel_rfl
@[go_sem] theorem ze20 : zeroCells Tryd.prog 20 = [.v .nilIface] := by kernel_rfl
@[go_sem] theorem zl20 : zeroLen Tryd.prog 20 = true := by kernel_rfl
@[go_sem] theorem un20 : (Tryd.prog.underlying 20).isSome = true := by kernel_rfl
/- int32 -/
@[go_sem] theorem ag21 : aggB Tryd.prog 21 = false := by kernel_rfl
@[go_sem] theorem ce21 : Tryd.prog.cellsOf 21 = 1 := by kernel_rfl
@[go_sem] theorem by21 : Tryd.prog.bytesOf 21 = 4 := by kernel_rfl
@[go_sem] theorem ze21 : zeroCells Tryd.prog 21 = [.v (.int .i32 0)] := by kernel_rfl
@[go_sem] theorem zl21 : zeroLen Tryd.prog 21 = true := by kernel_rfl
@[go_sem] theorem un21 : Tryd.prog.underlying 21 = some (.int .i32) := by kernel_rfl
/- []api.Datum -/
@[go_sem] theorem ag22 : aggB Tryd.prog 22 = false := by kernel_rfl
@[go_sem] theorem ce22 : Tryd.prog.cellsOf 22 = 1 := by kernel_rfl
@[go_sem] theorem by22 : Tryd.prog.bytesOf 22 = 24 := by kernel_rfl
@[go_sem] theorem ze22 : zeroCells Tryd.prog 22 = [.list true []] := by kernel_rfl
@[go_sem] theorem zl22 : zeroLen Tryd.prog 22 = true := by kernel_rfl
@[go_sem] theorem un22 : (Tryd.prog.underlying 22).isSome = true := by kernel_rfl
@[go_sem] theorem el22 : elemT Tryd.prog 22 = some 48 := by kernel_rfl
/- struct { Name string; Type int; Life int; Data []api.Datum } -/
@[go_sem] theorem ag23 : aggB Tryd.prog 23 = true := by kernel_rfl
@[go_sem] theorem ce23 : Tryd.prog.cellsOf 23 = 4 := by kernel_rfl
@[go_sem] theorem by23 : Tryd.prog.bytesOf 23 = 56 := by kernel_rfl
@[go_sem] theorem ze23 : zeroCells Tryd.prog 23 = [.v (.string ⟨⟨[]⟩⟩), .v (.int .i64 0), .v (.int .i64 0), .list true []] := by kernel_rfl
@[go_sem] theorem zl23 : zeroLen Tryd.prog 23 = true := by kernel_rfl
@[go_sem] theorem un23 : (Tryd.prog.underlying 23).isSome = true := by kernel_rfl
@[go_sem] theorem fl23_0 : fld Tryd.prog 23 0 = some (0, 9) := by kernel_rfl
@[go_sem] theorem fl23_1 : fld Tryd.prog 23 1 = some (1, 3) := by kernel_rfl
@[go_sem] theorem fl23_2 : fld Tryd.prog 23 2 = some (2, 3) := by kernel_rfl
@[go_sem] theorem fl23_3 : fld Tryd.prog 23 3 = some (3, 22) := by kernel_rfl
@[go_sem] theorem sb23 : structB Tryd.prog 23 = true := by kernel_rfl
/- api.Set -/
@[go_sem] theorem ag24 : aggB Tryd.prog 24 = true := by kernel_rfl
@[go_sem] theorem ce24 : Tryd.prog.cellsOf 24 = 4 := by kernel_rfl
@[go_sem] theorem by24 : Tryd.prog.bytesOf 24 = 56 := by kernel_rfl
@[go_sem] theorem ze24 : zeroCells Tryd.prog 24 = [.v (.string ⟨⟨[]⟩⟩), .v (.int .i64 0), .v (.int .i64 0), .list true []] := by kernel_rfl
@[go_sem] theorem zl24 : zeroLen Tryd.prog 24 = true := by kernel_rfl
@[go_sem] theorem un24 : (Tryd.prog.underlying 24).isSome = true := by kernel_rfl
@[go_sem] theorem fl24_0 : fld Tryd.prog 24 0 = some (0, 9) := by kernel_rfl
@[go_sem] theorem fl24_1 : fld Tryd.prog 24 1 = some (1, 3) := by kernel_rfl
@[go_sem] theorem fl24_2 : fld Tryd.prog 24 2 = some (2, 3) := by kernel_rfl
@[go_sem] theorem fl24_3 : fld Tryd.prog 24 3 = some (3, 22) := by kernel_rfl
@[go_sem] theorem sb24 : structB Tryd.prog 24 = true := by kernel_rfl
/- []api.Set -/
@[go_sem] theorem ag25 : aggB Tryd.prog 25 = false := by kernel_rfl
@[go_sem] theorem ce25 : Tryd.prog.cellsOf 25 = 1 := by kernel_rfl
@[go_sem] theorem by25 : Tryd.prog.bytesOf 25 = 24 := by kernel_rfl
@[go_sem] theorem ze25 : zeroCells Tryd.prog 25 = [.list true []] := by kernel_rfl
@[go_sem] theorem zl25 : zeroLen Tryd.prog 25 = true := by kernel_rfl
@[go_sem] theorem un25 : (Tryd.prog.underlying 25).isSome = true := by kernel_rfl
@[go_sem] theorem el25 : elemT Tryd.prog 25 = some 24 := by kernel_rfl
/- []uint8 -/
@[go_sem] theorem ag26 : aggB Tryd.prog 26 = false := by kernel_rfl
@[go_sem] theorem ce26 : Tryd.prog.cellsOf 26 = 1 := by kernel_rfl
@[go_sem] theorem by26 : Tryd.prog.bytesOf 26 = 24 := by kernel_rfl
@[go_sem] theorem ze26 : zeroCells Tryd.prog 26 = [.list true []] := by kernel_rfl
@[go_sem] theorem zl26 : zeroLen Tryd.prog 26 = true := by kernel_rfl
@[go_sem] theorem un26 : (Tryd.prog.underlying 26).isSome = true := by kernel_rfl
@[go_sem] theorem el26 : elemT Tryd.prog 26 = some 5 := by kernel_rfl
/- func() bool -/
@[go_sem] theorem ag27 : aggB Tryd.prog 27 = false := by kernel_rfl
@[go_sem] theorem ce27 : Tryd.prog.cellsOf 27 = 1 := by kernel_rfl
@[go_sem] theorem by27 : Tryd.prog.bytesOf 27 = 8 := by kernel_rfl
@[go_sem] theorem ze27 : zeroCells Tryd.prog 27 = [.v .nilFunc] := by kernel_rfl
@[go_sem] theorem zl27 : zeroLen Tryd.prog 27 = true := by kernel_rfl
@[go_sem] theorem un27 : (Tryd.prog.underlying 27).isSome = true := by kernel_rfl
/- func([]api.Set) bool -/
@[go_sem] theorem ag28 : aggB Tryd.prog 28 = false := by kernel_rfl
@[go_sem] theorem ce28 : Tryd.prog.cellsOf 28 = 1 := by kernel_rfl
@[go_sem] theorem by28 : Tryd.prog.bytesOf 28 = 8 := by kernel_rfl
@[go_sem] theorem ze28 : zeroCells Tryd.prog 28 = [.v .nilFunc] := by kernel_rfl
@[go_sem] theorem zl28 : zeroLen Tryd.prog 28 = true := by kernel_rfl
@[go_sem] theorem un28 : (Tryd.prog.underlying 28).isSome = true := by kernel_rfl
/- api.Errno -/
@[go_sem] theorem ag29 : aggB Tryd.prog 29 = false := by kernel_rfl
@[go_sem] theorem ce29 : Tryd.prog.cellsOf 29 = 1 := by kernel_rfl
@[go_sem] theorem by29 : Tryd.prog.bytesOf 29 = 8 := by kernel_rfl
@[go_sem] theorem ze29 : zeroCells Tryd.prog 29 = [.v (.int .i64 0)] := by kernel_rfl
@[go_sem] theorem zl29 : zeroLen Tryd.prog 29 = true := by kernel_rfl
@[go_sem] theorem un29 : Tryd.prog.underlying 29 = some (.int .i64) := by kernel_rfl
/- func(api.Set, api.Set) (int, api.Errno) -/
@[go_sem] theorem ag31 : aggB Tryd.prog 31 = false := by kernel_rfl
@[go_sem] theorem ce31 : Tryd.prog.cellsOf 31 = 1 := by kernel_rfl
@[go_sem] theorem by31 : Tryd.prog.bytesOf 31 = 8 := by kernel_rfl
@[go_sem] theorem ze31 : zeroCells Tryd.prog 31 = [.v .nilFunc] := by kernel_rfl
@[go_sem] theorem zl31 : zeroLen Tryd.prog 31 = true := by kernel_rfl
@[go_sem] theorem un31 : (Tryd.prog.underlying 31).isSome = true := by kernel_rfl
/- func([]api.Set) ([]api.Set, api.Errno) -/
@[go_sem] theorem ag33 : aggB Tryd.prog 33 = false := by kernel_rfl
@[go_sem] theorem ce33 : Tryd.prog.cellsOf 33 = 1 := by kernel_rfl
@[go_sem] theorem by33 : Tryd.prog.bytesOf 33 = 8 := by kernel_rfl
@[go_sem] theorem ze33 : zeroCells Tryd.prog 33 = [.v .nilFunc] := by kernel_rfl
@[go_sem] theorem zl33 : zeroLen Tryd.prog 33 = true := by kernel_rfl
@[go_sem] theorem un33 : (Tryd.prog.underlying 33).isSome = true := by kernel_rfl
/- func(api.Set) bool -/
@[go_sem] theorem ag34 : aggB Tryd.prog 34 = false := by kernel_rfl
@[go_sem] theorem ce34 : Tryd.prog.cellsOf 34 = 1 := by kernel_rfl
@[go_sem] theorem by34 : Tryd.prog.bytesOf 34 = 8 := by kernel_rfl
@[go_sem] theorem ze34 : zeroCells Tryd.prog 34 = [.v .nilFunc] := by kernel_rfl
@[go_sem] theorem zl34 : zeroLen Tryd.prog 34 = true := by kernel_rfl
@[go_sem] theorem un34 : (Tryd.prog.underlying 34).isSome = true := by kernel_rfl
/- func([]api.Set, []api.Set) bool -/
@[go_sem] theorem ag35 : aggB Tryd.prog 35 = false := by kernel_rfl
@[go_sem] theorem ce35 : Tryd.prog.cellsOf 35 = 1 := by kernel_rfl
@[go_sem] theorem by35 : Tryd.prog.bytesOf 35 = 8 := by kernel_rfl
@[go_sem] theorem ze35 : zeroCells Tryd.prog 35 = [.v .nilFunc] := by kernel_rfl
@[go_sem] theorem zl35 : zeroLen Tryd.prog 35 = true := by kernel_rfl
@[go_sem] theorem un35 : (Tryd.prog.underlying 35).isSome = true := by kernel_rfl
/- func(api.Set) ([]uint8, api.Errno) -/
@[go_sem] theorem ag37 : aggB Tryd.prog 37 = false := by kernel_rfl
@[go_sem] theorem ce37 : Tryd.prog.cellsOf 37 = 1 := by kernel_rfl
@[go_sem] theorem by37 : Tryd.prog.bytesOf 37 = 8 := by kernel_rfl
@[go_sem] theorem ze37 : zeroCells Tryd.prog 37 = [.v .nilFunc] := by kernel_rfl
@[go_sem] theorem zl37 : zeroLen Tryd.prog 37 = true := by kernel_rfl
@[go_sem] theorem un37 : (Tryd.prog.underlying 37).isSome = true := by kernel_rfl
/- func([]uint8) (api.Set, api.Errno) -/
@[go_sem] theorem ag39 : aggB Tryd.prog 39 = false := by kernel_rfl
@[go_sem] theorem ce39 : Tryd.prog.cellsOf 39 = 1 := by kernel_rfl
@[go_sem] theorem by39 : Tryd.prog.bytesOf 39 = 8 := by kernel_rfl
@[go_sem] theorem ze39 : zeroCells Tryd.prog 39 = [.v .nilFunc] := by kernel_rfl
@[go_sem] theorem zl39 : zeroLen Tryd.prog 39 = true := by kernel_rfl
@[go_sem] theorem un39 : (Tryd.prog.underlying 39).isSome = true := by kernel_rfl
/- func([]uint8, []uint8) bool -/
@[go_sem] theorem ag40 : aggB Tryd.prog 40 = false := by kernel_rfl
@[go_sem] theorem ce40 : Tryd.prog.cellsOf 40 = 1 := by kernel_rfl
@[go_sem] theorem by40 : Tryd.prog.bytesOf 40 = 8 := by kernel_rfl
@[go_sem] theorem ze40 : zeroCells Tryd.prog 40 = [.v .nilFunc] := by kernel_rfl
@[go_sem] theorem zl40 : zeroLen Tryd.prog 40 = true := by kernel_rfl
@[go_sem] theorem un40 : (Tryd.prog.underlying 40).isSome = true := by kernel_rfl
/- func(api.Set, api.Set) bool -/
@[go_sem] theorem ag41 : aggB Tryd.prog 41 = false := by kernel_rfl
@[go_sem] theorem ce41 : Tryd.prog.cellsOf 41 = 1 := by kernel_rfl
@[go_sem] theorem by41 : Tryd.prog.bytesOf 41 = 8 := by kernel_rfl
@[go_sem] theorem ze41 : zeroCells Tryd.prog 41 = [.v .nilFunc] := by kernel_rfl
@[go_sem] theorem zl41 : zeroLen Tryd.prog 41 = true := by kernel_rfl
@[go_sem] theorem un41 : (Tryd.prog.underlying 41).isSome = true := by kernel_rfl
/- func(api.Set, api.Set, []api.Set, []uint8) bool -/
@[go_sem] theorem ag42 : aggB Tryd.prog 42 = false := by kernel_rfl
@[go_sem] theorem ce42 : Tryd.prog.cellsOf 42 = 1 := by kernel_rfl
@[go_sem] theorem by42 : Tryd.prog.bytesOf 42 = 8 := by kernel_rfl
@[go_sem] theorem ze42 : zeroCells Tryd.prog 42 = [.v .nilFunc] := by kernel_rfl
@[go_sem] theorem zl42 : zeroLen Tryd.prog 42 = true := by kernel_rfl
@[go_sem] theorem un42 : (Tryd.prog.underlying 42).isSome = true := by kernel_rfl
/- uint16 -/
@[go_sem] theorem ag43 : aggB Tryd.prog 43 = false := by kernel_rfl
@[go_sem] theorem ce43 : Tryd.prog.cellsOf 43 = 1 := by kernel_rfl
@[go_sem] theorem by43 : Tryd.prog.bytesOf 43 = 2 := by kernel_rfl
@[go_sem] theorem ze43 : zeroCells Tryd.prog 43 = [.v (.int .u16 0)] := by kernel_rfl
@[go_sem] theorem zl43 : zeroLen Tryd.prog 43 = true := by kernel_rfl
@[go_sem] theorem un43 : Tryd.prog.underlying 43 = some (.int .u16) := by kernel_rfl
/- func(api.Set, uint16, []uint8, []uint8) bool -/
@[go_sem] theorem ag44 : aggB Tryd.prog 44 = false := by kernel_rfl
@[go_sem] theorem ce44 : Tryd.prog.cellsOf 44 = 1 := by kernel_rfl
@[go_sem] theorem by44 : Tryd.prog.bytesOf 44 = 8 := by kernel_rfl
@[go_sem] theorem ze44 : zeroCells Tryd.prog 44 = [.v .nilFunc] := by kernel_rfl
@[go_sem] theorem zl44 : zeroLen Tryd.prog 44 = true := by kernel_rfl
@[go_sem] theorem un44 : (Tryd.prog.underlying 44).isSome = true := by kernel_rfl
/- func(api.Set, api.Set, api.Set) bool -/
@[go_sem] theorem ag45 : aggB Tryd.prog 45 = false := by kernel_rfl
@[go_sem] theorem ce45 : Tryd.prog.cellsOf 45 = 1 := by kernel_rfl
@[go_sem] theorem by45 : Tryd.prog.bytesOf 45 = 8 := by kernel_rfl
@[go_sem] theorem ze45 : zeroCells Tryd.prog 45 = [.v .nilFunc] := by kernel_rfl
@[go_sem] theorem zl45 : zeroLen Tryd.prog 45 = true := by kernel_rfl
@[go_sem] theorem un45 : (Tryd.prog.underlying 45).isSome = true := by kernel_rfl
/- *api.Datum -/
@[go_sem] theorem ag46 : aggB Tryd.prog 46 = false := by kernel_rfl
@[go_sem] theorem ce46 : Tryd.prog.cellsOf 46 = 1 := by kernel_rfl
@[go_sem] theorem by46 : Tryd.prog.bytesOf 46 = 8 := by kernel_rfl
@[go_sem] theorem ze46 : zeroCells Tryd.prog 46 = [.v (.pointer none)] := by kernel_rfl
@[go_sem] theorem zl46 : zeroLen Tryd.prog 46 = true := by kernel_rfl
@[go_sem] theorem un46 : (Tryd.prog.underlying 46).isSome = true := by kernel_rfl
/- struct { Text string; N int; M int } -/
@[go_sem] theorem ag47 : aggB Tryd.prog 47 = true := by kernel_rfl
@[go_sem] theorem ce47 : Tryd.prog.cellsOf 47 = 3 := by kernel_rfl
@[go_sem] theorem by47 : Tryd.prog.bytesOf 47 = 32 := by kernel_rfl
@[go_sem] theorem ze47 : zeroCells Tryd.prog 47 = [.v (.string ⟨⟨[]⟩⟩), .v (.int .i64 0), .v (.int .i64 0)] := by kernel_rfl
@[go_sem] theorem zl47 : zeroLen Tryd.prog 47 = true := by kernel_rfl
@[go_sem] theorem un47 : (Tryd.prog.underlying 47).isSome = true := by kernel_rfl
@[go_sem] theorem fl47_0 : fld Tryd.prog 47 0 = some (0, 9) := by kernel_rfl
@[go_sem] theorem fl47_1 : fld Tryd.prog 47 1 = some (1, 3) := by kernel_rfl
@[go_sem] theorem fl47_2 : fld Tryd.prog 47 2 = some (2, 3) := by kernel_rfl
@[go_sem] theorem sb47 : structB Tryd.prog 47 = true := by kernel_rfl
/- api.Datum -/
@[go_sem] theorem ag48 : aggB Tryd.prog 48 = true := by kernel_rfl
@[go_sem] theorem ce48 : Tryd.prog.cellsOf 48 = 3 := by kernel_rfl
@[go_sem] theorem by48 : Tryd.prog.bytesOf 48 = 32 := by kernel_rfl
@[go_sem] theorem ze48 : zeroCells Tryd.prog 48 = [.v (.string ⟨⟨[]⟩⟩), .v (.int .i64 0), .v (.int .i64 0)] := by kernel_rfl
@[go_sem] theorem zl48 : zeroLen Tryd.prog 48 = true := by kernel_rfl
@[go_sem] theorem un48 : (Tryd.prog.underlying 48).isSome = true := by kernel_rfl
@[go_sem] theorem fl48_0 : fld Tryd.prog 48 0 = some (0, 9) := by kernel_rfl
@[go_sem] theorem fl48_1 : fld Tryd.prog 48 1 = some (1, 3) := by kernel_rfl
@[go_sem] theorem fl48_2 : fld Tryd.prog 48 2 = some (2, 3) := by kernel_rfl
@[go_sem] theorem sb48 : structB Tryd.prog 48 = true := by kernel_rfl
@[go_sem] theorem ek48 : eqKinds Tryd.prog 48 = some [.s, .i, .i] := by kernel_rfl
/- func(api.Set, uint8, uint8) bool -/
@[go_sem] theorem ag49 : aggB Tryd.prog 49 = false := by kernel_rfl
@[go_sem] theorem ce49 : Tryd.prog.cellsOf 49 = 1 := by kernel_rfl
@[go_sem] theorem by49 : Tryd.prog.bytesOf 49 = 8 := by kernel_rfl
@[go_sem] theorem ze49 : zeroCells Tryd.prog 49 = [.v .nilFunc] := by kernel_rfl
@[go_sem] theorem zl49 : zeroLen Tryd.prog 49 = true := by kernel_rfl
@[go_sem] theorem un49 : (Tryd.prog.underlying 49).isSome = true := by kernel_rfl
/- func(int, int) (bool, api.Errno) -/
@[go_sem] theorem ag51 : aggB Tryd.prog 51 = false := by kernel_rfl
@[go_sem] theorem ce51 : Tryd.prog.cellsOf 51 = 1 := by kernel_rfl
@[go_sem] theorem by51 : Tryd.prog.bytesOf 51 = 8 := by kernel_rfl
@[go_sem] theorem ze51 : zeroCells Tryd.prog 51 = [.v .nilFunc] := by kernel_rfl
@[go_sem] theorem zl51 : zeroLen Tryd.prog 51 = true := by kernel_rfl
@[go_sem] theorem un51 : (Tryd.prog.underlying 51).isSome = true := by kernel_rfl
/- func(int) (int, api.Errno) -/
@[go_sem] theorem ag52 : aggB Tryd.prog 52 = false := by kernel_rfl
@[go_sem] theorem ce52 : Tryd.prog.cellsOf 52 = 1 := by kernel_rfl
@[go_sem] theorem by52 : Tryd.prog.bytesOf 52 = 8 := by kernel_rfl
@[go_sem] theorem ze52 : zeroCells Tryd.prog 52 = [.v .nilFunc] := by kernel_rfl
@[go_sem] theorem zl52 : zeroLen Tryd.prog 52 = true := by kernel_rfl
@[go_sem] theorem un52 : (Tryd.prog.underlying 52).isSome = true := by kernel_rfl
/- func(uint16, uint16, uint16) bool -/
@[go_sem] theorem ag53 : aggB Tryd.prog 53 = false := by kernel_rfl
@[go_sem] theorem ce53 : Tryd.prog.cellsOf 53 = 1 := by kernel_rfl
@[go_sem] theorem by53 : Tryd.prog.bytesOf 53 = 8 := by kernel_rfl
@[go_sem] theorem ze53 : zeroCells Tryd.prog 53 = [.v .nilFunc] := by kernel_rfl
@[go_sem] theorem zl53 : zeroLen Tryd.prog 53 = true := by kernel_rfl
@[go_sem] theorem un53 : (Tryd.prog.underlying 53).isSome = true := by kernel_rfl
/- func(int, ...int) api.Set -/
@[go_sem] theorem ag54 : aggB Tryd.prog 54 = false := by kernel_rfl
@[go_sem] theorem ce54 : Tryd.prog.cellsOf 54 = 1 := by kernel_rfl
@[go_sem] theorem by54 : Tryd.prog.bytesOf 54 = 8 := by kernel_rfl
@[go_sem] theorem ze54 : zeroCells Tryd.prog 54 = [.v .nilFunc] := by kernel_rfl
@[go_sem] theorem zl54 : zeroLen Tryd.prog 54 = true := by kernel_rfl
@[go_sem] theorem un54 : (Tryd.prog.underlying 54).isSome = true := by kernel_rfl
/- func(api.Set, api.Set) int -/
@[go_sem] theorem ag55 : aggB Tryd.prog 55 = false := by kernel_rfl
@[go_sem] theorem ce55 : Tryd.prog.cellsOf 55 = 1 := by kernel_rfl
@[go_sem] theorem by55 : Tryd.prog.bytesOf 55 = 8 := by kernel_rfl
@[go_sem] theorem ze55 : zeroCells Tryd.prog 55 = [.v .nilFunc] := by kernel_rfl
@[go_sem] theorem zl55 : zeroLen Tryd.prog 55 = true := by kernel_rfl
@[go_sem] theorem un55 : (Tryd.prog.underlying 55).isSome = true := by kernel_rfl
/- func([]api.Set) []api.Set -/
@[go_sem] theorem ag56 : aggB Tryd.prog 56 = false := by kernel_rfl
@[go_sem] theorem ce56 : Tryd.prog.cellsOf 56 = 1 := by kernel_rfl
@[go_sem] theorem by56 : Tryd.prog.bytesOf 56 = 8 := by kernel_rfl
@[go_sem] theorem ze56 : zeroCells Tryd.prog 56 = [.v .nilFunc] := by kernel_rfl
@[go_sem] theorem zl56 : zeroLen Tryd.prog 56 = true := by kernel_rfl
@[go_sem] theorem un56 : (Tryd.prog.underlying 56).isSome = true := by kernel_rfl
/- func([]api.Set, func(api.Set, api.Set) int) -/
@[go_sem] theorem ag57 : aggB Tryd.prog 57 = false := by kernel_rfl
@[go_sem] theorem ce57 : Tryd.prog.cellsOf 57 = 1 := by kernel_rfl
@[go_sem] theorem by57 : Tryd.prog.bytesOf 57 = 8 := by kernel_rfl
@[go_sem] theorem ze57 : zeroCells Tryd.prog 57 = [.v .nilFunc] := by kernel_rfl
@[go_sem] theorem zl57 : zeroLen Tryd.prog 57 = true := by kernel_rfl
@[go_sem] theorem un57 : (Tryd.prog.underlying 57).isSome = true := by kernel_rfl
/- func([]api.Set) api.Set -/
@[go_sem] theorem ag58 : aggB Tryd.prog 58 = false := by kernel_rfl
@[go_sem] theorem ce58 : Tryd.prog.cellsOf 58 = 1 := by kernel_rfl
@[go_sem] theorem by58 : Tryd.prog.bytesOf 58 = 8 := by kernel_rfl
@[go_sem] theorem ze58 : zeroCells Tryd.prog 58 = [.v .nilFunc] := by kernel_rfl
@[go_sem] theorem zl58 : zeroLen Tryd.prog 58 = true := by kernel_rfl
@[go_sem] theorem un58 : (Tryd.prog.underlying 58).isSome = true := by kernel_rfl
/- struct { text int; leastN int; mostN int; leastM int; mostM int; even bool; single bool; wild bool } -/
@[go_sem] theorem ag59 : aggB Tryd.prog 59 = true := by kernel_rfl
@[go_sem] theorem ce59 : Tryd.prog.cellsOf 59 = 8 := by kernel_rfl
@[go_sem] theorem by59 : Tryd.prog.bytesOf 59 = 48 := by kernel_rfl
@[go_sem] theorem ze59 : zeroCells Tryd.prog 59 = [.v (.int .i64 0), .v (.int .i64 0), .v (.int .i64 0), .v (.int .i64 0), .v (.int .i64 0), .v (.bool false), .v (.bool false), .v (.bool false)] := by kernel_rfl
@[go_sem] theorem zl59 : zeroLen Tryd.prog 59 = true := by kernel_rfl
@[go_sem] theorem un59 : (Tryd.prog.underlying 59).isSome = true := by kernel_rfl
@[go_sem] theorem fl59_0 : fld Tryd.prog 59 0 = some (0, 3) := by kernel_rfl
@[go_sem] theorem fl59_1 : fld Tryd.prog 59 1 = some (1, 3) := by kernel_rfl
@[go_sem] theorem fl59_2 : fld Tryd.prog 59 2 = some (2, 3) := by kernel_rfl
@[go_sem] theorem fl59_3 : fld Tryd.prog 59 3 = some (3, 3) := by kernel_rfl
@[go_sem] theorem fl59_4 : fld Tryd.prog 59 4 = some (4, 3) := by kernel_rfl
@[go_sem] theorem fl59_5 : fld Tryd.prog 59 5 = some (5, 4) := by kernel_rfl
@[go_sem] theorem fl59_6 : fld Tryd.prog 59 6 = some (6, 4) := by kernel_rfl
@[go_sem] theorem fl59_7 : fld Tryd.prog 59 7 = some (7, 4) := by kernel_rfl
@[go_sem] theorem sb59 : structB Tryd.prog 59 = true := by kernel_rfl
@[go_sem] theorem ek59 : eqKinds Tryd.prog 59 = some [.i, .i, .i, .i, .i, .b, .b, .b] := by kernel_rfl
/- record.rule -/
@[go_sem] theorem ag60 : aggB Tryd.prog 60 = true := by kernel_rfl
@[go_sem] theorem ce60 : Tryd.prog.cellsOf 60 = 8 := by kernel_rfl
@[go_sem] theorem by60 : Tryd.prog.bytesOf 60 = 48 := by kernel_rfl
@[go_sem] theorem ze60 : zeroCells Tryd.prog 60 = [.v (.int .i64 0), .v (.int .i64 0), .v (.int .i64 0), .v (.int .i64 0), .v (.int .i64 0), .v (.bool false), .v (.bool false), .v (.bool false)] := by kernel_rfl
@[go_sem] theorem zl60 : zeroLen Tryd.prog 60 = true := by kernel_rfl
@[go_sem] theorem un60 : (Tryd.prog.underlying 60).isSome = true := by kernel_rfl
@[go_sem] theorem fl60_0 : fld Tryd.prog 60 0 = some (0, 3) := by kernel_rfl
@[go_sem] theorem fl60_1 : fld Tryd.prog 60 1 = some (1, 3) := by kernel_rfl
@[go_sem] theorem fl60_2 : fld Tryd.prog 60 2 = some (2, 3) := by kernel_rfl
@[go_sem] theorem fl60_3 : fld Tryd.prog 60 3 = some (3, 3) := by kernel_rfl
@[go_sem] theorem fl60_4 : fld Tryd.prog 60 4 = some (4, 3) := by kernel_rfl
@[go_sem] theorem fl60_5 : fld Tryd.prog 60 5 = some (5, 4) := by kernel_rfl
@[go_sem] theorem fl60_6 : fld Tryd.prog 60 6 = some (6, 4) := by kernel_rfl
@[go_sem] theorem fl60_7 : fld Tryd.prog 60 7 = some (7, 4) := by kernel_rfl
@[go_sem] theorem sb60 : structB Tryd.prog 60 = true := by kernel_rfl
@[go_sem] theorem ek60 : eqKinds Tryd.prog 60 = some [.i, .i, .i, .i, .i, .b, .b, .b] := by kernel_rfl
/- [9]record.rule -/
@[go_sem] theorem ag61 : aggB Tryd.prog 61 = true := by kernel_rfl
@[go_sem] theorem ce61 : Tryd.prog.cellsOf 61 = 72 := by kernel_rfl
@[go_sem] theorem by61 : Tryd.prog.bytesOf 61 = 432 := by kernel_rfl
@[go_sem] theorem ze61 : zeroCells Tryd.prog 61 = [.v (.int .i64 0), .v (.int .i64 0), .v (.int .i64 0), .v (.int .i64 0), .v (.int .i64 0), .v (.bool false), .v (.bool false), .v (.bool false), .v (.int .i64 0), .v (.int .i64 0), .v (.int .i64 0), .v (.int .i64 0), .v (.int .i64 0), .v (.bool false), .v (.bool false), .v (.bool false), .v (.int .i64 0), .v (.int .i64 0), .v (.int .i64 0), .v (.int .i64 0), .v (.int .i64 0), .v (.bool false), .v (.bool false), .v (.bool false), .v (.int .i64 0), .v (.int .i64 0), .v (.int .i64 0), .v (.int .i64 0), .v (.int .i64 0), .v (.bool false), .v (.bool false), .v (.bool false), .v (.int .i64 0), .v (.int .i64 0), .v (.int .i64 0), .v (.int .i64 0), .v (.int .i64 0), .v (.bool false), .v (.bool false), .v (.bool false), .v (.int .i64 0), .v (.int .i64 0), .v (.int .i64 0), .v (.int .i64 0), .v (.int .i64 0), .v (.bool false), .v (.bool false), .v (.bool false), .v (.int .i64 0), .v (.int .i64 0), .v (.int .i64 0), .v (.int .i64 0), .v (.int .i64 0), .v (.bool false), .v (.bool false), .v (.bool false), .v (.int .i64 0), .v (.int .i64 0), .v (.int .i64 0), .v (.int .i64 0), .v (.int .i64 0), .v (.bool false), .v (.bool false), .v (.bool false), .v (.int .i64 0), .v (.int .i64 0), .v (.int .i64 0), .v (.int .i64 0), .v (.int .i64 0), .v (.bool false), .v (.bool false), .v (.bool false)] := by kernel_rfl
@[go_sem] theorem zl61 : zeroLen Tryd.prog 61 = true := by kernel_rfl
@[go_sem] theorem un61 : (Tryd.prog.underlying 61).isSome = true := by kernel_rfl
@[go_sem] theorem el61 : elemT Tryd.prog 61 = none := by kernel_rfl
@[go_sem] theorem ar61 : arrT Tryd.prog 61 = some (9, 60) := by kernel_rfl
/- func([]api.Datum, api.Datum) []api.Datum -/
@[go_sem] theorem ag62 : aggB Tryd.prog 62 = false := by kernel_rfl
@[go_sem] theorem ce62 : Tryd.prog.cellsOf 62 = 1 := by kernel_rfl
@[go_sem] theorem by62 : Tryd.prog.bytesOf 62 = 8 := by kernel_rfl
@[go_sem] theorem ze62 : zeroCells Tryd.prog 62 = [.v .nilFunc] := by kernel_rfl
@[go_sem] theorem zl62 : zeroLen Tryd.prog 62 = true := by kernel_rfl
@[go_sem] theorem un62 : (Tryd.prog.underlying 62).isSome = true := by kernel_rfl
/- func(int) bool -/
@[go_sem] theorem ag63 : aggB Tryd.prog 63 = false := by kernel_rfl
@[go_sem] theorem ce63 : Tryd.prog.cellsOf 63 = 1 := by kernel_rfl
@[go_sem] theorem by63 : Tryd.prog.bytesOf 63 = 8 := by kernel_rfl
@[go_sem] theorem ze63 : zeroCells Tryd.prog 63 = [.v .nilFunc] := by kernel_rfl
@[go_sem] theorem zl63 : zeroLen Tryd.prog 63 = true := by kernel_rfl
@[go_sem] theorem un63 : (Tryd.prog.underlying 63).isSome = true := by kernel_rfl
/- func(string) bool -/
@[go_sem] theorem ag64 : aggB Tryd.prog 64 = false := by kernel_rfl
@[go_sem] theorem ce64 : Tryd.prog.cellsOf 64 = 1 := by kernel_rfl
@[go_sem] theorem by64 : Tryd.prog.bytesOf 64 = 8 := by kernel_rfl
@[go_sem] theorem ze64 : zeroCells Tryd.prog 64 = [.v .nilFunc] := by kernel_rfl
@[go_sem] theorem zl64 : zeroLen Tryd.prog 64 = true := by kernel_rfl
@[go_sem] theorem un64 : (Tryd.prog.underlying 64).isSome = true := by kernel_rfl
/- func(int, int, int) bool -/
@[go_sem] theorem ag65 : aggB Tryd.prog 65 = false := by kernel_rfl
@[go_sem] theorem ce65 : Tryd.prog.cellsOf 65 = 1 := by kernel_rfl
@[go_sem] theorem by65 : Tryd.prog.bytesOf 65 = 8 := by kernel_rfl
@[go_sem] theorem ze65 : zeroCells Tryd.prog 65 = [.v .nilFunc] := by kernel_rfl
@[go_sem] theorem zl65 : zeroLen Tryd.prog 65 = true := by kernel_rfl
@[go_sem] theorem un65 : (Tryd.prog.underlying 65).isSome = true := by kernel_rfl
/- func(record.rule, api.Datum) bool -/
@[go_sem] theorem ag66 : aggB Tryd.prog 66 = false := by kernel_rfl
@[go_sem] theorem ce66 : Tryd.prog.cellsOf 66 = 1 := by kernel_rfl
@[go_sem] theorem by66 : Tryd.prog.bytesOf 66 = 8 := by kernel_rfl
@[go_sem] theorem ze66 : zeroCells Tryd.prog 66 = [.v .nilFunc] := by kernel_rfl
@[go_sem] theorem zl66 : zeroLen Tryd.prog 66 = true := by kernel_rfl
@[go_sem] theorem un66 : (Tryd.prog.underlying 66).isSome = true := by kernel_rfl
/- func(api.Datum, api.Datum) int -/
@[go_sem] theorem ag67 : aggB Tryd.prog 67 = false := by kernel_rfl
@[go_sem] theorem ce67 : Tryd.prog.cellsOf 67 = 1 := by kernel_rfl
@[go_sem] theorem by67 : Tryd.prog.bytesOf 67 = 8 := by kernel_rfl
@[go_sem] theorem ze67 : zeroCells Tryd.prog 67 = [.v .nilFunc] := by kernel_rfl
@[go_sem] theorem zl67 : zeroLen Tryd.prog 67 = true := by kernel_rfl
@[go_sem] theorem un67 : (Tryd.prog.underlying 67).isSome = true := by kernel_rfl
/- func(int, api.Datum) bool -/
@[go_sem] theorem ag68 : aggB Tryd.prog 68 = false := by kernel_rfl
@[go_sem] theorem ce68 : Tryd.prog.cellsOf 68 = 1 := by kernel_rfl
@[go_sem] theorem by68 : Tryd.prog.bytesOf 68 = 8 := by kernel_rfl
@[go_sem] theorem ze68 : zeroCells Tryd.prog 68 = [.v .nilFunc] := by kernel_rfl
@[go_sem] theorem zl68 : zeroLen Tryd.prog 68 = true := by kernel_rfl
@[go_sem] theorem un68 : (Tryd.prog.underlying 68).isSome = true := by kernel_rfl
/- func(api.Datum, api.Datum) bool -/
@[go_sem] theorem ag69 : aggB Tryd.prog 69 = false := by kernel_rfl
@[go_sem] theorem ce69 : Tryd.prog.cellsOf 69 = 1 := by kernel_rfl
@[go_sem] theorem by69 : Tryd.prog.bytesOf 69 = 8 := by kernel_rfl
@[go_sem] theorem ze69 : zeroCells Tryd.prog 69 = [.v .nilFunc] := by kernel_rfl
@[go_sem] theorem zl69 : zeroLen Tryd.prog 69 = true := by kernel_rfl
@[go_sem] theorem un69 : (Tryd.prog.underlying 69).isSome = true := by kernel_rfl
/- func([]uint8, string) []uint8 -/
@[go_sem] theorem ag70 : aggB Tryd.prog 70 = false := by kernel_rfl
@[go_sem] theorem ce70 : Tryd.prog.cellsOf 70 = 1 := by kernel_rfl
@[go_sem] theorem by70 : Tryd.prog.bytesOf 70 = 8 := by kernel_rfl
@[go_sem] theorem ze70 : zeroCells Tryd.prog 70 = [.v .nilFunc] := by kernel_rfl
@[go_sem] theorem zl70 : zeroLen Tryd.prog 70 = true := by kernel_rfl
@[go_sem] theorem un70 : (Tryd.prog.underlying 70).isSome = true := by kernel_rfl
/- func([]uint8, int) []uint8 -/
@[go_sem] theorem ag71 : aggB Tryd.prog 71 = false := by kernel_rfl
@[go_sem] theorem ce71 : Tryd.prog.cellsOf 71 = 1 := by kernel_rfl
@[go_sem] theorem by71 : Tryd.prog.bytesOf 71 = 8 := by kernel_rfl
@[go_sem] theorem ze71 : zeroCells Tryd.prog 71 = [.v .nilFunc] := by kernel_rfl
@[go_sem] theorem zl71 : zeroLen Tryd.prog 71 = true := by kernel_rfl
@[go_sem] theorem un71 : (Tryd.prog.underlying 71).isSome = true := by kernel_rfl
/- func(api.Set) []uint8 -/
@[go_sem] theorem ag72 : aggB Tryd.prog 72 = false := by kernel_rfl
@[go_sem] theorem ce72 : Tryd.prog.cellsOf 72 = 1 := by kernel_rfl
@[go_sem] theorem by72 : Tryd.prog.bytesOf 72 = 8 := by kernel_rfl
@[go_sem] theorem ze72 : zeroCells Tryd.prog 72 = [.v .nilFunc] := by kernel_rfl
@[go_sem] theorem zl72 : zeroLen Tryd.prog 72 = true := by kernel_rfl
@[go_sem] theorem un72 : (Tryd.prog.underlying 72).isSome = true := by kernel_rfl
/- struct { rest []uint8; failed bool } -/
@[go_sem] theorem ag73 : aggB Tryd.prog 73 = true := by kernel_rfl
@[go_sem] theorem ce73 : Tryd.prog.cellsOf 73 = 2 := by kernel_rfl
@[go_sem] theorem by73 : Tryd.prog.bytesOf 73 = 32 := by kernel_rfl
@[go_sem] theorem ze73 : zeroCells Tryd.prog 73 = [.list true [], .v (.bool false)] := by kernel_rfl
@[go_sem] theorem zl73 : zeroLen Tryd.prog 73 = true := by kernel_rfl
@[go_sem] theorem un73 : (Tryd.prog.underlying 73).isSome = true := by kernel_rfl
@[go_sem] theorem fl73_0 : fld Tryd.prog 73 0 = some (0, 26) := by kernel_rfl
@[go_sem] theorem fl73_1 : fld Tryd.prog 73 1 = some (1, 4) := by kernel_rfl
@[go_sem] theorem sb73 : structB Tryd.prog 73 = true := by kernel_rfl
/- record.reader -/
@[go_sem] theorem ag74 : aggB Tryd.prog 74 = true := by kernel_rfl
@[go_sem] theorem ce74 : Tryd.prog.cellsOf 74 = 2 := by kernel_rfl
@[go_sem] theorem by74 : Tryd.prog.bytesOf 74 = 32 := by kernel_rfl
@[go_sem] theorem ze74 : zeroCells Tryd.prog 74 = [.list true [], .v (.bool false)] := by kernel_rfl
@[go_sem] theorem zl74 : zeroLen Tryd.prog 74 = true := by kernel_rfl
@[go_sem] theorem un74 : (Tryd.prog.underlying 74).isSome = true := by kernel_rfl
@[go_sem] theorem fl74_0 : fld Tryd.prog 74 0 = some (0, 26) := by kernel_rfl
@[go_sem] theorem fl74_1 : fld Tryd.prog 74 1 = some (1, 4) := by kernel_rfl
@[go_sem] theorem sb74 : structB Tryd.prog 74 = true := by kernel_rfl
/- func() string -/
@[go_sem] theorem ag75 : aggB Tryd.prog 75 = false := by kernel_rfl
@[go_sem] theorem ce75 : Tryd.prog.cellsOf 75 = 1 := by kernel_rfl
@[go_sem] theorem by75 : Tryd.prog.bytesOf 75 = 8 := by kernel_rfl
@[go_sem] theorem ze75 : zeroCells Tryd.prog 75 = [.v .nilFunc] := by kernel_rfl
@[go_sem] theorem zl75 : zeroLen Tryd.prog 75 = true := by kernel_rfl
@[go_sem] theorem un75 : (Tryd.prog.underlying 75).isSome = true := by kernel_rfl
/- func() int -/
@[go_sem] theorem ag76 : aggB Tryd.prog 76 = false := by kernel_rfl
@[go_sem] theorem ce76 : Tryd.prog.cellsOf 76 = 1 := by kernel_rfl
@[go_sem] theorem by76 : Tryd.prog.bytesOf 76 = 8 := by kernel_rfl
@[go_sem] theorem ze76 : zeroCells Tryd.prog 76 = [.v .nilFunc] := by kernel_rfl
@[go_sem] theorem zl76 : zeroLen Tryd.prog 76 = true := by kernel_rfl
@[go_sem] theorem un76 : (Tryd.prog.underlying 76).isSome = true := by kernel_rfl
/- *nameplanref02.reader -/
@[go_sem] theorem ag77 : aggB Tryd.prog 77 = false := by kernel_rfl
@[go_sem] theorem ce77 : Tryd.prog.cellsOf 77 = 1 := by kernel_rfl
@[go_sem] theorem by77 : Tryd.prog.bytesOf 77 = 8 := by kernel_rfl
@[go_sem] theorem ze77 : zeroCells Tryd.prog 77 = [.v (.pointer none)] := by kernel_rfl
@[go_sem] theorem zl77 : zeroLen Tryd.prog 77 = true := by kernel_rfl
@[go_sem] theorem un77 : (Tryd.prog.underlying 77).isSome = true := by kernel_rfl
/- struct { b []uint8; at int; bad bool } -/
@[go_sem] theorem ag78 : aggB Tryd.prog 78 = true := by kernel_rfl
@[go_sem] theorem ce78 : Tryd.prog.cellsOf 78 = 3 := by kernel_rfl
@[go_sem] theorem by78 : Tryd.prog.bytesOf 78 = 40 := by kernel_rfl
@[go_sem] theorem ze78 : zeroCells Tryd.prog 78 = [.list true [], .v (.int .i64 0), .v (.bool false)] := by kernel_rfl
@[go_sem] theorem zl78 : zeroLen Tryd.prog 78 = true := by kernel_rfl
@[go_sem] theorem un78 : (Tryd.prog.underlying 78).isSome = true := by kernel_rfl
@[go_sem] theorem fl78_0 : fld Tryd.prog 78 0 = some (0, 26) := by kernel_rfl
@[go_sem] theorem fl78_1 : fld Tryd.prog 78 1 = some (1, 3) := by kernel_rfl
@[go_sem] theorem fl78_2 : fld Tryd.prog 78 2 = some (2, 4) := by kernel_rfl
@[go_sem] theorem sb78 : structB Tryd.prog 78 = true := by kernel_rfl
/- nameplanref02.reader -/
@[go_sem] theorem ag79 : aggB Tryd.prog 79 = true := by kernel_rfl
@[go_sem] theorem ce79 : Tryd.prog.cellsOf 79 = 3 := by kernel_rfl
@[go_sem] theorem by79 : Tryd.prog.bytesOf 79 = 40 := by kernel_rfl
@[go_sem] theorem ze79 : zeroCells Tryd.prog 79 = [.list true [], .v (.int .i64 0), .v (.bool false)] := by kernel_rfl
@[go_sem] theorem zl79 : zeroLen Tryd.prog 79 = true := by kernel_rfl
@[go_sem] theorem un79 : (Tryd.prog.underlying 79).isSome = true := by kernel_rfl
@[go_sem] theorem fl79_0 : fld Tryd.prog 79 0 = some (0, 26) := by kernel_rfl
@[go_sem] theorem fl79_1 : fld Tryd.prog 79 1 = some (1, 3) := by kernel_rfl
@[go_sem] theorem fl79_2 : fld Tryd.prog 79 2 = some (2, 4) := by kernel_rfl
@[go_sem] theorem sb79 : structB Tryd.prog 79 = true := by kernel_rfl
/- func(*nameplanref02.reader) string -/
@[go_sem] theorem ag80 : aggB Tryd.prog 80 = false := by kernel_rfl
@[go_sem] theorem ce80 : Tryd.prog.cellsOf 80 = 1 := by kernel_rfl
@[go_sem] theorem by80 : Tryd.prog.bytesOf 80 = 8 := by kernel_rfl
@[go_sem] theorem ze80 : zeroCells Tryd.prog 80 = [.v .nilFunc] := by kernel_rfl
@[go_sem] theorem zl80 : zeroLen Tryd.prog 80 = true := by kernel_rfl
@[go_sem] theorem un80 : (Tryd.prog.underlying 80).isSome = true := by kernel_rfl
/- func(*nameplanref02.reader) int -/
@[go_sem] theorem ag81 : aggB Tryd.prog 81 = false := by kernel_rfl
@[go_sem] theorem ce81 : Tryd.prog.cellsOf 81 = 1 := by kernel_rfl
@[go_sem] theorem by81 : Tryd.prog.bytesOf 81 = 8 := by kernel_rfl
@[go_sem] theorem ze81 : zeroCells Tryd.prog 81 = [.v .nilFunc] := by kernel_rfl
@[go_sem] theorem zl81 : zeroLen Tryd.prog 81 = true := by kernel_rfl
@[go_sem] theorem un81 : (Tryd.prog.underlying 81).isSome = true := by kernel_rfl
/- func(*nameplanref02.reader) uint8 -/
@[go_sem] theorem ag82 : aggB Tryd.prog 82 = false := by kernel_rfl
@[go_sem] theorem ce82 : Tryd.prog.cellsOf 82 = 1 := by kernel_rfl
@[go_sem] theorem by82 : Tryd.prog.bytesOf 82 = 8 := by kernel_rfl
@[go_sem] theorem ze82 : zeroCells Tryd.prog 82 = [.v .nilFunc] := by kernel_rfl
@[go_sem] theorem zl82 : zeroLen Tryd.prog 82 = true := by kernel_rfl
@[go_sem] theorem un82 : (Tryd.prog.underlying 82).isSome = true := by kernel_rfl
/- []api.Signed -/
@[go_sem] theorem ag83 : aggB Tryd.prog 83 = false := by kernel_rfl
@[go_sem] theorem ce83 : Tryd.prog.cellsOf 83 = 1 := by kernel_rfl
@[go_sem] theorem by83 : Tryd.prog.bytesOf 83 = 24 := by kernel_rfl
@[go_sem] theorem ze83 : zeroCells Tryd.prog 83 = [.list true []] := by kernel_rfl
@[go_sem] theorem zl83 : zeroLen Tryd.prog 83 = true := by kernel_rfl
@[go_sem] theorem un83 : (Tryd.prog.underlying 83).isSome = true := by kernel_rfl
@[go_sem] theorem el83 : elemT Tryd.prog 83 = some 98 := by kernel_rfl
/- struct { Apex string; Sets []api.Signed } -/
@[go_sem] theorem ag84 : aggB Tryd.prog 84 = true := by kernel_rfl
@[go_sem] theorem ce84 : Tryd.prog.cellsOf 84 = 2 := by kernel_rfl
@[go_sem] theorem by84 : Tryd.prog.bytesOf 84 = 40 := by kernel_rfl
@[go_sem] theorem ze84 : zeroCells Tryd.prog 84 = [.v (.string ⟨⟨[]⟩⟩), .list true []] := by kernel_rfl
@[go_sem] theorem zl84 : zeroLen Tryd.prog 84 = true := by kernel_rfl
@[go_sem] theorem un84 : (Tryd.prog.underlying 84).isSome = true := by kernel_rfl
@[go_sem] theorem fl84_0 : fld Tryd.prog 84 0 = some (0, 9) := by kernel_rfl
@[go_sem] theorem fl84_1 : fld Tryd.prog 84 1 = some (1, 83) := by kernel_rfl
@[go_sem] theorem sb84 : structB Tryd.prog 84 = true := by kernel_rfl
/- api.Zone -/
@[go_sem] theorem ag85 : aggB Tryd.prog 85 = true := by kernel_rfl
@[go_sem] theorem ce85 : Tryd.prog.cellsOf 85 = 2 := by kernel_rfl
@[go_sem] theorem by85 : Tryd.prog.bytesOf 85 = 40 := by kernel_rfl
@[go_sem] theorem ze85 : zeroCells Tryd.prog 85 = [.v (.string ⟨⟨[]⟩⟩), .list true []] := by kernel_rfl
@[go_sem] theorem zl85 : zeroLen Tryd.prog 85 = true := by kernel_rfl
@[go_sem] theorem un85 : (Tryd.prog.underlying 85).isSome = true := by kernel_rfl
@[go_sem] theorem fl85_0 : fld Tryd.prog 85 0 = some (0, 9) := by kernel_rfl
@[go_sem] theorem fl85_1 : fld Tryd.prog 85 1 = some (1, 83) := by kernel_rfl
@[go_sem] theorem sb85 : structB Tryd.prog 85 = true := by kernel_rfl
/- func(int, string) api.Zone -/
@[go_sem] theorem ag86 : aggB Tryd.prog 86 = false := by kernel_rfl
@[go_sem] theorem ce86 : Tryd.prog.cellsOf 86 = 1 := by kernel_rfl
@[go_sem] theorem by86 : Tryd.prog.bytesOf 86 = 8 := by kernel_rfl
@[go_sem] theorem ze86 : zeroCells Tryd.prog 86 = [.v .nilFunc] := by kernel_rfl
@[go_sem] theorem zl86 : zeroLen Tryd.prog 86 = true := by kernel_rfl
@[go_sem] theorem un86 : (Tryd.prog.underlying 86).isSome = true := by kernel_rfl
/- []api.Question -/
@[go_sem] theorem ag87 : aggB Tryd.prog 87 = false := by kernel_rfl
@[go_sem] theorem ce87 : Tryd.prog.cellsOf 87 = 1 := by kernel_rfl
@[go_sem] theorem by87 : Tryd.prog.bytesOf 87 = 24 := by kernel_rfl
@[go_sem] theorem ze87 : zeroCells Tryd.prog 87 = [.list true []] := by kernel_rfl
@[go_sem] theorem zl87 : zeroLen Tryd.prog 87 = true := by kernel_rfl
@[go_sem] theorem un87 : (Tryd.prog.underlying 87).isSome = true := by kernel_rfl
@[go_sem] theorem el87 : elemT Tryd.prog 87 = some 95 := by kernel_rfl
/- struct { Apex string; From int; To int; Drop []api.Question; Put []api.Signed } -/
@[go_sem] theorem ag88 : aggB Tryd.prog 88 = true := by kernel_rfl
@[go_sem] theorem ce88 : Tryd.prog.cellsOf 88 = 5 := by kernel_rfl
@[go_sem] theorem by88 : Tryd.prog.bytesOf 88 = 80 := by kernel_rfl
@[go_sem] theorem ze88 : zeroCells Tryd.prog 88 = [.v (.string ⟨⟨[]⟩⟩), .v (.int .i64 0), .v (.int .i64 0), .list true [], .list true []] := by kernel_rfl
@[go_sem] theorem zl88 : zeroLen Tryd.prog 88 = true := by kernel_rfl
@[go_sem] theorem un88 : (Tryd.prog.underlying 88).isSome = true := by kernel_rfl
@[go_sem] theorem fl88_0 : fld Tryd.prog 88 0 = some (0, 9) := by kernel_rfl
@[go_sem] theorem fl88_1 : fld Tryd.prog 88 1 = some (1, 3) := by kernel_rfl
@[go_sem] theorem fl88_2 : fld Tryd.prog 88 2 = some (2, 3) := by kernel_rfl
@[go_sem] theorem fl88_3 : fld Tryd.prog 88 3 = some (3, 87) := by kernel_rfl
@[go_sem] theorem fl88_4 : fld Tryd.prog 88 4 = some (4, 83) := by kernel_rfl
@[go_sem] theorem sb88 : structB Tryd.prog 88 = true := by kernel_rfl
/- api.Delta -/
@[go_sem] theorem ag89 : aggB Tryd.prog 89 = true := by kernel_rfl
@[go_sem] theorem ce89 : Tryd.prog.cellsOf 89 = 5 := by kernel_rfl
@[go_sem] theorem by89 : Tryd.prog.bytesOf 89 = 80 := by kernel_rfl
@[go_sem] theorem ze89 : zeroCells Tryd.prog 89 = [.v (.string ⟨⟨[]⟩⟩), .v (.int .i64 0), .v (.int .i64 0), .list true [], .list true []] := by kernel_rfl
@[go_sem] theorem zl89 : zeroLen Tryd.prog 89 = true := by kernel_rfl
@[go_sem] theorem un89 : (Tryd.prog.underlying 89).isSome = true := by kernel_rfl
@[go_sem] theorem fl89_0 : fld Tryd.prog 89 0 = some (0, 9) := by kernel_rfl
@[go_sem] theorem fl89_1 : fld Tryd.prog 89 1 = some (1, 3) := by kernel_rfl
@[go_sem] theorem fl89_2 : fld Tryd.prog 89 2 = some (2, 3) := by kernel_rfl
@[go_sem] theorem fl89_3 : fld Tryd.prog 89 3 = some (3, 87) := by kernel_rfl
@[go_sem] theorem fl89_4 : fld Tryd.prog 89 4 = some (4, 83) := by kernel_rfl
@[go_sem] theorem sb89 : structB Tryd.prog 89 = true := by kernel_rfl
/- func(api.Zone, api.Zone) (api.Delta, api.Errno) -/
@[go_sem] theorem ag91 : aggB Tryd.prog 91 = false := by kernel_rfl
@[go_sem] theorem ce91 : Tryd.prog.cellsOf 91 = 1 := by kernel_rfl
@[go_sem] theorem by91 : Tryd.prog.bytesOf 91 = 8 := by kernel_rfl
@[go_sem] theorem ze91 : zeroCells Tryd.prog 91 = [.v .nilFunc] := by kernel_rfl
@[go_sem] theorem zl91 : zeroLen Tryd.prog 91 = true := by kernel_rfl
@[go_sem] theorem un91 : (Tryd.prog.underlying 91).isSome = true := by kernel_rfl
/- func(api.Zone, api.Delta) (api.Zone, api.Errno) -/
@[go_sem] theorem ag93 : aggB Tryd.prog 93 = false := by kernel_rfl
@[go_sem] theorem ce93 : Tryd.prog.cellsOf 93 = 1 := by kernel_rfl
@[go_sem] theorem by93 : Tryd.prog.bytesOf 93 = 8 := by kernel_rfl
@[go_sem] theorem ze93 : zeroCells Tryd.prog 93 = [.v .nilFunc] := by kernel_rfl
@[go_sem] theorem zl93 : zeroLen Tryd.prog 93 = true := by kernel_rfl
@[go_sem] theorem un93 : (Tryd.prog.underlying 93).isSome = true := by kernel_rfl
/- struct { Name string; Type int } -/
@[go_sem] theorem ag94 : aggB Tryd.prog 94 = true := by kernel_rfl
@[go_sem] theorem ce94 : Tryd.prog.cellsOf 94 = 2 := by kernel_rfl
@[go_sem] theorem by94 : Tryd.prog.bytesOf 94 = 24 := by kernel_rfl
@[go_sem] theorem ze94 : zeroCells Tryd.prog 94 = [.v (.string ⟨⟨[]⟩⟩), .v (.int .i64 0)] := by kernel_rfl
@[go_sem] theorem zl94 : zeroLen Tryd.prog 94 = true := by kernel_rfl
@[go_sem] theorem un94 : (Tryd.prog.underlying 94).isSome = true := by kernel_rfl
@[go_sem] theorem fl94_0 : fld Tryd.prog 94 0 = some (0, 9) := by kernel_rfl
@[go_sem] theorem fl94_1 : fld Tryd.prog 94 1 = some (1, 3) := by kernel_rfl
@[go_sem] theorem sb94 : structB Tryd.prog 94 = true := by kernel_rfl
/- api.Question -/
@[go_sem] theorem ag95 : aggB Tryd.prog 95 = true := by kernel_rfl
@[go_sem] theorem ce95 : Tryd.prog.cellsOf 95 = 2 := by kernel_rfl
@[go_sem] theorem by95 : Tryd.prog.bytesOf 95 = 24 := by kernel_rfl
@[go_sem] theorem ze95 : zeroCells Tryd.prog 95 = [.v (.string ⟨⟨[]⟩⟩), .v (.int .i64 0)] := by kernel_rfl
@[go_sem] theorem zl95 : zeroLen Tryd.prog 95 = true := by kernel_rfl
@[go_sem] theorem un95 : (Tryd.prog.underlying 95).isSome = true := by kernel_rfl
@[go_sem] theorem fl95_0 : fld Tryd.prog 95 0 = some (0, 9) := by kernel_rfl
@[go_sem] theorem fl95_1 : fld Tryd.prog 95 1 = some (1, 3) := by kernel_rfl
@[go_sem] theorem sb95 : structB Tryd.prog 95 = true := by kernel_rfl
@[go_sem] theorem ek95 : eqKinds Tryd.prog 95 = some [.s, .i] := by kernel_rfl
/- []api.Sig -/
@[go_sem] theorem ag96 : aggB Tryd.prog 96 = false := by kernel_rfl
@[go_sem] theorem ce96 : Tryd.prog.cellsOf 96 = 1 := by kernel_rfl
@[go_sem] theorem by96 : Tryd.prog.bytesOf 96 = 24 := by kernel_rfl
@[go_sem] theorem ze96 : zeroCells Tryd.prog 96 = [.list true []] := by kernel_rfl
@[go_sem] theorem zl96 : zeroLen Tryd.prog 96 = true := by kernel_rfl
@[go_sem] theorem un96 : (Tryd.prog.underlying 96).isSome = true := by kernel_rfl
@[go_sem] theorem el96 : elemT Tryd.prog 96 = some 151 := by kernel_rfl
/- struct { Set api.Set; Sigs []api.Sig } -/
@[go_sem] theorem ag97 : aggB Tryd.prog 97 = true := by kernel_rfl
@[go_sem] theorem ce97 : Tryd.prog.cellsOf 97 = 5 := by kernel_rfl
@[go_sem] theorem by97 : Tryd.prog.bytesOf 97 = 80 := by kernel_rfl
@[go_sem] theorem ze97 : zeroCells Tryd.prog 97 = [.v (.string ⟨⟨[]⟩⟩), .v (.int .i64 0), .v (.int .i64 0), .list true [], .list true []] := by kernel_rfl
@[go_sem] theorem zl97 : zeroLen Tryd.prog 97 = true := by kernel_rfl
@[go_sem] theorem un97 : (Tryd.prog.underlying 97).isSome = true := by kernel_rfl
@[go_sem] theorem fl97_0 : fld Tryd.prog 97 0 = some (0, 24) := by kernel_rfl
@[go_sem] theorem fl97_1 : fld Tryd.prog 97 1 = some (4, 96) := by kernel_rfl
@[go_sem] theorem sb97 : structB Tryd.prog 97 = true := by kernel_rfl
/- api.Signed -/
@[go_sem] theorem ag98 : aggB Tryd.prog 98 = true := by kernel_rfl
@[go_sem] theorem ce98 : Tryd.prog.cellsOf 98 = 5 := by kernel_rfl
@[go_sem] theorem by98 : Tryd.prog.bytesOf 98 = 80 := by kernel_rfl
@[go_sem] theorem ze98 : zeroCells Tryd.prog 98 = [.v (.string ⟨⟨[]⟩⟩), .v (.int .i64 0), .v (.int .i64 0), .list true [], .list true []] := by kernel_rfl
@[go_sem] theorem zl98 : zeroLen Tryd.prog 98 = true := by kernel_rfl
@[go_sem] theorem un98 : (Tryd.prog.underlying 98).isSome = true := by kernel_rfl
@[go_sem] theorem fl98_0 : fld Tryd.prog 98 0 = some (0, 24) := by kernel_rfl
@[go_sem] theorem fl98_1 : fld Tryd.prog 98 1 = some (4, 96) := by kernel_rfl
@[go_sem] theorem sb98 : structB Tryd.prog 98 = true := by kernel_rfl
/- func(api.Delta, api.Delta) bool -/
@[go_sem] theorem ag99 : aggB Tryd.prog 99 = false := by kernel_rfl
@[go_sem] theorem ce99 : Tryd.prog.cellsOf 99 = 1 := by kernel_rfl
@[go_sem] theorem by99 : Tryd.prog.bytesOf 99 = 8 := by kernel_rfl
@[go_sem] theorem ze99 : zeroCells Tryd.prog 99 = [.v .nilFunc] := by kernel_rfl
@[go_sem] theorem zl99 : zeroLen Tryd.prog 99 = true := by kernel_rfl
@[go_sem] theorem un99 : (Tryd.prog.underlying 99).isSome = true := by kernel_rfl
/- func(api.Zone, api.Zone) bool -/
@[go_sem] theorem ag100 : aggB Tryd.prog 100 = false := by kernel_rfl
@[go_sem] theorem ce100 : Tryd.prog.cellsOf 100 = 1 := by kernel_rfl
@[go_sem] theorem by100 : Tryd.prog.bytesOf 100 = 8 := by kernel_rfl
@[go_sem] theorem ze100 : zeroCells Tryd.prog 100 = [.v .nilFunc] := by kernel_rfl
@[go_sem] theorem zl100 : zeroLen Tryd.prog 100 = true := by kernel_rfl
@[go_sem] theorem un100 : (Tryd.prog.underlying 100).isSome = true := by kernel_rfl
/- func(int, int) bool -/
@[go_sem] theorem ag101 : aggB Tryd.prog 101 = false := by kernel_rfl
@[go_sem] theorem ce101 : Tryd.prog.cellsOf 101 = 1 := by kernel_rfl
@[go_sem] theorem by101 : Tryd.prog.bytesOf 101 = 8 := by kernel_rfl
@[go_sem] theorem ze101 : zeroCells Tryd.prog 101 = [.v .nilFunc] := by kernel_rfl
@[go_sem] theorem zl101 : zeroLen Tryd.prog 101 = true := by kernel_rfl
@[go_sem] theorem un101 : (Tryd.prog.underlying 101).isSome = true := by kernel_rfl
/- []int -/
@[go_sem] theorem ag102 : aggB Tryd.prog 102 = false := by kernel_rfl
@[go_sem] theorem ce102 : Tryd.prog.cellsOf 102 = 1 := by kernel_rfl
@[go_sem] theorem by102 : Tryd.prog.bytesOf 102 = 24 := by kernel_rfl
@[go_sem] theorem ze102 : zeroCells Tryd.prog 102 = [.list true []] := by kernel_rfl
@[go_sem] theorem zl102 : zeroLen Tryd.prog 102 = true := by kernel_rfl
@[go_sem] theorem un102 : (Tryd.prog.underlying 102).isSome = true := by kernel_rfl
@[go_sem] theorem el102 : elemT Tryd.prog 102 = some 3 := by kernel_rfl
/- func(string, string) (int, api.Errno) -/
@[go_sem] theorem ag103 : aggB Tryd.prog 103 = false := by kernel_rfl
@[go_sem] theorem ce103 : Tryd.prog.cellsOf 103 = 1 := by kernel_rfl
@[go_sem] theorem by103 : Tryd.prog.bytesOf 103 = 8 := by kernel_rfl
@[go_sem] theorem ze103 : zeroCells Tryd.prog 103 = [.v .nilFunc] := by kernel_rfl
@[go_sem] theorem zl103 : zeroLen Tryd.prog 103 = true := by kernel_rfl
@[go_sem] theorem un103 : (Tryd.prog.underlying 103).isSome = true := by kernel_rfl
/- func(int, int) int -/
@[go_sem] theorem ag104 : aggB Tryd.prog 104 = false := by kernel_rfl
@[go_sem] theorem ce104 : Tryd.prog.cellsOf 104 = 1 := by kernel_rfl
@[go_sem] theorem by104 : Tryd.prog.bytesOf 104 = 8 := by kernel_rfl
@[go_sem] theorem ze104 : zeroCells Tryd.prog 104 = [.v .nilFunc] := by kernel_rfl
@[go_sem] theorem zl104 : zeroLen Tryd.prog 104 = true := by kernel_rfl
@[go_sem] theorem un104 : (Tryd.prog.underlying 104).isSome = true := by kernel_rfl
/- func([]api.Set, int, func(api.Set, api.Set) int) -/
@[go_sem] theorem ag105 : aggB Tryd.prog 105 = false := by kernel_rfl
@[go_sem] theorem ce105 : Tryd.prog.cellsOf 105 = 1 := by kernel_rfl
@[go_sem] theorem by105 : Tryd.prog.bytesOf 105 = 8 := by kernel_rfl
@[go_sem] theorem ze105 : zeroCells Tryd.prog 105 = [.v .nilFunc] := by kernel_rfl
@[go_sem] theorem zl105 : zeroLen Tryd.prog 105 = true := by kernel_rfl
@[go_sem] theorem un105 : (Tryd.prog.underlying 105).isSome = true := by kernel_rfl
/- func([]api.Datum, func(api.Datum, api.Datum) int) -/
@[go_sem] theorem ag106 : aggB Tryd.prog 106 = false := by kernel_rfl
@[go_sem] theorem ce106 : Tryd.prog.cellsOf 106 = 1 := by kernel_rfl
@[go_sem] theorem by106 : Tryd.prog.bytesOf 106 = 8 := by kernel_rfl
@[go_sem] theorem ze106 : zeroCells Tryd.prog 106 = [.v .nilFunc] := by kernel_rfl
@[go_sem] theorem zl106 : zeroLen Tryd.prog 106 = true := by kernel_rfl
@[go_sem] theorem un106 : (Tryd.prog.underlying 106).isSome = true := by kernel_rfl
/- func([]api.Datum) []api.Datum -/
@[go_sem] theorem ag107 : aggB Tryd.prog 107 = false := by kernel_rfl
@[go_sem] theorem ce107 : Tryd.prog.cellsOf 107 = 1 := by kernel_rfl
@[go_sem] theorem by107 : Tryd.prog.bytesOf 107 = 8 := by kernel_rfl
@[go_sem] theorem ze107 : zeroCells Tryd.prog 107 = [.v .nilFunc] := by kernel_rfl
@[go_sem] theorem zl107 : zeroLen Tryd.prog 107 = true := by kernel_rfl
@[go_sem] theorem un107 : (Tryd.prog.underlying 107).isSome = true := by kernel_rfl
/- name.text -/
@[go_sem] theorem ag108 : aggB Tryd.prog 108 = false := by kernel_rfl
@[go_sem] theorem ce108 : Tryd.prog.cellsOf 108 = 1 := by kernel_rfl
@[go_sem] theorem by108 : Tryd.prog.bytesOf 108 = 16 := by kernel_rfl
@[go_sem] theorem ze108 : zeroCells Tryd.prog 108 = [.v (.string ⟨⟨[]⟩⟩)] := by kernel_rfl
@[go_sem] theorem zl108 : zeroLen Tryd.prog 108 = true := by kernel_rfl
@[go_sem] theorem un108 : Tryd.prog.underlying 108 = some .string := by kernel_rfl
/- func(string, string) bool -/
@[go_sem] theorem ag109 : aggB Tryd.prog 109 = false := by kernel_rfl
@[go_sem] theorem ce109 : Tryd.prog.cellsOf 109 = 1 := by kernel_rfl
@[go_sem] theorem by109 : Tryd.prog.bytesOf 109 = 8 := by kernel_rfl
@[go_sem] theorem ze109 : zeroCells Tryd.prog 109 = [.v .nilFunc] := by kernel_rfl
@[go_sem] theorem zl109 : zeroLen Tryd.prog 109 = true := by kernel_rfl
@[go_sem] theorem un109 : (Tryd.prog.underlying 109).isSome = true := by kernel_rfl
/- func(...int) int -/
@[go_sem] theorem ag110 : aggB Tryd.prog 110 = false := by kernel_rfl
@[go_sem] theorem ce110 : Tryd.prog.cellsOf 110 = 1 := by kernel_rfl
@[go_sem] theorem by110 : Tryd.prog.bytesOf 110 = 8 := by kernel_rfl
@[go_sem] theorem ze110 : zeroCells Tryd.prog 110 = [.v .nilFunc] := by kernel_rfl
@[go_sem] theorem zl110 : zeroLen Tryd.prog 110 = true := by kernel_rfl
@[go_sem] theorem un110 : (Tryd.prog.underlying 110).isSome = true := by kernel_rfl
/- func(string, string) int -/
@[go_sem] theorem ag111 : aggB Tryd.prog 111 = false := by kernel_rfl
@[go_sem] theorem ce111 : Tryd.prog.cellsOf 111 = 1 := by kernel_rfl
@[go_sem] theorem by111 : Tryd.prog.bytesOf 111 = 8 := by kernel_rfl
@[go_sem] theorem ze111 : zeroCells Tryd.prog 111 = [.v .nilFunc] := by kernel_rfl
@[go_sem] theorem zl111 : zeroLen Tryd.prog 111 = true := by kernel_rfl
@[go_sem] theorem un111 : (Tryd.prog.underlying 111).isSome = true := by kernel_rfl
/- []string -/
@[go_sem] theorem ag112 : aggB Tryd.prog 112 = false := by kernel_rfl
@[go_sem] theorem ce112 : Tryd.prog.cellsOf 112 = 1 := by kernel_rfl
@[go_sem] theorem by112 : Tryd.prog.bytesOf 112 = 24 := by kernel_rfl
@[go_sem] theorem ze112 : zeroCells Tryd.prog 112 = [.list true []] := by kernel_rfl
@[go_sem] theorem zl112 : zeroLen Tryd.prog 112 = true := by kernel_rfl
@[go_sem] theorem un112 : (Tryd.prog.underlying 112).isSome = true := by kernel_rfl
@[go_sem] theorem el112 : elemT Tryd.prog 112 = some 9 := by kernel_rfl
/- func(string) []string -/
@[go_sem] theorem ag113 : aggB Tryd.prog 113 = false := by kernel_rfl
@[go_sem] theorem ce113 : Tryd.prog.cellsOf 113 = 1 := by kernel_rfl
@[go_sem] theorem by113 : Tryd.prog.bytesOf 113 = 8 := by kernel_rfl
@[go_sem] theorem ze113 : zeroCells Tryd.prog 113 = [.v .nilFunc] := by kernel_rfl
@[go_sem] theorem zl113 : zeroLen Tryd.prog 113 = true := by kernel_rfl
@[go_sem] theorem un113 : (Tryd.prog.underlying 113).isSome = true := by kernel_rfl
/- uint64 -/
@[go_sem] theorem ag114 : aggB Tryd.prog 114 = false := by kernel_rfl
@[go_sem] theorem ce114 : Tryd.prog.cellsOf 114 = 1 := by kernel_rfl
@[go_sem] theorem by114 : Tryd.prog.bytesOf 114 = 8 := by kernel_rfl
@[go_sem] theorem ze114 : zeroCells Tryd.prog 114 = [.v (.int .u64 0)] := by kernel_rfl
@[go_sem] theorem zl114 : zeroLen Tryd.prog 114 = true := by kernel_rfl
@[go_sem] theorem un114 : Tryd.prog.underlying 114 = some (.int .u64) := by kernel_rfl
/- *record.reader -/
@[go_sem] theorem ag115 : aggB Tryd.prog 115 = false := by kernel_rfl
@[go_sem] theorem ce115 : Tryd.prog.cellsOf 115 = 1 := by kernel_rfl
@[go_sem] theorem by115 : Tryd.prog.bytesOf 115 = 8 := by kernel_rfl
@[go_sem] theorem ze115 : zeroCells Tryd.prog 115 = [.v (.pointer none)] := by kernel_rfl
@[go_sem] theorem zl115 : zeroLen Tryd.prog 115 = true := by kernel_rfl
@[go_sem] theorem un115 : (Tryd.prog.underlying 115).isSome = true := by kernel_rfl
/- func(int) []uint8 -/
@[go_sem] theorem ag116 : aggB Tryd.prog 116 = false := by kernel_rfl
@[go_sem] theorem ce116 : Tryd.prog.cellsOf 116 = 1 := by kernel_rfl
@[go_sem] theorem by116 : Tryd.prog.bytesOf 116 = 8 := by kernel_rfl
@[go_sem] theorem ze116 : zeroCells Tryd.prog 116 = [.v .nilFunc] := by kernel_rfl
@[go_sem] theorem zl116 : zeroLen Tryd.prog 116 = true := by kernel_rfl
@[go_sem] theorem un116 : (Tryd.prog.underlying 116).isSome = true := by kernel_rfl
/- uint -/
@[go_sem] theorem ag117 : aggB Tryd.prog 117 = false := by kernel_rfl
@[go_sem] theorem ce117 : Tryd.prog.cellsOf 117 = 1 := by kernel_rfl
@[go_sem] theorem by117 : Tryd.prog.bytesOf 117 = 8 := by kernel_rfl
@[go_sem] theorem ze117 : zeroCells Tryd.prog 117 = [.v (.int .u64 0)] := by kernel_rfl
@[go_sem] theorem zl117 : zeroLen Tryd.prog 117 = true := by kernel_rfl
@[go_sem] theorem un117 : Tryd.prog.underlying 117 = some (.int .u64) := by kernel_rfl
/- func(api.Zone) (int, api.Errno) -/
@[go_sem] theorem ag118 : aggB Tryd.prog 118 = false := by kernel_rfl
@[go_sem] theorem ce118 : Tryd.prog.cellsOf 118 = 1 := by kernel_rfl
@[go_sem] theorem by118 : Tryd.prog.bytesOf 118 = 8 := by kernel_rfl
@[go_sem] theorem ze118 : zeroCells Tryd.prog 118 = [.v .nilFunc] := by kernel_rfl
@[go_sem] theorem zl118 : zeroLen Tryd.prog 118 = true := by kernel_rfl
@[go_sem] theorem un118 : (Tryd.prog.underlying 118).isSome = true := by kernel_rfl
/- map[api.Question]api.Signed -/
@[go_sem] theorem ag119 : aggB Tryd.prog 119 = false := by kernel_rfl
@[go_sem] theorem ce119 : Tryd.prog.cellsOf 119 = 1 := by kernel_rfl
@[go_sem] theorem by119 : Tryd.prog.bytesOf 119 = 8 := by kernel_rfl
@[go_sem] theorem ze119 : zeroCells Tryd.prog 119 = [.v (.map none)] := by kernel_rfl
@[go_sem] theorem zl119 : zeroLen Tryd.prog 119 = true := by kernel_rfl
@[go_sem] theorem un119 : (Tryd.prog.underlying 119).isSome = true := by kernel_rfl
/- func([]api.Signed) map[api.Question]api.Signed -/
@[go_sem] theorem ag120 : aggB Tryd.prog 120 = false := by kernel_rfl
@[go_sem] theorem ce120 : Tryd.prog.cellsOf 120 = 1 := by kernel_rfl
@[go_sem] theorem by120 : Tryd.prog.bytesOf 120 = 8 := by kernel_rfl
@[go_sem] theorem ze120 : zeroCells Tryd.prog 120 = [.v .nilFunc] := by kernel_rfl
@[go_sem] theorem zl120 : zeroLen Tryd.prog 120 = true := by kernel_rfl
@[go_sem] theorem un120 : (Tryd.prog.underlying 120).isSome = true := by kernel_rfl
/- func([]api.Signed, func(api.Signed) (api.Question, bool)) []api.Question -/
@[go_sem] theorem ag121 : aggB Tryd.prog 121 = false := by kernel_rfl
@[go_sem] theorem ce121 : Tryd.prog.cellsOf 121 = 1 := by kernel_rfl
@[go_sem] theorem by121 : Tryd.prog.bytesOf 121 = 8 := by kernel_rfl
@[go_sem] theorem ze121 : zeroCells Tryd.prog 121 = [.v .nilFunc] := by kernel_rfl
@[go_sem] theorem zl121 : zeroLen Tryd.prog 121 = true := by kernel_rfl
@[go_sem] theorem un121 : (Tryd.prog.underlying 121).isSome = true := by kernel_rfl
/- func(api.Signed) api.Question -/
@[go_sem] theorem ag122 : aggB Tryd.prog 122 = false := by kernel_rfl
@[go_sem] theorem ce122 : Tryd.prog.cellsOf 122 = 1 := by kernel_rfl
@[go_sem] theorem by122 : Tryd.prog.bytesOf 122 = 8 := by kernel_rfl
@[go_sem] theorem ze122 : zeroCells Tryd.prog 122 = [.v .nilFunc] := by kernel_rfl
@[go_sem] theorem zl122 : zeroLen Tryd.prog 122 = true := by kernel_rfl
@[go_sem] theorem un122 : (Tryd.prog.underlying 122).isSome = true := by kernel_rfl
/- func(api.Signed) (api.Question, bool) -/
@[go_sem] theorem ag124 : aggB Tryd.prog 124 = false := by kernel_rfl
@[go_sem] theorem ce124 : Tryd.prog.cellsOf 124 = 1 := by kernel_rfl
@[go_sem] theorem by124 : Tryd.prog.bytesOf 124 = 8 := by kernel_rfl
@[go_sem] theorem ze124 : zeroCells Tryd.prog 124 = [.v .nilFunc] := by kernel_rfl
@[go_sem] theorem zl124 : zeroLen Tryd.prog 124 = true := by kernel_rfl
@[go_sem] theorem un124 : (Tryd.prog.underlying 124).isSome = true := by kernel_rfl
/- func([]api.Signed, func(api.Signed) (api.Signed, bool)) []api.Signed -/
@[go_sem] theorem ag125 : aggB Tryd.prog 125 = false := by kernel_rfl
@[go_sem] theorem ce125 : Tryd.prog.cellsOf 125 = 1 := by kernel_rfl
@[go_sem] theorem by125 : Tryd.prog.bytesOf 125 = 8 := by kernel_rfl
@[go_sem] theorem ze125 : zeroCells Tryd.prog 125 = [.v .nilFunc] := by kernel_rfl
@[go_sem] theorem zl125 : zeroLen Tryd.prog 125 = true := by kernel_rfl
@[go_sem] theorem un125 : (Tryd.prog.underlying 125).isSome = true := by kernel_rfl
/- func(api.Signed) api.Signed -/
@[go_sem] theorem ag126 : aggB Tryd.prog 126 = false := by kernel_rfl
@[go_sem] theorem ce126 : Tryd.prog.cellsOf 126 = 1 := by kernel_rfl
@[go_sem] theorem by126 : Tryd.prog.bytesOf 126 = 8 := by kernel_rfl
@[go_sem] theorem ze126 : zeroCells Tryd.prog 126 = [.v .nilFunc] := by kernel_rfl
@[go_sem] theorem zl126 : zeroLen Tryd.prog 126 = true := by kernel_rfl
@[go_sem] theorem un126 : (Tryd.prog.underlying 126).isSome = true := by kernel_rfl
/- func(api.Signed, api.Signed) bool -/
@[go_sem] theorem ag127 : aggB Tryd.prog 127 = false := by kernel_rfl
@[go_sem] theorem ce127 : Tryd.prog.cellsOf 127 = 1 := by kernel_rfl
@[go_sem] theorem by127 : Tryd.prog.bytesOf 127 = 8 := by kernel_rfl
@[go_sem] theorem ze127 : zeroCells Tryd.prog 127 = [.v .nilFunc] := by kernel_rfl
@[go_sem] theorem zl127 : zeroLen Tryd.prog 127 = true := by kernel_rfl
@[go_sem] theorem un127 : (Tryd.prog.underlying 127).isSome = true := by kernel_rfl
/- func(api.Signed) (api.Signed, bool) -/
@[go_sem] theorem ag128 : aggB Tryd.prog 128 = false := by kernel_rfl
@[go_sem] theorem ce128 : Tryd.prog.cellsOf 128 = 1 := by kernel_rfl
@[go_sem] theorem by128 : Tryd.prog.bytesOf 128 = 8 := by kernel_rfl
@[go_sem] theorem ze128 : zeroCells Tryd.prog 128 = [.v .nilFunc] := by kernel_rfl
@[go_sem] theorem zl128 : zeroLen Tryd.prog 128 = true := by kernel_rfl
@[go_sem] theorem un128 : (Tryd.prog.underlying 128).isSome = true := by kernel_rfl
/- func(api.Delta) bool -/
@[go_sem] theorem ag129 : aggB Tryd.prog 129 = false := by kernel_rfl
@[go_sem] theorem ce129 : Tryd.prog.cellsOf 129 = 1 := by kernel_rfl
@[go_sem] theorem by129 : Tryd.prog.bytesOf 129 = 8 := by kernel_rfl
@[go_sem] theorem ze129 : zeroCells Tryd.prog 129 = [.v .nilFunc] := by kernel_rfl
@[go_sem] theorem zl129 : zeroLen Tryd.prog 129 = true := by kernel_rfl
@[go_sem] theorem un129 : (Tryd.prog.underlying 129).isSome = true := by kernel_rfl
/- func([]api.Signed, func(api.Signed, api.Signed) int) -/
@[go_sem] theorem ag130 : aggB Tryd.prog 130 = false := by kernel_rfl
@[go_sem] theorem ce130 : Tryd.prog.cellsOf 130 = 1 := by kernel_rfl
@[go_sem] theorem by130 : Tryd.prog.bytesOf 130 = 8 := by kernel_rfl
@[go_sem] theorem ze130 : zeroCells Tryd.prog 130 = [.v .nilFunc] := by kernel_rfl
@[go_sem] theorem zl130 : zeroLen Tryd.prog 130 = true := by kernel_rfl
@[go_sem] theorem un130 : (Tryd.prog.underlying 130).isSome = true := by kernel_rfl
/- func(api.Signed, api.Signed) int -/
@[go_sem] theorem ag131 : aggB Tryd.prog 131 = false := by kernel_rfl
@[go_sem] theorem ce131 : Tryd.prog.cellsOf 131 = 1 := by kernel_rfl
@[go_sem] theorem by131 : Tryd.prog.bytesOf 131 = 8 := by kernel_rfl
@[go_sem] theorem ze131 : zeroCells Tryd.prog 131 = [.v .nilFunc] := by kernel_rfl
@[go_sem] theorem zl131 : zeroLen Tryd.prog 131 = true := by kernel_rfl
@[go_sem] theorem un131 : (Tryd.prog.underlying 131).isSome = true := by kernel_rfl
/- func(func(api.Signed) api.Question) func(api.Signed, api.Signed) int -/
@[go_sem] theorem ag132 : aggB Tryd.prog 132 = false := by kernel_rfl
@[go_sem] theorem ce132 : Tryd.prog.cellsOf 132 = 1 := by kernel_rfl
@[go_sem] theorem by132 : Tryd.prog.bytesOf 132 = 8 := by kernel_rfl
@[go_sem] theorem ze132 : zeroCells Tryd.prog 132 = [.v .nilFunc] := by kernel_rfl
@[go_sem] theorem zl132 : zeroLen Tryd.prog 132 = true := by kernel_rfl
@[go_sem] theorem un132 : (Tryd.prog.underlying 132).isSome = true := by kernel_rfl
/- func([]api.Signed, []api.Signed) bool -/
@[go_sem] theorem ag133 : aggB Tryd.prog 133 = false := by kernel_rfl
@[go_sem] theorem ce133 : Tryd.prog.cellsOf 133 = 1 := by kernel_rfl
@[go_sem] theorem by133 : Tryd.prog.bytesOf 133 = 8 := by kernel_rfl
@[go_sem] theorem ze133 : zeroCells Tryd.prog 133 = [.v .nilFunc] := by kernel_rfl
@[go_sem] theorem zl133 : zeroLen Tryd.prog 133 = true := by kernel_rfl
@[go_sem] theorem un133 : (Tryd.prog.underlying 133).isSome = true := by kernel_rfl
/- func() (string, bool) -/
@[go_sem] theorem ag134 : aggB Tryd.prog 134 = false := by kernel_rfl
@[go_sem] theorem ce134 : Tryd.prog.cellsOf 134 = 1 := by kernel_rfl
@[go_sem] theorem by134 : Tryd.prog.bytesOf 134 = 8 := by kernel_rfl
@[go_sem] theorem ze134 : zeroCells Tryd.prog 134 = [.v .nilFunc] := by kernel_rfl
@[go_sem] theorem zl134 : zeroLen Tryd.prog 134 = true := by kernel_rfl
@[go_sem] theorem un134 : (Tryd.prog.underlying 134).isSome = true := by kernel_rfl
/- func() func() (string, bool) -/
@[go_sem] theorem ag135 : aggB Tryd.prog 135 = false := by kernel_rfl
@[go_sem] theorem ce135 : Tryd.prog.cellsOf 135 = 1 := by kernel_rfl
@[go_sem] theorem by135 : Tryd.prog.bytesOf 135 = 8 := by kernel_rfl
@[go_sem] theorem ze135 : zeroCells Tryd.prog 135 = [.v .nilFunc] := by kernel_rfl
@[go_sem] theorem zl135 : zeroLen Tryd.prog 135 = true := by kernel_rfl
@[go_sem] theorem un135 : (Tryd.prog.underlying 135).isSome = true := by kernel_rfl
/- func(func(string) bool) -/
@[go_sem] theorem ag136 : aggB Tryd.prog 136 = false := by kernel_rfl
@[go_sem] theorem ce136 : Tryd.prog.cellsOf 136 = 1 := by kernel_rfl
@[go_sem] theorem by136 : Tryd.prog.bytesOf 136 = 8 := by kernel_rfl
@[go_sem] theorem ze136 : zeroCells Tryd.prog 136 = [.v .nilFunc] := by kernel_rfl
@[go_sem] theorem zl136 : zeroLen Tryd.prog 136 = true := by kernel_rfl
@[go_sem] theorem un136 : (Tryd.prog.underlying 136).isSome = true := by kernel_rfl
/- func([]api.Set, int, int, func(api.Set, api.Set) int) -/
@[go_sem] theorem ag138 : aggB Tryd.prog 138 = false := by kernel_rfl
@[go_sem] theorem ce138 : Tryd.prog.cellsOf 138 = 1 := by kernel_rfl
@[go_sem] theorem by138 : Tryd.prog.bytesOf 138 = 8 := by kernel_rfl
@[go_sem] theorem ze138 : zeroCells Tryd.prog 138 = [.v .nilFunc] := by kernel_rfl
@[go_sem] theorem zl138 : zeroLen Tryd.prog 138 = true := by kernel_rfl
@[go_sem] theorem un138 : (Tryd.prog.underlying 138).isSome = true := by kernel_rfl
/- func([]api.Set, int, int, int, func(api.Set, api.Set) int) -/
@[go_sem] theorem ag139 : aggB Tryd.prog 139 = false := by kernel_rfl
@[go_sem] theorem ce139 : Tryd.prog.cellsOf 139 = 1 := by kernel_rfl
@[go_sem] theorem by139 : Tryd.prog.bytesOf 139 = 8 := by kernel_rfl
@[go_sem] theorem ze139 : zeroCells Tryd.prog 139 = [.v .nilFunc] := by kernel_rfl
@[go_sem] theorem zl139 : zeroLen Tryd.prog 139 = true := by kernel_rfl
@[go_sem] theorem un139 : (Tryd.prog.underlying 139).isSome = true := by kernel_rfl
/- func([]api.Datum, int, int, int, func(api.Datum, api.Datum) int) -/
@[go_sem] theorem ag140 : aggB Tryd.prog 140 = false := by kernel_rfl
@[go_sem] theorem ce140 : Tryd.prog.cellsOf 140 = 1 := by kernel_rfl
@[go_sem] theorem by140 : Tryd.prog.bytesOf 140 = 8 := by kernel_rfl
@[go_sem] theorem ze140 : zeroCells Tryd.prog 140 = [.v .nilFunc] := by kernel_rfl
@[go_sem] theorem zl140 : zeroLen Tryd.prog 140 = true := by kernel_rfl
@[go_sem] theorem un140 : (Tryd.prog.underlying 140).isSome = true := by kernel_rfl
/- func(uint) int -/
@[go_sem] theorem ag141 : aggB Tryd.prog 141 = false := by kernel_rfl
@[go_sem] theorem ce141 : Tryd.prog.cellsOf 141 = 1 := by kernel_rfl
@[go_sem] theorem by141 : Tryd.prog.bytesOf 141 = 8 := by kernel_rfl
@[go_sem] theorem ze141 : zeroCells Tryd.prog 141 = [.v .nilFunc] := by kernel_rfl
@[go_sem] theorem zl141 : zeroLen Tryd.prog 141 = true := by kernel_rfl
@[go_sem] theorem un141 : (Tryd.prog.underlying 141).isSome = true := by kernel_rfl
/- func(uint8, uint8, uint8) bool -/
@[go_sem] theorem ag142 : aggB Tryd.prog 142 = false := by kernel_rfl
@[go_sem] theorem ce142 : Tryd.prog.cellsOf 142 = 1 := by kernel_rfl
@[go_sem] theorem by142 : Tryd.prog.bytesOf 142 = 8 := by kernel_rfl
@[go_sem] theorem ze142 : zeroCells Tryd.prog 142 = [.v .nilFunc] := by kernel_rfl
@[go_sem] theorem zl142 : zeroLen Tryd.prog 142 = true := by kernel_rfl
@[go_sem] theorem un142 : (Tryd.prog.underlying 142).isSome = true := by kernel_rfl
/- func(api.Zone) bool -/
@[go_sem] theorem ag143 : aggB Tryd.prog 143 = false := by kernel_rfl
@[go_sem] theorem ce143 : Tryd.prog.cellsOf 143 = 1 := by kernel_rfl
@[go_sem] theorem by143 : Tryd.prog.bytesOf 143 = 8 := by kernel_rfl
@[go_sem] theorem ze143 : zeroCells Tryd.prog 143 = [.v .nilFunc] := by kernel_rfl
@[go_sem] theorem zl143 : zeroLen Tryd.prog 143 = true := by kernel_rfl
@[go_sem] theorem un143 : (Tryd.prog.underlying 143).isSome = true := by kernel_rfl
/- struct { api.Zone } -/
@[go_sem] theorem ag145 : aggB Tryd.prog 145 = true := by kernel_rfl
@[go_sem] theorem ce145 : Tryd.prog.cellsOf 145 = 2 := by kernel_rfl
@[go_sem] theorem by145 : Tryd.prog.bytesOf 145 = 40 := by kernel_rfl
@[go_sem] theorem ze145 : zeroCells Tryd.prog 145 = [.v (.string ⟨⟨[]⟩⟩), .list true []] := by kernel_rfl
@[go_sem] theorem zl145 : zeroLen Tryd.prog 145 = true := by kernel_rfl
@[go_sem] theorem un145 : (Tryd.prog.underlying 145).isSome = true := by kernel_rfl
@[go_sem] theorem fl145_0 : fld Tryd.prog 145 0 = some (0, 85) := by kernel_rfl
@[go_sem] theorem sb145 : structB Tryd.prog 145 = true := by kernel_rfl
/- zone.body -/
@[go_sem] theorem ag146 : aggB Tryd.prog 146 = true := by kernel_rfl
@[go_sem] theorem ce146 : Tryd.prog.cellsOf 146 = 2 := by kernel_rfl
@[go_sem] theorem by146 : Tryd.prog.bytesOf 146 = 40 := by kernel_rfl
@[go_sem] theorem ze146 : zeroCells Tryd.prog 146 = [.v (.string ⟨⟨[]⟩⟩), .list true []] := by kernel_rfl
@[go_sem] theorem zl146 : zeroLen Tryd.prog 146 = true := by kernel_rfl
@[go_sem] theorem un146 : (Tryd.prog.underlying 146).isSome = true := by kernel_rfl
@[go_sem] theorem fl146_0 : fld Tryd.prog 146 0 = some (0, 85) := by kernel_rfl
@[go_sem] theorem sb146 : structB Tryd.prog 146 = true := by kernel_rfl
/- func(api.Question) (int, bool) -/
@[go_sem] theorem ag147 : aggB Tryd.prog 147 = false := by kernel_rfl
@[go_sem] theorem ce147 : Tryd.prog.cellsOf 147 = 1 := by kernel_rfl
@[go_sem] theorem by147 : Tryd.prog.bytesOf 147 = 8 := by kernel_rfl
@[go_sem] theorem ze147 : zeroCells Tryd.prog 147 = [.v .nilFunc] := by kernel_rfl
@[go_sem] theorem zl147 : zeroLen Tryd.prog 147 = true := by kernel_rfl
@[go_sem] theorem un147 : (Tryd.prog.underlying 147).isSome = true := by kernel_rfl
/- func([]api.Sig) []api.Sig -/
@[go_sem] theorem ag149 : aggB Tryd.prog 149 = false := by kernel_rfl
@[go_sem] theorem ce149 : Tryd.prog.cellsOf 149 = 1 := by kernel_rfl
@[go_sem] theorem by149 : Tryd.prog.bytesOf 149 = 8 := by kernel_rfl
@[go_sem] theorem ze149 : zeroCells Tryd.prog 149 = [.v .nilFunc] := by kernel_rfl
@[go_sem] theorem zl149 : zeroLen Tryd.prog 149 = true := by kernel_rfl
@[go_sem] theorem un149 : (Tryd.prog.underlying 149).isSome = true := by kernel_rfl
/- struct { Zone string; Key int; Alg int; From int; Until int; Sum uint64 } -/
@[go_sem] theorem ag150 : aggB Tryd.prog 150 = true := by kernel_rfl
@[go_sem] theorem ce150 : Tryd.prog.cellsOf 150 = 6 := by kernel_rfl
@[go_sem] theorem by150 : Tryd.prog.bytesOf 150 = 56 := by kernel_rfl
@[go_sem] theorem ze150 : zeroCells Tryd.prog 150 = [.v (.string ⟨⟨[]⟩⟩), .v (.int .i64 0), .v (.int .i64 0), .v (.int .i64 0), .v (.int .i64 0), .v (.int .u64 0)] := by kernel_rfl
@[go_sem] theorem zl150 : zeroLen Tryd.prog 150 = true := by kernel_rfl
@[go_sem] theorem un150 : (Tryd.prog.underlying 150).isSome = true := by kernel_rfl
@[go_sem] theorem fl150_0 : fld Tryd.prog 150 0 = some (0, 9) := by kernel_rfl
@[go_sem] theorem fl150_1 : fld Tryd.prog 150 1 = some (1, 3) := by kernel_rfl
@[go_sem] theorem fl150_2 : fld Tryd.prog 150 2 = some (2, 3) := by kernel_rfl
@[go_sem] theorem fl150_3 : fld Tryd.prog 150 3 = some (3, 3) := by kernel_rfl
@[go_sem] theorem fl150_4 : fld Tryd.prog 150 4 = some (4, 3) := by kernel_rfl
@[go_sem] theorem fl150_5 : fld Tryd.prog 150 5 = some (5, 114) := by kernel_rfl
@[go_sem] theorem sb150 : structB Tryd.prog 150 = true := by kernel_rfl
/- api.Sig -/
@[go_sem] theorem ag151 : aggB Tryd.prog 151 = true := by kernel_rfl
@[go_sem] theorem ce151 : Tryd.prog.cellsOf 151 = 6 := by kernel_rfl
@[go_sem] theorem by151 : Tryd.prog.bytesOf 151 = 56 := by kernel_rfl
@[go_sem] theorem ze151 : zeroCells Tryd.prog 151 = [.v (.string ⟨⟨[]⟩⟩), .v (.int .i64 0), .v (.int .i64 0), .v (.int .i64 0), .v (.int .i64 0), .v (.int .u64 0)] := by kernel_rfl
@[go_sem] theorem zl151 : zeroLen Tryd.prog 151 = true := by kernel_rfl
@[go_sem] theorem un151 : (Tryd.prog.underlying 151).isSome = true := by kernel_rfl
@[go_sem] theorem fl151_0 : fld Tryd.prog 151 0 = some (0, 9) := by kernel_rfl
@[go_sem] theorem fl151_1 : fld Tryd.prog 151 1 = some (1, 3) := by kernel_rfl
@[go_sem] theorem fl151_2 : fld Tryd.prog 151 2 = some (2, 3) := by kernel_rfl
@[go_sem] theorem fl151_3 : fld Tryd.prog 151 3 = some (3, 3) := by kernel_rfl
@[go_sem] theorem fl151_4 : fld Tryd.prog 151 4 = some (4, 3) := by kernel_rfl
@[go_sem] theorem fl151_5 : fld Tryd.prog 151 5 = some (5, 114) := by kernel_rfl
@[go_sem] theorem sb151 : structB Tryd.prog 151 = true := by kernel_rfl
@[go_sem] theorem ek151 : eqKinds Tryd.prog 151 = some [.s, .i, .i, .i, .i, .i] := by kernel_rfl
/- func([]api.Datum, []api.Datum) bool -/
@[go_sem] theorem ag152 : aggB Tryd.prog 152 = false := by kernel_rfl
@[go_sem] theorem ce152 : Tryd.prog.cellsOf 152 = 1 := by kernel_rfl
@[go_sem] theorem by152 : Tryd.prog.bytesOf 152 = 8 := by kernel_rfl
@[go_sem] theorem ze152 : zeroCells Tryd.prog 152 = [.v .nilFunc] := by kernel_rfl
@[go_sem] theorem zl152 : zeroLen Tryd.prog 152 = true := by kernel_rfl
@[go_sem] theorem un152 : (Tryd.prog.underlying 152).isSome = true := by kernel_rfl
/- func([]api.Sig, []api.Sig) bool -/
@[go_sem] theorem ag153 : aggB Tryd.prog 153 = false := by kernel_rfl
@[go_sem] theorem ce153 : Tryd.prog.cellsOf 153 = 1 := by kernel_rfl
@[go_sem] theorem by153 : Tryd.prog.bytesOf 153 = 8 := by kernel_rfl
@[go_sem] theorem ze153 : zeroCells Tryd.prog 153 = [.v .nilFunc] := by kernel_rfl
@[go_sem] theorem zl153 : zeroLen Tryd.prog 153 = true := by kernel_rfl
@[go_sem] theorem un153 : (Tryd.prog.underlying 153).isSome = true := by kernel_rfl
/- map[api.Question]bool -/
@[go_sem] theorem ag154 : aggB Tryd.prog 154 = false := by kernel_rfl
@[go_sem] theorem ce154 : Tryd.prog.cellsOf 154 = 1 := by kernel_rfl
@[go_sem] theorem by154 : Tryd.prog.bytesOf 154 = 8 := by kernel_rfl
@[go_sem] theorem ze154 : zeroCells Tryd.prog 154 = [.v (.map none)] := by kernel_rfl
@[go_sem] theorem zl154 : zeroLen Tryd.prog 154 = true := by kernel_rfl
@[go_sem] theorem un154 : (Tryd.prog.underlying 154).isSome = true := by kernel_rfl
/- func(api.Question, api.Question) int -/
@[go_sem] theorem ag155 : aggB Tryd.prog 155 = false := by kernel_rfl
@[go_sem] theorem ce155 : Tryd.prog.cellsOf 155 = 1 := by kernel_rfl
@[go_sem] theorem by155 : Tryd.prog.bytesOf 155 = 8 := by kernel_rfl
@[go_sem] theorem ze155 : zeroCells Tryd.prog 155 = [.v .nilFunc] := by kernel_rfl
@[go_sem] theorem zl155 : zeroLen Tryd.prog 155 = true := by kernel_rfl
@[go_sem] theorem un155 : (Tryd.prog.underlying 155).isSome = true := by kernel_rfl
/- func([]api.Signed, int, int, int, func(api.Signed, api.Signed) int) -/
@[go_sem] theorem ag156 : aggB Tryd.prog 156 = false := by kernel_rfl
@[go_sem] theorem ce156 : Tryd.prog.cellsOf 156 = 1 := by kernel_rfl
@[go_sem] theorem by156 : Tryd.prog.bytesOf 156 = 8 := by kernel_rfl
@[go_sem] theorem ze156 : zeroCells Tryd.prog 156 = [.v .nilFunc] := by kernel_rfl
@[go_sem] theorem zl156 : zeroLen Tryd.prog 156 = true := by kernel_rfl
@[go_sem] theorem un156 : (Tryd.prog.underlying 156).isSome = true := by kernel_rfl
/- func(string, uint8) int -/
@[go_sem] theorem ag157 : aggB Tryd.prog 157 = false := by kernel_rfl
@[go_sem] theorem ce157 : Tryd.prog.cellsOf 157 = 1 := by kernel_rfl
@[go_sem] theorem by157 : Tryd.prog.bytesOf 157 = 8 := by kernel_rfl
@[go_sem] theorem ze157 : zeroCells Tryd.prog 157 = [.v .nilFunc] := by kernel_rfl
@[go_sem] theorem zl157 : zeroLen Tryd.prog 157 = true := by kernel_rfl
@[go_sem] theorem un157 : (Tryd.prog.underlying 157).isSome = true := by kernel_rfl
/- func([]api.Datum, int, int, func(api.Datum, api.Datum) int) -/
@[go_sem] theorem ag158 : aggB Tryd.prog 158 = false := by kernel_rfl
@[go_sem] theorem ce158 : Tryd.prog.cellsOf 158 = 1 := by kernel_rfl
@[go_sem] theorem by158 : Tryd.prog.bytesOf 158 = 8 := by kernel_rfl
@[go_sem] theorem ze158 : zeroCells Tryd.prog 158 = [.v .nilFunc] := by kernel_rfl
@[go_sem] theorem zl158 : zeroLen Tryd.prog 158 = true := by kernel_rfl
@[go_sem] theorem un158 : (Tryd.prog.underlying 158).isSome = true := by kernel_rfl
/- slices.sortedHint -/
@[go_sem] theorem ag159 : aggB Tryd.prog 159 = false := by kernel_rfl
@[go_sem] theorem ce159 : Tryd.prog.cellsOf 159 = 1 := by kernel_rfl
@[go_sem] theorem by159 : Tryd.prog.bytesOf 159 = 8 := by kernel_rfl
@[go_sem] theorem ze159 : zeroCells Tryd.prog 159 = [.v (.int .i64 0)] := by kernel_rfl
@[go_sem] theorem zl159 : zeroLen Tryd.prog 159 = true := by kernel_rfl
@[go_sem] theorem un159 : Tryd.prog.underlying 159 = some (.int .i64) := by kernel_rfl
/- func([]api.Datum, int, int, func(api.Datum, api.Datum) int) (int, slices.sortedHint) -/
@[go_sem] theorem ag161 : aggB Tryd.prog 161 = false := by kernel_rfl
@[go_sem] theorem ce161 : Tryd.prog.cellsOf 161 = 1 := by kernel_rfl
@[go_sem] theorem by161 : Tryd.prog.bytesOf 161 = 8 := by kernel_rfl
@[go_sem] theorem ze161 : zeroCells Tryd.prog 161 = [.v .nilFunc] := by kernel_rfl
@[go_sem] theorem zl161 : zeroLen Tryd.prog 161 = true := by kernel_rfl
@[go_sem] theorem un161 : (Tryd.prog.underlying 161).isSome = true := by kernel_rfl
/- func([]api.Datum, int, int, func(api.Datum, api.Datum) int) bool -/
@[go_sem] theorem ag162 : aggB Tryd.prog 162 = false := by kernel_rfl
@[go_sem] theorem ce162 : Tryd.prog.cellsOf 162 = 1 := by kernel_rfl
@[go_sem] theorem by162 : Tryd.prog.bytesOf 162 = 8 := by kernel_rfl
@[go_sem] theorem ze162 : zeroCells Tryd.prog 162 = [.v .nilFunc] := by kernel_rfl
@[go_sem] theorem zl162 : zeroLen Tryd.prog 162 = true := by kernel_rfl
@[go_sem] theorem un162 : (Tryd.prog.underlying 162).isSome = true := by kernel_rfl
/- func([]api.Datum, int, int, int, func(api.Datum, api.Datum) int) int -/
@[go_sem] theorem ag163 : aggB Tryd.prog 163 = false := by kernel_rfl
@[go_sem] theorem ce163 : Tryd.prog.cellsOf 163 = 1 := by kernel_rfl
@[go_sem] theorem by163 : Tryd.prog.bytesOf 163 = 8 := by kernel_rfl
@[go_sem] theorem ze163 : zeroCells Tryd.prog 163 = [.v .nilFunc] := by kernel_rfl
@[go_sem] theorem zl163 : zeroLen Tryd.prog 163 = true := by kernel_rfl
@[go_sem] theorem un163 : (Tryd.prog.underlying 163).isSome = true := by kernel_rfl
/- func([]api.Datum, int, int, int, func(api.Datum, api.Datum) int) (int, bool) -/
@[go_sem] theorem ag164 : aggB Tryd.prog 164 = false := by kernel_rfl
@[go_sem] theorem ce164 : Tryd.prog.cellsOf 164 = 1 := by kernel_rfl
@[go_sem] theorem by164 : Tryd.prog.bytesOf 164 = 8 := by kernel_rfl
@[go_sem] theorem ze164 : zeroCells Tryd.prog 164 = [.v .nilFunc] := by kernel_rfl
@[go_sem] theorem zl164 : zeroLen Tryd.prog 164 = true := by kernel_rfl
@[go_sem] theorem un164 : (Tryd.prog.underlying 164).isSome = true := by kernel_rfl
/- func(uint32) int -/
@[go_sem] theorem ag165 : aggB Tryd.prog 165 = false := by kernel_rfl
@[go_sem] theorem ce165 : Tryd.prog.cellsOf 165 = 1 := by kernel_rfl
@[go_sem] theorem by165 : Tryd.prog.bytesOf 165 = 8 := by kernel_rfl
@[go_sem] theorem ze165 : zeroCells Tryd.prog 165 = [.v .nilFunc] := by kernel_rfl
@[go_sem] theorem zl165 : zeroLen Tryd.prog 165 = true := by kernel_rfl
@[go_sem] theorem un165 : (Tryd.prog.underlying 165).isSome = true := by kernel_rfl
/- uint32 -/
@[go_sem] theorem ag166 : aggB Tryd.prog 166 = false := by kernel_rfl
@[go_sem] theorem ce166 : Tryd.prog.cellsOf 166 = 1 := by kernel_rfl
@[go_sem] theorem by166 : Tryd.prog.bytesOf 166 = 4 := by kernel_rfl
@[go_sem] theorem ze166 : zeroCells Tryd.prog 166 = [.v (.int .u32 0)] := by kernel_rfl
@[go_sem] theorem zl166 : zeroLen Tryd.prog 166 = true := by kernel_rfl
@[go_sem] theorem un166 : Tryd.prog.underlying 166 = some (.int .u32) := by kernel_rfl
/- func(uint64) int -/
@[go_sem] theorem ag167 : aggB Tryd.prog 167 = false := by kernel_rfl
@[go_sem] theorem ce167 : Tryd.prog.cellsOf 167 = 1 := by kernel_rfl
@[go_sem] theorem by167 : Tryd.prog.bytesOf 167 = 8 := by kernel_rfl
@[go_sem] theorem ze167 : zeroCells Tryd.prog 167 = [.v .nilFunc] := by kernel_rfl
@[go_sem] theorem zl167 : zeroLen Tryd.prog 167 = true := by kernel_rfl
@[go_sem] theorem un167 : (Tryd.prog.underlying 167).isSome = true := by kernel_rfl
/- struct { zone.body; behind []string } -/
@[go_sem] theorem ag168 : aggB Tryd.prog 168 = true := by kernel_rfl
@[go_sem] theorem ce168 : Tryd.prog.cellsOf 168 = 3 := by kernel_rfl
@[go_sem] theorem by168 : Tryd.prog.bytesOf 168 = 64 := by kernel_rfl
@[go_sem] theorem ze168 : zeroCells Tryd.prog 168 = [.v (.string ⟨⟨[]⟩⟩), .list true [], .list true []] := by kernel_rfl
@[go_sem] theorem zl168 : zeroLen Tryd.prog 168 = true := by kernel_rfl
@[go_sem] theorem un168 : (Tryd.prog.underlying 168).isSome = true := by kernel_rfl
@[go_sem] theorem fl168_0 : fld Tryd.prog 168 0 = some (0, 146) := by kernel_rfl
@[go_sem] theorem fl168_1 : fld Tryd.prog 168 1 = some (2, 112) := by kernel_rfl
@[go_sem] theorem sb168 : structB Tryd.prog 168 = true := by kernel_rfl
/- zone.layout -/
@[go_sem] theorem ag169 : aggB Tryd.prog 169 = true := by kernel_rfl
@[go_sem] theorem ce169 : Tryd.prog.cellsOf 169 = 3 := by kernel_rfl
@[go_sem] theorem by169 : Tryd.prog.bytesOf 169 = 64 := by kernel_rfl
@[go_sem] theorem ze169 : zeroCells Tryd.prog 169 = [.v (.string ⟨⟨[]⟩⟩), .list true [], .list true []] := by kernel_rfl
@[go_sem] theorem zl169 : zeroLen Tryd.prog 169 = true := by kernel_rfl
@[go_sem] theorem un169 : (Tryd.prog.underlying 169).isSome = true := by kernel_rfl
@[go_sem] theorem fl169_0 : fld Tryd.prog 169 0 = some (0, 146) := by kernel_rfl
@[go_sem] theorem fl169_1 : fld Tryd.prog 169 1 = some (2, 112) := by kernel_rfl
@[go_sem] theorem sb169 : structB Tryd.prog 169 = true := by kernel_rfl
/- func(zone.body) zone.layout -/
@[go_sem] theorem ag170 : aggB Tryd.prog 170 = false := by kernel_rfl
@[go_sem] theorem ce170 : Tryd.prog.cellsOf 170 = 1 := by kernel_rfl
@[go_sem] theorem by170 : Tryd.prog.bytesOf 170 = 8 := by kernel_rfl
@[go_sem] theorem ze170 : zeroCells Tryd.prog 170 = [.v .nilFunc] := by kernel_rfl
@[go_sem] theorem zl170 : zeroLen Tryd.prog 170 = true := by kernel_rfl
@[go_sem] theorem un170 : (Tryd.prog.underlying 170).isSome = true := by kernel_rfl
/- func([]api.Signed, api.Question, func(api.Signed, api.Question) int) (int, bool) -/
@[go_sem] theorem ag171 : aggB Tryd.prog 171 = false := by kernel_rfl
@[go_sem] theorem ce171 : Tryd.prog.cellsOf 171 = 1 := by kernel_rfl
@[go_sem] theorem by171 : Tryd.prog.bytesOf 171 = 8 := by kernel_rfl
@[go_sem] theorem ze171 : zeroCells Tryd.prog 171 = [.v .nilFunc] := by kernel_rfl
@[go_sem] theorem zl171 : zeroLen Tryd.prog 171 = true := by kernel_rfl
@[go_sem] theorem un171 : (Tryd.prog.underlying 171).isSome = true := by kernel_rfl
/- func(string, int, string, int) int -/
@[go_sem] theorem ag172 : aggB Tryd.prog 172 = false := by kernel_rfl
@[go_sem] theorem ce172 : Tryd.prog.cellsOf 172 = 1 := by kernel_rfl
@[go_sem] theorem by172 : Tryd.prog.bytesOf 172 = 8 := by kernel_rfl
@[go_sem] theorem ze172 : zeroCells Tryd.prog 172 = [.v .nilFunc] := by kernel_rfl
@[go_sem] theorem zl172 : zeroLen Tryd.prog 172 = true := by kernel_rfl
@[go_sem] theorem un172 : (Tryd.prog.underlying 172).isSome = true := by kernel_rfl
/- func(api.Signed, api.Question) int -/
@[go_sem] theorem ag173 : aggB Tryd.prog 173 = false := by kernel_rfl
@[go_sem] theorem ce173 : Tryd.prog.cellsOf 173 = 1 := by kernel_rfl
@[go_sem] theorem by173 : Tryd.prog.bytesOf 173 = 8 := by kernel_rfl
@[go_sem] theorem ze173 : zeroCells Tryd.prog 173 = [.v .nilFunc] := by kernel_rfl
@[go_sem] theorem zl173 : zeroLen Tryd.prog 173 = true := by kernel_rfl
@[go_sem] theorem un173 : (Tryd.prog.underlying 173).isSome = true := by kernel_rfl
/- func([]api.Signed, int, int, func(api.Signed, api.Signed) int) -/
@[go_sem] theorem ag174 : aggB Tryd.prog 174 = false := by kernel_rfl
@[go_sem] theorem ce174 : Tryd.prog.cellsOf 174 = 1 := by kernel_rfl
@[go_sem] theorem by174 : Tryd.prog.bytesOf 174 = 8 := by kernel_rfl
@[go_sem] theorem ze174 : zeroCells Tryd.prog 174 = [.v .nilFunc] := by kernel_rfl
@[go_sem] theorem zl174 : zeroLen Tryd.prog 174 = true := by kernel_rfl
@[go_sem] theorem un174 : (Tryd.prog.underlying 174).isSome = true := by kernel_rfl
/- func([]api.Signed, int, int, func(api.Signed, api.Signed) int) (int, slices.sortedHint) -/
@[go_sem] theorem ag175 : aggB Tryd.prog 175 = false := by kernel_rfl
@[go_sem] theorem ce175 : Tryd.prog.cellsOf 175 = 1 := by kernel_rfl
@[go_sem] theorem by175 : Tryd.prog.bytesOf 175 = 8 := by kernel_rfl
@[go_sem] theorem ze175 : zeroCells Tryd.prog 175 = [.v .nilFunc] := by kernel_rfl
@[go_sem] theorem zl175 : zeroLen Tryd.prog 175 = true := by kernel_rfl
@[go_sem] theorem un175 : (Tryd.prog.underlying 175).isSome = true := by kernel_rfl
/- func([]api.Signed, int, int, func(api.Signed, api.Signed) int) bool -/
@[go_sem] theorem ag176 : aggB Tryd.prog 176 = false := by kernel_rfl
@[go_sem] theorem ce176 : Tryd.prog.cellsOf 176 = 1 := by kernel_rfl
@[go_sem] theorem by176 : Tryd.prog.bytesOf 176 = 8 := by kernel_rfl
@[go_sem] theorem ze176 : zeroCells Tryd.prog 176 = [.v .nilFunc] := by kernel_rfl
@[go_sem] theorem zl176 : zeroLen Tryd.prog 176 = true := by kernel_rfl
@[go_sem] theorem un176 : (Tryd.prog.underlying 176).isSome = true := by kernel_rfl
/- func([]api.Signed, int, int, int, func(api.Signed, api.Signed) int) int -/
@[go_sem] theorem ag177 : aggB Tryd.prog 177 = false := by kernel_rfl
@[go_sem] theorem ce177 : Tryd.prog.cellsOf 177 = 1 := by kernel_rfl
@[go_sem] theorem by177 : Tryd.prog.bytesOf 177 = 8 := by kernel_rfl
@[go_sem] theorem ze177 : zeroCells Tryd.prog 177 = [.v .nilFunc] := by kernel_rfl
@[go_sem] theorem zl177 : zeroLen Tryd.prog 177 = true := by kernel_rfl
@[go_sem] theorem un177 : (Tryd.prog.underlying 177).isSome = true := by kernel_rfl
/- func([]api.Signed, int, int, int, func(api.Signed, api.Signed) int) (int, bool) -/
@[go_sem] theorem ag178 : aggB Tryd.prog 178 = false := by kernel_rfl
@[go_sem] theorem ce178 : Tryd.prog.cellsOf 178 = 1 := by kernel_rfl
@[go_sem] theorem by178 : Tryd.prog.bytesOf 178 = 8 := by kernel_rfl
@[go_sem] theorem ze178 : zeroCells Tryd.prog 178 = [.v .nilFunc] := by kernel_rfl
@[go_sem] theorem zl178 : zeroLen Tryd.prog 178 = true := by kernel_rfl
@[go_sem] theorem un178 : (Tryd.prog.underlying 178).isSome = true := by kernel_rfl
/- slices.xorshift -/
@[go_sem] theorem ag179 : aggB Tryd.prog 179 = false := by kernel_rfl
@[go_sem] theorem ce179 : Tryd.prog.cellsOf 179 = 1 := by kernel_rfl
@[go_sem] theorem by179 : Tryd.prog.bytesOf 179 = 8 := by kernel_rfl
@[go_sem] theorem ze179 : zeroCells Tryd.prog 179 = [.v (.int .u64 0)] := by kernel_rfl
@[go_sem] theorem zl179 : zeroLen Tryd.prog 179 = true := by kernel_rfl
@[go_sem] theorem un179 : Tryd.prog.underlying 179 = some (.int .u64) := by kernel_rfl
/- func(int) uint -/
@[go_sem] theorem ag180 : aggB Tryd.prog 180 = false := by kernel_rfl
@[go_sem] theorem ce180 : Tryd.prog.cellsOf 180 = 1 := by kernel_rfl
@[go_sem] theorem by180 : Tryd.prog.bytesOf 180 = 8 := by kernel_rfl
@[go_sem] theorem ze180 : zeroCells Tryd.prog 180 = [.v .nilFunc] := by kernel_rfl
@[go_sem] theorem zl180 : zeroLen Tryd.prog 180 = true := by kernel_rfl
@[go_sem] theorem un180 : (Tryd.prog.underlying 180).isSome = true := by kernel_rfl
/- func() uint64 -/
@[go_sem] theorem ag181 : aggB Tryd.prog 181 = false := by kernel_rfl
@[go_sem] theorem ce181 : Tryd.prog.cellsOf 181 = 1 := by kernel_rfl
@[go_sem] theorem by181 : Tryd.prog.bytesOf 181 = 8 := by kernel_rfl
@[go_sem] theorem ze181 : zeroCells Tryd.prog 181 = [.v .nilFunc] := by kernel_rfl
@[go_sem] theorem zl181 : zeroLen Tryd.prog 181 = true := by kernel_rfl
@[go_sem] theorem un181 : (Tryd.prog.underlying 181).isSome = true := by kernel_rfl
/- func([]api.Datum, int, *int, func(api.Datum, api.Datum) int) int -/
@[go_sem] theorem ag182 : aggB Tryd.prog 182 = false := by kernel_rfl
@[go_sem] theorem ce182 : Tryd.prog.cellsOf 182 = 1 := by kernel_rfl
@[go_sem] theorem by182 : Tryd.prog.bytesOf 182 = 8 := by kernel_rfl
@[go_sem] theorem ze182 : zeroCells Tryd.prog 182 = [.v .nilFunc] := by kernel_rfl
@[go_sem] theorem zl182 : zeroLen Tryd.prog 182 = true := by kernel_rfl
@[go_sem] theorem un182 : (Tryd.prog.underlying 182).isSome = true := by kernel_rfl
/- *int -/
@[go_sem] theorem ag183 : aggB Tryd.prog 183 = false := by kernel_rfl
@[go_sem] theorem ce183 : Tryd.prog.cellsOf 183 = 1 := by kernel_rfl
@[go_sem] theorem by183 : Tryd.prog.bytesOf 183 = 8 := by kernel_rfl
@[go_sem] theorem ze183 : zeroCells Tryd.prog 183 = [.v (.pointer none)] := by kernel_rfl
@[go_sem] theorem zl183 : zeroLen Tryd.prog 183 = true := by kernel_rfl
@[go_sem] theorem un183 : (Tryd.prog.underlying 183).isSome = true := by kernel_rfl
/- func([]api.Datum, int, int, int, *int, func(api.Datum, api.Datum) int) int -/
@[go_sem] theorem ag184 : aggB Tryd.prog 184 = false := by kernel_rfl
@[go_sem] theorem ce184 : Tryd.prog.cellsOf 184 = 1 := by kernel_rfl
@[go_sem] theorem by184 : Tryd.prog.bytesOf 184 = 8 := by kernel_rfl
@[go_sem] theorem ze184 : zeroCells Tryd.prog 184 = [.v .nilFunc] := by kernel_rfl
@[go_sem] theorem zl184 : zeroLen Tryd.prog 184 = true := by kernel_rfl
@[go_sem] theorem un184 : (Tryd.prog.underlying 184).isSome = true := by kernel_rfl
/- func(string, string) (bool, api.Errno) -/
@[go_sem] theorem ag185 : aggB Tryd.prog 185 = false := by kernel_rfl
@[go_sem] theorem ce185 : Tryd.prog.cellsOf 185 = 1 := by kernel_rfl
@[go_sem] theorem by185 : Tryd.prog.bytesOf 185 = 8 := by kernel_rfl
@[go_sem] theorem ze185 : zeroCells Tryd.prog 185 = [.v .nilFunc] := by kernel_rfl
@[go_sem] theorem zl185 : zeroLen Tryd.prog 185 = true := by kernel_rfl
@[go_sem] theorem un185 : (Tryd.prog.underlying 185).isSome = true := by kernel_rfl
/- func(int, bool) bool -/
@[go_sem] theorem ag186 : aggB Tryd.prog 186 = false := by kernel_rfl
@[go_sem] theorem ce186 : Tryd.prog.cellsOf 186 = 1 := by kernel_rfl
@[go_sem] theorem by186 : Tryd.prog.bytesOf 186 = 8 := by kernel_rfl
@[go_sem] theorem ze186 : zeroCells Tryd.prog 186 = [.v .nilFunc] := by kernel_rfl
@[go_sem] theorem zl186 : zeroLen Tryd.prog 186 = true := by kernel_rfl
@[go_sem] theorem un186 : (Tryd.prog.underlying 186).isSome = true := by kernel_rfl
/- map[string]bool -/
@[go_sem] theorem ag187 : aggB Tryd.prog 187 = false := by kernel_rfl
@[go_sem] theorem ce187 : Tryd.prog.cellsOf 187 = 1 := by kernel_rfl
@[go_sem] theorem by187 : Tryd.prog.bytesOf 187 = 8 := by kernel_rfl
@[go_sem] theorem ze187 : zeroCells Tryd.prog 187 = [.v (.map none)] := by kernel_rfl
@[go_sem] theorem zl187 : zeroLen Tryd.prog 187 = true := by kernel_rfl
@[go_sem] theorem un187 : (Tryd.prog.underlying 187).isSome = true := by kernel_rfl
/- func([]api.Sig, string) bool -/
@[go_sem] theorem ag188 : aggB Tryd.prog 188 = false := by kernel_rfl
@[go_sem] theorem ce188 : Tryd.prog.cellsOf 188 = 1 := by kernel_rfl
@[go_sem] theorem by188 : Tryd.prog.bytesOf 188 = 8 := by kernel_rfl
@[go_sem] theorem ze188 : zeroCells Tryd.prog 188 = [.v .nilFunc] := by kernel_rfl
@[go_sem] theorem zl188 : zeroLen Tryd.prog 188 = true := by kernel_rfl
@[go_sem] theorem un188 : (Tryd.prog.underlying 188).isSome = true := by kernel_rfl
/- func([]api.Signed, int, *int, func(api.Signed, api.Signed) int) int -/
@[go_sem] theorem ag189 : aggB Tryd.prog 189 = false := by kernel_rfl
@[go_sem] theorem ce189 : Tryd.prog.cellsOf 189 = 1 := by kernel_rfl
@[go_sem] theorem by189 : Tryd.prog.bytesOf 189 = 8 := by kernel_rfl
@[go_sem] theorem ze189 : zeroCells Tryd.prog 189 = [.v .nilFunc] := by kernel_rfl
@[go_sem] theorem zl189 : zeroLen Tryd.prog 189 = true := by kernel_rfl
@[go_sem] theorem un189 : (Tryd.prog.underlying 189).isSome = true := by kernel_rfl
/- func([]api.Signed, int, int, int, *int, func(api.Signed, api.Signed) int) int -/
@[go_sem] theorem ag190 : aggB Tryd.prog 190 = false := by kernel_rfl
@[go_sem] theorem ce190 : Tryd.prog.cellsOf 190 = 1 := by kernel_rfl
@[go_sem] theorem by190 : Tryd.prog.bytesOf 190 = 8 := by kernel_rfl
@[go_sem] theorem ze190 : zeroCells Tryd.prog 190 = [.v .nilFunc] := by kernel_rfl
@[go_sem] theorem zl190 : zeroLen Tryd.prog 190 = true := by kernel_rfl
@[go_sem] theorem un190 : (Tryd.prog.underlying 190).isSome = true := by kernel_rfl
/- *slices.xorshift -/
@[go_sem] theorem ag191 : aggB Tryd.prog 191 = false := by kernel_rfl
@[go_sem] theorem ce191 : Tryd.prog.cellsOf 191 = 1 := by kernel_rfl
@[go_sem] theorem by191 : Tryd.prog.bytesOf 191 = 8 := by kernel_rfl
@[go_sem] theorem ze191 : zeroCells Tryd.prog 191 = [.v (.pointer none)] := by kernel_rfl
@[go_sem] theorem zl191 : zeroLen Tryd.prog 191 = true := by kernel_rfl
@[go_sem] theorem un191 : (Tryd.prog.underlying 191).isSome = true := by kernel_rfl
/- func([]api.Datum, int, int, *int, func(api.Datum, api.Datum) int) (int, int) -/
@[go_sem] theorem ag193 : aggB Tryd.prog 193 = false := by kernel_rfl
@[go_sem] theorem ce193 : Tryd.prog.cellsOf 193 = 1 := by kernel_rfl
@[go_sem] theorem by193 : Tryd.prog.bytesOf 193 = 8 := by kernel_rfl
@[go_sem] theorem ze193 : zeroCells Tryd.prog 193 = [.v .nilFunc] := by kernel_rfl
@[go_sem] theorem zl193 : zeroLen Tryd.prog 193 = true := by kernel_rfl
@[go_sem] theorem un193 : (Tryd.prog.underlying 193).isSome = true := by kernel_rfl
/- func([]api.Signed, int, int, *int, func(api.Signed, api.Signed) int) (int, int) -/
@[go_sem] theorem ag194 : aggB Tryd.prog 194 = false := by kernel_rfl
@[go_sem] theorem ce194 : Tryd.prog.cellsOf 194 = 1 := by kernel_rfl
@[go_sem] theorem by194 : Tryd.prog.bytesOf 194 = 8 := by kernel_rfl
@[go_sem] theorem ze194 : zeroCells Tryd.prog 194 = [.v .nilFunc] := by kernel_rfl
@[go_sem] theorem zl194 : zeroLen Tryd.prog 194 = true := by kernel_rfl
@[go_sem] theorem un194 : (Tryd.prog.underlying 194).isSome = true := by kernel_rfl
/- func(unsafe.Pointer, unsafe.Pointer) bool -/
@[go_sem] theorem ag202 : aggB Tryd.prog 202 = false := by kernel_rfl
@[go_sem] theorem ce202 : Tryd.prog.cellsOf 202 = 1 := by kernel_rfl
@[go_sem] theorem by202 : Tryd.prog.bytesOf 202 = 8 := by kernel_rfl
@[go_sem] theorem ze202 : zeroCells Tryd.prog 202 = [.v .nilFunc] := by kernel_rfl
@[go_sem] theorem zl202 : zeroLen Tryd.prog 202 = true := by kernel_rfl
@[go_sem] theorem un202 : (Tryd.prog.underlying 202).isSome = true := by kernel_rfl
/- *uint8 -/
@[go_sem] theorem ag203 : aggB Tryd.prog 203 = false := by kernel_rfl
@[go_sem] theorem ce203 : Tryd.prog.cellsOf 203 = 1 := by kernel_rfl
@[go_sem] theorem by203 : Tryd.prog.bytesOf 203 = 8 := by kernel_rfl
@[go_sem] theorem ze203 : zeroCells Tryd.prog 203 = [.v (.pointer none)] := by kernel_rfl
@[go_sem] theorem zl203 : zeroLen Tryd.prog 203 = true := by kernel_rfl
@[go_sem] theorem un203 : (Tryd.prog.underlying 203).isSome = true := by kernel_rfl
end Go.Proofs.YtfggmgafjabbjaaDoor
