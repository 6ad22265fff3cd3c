/-
  MADE BY A PROGRAM OF MINE: closed facts on the types of the translation. Conditions: none.
-/
import Derived.Test.YtfcdbijmoiegiaaProg
import Derived.Test.YtfcdbijmoiegiaaDSimp
import Derived.KernelRfl
namespace Go.Proofs.Ytfcdbijmoiegiaa
open Go.DL
theorem mix : Try.prog.follows .mixedOrders = true := by kernel_rfl
/- func() -/
@[go_sem] theorem ag1 : aggB Try.prog 1 = false := by kernel_rfl
@[go_sem] theorem ce1 : Try.prog.cellsOf 1 = 1 := by kernel_rfl
@[go_sem] theorem by1 : Try.prog.bytesOf 1 = 8 := by kernel_rfl
@[go_sem] theorem ze1 : zeroCells Try.prog 1 = [.v .nilFunc] := by kernel_rfl
@[go_sem] theorem zl1 : zeroLen Try.prog 1 = true := by kernel_rfl
@[go_sem] theorem un1 : (Try.prog.underlying 1).isSome = true := by kernel_rfl
/- int64 -/
@[go_sem] theorem ag2 : aggB Try.prog 2 = false := by kernel_rfl
@[go_sem] theorem ce2 : Try.prog.cellsOf 2 = 1 := by kernel_rfl
@[go_sem] theorem by2 : Try.prog.bytesOf 2 = 8 := by kernel_rfl
@[go_sem] theorem ze2 : zeroCells Try.prog 2 = [.v (.int .i64 0)] := by kernel_rfl
@[go_sem] theorem zl2 : zeroLen Try.prog 2 = true := by kernel_rfl
@[go_sem] theorem un2 : Try.prog.underlying 2 = some (.int .i64) := by kernel_rfl
/- int -/
@[go_sem] theorem ag3 : aggB Try.prog 3 = false := by kernel_rfl
@[go_sem] theorem ce3 : Try.prog.cellsOf 3 = 1 := by kernel_rfl
@[go_sem] theorem by3 : Try.prog.bytesOf 3 = 8 := by kernel_rfl
@[go_sem] theorem ze3 : zeroCells Try.prog 3 = [.v (.int .i64 0)] := by kernel_rfl
@[go_sem] theorem zl3 : zeroLen Try.prog 3 = true := by kernel_rfl
@[go_sem] theorem un3 : Try.prog.underlying 3 = some (.int .i64) := by kernel_rfl
/- bool -/
@[go_sem] theorem ag4 : aggB Try.prog 4 = false := by kernel_rfl
@[go_sem] theorem ce4 : Try.prog.cellsOf 4 = 1 := by kernel_rfl
@[go_sem] theorem by4 : Try.prog.bytesOf 4 = 1 := by kernel_rfl
@[go_sem] theorem ze4 : zeroCells Try.prog 4 = [.v (.bool false)] := by kernel_rfl
@[go_sem] theorem zl4 : zeroLen Try.prog 4 = true := by kernel_rfl
@[go_sem] theorem un4 : Try.prog.underlying 4 = some .bool := by kernel_rfl
/- uint8 -/
@[go_sem] theorem ag5 : aggB Try.prog 5 = false := by kernel_rfl
@[go_sem] theorem ce5 : Try.prog.cellsOf 5 = 1 := by kernel_rfl
@[go_sem] theorem by5 : Try.prog.bytesOf 5 = 1 := by kernel_rfl
@[go_sem] theorem ze5 : zeroCells Try.prog 5 = [.v (.int .u8 0)] := by kernel_rfl
@[go_sem] theorem zl5 : zeroLen Try.prog 5 = true := by kernel_rfl
@[go_sem] theorem un5 : Try.prog.underlying 5 = some (.int .u8) := by kernel_rfl
/- string -/
@[go_sem] theorem ag9 : aggB Try.prog 9 = false := by kernel_rfl
@[go_sem] theorem ce9 : Try.prog.cellsOf 9 = 1 := by kernel_rfl
@[go_sem] theorem by9 : Try.prog.bytesOf 9 = 16 := by kernel_rfl
@[go_sem] theorem ze9 : zeroCells Try.prog 9 = [.v (.string ⟨⟨[]⟩⟩)] := by kernel_rfl
@[go_sem] theorem zl9 : zeroLen Try.prog 9 = true := by kernel_rfl
@[go_sem] theorem un9 : Try.prog.underlying 9 = some .string := by kernel_rfl
/- uintptr -/
@[go_sem] theorem ag12 : aggB Try.prog 12 = false := by kernel_rfl
@[go_sem] theorem ce12 : Try.prog.cellsOf 12 = 1 := by kernel_rfl
@[go_sem] theorem by12 : Try.prog.bytesOf 12 = 8 := by kernel_rfl
@[go_sem] theorem ze12 : zeroCells Try.prog 12 = [.v (.int .u64 0)] := by kernel_rfl
@[go_sem] theorem zl12 : zeroLen Try.prog 12 = true := by kernel_rfl
@[go_sem] theorem un12 : Try.prog.underlying 12 = some (.int .u64) := by kernel_rfl
/- struct { msg string; addr uintptr } -/
@[go_sem] theorem ag13 : aggB Try.prog 13 = true := by kernel_rfl
@[go_sem] theorem ce13 : Try.prog.cellsOf 13 = 2 := by kernel_rfl
@[go_sem] theorem by13 : Try.prog.bytesOf 13 = 24 := by kernel_rfl
@[go_sem] theorem ze13 : zeroCells Try.prog 13 = [.v (.string ⟨⟨[]⟩⟩), .v (.int .u64 0)] := by kernel_rfl
@[go_sem] theorem zl13 : zeroLen Try.prog 13 = true := by kernel_rfl
@[go_sem] theorem un13 : (Try.prog.underlying 13).isSome = true := by kernel_rfl
@[go_sem] theorem fl13_0 : fld Try.prog 13 0 = some (0, 9) := by kernel_rfl
@[go_sem] theorem fl13_1 : fld Try.prog 13 1 = some (1, 12) := by kernel_rfl
@[go_sem] theorem sb13 : structB Try.prog 13 = true := by kernel_rfl
/- interface {} -/
@[go_sem] theorem ag20 : aggB Try.prog 20 = false := by kernel_rfl
@[go_sem] theorem ce20 : Try.prog.cellsOf 20 = 1 := by kernel_rfl
@[go_sem] theorem by20 : Try.prog.bytesOf 20 = 16 := by kernel_rfl
@[go_sem] theorem ze20 : zeroCells Try.prog 20 = [.v .nilIface] := by kernel_rfl
@[go_sem] theorem zl20 : zeroLen Try.prog 20 = true := by kernel_rfl
@[go_sem] theorem un20 : (Try.prog.underlying 20).isSome = true := by kernel_rfl
/- int32 -/
@[go_sem] theorem ag21 : aggB Try.prog 21 = false := by kernel_rfl
@[go_sem] theorem ce21 : Try.prog.cellsOf 21 = 1 := by kernel_rfl
@[go_sem] theorem by21 : Try.prog.bytesOf 21 = 4 := by kernel_rfl
@[go_sem] theorem ze21 : zeroCells Try.prog 21 = [.v (.int .i32 0)] := by kernel_rfl
@[go_sem] theorem zl21 : zeroLen Try.prog 21 = true := by kernel_rfl
@[go_sem] theorem un21 : Try.prog.underlying 21 = some (.int .i32) := by kernel_rfl
/- []api.Span -/
@[go_sem] theorem ag22 : aggB Try.prog 22 = false := by kernel_rfl
@[go_sem] theorem ce22 : Try.prog.cellsOf 22 = 1 := by kernel_rfl
@[go_sem] theorem by22 : Try.prog.bytesOf 22 = 24 := by kernel_rfl
@[go_sem] theorem ze22 : zeroCells Try.prog 22 = [.list true []] := by kernel_rfl
@[go_sem] theorem zl22 : zeroLen Try.prog 22 = true := by kernel_rfl
@[go_sem] theorem un22 : (Try.prog.underlying 22).isSome = true := by kernel_rfl
@[go_sem] theorem el22 : elemT Try.prog 22 = some 34 := by kernel_rfl
/- func() bool -/
@[go_sem] theorem ag23 : aggB Try.prog 23 = false := by kernel_rfl
@[go_sem] theorem ce23 : Try.prog.cellsOf 23 = 1 := by kernel_rfl
@[go_sem] theorem by23 : Try.prog.bytesOf 23 = 8 := by kernel_rfl
@[go_sem] theorem ze23 : zeroCells Try.prog 23 = [.v .nilFunc] := by kernel_rfl
@[go_sem] theorem zl23 : zeroLen Try.prog 23 = true := by kernel_rfl
@[go_sem] theorem un23 : (Try.prog.underlying 23).isSome = true := by kernel_rfl
/- func([]api.Span) bool -/
@[go_sem] theorem ag24 : aggB Try.prog 24 = false := by kernel_rfl
@[go_sem] theorem ce24 : Try.prog.cellsOf 24 = 1 := by kernel_rfl
@[go_sem] theorem by24 : Try.prog.bytesOf 24 = 8 := by kernel_rfl
@[go_sem] theorem ze24 : zeroCells Try.prog 24 = [.v .nilFunc] := by kernel_rfl
@[go_sem] theorem zl24 : zeroLen Try.prog 24 = true := by kernel_rfl
@[go_sem] theorem un24 : (Try.prog.underlying 24).isSome = true := by kernel_rfl
/- api.Errno -/
@[go_sem] theorem ag25 : aggB Try.prog 25 = false := by kernel_rfl
@[go_sem] theorem ce25 : Try.prog.cellsOf 25 = 1 := by kernel_rfl
@[go_sem] theorem by25 : Try.prog.bytesOf 25 = 8 := by kernel_rfl
@[go_sem] theorem ze25 : zeroCells Try.prog 25 = [.v (.int .i64 0)] := by kernel_rfl
@[go_sem] theorem zl25 : zeroLen Try.prog 25 = true := by kernel_rfl
@[go_sem] theorem un25 : Try.prog.underlying 25 = some (.int .i64) := by kernel_rfl
/- func([]api.Span) ([]api.Span, api.Errno) -/
@[go_sem] theorem ag27 : aggB Try.prog 27 = false := by kernel_rfl
@[go_sem] theorem ce27 : Try.prog.cellsOf 27 = 1 := by kernel_rfl
@[go_sem] theorem by27 : Try.prog.bytesOf 27 = 8 := by kernel_rfl
@[go_sem] theorem ze27 : zeroCells Try.prog 27 = [.v .nilFunc] := by kernel_rfl
@[go_sem] theorem zl27 : zeroLen Try.prog 27 = true := by kernel_rfl
@[go_sem] theorem un27 : (Try.prog.underlying 27).isSome = true := by kernel_rfl
/- func([]api.Span, []api.Span) bool -/
@[go_sem] theorem ag28 : aggB Try.prog 28 = false := by kernel_rfl
@[go_sem] theorem ce28 : Try.prog.cellsOf 28 = 1 := by kernel_rfl
@[go_sem] theorem by28 : Try.prog.bytesOf 28 = 8 := by kernel_rfl
@[go_sem] theorem ze28 : zeroCells Try.prog 28 = [.v .nilFunc] := by kernel_rfl
@[go_sem] theorem zl28 : zeroLen Try.prog 28 = true := by kernel_rfl
@[go_sem] theorem un28 : (Try.prog.underlying 28).isSome = true := by kernel_rfl
/- func([]api.Span, []api.Span) ([]api.Span, api.Errno) -/
@[go_sem] theorem ag29 : aggB Try.prog 29 = false := by kernel_rfl
@[go_sem] theorem ce29 : Try.prog.cellsOf 29 = 1 := by kernel_rfl
@[go_sem] theorem by29 : Try.prog.bytesOf 29 = 8 := by kernel_rfl
@[go_sem] theorem ze29 : zeroCells Try.prog 29 = [.v .nilFunc] := by kernel_rfl
@[go_sem] theorem zl29 : zeroLen Try.prog 29 = true := by kernel_rfl
@[go_sem] theorem un29 : (Try.prog.underlying 29).isSome = true := by kernel_rfl
/- func([]api.Span, int, int) ([]api.Span, api.Errno) -/
@[go_sem] theorem ag30 : aggB Try.prog 30 = false := by kernel_rfl
@[go_sem] theorem ce30 : Try.prog.cellsOf 30 = 1 := by kernel_rfl
@[go_sem] theorem by30 : Try.prog.bytesOf 30 = 8 := by kernel_rfl
@[go_sem] theorem ze30 : zeroCells Try.prog 30 = [.v .nilFunc] := by kernel_rfl
@[go_sem] theorem zl30 : zeroLen Try.prog 30 = true := by kernel_rfl
@[go_sem] theorem un30 : (Try.prog.underlying 30).isSome = true := by kernel_rfl
/- func([]api.Span, int) bool -/
@[go_sem] theorem ag31 : aggB Try.prog 31 = false := by kernel_rfl
@[go_sem] theorem ce31 : Try.prog.cellsOf 31 = 1 := by kernel_rfl
@[go_sem] theorem by31 : Try.prog.bytesOf 31 = 8 := by kernel_rfl
@[go_sem] theorem ze31 : zeroCells Try.prog 31 = [.v .nilFunc] := by kernel_rfl
@[go_sem] theorem zl31 : zeroLen Try.prog 31 = true := by kernel_rfl
@[go_sem] theorem un31 : (Try.prog.underlying 31).isSome = true := by kernel_rfl
/- func([]api.Span, []api.Span, int, int, int) bool -/
@[go_sem] theorem ag32 : aggB Try.prog 32 = false := by kernel_rfl
@[go_sem] theorem ce32 : Try.prog.cellsOf 32 = 1 := by kernel_rfl
@[go_sem] theorem by32 : Try.prog.bytesOf 32 = 8 := by kernel_rfl
@[go_sem] theorem ze32 : zeroCells Try.prog 32 = [.v .nilFunc] := by kernel_rfl
@[go_sem] theorem zl32 : zeroLen Try.prog 32 = true := by kernel_rfl
@[go_sem] theorem un32 : (Try.prog.underlying 32).isSome = true := by kernel_rfl
/- struct { From int; Until int } -/
@[go_sem] theorem ag33 : aggB Try.prog 33 = true := by kernel_rfl
@[go_sem] theorem ce33 : Try.prog.cellsOf 33 = 2 := by kernel_rfl
@[go_sem] theorem by33 : Try.prog.bytesOf 33 = 16 := by kernel_rfl
@[go_sem] theorem ze33 : zeroCells Try.prog 33 = [.v (.int .i64 0), .v (.int .i64 0)] := by kernel_rfl
@[go_sem] theorem zl33 : zeroLen Try.prog 33 = true := by kernel_rfl
@[go_sem] theorem un33 : (Try.prog.underlying 33).isSome = true := by kernel_rfl
@[go_sem] theorem fl33_0 : fld Try.prog 33 0 = some (0, 3) := by kernel_rfl
@[go_sem] theorem fl33_1 : fld Try.prog 33 1 = some (1, 3) := by kernel_rfl
@[go_sem] theorem sb33 : structB Try.prog 33 = true := by kernel_rfl
@[go_sem] theorem ek33 : eqKinds Try.prog 33 = some [.i, .i] := by kernel_rfl
/- api.Span -/
@[go_sem] theorem ag34 : aggB Try.prog 34 = true := by kernel_rfl
@[go_sem] theorem ce34 : Try.prog.cellsOf 34 = 2 := by kernel_rfl
@[go_sem] theorem by34 : Try.prog.bytesOf 34 = 16 := by kernel_rfl
@[go_sem] theorem ze34 : zeroCells Try.prog 34 = [.v (.int .i64 0), .v (.int .i64 0)] := by kernel_rfl
@[go_sem] theorem zl34 : zeroLen Try.prog 34 = true := by kernel_rfl
@[go_sem] theorem un34 : (Try.prog.underlying 34).isSome = true := by kernel_rfl
@[go_sem] theorem fl34_0 : fld Try.prog 34 0 = some (0, 3) := by kernel_rfl
@[go_sem] theorem fl34_1 : fld Try.prog 34 1 = some (1, 3) := by kernel_rfl
@[go_sem] theorem sb34 : structB Try.prog 34 = true := by kernel_rfl
@[go_sem] theorem ek34 : eqKinds Try.prog 34 = some [.i, .i] := by kernel_rfl
/- func([]api.Span, []api.Span, int) bool -/
@[go_sem] theorem ag35 : aggB Try.prog 35 = false := by kernel_rfl
@[go_sem] theorem ce35 : Try.prog.cellsOf 35 = 1 := by kernel_rfl
@[go_sem] theorem by35 : Try.prog.bytesOf 35 = 8 := by kernel_rfl
@[go_sem] theorem ze35 : zeroCells Try.prog 35 = [.v .nilFunc] := by kernel_rfl
@[go_sem] theorem zl35 : zeroLen Try.prog 35 = true := by kernel_rfl
@[go_sem] theorem un35 : (Try.prog.underlying 35).isSome = true := by kernel_rfl
/- func([]api.Span, []api.Span, []api.Span) bool -/
@[go_sem] theorem ag36 : aggB Try.prog 36 = false := by kernel_rfl
@[go_sem] theorem ce36 : Try.prog.cellsOf 36 = 1 := by kernel_rfl
@[go_sem] theorem by36 : Try.prog.bytesOf 36 = 8 := by kernel_rfl
@[go_sem] theorem ze36 : zeroCells Try.prog 36 = [.v .nilFunc] := by kernel_rfl
@[go_sem] theorem zl36 : zeroLen Try.prog 36 = true := by kernel_rfl
@[go_sem] theorem un36 : (Try.prog.underlying 36).isSome = true := by kernel_rfl
/- uint32 -/
@[go_sem] theorem ag37 : aggB Try.prog 37 = false := by kernel_rfl
@[go_sem] theorem ce37 : Try.prog.cellsOf 37 = 1 := by kernel_rfl
@[go_sem] theorem by37 : Try.prog.bytesOf 37 = 4 := by kernel_rfl
@[go_sem] theorem ze37 : zeroCells Try.prog 37 = [.v (.int .u32 0)] := by kernel_rfl
@[go_sem] theorem zl37 : zeroLen Try.prog 37 = true := by kernel_rfl
@[go_sem] theorem un37 : Try.prog.underlying 37 = some (.int .u32) := by kernel_rfl
/- func([]api.Span, uint32, uint32, uint32, uint32, uint32) bool -/
@[go_sem] theorem ag38 : aggB Try.prog 38 = false := by kernel_rfl
@[go_sem] theorem ce38 : Try.prog.cellsOf 38 = 1 := by kernel_rfl
@[go_sem] theorem by38 : Try.prog.bytesOf 38 = 8 := by kernel_rfl
@[go_sem] theorem ze38 : zeroCells Try.prog 38 = [.v .nilFunc] := by kernel_rfl
@[go_sem] theorem zl38 : zeroLen Try.prog 38 = true := by kernel_rfl
@[go_sem] theorem un38 : (Try.prog.underlying 38).isSome = true := by kernel_rfl
/- [][]api.Span -/
@[go_sem] theorem ag39 : aggB Try.prog 39 = false := by kernel_rfl
@[go_sem] theorem ce39 : Try.prog.cellsOf 39 = 1 := by kernel_rfl
@[go_sem] theorem by39 : Try.prog.bytesOf 39 = 24 := by kernel_rfl
@[go_sem] theorem ze39 : zeroCells Try.prog 39 = [.list true []] := by kernel_rfl
@[go_sem] theorem zl39 : zeroLen Try.prog 39 = true := by kernel_rfl
@[go_sem] theorem un39 : (Try.prog.underlying 39).isSome = true := by kernel_rfl
@[go_sem] theorem el39 : elemT Try.prog 39 = some 22 := by kernel_rfl
/- []int -/
@[go_sem] theorem ag40 : aggB Try.prog 40 = false := by kernel_rfl
@[go_sem] theorem ce40 : Try.prog.cellsOf 40 = 1 := by kernel_rfl
@[go_sem] theorem by40 : Try.prog.bytesOf 40 = 24 := by kernel_rfl
@[go_sem] theorem ze40 : zeroCells Try.prog 40 = [.list true []] := by kernel_rfl
@[go_sem] theorem zl40 : zeroLen Try.prog 40 = true := by kernel_rfl
@[go_sem] theorem un40 : (Try.prog.underlying 40).isSome = true := by kernel_rfl
@[go_sem] theorem el40 : elemT Try.prog 40 = some 3 := by kernel_rfl
/- func(...int) []api.Span -/
@[go_sem] theorem ag41 : aggB Try.prog 41 = false := by kernel_rfl
@[go_sem] theorem ce41 : Try.prog.cellsOf 41 = 1 := by kernel_rfl
@[go_sem] theorem by41 : Try.prog.bytesOf 41 = 8 := by kernel_rfl
@[go_sem] theorem ze41 : zeroCells Try.prog 41 = [.v .nilFunc] := by kernel_rfl
@[go_sem] theorem zl41 : zeroLen Try.prog 41 = true := by kernel_rfl
@[go_sem] theorem un41 : (Try.prog.underlying 41).isSome = true := by kernel_rfl
/- func([]api.Span, func(api.Span) bool) []api.Span -/
@[go_sem] theorem ag42 : aggB Try.prog 42 = false := by kernel_rfl
@[go_sem] theorem ce42 : Try.prog.cellsOf 42 = 1 := by kernel_rfl
@[go_sem] theorem by42 : Try.prog.bytesOf 42 = 8 := by kernel_rfl
@[go_sem] theorem ze42 : zeroCells Try.prog 42 = [.v .nilFunc] := by kernel_rfl
@[go_sem] theorem zl42 : zeroLen Try.prog 42 = true := by kernel_rfl
@[go_sem] theorem un42 : (Try.prog.underlying 42).isSome = true := by kernel_rfl
/- func(api.Span) bool -/
@[go_sem] theorem ag43 : aggB Try.prog 43 = false := by kernel_rfl
@[go_sem] theorem ce43 : Try.prog.cellsOf 43 = 1 := by kernel_rfl
@[go_sem] theorem by43 : Try.prog.bytesOf 43 = 8 := by kernel_rfl
@[go_sem] theorem ze43 : zeroCells Try.prog 43 = [.v .nilFunc] := by kernel_rfl
@[go_sem] theorem zl43 : zeroLen Try.prog 43 = true := by kernel_rfl
@[go_sem] theorem un43 : (Try.prog.underlying 43).isSome = true := by kernel_rfl
/- func([]api.Span, func(api.Span, api.Span) int) -/
@[go_sem] theorem ag44 : aggB Try.prog 44 = false := by kernel_rfl
@[go_sem] theorem ce44 : Try.prog.cellsOf 44 = 1 := by kernel_rfl
@[go_sem] theorem by44 : Try.prog.bytesOf 44 = 8 := by kernel_rfl
@[go_sem] theorem ze44 : zeroCells Try.prog 44 = [.v .nilFunc] := by kernel_rfl
@[go_sem] theorem zl44 : zeroLen Try.prog 44 = true := by kernel_rfl
@[go_sem] theorem un44 : (Try.prog.underlying 44).isSome = true := by kernel_rfl
/- func(int, int) int -/
@[go_sem] theorem ag45 : aggB Try.prog 45 = false := by kernel_rfl
@[go_sem] theorem ce45 : Try.prog.cellsOf 45 = 1 := by kernel_rfl
@[go_sem] theorem by45 : Try.prog.bytesOf 45 = 8 := by kernel_rfl
@[go_sem] theorem ze45 : zeroCells Try.prog 45 = [.v .nilFunc] := by kernel_rfl
@[go_sem] theorem zl45 : zeroLen Try.prog 45 = true := by kernel_rfl
@[go_sem] theorem un45 : (Try.prog.underlying 45).isSome = true := by kernel_rfl
/- func(api.Span, api.Span) int -/
@[go_sem] theorem ag46 : aggB Try.prog 46 = false := by kernel_rfl
@[go_sem] theorem ce46 : Try.prog.cellsOf 46 = 1 := by kernel_rfl
@[go_sem] theorem by46 : Try.prog.bytesOf 46 = 8 := by kernel_rfl
@[go_sem] theorem ze46 : zeroCells Try.prog 46 = [.v .nilFunc] := by kernel_rfl
@[go_sem] theorem zl46 : zeroLen Try.prog 46 = true := by kernel_rfl
@[go_sem] theorem un46 : (Try.prog.underlying 46).isSome = true := by kernel_rfl
/- func([]api.Span) []api.Span -/
@[go_sem] theorem ag47 : aggB Try.prog 47 = false := by kernel_rfl
@[go_sem] theorem ce47 : Try.prog.cellsOf 47 = 1 := by kernel_rfl
@[go_sem] theorem by47 : Try.prog.bytesOf 47 = 8 := by kernel_rfl
@[go_sem] theorem ze47 : zeroCells Try.prog 47 = [.v .nilFunc] := by kernel_rfl
@[go_sem] theorem zl47 : zeroLen Try.prog 47 = true := by kernel_rfl
@[go_sem] theorem un47 : (Try.prog.underlying 47).isSome = true := by kernel_rfl
/- func([]api.Span, []api.Span, func(bool, bool) bool) ([]api.Span, api.Errno) -/
@[go_sem] theorem ag48 : aggB Try.prog 48 = false := by kernel_rfl
@[go_sem] theorem ce48 : Try.prog.cellsOf 48 = 1 := by kernel_rfl
@[go_sem] theorem by48 : Try.prog.bytesOf 48 = 8 := by kernel_rfl
@[go_sem] theorem ze48 : zeroCells Try.prog 48 = [.v .nilFunc] := by kernel_rfl
@[go_sem] theorem zl48 : zeroLen Try.prog 48 = true := by kernel_rfl
@[go_sem] theorem un48 : (Try.prog.underlying 48).isSome = true := by kernel_rfl
/- func(bool, bool) bool -/
@[go_sem] theorem ag49 : aggB Try.prog 49 = false := by kernel_rfl
@[go_sem] theorem ce49 : Try.prog.cellsOf 49 = 1 := by kernel_rfl
@[go_sem] theorem by49 : Try.prog.bytesOf 49 = 8 := by kernel_rfl
@[go_sem] theorem ze49 : zeroCells Try.prog 49 = [.v .nilFunc] := by kernel_rfl
@[go_sem] theorem zl49 : zeroLen Try.prog 49 = true := by kernel_rfl
@[go_sem] theorem un49 : (Try.prog.underlying 49).isSome = true := by kernel_rfl
/- func([]api.Span, []api.Span) []api.Span -/
@[go_sem] theorem ag50 : aggB Try.prog 50 = false := by kernel_rfl
@[go_sem] theorem ce50 : Try.prog.cellsOf 50 = 1 := by kernel_rfl
@[go_sem] theorem by50 : Try.prog.bytesOf 50 = 8 := by kernel_rfl
@[go_sem] theorem ze50 : zeroCells Try.prog 50 = [.v .nilFunc] := by kernel_rfl
@[go_sem] theorem zl50 : zeroLen Try.prog 50 = true := by kernel_rfl
@[go_sem] theorem un50 : (Try.prog.underlying 50).isSome = true := by kernel_rfl
/- func([]api.Span, api.Span) []api.Span -/
@[go_sem] theorem ag51 : aggB Try.prog 51 = false := by kernel_rfl
@[go_sem] theorem ce51 : Try.prog.cellsOf 51 = 1 := by kernel_rfl
@[go_sem] theorem by51 : Try.prog.bytesOf 51 = 8 := by kernel_rfl
@[go_sem] theorem ze51 : zeroCells Try.prog 51 = [.v .nilFunc] := by kernel_rfl
@[go_sem] theorem zl51 : zeroLen Try.prog 51 = true := by kernel_rfl
@[go_sem] theorem un51 : (Try.prog.underlying 51).isSome = true := by kernel_rfl
/- func([]api.Span, func(api.Span) bool) bool -/
@[go_sem] theorem ag52 : aggB Try.prog 52 = false := by kernel_rfl
@[go_sem] theorem ce52 : Try.prog.cellsOf 52 = 1 := by kernel_rfl
@[go_sem] theorem by52 : Try.prog.bytesOf 52 = 8 := by kernel_rfl
@[go_sem] theorem ze52 : zeroCells Try.prog 52 = [.v .nilFunc] := by kernel_rfl
@[go_sem] theorem zl52 : zeroLen Try.prog 52 = true := by kernel_rfl
@[go_sem] theorem un52 : (Try.prog.underlying 52).isSome = true := by kernel_rfl
/- func([]api.Span, int, int, int, func(api.Span, api.Span) int) -/
@[go_sem] theorem ag53 : aggB Try.prog 53 = false := by kernel_rfl
@[go_sem] theorem ce53 : Try.prog.cellsOf 53 = 1 := by kernel_rfl
@[go_sem] theorem by53 : Try.prog.bytesOf 53 = 8 := by kernel_rfl
@[go_sem] theorem ze53 : zeroCells Try.prog 53 = [.v .nilFunc] := by kernel_rfl
@[go_sem] theorem zl53 : zeroLen Try.prog 53 = true := by kernel_rfl
@[go_sem] theorem un53 : (Try.prog.underlying 53).isSome = true := by kernel_rfl
/- func(uint) int -/
@[go_sem] theorem ag54 : aggB Try.prog 54 = false := by kernel_rfl
@[go_sem] theorem ce54 : Try.prog.cellsOf 54 = 1 := by kernel_rfl
@[go_sem] theorem by54 : Try.prog.bytesOf 54 = 8 := by kernel_rfl
@[go_sem] theorem ze54 : zeroCells Try.prog 54 = [.v .nilFunc] := by kernel_rfl
@[go_sem] theorem zl54 : zeroLen Try.prog 54 = true := by kernel_rfl
@[go_sem] theorem un54 : (Try.prog.underlying 54).isSome = true := by kernel_rfl
/- uint -/
@[go_sem] theorem ag55 : aggB Try.prog 55 = false := by kernel_rfl
@[go_sem] theorem ce55 : Try.prog.cellsOf 55 = 1 := by kernel_rfl
@[go_sem] theorem by55 : Try.prog.bytesOf 55 = 8 := by kernel_rfl
@[go_sem] theorem ze55 : zeroCells Try.prog 55 = [.v (.int .u64 0)] := by kernel_rfl
@[go_sem] theorem zl55 : zeroLen Try.prog 55 = true := by kernel_rfl
@[go_sem] theorem un55 : Try.prog.underlying 55 = some (.int .u64) := by kernel_rfl
/- func(int) bool -/
@[go_sem] theorem ag56 : aggB Try.prog 56 = false := by kernel_rfl
@[go_sem] theorem ce56 : Try.prog.cellsOf 56 = 1 := by kernel_rfl
@[go_sem] theorem by56 : Try.prog.bytesOf 56 = 8 := by kernel_rfl
@[go_sem] theorem ze56 : zeroCells Try.prog 56 = [.v .nilFunc] := by kernel_rfl
@[go_sem] theorem zl56 : zeroLen Try.prog 56 = true := by kernel_rfl
@[go_sem] theorem un56 : (Try.prog.underlying 56).isSome = true := by kernel_rfl
/- func(func(int, span.inside) bool) -/
@[go_sem] theorem ag57 : aggB Try.prog 57 = false := by kernel_rfl
@[go_sem] theorem ce57 : Try.prog.cellsOf 57 = 1 := by kernel_rfl
@[go_sem] theorem by57 : Try.prog.bytesOf 57 = 8 := by kernel_rfl
@[go_sem] theorem ze57 : zeroCells Try.prog 57 = [.v .nilFunc] := by kernel_rfl
@[go_sem] theorem zl57 : zeroLen Try.prog 57 = true := by kernel_rfl
@[go_sem] theorem un57 : (Try.prog.underlying 57).isSome = true := by kernel_rfl
/- iter.Seq2[int,nameplan/span.inside] -/
@[go_sem] theorem ag58 : aggB Try.prog 58 = false := by kernel_rfl
@[go_sem] theorem ce58 : Try.prog.cellsOf 58 = 1 := by kernel_rfl
@[go_sem] theorem by58 : Try.prog.bytesOf 58 = 8 := by kernel_rfl
@[go_sem] theorem ze58 : zeroCells Try.prog 58 = [.v .nilFunc] := by kernel_rfl
@[go_sem] theorem zl58 : zeroLen Try.prog 58 = true := by kernel_rfl
@[go_sem] theorem un58 : (Try.prog.underlying 58).isSome = true := by kernel_rfl
/- func([]api.Span, []api.Span) iter.Seq2[int,nameplan/span.inside] -/
@[go_sem] theorem ag59 : aggB Try.prog 59 = false := by kernel_rfl
@[go_sem] theorem ce59 : Try.prog.cellsOf 59 = 1 := by kernel_rfl
@[go_sem] theorem by59 : Try.prog.bytesOf 59 = 8 := by kernel_rfl
@[go_sem] theorem ze59 : zeroCells Try.prog 59 = [.v .nilFunc] := by kernel_rfl
@[go_sem] theorem zl59 : zeroLen Try.prog 59 = true := by kernel_rfl
@[go_sem] theorem un59 : (Try.prog.underlying 59).isSome = true := by kernel_rfl
/- struct { a bool; b bool } -/
@[go_sem] theorem ag60 : aggB Try.prog 60 = true := by kernel_rfl
@[go_sem] theorem ce60 : Try.prog.cellsOf 60 = 2 := by kernel_rfl
@[go_sem] theorem by60 : Try.prog.bytesOf 60 = 2 := by kernel_rfl
@[go_sem] theorem ze60 : zeroCells Try.prog 60 = [.v (.bool false), .v (.bool false)] := by kernel_rfl
@[go_sem] theorem zl60 : zeroLen Try.prog 60 = true := by kernel_rfl
@[go_sem] theorem un60 : (Try.prog.underlying 60).isSome = true := by kernel_rfl
@[go_sem] theorem fl60_0 : fld Try.prog 60 0 = some (0, 4) := by kernel_rfl
@[go_sem] theorem fl60_1 : fld Try.prog 60 1 = some (1, 4) := by kernel_rfl
@[go_sem] theorem sb60 : structB Try.prog 60 = true := by kernel_rfl
@[go_sem] theorem ek60 : eqKinds Try.prog 60 = some [.b, .b] := by kernel_rfl
/- span.inside -/
@[go_sem] theorem ag61 : aggB Try.prog 61 = true := by kernel_rfl
@[go_sem] theorem ce61 : Try.prog.cellsOf 61 = 2 := by kernel_rfl
@[go_sem] theorem by61 : Try.prog.bytesOf 61 = 2 := by kernel_rfl
@[go_sem] theorem ze61 : zeroCells Try.prog 61 = [.v (.bool false), .v (.bool false)] := by kernel_rfl
@[go_sem] theorem zl61 : zeroLen Try.prog 61 = true := by kernel_rfl
@[go_sem] theorem un61 : (Try.prog.underlying 61).isSome = true := by kernel_rfl
@[go_sem] theorem fl61_0 : fld Try.prog 61 0 = some (0, 4) := by kernel_rfl
@[go_sem] theorem fl61_1 : fld Try.prog 61 1 = some (1, 4) := by kernel_rfl
@[go_sem] theorem sb61 : structB Try.prog 61 = true := by kernel_rfl
@[go_sem] theorem ek61 : eqKinds Try.prog 61 = some [.b, .b] := by kernel_rfl
/- func([]api.Span, func(api.Span) bool) int -/
@[go_sem] theorem ag62 : aggB Try.prog 62 = false := by kernel_rfl
@[go_sem] theorem ce62 : Try.prog.cellsOf 62 = 1 := by kernel_rfl
@[go_sem] theorem by62 : Try.prog.bytesOf 62 = 8 := by kernel_rfl
@[go_sem] theorem ze62 : zeroCells Try.prog 62 = [.v .nilFunc] := by kernel_rfl
@[go_sem] theorem zl62 : zeroLen Try.prog 62 = true := by kernel_rfl
@[go_sem] theorem un62 : (Try.prog.underlying 62).isSome = true := by kernel_rfl
/- func([]api.Span, int, int, func(api.Span, api.Span) int) -/
@[go_sem] theorem ag63 : aggB Try.prog 63 = false := by kernel_rfl
@[go_sem] theorem ce63 : Try.prog.cellsOf 63 = 1 := by kernel_rfl
@[go_sem] theorem by63 : Try.prog.bytesOf 63 = 8 := by kernel_rfl
@[go_sem] theorem ze63 : zeroCells Try.prog 63 = [.v .nilFunc] := by kernel_rfl
@[go_sem] theorem zl63 : zeroLen Try.prog 63 = true := by kernel_rfl
@[go_sem] theorem un63 : (Try.prog.underlying 63).isSome = true := by kernel_rfl
/- slices.sortedHint -/
@[go_sem] theorem ag64 : aggB Try.prog 64 = false := by kernel_rfl
@[go_sem] theorem ce64 : Try.prog.cellsOf 64 = 1 := by kernel_rfl
@[go_sem] theorem by64 : Try.prog.bytesOf 64 = 8 := by kernel_rfl
@[go_sem] theorem ze64 : zeroCells Try.prog 64 = [.v (.int .i64 0)] := by kernel_rfl
@[go_sem] theorem zl64 : zeroLen Try.prog 64 = true := by kernel_rfl
@[go_sem] theorem un64 : Try.prog.underlying 64 = some (.int .i64) := by kernel_rfl
/- func([]api.Span, int, int, func(api.Span, api.Span) int) (int, slices.sortedHint) -/
@[go_sem] theorem ag66 : aggB Try.prog 66 = false := by kernel_rfl
@[go_sem] theorem ce66 : Try.prog.cellsOf 66 = 1 := by kernel_rfl
@[go_sem] theorem by66 : Try.prog.bytesOf 66 = 8 := by kernel_rfl
@[go_sem] theorem ze66 : zeroCells Try.prog 66 = [.v .nilFunc] := by kernel_rfl
@[go_sem] theorem zl66 : zeroLen Try.prog 66 = true := by kernel_rfl
@[go_sem] theorem un66 : (Try.prog.underlying 66).isSome = true := by kernel_rfl
/- func([]api.Span, int, int, func(api.Span, api.Span) int) bool -/
@[go_sem] theorem ag67 : aggB Try.prog 67 = false := by kernel_rfl
@[go_sem] theorem ce67 : Try.prog.cellsOf 67 = 1 := by kernel_rfl
@[go_sem] theorem by67 : Try.prog.bytesOf 67 = 8 := by kernel_rfl
@[go_sem] theorem ze67 : zeroCells Try.prog 67 = [.v .nilFunc] := by kernel_rfl
@[go_sem] theorem zl67 : zeroLen Try.prog 67 = true := by kernel_rfl
@[go_sem] theorem un67 : (Try.prog.underlying 67).isSome = true := by kernel_rfl
/- func([]api.Span, int, int, int, func(api.Span, api.Span) int) int -/
@[go_sem] theorem ag68 : aggB Try.prog 68 = false := by kernel_rfl
@[go_sem] theorem ce68 : Try.prog.cellsOf 68 = 1 := by kernel_rfl
@[go_sem] theorem by68 : Try.prog.bytesOf 68 = 8 := by kernel_rfl
@[go_sem] theorem ze68 : zeroCells Try.prog 68 = [.v .nilFunc] := by kernel_rfl
@[go_sem] theorem zl68 : zeroLen Try.prog 68 = true := by kernel_rfl
@[go_sem] theorem un68 : (Try.prog.underlying 68).isSome = true := by kernel_rfl
/- func([]api.Span, int, int, int, func(api.Span, api.Span) int) (int, bool) -/
@[go_sem] theorem ag70 : aggB Try.prog 70 = false := by kernel_rfl
@[go_sem] theorem ce70 : Try.prog.cellsOf 70 = 1 := by kernel_rfl
@[go_sem] theorem by70 : Try.prog.bytesOf 70 = 8 := by kernel_rfl
@[go_sem] theorem ze70 : zeroCells Try.prog 70 = [.v .nilFunc] := by kernel_rfl
@[go_sem] theorem zl70 : zeroLen Try.prog 70 = true := by kernel_rfl
@[go_sem] theorem un70 : (Try.prog.underlying 70).isSome = true := by kernel_rfl
/- func(uint32) int -/
@[go_sem] theorem ag71 : aggB Try.prog 71 = false := by kernel_rfl
@[go_sem] theorem ce71 : Try.prog.cellsOf 71 = 1 := by kernel_rfl
@[go_sem] theorem by71 : Try.prog.bytesOf 71 = 8 := by kernel_rfl
@[go_sem] theorem ze71 : zeroCells Try.prog 71 = [.v .nilFunc] := by kernel_rfl
@[go_sem] theorem zl71 : zeroLen Try.prog 71 = true := by kernel_rfl
@[go_sem] theorem un71 : (Try.prog.underlying 71).isSome = true := by kernel_rfl
/- func(uint64) int -/
@[go_sem] theorem ag72 : aggB Try.prog 72 = false := by kernel_rfl
@[go_sem] theorem ce72 : Try.prog.cellsOf 72 = 1 := by kernel_rfl
@[go_sem] theorem by72 : Try.prog.bytesOf 72 = 8 := by kernel_rfl
@[go_sem] theorem ze72 : zeroCells Try.prog 72 = [.v .nilFunc] := by kernel_rfl
@[go_sem] theorem zl72 : zeroLen Try.prog 72 = true := by kernel_rfl
@[go_sem] theorem un72 : (Try.prog.underlying 72).isSome = true := by kernel_rfl
/- uint64 -/
@[go_sem] theorem ag73 : aggB Try.prog 73 = false := by kernel_rfl
@[go_sem] theorem ce73 : Try.prog.cellsOf 73 = 1 := by kernel_rfl
@[go_sem] theorem by73 : Try.prog.bytesOf 73 = 8 := by kernel_rfl
@[go_sem] theorem ze73 : zeroCells Try.prog 73 = [.v (.int .u64 0)] := by kernel_rfl
@[go_sem] theorem zl73 : zeroLen Try.prog 73 = true := by kernel_rfl
@[go_sem] theorem un73 : Try.prog.underlying 73 = some (.int .u64) := by kernel_rfl
/- func(int, span.inside) bool -/
@[go_sem] theorem ag74 : aggB Try.prog 74 = false := by kernel_rfl
@[go_sem] theorem ce74 : Try.prog.cellsOf 74 = 1 := by kernel_rfl
@[go_sem] theorem by74 : Try.prog.bytesOf 74 = 8 := by kernel_rfl
@[go_sem] theorem ze74 : zeroCells Try.prog 74 = [.v .nilFunc] := by kernel_rfl
@[go_sem] theorem zl74 : zeroLen Try.prog 74 = true := by kernel_rfl
@[go_sem] theorem un74 : (Try.prog.underlying 74).isSome = true := by kernel_rfl
/- func([]api.Span) []int -/
@[go_sem] theorem ag75 : aggB Try.prog 75 = false := by kernel_rfl
@[go_sem] theorem ce75 : Try.prog.cellsOf 75 = 1 := by kernel_rfl
@[go_sem] theorem by75 : Try.prog.bytesOf 75 = 8 := by kernel_rfl
@[go_sem] theorem ze75 : zeroCells Try.prog 75 = [.v .nilFunc] := by kernel_rfl
@[go_sem] theorem zl75 : zeroLen Try.prog 75 = true := by kernel_rfl
@[go_sem] theorem un75 : (Try.prog.underlying 75).isSome = true := by kernel_rfl
/- slices.xorshift -/
@[go_sem] theorem ag76 : aggB Try.prog 76 = false := by kernel_rfl
@[go_sem] theorem ce76 : Try.prog.cellsOf 76 = 1 := by kernel_rfl
@[go_sem] theorem by76 : Try.prog.bytesOf 76 = 8 := by kernel_rfl
@[go_sem] theorem ze76 : zeroCells Try.prog 76 = [.v (.int .u64 0)] := by kernel_rfl
@[go_sem] theorem zl76 : zeroLen Try.prog 76 = true := by kernel_rfl
@[go_sem] theorem un76 : Try.prog.underlying 76 = some (.int .u64) := by kernel_rfl
/- func(int) uint -/
@[go_sem] theorem ag77 : aggB Try.prog 77 = false := by kernel_rfl
@[go_sem] theorem ce77 : Try.prog.cellsOf 77 = 1 := by kernel_rfl
@[go_sem] theorem by77 : Try.prog.bytesOf 77 = 8 := by kernel_rfl
@[go_sem] theorem ze77 : zeroCells Try.prog 77 = [.v .nilFunc] := by kernel_rfl
@[go_sem] theorem zl77 : zeroLen Try.prog 77 = true := by kernel_rfl
@[go_sem] theorem un77 : (Try.prog.underlying 77).isSome = true := by kernel_rfl
/- func() uint64 -/
@[go_sem] theorem ag78 : aggB Try.prog 78 = false := by kernel_rfl
@[go_sem] theorem ce78 : Try.prog.cellsOf 78 = 1 := by kernel_rfl
@[go_sem] theorem by78 : Try.prog.bytesOf 78 = 8 := by kernel_rfl
@[go_sem] theorem ze78 : zeroCells Try.prog 78 = [.v .nilFunc] := by kernel_rfl
@[go_sem] theorem zl78 : zeroLen Try.prog 78 = true := by kernel_rfl
@[go_sem] theorem un78 : (Try.prog.underlying 78).isSome = true := by kernel_rfl
/- func([]api.Span, int, *int, func(api.Span, api.Span) int) int -/
@[go_sem] theorem ag79 : aggB Try.prog 79 = false := by kernel_rfl
@[go_sem] theorem ce79 : Try.prog.cellsOf 79 = 1 := by kernel_rfl
@[go_sem] theorem by79 : Try.prog.bytesOf 79 = 8 := by kernel_rfl
@[go_sem] theorem ze79 : zeroCells Try.prog 79 = [.v .nilFunc] := by kernel_rfl
@[go_sem] theorem zl79 : zeroLen Try.prog 79 = true := by kernel_rfl
@[go_sem] theorem un79 : (Try.prog.underlying 79).isSome = true := by kernel_rfl
/- *int -/
@[go_sem] theorem ag80 : aggB Try.prog 80 = false := by kernel_rfl
@[go_sem] theorem ce80 : Try.prog.cellsOf 80 = 1 := by kernel_rfl
@[go_sem] theorem by80 : Try.prog.bytesOf 80 = 8 := by kernel_rfl
@[go_sem] theorem ze80 : zeroCells Try.prog 80 = [.v (.pointer none)] := by kernel_rfl
@[go_sem] theorem zl80 : zeroLen Try.prog 80 = true := by kernel_rfl
@[go_sem] theorem un80 : (Try.prog.underlying 80).isSome = true := by kernel_rfl
/- func([]api.Span, int, int, int, *int, func(api.Span, api.Span) int) int -/
@[go_sem] theorem ag81 : aggB Try.prog 81 = false := by kernel_rfl
@[go_sem] theorem ce81 : Try.prog.cellsOf 81 = 1 := by kernel_rfl
@[go_sem] theorem by81 : Try.prog.bytesOf 81 = 8 := by kernel_rfl
@[go_sem] theorem ze81 : zeroCells Try.prog 81 = [.v .nilFunc] := by kernel_rfl
@[go_sem] theorem zl81 : zeroLen Try.prog 81 = true := by kernel_rfl
@[go_sem] theorem un81 : (Try.prog.underlying 81).isSome = true := by kernel_rfl
/- *slices.xorshift -/
@[go_sem] theorem ag82 : aggB Try.prog 82 = false := by kernel_rfl
@[go_sem] theorem ce82 : Try.prog.cellsOf 82 = 1 := by kernel_rfl
@[go_sem] theorem by82 : Try.prog.bytesOf 82 = 8 := by kernel_rfl
@[go_sem] theorem ze82 : zeroCells Try.prog 82 = [.v (.pointer none)] := by kernel_rfl
@[go_sem] theorem zl82 : zeroLen Try.prog 82 = true := by kernel_rfl
@[go_sem] theorem un82 : (Try.prog.underlying 82).isSome = true := by kernel_rfl
/- func([]api.Span, int, int, *int, func(api.Span, api.Span) int) (int, int) -/
@[go_sem] theorem ag84 : aggB Try.prog 84 = false := by kernel_rfl
@[go_sem] theorem ce84 : Try.prog.cellsOf 84 = 1 := by kernel_rfl
@[go_sem] theorem by84 : Try.prog.bytesOf 84 = 8 := by kernel_rfl
@[go_sem] theorem ze84 : zeroCells Try.prog 84 = [.v .nilFunc] := by kernel_rfl
@[go_sem] theorem zl84 : zeroLen Try.prog 84 = true := by kernel_rfl
@[go_sem] theorem un84 : (Try.prog.underlying 84).isSome = true := by kernel_rfl
/- func() string -/
@[go_sem] theorem ag85 : aggB Try.prog 85 = false := by kernel_rfl
@[go_sem] theorem ce85 : Try.prog.cellsOf 85 = 1 := by kernel_rfl
@[go_sem] theorem by85 : Try.prog.bytesOf 85 = 8 := by kernel_rfl
@[go_sem] theorem ze85 : zeroCells Try.prog 85 = [.v .nilFunc] := by kernel_rfl
@[go_sem] theorem zl85 : zeroLen Try.prog 85 = true := by kernel_rfl
@[go_sem] theorem un85 : (Try.prog.underlying 85).isSome = true := by kernel_rfl
/- func() int -/
@[go_sem] theorem ag91 : aggB Try.prog 91 = false := by kernel_rfl
@[go_sem] theorem ce91 : Try.prog.cellsOf 91 = 1 := by kernel_rfl
@[go_sem] theorem by91 : Try.prog.bytesOf 91 = 8 := by kernel_rfl
@[go_sem] theorem ze91 : zeroCells Try.prog 91 = [.v .nilFunc] := by kernel_rfl
@[go_sem] theorem zl91 : zeroLen Try.prog 91 = true := by kernel_rfl
@[go_sem] theorem un91 : (Try.prog.underlying 91).isSome = true := by kernel_rfl
/- func(unsafe.Pointer, unsafe.Pointer) bool -/
@[go_sem] theorem ag94 : aggB Try.prog 94 = false := by kernel_rfl
@[go_sem] theorem ce94 : Try.prog.cellsOf 94 = 1 := by kernel_rfl
@[go_sem] theorem by94 : Try.prog.bytesOf 94 = 8 := by kernel_rfl
@[go_sem] theorem ze94 : zeroCells Try.prog 94 = [.v .nilFunc] := by kernel_rfl
@[go_sem] theorem zl94 : zeroLen Try.prog 94 = true := by kernel_rfl
@[go_sem] theorem un94 : (Try.prog.underlying 94).isSome = true := by kernel_rfl
/- *uint8 -/
@[go_sem] theorem ag95 : aggB Try.prog 95 = false := by kernel_rfl
@[go_sem] theorem ce95 : Try.prog.cellsOf 95 = 1 := by kernel_rfl
@[go_sem] theorem by95 : Try.prog.bytesOf 95 = 8 := by kernel_rfl
@[go_sem] theorem ze95 : zeroCells Try.prog 95 = [.v (.pointer none)] := by kernel_rfl
@[go_sem] theorem zl95 : zeroLen Try.prog 95 = true := by kernel_rfl
@[go_sem] theorem un95 : (Try.prog.underlying 95).isSome = true := by kernel_rfl
end Go.Proofs.Ytfcdbijmoiegiaa
