/-
  SETS OF DATA, 7: what the laws of package record ask. Conditions: none.
-/
import Derived.Test.YtfggmgafjabbjaaDoorRec6
set_option linter.unusedVariables false
set_option linter.unusedSimpArgs false
namespace Go.Rec
open Go.DL Go.Str Go.Cmp

def addrF (life : Int) (l : List Int) : RSet := ⟨[120], 1, life, l.map fun n => ⟨[], n, 0⟩⟩
theorem take_one {α : Type} [Inhabited α] {l : List α} {k : Nat} (h : k < l.length) : l.take (k + 1) = l.take k ++ [l[k]!] := by
  rw [List.take_add_one, List.getElem?_eq_getElem h, getElem!_pos l k h]
  rfl
end Go.Rec
