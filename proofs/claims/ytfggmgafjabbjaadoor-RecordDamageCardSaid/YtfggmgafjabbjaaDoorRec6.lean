/-
  SETS OF DATA, 6: merging, as the program does it: plain functions. Conditions: none.
-/
import Derived.Test.YtfggmgafjabbjaaDoorRec5
import Derived.Test.YtfggmgafjabbjaaDoorSym
set_option linter.unusedVariables false
set_option linter.unusedSimpArgs false
namespace Go.Rec
open Go.DL Go.Str Go.Cmp

def keepD (y _ : Dat) : Dat := y
theorem un_dat : Un datC keepD := by
  refine ⟨fun x y _ => cm_dat.self x, fun x y h => datC_eq h, fun x y z h k => rfl⟩
/-- data in order, each once -/
def canon (l : List Dat) : List Dat := l.foldl (ins datC keepD) []
theorem canon_eq {s l : List Dat} (hs : Strict datC s) (p : s.Perm l) : canon l = s := by
  unfold canon
  rw [← ins_perm cm_dat un_dat p [], fold_self s [] (by simp) hs, List.nil_append]
theorem strict_of {s : List Dat} (hs : Sorted datC s) (hn : s.Nodup) : Strict datC s := by
  have := hs.and hn
  exact this.imp fun {a b} h => by
    have h1 := h.1
    by_cases e : datC a b = 0
    · exact absurd (datC_eq e) h.2
    · omega
def lifeOf (l : List RSet) (a : Int) : Int := l.foldl (fun a x => min a x.life) a
def uniteF (l : List RSet) : RSet := ⟨l[0]!.name, l[0]!.ty, lifeOf l l[0]!.life, canon (l.flatMap RSet.data)⟩
def cntP (s : List RSet) (k : Nat) : Nat := if k < s.length ∧ s[k]!.ty = s[0]!.ty ∧ s[k]!.name = s[0]!.name then cntP s (k + 1) else k
termination_by s.length - k
theorem cntP_eq (s : List RSet) (k : Nat) : cntP s k = if k < s.length ∧ s[k]!.ty = s[0]!.ty ∧ s[k]!.name = s[0]!.name then cntP s (k + 1) else k := by rw [cntP]
theorem cntP_le (s : List RSet) (k : Nat) (h : k ≤ s.length) : k ≤ cntP s k ∧ cntP s k ≤ s.length := by
  rw [cntP_eq]
  split
  · rename_i q
    have := cntP_le s (k + 1) (by omega)
    omega
  · exact ⟨Nat.le_refl _, h⟩
termination_by s.length - k
def mloop (s out : List RSet) : List RSet × Int :=
  if h : 0 < s.length then
    (if (ruleAt (uniteF (s.take (cntP s 1))).ty.toNat).single = true ∧ 1 < (uniteF (s.take (cntP s 1))).data.length then ([], 35)
    else if 8 < (uniteF (s.take (cntP s 1))).data.length then ([], 2)
    else mloop (s.drop (cntP s 1)) (out ++ [uniteF (s.take (cntP s 1))]))
  else (out, 0)
termination_by s.length
decreasing_by
  have := cntP_le s 1 h
  simp; omega
theorem mloop_eq (s out : List RSet) : mloop s out = if 0 < s.length then
    (if (ruleAt (uniteF (s.take (cntP s 1))).ty.toNat).single = true ∧ 1 < (uniteF (s.take (cntP s 1))).data.length then ([], 35)
    else if 8 < (uniteF (s.take (cntP s 1))).data.length then ([], 2)
    else mloop (s.drop (cntP s 1)) (out ++ [uniteF (s.take (cntP s 1))]))
  else (out, 0) := by
  rw [mloop]
  split <;> rfl
def mergeP (l : List RSet) : List RSet × Int := if l.all setOk then mloop (isort plC l 0 l.length) [] else ([], 1)
theorem take_data {l : List RSet} {k : Nat} (h : k < l.length) : (l.take (k + 1)).flatMap RSet.data = (l.take k).flatMap RSet.data ++ l[k]!.data := by
  rw [List.take_add_one, List.getElem?_eq_getElem h, List.flatMap_append, getElem!_pos l k h]
  simp
theorem take_life {l : List RSet} {k : Nat} (h : k < l.length) (a : Int) : lifeOf (l.take (k + 1)) a = min (lifeOf (l.take k) a) l[k]!.life := by
  unfold lifeOf
  rw [List.take_add_one, List.getElem?_eq_getElem h, List.foldl_append, getElem!_pos l k h]
  simp
theorem canon_len (l : List Dat) : (canon l).length ≤ l.length := by
  have key : ∀ (l acc : List Dat), (l.foldl (ins datC keepD) acc).length ≤ acc.length + l.length := by
    have one : ∀ (acc : List Dat) (x : Dat), (ins datC keepD acc x).length ≤ acc.length + 1 := by
      intro acc
      induction acc with
      | nil => intro x; simp [ins]
      | cons y r ih => intro x; unfold ins; split <;> (try split) <;> simp <;> exact ih x
    intro l
    induction l with
    | nil => intro acc; simp
    | cons x l ih =>
      intro acc
      have h1 := one acc x
      have h2 := ih (ins datC keepD acc x)
      simp only [List.foldl_cons, List.length_cons]
      omega
  have := key l []
  unfold canon
  simpa using this
end Go.Rec
