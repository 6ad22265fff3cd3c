/-
  SETS OF DATA: what the functions of package record, and of the document's answer nameplanref02, compute, as plain Lean. Conditions: none.
-/
import Derived.Test.YtfggmgafjabbjaaDoorStr
namespace Go.Rec
open Go.DL Go.Str

structure Dat where
  t : Str
  n : Int
  m : Int
  deriving Inhabited, DecidableEq
structure RSet where
  name : Str
  ty : Int
  life : Int
  data : List Dat
  deriving Inhabited, DecidableEq
structure Rule where
  text : Int
  n0 : Int
  n1 : Int
  m0 : Int
  m1 : Int
  even : Bool
  single : Bool
  wild : Bool
  deriving Inhabited, DecidableEq
def Dat.d (x : Dat) : List D := [.v (.string (bs x.t)), .i x.n, .i x.m]
def Dat.of : List D → Dat
  | [.v (.string s), .v (.int _ n), .v (.int _ m)] => ⟨s.data.toList, n, m⟩
  | _ => default
def RSet.d (x : RSet) : List D := [.v (.string (bs x.name)), .i x.ty, .i x.life, .list false (x.data.map Dat.d)]
def RSet.of : List D → RSet
  | [.v (.string s), .v (.int _ t), .v (.int _ l), .list _ rows] => ⟨s.data.toList, t, l, rows.map Dat.of⟩
  | _ => default
def Rule.d (r : Rule) : List D := [.i r.text, .i r.n0, .i r.n1, .i r.m0, .i r.m1, .b r.even, .b r.single, .b r.wild]
def Rule.of : List D → Rule
  | [.v (.int _ a), .v (.int _ b), .v (.int _ c), .v (.int _ d), .v (.int _ e), .v (.bool f), .v (.bool g), .v (.bool h)] => ⟨a, b, c, d, e, f, g, h⟩
  | _ => default
def agg1 {α : Type} (f : List D → α) (z : α) : D → α
  | .agg cs => f cs
  | _ => z
def list1 {α : Type} (f : List D → α) : D → List α
  | .list _ rows => rows.map f
  | _ => []
def iR (n : Int) : List D := [.i n]
def ofI : List D → Int
  | [.v (.int _ n)] => n
  | _ => 0
def ints1 : D → List Int := list1 ofI
def dat1 : D → Dat := agg1 Dat.of default
def dats1 : D → List Dat := list1 Dat.of
def set1 : D → RSet := agg1 RSet.of default
def sets1 : D → List RSet := list1 RSet.of
def rule1 : D → Rule := agg1 Rule.of default
attribute [go_sem] Dat.d RSet.d Rule.d iR
theorem of_dat (x : Dat) : Dat.of x.d = x := by simp [Dat.of, Dat.d, bs_data]
theorem of_set (x : RSet) : RSet.of x.d = x := by simp [RSet.of, RSet.d, bs_data, map_id_of of_dat]
@[go_sem] theorem dats1_map {f : Bool} {l : List Dat} : dats1 (.list f (l.map Dat.d)) = l := map_id_of of_dat l
@[go_sem] theorem dats1_nil {f : Bool} : dats1 (.list f []) = [] := rfl
@[go_sem] theorem sets1_map {f : Bool} {l : List RSet} : sets1 (.list f (l.map RSet.d)) = l := map_id_of of_set l
@[go_sem] theorem sets1_nil {f : Bool} : sets1 (.list f []) = [] := rfl
@[go_sem] theorem ints1_map {f : Bool} {l : List Int} : ints1 (.list f (l.map iR)) = l := map_id_of (f := iR) (g := ofI) (fun _ => rfl) l
@[go_sem] theorem dat1_agg {s : ByteArray} {n m : Int} {k k' : IntKind} : dat1 (.agg [.v (.string s), .v (.int k n), .v (.int k' m)]) = ⟨s.data.toList, n, m⟩ := rfl
@[go_sem] theorem set1_agg {s : ByteArray} {n m : Int} {k k' : IntKind} {f : Bool} {rows : List (List D)} : set1 (.agg [.v (.string s), .v (.int k n), .v (.int k' m), .list f rows]) = ⟨s.data.toList, n, m, dats1 (.list f rows)⟩ := rfl
@[go_sem] theorem rule1_agg {r : Rule} : rule1 (.agg [.i r.text, .i r.n0, .i r.n1, .i r.m0, .i r.m1, .b r.even, .b r.single, .b r.wild]) = r := rfl

/-! ### small things -/
def inR (x lo hi : Int) : Bool := decide (lo ≤ x) && decide (x ≤ hi)
def cmpI (x y : Int) : Int := if x < y then -1 else if y < x then 1 else 0
def ltS (a b : Str) : Bool := Go.Op.bytesLess a b
def cmpS (a b : Str) : Int := if ltS a b then -1 else if !(ltS a b || a == b) then 1 else 0
def hasPre (s p : Str) : Bool := decide (p.length ≤ s.length) && s.take p.length == p
def wildB (s : Str) : Bool := decide (0 < s.length) && decide ((s.getD 0 0).toNat = 42)
theorem wild_pre (s : Str) : hasPre s [42] = wildB s := by
  cases s with
  | nil => rfl
  | cons c r =>
    simp only [hasPre, wildB, List.length_cons, List.length_nil, List.take_succ_cons, List.take_zero, List.getD_cons_zero]
    have h1 : decide (0 + 1 ≤ r.length + 1) = true := by simp
    have h2 : decide (0 < r.length + 1) = true := by simp
    rw [h1, h2, Bool.true_and, Bool.true_and, Bool.eq_iff_iff, beq_iff_eq, decide_eq_true_eq]
    constructor
    · intro h; have := (List.cons.inj h).1; subst this; rfl
    · intro h; have : c = 42 := UInt8.toNat_inj.1 h
      subst this; rfl
def orFrom (l : List Int) (k : Nat) : Int := if k < l.length then if l[k]! != 0 then l[k]! else orFrom l (k + 1) else 0
termination_by l.length - k
theorem orFrom_eq (l : List Int) (k : Nat) : orFrom l k = if k < l.length then if l[k]! != 0 then l[k]! else orFrom l (k + 1) else 0 := by rw [orFrom]
/-- a text of a set of texts: letters, digits, blanks, none at its ends -/
def freeIn (l : Str) (i : Nat) : Bool := alnum (l.getD i 0) || decide ((l.getD i 0).toNat = 32)
def freeB (l : Str) : Bool := if l.length < 1 then false else if 40 < l.length then false else if (l.getD 0 0).toNat = 32 then false else if (l.getD (l.length - 1) 0).toNat = 32 then false else allN l.length (freeIn l) 0
def less (a b : Dat) : Bool := if a.t != b.t then ltS a.t b.t else if a.n != b.n then decide (a.n < b.n) else decide (a.m < b.m)
end Go.Rec
