/-
  THE D LAYER, 1: plain data, abstract states, and an evaluator of operations on them; over any program. What it is for: a Go function's walk is made on plain data, with no heap in sight; the later texts of this layer show that the machine follows. Conditions: none.
-/
import Derived.WalkKit
import Derived.ControlIn
import Derived.CallsIn
import Derived.OrdersIn
namespace Go.DL

/-- Plain data, as an operation sees it. -/
inductive D where
  | v (x : Value)
  | agg (cs : List D)
  | list (full : Bool) (rows : List (List D))
  | eptr (cs : List D)
  | mrow (r off len : Nat)
  | mptr (r i off : Nat)
  | fn (f : Fn) (first caps : List D)
  | tuple (ds : List D)
  | iface (t : TypeId) (d : D)
  | cond (g : Bool) (d : D)
  | junk
  deriving Inhabited

abbrev D.i (n : Int) : D := .v (.int .i64 n)
abbrev D.b (x : Bool) : D := .v (.bool x)

def D.cells : D → List D
  | .agg cs => cs
  | d => [d]
/-- May stand in one cell. -/
def D.one : D → Bool
  | .v (.agg _) | .v (.tuple _) => false
  | .agg _ | .tuple _ | .cond _ _ | .junk => false
  | _ => true

/-- Package-level variables that are told, and never written: their cells. -/
def GlobT (_ : Program) : Type := Nat → Option (List Value)
abbrev Glob (P : Program) := Inhabited (GlobT P)
def Glob.tab (P : Program) [Glob P] : Nat → Option (List Value) := (default : GlobT P)

structure Blk where
  ty : TypeId
  rows : List (List D)

abbrev H := Nat → Option Blk

def upd {α : Type} (f : Nat → α) (i : Nat) (x : α) : Nat → α := fun j => if j = i then x else f j
theorem upd_same {α : Type} (f : Nat → α) (i : Nat) (x : α) : upd f i x i = x := by simp [upd]
theorem upd_ne {α : Type} (f : Nat → α) (i j : Nat) (x : α) (h : j ≠ i) : upd f i x j = f j := by simp [upd, h]

def ofCell : Value → D
  | .slice a n c => if a.isNone && n == 0 && c == 0 then .list true [] else .v (.slice a n c)
  | .func f fs cs => if fs.size == 0 && cs.size == 0 then .fn f [] [] else .v (.func f fs cs)
  | x => .v x
def ofV : Value → D
  | .agg cs => .agg (cs.toList.map ofCell)
  | x => ofCell x

section
variable (P : Program) [Glob P]
def aggB (t : TypeId) : Bool := match P.underlying t with | some (.struct _) | some (.array _ _) => true | _ => false
def zeroCells (t : TypeId) : List D := match (P.info? t).bind (·.zero) with | some z => (ofV z).cells | none => []
/-- The cells of a type's zero value are as many as the table says. -/
def zeroLen (t : TypeId) : Bool := match (P.info? t).bind (·.zero) with | some z => z.cells.size == P.cellsOf t | none => false
def fld (s : TypeId) (f : Nat) : Option (Nat × TypeId) := match P.underlying s with | some (.struct fs) => (fs[f]?).map fun f => (f.offset, f.type) | _ => none
def elemT (t : TypeId) : Option TypeId := match P.underlying t with | some (.slice e) => some e | _ => none
def mkD (t : TypeId) (cs : List D) : D := if aggB P t then .agg (cs.take (P.cellsOf t)) else cs.headD .junk

/-- loads -/
def ldCells (a : D) (h : H) : List D := match a with
  | .eptr cs => cs
  | .mptr r i off => match h r with
    | some b => (b.rows.getD i []).drop off
    | none => []
  | _ => []
def ldc (a : D) (h : H) : List D := match a with
  | .v (.pointer (some ⟨x, o, none⟩)) => match Glob.tab P x with
    | some cs => (cs.drop o).map D.v
    | none => []
  | a => ldCells a h
def ldD (t : TypeId) (a : D) (h : H) : D × Prop :=
  (mkD P t (ldc P a h), P.cellsOf t ≤ (ldc P a h).length ∧ 0 < P.cellsOf t ∧ (P.underlying t).isSome = true)
/-- stores -/
def splice (row : List D) (off : Nat) (cs : List D) : List D := row.take off ++ cs ++ row.drop (off + cs.length)
def stH (t : TypeId) (a x : D) (h : H) : H × Prop := match a with
  | .mptr r i off => match h r with
    | some b => (upd h r (some { b with rows := b.rows.set i (splice (b.rows.getD i []) off x.cells) }),
        x.cells.length = P.cellsOf t ∧ 0 < P.cellsOf t ∧ i < b.rows.length ∧ off + x.cells.length ≤ (b.rows.getD i []).length ∧ x.cells.all D.one = true)
    | none => (h, False)
  | _ => (h, False)
def ptrAdd (n : Nat) : D → D
  | .eptr cs => .eptr (cs.drop n)
  | .mptr r i off => .mptr r i (off + n)
  | .v (.pointer (some p)) => .v (.pointer (some (p.add n)))
  | _ => .junk
def isPtr : D → Bool
  | .eptr _ | .mptr _ _ _ => true
  | .v (.pointer (some _)) => true
  | _ => false
def fieldPtr (s : TypeId) (f : Nat) (a : D) : D × Prop := match fld P s f with
  | some (off, t) => (ptrAdd off a, isPtr a = true ∧ P.cellsOf t ≠ 0)
  | none => (.junk, False)
def fieldV (s : TypeId) (f : Nat) (a : D) : D × Prop := match fld P s f, a with
  | some (off, t), .agg cs => (mkD P t (cs.drop off), off + P.cellsOf t ≤ cs.length ∧ 0 < P.cellsOf t ∧ (P.underlying t).isSome = true)
  | _, _ => (.junk, False)
/-- the rows of a slice -/
def rowsOf (d : D) (h : H) : List (List D) := match d with
  | .list _ rows => rows
  | .mrow r off len => match h r with
    | some b => (b.rows.drop off).take len
    | none => []
  | .v (.string s) => s.data.toList.map fun b => [.v (.int .u8 b.toNat)]
  | _ => []
def lenD (d : D) : Nat := match d with
  | .list _ rows => rows.length
  | .mrow _ _ len => len
  | .v (.string s) => s.size
  | _ => 0
def arrT (t : TypeId) : Option (Nat × TypeId) := match P.underlying t with | some (.array n e) => some (n, e) | _ => none
def isGp : D → Bool
  | .v (.pointer (some _)) | .eptr _ => true
  | _ => false
def idxArr (t : TypeId) (x ix : D) : D × Prop := match arrT P t, ix with
  | some (n, e), .v (.int _ k) => (ptrAdd (k.toNat * P.cellsOf e) x, isGp x = true ∧ 0 ≤ k ∧ k < n ∧ 0 < P.cellsOf e)
  | _, _ => (.junk, False)
def idxPtr (t : TypeId) (x ix : D) (h : H) : D × Prop := match elemT P t with
  | none => idxArr P t x ix
  | some e => match x, ix with
    | .list _ rows, .v (.int _ n) => (.eptr (rows.getD n.toNat []), 0 ≤ n ∧ n < rows.length ∧ 0 < P.cellsOf e ∧ (rows.getD n.toNat []).length = P.cellsOf e)
    | .mrow r off len, .v (.int _ n) => (.mptr r (off + n.toNat) 0, 0 ≤ n ∧ n < len ∧ 0 < P.cellsOf e ∧ match h r with | some bl => bl.ty = e | none => False)
    | _, _ => (.junk, False)

/-- numbers within their kind -/
def inK (k : IntKind) (n : Int) : Prop := k.min ≤ n ∧ n ≤ k.max
/-- equality of flat structs -/
def eqCell : D → D → Bool
  | .v (.int _ a), .v (.int _ b) => a == b
  | .v (.bool a), .v (.bool b) => a == b
  | .v (.string a), .v (.string b) => a.data.toList == b.data.toList
  | _, _ => false
def eqCells : List D → List D → Bool
  | x :: xs, y :: ys => eqCell x y && eqCells xs ys
  | _, _ => true
inductive Kd where
  | b | i | s
def plainAs : Kd → D → D → Bool
  | .i, .v (.int k _), .v (.int k' _) => k == k'
  | .b, .v (.bool _), .v (.bool _) => true
  | .s, .v (.string _), .v (.string _) => true
  | _, _, _ => false
def eqPlain : List Kd → List D → List D → Bool
  | k :: ks, x :: xs, y :: ys => plainAs k x y && eqPlain ks xs ys
  | [], [], [] => true
  | _, _, _ => false
/-- two-place operations on plain values -/
def binV (t : TypeId) (op : BinOp) (x y : Value) : Value × Prop := match op, x, y with
  | .add, .int k a, .int k' b => if k.signed then (.int k (a + b), k = k' ∧ inK k (a + b)) else (.int k (k.wrap (a + b)), k = k')
  | .sub, .int k a, .int k' b => if k.signed then (.int k (a - b), k = k' ∧ inK k (a - b)) else (.int k (k.wrap (a - b)), k = k')
  | .mul, .int k a, .int k' b => if k.signed then (.int k (a * b), k = k' ∧ inK k (a * b)) else (.int k (k.wrap (a * b)), k = k')
  | .quo, .int k a, .int k' b => (.int k (a / b), k = k' ∧ 0 ≤ a ∧ 1 ≤ b ∧ inK k a)
  | .rem, .int k a, .int k' b => (.int k (a % b), k = k' ∧ 0 ≤ a ∧ 1 ≤ b)
  | .lss, .int k a, .int k' b => (.bool (decide (a < b)), k = k')
  | .leq, .int k a, .int k' b => (.bool (decide (a ≤ b)), k = k')
  | .gtr, .int k a, .int k' b => (.bool (decide (b < a)), k = k')
  | .geq, .int k a, .int k' b => (.bool (decide (b ≤ a)), k = k')
  | .eql, .int k a, .int k' b => (.bool (a == b), k = k')
  | .neq, .int k a, .int k' b => (.bool (a != b), k = k')
  | .eql, .bool a, .bool b => (.bool (a == b), P.underlying t = some .bool)
  | .neq, .bool a, .bool b => (.bool (a != b), P.underlying t = some .bool)
  | .eql, .string a, .string b => (.bool (a.data.toList == b.data.toList), True)
  | .neq, .string a, .string b => (.bool (a.data.toList != b.data.toList), True)
  | .add, .string a, .string b => (.string (a ++ b), a.size + b.size ≤ 9223372036854775807)
  | .lss, .string a, .string b => (.bool (Go.Op.bytesLess a.data.toList b.data.toList), True)
  | .leq, .string a, .string b => (.bool (Go.Op.bytesLess a.data.toList b.data.toList || a.data.toList == b.data.toList), True)
  | .gtr, .string a, .string b => (.bool !(Go.Op.bytesLess a.data.toList b.data.toList || a.data.toList == b.data.toList), True)
  | .geq, .string a, .string b => (.bool !(Go.Op.bytesLess a.data.toList b.data.toList), True)
  | .shl, .int k a, .int _ b => (.int k (k.wrap (a * 2 ^ (min b.toNat k.bits))), 0 ≤ b)
  | .shr, .int k a, .int _ b => (.int k (a.fdiv (2 ^ (min b.toNat k.bits))), 0 ≤ b)
  | .or, .int k a, .int k' b => (.int k (k.wrap (BitVec.ofInt k.bits a ||| BitVec.ofInt k.bits b).toNat), k = k')
  | _, _, _ => (undef, False)
/-- structs whose fields are plain, one cell each -/
def kindOf (P : Program) [Glob P] (t : TypeId) : Option Kd := match P.underlying t with
  | some .bool => some .b
  | some (.int _) => some .i
  | some .string => some .s
  | _ => none
def eqFieldsB (P : Program) [Glob P] : Nat → List Field → Option (List Kd)
  | _, [] => some []
  | i, f :: fs => if f.name != "_" && f.offset == i then (match kindOf P f.type, eqFieldsB P (i + 1) fs with
    | some k, some ks => some (k :: ks)
    | _, _ => none) else none
def eqKinds (P : Program) [Glob P] (t : TypeId) : Option (List Kd) := match P.underlying t with
  | some (.struct fs) => if !P.stoodInHeld t && !P.eqGuardType P.depth t then eqFieldsB P 0 fs.toList else none
  | _ => none
def binD (t : TypeId) (op : BinOp) (x y : D) : D × Prop := match x, y with
  | .v a, .v b => (.v (binV P t op a b).1, (binV P t op a b).2)
  | .agg xs, .agg ys => match op with
    | .eql => (.v (.bool (eqCells xs ys)), match eqKinds P t with | some ks => eqPlain ks xs ys = true | none => False)
    | .neq => (.v (.bool (!eqCells xs ys)), match eqKinds P t with | some ks => eqPlain ks xs ys = true | none => False)
    | _ => (.junk, False)
  | _, _ => (.junk, False)
end
end Go.DL
