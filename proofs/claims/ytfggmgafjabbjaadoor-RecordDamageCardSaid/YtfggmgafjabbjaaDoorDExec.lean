/-
  THE D LAYER, 2: what an operation does to plain data; what the operations of a region do, in the text's order. Conditions: none.
-/
import Derived.Test.YtfggmgafjabbjaaDoorDRep
namespace Go.DL

/-- What a proof says of the functions that are called: which of them leave memory alone ('pure'), what those give; what the others give and leave. -/
structure Con where
  pure : FuncId → Bool := fun _ => false
  pf : FuncId → List D → D := fun _ _ => .junk
  im : FuncId → List D → H → Nat → D × H := fun _ _ h _ => (.junk, h)
  bs : Bool := false

/-- Abstract states: the slots, the blocks that may be written, the next name of a block; what has to hold. -/
structure S where
  n : Nat
  t : Nat → D
  h : H
  nx : Nat
  ok : Prop := True
  e : Env := Env.tt

def S.ev (s : S) : Operand → D
  | .tmp i => s.t i
  | .const x => ofV x
  | .global g => .v (.pointer (some ⟨g, 0, none⟩))
  | .func f => .fn (.func f) [] []

/-- the operands, in an order -/
def opArgs : Op → List Operand
  | .move x | .assign x | .box _ x | .load _ x | .nilCheck x | .unOp _ _ x | .convert _ _ x | .makeInterface _ x | .fieldAddr _ x _ | .field _ x _ | .extract x _ => [x]
  | .pick c a b => [c, a, b]
  | .build _ ps | .buildSlice _ _ ps => ps.toList.map (·.2)
  | .store _ a x | .binOp _ _ a x _ | .indexAddr _ a x | .index _ a x | .makeSlice _ a x => [a, x]
  | .makeFunc _ first captured => first.toList ++ captured.toList
  | .slice _ x l h m => x :: (l.toList ++ h.toList ++ m.toList)
  | .call { callee := .value f, args, .. } => f :: args.toList
  | .call { callee := .builtin _, args, .. } => args.toList
  | _ => []

/-- 'a && b', 'a || b' and what hangs on them -/
def gval : D → Bool → Bool
  | .v (.bool b), want => b == want
  | .cond g (.v (.bool b)), want => g && (b == want)
  | _, _ => false
def gok : D → Bool
  | .v (.bool _) | .cond _ (.v (.bool _)) => true
  | _ => false
def sd : D → D
  | .cond _ d => d
  | d => d
def sg : D → Bool
  | .cond g _ => g
  | _ => true
/-- pick: 'if c then a else b', on truth values -/
def bv : D → Bool
  | .v (.bool b) => b
  | _ => false
def isB : D → Bool
  | .v (.bool _) => true
  | _ => false
def pickD (g : Bool) : List D → D × Prop
  | [c, a, b] => (.v (.bool (bif bv (sd c) then bv (sd a) else bv (sd b))), (g = true → (sg c = true ∧ isB (sd c) = true) ∧ (bv (sd c) = true → sg a = true ∧ isB (sd a) = true) ∧ (bv (sd c) = false → sg b = true ∧ isB (sd b) = true)))
  | _ => (.junk, False)

section
variable (P : Program) [Glob P] (C : Con)
/-- a struct, a part at a time -/
def fillD (s : TypeId) : List (Nat × Operand) → List D → List D → List D
  | (f, _) :: ps, x :: xs, cs => match fld P s f with
    | some (off, _) => fillD s ps xs (splice cs off x.cells)
    | none => cs
  | _, _, cs => cs
def fillOk (s : TypeId) (n : Nat) : List (Nat × Operand) → List D → Prop
  | (f, _) :: ps, x :: xs => (match fld P s f with
    | some (off, t) => x.cells.length = P.cellsOf t ∧ off + x.cells.length ≤ n
    | none => False) ∧ x.cells.all D.one = true ∧ fillOk s n ps xs
  | [], _ => True
  | _, _ => False
/-- a struct whose fields' types are known -/
def structB (t : TypeId) : Bool := match P.underlying t with
  | some (.struct fs) => fs.toList.all fun f => (P.info? f.type).isSome
  | _ => false
def buildD (t : TypeId) (ps : List (Nat × Operand)) (xs : List D) : D × Prop :=
  (.agg (fillD P t ps xs (zeroCells P t)), fillOk P t (zeroCells P t).length ps xs ∧ (zeroCells P t).all D.one = true ∧ 0 < (zeroCells P t).length ∧ structB P t = true)
/-- a slice written out: each place given, in order -/
def rowsOk (n i : Nat) : List (Nat × Operand) → List D → Prop
  | (j, _) :: ps, x :: xs => j = i ∧ x.cells.length = n ∧ x.cells.all D.one = true ∧ rowsOk n (i + 1) ps xs
  | [], [] => True
  | _, _ => False
def buildSliceD (t : TypeId) (len : Nat) (ps : List (Nat × Operand)) (xs : List D) : D × Prop := match elemT P t with
  | some e => (.list true (xs.map D.cells), ps.length = len ∧ rowsOk (P.cellsOf e) 0 ps xs ∧ 0 < P.cellsOf e ∧ len * P.cellsOf e ≤ 16777216 ∧ zeroLen P e = true)
  | none => (.junk, False)
/-- the same, where the slice's cells are to be written -/
def bsOwn (t : TypeId) (len : Nat) (ps : List (Nat × Operand)) (xs : List D) (h : H) (b : Nat) : D × H × Prop := match elemT P t with
  | some e => (.mrow b 0 len, upd h b (some ⟨e, xs.map D.cells⟩), 0 < len ∧ ps.length = len ∧ rowsOk (P.cellsOf e) 0 ps xs ∧ 0 < P.cellsOf e ∧ len * P.cellsOf e ≤ 16777216 ∧ zeroLen P e = true)
  | none => (.junk, h, False)
/-- append: what grows gets a new name -/
def srcOk (u : TypeId) (h : H) : D → Bool
  | .list _ _ => (elemT P u).isSome
  | .mrow r _ _ => (elemT P u).isSome && (h r).isSome
  | .v (.string _) => match P.underlying u with | some .string => true | _ => false
  | _ => false
def appendD (t u : TypeId) (x y : D) (h : H) (b : Nat) : D × H × Prop := match elemT P t with
  | none => (.junk, h, False)
  | some e =>
    let news := rowsOf y h
    let size := 0 < P.cellsOf e ∧ (lenD x + news.length) * P.bytesOf e ≤ 140737488355328 ∧ lenD x + news.length ≤ 9223372036854775807
    let src := news.length = lenD y ∧ srcOk P u h y = true ∧ zeroLen P e = true ∧ ∀ r ∈ news, r.length = P.cellsOf e
    match x with
    | .list true rows => (.mrow b 0 (rows.length + news.length), upd h b (some ⟨e, rows ++ news⟩), size ∧ src ∧ (news = [] → rows = []) ∧ ∀ r ∈ rows, r.length = P.cellsOf e)
    | .mrow r 0 n => match h r with
      | some bl => (.mrow b 0 (n + news.length), upd (upd h r none) b (some ⟨e, bl.rows ++ news⟩), size ∧ src ∧ bl.ty = e ∧ bl.rows.length = n ∧ r ≠ b)
      | none => (.junk, h, False)
    | _ => (.junk, h, False)
/-- a part of a slice or a string -/
def bnd (o : Option D) (d : Nat) : Int := match o with
  | some (.v (.int _ n)) => n
  | _ => d
def bndOk : Option D → Bool
  | none | some (.v (.int _ _)) => true
  | _ => false
def sliceD (t : TypeId) (x : D) (l hh m : Option D) (h : H) : D × Prop :=
  let len := lenD x
  let lo := bnd l 0
  let hi := bnd hh len
  let ok := bndOk l = true ∧ bndOk hh = true ∧ bndOk m = true ∧ 0 ≤ lo ∧ lo ≤ hi ∧ hi ≤ len
  match x with
  | .v (.string s) => (.v (.string (s.extract lo.toNat hi.toNat)), ok ∧ m = none ∧ P.underlying t = some .string)
  | .list full rows => match elemT P t with
    | none => (.junk, False)
    | some e => match m with
      | none => (.list (full && hi == len) ((rows.take hi.toNat).drop lo.toNat), ok ∧ 0 < P.cellsOf e ∧ ∀ r ∈ rows, r.length = P.cellsOf e)
      | some _ => (.list true ((rows.take hi.toNat).drop lo.toNat), ok ∧ hh.isSome = true ∧ bnd m 0 = hi ∧ 0 < P.cellsOf e ∧ ∀ r ∈ rows, r.length = P.cellsOf e)
  | .mrow r off _ => match elemT P t with
    | none => (.junk, False)
    | some e => (.mrow r (off + lo.toNat) (hi - lo).toNat, ok ∧ m = none ∧ 0 < P.cellsOf e ∧ match h r with | some bl => bl.ty = e | none => False)
  | _ => (.junk, False)
def optAt (o : Option Operand) (xs : List D) : Option D × List D := match o, xs with
  | some _, x :: xs => (some x, xs)
  | some _, [] => (none, [])
  | none, xs => (none, xs)
def idxV (t : TypeId) (x ix : D) : D × Prop := match x, ix with
  | .v (.string s), .v (.int _ n) => (.v (.int .u8 (s.data.toList.getD n.toNat 0).toNat), 0 ≤ n ∧ n < s.size ∧ P.underlying t = some .string)
  | _, _ => (.junk, False)
def unD (op : UnOp) (x : D) : D × Prop := match op, x with
  | .not, .v (.bool b) => (.v (.bool !b), True)
  | .neg, .v (.int k n) => (.v (.int k (-n)), inK k (-n))
  | _, _ => (.junk, False)
/-- letters in cells -/
def byteOf : List D → UInt8
  | [.v (.int .u8 n)] => UInt8.ofNat n.toNat
  | _ => 0
def isByte : List D → Bool
  | [.v (.int .u8 _)] => true
  | _ => false
def byteSl (P : Program) (t : TypeId) : Bool := match P.underlying t with
  | some (.slice e) => match P.underlying e with
    | some (.int .u8) => true
    | _ => false
  | _ => false
def convD (src dst : TypeId) (x : D) : D × Prop := match P.underlying dst, x with
  | some (.int k), .v (.int _ n) => (.v (.int k (k.wrap n)), (P.underlying src).isSome = true)
  | some .string, .v (.string s) => (.v (.string s), match P.underlying src with | some .string => True | _ => False)
  | some .string, .list _ rows => (.v (.string ⟨(rows.map byteOf).toArray⟩), byteSl P src = true ∧ rows.all isByte = true)
  | _, _ => (.junk, False)
/-- what may be written, handed over to be read: slices, pointers, and such in the hands of closures -/
def deref0 (h : H) (d : D) : D := match d with
  | .mrow _ _ _ => .list false (rowsOf d h)
  | d => d
def deref1 (h : H) (d : D) : D := match d with
  | .mrow _ _ _ => .list false (rowsOf d h)
  | .mptr _ _ _ => .eptr ((ldCells d h).map (deref0 h))
  | d => d
def deref (h : H) (d : D) : D := match d with
  | .mrow _ _ _ => .list false (rowsOf d h)
  | .mptr _ _ _ => .eptr ((ldCells d h).map (deref0 h))
  | .fn f a b => .fn f (a.map (deref1 h)) (b.map (deref1 h))
  | d => d
def derefW (h : H) (d : D) : D := wk (deref h d)
def derefOk0 (h : H) (d : D) : Prop := match d with
  | .mrow r _ len => (h r).isSome = true ∧ (rowsOf d h).length = len
  | _ => True
def derefOk1 (h : H) (d : D) : Prop := match d with
  | .mrow r _ len => (h r).isSome = true ∧ (rowsOf d h).length = len
  | .mptr r _ _ => (h r).isSome = true ∧ ∀ c ∈ ldCells d h, derefOk0 h c
  | _ => True
def derefOk (h : H) (d : D) : Prop := match d with
  | .mrow r _ len => (h r).isSome = true ∧ (rowsOf d h).length = len
  | .mptr r _ _ => (h r).isSome = true ∧ ∀ c ∈ ldCells d h, derefOk0 h c
  | .fn _ a b => (∀ c ∈ a, derefOk1 h c) ∧ ∀ c ∈ b, derefOk1 h c
  | _ => True
def isRef : D → Bool
  | .mrow _ _ _ | .mptr _ _ _ => true
  | _ => false
def isMrow : D → Bool
  | .mrow _ _ _ | .mptr _ _ _ => true
  | .fn _ a b => a.any isRef || b.any isRef
  | _ => false
/-- no memory in it -/
def flat1 : D → Bool
  | .v _ => true
  | _ => false
def flat : D → Bool
  | .v _ => true
  | .agg cs | .tuple cs => cs.all flat1
  | _ => false
def minI : List D → D × Prop
  | [.v (.int k a), .v (.int k' b)] => (.v (.int k (min a b)), k = k')
  | _ => (.junk, False)
def maxI : List D → D × Prop
  | [.v (.int k a), .v (.int k' b)] => (.v (.int k (max a b)), k = k')
  | _ => (.junk, False)
/-- what 'len' is asked of -/
def lenOk (t : TypeId) : D → Bool
  | .list _ _ | .mrow _ _ _ => (elemT P t).isSome
  | .v (.string _) => match P.underlying t with | some .string => true | _ => false
  | _ => false
end

/-- The word of a call's contract, as the evaluator asks it; what it means is said in a later text. -/
structure Words where
  pureCt : FuncId → List D → D → Prop
  ct : FuncId → List D → H → Nat → D → H → Prop

section
variable (P : Program) [Glob P] (W : Words) (C : Con)
def isPureCall (_ : Operand) : Bool := true
def callD (f : Operand) (xs : List D) (h : H) (_ : Nat) : D × H × Prop := match f, xs with
  | .func k, _ :: ys => if C.pure k then
      let ys' := ys.map (derefW h)
      (C.pf k ys', h, W.pureCt k ys' (C.pf k ys') ∧ (ys.any isMrow = true → flat (C.pf k ys') = true ∧ ∀ y ∈ ys, derefOk h y))
    else (.junk, h, False)
  | _, .fn (.func k) first caps :: ys => if C.pure k then
      let zs' := (first ++ ys ++ caps).map (derefW h)
      (C.pf k zs', h, W.pureCt k zs' (C.pf k zs') ∧ ((first ++ ys ++ caps).any isMrow = true → flat (C.pf k zs') = true ∧ ∀ y ∈ first ++ ys ++ caps, derefOk h y))
    else (.junk, h, False)
  | _, _ => (.junk, h, False)

def still (h : H) (r : D × Prop) : D × H × Prop := (r.1, h, r.2)
/-- WHAT AN OPERATION GIVES, what it leaves, what it asks -/
def eff (op : Op) (xs : List D) (h : H) (b : Nat) : D × H × Prop :=
  match op, xs with
  | .move _, [x] | .assign _, [x] => (x, h, True)
  | .alloc e, [] => (.mptr b 0 0, upd h b (some ⟨e, [zeroCells P e]⟩), (zeroCells P e).length = P.cellsOf e ∧ (zeroCells P e).all D.one = true ∧ 0 < P.cellsOf e)
  | .box e _, [x] => (.mptr b 0 0, upd h b (some ⟨e, [x.cells]⟩), x.cells.length = P.cellsOf e ∧ x.cells.all D.one = true ∧ 0 < P.cellsOf e)
  | .build t ps, xs => still h (buildD P t ps.toList xs)
  | .buildSlice t n ps, xs => if C.bs then bsOwn P t n ps.toList xs h b else still h (buildSliceD P t n ps.toList xs)
  | .load t _, [a] => still h (ldD P t a h)
  | .store t _ _, [a, x] => (.v undef, stH P t a x h)
  | .nilCheck _, [x] => (x, h, isPtr x = true)
  | .binOp op t _ _ _, [x, y] => still h (binD P t op x y)
  | .unOp op _ _, [x] => still h (unD op x)
  | .convert src dst _, [x] => still h (convD P src dst x)
  | .makeFunc f first _, xs => (.fn f (xs.take first.size) (xs.drop first.size), h, True)
  | .slice t _ l hi m, x :: xs =>
    still h (sliceD P t x (optAt l xs).1 (optAt hi (optAt l xs).2).1 (optAt m (optAt hi (optAt l xs).2).2).1 h)
  | .fieldAddr s _ f, [a] => still h (fieldPtr P s f a)
  | .field s _ f, [a] => still h (fieldV P s f a)
  | .indexAddr t _ _, [x, ix] => still h (idxPtr P t x ix h)
  | .index t _ _, [x, ix] => still h (idxV P t x ix)
  | .extract _ i, [.tuple ds] => (ds.getD i .junk, h, i < ds.length)
  | .call { callee := .builtin .len, argTypes, .. }, [x] => (.v (.int .i64 (lenD x)), h, match argTypes.toList with | [t] => lenOk P t x = true | _ => False)
  | .call { callee := .builtin .append, argTypes, .. }, [x, y] => (match argTypes.toList with | [t, u] => appendD P t u x y h b | _ => (.junk, h, False))
  | .call { callee := .builtin .min, .. }, xs => still h (minI xs)
  | .call { callee := .builtin .max, .. }, xs => still h (maxI xs)
  | .call { callee := .value f, .. }, xs => callD W C f xs h b
  | _, _ => (.junk, h, False)

/-- what an operation may do to the blocks -/
inductive Cls where
  | none | reads | writes
  deriving DecidableEq
def cls (op : Op) : Cls := match op with
  | .load .. | .indexAddr .. | .slice .. => .reads
  | .alloc _ | .box .. | .store .. => .writes
  | .buildSlice .. => if C.bs then .writes else .none
  | .call { callee := .builtin .append, .. } => .writes
  | .call { callee := .value f, .. } => if isPureCall f then .reads else .writes
  | _ => .none

def isPick : Op → Bool
  | .pick .. => true
  | _ => false
/-- an operation under a guard -/
def effG (g : Bool) (op : Op) (xs : List D) (h : H) (b : Nat) : D × H × Prop :=
  if isPick op then still h (pickD g xs)
  else let r := eff P W C op (xs.map sd) h b; (r.1, r.2.1, (g = true → xs.all sg = true) ∧ r.2.2)

def S.put (s : S) (d : Option Tmp) (x : D) : Nat → D := match d with
  | some d => upd s.t d x
  | none => s.t
def dstOk (n : Nat) : Option Tmp → Bool
  | some d => decide (d < n)
  | none => true

/-- one operation: number i of the operations L; b: the first name for new blocks -/
def exec1 (L : List Oper) (b : Nat) (i : Nat) (o : Oper) (s : S) : S :=
  match o.guard with
  | none =>
    let r := effG P W C true o.op ((opArgs o.op).map s.ev) s.h (b + i)
    { s with t := s.put o.dst r.1, h := r.2.1, ok := s.ok ∧ dstOk s.n o.dst = true ∧ r.2.2 }
  | some (j, want) =>
    let gd := ((L[j]?).bind (·.dst)).elim .junk s.t
    let r := effG P W C (gval gd want) o.op ((opArgs o.op).map s.ev) s.h (b + i)
    { s with t := s.put o.dst (.cond (gval gd want) r.1), ok := s.ok ∧ dstOk s.n o.dst = true ∧ gok gd = true ∧ cls C o.op ≠ .writes ∧ (gval gd want = true → r.2.2) }
def execFrom (L : List Oper) (b : Nat) : Nat → List Oper → S → S
  | _, [], s => s
  | i, o :: os, s => execFrom L b (i + 1) os (exec1 P W C L b i o s)
def S.begin (s : S) (k : Nat) : S := { s with nx := s.nx + k }
/-- a region, in the text's order -/
def exec (L : List Oper) (s : S) : S := execFrom P W C L s.nx 0 L (s.begin L.length)
end
end Go.DL
