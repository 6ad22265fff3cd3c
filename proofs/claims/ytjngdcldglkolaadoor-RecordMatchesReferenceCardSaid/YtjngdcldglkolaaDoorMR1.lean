/-
  MANY TEXTS OF MINE IN ONE (a claim has a limit of files): DCore, DRep, DExec, DPure, DMem, DOps, DApp, DEff, DBuild, DMap, DEff2, DCall, DRegion, DDraw. Conditions: none.
-/
import Derived.WalkKit
import Derived.ControlIn
import Derived.CallsIn
import Derived.OrdersIn
import Derived.Laws.StructEq
import Derived.Great.BuildSlice
import Derived.MapKept
import Derived.Laws.MakeOwn
import Derived.WideKeyRuns
import Derived.RangeFuncLeaves
set_option linter.unusedVariables false
set_option linter.unusedSimpArgs false
set_option linter.unusedSectionVars false
namespace Go.DL
theorem ez9 {p : Prop} (h : p := by first | omega | (intros; omega) | (intro h; cases h) | (intro h; simp at h; done)) : p := h
end Go.DL
namespace Go.DL
inductive D where
 | v (x : Value)
 | agg (cs : List D)
 | list (full : Bool) (rows : List (List D))
 | eptr (cs : List D)
 | mrow (r off len : Nat)
 | mptr (r i off : Nat)
 | fn (f : Fn) (first caps : List D)
 | tuple (ds : List D)
 | iface (t : TypeId) (d : D)
 | mp (r : Nat)
 | fmap (kv : List D)
 | cond (g : Bool) (d : D)
 | junk
 deriving Inhabited
abbrev D.i (n : Int) : D := .v (.int .i64 n)
abbrev D.b (x : Bool) : D := .v (.bool x)
def D.cells : D → List D
 | .agg cs => cs
 | d => [d]
def D.one : D → Bool
 | .v (.agg _) | .v (.tuple _) => false
 | .agg _ | .tuple _ | .cond _ _ | .junk => false
 | _ => true
def GlobT (_ : Program) : Type := Nat → Option (List Value)
abbrev Glob (P : Program) := Inhabited (GlobT P)
def Glob.tab (P : Program) [Glob P] : Nat → Option (List Value) := (default : GlobT P)
structure Blk where
 ty : TypeId
 rows : List (List D)
abbrev H := Nat → Option Blk
def upd {α : Type} (f : Nat → α) (i : Nat) (x : α) : Nat → α := fun j => if j = i then x else f j
theorem upd_same {α : Type} (f : Nat → α) (i : Nat) (x : α) : upd f i x i = x := by simp [upd]
theorem upd_ne {α : Type} (f : Nat → α) (i j : Nat) (x : α) (h : j ≠ i) : upd f i x j = f j := by simp [upd, h]
def Zht : Value → D
 | .slice a n c => if a.isNone && n == 0 && c == 0 then .list true [] else .v (.slice a n c)
 | .func f fs cs => if fs.size == 0 && cs.size == 0 then .fn f [] [] else .v (.func f fs cs)
 | x => .v x
def ofV : Value → D
 | .agg cs => .agg (cs.toList.map Zht)
 | x => Zht x
section
variable (P : Program) [Glob P]
def Zpf (t : TypeId) : Bool := match P.underlying t with | some (.struct _) | some (.array _ _) => true | _ => false
def zeroCells (t : TypeId) : List D := match (P.info? t).bind (·.zero) with | some z => (ofV z).cells | none => []
def Zka (t : TypeId) : Bool := match (P.info? t).bind (·.zero) with | some z => z.cells.size == P.cellsOf t | none => false
def fld (s : TypeId) (f : Nat) : Option (Nat × TypeId) := match P.underlying s with | some (.struct fs) => (fs[f]?).map fun f => (f.offset, f.type) | _ => none
def Zya (t : TypeId) : Option TypeId := match P.underlying t with | some (.slice e) => some e | _ => none
def mkD (t : TypeId) (cs : List D) : D := if Zpf P t then .agg (cs.take (P.cellsOf t)) else cs.headD .junk
def Zwa (a : D) (h : H) : List D := match a with
 | .eptr cs => cs
 | .mptr r i off => match h r with
  | some b => (b.rows.getD i []).drop off
  | none => []
 | _ => []
def ldc (a : D) (h : H) : List D := match a with
 | .v (.pointer (some ⟨x, o, none⟩)) => match Glob.tab P x with
  | some cs => (cs.drop o).map D.v
  | none => []
 | a => Zwa a h
def ldD (t : TypeId) (a : D) (h : H) : D × Prop :=
 (mkD P t (ldc P a h), P.cellsOf t ≤ (ldc P a h).length ∧ 0 < P.cellsOf t ∧ (P.underlying t).isSome = true)
def splice (row : List D) (off : Nat) (cs : List D) : List D := row.take off ++ cs ++ row.drop (off + cs.length)
def stH (t : TypeId) (a x : D) (h : H) : H × Prop := match a with
 | .mptr r i off => match h r with
  | some b => (upd h r (some { b with rows := b.rows.set i (splice (b.rows.getD i []) off x.cells) }),
    x.cells.length = P.cellsOf t ∧ 0 < P.cellsOf t ∧ i < b.rows.length ∧ off + x.cells.length ≤ (b.rows.getD i []).length ∧ x.cells.all D.one = true)
  | none => (h, False)
 | _ => (h, False)
def Zal (n : Nat) : D → D
 | .eptr cs => .eptr (cs.drop n)
 | .mptr r i off => .mptr r i (off + n)
 | .v (.pointer (some p)) => .v (.pointer (some (p.add n)))
 | _ => .junk
def Zeo : D → Bool
 | .eptr _ | .mptr _ _ _ => true
 | .v (.pointer (some _)) => true
 | _ => false
def Zyf (s : TypeId) (f : Nat) (a : D) : D × Prop := match fld P s f with
 | some (off, t) => (Zal off a, Zeo a = true ∧ P.cellsOf t ≠ 0)
 | none => (.junk, False)
def Zpn (s : TypeId) (f : Nat) (a : D) : D × Prop := match fld P s f, a with
 | some (off, t), .agg cs => (mkD P t (cs.drop off), off + P.cellsOf t ≤ cs.length ∧ 0 < P.cellsOf t ∧ (P.underlying t).isSome = true)
 | _, _ => (.junk, False)
def rowsOf (d : D) (h : H) : List (List D) := match d with
 | .list _ rows => rows
 | .mrow r off len => match h r with
  | some b => (b.rows.drop off).take len
  | none => []
 | .v (.string s) => s.data.toList.map fun b => [.v (.int .u8 b.toNat)]
 | _ => []
def Zqf (d : D) : Nat := match d with
 | .list _ rows => rows.length
 | .mrow _ _ len => len
 | .v (.string s) => s.size
 | _ => 0
def Zhz (t : TypeId) : Option (Nat × TypeId) := match P.underlying t with | some (.array n e) => some (n, e) | _ => none
def isGp : D → Bool
 | .v (.pointer (some _)) | .eptr _ | .mptr _ _ _ => true
 | _ => false
def Zph (t : TypeId) (x ix : D) : D × Prop := match Zhz P t, ix with
 | some (n, e), .v (.int _ k) => (Zal (k.toNat * P.cellsOf e) x, isGp x = true ∧ 0 ≤ k ∧ k < n ∧ 0 < P.cellsOf e)
 | _, _ => (.junk, False)
def Zzb (t : TypeId) (x ix : D) (h : H) : D × Prop := match Zya P t with
 | none => Zph P t x ix
 | some e => match x, ix with
  | .list _ rows, .v (.int _ n) => (.eptr (rows.getD n.toNat []), 0 ≤ n ∧ n < rows.length ∧ 0 < P.cellsOf e ∧ (rows.getD n.toNat []).length = P.cellsOf e)
  | .mrow r off len, .v (.int _ n) => (.mptr r (off + n.toNat) 0, 0 ≤ n ∧ n < len ∧ 0 < P.cellsOf e ∧ match h r with | some bl => bl.ty = e | none => False)
  | _, _ => (.junk, False)
def inK (k : IntKind) (n : Int) : Prop := k.min ≤ n ∧ n ≤ k.max
def Zqe : D → D → Bool
 | .v (.int _ a), .v (.int _ b) => a == b
 | .v (.bool a), .v (.bool b) => a == b
 | .v (.string a), .v (.string b) => a.data.toList == b.data.toList
 | _, _ => false
def Zrc : List D → List D → Bool
 | x :: xs, y :: ys => Zqe x y && Zrc xs ys
 | _, _ => true
inductive Kd where
 | b | i | s
def Zrg : Kd → D → D → Bool
 | .i, .v (.int k _), .v (.int k' _) => k == k'
 | .b, .v (.bool _), .v (.bool _) => true
 | .s, .v (.string _), .v (.string _) => true
 | _, _, _ => false
def Zcd : List Kd → List D → List D → Bool
 | k :: ks, x :: xs, y :: ys => Zrg k x y && Zcd ks xs ys
 | [], [], [] => true
 | _, _, _ => false
def Zoi (t : TypeId) (op : BinOp) (x y : Value) : Value × Prop := match op, x, y with
 | .add, .int k a, .int k' b => if k.signed then (.int k (a + b), k = k' ∧ inK k (a + b)) else (.int k (k.wrap (a + b)), k = k')
 | .sub, .int k a, .int k' b => if k.signed then (.int k (a - b), k = k' ∧ inK k (a - b)) else (.int k (k.wrap (a - b)), k = k')
 | .mul, .int k a, .int k' b => if k.signed then (.int k (a * b), k = k' ∧ inK k (a * b)) else (.int k (k.wrap (a * b)), k = k')
 | .quo, .int k a, .int k' b => (.int k (a / b), k = k' ∧ 0 ≤ a ∧ 1 ≤ b ∧ inK k a)
 | .rem, .int k a, .int k' b => (.int k (a % b), k = k' ∧ 0 ≤ a ∧ 1 ≤ b)
 | .lss, .int k a, .int k' b => (.bool (decide (a < b)), k = k')
 | .leq, .int k a, .int k' b => (.bool (decide (a ≤ b)), k = k')
 | .gtr, .int k a, .int k' b => (.bool (decide (b < a)), k = k')
 | .geq, .int k a, .int k' b => (.bool (decide (b ≤ a)), k = k')
 | .eql, .int k a, .int k' b => (.bool (a == b), k = k')
 | .neq, .int k a, .int k' b => (.bool (a != b), k = k')
 | .eql, .bool a, .bool b => (.bool (a == b), P.underlying t = some .bool)
 | .neq, .bool a, .bool b => (.bool (a != b), P.underlying t = some .bool)
 | .eql, .string a, .string b => (.bool (a.data.toList == b.data.toList), True)
 | .neq, .string a, .string b => (.bool (a.data.toList != b.data.toList), True)
 | .add, .string a, .string b => (.string (a ++ b), a.size + b.size ≤ 9223372036854775807)
 | .lss, .string a, .string b => (.bool (Go.Op.bytesLess a.data.toList b.data.toList), True)
 | .leq, .string a, .string b => (.bool (Go.Op.bytesLess a.data.toList b.data.toList || a.data.toList == b.data.toList), True)
 | .gtr, .string a, .string b => (.bool !(Go.Op.bytesLess a.data.toList b.data.toList || a.data.toList == b.data.toList), True)
 | .geq, .string a, .string b => (.bool !(Go.Op.bytesLess a.data.toList b.data.toList), True)
 | .shl, .int k a, .int _ b => (.int k (k.wrap (a * 2 ^ (min b.toNat k.bits))), 0 ≤ b)
 | .shr, .int k a, .int _ b => (.int k (a.fdiv (2 ^ (min b.toNat k.bits))), 0 ≤ b)
 | .or, .int k a, .int k' b => (.int k (k.wrap (BitVec.ofInt k.bits a ||| BitVec.ofInt k.bits b).toNat), k = k')
 | _, _, _ => (undef, False)
def kindOf (P : Program) [Glob P] (t : TypeId) : Option Kd := match P.underlying t with
 | some .bool => some .b
 | some (.int _) => some .i
 | some .string => some .s
 | _ => none
def Zrd (P : Program) [Glob P] : Nat → List Field → Option (List Kd)
 | _, [] => some []
 | i, f :: fs => if f.name != "_" && f.offset == i then (match kindOf P f.type, Zrd P (i + 1) fs with
  | some k, some ks => some (k :: ks)
  | _, _ => none) else none
def Zge (P : Program) [Glob P] (t : TypeId) : Option (List Kd) := match P.underlying t with
 | some (.struct fs) => if !P.stoodInHeld t && !P.eqGuardType P.depth t then Zrd P 0 fs.toList else none
 | _ => none
def binD (t : TypeId) (op : BinOp) (x y : D) : D × Prop := match x, y with
 | .v a, .v b => (.v (Zoi P t op a b).1, (Zoi P t op a b).2)
 | .agg xs, .agg ys => match op with
  | .eql => (.v (.bool (Zrc xs ys)), match Zge P t with | some ks => Zcd ks xs ys = true | none => False)
  | .neq => (.v (.bool (!Zrc xs ys)), match Zge P t with | some ks => Zcd ks xs ys = true | none => False)
  | _ => (.junk, False)
 | _, _ => (.junk, False)
end
def Zol : D → D → Bool
 | .agg xs, .agg ys => Zrc xs ys
 | x, y => Zqe x y
def Znl : List D → D → Option D
 | k :: v :: l, q => if Zol q k then some v else Znl l q
 | _, _ => none
def Zml : List D → D → D → List D
 | k :: v :: l, q, x => if Zol q k then q :: x :: l else k :: v :: Zml l q x
 | _, q, x => [q, x]
def Zec (P : Program) (t : TypeId) (d : D) : Bool := match P.underlying t, d with
 | some .string, .v (.string _) => true
 | some (.int k), .v (.int k' _) => k == k'
 | some .bool, .v (.bool _) => true
 | _, _ => false
def Ztb (P : Program) : Nat → List Field → List D → Bool
 | i, f :: fs, d :: ds => f.name != "_" && f.offset == i && Zec P f.type d && Ztb P (i + 1) fs ds
 | _, [], [] => true
 | _, _, _ => false
def Zkh (P : Program) (t : TypeId) (d : D) : Bool := match P.underlying t, d with
 | some (.struct fs), .agg cs => Ztb P 0 fs.toList cs
 | _, d => Zec P t d
def Zoh (P : Program) (t : TypeId) : List D → Bool
 | k :: _ :: l => Zkh P t k && Zoh P t l
 | [] => true
 | _ => false
def Zkn (P : Program) [Glob P] (t : TypeId) : Bool := match P.underlying t with
 | some (.struct _) => (Zge P t).isSome
 | some .string | some (.int _) | some .bool => true
 | _ => false
def Zkz (P : Program) (t : TypeId) : D := match (P.info? t).bind (·.zero) with | some z => ofV z | none => .junk
def Zs3 (P : Program) (t : TypeId) : Bool := ((P.info? t).bind (·.zero)).isSome
def mapT (P : Program) (t : TypeId) : Option (TypeId × TypeId) := match P.underlying t with | some (.map k e) => some (k, e) | _ => none
def kvB (bl : Blk) : Option (List D) := match bl.rows with
 | [[.iface 0 (.tuple kv)]] => some kv
 | _ => none
def Zfc (kv : List D) : List (List D) := [[.iface 0 (.tuple kv)]]
def kvH (h : H) : D → Option (List D)
 | .mp r => (h r).bind kvB
 | .fmap kv => some kv
 | _ => none
end Go.DL
namespace Go.DL
open Go.RowKit
structure Mem where
 M : Nat → Option (Option Nat × Nat × Nat)
 U : Nat → Prop
 I : Nat → Prop
theorem block_add (a : Addr) (n : Nat) : (a.add n).block = a.block := by unfold Addr.add; split <;> rfl
theorem add_add' (a : Addr) (i j : Nat) : (a.add i).add j = a.add (i + j) := by
 unfold Addr.add
 by_cases hi : i = 0 <;> by_cases hj : j = 0 <;> simp [hi, hj, Nat.add_assoc]
theorem Zgg (b o n : Nat) : (⟨b, o, none⟩ : Addr).add n = ⟨b, o + n, none⟩ := by
 unfold Addr.add; split <;> simp_all
def Zrt (es : Array MapEntry) : List Value := es.toList.flatMap fun e => [e.key, e.val]
def LieB (o : Option Obj) (ty : TypeId) (cur : Array Value) (c : Nat) : Prop :=
 (c ≤ maxLen ∧ o = some (.cells cur ty (0, 0))) ∨ (c = maxLen + 1 ∧ ∃ es clk, o = some (.map es clk) ∧ cur = #[.iface 0 (.tuple (Zrt es).toArray)])
theorem LieB.cells {o : Option Obj} {ty : TypeId} {cur : Array Value} {c : Nat} (h : LieB o ty cur c) (hc : c ≤ maxLen) : o = some (.cells cur ty (0, 0)) := by
 rcases h with h | ⟨h, _⟩
 ·
  exact h.2
 ·
  omega
theorem LieB.map {o : Option Obj} {ty : TypeId} {cur : Array Value} {c : Nat} (h : LieB o ty cur c) (hc : c = maxLen + 1) : ∃ es clk, o = some (.map es clk) ∧ cur = #[.iface 0 (.tuple (Zrt es).toArray)] := by
 rcases h with h | ⟨_, h⟩
 ·
  omega
 ·
  exact h
theorem LieB.some {o : Option Obj} {ty : TypeId} {cur : Array Value} {c : Nat} (h : LieB o ty cur c) : ∃ x, o = some x ∧ ((∃ e f g, x = .cells e f g) ∨ ∃ e f, x = .map e f) := by
 rcases h with h | ⟨_, es, clk, h, _⟩
 ·
  exact ⟨_, h.2, .inl ⟨_, _, _, rfl⟩⟩
 ·
  exact ⟨_, h, .inr ⟨_, _, rfl⟩⟩
theorem LieB.uniq {o : Option Obj} {ty : TypeId} {cur cur' : Array Value} {c : Nat} (h : LieB o ty cur c) (k : LieB o ty cur' c) : cur = cur' := by
 by_cases hc : c ≤ maxLen
 ·
  have h1 := h.cells hc
  have h2 := k.cells hc
  rw [h1] at h2
  cases h2
  rfl
 ·
  have e : c = maxLen + 1 := by
   rcases h with h | h
   ·
    exact absurd h.1 hc
   ·
    exact h.1
  obtain ⟨es, clk, h1, h2⟩ := h.map e
  obtain ⟨es', clk', k1, k2⟩ := k.map e
  rw [h1] at k1
  cases k1
  rw [h2, k2]
inductive Rep (w : World) (g : Mem) : D → Value → Prop
 | v (x : Value) : Rep w g (.v x) x
 | agg (ds : List D) (vs : Array Value) (hn : ds.length = vs.size) (h : ∀ (i : Nat) d x, ds[i]? = some d → vs[i]? = some x → Rep w g d x) : Rep w g (.agg ds) (.agg vs)
 | tuple (ds : List D) (vs : Array Value) (hn : ds.length = vs.size) (h : ∀ (i : Nat) d x, ds[i]? = some d → vs[i]? = some x → Rep w g d x) : Rep w g (.tuple ds) (.tuple vs)
 | iface (t : TypeId) (d : D) (x : Value) (h : Rep w g d x) : Rep w g (.iface t d) (.iface t x)
 | empty (full : Bool) (a : Option Addr) (cap : Nat) (hf : full = true → cap = 0) (hm : cap ≤ maxLen) : Rep w g (.list full []) (.slice a 0 cap)
 | list (full : Bool) (rows : List (List D)) (ad : Addr) (cap size : Nat) (cv : Nat → Nat → Value) (hI : g.I ad.block) (hl : rows.length ≤ cap) (hf : full = true → cap = rows.length) (hm : cap ≤ maxLen)
   (hs : ∀ r ∈ rows, r.length = size) (hc : ∀ (i j : Nat) r d, rows[i]? = some r → r[j]? = some d → w.cell? (ad.add (i * size + j)) = some (cv i j) ∧ (cv i j).oneCell' = true)
   (hr : ∀ (i j : Nat) r d, rows[i]? = some r → r[j]? = some d → Rep w g d (cv i j)) : Rep w g (.list full rows) (.slice (some ad) rows.length cap)
 | eptr (cs : List D) (p : Addr) (cv : Nat → Value) (hI : g.I p.block) (hc : ∀ (j : Nat) d, cs[j]? = some d → w.cell? (p.add j) = some (cv j)) (hr : ∀ (j : Nat) d, cs[j]? = some d → Rep w g d (cv j)) : Rep w g (.eptr cs) (.pointer (some p))
 | mrow (r off len : Nat) (x : Value) (hx : ∃ a c, x = .slice a len c ∧ len ≤ c ∧ (0 < len → ∃ p, a = some p)) (hU : g.U r) (h : ∀ blk c sz, g.M r = some (blk, c, sz) → (off + len ≤ c ∧ c ≤ maxLen) ∧ ((c = off ∧ ∃ a, x = .slice a 0 0) ∨ (c ≠ off ∧ ∃ b, blk = some b ∧ x = .slice (some ⟨b, off * sz, Option.none⟩) len (c - off)))) : Rep w g (.mrow r off len) x
 | mptr (r i off : Nat) (x : Value) (hx : ∃ p, x = .pointer (some p)) (hU : g.U r) (h : ∀ blk c sz, g.M r = some (blk, c, sz) → c ≤ maxLen ∧ ∃ b, blk = some b ∧ x = .pointer (some ⟨b, i * sz + off, Option.none⟩)) : Rep w g (.mptr r i off) x
 | mp (r : Nat) (x : Value) (hx : ∃ p, x = .map (some p)) (hU : g.U r) (h : ∀ blk c sz, g.M r = some (blk, c, sz) → c = maxLen + 1 ∧ ∃ b, blk = some b ∧ x = .map (some b)) : Rep w g (.mp r) x
 | fmap (kv : List D) (b : Nat) (es : Array MapEntry) (clk : Nat) (hI : g.I b) (hb : w.heap[b]? = some (.map es clk)) (hn : kv.length = (Zrt es).length) (h : ∀ (i : Nat) d x, kv[i]? = some d → (Zrt es)[i]? = some x → Rep w g d x) : Rep w g (.fmap kv) (.map (some b))
 | fn (f : Fn) (first caps : List D) (fs cs : Array Value) (hf : first.length = fs.size) (hc : caps.length = cs.size) (h1 : ∀ (i : Nat) d x, first[i]? = some d → fs[i]? = some x → Rep w g d x)
   (h2 : ∀ (i : Nat) d x, caps[i]? = some d → cs[i]? = some x → Rep w g d x) : Rep w g (.fn f first caps) (.func f fs cs)
 | cond (b : Bool) (d : D) (x : Value) (ht : b = true → Rep w g d x) (hf : b = false → x = undef) : Rep w g (.cond b d) x
 | junk (x : Value) : Rep w g .junk x
theorem Rep.mono {w w' : World} {g g' : Mem} (hI : ∀ b, g.I b → g'.I b ∧ w'.heap[b]? = w.heap[b]?) (hU : ∀ r, g.U r → g'.U r) (hM : ∀ r, g.U r → g'.M r = g.M r ∨ g'.M r = Option.none)
  {d : D} {x : Value} (h : Rep w g d x) : Rep w' g' d x := by
 induction h with
 | v x => exact .v x
 | agg ds vs hn _ ih => exact .agg ds vs hn ih
 | tuple ds vs hn _ ih => exact .tuple ds vs hn ih
 | iface t d x _ ih => exact .iface t d x ih
 | empty full a cap hf hm => exact .empty full a cap hf hm
 | list full rows ad cap size cv hi hl hf hm hs hc _ ih =>
  refine .list full rows ad cap size cv (hI _ hi).1 hl hf hm hs (fun i j r d h1 h2 => ?_) ih
  obtain ⟨h3, h4⟩ := hc i j r d h1 h2
  refine ⟨?_, h4⟩
  rw [← h3]
  exact World.cell?_of_block (by rw [block_add]; exact (hI _ hi).2)
 | eptr cs p cv hi hc _ ih =>
  refine .eptr cs p cv (hI _ hi).1 (fun j d h1 => ?_) ih
  rw [← hc j d h1]
  exact World.cell?_of_block (by rw [block_add]; exact (hI _ hi).2)
 | mrow r off len x hx hu h =>
  refine .mrow r off len x hx (hU r hu) fun blk c sz he => ?_
  rcases hM r hu with e | e
  ·
   exact h blk c sz (e ▸ he)
  ·
   rw [e] at he; cases he
 | mptr r i off x hx hu h =>
  refine .mptr r i off x hx (hU r hu) fun blk c sz he => ?_
  rcases hM r hu with e | e
  ·
   exact h blk c sz (e ▸ he)
  ·
   rw [e] at he; cases he
 | mp r x hx hu h =>
  refine .mp r x hx (hU r hu) fun blk c sz he => ?_
  rcases hM r hu with e | e
  ·
   exact h blk c sz (e ▸ he)
  ·
   rw [e] at he; cases he
 | fmap kv b es clk hi hb hn _ ih => exact .fmap kv b es clk (hI b hi).1 ((hI b hi).2.trans hb) hn ih
 | fn f first caps fs cs hf hc _ _ ih1 ih2 => exact .fn f first caps fs cs hf hc ih1 ih2
 | cond b d x _ hf ih => exact .cond b d x ih hf
 | junk x => exact .junk x
def Reps (w : World) (g : Mem) (ds : List D) (vs : List Value) : Prop := ds.length = vs.length ∧ ∀ (i : Nat) d x, ds[i]? = some d → vs[i]? = some x → Rep w g d x
theorem Reps.nil {w : World} {g : Mem} : Reps w g [] [] := ⟨rfl, fun i d x h => by simp at h⟩
theorem Reps.cons {w : World} {g : Mem} {d : D} {x : Value} {ds : List D} {vs : List Value} (h : Rep w g d x) (hs : Reps w g ds vs) : Reps w g (d :: ds) (x :: vs) := by
 refine ⟨by simp [hs.1], fun i d' x' h1 h2 => ?_⟩
 cases i with
 | zero => simp at h1 h2; subst h1; subst h2; exact h
 | succ i => simp at h1 h2; exact hs.2 i d' x' h1 h2
theorem Reps.head {w : World} {g : Mem} {d : D} {x : Value} {ds : List D} {vs : List Value} (hs : Reps w g (d :: ds) (x :: vs)) : Rep w g d x := hs.2 0 d x rfl rfl
theorem Reps.tail {w : World} {g : Mem} {d : D} {x : Value} {ds : List D} {vs : List Value} (hs : Reps w g (d :: ds) (x :: vs)) : Reps w g ds vs :=
 ⟨by simpa using hs.1, fun i d' x' h1 h2 => hs.2 (i + 1) d' x' (by simpa using h1) (by simpa using h2)⟩
theorem Reps.of_nil {w : World} {g : Mem} {vs : List Value} (hs : Reps w g [] vs) : vs = [] := List.eq_nil_of_length_eq_zero hs.1.symm
theorem Reps.of_cons {w : World} {g : Mem} {d : D} {ds : List D} {vs : List Value} (hs : Reps w g (d :: ds) vs) : ∃ x xs, vs = x :: xs ∧ Rep w g d x ∧ Reps w g ds xs := by
 cases vs with
 | nil => simp [Reps] at hs
 | cons x xs => exact ⟨x, xs, rfl, hs.head, hs.tail⟩
theorem Reps.append {w : World} {g : Mem} {ds es : List D} {vs us : List Value} (h : Reps w g ds vs) (k : Reps w g es us) : Reps w g (ds ++ es) (vs ++ us) := by
 induction ds generalizing vs with
 | nil => rw [h.of_nil]; exact k
 | cons d ds ih => obtain ⟨x, xs, rfl, h1, h2⟩ := h.of_cons; exact .cons h1 (ih h2)
theorem Reps.take {w : World} {g : Mem} {ds : List D} {vs : List Value} (h : Reps w g ds vs) (n : Nat) : Reps w g (ds.take n) (vs.take n) := by
 refine ⟨by simp [h.1], fun i d x h1 h2 => ?_⟩
 rw [List.getElem?_take] at h1 h2
 split at h1
 ·
  rename_i hi; rw [if_pos hi] at h2; exact h.2 i d x h1 h2
 ·
  cases h1
theorem Reps.drop {w : World} {g : Mem} {ds : List D} {vs : List Value} (h : Reps w g ds vs) (n : Nat) : Reps w g (ds.drop n) (vs.drop n) := by
 refine ⟨by simp [h.1], fun i d x h1 h2 => ?_⟩
 rw [List.getElem?_drop] at h1 h2
 exact h.2 _ d x h1 h2
theorem Reps.mono {w w' : World} {g g' : Mem} (hI : ∀ b, g.I b → g'.I b ∧ w'.heap[b]? = w.heap[b]?) (hU : ∀ r, g.U r → g'.U r) (hM : ∀ r, g.U r → g'.M r = g.M r ∨ g'.M r = Option.none)
  {ds : List D} {vs : List Value} (h : Reps w g ds vs) : Reps w' g' ds vs := ⟨h.1, fun i d x h1 h2 => (h.2 i d x h1 h2).mono hI hU hM⟩
def Holds (P : Program) [Glob P] (w : World) (g : Mem) (bl : Blk) (cur : Array Value) : Prop :=
 ∀ (i : Nat) row, bl.rows[i]? = some row → row.length = P.cellsOf bl.ty ∧ ∀ (j : Nat) d, row[j]? = some d → ∃ u, cur[i * P.cellsOf bl.ty + j]? = some u ∧ u.oneCell' = true ∧ Rep w g d u
def Gr (P : Program) [Glob P] (I : Nat → Prop) (w : World) : Prop := ∀ x cs, Glob.tab P x = some cs → I x ∧ ∀ (j : Nat) v, cs[j]? = some v → w.cell? ⟨x, j, Option.none⟩ = some v
theorem Gr.later {P : Program} [Glob P] {I I' : Nat → Prop} {w w' : World} (h : Gr P I w) (k : ∀ b, I b → I' b ∧ w'.heap[b]? = w.heap[b]?) : Gr P I' w' := by
 intro x cs hx
 obtain ⟨h1, h2⟩ := h x cs hx
 refine ⟨(k x h1).1, fun j v hj => ?_⟩
 rw [← h2 j v hj]
 exact World.cell?_of_block (k x h1).2
structure HM (P : Program) [Glob P] (h : H) (g : Mem) (w : World) : Prop where
 dead : ∀ r, h r = Option.none → g.M r = Option.none
 blk : ∀ r bl, h r = some bl → ∃ blk c, g.M r = some (blk, c, P.cellsOf bl.ty) ∧ 0 < P.cellsOf bl.ty ∧ bl.rows.length ≤ c ∧ c ≤ maxLen + 1 ∧
  ((blk = Option.none ∧ c = 0) ∨ ∃ b cur, blk = some b ∧ LieB w.heap[b]? bl.ty cur c ∧ (c ≤ maxLen → cur.size = c * P.cellsOf bl.ty) ∧ ¬ g.I b ∧ Holds P w g bl cur)
 inj : ∀ r r' b c c' s s', g.M r = some (some b, c, s) → g.M r' = some (some b, c', s') → r = r'
 used : ∀ r, g.M r ≠ Option.none → g.U r
 imm : ∀ b, g.I b → b < w.heap.size
 gr : Gr P g.I w
structure Mono (g g' : Mem) (w w' : World) : Prop where
 os : w'.os = w.os
 tape : w'.tape = w.tape
 output : w'.output = w.output
 size : w.heap.size ≤ w'.heap.size
 drawn : w.drawn ≤ w'.drawn
 U : ∀ r, g.U r → g'.U r
 M : ∀ r, g.U r → g'.M r = g.M r ∨ g'.M r = Option.none
 new : ∀ r b c s, g'.M r = some (some b, c, s) → (∃ r' c' s', g.M r' = some (some b, c', s')) ∨ w.heap.size ≤ b
 I : ∀ b, g.I b → g'.I b
 inew : ∀ b, g'.I b → g.I b ∨ w.heap.size ≤ b ∨ ∃ r c s, g.M r = some (some b, c, s)
 same : ∀ b, b < w.heap.size → (∀ r c s, g.M r ≠ some (some b, c, s)) → w'.heap[b]? = w.heap[b]?
theorem Mono.refl (g : Mem) (w : World) : Mono g g w w :=
 ⟨rfl, rfl, rfl, Nat.le_refl _, Nat.le_refl _, fun _ h => h, fun _ _ => .inl rfl, fun r _ c s h => .inl ⟨r, c, s, h⟩, fun _ h => h, fun _ h => .inl h, fun _ _ _ => rfl⟩
theorem Mono.trans {g g' g'' : Mem} {w w' w'' : World} (h : Mono g g' w w') (k : Mono g' g'' w' w'') : Mono g g'' w w'' := by
 refine ⟨k.os.trans h.os, k.tape.trans h.tape, k.output.trans h.output, Nat.le_trans h.size k.size, Nat.le_trans h.drawn k.drawn, fun r hr => k.U r (h.U r hr), fun r hr => ?_, fun r b c s hr => ?_, fun b hb => k.I b (h.I b hb), fun b hb => ?_, fun b hb hn => ?_⟩
 ·
  rcases k.M r (h.U r hr) with e | e
  ·
   rw [e]; exact h.M r hr
  ·
   exact .inr e
 ·
  rcases k.new r b c s hr with ⟨r', c', s', e⟩ | e
  ·
   exact h.new r' b c' s' e
  ·
   exact .inr (Nat.le_trans h.size e)
 ·
  rcases k.inew b hb with e | e | ⟨r, c, s, e⟩
  ·
   exact h.inew b e
  ·
   exact .inr (.inl (Nat.le_trans h.size e))
  ·
   rcases h.new r b c s e with ⟨r', c', s', e'⟩ | e'
   ·
    exact .inr (.inr ⟨r', c', s', e'⟩)
   ·
    exact .inr (.inl e')
 ·
  refine (k.same b (Nat.lt_of_lt_of_le hb h.size) fun r c s e => ?_).trans (h.same b hb hn)
  rcases h.new r b c s e with ⟨r', c', s', e'⟩ | e'
  ·
   exact hn r' c' s' e'
  ·
   omega
theorem HM.kept {P : Program} [Glob P] {h : H} {g g' : Mem} {w w' : World} (hm : HM P h g w) (k : Mono g g' w w') : ∀ b, g.I b → g'.I b ∧ w'.heap[b]? = w.heap[b]? := by
 refine fun b hb => ⟨k.I b hb, k.same b (hm.imm b hb) fun r c s e => ?_⟩
 cases hr : h r with
 | none => rw [hm.dead r hr] at e; cases e
 | some bl =>
  obtain ⟨blk, c', e1, _, _, _, h5⟩ := hm.blk r bl hr
  rw [e] at e1
  simp only [Option.some.injEq, Prod.mk.injEq] at e1
  rcases h5 with ⟨h6, _⟩ | ⟨b', cur, h6, _, _, h7, _⟩
  ·
   rw [← e1.1] at h6; cases h6
  ·
   rw [← e1.1] at h6; cases h6; exact h7 hb
theorem Rep.later {P : Program} [Glob P] {h : H} {g g' : Mem} {w w' : World} (hm : HM P h g w) (k : Mono g g' w w') {d : D} {x : Value} (hr : Rep w g d x) : Rep w' g' d x := hr.mono (hm.kept k) k.U k.M
theorem Reps.later {P : Program} [Glob P] {h : H} {g g' : Mem} {w w' : World} (hm : HM P h g w) (k : Mono g g' w w') {d : List D} {x : List Value} (hr : Reps w g d x) : Reps w' g' d x := hr.mono (hm.kept k) k.U k.M
mutual
def wk : D → D
 | .agg cs => .agg (wks cs)
 | .list _ rows => .list false (wkr rows)
 | .eptr cs => .eptr (wks cs)
 | .tuple ds => .tuple (wks ds)
 | .iface t d => .iface t (wk d)
 | .fmap kv => .fmap (wks kv)
 | d => d
def wks : List D → List D
 | [] => []
 | d :: ds => wk d :: wks ds
def wkr : List (List D) → List (List D)
 | [] => []
 | r :: rs => wks r :: wkr rs
end
theorem Zue : ∀ ds : List D, wks ds = ds.map wk
 | [] => rfl
 | d :: ds => by simp only [wks, Zue ds, List.map_cons]
theorem Ztj : ∀ ds : List (List D), wkr ds = ds.map wks
 | [] => rfl
 | d :: ds => by simp only [wkr, Ztj ds, List.map_cons]
theorem Zlc {α β : Type} {f : α → β} {l : List α} {i : Nat} {y : β} (h : (l.map f)[i]? = some y) : ∃ x, l[i]? = some x ∧ f x = y := by
 rw [List.getElem?_map] at h
 cases hi : l[i]? with
 | none => rw [hi] at h; cases h
 | some x => rw [hi] at h; exact ⟨x, rfl, by simpa using h⟩
theorem Rep.wk {w : World} {g : Mem} {d : D} {v : Value} (h : Rep w g d v) : Rep w g (wk d) v := by
 induction h with
 | v x => exact .v x
 | agg ds vs hl _ ih =>
  simp only [DL.wk, Zue]
  exact .agg _ vs (by simpa using hl) fun i d x h1 h2 => by obtain ⟨y, h3, rfl⟩ := Zlc h1; exact ih i y x h3 h2
 | tuple ds vs hl _ ih =>
  simp only [DL.wk, Zue]
  exact .tuple _ vs (by simpa using hl) fun i d x h1 h2 => by obtain ⟨y, h3, rfl⟩ := Zlc h1; exact ih i y x h3 h2
 | iface t d x _ ih => exact .iface t _ x ih
 | empty full a cap hf hm => exact .empty false a cap (fun h => by cases h) hm
 | list full rows ad cap size cv hi hl hf hm hs hc _ ih =>
  simp only [DL.wk, Ztj]
  have e : rows.length = (rows.map wks).length := by simp
  rw [e]
  refine .list false _ ad cap size cv hi (by simpa using hl) (fun h => by cases h) hm (fun r hr => ?_) (fun i j r d h1 h2 => ?_) (fun i j r d h1 h2 => ?_)
  ·
   obtain ⟨r', h1, rfl⟩ := List.mem_map.1 hr
   rw [Zue]; simpa using hs r' h1
  ·
   obtain ⟨r', h3, rfl⟩ := Zlc h1
   rw [Zue] at h2
   obtain ⟨d', h4, rfl⟩ := Zlc h2
   exact hc i j r' d' h3 h4
  ·
   obtain ⟨r', h3, rfl⟩ := Zlc h1
   rw [Zue] at h2
   obtain ⟨d', h4, rfl⟩ := Zlc h2
   exact ih i j r' d' h3 h4
 | eptr cs p cv hi hc _ ih =>
  simp only [DL.wk, Zue]
  refine .eptr _ p cv hi (fun j d h1 => ?_) (fun j d h1 => ?_)
  ·
   obtain ⟨d', h3, rfl⟩ := Zlc h1; exact hc j d' h3
  ·
   obtain ⟨d', h3, rfl⟩ := Zlc h1; exact ih j d' h3
 | mrow r off len x hx hu h => exact .mrow r off len x hx hu h
 | mptr r i off x hx hu h => exact .mptr r i off x hx hu h
 | mp r x hx hu h => exact .mp r x hx hu h
 | fmap kv b es clk hi hb hn _ ih =>
  simp only [DL.wk, Zue]
  exact .fmap _ b es clk hi hb (by simpa using hn) fun i d x h1 h2 => by obtain ⟨y, h3, rfl⟩ := Zlc h1; exact ih i y x h3 h2
 | fn f first caps fs cs hf hc h1 h2 _ _ => exact .fn f first caps fs cs hf hc h1 h2
 | cond b d x ht hf _ => exact .cond b d x ht hf
 | junk x => exact .junk x
structure Env where
 p : Mem → World → Prop
 x : Option Nat
 st : ∀ (P : Program) [Glob P] (h : H) (g g' : Mem) (w w' : World), HM P h g w → Mono g g' w w' → p g w → p g' w'
def Env.tt : Env := ⟨fun _ _ => True, Option.none, fun _ _ _ _ _ _ _ _ _ _ => trivial⟩
theorem Env.later {P : Program} [Glob P] {E : Env} {h : H} {g g' : Mem} {w w' : World} (hm : HM P h g w) (k : Mono g g' w w') (hr : E.p g w) : E.p g' w' := E.st P h g g' w w' hm k hr
structure MonoX (x : Option Nat) (g g' : Mem) (w w' : World) : Prop where
 os : w'.os = w.os
 tape : w'.tape = w.tape
 output : w'.output = w.output
 size : w.heap.size ≤ w'.heap.size
 drawn : w.drawn ≤ w'.drawn
 U : ∀ r, g.U r → g'.U r
 M : ∀ r, g.U r → g'.M r = g.M r ∨ g'.M r = Option.none
 new : ∀ r b c s, g'.M r = some (some b, c, s) → (∃ r' c' s', g.M r' = some (some b, c', s')) ∨ w.heap.size ≤ b
 I : ∀ b, g.I b → g'.I b
 inew : ∀ b, g'.I b → g.I b ∨ w.heap.size ≤ b ∨ ∃ r c s, g.M r = some (some b, c, s)
 same : ∀ b, b < w.heap.size → (∀ r c s, g.M r ≠ some (some b, c, s)) → x ≠ some b → w'.heap[b]? = w.heap[b]?
theorem Mono.toX {x : Option Nat} {g g' : Mem} {w w' : World} (h : Mono g g' w w') : MonoX x g g' w w' := ⟨h.os, h.tape, h.output, h.size, h.drawn, h.U, h.M, h.new, h.I, h.inew, fun b h1 h2 _ => h.same b h1 h2⟩
theorem MonoX.out {g g' : Mem} {w w' : World} (h : MonoX Option.none g g' w w') : Mono g g' w w' := ⟨h.os, h.tape, h.output, h.size, h.drawn, h.U, h.M, h.new, h.I, h.inew, fun b h1 h2 => h.same b h1 h2 (by simp)⟩
theorem MonoX.refl (x : Option Nat) (g : Mem) (w : World) : MonoX x g g w w := (Mono.refl g w).toX
theorem MonoX.trans {x : Option Nat} {g g' g'' : Mem} {w w' w'' : World} (h : MonoX x g g' w w') (k : MonoX x g' g'' w' w'') : MonoX x g g'' w w'' := by
 refine ⟨k.os.trans h.os, k.tape.trans h.tape, k.output.trans h.output, Nat.le_trans h.size k.size, Nat.le_trans h.drawn k.drawn, fun r hr => k.U r (h.U r hr), fun r hr => ?_, fun r b c s e => ?_, fun b hb => k.I b (h.I b hb), fun b hb => ?_, fun b hb hn hx => ?_⟩
 ·
  rcases k.M r (h.U r hr) with e | e
  ·
   rcases h.M r hr with e' | e'
   ·
    exact .inl (e.trans e')
   ·
    exact .inr (e.trans e')
  ·
   exact .inr e
 ·
  rcases k.new r b c s e with ⟨r', c', s', e'⟩ | e'
  ·
   exact h.new r' b c' s' e'
  ·
   exact .inr (Nat.le_trans h.size e')
 ·
  rcases k.inew b hb with e | e | ⟨r, c, s, e⟩
  ·
   exact h.inew b e
  ·
   exact .inr (.inl (Nat.le_trans h.size e))
  ·
   rcases h.new r b c s e with ⟨r', c', s', e'⟩ | e'
   ·
    exact .inr (.inr ⟨r', c', s', e'⟩)
   ·
    exact .inr (.inl e')
 ·
  refine (k.same b (Nat.lt_of_lt_of_le hb h.size) (fun r c s e => ?_) hx).trans (h.same b hb hn hx)
  rcases h.new r b c s e with ⟨r', c', s', e'⟩ | e'
  ·
   exact hn r' c' s' e'
  ·
   omega
end Go.DL
namespace Go.DL
structure Con where
 pure : FuncId → Bool := fun _ => false
 pf : FuncId → List D → D := fun _ _ => .junk
 im : FuncId → List D → H → Nat → D × H := fun _ _ h _ => (.junk, h)
 bs : Bool := false
 cf : Bool := false
 dp : Bool := false
structure S where
 n : Nat
 t : Nat → D
 h : H
 nx : Nat
 ok : Prop := True
 e : Env := Env.tt
def S.ev (s : S) : Operand → D
 | .tmp i => s.t i
 | .const x => ofV x
 | .global g => .v (.pointer (some ⟨g, 0, none⟩))
 | .func f => .fn (.func f) [] []
def Zga : Op → List Operand
 | .move x | .assign x | .box _ x | .load _ x | .nilCheck x | .unOp _ _ x | .convert _ _ x | .makeInterface _ x | .fieldAddr _ x _ | .field _ x _ | .extract x _ => [x]
 | .pick c a b => [c, a, b]
 | .build _ ps | .buildSlice _ _ ps => ps.toList.map (·.2)
 | .store _ a x | .binOp _ _ a x _ | .indexAddr _ a x | .index _ a x | .makeSlice _ a x => [a, x]
 | .makeFunc _ first captured => first.toList ++ captured.toList
 | .slice _ x l h m => x :: (l.toList ++ h.toList ++ m.toList)
 | .makeMap _ r => r.toList
 | .lookup _ m k _ => [m, k]
 | .mapUpdate _ m k x | .insert _ m k x => [m, k, x]
 | .call { callee := .value f, args, .. } => f :: args.toList
 | .call { callee := .builtin _, args, .. } => args.toList
 | _ => []
def Zpp : D → Bool → Bool
 | .v (.bool b), want => b == want
 | .cond g (.v (.bool b)), want => g && (b == want)
 | _, _ => false
def gok : D → Bool
 | .v (.bool _) | .cond _ (.v (.bool _)) => true
 | _ => false
def sd : D → D
 | .cond _ d => d
 | d => d
def sg : D → Bool
 | .cond g _ => g
 | _ => true
def bv : D → Bool
 | .v (.bool b) => b
 | _ => false
def isB : D → Bool
 | .v (.bool _) => true
 | _ => false
def pickD (g : Bool) : List D → D × Prop
 | [c, a, b] => (.v (.bool (bif bv (sd c) then bv (sd a) else bv (sd b))), (g = true → (sg c = true ∧ isB (sd c) = true) ∧ (bv (sd c) = true → sg a = true ∧ isB (sd a) = true) ∧ (bv (sd c) = false → sg b = true ∧ isB (sd b) = true)))
 | _ => (.junk, False)
section
variable (P : Program) [Glob P] (C : Con)
def Ztr (s : TypeId) : List (Nat × Operand) → List D → List D → List D
 | (f, _) :: ps, x :: xs, cs => match fld P s f with
  | some (off, _) => Ztr s ps xs (splice cs off x.cells)
  | none => match Zhz P s with
   | some (_, e) => Ztr s ps xs (splice cs (f * P.cellsOf e) x.cells)
   | none => cs
 | _, _, cs => cs
def Zel (s : TypeId) (n : Nat) : List (Nat × Operand) → List D → Prop
 | (f, _) :: ps, x :: xs => (match fld P s f with
  | some (off, t) => x.cells.length = P.cellsOf t ∧ off + x.cells.length ≤ n
  | none => match Zhz P s with
   | some (_, e) => x.cells.length = P.cellsOf e ∧ f * P.cellsOf e + x.cells.length ≤ n
   | none => False) ∧ x.cells.all D.one = true ∧ Zel s n ps xs
 | [], _ => True
 | _, _ => False
def Zlg (t : TypeId) : Bool := match P.underlying t with
 | some (.struct fs) => fs.toList.all fun f => (P.info? f.type).isSome
 | some (.array _ e) => (P.info? e).isSome
 | _ => false
def Zfq (t : TypeId) (ps : List (Nat × Operand)) (xs : List D) : D × Prop :=
 (.agg (Ztr P t ps xs (zeroCells P t)), Zel P t (zeroCells P t).length ps xs ∧ (zeroCells P t).all D.one = true ∧ 0 < (zeroCells P t).length ∧ Zlg P t = true)
def Zsm (n i : Nat) : List (Nat × Operand) → List D → Prop
 | (j, _) :: ps, x :: xs => j = i ∧ x.cells.length = n ∧ x.cells.all D.one = true ∧ Zsm n (i + 1) ps xs
 | [], [] => True
 | _, _ => False
def Zsc (t : TypeId) (len : Nat) (ps : List (Nat × Operand)) (xs : List D) : D × Prop := match Zya P t with
 | some e => (.list true (xs.map D.cells), ps.length = len ∧ Zsm (P.cellsOf e) 0 ps xs ∧ 0 < P.cellsOf e ∧ len * P.cellsOf e ≤ 16777216 ∧ Zka P e = true)
 | none => (.junk, False)
def Zrl (t : TypeId) (len : Nat) (ps : List (Nat × Operand)) (xs : List D) (h : H) (b : Nat) : D × H × Prop := match Zya P t with
 | some e => (.mrow b 0 len, upd h b (some ⟨e, xs.map D.cells⟩), 0 < len ∧ ps.length = len ∧ Zsm (P.cellsOf e) 0 ps xs ∧ 0 < P.cellsOf e ∧ len * P.cellsOf e ≤ 16777216 ∧ Zka P e = true)
 | none => (.junk, h, False)
def Zhg (u : TypeId) (h : H) : D → Bool
 | .list _ _ => (Zya P u).isSome
 | .mrow r _ _ => (Zya P u).isSome && (h r).isSome
 | .v (.string _) => match P.underlying u with | some .string => true | _ => false
 | _ => false
def Zib (t u : TypeId) (x y : D) (h : H) (b : Nat) : D × H × Prop := match Zya P t with
 | none => (.junk, h, False)
 | some e =>
  let news := rowsOf y h
  let size := 0 < P.cellsOf e ∧ (Zqf x + news.length) * P.bytesOf e ≤ 140737488355328 ∧ Zqf x + news.length ≤ 9223372036854775807
  let src := news.length = Zqf y ∧ Zhg P u h y = true ∧ Zka P e = true ∧ ∀ r ∈ news, r.length = P.cellsOf e
  match x with
  | .list true rows => (.mrow b 0 (rows.length + news.length), upd h b (some ⟨e, rows ++ news⟩), size ∧ src ∧ (news = [] → rows = []) ∧ ∀ r ∈ rows, r.length = P.cellsOf e)
  | .mrow r 0 n => match h r with
   | some bl => (.mrow b 0 (n + news.length), upd (upd h r none) b (some ⟨e, bl.rows ++ news⟩), size ∧ src ∧ bl.ty = e ∧ bl.rows.length = n ∧ r ≠ b)
   | none => (.junk, h, False)
  | _ => (.junk, h, False)
def bnd (o : Option D) (d : Nat) : Int := match o with
 | some (.v (.int _ n)) => n
 | _ => d
def Zbx : Option D → Bool
 | none | some (.v (.int _ _)) => true
 | _ => false
def Zdg (t : TypeId) (x : D) (l hh m : Option D) (h : H) : D × Prop :=
 let len := Zqf x
 let lo := bnd l 0
 let hi := bnd hh len
 let ok := Zbx l = true ∧ Zbx hh = true ∧ Zbx m = true ∧ 0 ≤ lo ∧ lo ≤ hi ∧ hi ≤ len
 match x with
 | .v (.string s) => (.v (.string (s.extract lo.toNat hi.toNat)), ok ∧ m = none ∧ P.underlying t = some .string)
 | .list full rows => match Zya P t with
  | none => (.junk, False)
  | some e => match m with
   | none => (.list (full && hi == len) ((rows.take hi.toNat).drop lo.toNat), ok ∧ 0 < P.cellsOf e ∧ ∀ r ∈ rows, r.length = P.cellsOf e)
   | some _ => (.list true ((rows.take hi.toNat).drop lo.toNat), ok ∧ hh.isSome = true ∧ bnd m 0 = hi ∧ 0 < P.cellsOf e ∧ ∀ r ∈ rows, r.length = P.cellsOf e)
 | .mrow r off _ => match Zya P t with
  | none => (.junk, False)
  | some e => (.mrow r (off + lo.toNat) (hi - lo).toNat, ok ∧ m = none ∧ 0 < P.cellsOf e ∧ match h r with | some bl => bl.ty = e | none => False)
 | _ => (.junk, False)
def Zje (o : Option Operand) (xs : List D) : Option D × List D := match o, xs with
 | some _, x :: xs => (some x, xs)
 | some _, [] => (none, [])
 | none, xs => (none, xs)
def idxV (t : TypeId) (x ix : D) : D × Prop := match x, ix with
 | .v (.string s), .v (.int _ n) => (.v (.int .u8 (s.data.toList.getD n.toNat 0).toNat), 0 ≤ n ∧ n < s.size ∧ P.underlying t = some .string)
 | _, _ => (.junk, False)
def unD (op : UnOp) (x : D) : D × Prop := match op, x with
 | .not, .v (.bool b) => (.v (.bool !b), True)
 | .neg, .v (.int k n) => (.v (.int k (-n)), inK k (-n))
 | _, _ => (.junk, False)
def byteOf : List D → UInt8
 | [.v (.int .u8 n)] => UInt8.ofNat n.toNat
 | _ => 0
def isByte : List D → Bool
 | [.v (.int .u8 _)] => true
 | _ => false
def Zy4 (P : Program) (t : TypeId) : Bool := match P.underlying t with
 | some (.slice e) => match P.underlying e with
  | some (.int .u8) => true
  | _ => false
 | _ => false
def Ztw (src dst : TypeId) (x : D) : D × Prop := match P.underlying dst, x with
 | some (.int k), .v (.int _ n) => (.v (.int k (k.wrap n)), (P.underlying src).isSome = true)
 | some .string, .v (.string s) => (.v (.string s), match P.underlying src with | some .string => True | _ => False)
 | some .string, .list _ rows => (.v (.string ⟨(rows.map byteOf).toArray⟩), Zy4 P src = true ∧ rows.all isByte = true)
 | _, _ => (.junk, False)
def Zsv (t : TypeId) (h : H) (b : Nat) : D → D → D × H × Prop
 | .v (.int _ n), .v (.int _ m) => match Zya P t with
  | some e => (.mrow b 0 n.toNat, upd h b (some ⟨e, List.replicate n.toNat (zeroCells P e)⟩), n = m ∧ 0 ≤ n ∧ P.bytesOf e * n ≤ 281474976710656 ∧ n ≤ 9223372036854775807 ∧ Zka P e = true ∧ (zeroCells P e).length = P.cellsOf e ∧ (zeroCells P e).all D.one = true ∧ 0 < P.cellsOf e)
  | none => (.junk, h, False)
 | _, _ => (.junk, h, False)
def Zlr : List D → Bool
 | [] | [.v (.int _ _)] => true
 | _ => false
def Ztv (t : TypeId) (xs : List D) (h : H) (b : Nat) : D × H × Prop := (.mp b, upd h b (some ⟨t, Zfc []⟩), (mapT P t).isSome = true ∧ P.cellsOf t = 1 ∧ Zlr xs = true)
def Zcg (t : TypeId) (m k x : D) (h : H) : H × Prop := match mapT P t, m with
 | some (kt, _), .mp r => match h r with
  | some bl => match kvB bl with
   | some kv => (upd h r (some ⟨bl.ty, Zfc (Zml kv k x)⟩), Zkh P kt k = true ∧ Zoh P kt kv = true ∧ Zkn P kt = true)
   | none => (h, False)
  | none => (h, False)
 | _, _ => (h, False)
def Zej (t : TypeId) (ok : Bool) (m k : D) (h : H) : D × Prop := match mapT P t, kvH h m with
 | some (kt, e), some kv => (if ok then .tuple [(Znl kv k).getD (Zkz P e), .b (Znl kv k).isSome] else (Znl kv k).getD (Zkz P e),
   Zkh P kt k = true ∧ Zoh P kt kv = true ∧ Zkn P kt = true ∧ Zs3 P e = true)
 | _, _ => (.junk, False)
def Zbh (h : H) (d : D) : D := match d with
 | .mrow _ _ _ => .list false (rowsOf d h)
 | d => d
def Zre (h : H) (d : D) : D := match d with
 | .mrow _ _ _ => .list false (rowsOf d h)
 | .mptr _ _ _ => .eptr ((Zwa d h).map (Zbh h))
 | d => d
def deref (h : H) (d : D) : D := match d with
 | .mrow _ _ _ => .list false (rowsOf d h)
 | .mptr _ _ _ => .eptr ((Zwa d h).map (Zbh h))
 | .fn f a b => .fn f (a.map (Zre h)) (b.map (Zre h))
 | d => d
def Zie (h : H) (d : D) : D := wk (deref h d)
def Zdd (h : H) (d : D) : Prop := match d with
 | .mrow r _ len => (h r).isSome = true ∧ (rowsOf d h).length = len
 | _ => True
def Zqc (h : H) (d : D) : Prop := match d with
 | .mrow r _ len => (h r).isSome = true ∧ (rowsOf d h).length = len
 | .mptr r _ _ => (h r).isSome = true ∧ ∀ c ∈ Zwa d h, Zdd h c
 | _ => True
def Zhc (h : H) (d : D) : Prop := match d with
 | .mrow r _ len => (h r).isSome = true ∧ (rowsOf d h).length = len
 | .mptr r _ _ => (h r).isSome = true ∧ ∀ c ∈ Zwa d h, Zdd h c
 | .fn _ a b => (∀ c ∈ a, Zqc h c) ∧ ∀ c ∈ b, Zqc h c
 | _ => True
mutual
def D.nr : D → Bool
 | .v _ => true
 | .agg cs => nrs cs
 | .list _ rows => nrr rows
 | .eptr cs => nrs cs
 | .mrow _ _ _ => false
 | .mptr _ _ _ => false
 | .mp _ => false
 | .fmap kv => nrs kv
 | .fn _ a b => nrs a && nrs b
 | .tuple ds => nrs ds
 | .iface _ d => d.nr
 | .cond _ d => d.nr
 | .junk => true
def nrs : List D → Bool
 | [] => true
 | d :: ds => d.nr && nrs ds
def nrr : List (List D) → Bool
 | [] => true
 | r :: rs => nrs r && nrr rs
end
def Zjh (h : H) : Nat → D → D
 | 0, d => d
 | k + 1, d => match d with
  | .mrow r off len => .list false ((rowsOf (.mrow r off len) h).map fun row => row.map (Zjh h k))
  | .agg cs => .agg (cs.map (Zjh h k))
  | .tuple cs => .tuple (cs.map (Zjh h k))
  | .iface t d => .iface t (Zjh h k d)
  | .mptr r i off => .eptr ((Zwa (.mptr r i off) h).map (Zjh h k))
  | .fn f a b => .fn f (a.map (Zjh h k)) (b.map (Zjh h k))
  | d => d
def Zkb (h : H) : Nat → D → Prop
 | 0, d => d.nr = true
 | k + 1, d => match d with
  | .mrow r off len => Zhc h (.mrow r off len) ∧ ∀ row ∈ rowsOf (.mrow r off len) h, ∀ c ∈ row, Zkb h k c
  | .agg cs => ∀ c ∈ cs, Zkb h k c
  | .tuple cs => ∀ c ∈ cs, Zkb h k c
  | .iface _ d => Zkb h k d
  | .mptr r i off => (h r).isSome = true ∧ ∀ c ∈ Zwa (.mptr r i off) h, Zkb h k c
  | .fn _ a b => (∀ c ∈ a, Zkb h k c) ∧ ∀ c ∈ b, Zkb h k c
  | d => d.nr = true
def Zll (h : H) (d : D) : D := wk (Zjh h 5 d)
def Zgk : D → Bool
 | .mrow _ _ _ | .mptr _ _ _ => true
 | _ => false
def Zgc : D → Bool
 | .mrow _ _ _ | .mptr _ _ _ => true
 | .fn _ a b => a.any Zgk || b.any Zgk
 | _ => false
def flat1 : D → Bool
 | .v _ => true
 | _ => false
def flat : D → Bool
 | .v _ => true
 | .agg cs | .tuple cs => cs.all flat1
 | _ => false
def minI : List D → D × Prop
 | [.v (.int k a), .v (.int k' b)] => (.v (.int k (min a b)), k = k')
 | _ => (.junk, False)
def maxI : List D → D × Prop
 | [.v (.int k a), .v (.int k' b)] => (.v (.int k (max a b)), k = k')
 | _ => (.junk, False)
def Zwv (t : TypeId) : D → Bool
 | .list _ _ | .mrow _ _ _ => (Zya P t).isSome
 | .v (.string _) => match P.underlying t with | some .string => true | _ => false
 | _ => false
end
structure Words where
 pureCt : FuncId → List D → D → Prop
 ct : FuncId → List D → H → Nat → D → H → Prop
section
variable (P : Program) [Glob P] (W : Words) (C : Con)
def Zif (_ : Operand) : Bool := true
def Zke (f : Operand) (xs : List D) (h : H) (_ : Nat) : D × H × Prop := match f, xs with
 | .func k, _ :: ys => if C.pure k then
   (if C.cf then
    let ys' := ys.map wk
    (C.pf k ys', h, W.pureCt k ys' (C.pf k ys') ∧ ys.any Zgc = false)
   else if C.dp then
    let ys' := ys.map (Zll h)
    (C.pf k ys', h, W.pureCt k ys' (C.pf k ys') ∧ flat (C.pf k ys') = true ∧ ∀ y ∈ ys, Zkb h 5 y)
   else
    let ys' := ys.map (Zie h)
    (C.pf k ys', h, W.pureCt k ys' (C.pf k ys') ∧ (ys.any Zgc = true → flat (C.pf k ys') = true ∧ ∀ y ∈ ys, Zhc h y)))
  else (.junk, h, False)
 | _, .fn (.func k) first caps :: ys => if C.pure k then
   (if C.cf then
    let zs' := (first ++ ys ++ caps).map wk
    (C.pf k zs', h, W.pureCt k zs' (C.pf k zs') ∧ (first ++ ys ++ caps).any Zgc = false)
   else if C.dp then
    let zs' := (first ++ ys ++ caps).map (Zll h)
    (C.pf k zs', h, W.pureCt k zs' (C.pf k zs') ∧ flat (C.pf k zs') = true ∧ ∀ y ∈ first ++ ys ++ caps, Zkb h 5 y)
   else
    let zs' := (first ++ ys ++ caps).map (Zie h)
    (C.pf k zs', h, W.pureCt k zs' (C.pf k zs') ∧ ((first ++ ys ++ caps).any Zgc = true → flat (C.pf k zs') = true ∧ ∀ y ∈ first ++ ys ++ caps, Zhc h y)))
  else (.junk, h, False)
 | _, _ => (.junk, h, False)
def still (h : H) (r : D × Prop) : D × H × Prop := (r.1, h, r.2)
def eff (op : Op) (xs : List D) (h : H) (b : Nat) : D × H × Prop :=
 match op, xs with
 | .move _, [x] | .assign _, [x] => (x, h, True)
 | .alloc e, [] => (.mptr b 0 0, upd h b (some ⟨e, [zeroCells P e]⟩), (zeroCells P e).length = P.cellsOf e ∧ (zeroCells P e).all D.one = true ∧ 0 < P.cellsOf e)
 | .box e _, [x] => (.mptr b 0 0, upd h b (some ⟨e, [x.cells]⟩), x.cells.length = P.cellsOf e ∧ x.cells.all D.one = true ∧ 0 < P.cellsOf e)
 | .build t ps, xs => still h (Zfq P t ps.toList xs)
 | .buildSlice t n ps, xs => if C.bs then Zrl P t n ps.toList xs h b else still h (Zsc P t n ps.toList xs)
 | .load t _, [a] => still h (ldD P t a h)
 | .store t _ _, [a, x] => (.v undef, stH P t a x h)
 | .nilCheck _, [x] => (x, h, Zeo x = true)
 | .binOp op t _ _ _, [x, y] => still h (binD P t op x y)
 | .unOp op _ _, [x] => still h (unD op x)
 | .convert src dst _, [x] => still h (Ztw P src dst x)
 | .makeFunc f first _, xs => (.fn f (xs.take first.size) (xs.drop first.size), h, True)
 | .slice t _ l hi m, x :: xs =>
  still h (Zdg P t x (Zje l xs).1 (Zje hi (Zje l xs).2).1 (Zje m (Zje hi (Zje l xs).2).2).1 h)
 | .fieldAddr s _ f, [a] => still h (Zyf P s f a)
 | .field s _ f, [a] => still h (Zpn P s f a)
 | .indexAddr t _ _, [x, ix] => still h (Zzb P t x ix h)
 | .index t _ _, [x, ix] => still h (idxV P t x ix)
 | .makeSlice t _ _, [x, y] => Zsv P t h b x y
 | .makeMap t _, xs => Ztv P t xs h b
 | .mapUpdate t _ _ _, [m, k, x] | .insert t _ _ _, [m, k, x] => (.v undef, Zcg P t m k x h)
 | .lookup t _ _ ok, [m, k] => still h (Zej P t ok m k h)
 | .extract _ i, [.tuple ds] => (ds.getD i .junk, h, i < ds.length)
 | .call { callee := .builtin .len, argTypes, .. }, [x] => (.v (.int .i64 (Zqf x)), h, match argTypes.toList with | [t] => Zwv P t x = true | _ => False)
 | .call { callee := .builtin .append, argTypes, .. }, [x, y] => (match argTypes.toList with | [t, u] => Zib P t u x y h b | _ => (.junk, h, False))
 | .call { callee := .builtin .min, .. }, xs => still h (minI xs)
 | .call { callee := .builtin .max, .. }, xs => still h (maxI xs)
 | .call { callee := .value f, .. }, xs => Zke W C f xs h b
 | _, _ => (.junk, h, False)
inductive Cls where
 | none | reads | writes
 deriving DecidableEq
def cls (op : Op) : Cls := match op with
 | .load .. | .indexAddr .. | .slice .. => .reads
 | .alloc _ | .box .. | .store .. | .makeSlice .. | .makeMap .. | .mapUpdate .. | .insert .. => .writes
 | .lookup .. => .reads
 | .buildSlice .. => if C.bs then .writes else .none
 | .call { callee := .builtin .append, .. } => .writes
 | .call { callee := .value f, .. } => if C.cf then .none else if Zif f then .reads else .writes
 | _ => .none
def Zra : Op → Bool
 | .pick .. => true
 | _ => false
def Zmb (g : Bool) (op : Op) (xs : List D) (h : H) (b : Nat) : D × H × Prop :=
 if Zra op then still h (pickD g xs)
 else let r := eff P W C op (xs.map sd) h b; (r.1, r.2.1, (g = true → xs.all sg = true) ∧ r.2.2)
def S.put (s : S) (d : Option Tmp) (x : D) : Nat → D := match d with
 | some d => upd s.t d x
 | none => s.t
def Zhe (n : Nat) : Option Tmp → Bool
 | some d => decide (d < n)
 | none => true
def Zhb (L : List Oper) (b : Nat) (i : Nat) (o : Oper) (s : S) : S :=
 match o.guard with
 | none =>
  let r := Zmb P W C true o.op ((Zga o.op).map s.ev) s.h (b + i)
  { s with t := s.put o.dst r.1, h := r.2.1, ok := s.ok ∧ Zhe s.n o.dst = true ∧ r.2.2 }
 | some (j, want) =>
  let gd := ((L[j]?).bind (·.dst)).elim .junk s.t
  let r := Zmb P W C (Zpp gd want) o.op ((Zga o.op).map s.ev) s.h (b + i)
  { s with t := s.put o.dst (.cond (Zpp gd want) r.1), ok := s.ok ∧ Zhe s.n o.dst = true ∧ gok gd = true ∧ cls C o.op ≠ .writes ∧ (Zpp gd want = true → r.2.2) }
def Zha (L : List Oper) (b : Nat) : Nat → List Oper → S → S
 | _, [], s => s
 | i, o :: os, s => Zha L b (i + 1) os (Zhb P W C L b i o s)
def S.begin (s : S) (k : Nat) : S := { s with nx := s.nx + k }
def exec (L : List Oper) (s : S) : S := Zha P W C L s.nx 0 L (s.begin L.length)
end
end Go.DL
namespace Go.DL
open Go.RowKit
theorem Zkm {k : IntKind} {n : Int} (h : inK k n) : k.wrap n = n := by
 cases k <;> simp [inK, IntKind.min, IntKind.max, IntKind.signed, IntKind.bits] at h
 ·
  exact IntWalk.i8_in n h
 ·
  exact IntWalk.i16_in n h
 ·
  exact IntWalk.i32_in n h
 ·
  exact IntWalk.i64_in n h
 ·
  exact IntWalk.u8_in n ⟨h.1, by omega⟩
 ·
  exact IntWalk.u16_in n ⟨h.1, by omega⟩
 ·
  exact IntWalk.u32_in n ⟨h.1, by omega⟩
 ·
  exact IntWalk.u64_in n ⟨h.1, by omega⟩
theorem inK_div {k : IntKind} {a b : Int} (h : inK k a) (h0 : 0 ≤ a) (h1 : 1 ≤ b) : inK k (a / b) := by
 have h2 : 0 ≤ a / b := Int.ediv_nonneg h0 (by omega)
 have h3 : a / b ≤ a := Int.ediv_le_self _ h0
 exact ⟨by have := h.1; cases k <;> simp [IntKind.min, IntKind.signed, IntKind.bits] at * <;> omega, Int.le_trans h3 h.2⟩
variable {P : Program}
theorem Zk1 [Glob P] {t : TypeId} {op : BinOp} {x y : Value} (h : (Zoi P t op x y).2) (a b : Operand) (w : World) :
  (do eqGuard op t a b x y; binOp op t x y : Sem Value).run P w = .ok (Zoi P t op x y).1 w := by
 unfold Zoi at h ⊢
 split at h
 case h_1 k a' k' b' =>
  by_cases hs : k.signed = true
  ·
   simp only [hs, if_true] at h ⊢
   obtain ⟨rfl, h2⟩ := h
   simp [eqGuard, binOp, Op.intArith, Zkm h2]
  ·
   simp only [hs, if_false, Bool.false_eq_true] at h ⊢
   subst h
   simp [eqGuard, binOp, Op.intArith]
 case h_2 k a' k' b' =>
  by_cases hs : k.signed = true
  ·
   simp only [hs, if_true] at h ⊢
   obtain ⟨rfl, h2⟩ := h
   simp [eqGuard, binOp, Op.intArith, Zkm h2]
  ·
   simp only [hs, if_false, Bool.false_eq_true] at h ⊢
   subst h
   simp [eqGuard, binOp, Op.intArith]
 case h_3 k a' k' b' =>
  by_cases hs : k.signed = true
  ·
   simp only [hs, if_true] at h ⊢
   obtain ⟨rfl, h2⟩ := h
   simp [eqGuard, binOp, Op.intArith, Zkm h2]
  ·
   simp only [hs, if_false, Bool.false_eq_true] at h ⊢
   subst h
   simp [eqGuard, binOp, Op.intArith]
 case h_4 k a' k' b' =>
  obtain ⟨rfl, h2, h3, h4⟩ := h
  have e : k.wrap (a'.tdiv b') = a' / b' := by
   rw [Int.tdiv_eq_ediv_of_nonneg h2, Zkm (inK_div h4 h2 h3)]
  simp [eqGuard, binOp, Op.intDiv, show b' ≠ 0 by omega, e]
 case h_5 k a' k' b' =>
  obtain ⟨rfl, h2, h3⟩ := h
  simp [eqGuard, binOp, Op.intDiv, show b' ≠ 0 by omega, Int.tmod_eq_emod_of_nonneg h2]
 case h_17 a' b' =>
  simp only [eqGuard, binOp]
  simp [Op.stringOp, ByteArray.toList_eq]
 case h_18 a' b' =>
  simp only [eqGuard, binOp]
  simp [Op.stringOp, ByteArray.toList_eq]
 case h_19 a' b' =>
  simp only [eqGuard, binOp]
  simp [Op.stringOp, ByteArray.toList_eq]
 case h_20 a' b' =>
  simp only [eqGuard, binOp]
  simp [Op.stringOp, ByteArray.toList_eq]
 case h_21 k a' k' b' =>
  have h' : ¬ b' < 0 := by omega
  simp [eqGuard, binOp, Op.shift, h']
 case h_22 k a' k' b' =>
  have h' : ¬ b' < 0 := by omega
  simp [eqGuard, binOp, Op.shift, h']
 case h_23 k a' k' b' =>
  subst h
  simp [eqGuard, binOp, Op.intBits]
 case h_24 => exact h.elim
 case h_16 a' b' =>
  have := run_string_add_sum (P := P) w a' b' h
  simp [eqGuard, binOp, this]
 case h_12 a' b' =>
  have e : (Op.equalIn 10000 t (.bool a') (.bool b')).run P w = .ok (a' == b') w := run_equalIn_bool w 9999 t a' b' h
  simp only [eqGuard, binOp]
  simp [Op.equal, Op.maxDepth, e]
 case h_13 a' b' =>
  have e : (Op.equalIn 10000 t (.bool a') (.bool b')).run P w = .ok (a' == b') w := run_equalIn_bool w 9999 t a' b' h
  simp only [eqGuard, binOp]
  simp [Op.equal, Op.maxDepth, e, bne]
 case h_14 a' b' =>
  simp only [eqGuard, binOp]
  simp [Op.stringOp, ByteArray.toList_eq]
 case h_15 a' b' =>
  simp only [eqGuard, binOp]
  simp [Op.stringOp, ByteArray.toList_eq, bne]
 all_goals
  subst h
  simp only [eqGuard, binOp]
  simp [Op.intCmp]
theorem Rep.v_inv {w : World} {g : Mem} {x y : Value} (h : Rep w g (.v x) y) : y = x := by cases h; rfl
theorem Zmv {k : Kd} {a b : D} (h : Zrg k a b = true) :
  (k = .i ∧ ∃ kk x y, a = .v (.int kk x) ∧ b = .v (.int kk y)) ∨ (k = .b ∧ ∃ x y, a = .v (.bool x) ∧ b = .v (.bool y)) ∨ (k = .s ∧ ∃ x y, a = .v (.string x) ∧ b = .v (.string y)) := by
 unfold Zrg at h
 split at h
 ·
  simp only [beq_iff_eq] at h; subst h; exact .inl ⟨rfl, _, _, _, rfl, rfl⟩
 ·
  exact .inr (.inl ⟨rfl, _, _, rfl, rfl⟩)
 ·
  exact .inr (.inr ⟨rfl, _, _, rfl, rfl⟩)
 ·
  cases h
theorem Zah [Glob P] : ∀ (fs : List Field) (i : Nat) (ks : List Kd) (xs ys : List Value) (dx dy : List D) (w : World) (g : Mem) (n : Nat), Zrd P i fs = some ks → Zcd ks (dx.drop i) (dy.drop i) = true →
  Reps w g dx xs → Reps w g dy ys → (Op.eqFields (n + 1) xs.toArray ys.toArray fs).run P w = .ok (Zrc (dx.drop i) (dy.drop i)) w := by
 intro fs
 induction fs with
 | nil =>
  intro i ks xs ys dx dy w g n hk hp hx hy
  simp only [Zrd, Option.some.injEq] at hk
  subst hk
  cases h1 : dx.drop i with
  | nil => simp [Op.eqFields, Zrc]
  | cons a l => rw [h1] at hp; simp [Zcd] at hp
 | cons f fs ih =>
  intro i ks xs ys dx dy w g n hf hp hx hy
  simp only [Zrd] at hf
  split at hf
  case isFalse => cases hf
  rename_i hno
  simp only [Bool.and_eq_true, bne_iff_ne, beq_iff_eq] at hno
  obtain ⟨hn, ho⟩ := hno
  split at hf
  case h_2 => cases hf
  rename_i k ks' hk hr
  simp only [Option.some.injEq] at hf
  subst hf
  have hlt : i < dx.length := by
   rcases Nat.lt_or_ge i dx.length with h | h
   ·
    exact h
   ·
    rw [List.drop_eq_nil_of_le h] at hp; simp [Zcd] at hp
  have hxi : dx.drop i = dx[i] :: dx.drop (i + 1) := List.drop_eq_getElem_cons hlt
  have hlty : i < dy.length := by
   rcases Nat.lt_or_ge i dy.length with h | h
   ·
    exact h
   ·
    rw [hxi, List.drop_eq_nil_of_le h] at hp; simp [Zcd] at hp
  have hyi : dy.drop i = dy[i] :: dy.drop (i + 1) := List.drop_eq_getElem_cons hlty
  rw [hxi, hyi] at hp ⊢
  simp only [Zcd, Bool.and_eq_true] at hp
  have hlx : i < xs.length := by rw [← hx.1]; exact hlt
  have hly : i < ys.length := by rw [← hy.1]; exact hlty
  have rx := hx.2 i dx[i] xs[i] (by simp) (by simp)
  have ry := hy.2 i dy[i] ys[i] (by simp) (by simp)
  have ih' := ih (i + 1) ks' xs ys dx dy w g n hr hp.2 hx hy
  have hu : ∃ d, P.underlying f.type = some d ∧ ((k = .b ∧ d = .bool) ∨ (k = .s ∧ d = .string) ∨ (k = .i ∧ ∃ kk, d = .int kk)) := by
   unfold kindOf at hk
   split at hk <;> simp at hk <;> subst hk <;> simp_all
  obtain ⟨d, hu, hd⟩ := hu
  have hagg : (isAgg f.type).run P w = .ok false w := by
   unfold isAgg
   rw [Sem.run_bind, run_underlying hu w]
   rcases hd with ⟨_, rfl⟩ | ⟨_, rfl⟩ | ⟨_, kk, rfl⟩ <;> simp
  have px : (part f.type xs.toArray f.offset).run P w = .ok xs[i] w := by
   unfold part; simp [hagg, ho, hlx]
  have py : (part f.type ys.toArray f.offset).run P w = .ok ys[i] w := by
   unfold part; simp [hagg, ho, hly]
  have heq : (Op.equalIn (n + 1) f.type xs[i] ys[i]).run P w = .ok (Zqe dx[i] dy[i]) w := by
   rcases Zmv hp.1 with ⟨rfl, kk, x, y, e1, e2⟩ | ⟨rfl, x, y, e1, e2⟩ | ⟨rfl, x, y, e1, e2⟩ <;> rw [e1] at rx ⊢ <;> rw [e2] at ry ⊢ <;> rw [rx.v_inv, ry.v_inv]
   ·
    rcases hd with ⟨h, _⟩ | ⟨h, _⟩ | ⟨_, k2, rfl⟩
    ·
     cases h
    ·
     cases h
    ·
     exact run_equalIn_int w n f.type kk k2 x y hu
   ·
    rcases hd with ⟨_, rfl⟩ | ⟨h, _⟩ | ⟨h, _⟩
    ·
     exact run_equalIn_bool w n f.type x y hu
    ·
     cases h
    ·
     cases h
   ·
    rcases hd with ⟨h, _⟩ | ⟨_, rfl⟩ | ⟨h, _⟩
    ·
     cases h
    ·
     rw [run_equalIn_string w n f.type x y hu, ByteArray.toList_eq, ByteArray.toList_eq]; rfl
    ·
     cases h
  simp only [Op.eqFields, if_pos hn, Sem.run_bind, px, py, heq, Result.andThen_ok, Zrc]
  cases hc : Zqe dx[i] dy[i] with
  | false => simp
  | true => simp [ih']
theorem Zl1 [Glob P] {t : TypeId} {op : BinOp} {x y : D} {vx vy : Value} {w : World} {g : Mem} (hx : Rep w g x vx) (hy : Rep w g y vy) (h : (binD P t op x y).2) (a b : Operand) :
  ∃ v, (do eqGuard op t a b vx vy; binOp op t vx vy : Sem Value).run P w = .ok v w ∧ Rep w g (binD P t op x y).1 v := by
 unfold binD at h ⊢
 split at h
 ·
  rename_i x y
  rw [hx.v_inv, hy.v_inv]
  exact ⟨_, Zk1 h a b w, .v _⟩
 ·
  rename_i xs ys
  cases hx with | agg _ vs hn hv =>
  cases hy with | agg _ us hm hu =>
  have key : ∀ ks, Zge P t = some ks → Zcd ks xs ys = true → (Op.equalIn 10000 t (.agg vs) (.agg us)).run P w = .ok (Zrc xs ys) w ∧ P.eqGuardType P.depth t = false := by
   intro ks hks hp
   unfold Zge at hks
   split at hks
   case h_2 => cases hks
   rename_i fs hfs
   split at hks
   case isFalse => cases hks
   rename_i hc
   simp only [Bool.and_eq_true, Bool.not_eq_true'] at hc
   have hF : P.fieldsOf t = fs := by simp [Program.fieldsOf, hfs]
   have h1 := run_equalIn_agg (P := P) w 9999 t vs us (by rw [hF]; exact hfs) hc.1
   have h2 := Zah (P := P) fs.toList 0 ks vs.toList us.toList xs ys w g 9998 hks (by simpa using hp) ⟨by simpa using hn, fun i d x h1 h2 => hv i d x h1 (by simpa using h2)⟩ ⟨by simpa using hm, fun i d x h1 h2 => hu i d x h1 (by simpa using h2)⟩
   rw [hF] at h1
   simp only [Array.toArray_toList, List.drop_zero] at h2
   exact ⟨h1.trans h2, hc.2⟩
  split at h
  ·
   split at h
   ·
    rename_i ks hks
    obtain ⟨k1, k2⟩ := key ks hks h
    refine ⟨.bool (Zrc xs ys), ?_, .v _⟩
    simp only [Sem.run_bind, run_eqGuard_agg w .eql t a b vs us k2, Result.andThen_ok, run_eql_struct, k1]
   ·
    exact h.elim
  ·
   split at h
   ·
    rename_i ks hks
    obtain ⟨k1, k2⟩ := key ks hks h
    refine ⟨.bool (!Zrc xs ys), ?_, .v _⟩
    simp only [Sem.run_bind, run_eqGuard_agg w .neq t a b vs us k2, Result.andThen_ok, run_neq_struct, k1]
   ·
    exact h.elim
  ·
   exact h.elim
 ·
  exact h.elim
end Go.DL
namespace Go.DL
open Go.RowKit
variable {P : Program}
theorem Zn1 [Glob P] {h : H} {g : Mem} {w : World} (hm : HM P h g w) {r b c s : Nat} (e : g.M r = some (some b, c, s)) : b < w.heap.size ∧ ¬ g.I b ∧ ∃ bl, h r = some bl := by
 cases hr : h r with
 | none => rw [hm.dead r hr] at e; cases e
 | some bl =>
  obtain ⟨blk, c', e1, _, _, _, h5⟩ := hm.blk r bl hr
  rw [e] at e1
  simp only [Option.some.injEq, Prod.mk.injEq] at e1
  rcases h5 with ⟨h6, _⟩ | ⟨b', cur, h6, h7, _, h8, _⟩
  ·
   rw [← e1.1] at h6; cases h6
  ·
   rw [← e1.1] at h6; cases h6
   obtain ⟨x, hx, _⟩ := h7.some
   exact ⟨(Array.getElem?_eq_some_iff.1 hx).1, h8, _, rfl⟩
theorem HM.putB [Glob P] {h h' : H} {g : Mem} {w w' : World} (hm : HM P h g w) (b nb c : Nat) (bl : Blk) (cur : Array Value)
  (hb : ¬ g.U b ∨ g.M b = some (some nb, c, P.cellsOf bl.ty)) (hb' : h' b = some bl) (hr : ∀ r, r ≠ b → h' r = h r ∨ h' r = none)
  (hnb : w.heap.size ≤ nb ∨ ∃ r c' s', g.M r = some (some nb, c', s') ∧ (r = b ∨ h' r = none))
  (hcur : LieB w'.heap[nb]? bl.ty cur c) (hsz : c ≤ maxLen → cur.size = c * P.cellsOf bl.ty) (hpos : 0 < P.cellsOf bl.ty) (hle : bl.rows.length ≤ c) (hmax : c ≤ maxLen + 1)
  (hold : Holds P w g bl cur) (gb : w.grownBy w' (some nb)) (hdr : w.drawn ≤ w'.drawn := by first | exact Nat.le_refl _ | exact Nat.le_succ _) :
  ∃ g' : Mem, g'.M b = some (some nb, c, P.cellsOf bl.ty) ∧ (∀ r, g'.U r ↔ g.U r ∨ r = b) ∧ (∀ b, g'.I b ↔ g.I b) ∧ HM P h' g' w' ∧ Mono g g' w w' := by
 let g' : Mem := { M := fun r => if r = b then some (some nb, c, P.cellsOf bl.ty) else if (h' r).isSome then g.M r else none, U := fun r => g.U r ∨ r = b, I := g.I }
 have e_b : g'.M b = some (some nb, c, P.cellsOf bl.ty) := by simp [g']
 have e_r : ∀ r, r ≠ b → g'.M r = if (h' r).isSome then g.M r else none := fun r hr => by simp [g', hr]
 have hne : ∀ r c' s', r ≠ b → g'.M r ≠ some (some nb, c', s') := by
  intro r c' s' hrb he
  rw [e_r r hrb] at he
  split at he
  ·
   rename_i hs
   rcases hnb with h1 | ⟨r2, c2, s2, h2, h3⟩
   ·
    have := (Zn1 hm he).1; omega
   ·
    have : r = r2 := hm.inj _ _ _ _ _ _ _ he h2
    subst this
    rcases h3 with h3 | h3
    ·
     exact hrb h3
    ·
     rw [h3] at hs; cases hs
  ·
   cases he
 have hnI : ¬ g.I nb := by
  intro hi
  rcases hnb with h1 | ⟨r2, c2, s2, h2, _⟩
  ·
   have := hm.imm nb hi; omega
  ·
   exact (Zn1 hm h2).2.1 hi
 have mono : Mono g g' w w' := by
  refine ⟨gb.os, gb.tape, gb.output, gb.size, hdr, fun r h => .inl h, fun r hu => ?_, fun r b' c' s' he => ?_, fun _ h => h, fun _ h => .inl h, fun k hk hn => ?_⟩
  ·
   by_cases e : r = b
   ·
    subst e
    rcases hb with h1 | h1
    ·
     exact absurd hu h1
    ·
     rw [e_b, h1]; exact .inl rfl
   ·
    rw [e_r r e]; split
    ·
     exact .inl rfl
    ·
     exact .inr rfl
  ·
   by_cases e : r = b
   ·
    subst e; rw [e_b] at he; simp only [Option.some.injEq, Prod.mk.injEq] at he
    obtain ⟨rfl, _, _⟩ := he
    rcases hnb with h1 | ⟨r2, c2, s2, h2, _⟩
    ·
     exact .inr h1
    ·
     exact .inl ⟨r2, c2, s2, h2⟩
   ·
    rw [e_r r e] at he
    split at he
    ·
     exact .inl ⟨r, c', s', he⟩
    ·
     cases he
  ·
   refine gb.block k hk fun e => ?_
   cases e
   rcases hnb with h1 | ⟨r2, c2, s2, h2, _⟩
   ·
    omega
   ·
    exact hn _ _ _ h2
 refine ⟨g', e_b, fun _ => Iff.rfl, fun _ => Iff.rfl, ⟨fun r hn => ?_, fun r bl' hrl => ?_, fun r r' b' c1 c2 s1 s2 e1 e2 => ?_, fun r hn => ?_, fun k hk => Nat.lt_of_lt_of_le (hm.imm k hk) gb.size, hm.gr.later (hm.kept mono)⟩, mono⟩
 ·
  have e : r ≠ b := fun e => by rw [e, hb'] at hn; cases hn
  rw [e_r r e, hn]; rfl
 ·
  by_cases e : r = b
  ·
   subst e
   rw [hb'] at hrl; cases hrl
   refine ⟨some nb, c, e_b, hpos, hle, hmax, .inr ⟨nb, cur, rfl, hcur, hsz, hnI, fun i row hi => ?_⟩⟩
   obtain ⟨h1, h2⟩ := hold i row hi
   refine ⟨h1, fun j d hd => ?_⟩
   obtain ⟨u, h3, h4, h5⟩ := h2 j d hd
   exact ⟨u, h3, h4, h5.later hm mono⟩
  ·
   rcases hr r e with e1 | e1
   ·
    rw [e1] at hrl
    obtain ⟨blk, c', h1, h2, h3, h4, h5⟩ := hm.blk r bl' hrl
    refine ⟨blk, c', by rw [e_r r e, e1, hrl]; exact h1, h2, h3, h4, ?_⟩
    rcases h5 with h5 | ⟨b', cur', rfl, h6, h7, h8, h9⟩
    ·
     exact .inl h5
    ·
     refine .inr ⟨b', cur', rfl, ?_, h7, h8, fun i row hi => ?_⟩
     ·
      have hb' : b' ≠ nb := fun e2 => by
       subst e2
       exact hne r c' _ e (by rw [e_r r e, e1, hrl]; exact h1)
      rw [gb.block b' (Zn1 hm h1).1 (by simpa using hb')]; exact h6
     ·
      obtain ⟨k1, k2⟩ := h9 i row hi
      refine ⟨k1, fun j d hd => ?_⟩
      obtain ⟨u, k3, k4, k5⟩ := k2 j d hd
      exact ⟨u, k3, k4, k5.later hm mono⟩
   ·
    rw [e1] at hrl; cases hrl
 ·
  by_cases e : r = b <;> by_cases e' : r' = b
  ·
   rw [e, e']
  ·
   subst e
   rw [e_b] at e1; simp only [Option.some.injEq, Prod.mk.injEq] at e1
   obtain ⟨rfl, _, _⟩ := e1
   exact absurd e2 (hne r' _ _ e')
  ·
   subst e'
   rw [e_b] at e2; simp only [Option.some.injEq, Prod.mk.injEq] at e2
   obtain ⟨rfl, _, _⟩ := e2
   exact absurd e1 (hne r _ _ e)
  ·
   rw [e_r r e] at e1; rw [e_r r' e'] at e2
   split at e1
   ·
    split at e2
    ·
     exact hm.inj _ _ _ _ _ _ _ e1 e2
    ·
     cases e2
   ·
    cases e1
 ·
  by_cases e : r = b
  ·
   exact .inr e
  ·
   rw [e_r r e] at hn
   split at hn
   ·
    exact .inl (hm.used r hn)
   ·
    exact absurd rfl hn
theorem HM.put [Glob P] {h h' : H} {g : Mem} {w w' : World} (hm : HM P h g w) (b nb c : Nat) (bl : Blk) (cur : Array Value)
  (hb : ¬ g.U b ∨ g.M b = some (some nb, c, P.cellsOf bl.ty)) (hb' : h' b = some bl) (hr : ∀ r, r ≠ b → h' r = h r ∨ h' r = none)
  (hnb : w.heap.size ≤ nb ∨ ∃ r c' s', g.M r = some (some nb, c', s') ∧ (r = b ∨ h' r = none))
  (hcur : w'.heap[nb]? = some (.cells cur bl.ty (0, 0))) (hsz : cur.size = c * P.cellsOf bl.ty) (hpos : 0 < P.cellsOf bl.ty) (hle : bl.rows.length ≤ c) (hmax : c ≤ maxLen)
  (hold : Holds P w g bl cur) (gb : w.grownBy w' (some nb)) (hdr : w.drawn ≤ w'.drawn := by first | exact Nat.le_refl _ | exact Nat.le_succ _) :
  ∃ g' : Mem, g'.M b = some (some nb, c, P.cellsOf bl.ty) ∧ (∀ r, g'.U r ↔ g.U r ∨ r = b) ∧ (∀ b, g'.I b ↔ g.I b) ∧ HM P h' g' w' ∧ Mono g g' w w' :=
 hm.putB b nb c bl cur hb hb' hr hnb (.inl ⟨hmax, hcur⟩) (fun _ => hsz) hpos hle (Nat.le_succ_of_le hmax) hold gb hdr
theorem HM.putNone [Glob P] {h h' : H} {g : Mem} {w : World} (hm : HM P h g w) (b : Nat) (bl : Blk) (hb : ¬ g.U b) (hb' : h' b = some bl) (hr : ∀ r, r ≠ b → h' r = h r ∨ h' r = none) (hpos : 0 < P.cellsOf bl.ty) (hle : bl.rows = []) :
  ∃ g' : Mem, g'.M b = some (none, 0, P.cellsOf bl.ty) ∧ (∀ r, g'.U r ↔ g.U r ∨ r = b) ∧ (∀ b, g'.I b ↔ g.I b) ∧ HM P h' g' w ∧ Mono g g' w w := by
 let g' : Mem := { M := fun r => if r = b then some (none, 0, P.cellsOf bl.ty) else if (h' r).isSome then g.M r else none, U := fun r => g.U r ∨ r = b, I := g.I }
 have e_b : g'.M b = some (none, 0, P.cellsOf bl.ty) := by simp [g']
 have e_r : ∀ r, r ≠ b → g'.M r = if (h' r).isSome then g.M r else none := fun r hr => by simp [g', hr]
 have mono : Mono g g' w w := by
  refine ⟨rfl, rfl, rfl, Nat.le_refl _, Nat.le_refl _, fun r h => .inl h, fun r hu => ?_, fun r b' c' s' he => ?_, fun _ h => h, fun _ h => .inl h, fun k hk hn => rfl⟩
  ·
   have e : r ≠ b := fun e => hb (e ▸ hu)
   rw [e_r r e]; split
   ·
    exact .inl rfl
   ·
    exact .inr rfl
  ·
   by_cases e : r = b
   ·
    subst e; rw [e_b] at he; cases he
   ·
    rw [e_r r e] at he
    split at he
    ·
     exact .inl ⟨r, c', s', he⟩
    ·
     cases he
 refine ⟨g', e_b, fun _ => Iff.rfl, fun _ => Iff.rfl, ⟨fun r hn => ?_, fun r bl' hrl => ?_, fun r r' b' c1 c2 s1 s2 e1 e2 => ?_, fun r hn => ?_, fun k hk => hm.imm k hk, hm.gr.later (hm.kept mono)⟩, mono⟩
 ·
  have e : r ≠ b := fun e => by rw [e, hb'] at hn; cases hn
  rw [e_r r e, hn]; rfl
 ·
  by_cases e : r = b
  ·
   subst e
   rw [hb'] at hrl; cases hrl
   exact ⟨none, 0, e_b, hpos, by rw [hle]; exact Nat.le_refl _, Nat.zero_le _, .inl ⟨rfl, rfl⟩⟩
  ·
   rcases hr r e with e1 | e1
   ·
    rw [e1] at hrl
    obtain ⟨blk, c', h1, h2, h3, h4, h5⟩ := hm.blk r bl' hrl
    refine ⟨blk, c', by rw [e_r r e, e1, hrl]; exact h1, h2, h3, h4, ?_⟩
    rcases h5 with h5 | ⟨b', cur', rfl, h6, h7, h8, h9⟩
    ·
     exact .inl h5
    ·
     refine .inr ⟨b', cur', rfl, h6, h7, h8, fun i row hi => ?_⟩
     obtain ⟨k1, k2⟩ := h9 i row hi
     refine ⟨k1, fun j d hd => ?_⟩
     obtain ⟨u, k3, k4, k5⟩ := k2 j d hd
     exact ⟨u, k3, k4, k5.later hm mono⟩
   ·
    rw [e1] at hrl; cases hrl
 ·
  by_cases e : r = b
  ·
   subst e; rw [e_b] at e1; cases e1
  ·
   by_cases e' : r' = b
   ·
    subst e'; rw [e_b] at e2; cases e2
   ·
    rw [e_r r e] at e1; rw [e_r r' e'] at e2
    split at e1
    ·
     split at e2
     ·
      exact hm.inj _ _ _ _ _ _ _ e1 e2
     ·
      cases e2
    ·
     cases e1
 ·
  by_cases e : r = b
  ·
   exact .inr e
  ·
   rw [e_r r e] at hn
   split at hn
   ·
    exact .inl (hm.used r hn)
   ·
    exact absurd rfl hn
end Go.DL
namespace Go.DL
open Go.RowKit
variable {P : Program}
def Does (P : Program) [Glob P] (g : Mem) (w : World) (b : Nat) (r : Result Next) (d : D) (h' : H) : Prop :=
 ∃ v g' w', (r = .ok (.value v) w' ∨ (r = .ok .skip w' ∧ v = undef)) ∧ Rep w' g' d v ∧ HM P h' g' w' ∧ Mono g g' w w' ∧ ∀ r, g'.U r → g.U r ∨ r = b
theorem Does.still [Glob P] {g : Mem} {w : World} {b : Nat} {s : Sem Value} {d : D} {h : H} {v : Value} (hm : HM P h g w) (hr : s.run P w = .ok v w) (hv : Rep w g d v) :
  Does P g w b ((do pure (.value (← s)) : Sem Next).run P w) d h :=
 ⟨v, g, w, .inl (by simp [hr]), hv, hm, Mono.refl _ _, fun _ h => .inl h⟩
theorem Rep.one {w : World} {g : Mem} {d : D} {v : Value} (h : Rep w g d v) (h1 : d.one = true) : v.oneCell' = true ∧ v.cells = #[v] := by
 cases h with
 | v => cases v <;> simp_all [D.one, Value.oneCell', Value.cells]
 | agg => simp [D.one] at h1
 | tuple => simp [D.one] at h1
 | iface => simp [Value.oneCell', Value.cells]
 | empty => simp [Value.oneCell', Value.cells]
 | list => simp [Value.oneCell', Value.cells]
 | eptr => simp [Value.oneCell', Value.cells]
 | mrow r off len x hx => obtain ⟨a, c, rfl, _⟩ := hx; simp [Value.oneCell', Value.cells]
 | mptr r i off x hx => obtain ⟨p, rfl⟩ := hx; simp [Value.oneCell', Value.cells]
 | mp r x hx => obtain ⟨p, rfl⟩ := hx; simp [Value.oneCell', Value.cells]
 | fmap => simp [Value.oneCell', Value.cells]
 | fn => simp [Value.oneCell', Value.cells]
 | cond => simp [D.one] at h1
 | junk => simp [D.one] at h1
theorem Rep.cells {w : World} {g : Mem} {d : D} {v : Value} (h : Rep w g d v) (h1 : d.cells.all D.one = true) :
  Reps w g d.cells v.cells.toList ∧ (∀ u ∈ v.cells.toList, u.oneCell' = true) ∧ v.cells.size = d.cells.length := by
 by_cases ha : ∃ cs, d = .agg cs
 ·
  obtain ⟨cs, rfl⟩ := ha
  cases h with | agg _ vs hn hv =>
  simp only [D.cells] at h1 ⊢
  refine ⟨⟨by simpa [Value.cells] using hn, fun i d x h2 h3 => hv i d x h2 (by simpa [Value.cells] using h3)⟩, fun u hu => ?_, by simp [Value.cells, hn]⟩
  simp only [Value.cells, Array.mem_toList_iff] at hu
  obtain ⟨i, hi, rfl⟩ := Array.mem_iff_getElem.1 hu
  have hd : i < cs.length := by omega
  exact ((hv i cs[i] vs[i] (by simp) (by simp)).one (List.all_eq_true.1 h1 _ (List.getElem_mem hd))).1
 ·
  have e : d.cells = [d] := by cases d <;> simp_all [D.cells]
  rw [e] at h1 ⊢
  have h2 := h.one (by simpa using h1)
  rw [h2.2]
  exact ⟨.cons h .nil, by simpa using h2.1, by simp⟩
theorem Zhd [Glob P] {t : TypeId} (h : 0 < P.cellsOf t) : ∃ i, P.info? t = some i ∧ i.size = P.cellsOf t := by
 unfold Program.cellsOf at h ⊢
 cases hi : P.info? t with
 | none => simp [hi] at h
 | some i => exact ⟨i, rfl, by simp⟩
theorem Zic [Glob P] {t : TypeId} (h : 0 < P.cellsOf t) (w : World) : (sizeOf t).run P w = .ok (P.cellsOf t) w := by
 obtain ⟨i, hi, hs⟩ := Zhd h
 simp [sizeOf, typeInfo, hi, hs]
theorem Zut [Glob P] {t : TypeId} (h : (P.underlying t).isSome = true) (w : World) : (isAgg t).run P w = .ok (Zpf P t) w := by
 obtain ⟨d, hd⟩ := Option.isSome_iff_exists.1 h
 unfold isAgg Zpf
 rw [Sem.run_bind, run_underlying hd w, hd]
 cases d <;> simp
theorem ldc_m [Glob P] {r i off : Nat} {h : H} : ldc P (.mptr r i off) h = match h r with | some b => (b.rows.getD i []).drop off | none => [] := rfl
theorem ldc_p [Glob P] {x o : Nat} {h : H} : ldc P (.v (.pointer (some ⟨x, o, none⟩))) h = match Glob.tab P x with | some cs => (cs.drop o).map D.v | none => [] := rfl
theorem Zet [Glob P] {h : H} {g : Mem} {w : World} (hm : HM P h g w) {a : D} {va : Value} (ha : Rep w g a va) (hne : ldc P a h ≠ []) :
  ∃ p, va = .pointer (some p) ∧ ∀ (j : Nat) d, (ldc P a h)[j]? = some d → ∃ u, w.cell? (p.add j) = some u ∧ Rep w g d u := by
 cases ha with
 | eptr cs p cv hI hc hr => exact ⟨p, rfl, fun j d hj => ⟨cv j, hc j d hj, hr j d hj⟩⟩
 | mptr r i off x hx hU hv =>
  simp only [ldc_m] at hne ⊢
  cases hr : h r with
  | none => rw [hr] at hne; exact absurd rfl hne
  | some bl =>
   rw [hr] at hne
   simp only at hne ⊢
   obtain ⟨blk, c, h1, h2, h3, h4, h5⟩ := hm.blk r bl hr
   have hi : i < bl.rows.length := by
    rcases Nat.lt_or_ge i bl.rows.length with h | h
    ·
     exact h
    ·
     simp [List.getD, List.getElem?_eq_none h] at hne
   rcases h5 with ⟨_, rfl⟩ | ⟨b, cur, rfl, h6, h7, h8, h9⟩
   ·
    omega
   ·
    obtain ⟨hcm, b', he, rfl⟩ := hv _ _ _ h1
    cases he
    refine ⟨_, rfl, fun j d hj => ?_⟩
    rw [List.getElem?_drop] at hj
    obtain ⟨_, k2⟩ := h9 i (bl.rows.getD i []) (by simp [List.getD, List.getElem?_eq_getElem hi])
    obtain ⟨u, k3, _, k5⟩ := k2 (off + j) d hj
    refine ⟨u, ?_, k5⟩
    rw [Zgg, cell_of_row w b _ cur bl.ty (0, 0) (h6.cells hcm), ← k3]
    congr 1
    omega
 | v =>
  by_cases hp : ∃ b o, va = Value.pointer (some ⟨b, o, none⟩)
  ·
   obtain ⟨b, o, rfl⟩ := hp
   refine ⟨_, rfl, fun j d hj => ?_⟩
   rw [ldc_p] at hj
   cases ht : Glob.tab P b with
   | none => rw [ht] at hj; simp at hj
   | some cs =>
    rw [ht] at hj
    simp only [List.getElem?_map, List.getElem?_drop, Option.map_eq_some_iff] at hj
    obtain ⟨u, h1, rfl⟩ := hj
    exact ⟨u, by rw [Zgg]; exact (hm.gr b cs ht).2 _ u h1, .v _⟩
  ·
   refine absurd ?_ hne
   unfold ldc
   split
   ·
    rename_i x' o e
    first | (cases e; exact absurd ⟨_, _, rfl⟩ hp) | exact absurd ⟨_, _, rfl⟩ hp
   ·
    rfl
 | _ => exact absurd rfl hne
theorem Zwk [Glob P] {t : TypeId} {p : Addr} {w : World} {g : Mem} {ds : List D} (hc : ∀ (j : Nat) d, ds[j]? = some d → ∃ u, w.cell? (p.add j) = some u ∧ Rep w g d u)
  (hn : P.cellsOf t ≤ ds.length) (hp : 0 < P.cellsOf t) (hu : (P.underlying t).isSome = true) : ∃ v, (loadVar t p).run P w = .ok v w ∧ Rep w g (mkD P t ds) v := by
 unfold loadVar mkD
 rw [Sem.run_bind, Zut hu w]
 cases hg : Zpf P t with
 | false =>
  have h0 : 0 < ds.length := by omega
  obtain ⟨u, h1, h2⟩ := hc 0 ds[0] (by simp)
  refine ⟨u, ?_, ?_⟩
  ·
   simp only [Addr.add, if_true] at h1
   simp [h1]
  ·
   have : ds.headD .junk = ds[0] := by cases ds <;> simp_all
   simp only [Bool.false_eq_true, if_false]
   rw [this]; exact h2
 | true =>
  have hex : ∀ j, ∃ u, j < P.cellsOf t → w.cell? (p.add j) = some u ∧ ∀ d, ds[j]? = some d → Rep w g d u := by
   intro j
   by_cases hj : j < P.cellsOf t
   ·
    obtain ⟨u, h1, h2⟩ := hc j (ds[j]'(by omega)) (by simp)
    refine ⟨u, fun _ => ⟨h1, fun d hd => ?_⟩⟩
    rw [List.getElem?_eq_getElem (by omega)] at hd
    cases hd; exact h2
   ·
    exact ⟨undef, fun h => absurd h hj⟩
  let f := fun j => Classical.choose (hex j)
  have hf := fun j => Classical.choose_spec (hex j)
  refine ⟨.agg ((List.range (P.cellsOf t)).map f).toArray, ?_, ?_⟩
  ·
   have := run_loadCells (P := P) w p (P.cellsOf t) f (fun j hj => (hf j hj).1)
   simp [Zic hp, this]
  ·
   simp only [if_true]
   refine .agg _ _ (by simp; omega) fun i d x h1 h2 => ?_
   rw [List.getElem?_take] at h1
   split at h1
   ·
    rename_i hi
    simp [hi] at h2
    subst h2
    exact (hf i hi).2 d h1
   ·
    cases h1
theorem Zt0 [Glob P] {h : H} {g : Mem} {w : World} (hm : HM P h g w) {t : TypeId} {a : D} {va : Value} (ha : Rep w g a va) (hc : (ldD P t a h).2) :
  ∃ v, (Instr.loadAt t va).run P w = .ok v w ∧ Rep w g (ldD P t a h).1 v := by
 obtain ⟨h1, h2, h3⟩ := hc
 obtain ⟨p, rfl, hp⟩ := Zet hm ha (by intro e; rw [e] at h1; simp at h1; omega)
 obtain ⟨v, h4, h5⟩ := Zwk hp h1 h2 h3
 exact ⟨v, by simp [Instr.loadAt, Instr.sureAddr, h4], h5⟩
theorem Zh0 [Glob P] {g : Mem} {w : World} {t : TypeId} {off : Nat} {ds : List D} {vs : Array Value} (hv : Reps w g ds vs.toList) (hn : off + P.cellsOf t ≤ ds.length) (hp : 0 < P.cellsOf t) (hu : (P.underlying t).isSome = true) :
  ∃ v, (part t vs off).run P w = .ok v w ∧ Rep w g (mkD P t (ds.drop off)) v := by
 have hl : ds.length = vs.size := by simpa using hv.1
 unfold part mkD
 rw [Sem.run_bind, Zut hu w]
 cases hg : Zpf P t with
 | false =>
  refine ⟨vs[off]'(by omega), ?_, ?_⟩
  ·
   simp [show off < vs.size by omega]
  ·
   have h1 := hv.2 off (ds[off]'(by omega)) (vs[off]'(by omega)) (by simp) (by simp)
   have : (ds.drop off).headD .junk = ds[off]'(by omega) := by rw [List.drop_eq_getElem_cons (by omega)]; rfl
   simp only [Bool.false_eq_true, if_false]
   rw [this]; exact h1
 | true =>
  refine ⟨.agg (vs.extract off (off + P.cellsOf t)), by simp [Zic hp], ?_⟩
  simp only [if_true]
  refine .agg _ _ (by simp; omega) fun i d x h1 h2 => ?_
  rw [List.getElem?_take] at h1
  split at h1
  ·
   rename_i hi
   rw [List.getElem?_drop] at h1
   rw [Array.getElem?_extract] at h2
   split at h2
   ·
    exact hv.2 _ d x h1 (by simpa using h2)
   ·
    cases h2
  ·
   cases h1
theorem Zep (w : World) (g : Mem) (x : Value) : Rep w g (Zht x) x := by
 cases x with
 | slice a n c =>
  simp only [Zht]
  split
  ·
   rename_i h
   simp only [Bool.and_eq_true, Option.isNone_iff_eq_none, beq_iff_eq] at h
   obtain ⟨⟨rfl, rfl⟩, rfl⟩ := h
   exact .empty true none 0 (fun _ => rfl) (by simp [maxLen])
  ·
   exact .v _
 | func f fs cs =>
  simp only [Zht]
  split
  ·
   rename_i h
   simp only [Bool.and_eq_true, beq_iff_eq] at h
   exact .fn f [] [] fs cs (by simp [h.1]) (by simp [h.2]) (by simp) (by simp)
  ·
   exact .v _
 | _ => exact .v _
theorem Zdr (w : World) (g : Mem) (x : Value) : Rep w g (ofV x) x := by
 unfold ofV
 split
 ·
  refine .agg _ _ (by simp) fun i d y h1 h2 => ?_
  simp only [List.getElem?_map, Array.getElem?_toList] at h1
  rw [h2] at h1
  simp at h1
  subst h1
  exact Zep w g y
 ·
  exact Zep w g x
theorem Zsl [Glob P] {t : TypeId} {i : TypeInfo} {z : Value} (hi : P.info? t = some i) (hz : i.zero = some z) (w : World) (g : Mem) (h1 : (zeroCells P t).all D.one = true) :
  Reps w g (zeroCells P t) z.cells.toList ∧ (∀ u ∈ z.cells.toList, u.oneCell' = true) ∧ z.cells.size = (zeroCells P t).length := by
 have e : zeroCells P t = (ofV z).cells := by simp [zeroCells, hi, hz]
 rw [e] at h1 ⊢
 exact (Zdr w g z).cells h1
theorem Zjm [Glob P] {t : TypeId} (h : 0 < (zeroCells P t).length) : ∃ i z, P.info? t = some i ∧ i.zero = some z := by
 unfold zeroCells at h
 cases hi : P.info? t with
 | none => simp [hi] at h
 | some i =>
  cases hz : i.zero with
  | none => simp [hi, hz] at h
  | some z => exact ⟨i, z, rfl, hz⟩
theorem holds_one [Glob P] {w : World} {g : Mem} {e : TypeId} {ds : List D} {vs : Array Value} (h : Reps w g ds vs.toList) (h1 : ∀ u ∈ vs.toList, u.oneCell' = true) (hl : ds.length = P.cellsOf e) : Holds P w g ⟨e, [ds]⟩ vs := by
 intro i row hi
 cases i with
 | succ i => simp at hi
 | zero =>
  simp at hi; subst hi
  refine ⟨hl, fun j d hd => ?_⟩
  have hj : j < vs.size := by have := h.1; simp at this; rw [← this]; exact (List.getElem?_eq_some_iff.1 hd).1
  exact ⟨vs[j], by simp [hj], h1 _ (by simp), h.2 j d _ hd (by simp [hj])⟩
theorem Zjt [Glob P] {h : H} {g : Mem} {w : World} (hm : HM P h g w) {b : Nat} (hb : ¬ g.U b) {e : TypeId} {ds : List D} {vs : Array Value} (hr : Reps w g ds vs.toList) (h1 : ∀ u ∈ vs.toList, u.oneCell' = true) (hl : ds.length = P.cellsOf e) (hp : 0 < P.cellsOf e) :
  ∃ g', Rep (w.alloc (.cells vs e)) g' (.mptr b 0 0) (.pointer (some ⟨w.heap.size, 0, none⟩)) ∧ HM P (upd h b (some ⟨e, [ds]⟩)) g' (w.alloc (.cells vs e)) ∧ Mono g g' w (w.alloc (.cells vs e)) ∧ ∀ r, g'.U r → g.U r ∨ r = b := by
 have hs : vs.size = P.cellsOf e := by have := hr.1; simp at this; omega
 obtain ⟨g', h2, h3, h4, h5, h6⟩ := hm.put (h' := upd h b (some ⟨e, [ds]⟩)) (w' := w.alloc (.cells vs e)) b w.heap.size 1 ⟨e, [ds]⟩ vs (.inl hb) (upd_same _ _ _)
  (fun r hr => .inl (upd_ne _ _ _ _ hr)) (.inl (Nat.le_refl _)) (heap_alloc_new w _) (by simp [hs]) hp (by simp) (by simp [maxLen]) (holds_one hr h1 hl) (World.grownBy_alloc w _ _)
 refine ⟨g', ?_, h5, h6, fun r hr => (h3 r).1 hr⟩
 refine .mptr b 0 0 _ ⟨_, rfl⟩ ((h3 b).2 (.inr rfl)) fun blk c sz he => ?_
 rw [h2] at he
 simp only [Option.some.injEq, Prod.mk.injEq] at he
 exact ⟨by rw [← he.2.1]; simp [maxLen], w.heap.size, he.1.symm, by simp⟩
theorem Zfv {w : World} {g : Mem} {row xs : List D} {cs us : List Value} (h : Reps w g row cs) (k : Reps w g xs us) (off : Nat) :
  Reps w g (splice row off xs) (cs.take off ++ us ++ cs.drop (off + us.length)) := by
 unfold splice
 rw [k.1]
 exact ((h.take off).append k).append (h.drop _)
theorem Zsf (row xs : List D) (off : Nat) (h : off + xs.length ≤ row.length) : (splice row off xs).length = row.length := by
 simp [splice]; omega
theorem Zav [Glob P] {h : H} {g : Mem} {w : World} (hm : HM P h g w) {t : TypeId} {a x : D} {va vx : Value} (ha : Rep w g a va) (hx : Rep w g x vx) (hc : (stH P t a x h).2) :
  ∃ g' w', (Instr.storeAt t va vx).run P w = .ok () w' ∧ HM P (stH P t a x h).1 g' w' ∧ Mono g g' w w' ∧ ∀ r, g'.U r → g.U r := by
 unfold stH at hc ⊢
 split at hc
 case h_2 => exact hc.elim
 rename_i r i off
 cases hr : h r with
 | none => rw [hr] at hc; exact hc.elim
 | some bl =>
  rw [hr] at hc
  simp only at hc ⊢
  obtain ⟨c1, c0, c2, c3, c4⟩ := hc
  obtain ⟨blk, c, h1, h2, h3, h4, h5⟩ := hm.blk r bl hr
  rcases h5 with ⟨_, rfl⟩ | ⟨b, cur, rfl, h6, h7, h8, h9⟩
  ·
   omega
  cases ha with | mptr _ _ _ _ hxx hU hv =>
  obtain ⟨hcm, b', he, rfl⟩ := hv _ _ _ h1
  cases he
  have h6 := h6.cells hcm
  have h7 := h7 hcm
  have h4 := hcm
  obtain ⟨q1, q2, q3⟩ := hx.cells c4
  have hrow : bl.rows[i]? = some (bl.rows.getD i []) := by simp [List.getD, List.getElem?_eq_getElem c2]
  generalize hR : bl.rows.getD i [] = row at *
  obtain ⟨m1, m2⟩ := h9 i _ hrow
  have q4 : vx.cells.toList.length = x.cells.length := by simp [q3]
  have hin : i * P.cellsOf bl.ty + P.cellsOf bl.ty ≤ cur.size := by
   have e1 : (i + 1) * P.cellsOf bl.ty ≤ c * P.cellsOf bl.ty := Nat.mul_le_mul_right _ (by omega)
   rw [Nat.add_mul, Nat.one_mul] at e1
   omega
  have hfit : i * P.cellsOf bl.ty + off + vx.cells.toList.length ≤ cur.size := by omega
  have hst := run_storeCells_at P b (i * P.cellsOf bl.ty + off) bl.ty vx.cells.toList 0 cur w h6 (by simpa using hfit) q2
  simp only [Nat.add_zero] at hst
  generalize hnew : (List.take (i * P.cellsOf bl.ty + off) cur.toList ++ vx.cells.toList ++ List.drop (i * P.cellsOf bl.ty + off + vx.cells.toList.length) cur.toList) = new at hst
  have hnl : new.length = cur.size := by rw [← hnew]; simp; omega
  have hget : ∀ k, new[k]? = if i * P.cellsOf bl.ty + off ≤ k ∧ k < i * P.cellsOf bl.ty + off + x.cells.length then vx.cells.toList[k - (i * P.cellsOf bl.ty + off)]? else cur[k]? := by
   intro k
   rw [← hnew]
   have l1 : (List.take (i * P.cellsOf bl.ty + off) cur.toList).length = i * P.cellsOf bl.ty + off := by simp; omega
   rw [List.append_assoc]
   by_cases hk : k < i * P.cellsOf bl.ty + off
   ·
    rw [List.getElem?_append_left (by omega), if_neg (by omega), List.getElem?_take, if_pos hk]; simp
   ·
    rw [List.getElem?_append_right (by omega), l1]
    by_cases hk2 : k < i * P.cellsOf bl.ty + off + x.cells.length
    ·
     rw [List.getElem?_append_left (by omega), if_pos (by omega)]
    ·
     rw [List.getElem?_append_right (by omega), if_neg (by omega), List.getElem?_drop]
     rw [q4, Array.getElem?_toList]
     congr 1; omega
  obtain ⟨g', g1, g2, g3, g4, g5⟩ := hm.put (h' := upd h r (some { bl with rows := bl.rows.set i (splice row off x.cells) })) (w' := w.setRow b new.toArray) r b c
   { bl with rows := bl.rows.set i (splice row off x.cells) } new.toArray (.inr h1) (upd_same _ _ _) (fun r' hr' => .inl (upd_ne _ _ _ _ hr')) (.inr ⟨r, c, _, h1, .inl rfl⟩)
   (setRow_heap w b cur _ bl.ty _ h6) (by simp [hnl, h7]) h2 (by simpa using h3) h4
   (by
    intro i' row' hi'
    simp only [List.getElem?_set] at hi'
    by_cases e : i = i'
    ·
     subst e
     rw [if_pos rfl, if_pos c2] at hi'
     cases hi'
     refine ⟨by rw [Zsf _ _ _ c3]; exact m1, fun j d hj => ?_⟩
     have hjl : j < row.length := by
      have := (List.getElem?_eq_some_iff.1 hj).1
      rwa [Zsf _ _ _ c3] at this
     unfold splice at hj
     rw [List.append_assoc] at hj
     have l1 : (List.take off row).length = off := by simp; omega
     simp only [List.getElem?_toArray]
     rw [hget]
     by_cases hk : j < off
     ·
      rw [List.getElem?_append_left (by omega), List.getElem?_take, if_pos hk] at hj
      rw [if_neg (by omega)]
      exact m2 j d hj
     ·
      rw [List.getElem?_append_right (by omega), l1] at hj
      by_cases hk2 : j < off + x.cells.length
      ·
       rw [List.getElem?_append_left (by omega)] at hj
       rw [if_pos (by omega)]
       have hjj : i * P.cellsOf bl.ty + j - (i * P.cellsOf bl.ty + off) = j - off := by omega
       rw [hjj]
       have hlt : j - off < vx.cells.toList.length := by omega
       exact ⟨vx.cells.toList[j - off], by simp, q2 _ (List.getElem_mem hlt), q1.2 (j - off) d _ hj (by simp)⟩
      ·
       rw [List.getElem?_append_right (by omega), List.getElem?_drop] at hj
       rw [if_neg (by omega)]
       have : off + x.cells.length + (j - off - x.cells.length) = j := by omega
       rw [this] at hj
       exact m2 j d hj
    ·
     rw [if_neg e] at hi'
     obtain ⟨k1, k2⟩ := h9 i' row' hi'
     refine ⟨k1, fun j d hj => ?_⟩
     have hjl : j < P.cellsOf bl.ty := by have := (List.getElem?_eq_some_iff.1 hj).1; omega
     simp only [List.getElem?_toArray]
     rw [hget, if_neg]
     ·
      exact k2 j d hj
     ·
      intro ⟨u1, u2⟩
      have v1 : i * P.cellsOf bl.ty < i' * P.cellsOf bl.ty + P.cellsOf bl.ty := by omega
      have v2 : i' * P.cellsOf bl.ty < i * P.cellsOf bl.ty + P.cellsOf bl.ty := by omega
      have e1 : i < i' + 1 := Nat.lt_of_mul_lt_mul_right (a := P.cellsOf bl.ty) (by rw [Nat.add_mul, Nat.one_mul]; exact v1)
      have e2 : i' < i + 1 := Nat.lt_of_mul_lt_mul_right (a := P.cellsOf bl.ty) (by rw [Nat.add_mul, Nat.one_mul]; exact v2)
      omega)
   ⟨rfl, rfl, rfl, by simp, fun k _ hk => setRow_other w b k _ (fun e => hk (by rw [e]))⟩
  refine ⟨g', _, ?_, g4, g5, fun r' hr' => ?_⟩
  ·
   simp [Instr.storeAt, Instr.sureAddr, storeVar, Zic c0, q3, c1, hst]
  ·
   rcases (g2 r').1 hr' with h | rfl
   ·
    exact h
   ·
    exact hU
end Go.DL
namespace Go.DL
open Go.RowKit
variable {P : Program}
def RowsIn (w : World) (g : Mem) (size : Nat) (rows : List (List D)) (cs : List Value) : Prop :=
 cs.length = rows.length * size ∧ ∀ (i : Nat) row, rows[i]? = some row → row.length = size ∧ ∀ (j : Nat) d, row[j]? = some d → ∃ u, cs[i * size + j]? = some u ∧ u.oneCell' = true ∧ Rep w g d u
theorem Zmp {i j n size : Nat} (hi : i < n) (hj : j < size) : i * size + j < n * size := by
 have e1 : (i + 1) * size ≤ n * size := Nat.mul_le_mul_right _ (by omega)
 rw [Nat.add_mul, Nat.one_mul] at e1
 omega
theorem RowsIn.nil {w : World} {g : Mem} {size : Nat} : RowsIn w g size [] [] := ⟨by simp, fun i row h => by simp at h⟩
theorem RowsIn.append {w : World} {g : Mem} {size : Nat} {r s : List (List D)} {a b : List Value} (h : RowsIn w g size r a) (k : RowsIn w g size s b) : RowsIn w g size (r ++ s) (a ++ b) := by
 refine ⟨by simp [h.1, k.1, Nat.add_mul], fun i row hi => ?_⟩
 by_cases hlt : i < r.length
 ·
  rw [List.getElem?_append_left hlt] at hi
  obtain ⟨h1, h2⟩ := h.2 i row hi
  refine ⟨h1, fun j d hj => ?_⟩
  have hjl : j < size := by have := (List.getElem?_eq_some_iff.1 hj).1; omega
  have := Zmp hlt hjl
  rw [List.getElem?_append_left (by rw [h.1]; exact this)]
  exact h2 j d hj
 ·
  rw [List.getElem?_append_right (by omega)] at hi
  obtain ⟨h1, h2⟩ := k.2 _ row hi
  refine ⟨h1, fun j d hj => ?_⟩
  have e : i * size = r.length * size + (i - r.length) * size := by rw [← Nat.add_mul]; congr 1; omega
  rw [List.getElem?_append_right (by rw [h.1]; omega), h.1]
  have e2 : i * size + j - r.length * size = (i - r.length) * size + j := by omega
  rw [e2]
  exact h2 j d hj
theorem RowsIn.one {w : World} {g : Mem} {size : Nat} {rows : List (List D)} {cs : List Value} (h : RowsIn w g size rows cs) : ∀ u ∈ cs, u.oneCell' = true := by
 intro u hu
 obtain ⟨k, hk, rfl⟩ := List.getElem_of_mem hu
 rcases Nat.eq_zero_or_pos size with h0 | h0
 ·
  rw [h.1, h0] at hk; omega
 ·
  have hi : k / size < rows.length := by rw [Nat.div_lt_iff_lt_mul h0, ← h.1]; exact hk
  obtain ⟨h1, h2⟩ := h.2 (k / size) rows[k / size] (by simp)
  have hj : k % size < rows[k / size].length := by rw [h1]; exact Nat.mod_lt _ h0
  obtain ⟨u, h3, h4, _⟩ := h2 (k % size) (rows[k / size][k % size]) (by simp)
  have e : k / size * size + k % size = k := by rw [Nat.mul_comm]; exact Nat.div_add_mod k size
  rw [e, List.getElem?_eq_getElem hk] at h3
  cases h3; exact h4
theorem RowsIn.mono {w w' : World} {g g' : Mem} {size : Nat} {rows : List (List D)} {cs : List Value} (h : RowsIn w g size rows cs) (hk : ∀ d u, Rep w g d u → Rep w' g' d u) : RowsIn w' g' size rows cs :=
 ⟨h.1, fun i row hi => ⟨(h.2 i row hi).1, fun j d hj => by obtain ⟨u, h1, h2, h3⟩ := (h.2 i row hi).2 j d hj; exact ⟨u, h1, h2, hk _ _ h3⟩⟩⟩
theorem RowsIn.holds [Glob P] {w : World} {g : Mem} {e : TypeId} {rows : List (List D)} {cs : List Value} {cur : Array Value} (h : RowsIn w g (P.cellsOf e) rows cs) (hc : cur.toList.take cs.length = cs) : Holds P w g ⟨e, rows⟩ cur := by
 intro i row hi
 obtain ⟨h1, h2⟩ := h.2 i row hi
 refine ⟨h1, fun j d hj => ?_⟩
 obtain ⟨u, h3, h4, h5⟩ := h2 j d hj
 refine ⟨u, ?_, h4, h5⟩
 rw [← hc, List.getElem?_take] at h3
 split at h3
 ·
  simpa using h3
 ·
  cases h3
theorem Holds.rowsIn [Glob P] {w : World} {g : Mem} {bl : Blk} {cur : Array Value} (h : Holds P w g bl cur) (off len : Nat) (hl : off + len ≤ bl.rows.length) (hc : bl.rows.length * P.cellsOf bl.ty ≤ cur.size) :
  RowsIn w g (P.cellsOf bl.ty) ((bl.rows.drop off).take len) ((cur.toList.drop (off * P.cellsOf bl.ty)).take (len * P.cellsOf bl.ty)) := by
 have e1 : (off + len) * P.cellsOf bl.ty ≤ bl.rows.length * P.cellsOf bl.ty := Nat.mul_le_mul_right _ hl
 rw [Nat.add_mul] at e1
 refine ⟨?_, fun i row hi => ?_⟩
 ·
  simp only [List.length_take, List.length_drop, Array.length_toList]
  rw [Nat.min_eq_left (by omega), Nat.min_eq_left (by omega)]
 ·
  rw [List.getElem?_take] at hi
  split at hi
  ·
   rename_i hil
   rw [List.getElem?_drop] at hi
   obtain ⟨h1, h2⟩ := h (off + i) row hi
   refine ⟨h1, fun j d hj => ?_⟩
   obtain ⟨u, h3, h4, h5⟩ := h2 j d hj
   have hjl : j < P.cellsOf bl.ty := by have := (List.getElem?_eq_some_iff.1 hj).1; omega
   refine ⟨u, ?_, h4, h5⟩
   rw [List.getElem?_take, if_pos (Zmp hil hjl), List.getElem?_drop, Array.getElem?_toList, ← h3]
   congr 1
   rw [Nat.add_mul]; omega
  ·
   cases hi
theorem Zqm [Glob P] {h : H} {g : Mem} {w : World} (hm : HM P h g w) {y : D} {vy : Value} (hy : Rep w g y vy) {size : Nat} (hp : 0 < size) (hl : (rowsOf y h).length = Zqf y) (hs : ∀ r ∈ rowsOf y h, r.length = size) {u : TypeId} (ho : Zhg P u h y = true) :
  ∃ cs, RowsIn w g size (rowsOf y h) cs ∧ (∀ w', (Builtin.lenOf vy).run P w' = .ok (Zqf y) w') ∧ (∀ w', w'.heap = w.heap → (Builtin.firstCells size (Zqf y) vy).run P w' = .ok cs.toArray w') ∧
   (∀ w', ∃ d, (underlying u).run P w' = .ok d w' ∧ (d = .string ∨ ∃ e', d = .slice e')) := by
 cases hy with
 | empty full a cap hf hmx =>
  obtain ⟨e, he⟩ := Option.isSome_iff_exists.1 (show (Zya P u).isSome = true from ho)
  have hu : P.underlying u = some (.slice e) := by unfold Zya at he; split at he <;> simp_all
  refine ⟨[], .nil, fun w' => by simp [Builtin.lenOf, Zqf], fun w' _ => ?_, fun w' => ⟨_, run_underlying hu w', by simp⟩⟩
  cases a <;> simp [Builtin.firstCells, Zqf, loadCells, loadCellsFrom]
 | list full rows ad cap sz cv hI hlc hf hmx hsz hc hr =>
  obtain ⟨e, he⟩ := Option.isSome_iff_exists.1 (show (Zya P u).isSome = true from ho)
  have hu : P.underlying u = some (.slice e) := by unfold Zya at he; split at he <;> simp_all
  simp only [rowsOf] at hs hl ⊢
  by_cases hz : rows = []
  ·
   subst hz
   refine ⟨[], .nil, fun w' => by simp [Builtin.lenOf, Zqf], fun w' _ => ?_, fun w' => ⟨_, run_underlying hu w', by simp⟩⟩
   simp [Builtin.firstCells, Zqf, loadCells, loadCellsFrom]
  have hse : sz = size := by
   cases rows with
   | nil => exact absurd rfl hz
   | cons a l => rw [← hsz a (by simp), hs a (by simp)]
  subst hse
  refine ⟨(List.range (rows.length * sz)).map fun k => cv (k / sz) (k % sz), ⟨by simp, fun i row hi => ⟨hs row (List.mem_of_getElem? hi), fun j d hj => ?_⟩⟩, fun w' => by simp [Builtin.lenOf, Zqf], fun w' hw => ?_, fun w' => ⟨_, run_underlying hu w', by simp⟩⟩
  ·
   have hil : i < rows.length := (List.getElem?_eq_some_iff.1 hi).1
   have hjl : j < sz := by have := (List.getElem?_eq_some_iff.1 hj).1; have := hs row (List.mem_of_getElem? hi); omega
   refine ⟨cv i j, ?_, (hc i j row d hi hj).2, hr i j row d hi hj⟩
   rw [List.getElem?_map, List.getElem?_range (Zmp hil hjl)]
   have e1 : (i * sz + j) / sz = i := by rw [Nat.mul_comm, Nat.mul_add_div hp, Nat.div_eq_of_lt hjl]; rfl
   have e2 : (i * sz + j) % sz = j := by rw [Nat.mul_comm, Nat.mul_add_mod, Nat.mod_eq_of_lt hjl]
   simp [e1, e2]
  ·
   have := run_loadCells (P := P) w' ad (rows.length * sz) (fun k => cv (k / sz) (k % sz)) (fun k hk => by
    have hil : k / sz < rows.length := by rw [Nat.div_lt_iff_lt_mul hp]; exact hk
    have hjl : k % sz < (rows[k / sz]).length := by rw [hs _ (by simp)]; exact Nat.mod_lt _ hp
    have h1 := (hc (k / sz) (k % sz) rows[k / sz] (rows[k / sz][k % sz]) (by simp) (by simp)).1
    have e : k / sz * sz + k % sz = k := by rw [Nat.mul_comm]; exact Nat.div_add_mod k sz
    rw [e] at h1
    rw [← h1]
    exact World.cell?_of_block (by rw [hw]))
   simpa [Builtin.firstCells, Zqf] using this
 | mrow r off len x hx hU hv =>
  simp only [Zhg, Bool.and_eq_true] at ho
  obtain ⟨e, he⟩ := Option.isSome_iff_exists.1 ho.1
  have hu : P.underlying u = some (.slice e) := by unfold Zya at he; split at he <;> simp_all
  simp only [rowsOf, Zqf] at hs hl ⊢
  cases hr : h r with
  | none =>
   rw [hr] at ho; simp at ho
  | some bl =>
   rw [hr] at hl hs
   simp only at hl hs ⊢
   obtain ⟨blk, c, h1, h2, h3, h4, h5⟩ := hm.blk r bl hr
   obtain ⟨h6, h7⟩ := hv _ _ _ h1
   rcases h7 with ⟨rfl, a, rfl⟩ | ⟨hne, b, rfl, rfl⟩
   ·
    have : len = 0 := by omega
    subst this
    refine ⟨[], by simpa using RowsIn.nil, fun w' => by simp [Builtin.lenOf], fun w' _ => ?_, fun w' => ⟨_, run_underlying hu w', by simp⟩⟩
    cases a <;> simp [Builtin.firstCells, loadCells, loadCellsFrom]
   ·
    rcases h5 with ⟨h5, _⟩ | ⟨b', cur, h5, k1, k2, k3, k4⟩
    ·
     cases h5
    cases h5
    have k1 := k1.cells h6.2
    have k2 := k2 h6.2
    have hle : off + len ≤ bl.rows.length ∨ len = 0 := by
     simp only [List.length_take, List.length_drop] at hl; omega
    rcases hle with hle | hle
    ·
     have hR := k4.rowsIn off len hle (by rw [k2]; exact Nat.mul_le_mul_right _ h3)
     by_cases hz : len = 0
     ·
      subst hz
      refine ⟨[], by simpa using RowsIn.nil, fun w' => by simp [Builtin.lenOf], fun w' _ => by simp [Builtin.firstCells, loadCells, loadCellsFrom], fun w' => ⟨_, run_underlying hu w', by simp⟩⟩
     have hse : P.cellsOf bl.ty = size := by
      have hlt : 0 < ((bl.rows.drop off).take len).length := by omega
      have m1 := hs _ (List.getElem_mem hlt)
      have m2 := (hR.2 0 _ (List.getElem?_eq_getElem hlt)).1
      omega
     rw [hse] at hR k2
     refine ⟨_, hR, fun w' => by simp [Builtin.lenOf], fun w' hw => ?_, fun w' => ⟨_, run_underlying hu w', by simp⟩⟩
     rw [hse]
     have hlen := hR.1
     rw [hl] at hlen
     refine run_firstCells_some (P := P) w' size len _ len _ _ hlen fun j v hj => ?_
     rw [Zgg, cell_of_row w' b _ cur bl.ty (0, 0) (by rw [hw]; exact k1)]
     rw [List.getElem?_take] at hj
     split at hj
     ·
      rw [List.getElem?_drop] at hj; simpa using hj
     ·
      cases hj
    ·
     subst hle
     refine ⟨[], by simpa using RowsIn.nil, fun w' => by simp [Builtin.lenOf], fun w' _ => by simp [Builtin.firstCells, loadCells, loadCellsFrom], fun w' => ⟨_, run_underlying hu w', by simp⟩⟩
 | v =>
  cases vy <;> simp only [Zhg] at ho <;> try (cases ho; done)
  rename_i s
  have hu : P.underlying u = some .string := by split at ho <;> simp_all
  simp only [rowsOf, Zqf] at hs hl ⊢
  by_cases hz : s.size = 0
  ·
   have e : s.data.toList = [] := List.eq_nil_of_length_eq_zero (by simpa using hz)
   refine ⟨[], by rw [e]; exact RowsIn.nil, fun w' => by simp [Builtin.lenOf], fun w' _ => ?_, fun w' => ⟨_, run_underlying hu w', by simp⟩⟩
   simp [Builtin.firstCells, hz]
  ·
   have hse : size = 1 := by
    have hlt : 0 < s.data.toList.length := by simp; exact Nat.pos_of_ne_zero hz
    rw [← hs [.v (.int .u8 (s.data.toList[0].toNat))] (by simp only [List.mem_map]; exact ⟨_, List.getElem_mem hlt, rfl⟩)]; rfl
   subst hse
   refine ⟨s.data.toList.map fun b => .int .u8 b.toNat, ⟨by simp, fun i row hi => ?_⟩, fun w' => by simp [Builtin.lenOf], fun w' _ => ?_, fun w' => ⟨_, run_underlying hu w', by simp⟩⟩
   ·
    rw [List.getElem?_map] at hi
    cases hb : s.data.toList[i]? with
    | none => rw [hb] at hi; cases hi
    | some b =>
     rw [hb] at hi; simp at hi; subst hi
     refine ⟨rfl, fun j d hj => ?_⟩
     cases j with
     | succ j => simp at hj
     | zero => simp at hj; subst hj; exact ⟨.int .u8 b.toNat, by rw [List.getElem?_map]; simp [hb], rfl, .v _⟩
   ·
    simp [Builtin.firstCells]
    apply Array.ext'
    simp
 | _ => simp [Zhg] at ho
section
variable {t u e : TypeId} {i : TypeInfo} {x : Value} {n : Nat} {w : World}
theorem Zcx [Glob P] (ht : P.underlying t = some (.slice e)) (hi : P.info? e = some i) (hu : ∃ d, (underlying u).run P w = .ok d w ∧ (d = .string ∨ ∃ e', d = .slice e')) (ty : TypeId) (b o sLen sCap : Nat)
  (hl : (Builtin.lenOf x).run P w = .ok n w) (hroom : sLen + n ≤ sCap) {news : List Value} (hn : (Builtin.firstCells i.size n x).run P w = .ok news.toArray w) (h1 : ∀ v ∈ news, v.oneCell' = true)
  {cur : Array Value} (hg : w.heap[b]? = some (.cells cur e (0, 0))) (hfit : o + sLen * i.size + news.length ≤ cur.size) :
  (Builtin.append_ #[t, u] ty #[.slice (some ⟨b, o, none⟩) sLen sCap, x]).run P w = .ok (.slice (some ⟨b, o, none⟩) (sLen + n) sCap)
   (w.setRow b (cur.toList.take (o + sLen * i.size) ++ news ++ cur.toList.drop (o + sLen * i.size + news.length)).toArray) := by
 obtain ⟨d, hu, hd⟩ := hu
 have hst := run_storeCells_at P b (o + sLen * i.size) e news 0 cur w hg (by simpa using hfit) h1
 simp only [Nat.add_zero] at hst
 rcases hd with rfl | ⟨e', rfl⟩ <;> simp [Builtin.append_, run_underlying ht, hu, sizeOf, typeInfo, hi, hl, hroom, hn, Zgg, hst]
theorem Zsh [Glob P] (ht : P.underlying t = some (.slice e)) (hi : P.info? e = some i) (hu : ∃ d, (underlying u).run P w = .ok d w ∧ (d = .string ∨ ∃ e', d = .slice e')) (ty : TypeId) (a : Option Addr) (sLen sCap : Nat) (hle : sLen ≤ sCap)
  (hl : (Builtin.lenOf x).run P w = .ok 0 w) (hn : (Builtin.firstCells i.size 0 x).run P w = .ok #[] w) :
  (Builtin.append_ #[t, u] ty #[.slice a sLen sCap, x]).run P w = .ok (.slice a sLen sCap) w := by
 obtain ⟨d, hu, hd⟩ := hu
 rcases hd with rfl | ⟨e', rfl⟩ <;> cases a <;> simp [Builtin.append_, run_underlying ht, hu, sizeOf, typeInfo, hi, hl, hle, hn, storeCells]
theorem Zbo [Glob P] (ht : P.underlying t = some (.slice e)) (hi : P.info? e = some i) {z : Value} (hz : i.zero = some z) (hu : ∃ d, (underlying u).run P w = .ok d w ∧ (d = .string ∨ ∃ e', d = .slice e')) (ty : TypeId) (a : Option Addr) (sLen sCap : Nat)
  (hl : (Builtin.lenOf x).run P w = .ok n w) (hgr : sCap < sLen + n) {olds news : List Value} (ho : (Builtin.firstCells i.size sLen (.slice a sLen sCap)).run P w.drew = .ok olds.toArray w.drew)
  (hn : (Builtin.firstCells i.size n x).run P w.drew = .ok news.toArray w.drew) (h63 : sLen + n ≤ 9223372036854775807) (hby : (sLen + n) * i.bytes ≤ 140737488355328) :
  (Builtin.append_ #[t, u] ty #[.slice a sLen sCap, x]).run P w = .ok (.slice (some ⟨w.heap.size, 0, none⟩) (sLen + n) (grownCap w (sLen + n) sCap e))
   (w.drew.alloc (.cells ((olds ++ news).toArray ++ Builtin.zeroCells z.cells (grownCap w (sLen + n) sCap e - (sLen + n))) e)) := by
 obtain ⟨d, hu', hd⟩ := hu
 have h1 : ¬ (sLen + n ≤ sCap) := by omega
 have h63' : ¬ (9223372036854775807 < (sLen : Int) + (n : Int)) := by omega
 have h48 : ¬ (281474976710656 < Builtin.nextslicecap (sLen + n) sCap * i.bytes) := by have := growslice_fits (bytes := i.bytes) hgr hby; omega
 have e0 : ∀ Z : Array Value, (olds ++ news).toArray ++ Z = olds.toArray ++ (news.toArray ++ Z) := fun Z => by apply Array.ext'; simp
 rw [e0]
 rcases hd with rfl | ⟨e', rfl⟩ <;> simp [Builtin.append_, run_underlying ht, hu', sizeOf, typeInfo, zeroValue, hi, hz, hl, h1, h63', h48, Question.forced, ho, hn, newRow, grownCap]
end
theorem Zdc [Glob P] {t e : TypeId} (h : Zya P t = some e) : P.underlying t = some (.slice e) := by unfold Zya at h; split at h <;> simp_all
theorem Zcu [Glob P] {h h' : H} {g : Mem} {w : World} (hm : HM P h g w) {b : Nat} (hb : ¬ g.U b) {e : TypeId} {rows : List (List D)} {cs : List Value} (hr : RowsIn w g (P.cellsOf e) rows cs) (hp : 0 < P.cellsOf e) {z : Value} (hz : z.cells.size = P.cellsOf e)
  (hb' : h' b = some ⟨e, rows⟩) (hrr : ∀ r, r ≠ b → h' r = h r ∨ h' r = none) (c : Nat) (hc : rows.length ≤ c) (hc0 : 0 < c) (hmx : c ≤ maxLen) :
  ∃ g', Rep (w.drew.alloc (.cells (cs.toArray ++ Builtin.zeroCells z.cells (c - rows.length)) e)) g' (.mrow b 0 rows.length) (.slice (some ⟨w.heap.size, 0, none⟩) rows.length c) ∧
   HM P h' g' (w.drew.alloc (.cells (cs.toArray ++ Builtin.zeroCells z.cells (c - rows.length)) e)) ∧ Mono g g' w (w.drew.alloc (.cells (cs.toArray ++ Builtin.zeroCells z.cells (c - rows.length)) e)) ∧ ∀ r, g'.U r → g.U r ∨ r = b := by
 obtain ⟨g', h2, h3, h4, h5, h6⟩ := hm.put (h' := h') (w' := w.drew.alloc (.cells (cs.toArray ++ Builtin.zeroCells z.cells (c - rows.length)) e)) b w.heap.size c ⟨e, rows⟩ (cs.toArray ++ Builtin.zeroCells z.cells (c - rows.length)) (.inl hb) hb' hrr (.inl (Nat.le_refl _))
  (heap_alloc_new w.drew _) (by simp only [Array.size_append, List.size_toArray, size_zeroCells, hz, hr.1, ← Nat.add_mul]; congr 1; omega) hp hc hmx
  (hr.holds (by simp)) ⟨rfl, rfl, rfl, by simp, fun k hk _ => Below.heap_alloc w.drew _ k hk⟩
 refine ⟨g', .mrow b 0 rows.length _ ⟨_, _, rfl, hc, fun _ => ⟨_, rfl⟩⟩ ((h3 b).2 (.inr rfl)) fun blk c' sz he => ?_, h5, h6, fun r hr => (h3 r).1 hr⟩
 rw [h2] at he
 simp only [Option.some.injEq, Prod.mk.injEq] at he
 obtain ⟨rfl, rfl, rfl⟩ := he
 exact ⟨by omega, .inr ⟨by omega, w.heap.size, rfl, by simp⟩⟩
theorem Zpx {w : World} {g : Mem} {b sz : Nat} (hM : g.M b = some (none, 0, sz)) (hU : g.U b) (a : Option Addr) : Rep w g (.mrow b 0 0) (.slice a 0 0) :=
 .mrow b 0 0 _ ⟨_, _, rfl, Nat.le_refl _, fun h => absurd h (by omega)⟩ hU fun blk c s he => by
  rw [hM] at he
  simp only [Option.some.injEq, Prod.mk.injEq] at he
  obtain ⟨rfl, rfl, rfl⟩ := he
  exact ⟨⟨Nat.le_refl _, Nat.zero_le _⟩, .inl ⟨rfl, a, rfl⟩⟩
theorem Zwu [Glob P] {h : H} {g : Mem} {w : World} (hm : HM P h g w) {t u : TypeId} {x y : D} {vx vy : Value} {b : Nat} (hb : ¬ g.U b) (hx : Rep w g x vx) (hy : Rep w g y vy) (hc : (Zib P t u x y h b).2.2) (ty : TypeId) :
  ∃ v g' w', (Builtin.append_ #[t, u] ty #[vx, vy]).run P w = .ok v w' ∧ Rep w' g' (Zib P t u x y h b).1 v ∧ HM P (Zib P t u x y h b).2.1 g' w' ∧ Mono g g' w w' ∧ ∀ r, g'.U r → g.U r ∨ r = b := by
 unfold Zib at hc ⊢
 cases he : Zya P t with
 | none => rw [he] at hc; exact hc.elim
 | some e =>
  rw [he] at hc
  simp only at hc ⊢
  have ht := Zdc he
  have common : (0 < P.cellsOf e ∧ (Zqf x + (rowsOf y h).length) * P.bytesOf e ≤ 140737488355328 ∧ Zqf x + (rowsOf y h).length ≤ 9223372036854775807) →
    ((rowsOf y h).length = Zqf y ∧ Zhg P u h y = true ∧ Zka P e = true ∧ ∀ r ∈ rowsOf y h, r.length = P.cellsOf e) →
    ∃ i z news, P.info? e = some i ∧ i.size = P.cellsOf e ∧ i.bytes = P.bytesOf e ∧ i.zero = some z ∧ z.cells.size = P.cellsOf e ∧ RowsIn w g (P.cellsOf e) (rowsOf y h) news ∧ (Builtin.lenOf vy).run P w = .ok (rowsOf y h).length w ∧
     (∀ w', w'.heap = w.heap → (Builtin.firstCells i.size (rowsOf y h).length vy).run P w' = .ok news.toArray w') ∧ (∃ d, (underlying u).run P w = .ok d w ∧ (d = .string ∨ ∃ e', d = .slice e')) := by
   rintro ⟨a1, a2, a3⟩ ⟨b1, b2, b3, b4⟩
   obtain ⟨i, hi, hs⟩ := Zhd a1
   unfold Zka at b3
   cases hz : i.zero with
   | none => simp [hi, hz] at b3
   | some z =>
    simp only [hi, hz, Option.bind_some, beq_iff_eq] at b3
    obtain ⟨news, r1, r2, r3, r4⟩ := Zqm hm hy a1 b1 b4 b2
    exact ⟨i, z, news, hi, hs, by simp [Program.bytesOf, hi], hz, b3, r1, by rw [b1]; exact r2 w, by rw [b1, hs]; exact r3, r4 w⟩
  split at hc
  case h_3 => exact hc.elim
  case h_1 rows =>
   obtain ⟨hsz, hsrc, hne, hrl⟩ := hc
   simp only [Zqf] at hsz common
   obtain ⟨i, z, news, hi, hs, hby, hz, hzs, hR, hlen, hfc, hu⟩ := common hsz hsrc
   by_cases hn : rowsOf y h = []
   ·
    have hr0 := hne hn
    subst hr0
    rw [hn] at hlen hfc hR ⊢
    have : news = [] := List.eq_nil_of_length_eq_zero (by simpa using hR.1)
    subst this
    obtain ⟨g', g1, g2, g3, g4, g5⟩ := hm.putNone (h' := upd h b (some ⟨e, []⟩)) b ⟨e, []⟩ hb (upd_same _ _ _) (fun r hr => .inl (upd_ne _ _ _ _ hr)) hsz.1 rfl
    have hv : ∃ a, vx = .slice a 0 0 := by
     cases hx with
     | empty full a cap hf hmx => rw [hf rfl]; exact ⟨a, rfl⟩
     | list full rows ad cap size cv hI hl hf hmx hs' hc' hr' => rw [hf rfl]; exact ⟨_, rfl⟩
    obtain ⟨a, rfl⟩ := hv
    exact ⟨.slice a 0 0, g', w, Zsh ht hi hu ty a 0 0 (Nat.le_refl _) hlen (hfc w rfl), Zpx g1 ((g2 b).2 (.inr rfl)) a, g4, g5, fun r hr => (g2 r).1 hr⟩
   ·
    have hpos : 0 < (rowsOf y h).length := List.length_pos_iff.2 hn
    obtain ⟨olds, o1, o2, o3, _⟩ := Zqm hm hx (u := t) hsz.1 (by simp [rowsOf, Zqf]) hrl (by simp [Zhg, he])
    simp only [rowsOf, Zqf] at o1 o2 o3
    have hv : ∃ a, vx = .slice a rows.length rows.length := by
     cases hx with
     | empty full a cap hf hmx => rw [hf rfl]; exact ⟨a, rfl⟩
     | list full rows ad cap size cv hI hl hf hmx hs' hc' hr' => rw [hf rfl]; exact ⟨_, rfl⟩
    obtain ⟨a, rfl⟩ := hv
    have hap := Zbo (P := P) ht hi hz hu ty a rows.length rows.length hlen (by omega) (by rw [hs]; exact o3 w.drew rfl) (hfc w.drew rfl) hsz.2.2 (by rw [hby]; exact hsz.2.1)
    have hge := grownCap_ge w (rows.length + (rowsOf y h).length) rows.length e
    obtain ⟨g', k1, k2, k3, k4⟩ := Zcu (h' := upd h b (some ⟨e, rows ++ rowsOf y h⟩)) hm hb (o1.append hR) hsz.1 hzs (upd_same _ _ _) (fun r hr => .inl (upd_ne _ _ _ _ hr)) (grownCap w (rows.length + (rowsOf y h).length) rows.length e) (by simpa using hge) (by omega)
     (grownCap_le_maxLen _ _ _ _ (by simp only [maxLen]; exact hsz.2.2))
    simp only [List.length_append] at k1 k2 k3
    exact ⟨_, g', _, hap, k1, k2, k3, k4⟩
  case h_2 r n =>
   cases hr : h r with
   | none => rw [hr] at hc; exact hc.elim
   | some bl =>
    rw [hr] at hc
    simp only at hc ⊢
    obtain ⟨hsz, hsrc, rfl, rfl, hrb⟩ := hc
    simp only [Zqf] at hsz common
    obtain ⟨i, z, news, hi, hs, hby, hz, hzs, hR, hlen, hfc, hu⟩ := common hsz hsrc
    have hh' : ∀ r', r' ≠ b → upd (upd h r none) b (some ⟨bl.ty, bl.rows ++ rowsOf y h⟩) r' = h r' ∨ upd (upd h r none) b (some ⟨bl.ty, bl.rows ++ rowsOf y h⟩) r' = none := by
     intro r' hr'
     rw [upd_ne _ _ _ _ hr']
     by_cases e1 : r' = r
     ·
      subst e1; exact .inr (upd_same _ _ _)
     ·
      exact .inl (upd_ne _ _ _ _ e1)
    obtain ⟨blk, c, q1, q2, q3, q4, q5⟩ := hm.blk r bl hr
    cases hx with | mrow _ _ _ _ hxx hU hv =>
    obtain ⟨q6, q7⟩ := hv _ _ _ q1
    have grow : ∀ a cap, vx = .slice a bl.rows.length cap → cap < bl.rows.length + (rowsOf y h).length → ∃ v g' w', (Builtin.append_ #[t, u] ty #[vx, vy]).run P w = .ok v w' ∧ Rep w' g' (.mrow b 0 (bl.rows.length + (rowsOf y h).length)) v ∧
      HM P (upd (upd h r none) b (some ⟨bl.ty, bl.rows ++ rowsOf y h⟩)) g' w' ∧ Mono g g' w w' ∧ ∀ r, g'.U r → g.U r ∨ r = b := by
     rintro a cap rfl hcap
     have hrx : rowsOf (.mrow r 0 bl.rows.length) h = bl.rows := by simp [rowsOf, hr]
     obtain ⟨olds, o1, o2, o3, _⟩ := Zqm hm (.mrow r 0 bl.rows.length _ hxx hU hv) (u := t) hsz.1 (by simp [hrx, Zqf]) (by
      rw [hrx]
      intro row hrow
      obtain ⟨k, hk, rfl⟩ := List.getElem_of_mem hrow
      rcases q5 with ⟨_, rfl⟩ | ⟨b', cur, _, _, _, _, k9⟩
      ·
       omega
      ·
       exact (k9 k _ (List.getElem?_eq_getElem hk)).1) (by simp [Zhg, he, hr])
     rw [hrx] at o1
     simp only [Zqf] at o2 o3
     have hap := Zbo (P := P) ht hi hz hu ty a bl.rows.length cap hlen hcap (by rw [hs]; exact o3 w.drew rfl) (hfc w.drew rfl) hsz.2.2 (by rw [hby]; exact hsz.2.1)
     have hge := grownCap_ge w (bl.rows.length + (rowsOf y h).length) cap bl.ty
     obtain ⟨g', k1, k2, k3, k4⟩ := Zcu (h' := upd (upd h r none) b (some ⟨bl.ty, bl.rows ++ rowsOf y h⟩)) hm hb (o1.append hR) hsz.1 hzs (upd_same _ _ _) hh' (grownCap w (bl.rows.length + (rowsOf y h).length) cap bl.ty) (by simpa using hge) (by omega)
      (grownCap_le_maxLen _ _ _ _ (by simp only [maxLen]; exact hsz.2.2))
     simp only [List.length_append] at k1 k2 k3
     exact ⟨_, g', _, hap, k1, k2, k3, k4⟩
    rcases q7 with ⟨hc0, a, rfl⟩ | ⟨hc0, b0, rfl, rfl⟩
    ·
     have hl0 : bl.rows.length = 0 := by omega
     by_cases hn : rowsOf y h = []
     ·
      rw [hn] at hlen hfc hR ⊢
      have : news = [] := List.eq_nil_of_length_eq_zero (by simpa using hR.1)
      subst this
      rw [List.eq_nil_of_length_eq_zero hl0]
      obtain ⟨g', g1, g2, g3, g4, g5⟩ := hm.putNone (h' := upd (upd h r none) b (some ⟨bl.ty, [] ++ []⟩)) b ⟨bl.ty, []⟩ hb (upd_same _ _ _) (by rw [hn, List.eq_nil_of_length_eq_zero hl0] at hh'; exact hh') hsz.1 rfl
      exact ⟨.slice a 0 0, g', w, Zsh ht hi hu ty a 0 0 (Nat.le_refl _) hlen (hfc w rfl), Zpx g1 ((g2 b).2 (.inr rfl)) a, g4, g5, fun r hr => (g2 r).1 hr⟩
     ·
      have hpos : 0 < (rowsOf y h).length := List.length_pos_iff.2 hn
      exact grow a 0 (by rw [hl0]) (by omega)
    ·
     rcases q5 with ⟨q5, _⟩ | ⟨b', cur, q5, k1, k2, k3, k4⟩
     ·
      cases q5
     cases q5
     have k1 := k1.cells q6.2
     have k2 := k2 q6.2
     have q4 := q6.2
     simp only [Nat.zero_mul, Nat.sub_zero] at *
     by_cases hroom : bl.rows.length + (rowsOf y h).length ≤ c
     ·
      have hnl : news.length = (rowsOf y h).length * P.cellsOf bl.ty := hR.1
      have hfit : bl.rows.length * P.cellsOf bl.ty + news.length ≤ cur.size := by
       rw [hnl, k2, ← Nat.add_mul]; exact Nat.mul_le_mul_right _ hroom
      have hap := Zcx (P := P) ht hi hu ty b0 0 bl.rows.length c hlen hroom (hfc w rfl) hR.one k1 (by rw [hs]; simpa using hfit)
      rw [hs] at hap
      simp only [Nat.zero_add] at hap
      have hO := k4.rowsIn 0 bl.rows.length (by omega) (by rw [k2]; exact Nat.mul_le_mul_right _ q3)
      simp only [List.drop_zero, List.take_length, Nat.zero_mul] at hO
      have hA := hO.append hR
      generalize hnew : (List.take (bl.rows.length * P.cellsOf bl.ty) cur.toList ++ news ++ List.drop (bl.rows.length * P.cellsOf bl.ty + news.length) cur.toList) = new at hap
      have hsize : new.length = cur.size := by rw [← hnew]; simp; omega
      obtain ⟨g', g1, g2, g3, g4, g5⟩ := hm.put (h' := upd (upd h r none) b (some ⟨bl.ty, bl.rows ++ rowsOf y h⟩)) (w' := w.setRow b0 new.toArray) b b0 c ⟨bl.ty, bl.rows ++ rowsOf y h⟩ new.toArray (.inl hb) (upd_same _ _ _) hh'
       (.inr ⟨r, c, _, q1, .inr (by rw [upd_ne _ _ _ _ hrb]; exact upd_same _ _ _)⟩) (setRow_heap w b0 cur _ bl.ty _ k1) (by simp [hsize, k2]) hsz.1 (by simpa using hroom) q4
       (hA.holds (by rw [← hnew]; simp only [List.append_assoc]; rw [← List.append_assoc]; exact List.take_left))
       ⟨rfl, rfl, rfl, by simp, fun k _ hk => setRow_other w b0 k _ (fun e => hk (by rw [e]))⟩
      refine ⟨_, g', _, hap, .mrow b 0 _ _ ⟨_, _, rfl, hroom, fun _ => ⟨_, rfl⟩⟩ ((g2 b).2 (.inr rfl)) fun blk c' sz he => ?_, g4, g5, fun r hr => (g2 r).1 hr⟩
      rw [g1] at he
      simp only [Option.some.injEq, Prod.mk.injEq] at he
      obtain ⟨rfl, rfl, rfl⟩ := he
      exact ⟨by omega, .inr ⟨hc0, b0, rfl, by simp⟩⟩
     ·
      exact grow _ c rfl (by omega)
end Go.DL
namespace Go.DL
open Go.RowKit
variable {P : Program}
theorem Rep.agg_inv {w : World} {g : Mem} {ds : List D} {v : Value} (h : Rep w g (.agg ds) v) : ∃ vs, v = .agg vs ∧ Reps w g ds vs.toList := by
 cases h with | agg _ vs hn hv => exact ⟨vs, rfl, by simpa using hn, fun i d x h1 h2 => hv i d x h1 (by simpa using h2)⟩
theorem Rep.tuple_inv {w : World} {g : Mem} {ds : List D} {v : Value} (h : Rep w g (.tuple ds) v) : ∃ vs, v = .tuple vs ∧ Reps w g ds vs.toList := by
 cases h with | tuple _ vs hn hv => exact ⟨vs, rfl, by simpa using hn, fun i d x h1 h2 => hv i d x h1 (by simpa using h2)⟩
theorem Rep.mk_agg {w : World} {g : Mem} {ds : List D} {vs : Array Value} (h : Reps w g ds vs.toList) : Rep w g (.agg ds) (.agg vs) :=
 .agg ds vs (by simpa using h.1) fun i d x h1 h2 => h.2 i d x h1 (by simpa using h2)
theorem Rep.mk_tuple {w : World} {g : Mem} {ds : List D} {vs : Array Value} (h : Reps w g ds vs.toList) : Rep w g (.tuple ds) (.tuple vs) :=
 .tuple ds vs (by simpa using h.1) fun i d x h1 h2 => h.2 i d x h1 (by simpa using h2)
theorem Zdk {w : World} {g : Mem} {a : D} {va : Value} (ha : Rep w g a va) (hp : Zeo a = true) (n : Nat) : ∃ p, va = .pointer (some p) ∧ Rep w g (Zal n a) (.pointer (some (p.add n))) := by
 cases ha with
 | eptr cs p cv hI hc hr =>
  refine ⟨p, rfl, .eptr _ _ (fun j => cv (n + j)) (by rw [block_add]; exact hI) (fun j d hj => ?_) (fun j d hj => ?_)⟩
  ·
   rw [List.getElem?_drop] at hj
   rw [add_add']; exact hc _ d hj
  ·
   rw [List.getElem?_drop] at hj
   exact hr _ d hj
 | mptr r i off x hx hU hv =>
  obtain ⟨p, rfl⟩ := hx
  refine ⟨p, rfl, .mptr r i (off + n) _ ⟨_, rfl⟩ hU fun blk c sz he => ?_⟩
  obtain ⟨h0, b, h1, h2⟩ := hv blk c sz he
  refine ⟨h0, b, h1, ?_⟩
  simp only [Value.pointer.injEq, Option.some.injEq] at h2
  rw [h2, Zgg, Nat.add_assoc]
 | v =>
  unfold Zeo at hp
  split at hp
  ·
   rename_i e; cases e
  ·
   rename_i e; cases e
  ·
   rename_i p e; cases e; exact ⟨_, rfl, .v _⟩
  ·
   cases hp
 | _ => simp [Zeo] at hp
theorem Zzv {a : D} (h : isGp a = true) : Zeo a = true := by
 unfold isGp at h
 split at h
 ·
  rfl
 ·
  rfl
 ·
  rfl
 ·
  cases h
theorem Zho [Glob P] {w : World} {g : Mem} {s : TypeId} {f : Nat} {a : D} {va : Value} (ha : Rep w g a va) (hc : (Zyf P s f a).2) : ∃ v, (Instr.fieldAt s va f).run P w = .ok v w ∧ Rep w g (Zyf P s f a).1 v := by
 unfold Zyf at hc ⊢
 cases hf : fld P s f with
 | none => rw [hf] at hc; exact hc.elim
 | some ot =>
  obtain ⟨off, t⟩ := ot
  rw [hf] at hc
  obtain ⟨h1, h2⟩ := hc
  obtain ⟨p, rfl, h3⟩ := Zdk ha h1 off
  refine ⟨_, ?_, h3⟩
  unfold fld at hf
  split at hf
  case h_2 => cases hf
  rename_i fs hfs
  cases hff : fs[f]? with
  | none => rw [hff] at hf; cases hf
  | some fd =>
   rw [hff] at hf
   simp only [Option.map_some, Option.some.injEq, Prod.mk.injEq] at hf
   obtain ⟨rfl, rfl⟩ := hf
   have h4 := Zic (P := P) (t := fd.type) (by omega) w
   simp [Instr.fieldAt, run_underlying hfs, hff, Instr.sureAddr, fieldPlace, h4, h2]
theorem Zgu [Glob P] {w : World} {g : Mem} {s : TypeId} {f : Nat} {a : D} {va : Value} (ha : Rep w g a va) (hc : (Zpn P s f a).2) : ∃ v, (Instr.field s va f).run P w = .ok v w ∧ Rep w g (Zpn P s f a).1 v := by
 unfold Zpn at hc ⊢
 split at hc
 case h_2 => exact hc.elim
 rename_i off t cs hf
 obtain ⟨h1, h2, h3⟩ := hc
 obtain ⟨vs, rfl, hv⟩ := ha.agg_inv
 obtain ⟨v, h4, h5⟩ := Zh0 (P := P) hv h1 h2 h3
 refine ⟨v, ?_, h5⟩
 unfold fld at hf
 split at hf
 case h_2 => cases hf
 rename_i fs hfs
 cases hff : fs[f]? with
 | none => rw [hff] at hf; cases hf
 | some fd =>
  rw [hff] at hf
  simp only [Option.map_some, Option.some.injEq, Prod.mk.injEq] at hf
  obtain ⟨rfl, rfl⟩ := hf
  simp [Instr.field, run_underlying hfs, hff, asAgg, h4]
theorem Zau [Glob P] {h : H} {g : Mem} {w : World} (hm : HM P h g w) {t : TypeId} {x ix : D} {vx vi : Value} (hx : Rep w g x vx) (hi : Rep w g ix vi) (hc : (Zzb P t x ix h).2) : ∃ v, (Instr.indexAt t vx vi).run P w = .ok v w ∧ Rep w g (Zzb P t x ix h).1 v := by
 unfold Zzb at hc ⊢
 cases he : Zya P t with
 | none =>
  rw [he] at hc
  simp only at hc ⊢
  unfold Zph at hc ⊢
  split at hc
  case h_2 => exact hc.elim
  rename_i n e k kk ha
  obtain ⟨c1, c2, c3, c4⟩ := hc
  obtain ⟨p, rfl, h3⟩ := Zdk hx (Zzv c1) (kk.toNat * P.cellsOf e)
  rw [hi.v_inv]
  refine ⟨_, ?_, h3⟩
  unfold Zhz at ha
  split at ha
  case h_2 => cases ha
  rename_i n' e' hu
  cases ha
  simp [Instr.indexAt, asIntOf, run_underlying hu, Instr.sureAddr, c2, c3, Zic c4]
 | some e =>
 rw [he] at hc
 simp only at hc ⊢
 have hu := Zdc he
 split at hc
 case h_3 => exact hc.elim
 case h_1 full rows k n =>
  rw [hi.v_inv]
  obtain ⟨c1, c2, c3, c4⟩ := hc
  have hlt : n.toNat < rows.length := by omega
  cases hx with
  | empty => simp at hlt
  | list full rows ad cap size cv hI hl hf hmx hs hcc hr =>
   have hsz : size = P.cellsOf e := by
    rw [← c4, ← hs (rows.getD n.toNat []) (by simp [List.getD, List.getElem?_eq_getElem hlt])]
   subst hsz
   refine ⟨.pointer (some (ad.add (n.toNat * P.cellsOf e))), ?_, ?_⟩
   ·
    have h2 : n < (rows.length : Int) := c2
    simp [Instr.indexAt, asIntOf, run_underlying hu, c1, h2, Zic c3]
   ·
    have hrow : rows[n.toNat]? = some (rows.getD n.toNat []) := by simp [List.getD, List.getElem?_eq_getElem hlt]
    refine .eptr _ _ (fun j => cv n.toNat j) (by rw [block_add]; exact hI) (fun j d hj => ?_) (fun j d hj => hr _ _ _ _ hrow hj)
    rw [add_add']
    exact (hcc _ _ _ _ hrow hj).1
 case h_2 r off len k n =>
  rw [hi.v_inv]
  obtain ⟨c1, c2, c3, c4⟩ := hc
  cases hr : h r with
  | none => rw [hr] at c4; exact c4.elim
  | some bl =>
   rw [hr] at c4
   simp only at c4
   subst c4
   cases hx with | mrow _ _ _ _ hxx hU hv =>
   obtain ⟨a, c, rfl, h1, h2⟩ := hxx
   obtain ⟨p, rfl⟩ := h2 (by omega)
   refine ⟨.pointer (some (p.add (n.toNat * P.cellsOf bl.ty))), ?_, .mptr _ _ _ _ ⟨_, rfl⟩ hU fun blk c' sz hM => ?_⟩
   ·
    simp [Instr.indexAt, asIntOf, run_underlying hu, c1, c2, Zic c3]
   ·
    obtain ⟨blk', c'', q1, _⟩ := hm.blk r bl hr
    rw [hM] at q1
    simp only [Option.some.injEq, Prod.mk.injEq] at q1
    obtain ⟨q0, q2⟩ := hv _ _ _ hM
    rcases q2 with ⟨rfl, a, q2⟩ | ⟨_, b, q3, q4⟩
    ·
     omega
    ·
     refine ⟨q0.2, b, q3, ?_⟩
     simp only [Value.slice.injEq, Option.some.injEq] at q4
     rw [q4.1, Zgg, q1.2.2, ← Nat.add_mul]
     rfl
theorem Zx0 [Glob P] {g : Mem} {w : World} {t : TypeId} {x ix : D} {vx vi : Value} (hx : Rep w g x vx) (hi : Rep w g ix vi) (hc : (idxV P t x ix).2) : ∃ v, (Instr.index t vx vi).run P w = .ok v w ∧ Rep w g (idxV P t x ix).1 v := by
 unfold idxV at hc ⊢
 split at hc
 case h_2 => exact hc.elim
 rename_i s k n
 obtain ⟨c1, c2, c3⟩ := hc
 rw [hx.v_inv, hi.v_inv]
 refine ⟨_, ?_, .v _⟩
 have hlt : n.toNat < s.size := by omega
 have e : s[n.toNat]? = some (s.data.toList.getD n.toNat 0) := by
  rw [ByteArray.getElem?_lt' s n.toNat hlt]
  have hlt' : n.toNat < s.data.size := hlt
  simp only [List.getD, Array.getElem?_toList, Array.getElem?_eq_getElem hlt', Option.getD_some]
  rfl
 simp [Instr.index, asIntOf, run_underlying c3, c1, e]
theorem Zx1 {g : Mem} {w : World} {op : UnOp} {x : D} {vx : Value} (hx : Rep w g x vx) (hc : (unD op x).2) : ∃ v, (Op.unary op vx).run P w = .ok v w ∧ Rep w g (unD op x).1 v := by
 unfold unD at hc ⊢
 split at hc
 ·
  rw [hx.v_inv]; exact ⟨_, by simp [Op.unary], .v _⟩
 ·
  rw [hx.v_inv]; exact ⟨_, by simp [Op.unary, Op.intArith, Zkm hc], .v _⟩
 ·
  exact hc.elim
theorem Zsw [Glob P] {g : Mem} {w : World} {src dst : TypeId} {x : D} {vx : Value} (hx : Rep w g x vx) (hc : (Ztw P src dst x).2) : ∃ v, (convert src dst vx).run P w = .ok v w ∧ Rep w g (Ztw P src dst x).1 v := by
 unfold Ztw at hc ⊢
 split at hc
 ·
  rename_i k k' n hd
  obtain ⟨d, hs⟩ := Option.isSome_iff_exists.1 hc
  rw [hx.v_inv]
  exact ⟨.int k (k.wrap n), by simp [convert, run_underlying hs, run_underlying hd, Conv.intToInt], .v _⟩
 ·
  rename_i s hd
  rw [hx.v_inv]
  split at hc
  ·
   rename_i hs
   exact ⟨_, by simp [convert, run_underlying hs, run_underlying hd], .v _⟩
  ·
   exact hc.elim
 ·
  rename_i full rows hd
  obtain ⟨h1, h2⟩ := hc
  unfold Zy4 at h1
  split at h1
  case h_2 => cases h1
  rename_i e hs
  split at h1
  case h_2 => cases h1
  rename_i he
  have key : ∀ (a : Option Addr) (n c : Nat), vx = .slice a n c → (convert src dst vx).run P w = (Conv.bytesToString (.slice a n c)).run P w := by
   intro a n c e; subst e; exact run_convert_bytes_string w src dst _ a n c hs he hd
  cases hx with
  | empty full a cap hf hm =>
   refine ⟨_, ?_, .v _⟩
   rw [key _ _ _ rfl]
   cases a with
   | none => simp [Conv.bytesToString]; rfl
   | some a =>
    rw [run_bytesToString w a 0 cap [] (by have := run_loadCells (P := P) w a 0 (fun _ => undef) (fun j hj => by omega); simpa using this)]
    rfl
  | list full rows ad cap size cv hi hl hf hm hs' hcc hr =>
   have hrow : ∀ i (hi : i < rows.length), ∃ n, rows[i] = [.v (.int .u8 n)] := by
    intro i hi
    have h3 := List.all_eq_true.1 h2 rows[i] (List.getElem_mem hi)
    unfold isByte at h3
    split at h3
    ·
     exact ⟨_, by assumption⟩
    ·
     cases h3
   have hex : ∀ i, ∃ n, i < rows.length → rows[i]? = some [.v (.int .u8 n)] := by
    intro i
    by_cases hi : i < rows.length
    ·
     obtain ⟨n, h⟩ := hrow i hi; exact ⟨n, fun _ => by rw [List.getElem?_eq_getElem hi, h]⟩
    ·
     exact ⟨0, fun h => absurd h hi⟩
   obtain ⟨f, hf'⟩ : ∃ f : Nat → Int, ∀ i, i < rows.length → rows[i]? = some [.v (.int .u8 (f i))] := ⟨fun i => Classical.choose (hex i), fun i => Classical.choose_spec (hex i)⟩
   refine ⟨_, ?_, .v _⟩
   rw [key _ _ _ rfl]
   have hcell : ∀ j, j < rows.length → w.cell? (ad.add j) = some (.int .u8 (f j)) := by
    intro j hj
    have h4 := hf' j hj
    have hsz : size = 1 := by rw [← hs' _ (List.mem_of_getElem? h4)]; rfl
    obtain ⟨h5, _⟩ := hcc j 0 _ _ h4 rfl
    have h6 := (hr j 0 _ _ h4 rfl).v_inv
    rw [hsz, Nat.mul_one, Nat.add_zero, h6] at h5
    exact h5
   have hload := run_loadCells (P := P) w ad rows.length (fun j => .int .u8 (f j)) hcell
   rw [run_bytesToString w ad rows.length cap ((List.range rows.length).map f) (by rw [hload, List.map_map]; rfl)]
   congr 2
   have hfold : ∀ (l : List Int) (r : ByteArray), l.foldl (fun r n => r.push (UInt8.ofNat n.toNat)) r = ⟨r.data ++ (l.map fun n => UInt8.ofNat n.toNat).toArray⟩ := by
    intro l
    induction l with
    | nil => intro r; simp
    | cons n l ih =>
     intro r
     rw [List.foldl_cons, ih]
     congr 1
     apply Array.ext'
     simp [ByteArray.push]
   rw [hfold]
   congr 1
   apply Array.ext'
   have he2 : ByteArray.empty.data = #[] := rfl
   rw [he2]
   simp only [Array.toList_append, List.nil_append]
   apply List.ext_getElem?
   intro i
   by_cases hi : i < rows.length
   ·
    have h4 := hf' i hi
    have h5 : (List.range rows.length)[i]? = some i := List.getElem?_range hi
    simp only [List.getElem?_map, h4, h5, Option.map_some]
    rfl
   ·
    rw [List.getElem?_eq_none (by simp only [List.length_map, List.length_range]; omega), List.getElem?_eq_none (by simp only [List.length_map]; omega)]
 ·
  exact hc.elim
theorem Zm0 {g : Mem} {w : World} {xs : List D} {vs : List Value} (hx : Reps w g xs vs) (hc : (minI xs).2) (a : Array TypeId) (t : TypeId) : ∃ v, (Builtin.min_ a t vs.toArray).run P w = .ok v w ∧ Rep w g (minI xs).1 v := by
 unfold minI at hc ⊢
 split at hc
 ·
  obtain ⟨x, l, rfl, h1, h2⟩ := hx.of_cons
  obtain ⟨y, l, rfl, h3, h4⟩ := h2.of_cons
  rw [h4.of_nil, h1.v_inv, h3.v_inv]
  subst hc
  rename_i k a b
  refine ⟨.int k (min a b), ?_, .v _⟩
  have e : (if b < a then b else a) = min a b := by omega
  simp [Builtin.min_, Builtin.min2, e]
 ·
  exact hc.elim
theorem Zp0 {g : Mem} {w : World} {xs : List D} {vs : List Value} (hx : Reps w g xs vs) (hc : (maxI xs).2) (a : Array TypeId) (t : TypeId) : ∃ v, (Builtin.max_ a t vs.toArray).run P w = .ok v w ∧ Rep w g (maxI xs).1 v := by
 unfold maxI at hc ⊢
 split at hc
 ·
  obtain ⟨x, l, rfl, h1, h2⟩ := hx.of_cons
  obtain ⟨y, l, rfl, h3, h4⟩ := h2.of_cons
  rw [h4.of_nil, h1.v_inv, h3.v_inv]
  subst hc
  rename_i k a b
  refine ⟨.int k (max a b), ?_, .v _⟩
  have e : (if a < b then b else a) = max a b := by omega
  simp [Builtin.max_, Builtin.max2, e]
 ·
  exact hc.elim
theorem Zj3 [Glob P] {g : Mem} {w : World} {t ty : TypeId} {x : D} {vx : Value} (hx : Rep w g x vx) (hc : Zwv P t x = true) : (Builtin.len_ #[t] ty #[vx]).run P w = .ok (.int .i64 (Zqf x)) w := by
 unfold Zwv at hc
 split at hc
 ·
  obtain ⟨e, he⟩ := Option.isSome_iff_exists.1 hc
  cases hx with
  | empty => simp [Builtin.len_, run_underlying (Zdc he), goInt, Zqf]
  | list => simp [Builtin.len_, run_underlying (Zdc he), goInt, Zqf]
 ·
  obtain ⟨e, he⟩ := Option.isSome_iff_exists.1 hc
  cases hx with | mrow _ _ _ _ hxx hU hv =>
  obtain ⟨a, c, rfl, _⟩ := hxx
  simp [Builtin.len_, run_underlying (Zdc he), goInt, Zqf]
 ·
  rename_i s
  have hu : P.underlying t = some .string := by split at hc <;> simp_all
  rw [hx.v_inv]
  simp [Builtin.len_, run_underlying hu, goInt, Zqf]
 ·
  cases hc
def Zlq (w : World) (g : Mem) (o : Option D) (vo : Option Value) : Prop := match o, vo with | some x, some v => Rep w g x v | none, none => True | _, _ => False
def optB (vo : Option Value) (d y : Nat) (code : BoundsCode) : Sem Nat := match vo with | some v => Instr.sliceBound v y code | none => pure d
theorem Zfd [Glob P] {o : Option D} {vo : Option Value} {d : Nat} {y : Nat} {w : World} {g : Mem} (hr : Zlq w g o vo) (hk : Zbx o = true) (h0 : 0 ≤ bnd o d) (hle : bnd o d ≤ y) (code : BoundsCode) :
  (optB vo d y code).run P w = .ok (bnd o d).toNat w := by
 unfold Zlq at hr
 split at hr
 ·
  rename_i x v
  unfold Zbx at hk
  split at hk
  ·
   rename_i e; cases e
  ·
   rename_i k n e
   cases e
   rw [hr.v_inv]
   simp only [bnd] at h0 hle ⊢
   simp [optB, Instr.sliceBound, asIntOf, h0, hle]
  ·
   cases hk
 ·
  simp [optB, bnd]
 ·
  exact hr.elim
theorem Zok [Glob P] {b : Bool} {len cap l h : Nat} {vl vh : Option Value} {w : World} (c1 : (optB vh len cap (if b then .sliceAcap else .sliceAlen)).run P w = .ok h w) (c2 : (optB vl 0 h .sliceB).run P w = .ok l w) :
  (Instr.sliceBounds b len cap vl vh none).run P w = .ok (l, h, cap) w := by
 cases vh <;> cases vl <;> simp_all [Instr.sliceBounds, optB]
theorem Zax [Glob P] {b : Bool} {len cap l h m : Nat} {vl : Option Value} {vh vm : Value} {w : World} (c0 : (Instr.sliceBound vm cap (if b then .slice3Acap else .slice3Alen)).run P w = .ok m w) (c1 : (Instr.sliceBound vh m .slice3B).run P w = .ok h w) (c2 : (optB vl 0 h .slice3C).run P w = .ok l w) :
  (Instr.sliceBounds b len cap vl (some vh) (some vm)).run P w = .ok (l, h, m) w := by
 cases vl <;> simp_all [Instr.sliceBounds, optB]
theorem Zuh [Glob P] {t e : TypeId} (hu : P.underlying t = some (.slice e)) (he : 0 < P.cellsOf e) {a : Option Addr} {len cap l h m : Nat} {vl vh vm : Option Value} {w : World} (hb : (Instr.sliceBounds true len cap vl vh vm).run P w = .ok (l, h, m) w) :
  (Instr.sliceAt t (.slice a len cap) vl vh vm).run P w = .ok (.slice (if m = l then a else a.map (·.add (l * P.cellsOf e))) (h - l) (m - l)) w := by
 simp [Instr.sliceAt, Instr.slice, run_underlying hu, hb, Zic he]
theorem Zdy {w : World} {g : Mem} {full : Bool} {rows : List (List D)} {ao : Option Addr} {len cap e : Nat} (hx : Rep w g (.list full rows) (.slice ao len cap)) (he : 0 < e) (hs : ∀ r ∈ rows, r.length = e) (lo hi m : Nat) (h1 : lo ≤ hi) (h2 : hi ≤ rows.length) (h3 : hi ≤ m) (h4 : m ≤ cap) (f : Bool) (hf : f = true → m = hi) :
  Rep w g (.list f ((rows.take hi).drop lo)) (.slice (if m = lo then ao else ao.map (·.add (lo * e))) (hi - lo) (m - lo)) := by
 by_cases hz : (rows.take hi).drop lo = []
 ·
  rw [hz]
  have hlen : hi - lo = 0 := by
   have := congrArg List.length hz; simp at this; omega
  have hm : cap ≤ maxLen := by cases hx <;> assumption
  rw [hlen]
  exact .empty f _ _ (fun h => by have := hf h; omega) (by omega)
 ·
  cases hx with
  | empty => simp at hz
  | list full rows ad cap size cv hI hl hff hmx hss hcc hr =>
   have hlt : lo < hi := by
    rcases Nat.lt_or_ge lo hi with h | h
    ·
     exact h
    ·
     exfalso; apply hz; apply List.drop_eq_nil_of_le; simp; omega
   rw [if_neg (by omega)]
   have hse : size = e := by
    have h0 : 0 < rows.length := by omega
    rw [← hss rows[0] (by simp), hs rows[0] (by simp)]
   subst hse
   have hlen : hi - lo = ((rows.take hi).drop lo).length := by simp; omega
   rw [hlen]
   have hg : ∀ (i : Nat) r, ((rows.take hi).drop lo)[i]? = some r → rows[lo + i]? = some r := by
    intro i r hir
    rw [List.getElem?_drop, List.getElem?_take] at hir
    split at hir
    ·
     exact hir
    ·
     cases hir
   refine .list f _ _ _ size (fun i j => cv (lo + i) j) (by rw [block_add]; exact hI) (by omega) (fun h => by have := hf h; omega) (by omega) (fun r hr => hs r (List.mem_of_mem_take (List.mem_of_mem_drop hr))) (fun i j r d h5 h6 => ?_) (fun i j r d h5 h6 => hr _ _ _ _ (hg i r h5) h6)
   have := hcc _ _ _ _ (hg i r h5) h6
   rw [add_add']
   have e2 : lo * size + (i * size + j) = (lo + i) * size + j := by rw [Nat.add_mul]; omega
   rw [e2]
   exact this
theorem Zgv [Glob P] {h : H} {g : Mem} {w : World} (hm : HM P h g w) {t : TypeId} {x : D} {l hh m : Option D} {vx : Value} {vl vh vm : Option Value} (hx : Rep w g x vx) (hl : Zlq w g l vl) (hh' : Zlq w g hh vh) (hmm : Zlq w g m vm) (hc : (Zdg P t x l hh m h).2) :
  ∃ v, (Instr.sliceAt t vx vl vh vm).run P w = .ok v w ∧ Rep w g (Zdg P t x l hh m h).1 v := by
 unfold Zdg at hc ⊢
 split at hc
 case h_4 => exact hc.elim
 case h_1 s =>
  obtain ⟨⟨b1, b2, b3, b4, b5, b6⟩, rfl, hu⟩ := hc
  rw [hx.v_inv]
  cases vm with
  | some v => exact hmm.elim
  | none =>
  simp only [Zqf] at b4 b5 b6 ⊢
  have r2 := Zfd (P := P) (d := s.size) (y := s.size) hh' b2 (by omega) (by omega) (if false then .sliceAcap else .sliceAlen)
  have r1 := Zfd (P := P) (d := 0) (y := (bnd hh s.size).toNat) hl b1 b4 (by omega) .sliceB
  exact ⟨_, by simp [Instr.sliceAt, Instr.slice, run_underlying hu, Zok r2 r1], .v _⟩
 case h_2 full rows =>
  cases he : Zya P t with
  | none => rw [he] at hc; exact hc.elim
  | some e =>
  rw [he] at hc
  simp only at hc ⊢
  have hu := Zdc he
  simp only [Zqf] at hc ⊢
  have hv : ∃ a cap, vx = .slice a rows.length cap ∧ rows.length ≤ cap ∧ cap ≤ maxLen ∧ (full = true → cap = rows.length) := by
   cases hx with
   | empty full a cap hf hmx => exact ⟨a, cap, rfl, Nat.zero_le _, hmx, hf⟩
   | list full rows ad cap size cv hI hll hf hmx hs' hc' hr' => exact ⟨_, cap, rfl, hll, hmx, hf⟩
  obtain ⟨a, cap, rfl, v1, v2, v3⟩ := hv
  cases m with
  | none =>
   simp only at hc ⊢
   obtain ⟨⟨b1, b2, b3, b4, b5, b6⟩, c2, c3⟩ := hc
   cases vm with
   | some v => exact hmm.elim
   | none =>
   have r2 := Zfd (P := P) (d := rows.length) (y := cap) hh' b2 (by omega) (by omega) (if true then .sliceAcap else .sliceAlen)
   have r1 := Zfd (P := P) (d := 0) (y := (bnd hh rows.length).toNat) hl b1 b4 (by omega) .sliceB
   refine ⟨_, Zuh hu c2 (Zok r2 r1), ?_⟩
   refine Zdy hx c2 c3 _ _ cap (by omega) (by omega) (by omega) (Nat.le_refl _) _ fun hf => ?_
   simp only [Bool.and_eq_true, beq_iff_eq] at hf
   have := v3 hf.1
   omega
  | some dm =>
   simp only at hc ⊢
   obtain ⟨⟨b1, b2, b3, b4, b5, b6⟩, c0, c1, c2, c3⟩ := hc
   cases vm with
   | none => exact hmm.elim
   | some vm =>
   obtain ⟨dh, rfl⟩ := Option.isSome_iff_exists.1 c0
   cases vh with
   | none => exact hh'.elim
   | some vh =>
   have r3 := Zfd (P := P) (d := 0) (y := cap) hmm b3 (by omega) (by omega) (if true then .slice3Acap else .slice3Alen)
   have r2 := Zfd (P := P) (d := rows.length) (y := (bnd (some dm) 0).toNat) hh' b2 (by omega) (by omega) .slice3B
   have r1 := Zfd (P := P) (d := 0) (y := (bnd (some dh) rows.length).toNat) hl b1 b4 (by omega) .slice3C
   refine ⟨_, Zuh hu c2 (Zax r3 r2 r1), ?_⟩
   exact Zdy hx c2 c3 _ _ _ (by omega) (by omega) (by omega) (by omega) _ fun hf => by omega
 case h_3 r off len =>
  cases he : Zya P t with
  | none => rw [he] at hc; exact hc.elim
  | some e =>
  rw [he] at hc
  simp only at hc ⊢
  have hu := Zdc he
  simp only [Zqf] at hc ⊢
  obtain ⟨⟨b1, b2, b3, b4, b5, b6⟩, rfl, c2, c3⟩ := hc
  cases hr : h r with
  | none => rw [hr] at c3; exact c3.elim
  | some bl =>
  rw [hr] at c3
  simp only at c3
  subst c3
  cases vm with
  | some v => exact hmm.elim
  | none =>
  cases hx with | mrow _ _ _ _ hxx hU hv =>
  obtain ⟨a, c, rfl, h1, h2⟩ := hxx
  have r2 := Zfd (P := P) (d := len) (y := c) hh' b2 (by omega) (by omega) (if true then .sliceAcap else .sliceAlen)
  have r1 := Zfd (P := P) (d := 0) (y := (bnd hh len).toNat) hl b1 b4 (by omega) .sliceB
  refine ⟨_, Zuh hu c2 (Zok r2 r1), ?_⟩
  have e1 : (bnd hh len).toNat - (bnd l 0).toNat = (bnd hh len - bnd l 0).toNat := by omega
  rw [e1]
  refine .mrow r _ _ _ ⟨_, _, rfl, by omega, fun hlt => ?_⟩ hU fun blk c' sz hM => ?_
  ·
   obtain ⟨p, rfl⟩ := h2 (by omega)
   split
   ·
    exact ⟨p, rfl⟩
   ·
    exact ⟨_, rfl⟩
  ·
   obtain ⟨q1, q2⟩ := hv _ _ _ hM
   obtain ⟨blk', c'', q5, -⟩ := hm.blk r bl hr
   rw [hM] at q5
   simp only [Option.some.injEq, Prod.mk.injEq] at q5
   rcases q2 with ⟨rfl, a', q2⟩ | ⟨q2, b, rfl, q3⟩
   ·
    simp only [Value.slice.injEq] at q2
    obtain ⟨rfl, rfl, rfl⟩ := q2
    have z1 : (bnd l 0).toNat = 0 := by omega
    have z2 : (bnd hh 0 - bnd l 0).toNat = 0 := by omega
    exact ⟨by omega, .inl ⟨by omega, _, by rw [z1, z2]⟩⟩
   ·
    simp only [Value.slice.injEq] at q3
    obtain ⟨rfl, _, rfl⟩ := q3
    refine ⟨by omega, ?_⟩
    by_cases hcl : c' - off = (bnd l 0).toNat
    ·
     refine .inl ⟨by omega, some ⟨b, off * sz, none⟩, ?_⟩
     rw [if_pos hcl]
     have z2 : (bnd hh len - bnd l 0).toNat = 0 := by omega
     rw [z2, hcl, Nat.sub_self]
    ·
     refine .inr ⟨by omega, b, rfl, ?_⟩
     rw [if_neg hcl, q5.2.2]
     simp only [Option.map_some, Zgg, ← Nat.add_mul]
     rw [Nat.sub_sub]
end Go.DL
namespace Go.DL
open Go.RowKit
variable {P : Program}
theorem HM.still [Glob P] {h : H} {g : Mem} {w : World} (hm : HM P h g w) (o : Obj) :
  HM P h { g with I := fun b => g.I b ∨ b = w.heap.size } (w.alloc o) ∧ Mono g { g with I := fun b => g.I b ∨ b = w.heap.size } w (w.alloc o) := by
 have mono : Mono g { g with I := fun b => g.I b ∨ b = w.heap.size } w (w.alloc o) :=
  ⟨rfl, rfl, rfl, by simp, Nat.le_refl _, fun _ h => h, fun _ _ => .inl rfl, fun r b c s h => .inl ⟨r, c, s, h⟩, fun _ h => .inl h, fun b h => by rcases h with h | rfl; exact .inl h; exact .inr (.inl (Nat.le_refl _)), fun b hb _ => Below.heap_alloc w o b hb⟩
 refine ⟨⟨hm.dead, fun r bl hr => ?_, hm.inj, hm.used, fun b hb => ?_, hm.gr.later (hm.kept mono)⟩, mono⟩
 ·
  obtain ⟨blk, c, h1, h2, h3, h4, h5⟩ := hm.blk r bl hr
  refine ⟨blk, c, h1, h2, h3, h4, ?_⟩
  rcases h5 with h5 | ⟨b, cur, rfl, h6, h7, h8, h9⟩
  ·
   exact .inl h5
  ·
   have hlt := (Zn1 hm h1).1
   refine .inr ⟨b, cur, rfl, by rw [Below.heap_alloc w o b hlt]; exact h6, h7, fun hI => ?_, fun i row hi => ?_⟩
   ·
    rcases hI with hI | hI
    ·
     exact h8 hI
    ·
     omega
   ·
    obtain ⟨k1, k2⟩ := h9 i row hi
    refine ⟨k1, fun j d hd => ?_⟩
    obtain ⟨u, k3, k4, k5⟩ := k2 j d hd
    exact ⟨u, k3, k4, k5.later hm mono⟩
 ·
  rcases hb with hb | rfl
  ·
   have := hm.imm b hb; simp; omega
  ·
   simp
theorem Zrm {n : Nat} : ∀ {ps : List (Nat × Operand)} {xs : List D} {i : Nat}, Zsm n i ps xs → ps.map (·.1) = List.range' i ps.length ∧ xs.length = ps.length ∧ ∀ x ∈ xs, x.cells.length = n ∧ x.cells.all D.one = true := by
 intro ps
 induction ps with
 | nil => intro xs i h; cases xs <;> simp_all [Zsm]
 | cons p ps ih =>
  intro xs i h
  cases xs with
  | nil => simp [Zsm] at h
  | cons x xs =>
   obtain ⟨h1, h2, h3, h4⟩ := h
   obtain ⟨k1, k2, k3⟩ := ih h4
   refine ⟨by simp [h1, k1, List.range'_succ], by simp [k2], fun y hy => ?_⟩
   rcases List.mem_cons.1 hy with rfl | hy
   ·
    exact ⟨h2, h3⟩
   ·
    exact k3 y hy
theorem Zql [Glob P] {h : H} {g : Mem} {w : World} (hm : HM P h g w) {t : TypeId} {len : Nat} {ps : Array (Nat × Operand)} {xs : List D} {vs : List Value} (hr : Reps w g xs vs) (hc : (Zsc P t len ps.toList xs).2) (ρ : Operand → Value) (hρ : ps.toList.map (fun p => ρ p.2) = vs) :
  ∃ v g' w', (Instr.buildSlice t len (ps.map fun (i, x) => (i, ρ x))).run P w = .ok v w' ∧ Rep w' g' (Zsc P t len ps.toList xs).1 v ∧ HM P h g' w' ∧ Mono g g' w w' ∧ ∀ r, g'.U r → g.U r := by
 unfold Zsc at hc ⊢
 cases he : Zya P t with
 | none => rw [he] at hc; exact hc.elim
 | some e =>
 rw [he] at hc
 simp only at hc ⊢
 have hu := Zdc he
 obtain ⟨c1, c2, c3, c4, c5⟩ := hc
 obtain ⟨ie, hie, hs⟩ := Zhd c3
 obtain ⟨k1, k2, k3⟩ := Zrm c2
 have hvl : vs.length = len := by rw [← hr.1, k2, c1]
 have hparts : (ps.map fun (i, x) => (i, ρ x)).toList = (vs.zipIdx 0).map fun x => (x.2, x.1) := by
  apply List.ext_getElem?
  intro i
  simp only [Array.toList_map, List.getElem?_map, List.getElem?_zipIdx, ← hρ]
  cases hp : ps.toList[i]? with
  | none => simp
  | some p =>
   have : (ps.toList.map (·.1))[i]? = some p.1 := by simp only [List.getElem?_map, hp, Option.map_some]
   rw [k1] at this
   have hil : i < ps.toList.length := (List.getElem?_eq_some_iff.1 hp).1
   rw [List.getElem?_range' (by omega)] at this
   simp at this
   simp [this]
 obtain ⟨z, hz⟩ : ∃ z, ie.zero = some z := by
  unfold Zka at c5
  cases hz : ie.zero with
  | none => simp [hie, hz] at c5
  | some z => exact ⟨z, rfl⟩
 obtain ⟨hm', mono⟩ := hm.still (.cells #[] e)
 by_cases h0 : len = 0
 ·
  subst h0
  have hx0 : xs = [] := List.eq_nil_of_length_eq_zero (by omega)
  subst hx0
  have hp0 : ps = #[] := by
   have : ps.toList = [] := List.eq_nil_of_length_eq_zero c1
   simpa using this
  subst hp0
  refine ⟨.slice (some ⟨w.heap.size, 0, none⟩) 0 0, _, _, ?_, .empty true _ 0 (fun _ => rfl) (by simp [maxLen]), hm', mono, fun _ h => h⟩
  have e0 : (Array.range 0).map (fun _ => (default : Value)) = #[] := by apply Array.ext'; simp
  simp [Instr.buildSlice, run_underlying hu, Zic c3, Instr.fill, newRow, e0]
 ·
  obtain ⟨r, f1, f2, f3⟩ := Go.Great.fill_dense (s := ie.size) (by omega) vs 0 ((Array.range (len * ie.size)).map (z.cells[· % z.cells.size]!)) (fun v hv => by
   obtain ⟨i, hi, rfl⟩ := List.getElem_of_mem hv
   have hxi : i < xs.length := by omega
   obtain ⟨q1, q2⟩ := k3 xs[i] (List.getElem_mem hxi)
   rw [((hr.2 i xs[i] vs[i] (by simp) (by simp)).cells q2).2.2, q1, hs]) (by simp [hvl])
  have hrun := run_buildSlice (P := P) w t e len (ps.map fun (i, x) => (i, ρ x)) r ie z hu hie hz (by rw [hs]; omega) (by rw [hs]; exact Nat.mul_ne_zero h0 (by omega)) (by rw [hparts]; exact f1)
  obtain ⟨hm', mono⟩ := hm.still (.cells r e)
  have hlen : len = (xs.map D.cells).length := by simp; omega
  refine ⟨_, _, _, hrun, ?_, hm', mono, fun _ h => h⟩
  have key : ∀ (i j : Nat) row d, (xs.map D.cells)[i]? = some row → row[j]? = some d → ∃ u, r[i * P.cellsOf e + j]? = some u ∧ u.oneCell' = true ∧ Rep w g d u := by
   intro i j row d hi hj
   rw [List.getElem?_map] at hi
   cases hxi : xs[i]? with
   | none => rw [hxi] at hi; cases hi
   | some x =>
    rw [hxi] at hi
    simp only [Option.map_some, Option.some.injEq] at hi
    subst hi
    have hil : i < xs.length := (List.getElem?_eq_some_iff.1 hxi).1
    have hiv : i < vs.length := by omega
    obtain ⟨q1, q2⟩ := k3 x (List.mem_of_getElem? hxi)
    obtain ⟨q3, q4, q5⟩ := (hr.2 i x vs[i] hxi (by simp)).cells q2
    have hjl : j < P.cellsOf e := by have := (List.getElem?_eq_some_iff.1 hj).1; omega
    have hjv : j < vs[i].cells.toList.length := by simp; omega
    refine ⟨vs[i].cells.toList[j], ?_, q4 _ (List.getElem_mem hjv), q3.2 j d _ hj (by simp)⟩
    rw [f3, if_pos ⟨by omega, by rw [Nat.zero_add, hs]; exact Zmp hiv hjl⟩, hs]
    have e1 : (i * P.cellsOf e + j) / P.cellsOf e = i := by rw [Nat.mul_comm, Nat.mul_add_div c3, Nat.div_eq_of_lt hjl]; rfl
    have e2 : (i * P.cellsOf e + j) % P.cellsOf e = j := by rw [Nat.mul_comm, Nat.mul_add_mod, Nat.mod_eq_of_lt hjl]
    rw [e1, e2, Nat.sub_zero, List.getElem?_eq_getElem hiv]
    simp
  have hex : ∀ i j, ∃ u, ∀ row d, (xs.map D.cells)[i]? = some row → row[j]? = some d → r[i * P.cellsOf e + j]? = some u ∧ u.oneCell' = true ∧ Rep w g d u := by
   intro i j
   by_cases hh : ∃ row d, (xs.map D.cells)[i]? = some row ∧ row[j]? = some d
   ·
    obtain ⟨row, d, h1, h2⟩ := hh
    obtain ⟨u, h3, h4, h5⟩ := key i j row d h1 h2
    refine ⟨u, fun row' d' h1' h2' => ?_⟩
    rw [h1] at h1'; cases h1'
    rw [h2] at h2'; cases h2'
    exact ⟨h3, h4, h5⟩
   ·
    exact ⟨undef, fun row d h1 h2 => absurd ⟨row, d, h1, h2⟩ hh⟩
  generalize hf : (fun i j => Classical.choose (hex i j)) = cf
  have hcf : ∀ i j row d, (xs.map D.cells)[i]? = some row → row[j]? = some d → r[i * P.cellsOf e + j]? = some (cf i j) ∧ (cf i j).oneCell' = true ∧ Rep w g d (cf i j) := by
   intro i j; rw [← hf]; exact Classical.choose_spec (hex i j)
  rw [hlen]
  refine .list true _ ⟨w.heap.size, 0, none⟩ _ (P.cellsOf e) cf (.inr rfl) (Nat.le_refl _) (fun _ => rfl) ?_ (fun row hrow => ?_) (fun i j row d h1 h2 => ?_) (fun i j row d h1 h2 => ?_)
  ·
   rw [← hlen]; simp only [maxLen]
   have : len ≤ len * P.cellsOf e := Nat.le_mul_of_pos_right _ c3
   omega
  ·
   simp only [List.mem_map] at hrow
   obtain ⟨x, hx, rfl⟩ := hrow
   exact (k3 x hx).1
  ·
   obtain ⟨h3, h4, _⟩ := hcf i j row d h1 h2
   refine ⟨?_, h4⟩
   rw [Zgg, Nat.zero_add, cell_of_row _ _ _ r e (0, 0) (heap_alloc_new w _)]
   exact h3
  ·
   exact (hcf i j row d h1 h2).2.2.later hm mono
theorem Zzw [Glob P] {h : H} {g : Mem} {w : World} (hm : HM P h g w) {b : Nat} (hb : ¬ g.U b) {t : TypeId} {len : Nat} {ps : Array (Nat × Operand)} {xs : List D} {vs : List Value} (hr : Reps w g xs vs) (hc : (Zrl P t len ps.toList xs h b).2.2) (ρ : Operand → Value) (hρ : ps.toList.map (fun p => ρ p.2) = vs) :
  ∃ v g' w', (Instr.buildSlice t len (ps.map fun (i, x) => (i, ρ x))).run P w = .ok v w' ∧ Rep w' g' (Zrl P t len ps.toList xs h b).1 v ∧ HM P (Zrl P t len ps.toList xs h b).2.1 g' w' ∧ Mono g g' w w' ∧ ∀ r, g'.U r → g.U r ∨ r = b := by
 unfold Zrl at hc ⊢
 cases he : Zya P t with
 | none => rw [he] at hc; exact hc.elim
 | some e =>
 rw [he] at hc
 simp only at hc ⊢
 have hu := Zdc he
 obtain ⟨c0, c1, c2, c3, c4, c5⟩ := hc
 have h0 : ¬ len = 0 := by omega
 obtain ⟨ie, hie, hs⟩ := Zhd c3
 obtain ⟨k1, k2, k3⟩ := Zrm c2
 have hvl : vs.length = len := by rw [← hr.1, k2, c1]
 have hparts : (ps.map fun (i, x) => (i, ρ x)).toList = (vs.zipIdx 0).map fun x => (x.2, x.1) := by
  apply List.ext_getElem?
  intro i
  simp only [Array.toList_map, List.getElem?_map, List.getElem?_zipIdx, ← hρ]
  cases hp : ps.toList[i]? with
  | none => simp
  | some p =>
   have : (ps.toList.map (·.1))[i]? = some p.1 := by simp only [List.getElem?_map, hp, Option.map_some]
   rw [k1] at this
   have hil : i < ps.toList.length := (List.getElem?_eq_some_iff.1 hp).1
   rw [List.getElem?_range' (by omega)] at this
   simp at this
   simp [this]
 obtain ⟨z, hz⟩ : ∃ z, ie.zero = some z := by
  unfold Zka at c5
  cases hz : ie.zero with
  | none => simp [hie, hz] at c5
  | some z => exact ⟨z, rfl⟩
 obtain ⟨r, f1, f2, f3⟩ := Go.Great.fill_dense (s := ie.size) (by omega) vs 0 ((Array.range (len * ie.size)).map (z.cells[· % z.cells.size]!)) (fun v hv => by
  obtain ⟨i, hi, rfl⟩ := List.getElem_of_mem hv
  have hxi : i < xs.length := by omega
  obtain ⟨q1, q2⟩ := k3 xs[i] (List.getElem_mem hxi)
  rw [((hr.2 i xs[i] vs[i] (by simp) (by simp)).cells q2).2.2, q1, hs]) (by simp [hvl])
 have hrun := run_buildSlice (P := P) w t e len (ps.map fun (i, x) => (i, ρ x)) r ie z hu hie hz (by rw [hs]; omega) (by rw [hs]; exact Nat.mul_ne_zero h0 (by omega)) (by rw [hparts]; exact f1)
 have key : ∀ (i j : Nat) row d, (xs.map D.cells)[i]? = some row → row[j]? = some d → ∃ u, r[i * P.cellsOf e + j]? = some u ∧ u.oneCell' = true ∧ Rep w g d u := by
  intro i j row d hi hj
  rw [List.getElem?_map] at hi
  cases hxi : xs[i]? with
  | none => rw [hxi] at hi; cases hi
  | some x =>
   rw [hxi] at hi
   simp only [Option.map_some, Option.some.injEq] at hi
   subst hi
   have hil : i < xs.length := (List.getElem?_eq_some_iff.1 hxi).1
   have hiv : i < vs.length := by omega
   obtain ⟨q1, q2⟩ := k3 x (List.mem_of_getElem? hxi)
   obtain ⟨q3, q4, q5⟩ := (hr.2 i x vs[i] hxi (by simp)).cells q2
   have hjl : j < P.cellsOf e := by have := (List.getElem?_eq_some_iff.1 hj).1; omega
   have hjv : j < vs[i].cells.toList.length := by simp; omega
   refine ⟨vs[i].cells.toList[j], ?_, q4 _ (List.getElem_mem hjv), q3.2 j d _ hj (by simp)⟩
   rw [f3, if_pos ⟨by omega, by rw [Nat.zero_add, hs]; exact Zmp hiv hjl⟩, hs]
   have e1 : (i * P.cellsOf e + j) / P.cellsOf e = i := by rw [Nat.mul_comm, Nat.mul_add_div c3, Nat.div_eq_of_lt hjl]; rfl
   have e2 : (i * P.cellsOf e + j) % P.cellsOf e = j := by rw [Nat.mul_comm, Nat.mul_add_mod, Nat.mod_eq_of_lt hjl]
   rw [e1, e2, Nat.sub_zero, List.getElem?_eq_getElem hiv]
   simp
 have hlen : len = (xs.map D.cells).length := by simp; omega
 have hmx : len ≤ maxLen := by
  simp only [maxLen]
  have : len ≤ len * P.cellsOf e := Nat.le_mul_of_pos_right _ c3
  omega
 obtain ⟨g', h2, h3, h4, h5, h6⟩ := hm.put (h' := upd h b (some ⟨e, xs.map D.cells⟩)) (w' := w.alloc (.cells r e)) b w.heap.size len ⟨e, xs.map D.cells⟩ r (.inl hb) (upd_same _ _ _)
  (fun r hr => .inl (upd_ne _ _ _ _ hr)) (.inl (Nat.le_refl _)) (heap_alloc_new w _) (by simp only [← hs]; simpa using f2) c3 (by simp only; omega) hmx (fun i row hi => by
   have hi' := hi
   simp only [List.getElem?_map] at hi'
   cases hxi : xs[i]? with
   | none => rw [hxi] at hi'; cases hi'
   | some x =>
    rw [hxi] at hi'
    simp only [Option.map_some, Option.some.injEq] at hi'
    subst hi'
    exact ⟨(k3 x (List.mem_of_getElem? hxi)).1, fun j d hj => key i j _ d hi hj⟩) (World.grownBy_alloc w _ _)
 refine ⟨_, g', _, hrun, ?_, h5, h6, fun r hr => (h3 r).1 hr⟩
 refine .mrow b 0 len _ ⟨some ⟨w.heap.size, 0, none⟩, len, rfl, Nat.le_refl _, fun _ => ⟨_, rfl⟩⟩ ((h3 b).2 (.inr rfl)) fun blk c sz he => ?_
 rw [h2] at he
 simp only [Option.some.injEq, Prod.mk.injEq] at he
 obtain ⟨rfl, rfl, rfl⟩ := he
 exact ⟨by omega, .inr ⟨by omega, w.heap.size, rfl, by simp⟩⟩
def partAt (P : Program) [Glob P] (s : TypeId) (f : Nat) : Option (Nat × Nat) := match fld P s f with
 | some (off, t) => some (off, P.cellsOf t)
 | none => match Zhz P s with
  | some (_, e) => some (f * P.cellsOf e, P.cellsOf e)
  | none => none
theorem Zz0 [Glob P] {s : TypeId} {f : Nat} {o : Operand} {ps : List (Nat × Operand)} {x : D} {xs cs : List D} : Ztr P s ((f, o) :: ps) (x :: xs) cs = match partAt P s f with
  | some (off, _) => Ztr P s ps xs (splice cs off x.cells)
  | none => cs := by
 conv => lhs; unfold Ztr
 unfold partAt
 cases fld P s f with
 | some q => rfl
 | none => cases Zhz P s <;> rfl
theorem Zhw [Glob P] {s : TypeId} {n f : Nat} {o : Operand} {ps : List (Nat × Operand)} {x : D} {xs : List D} (h : Zel P s n ((f, o) :: ps) (x :: xs)) : (∃ off m, partAt P s f = some (off, m) ∧ x.cells.length = m ∧ off + x.cells.length ≤ n) ∧ x.cells.all D.one = true ∧ Zel P s n ps xs := by
 unfold Zel at h
 obtain ⟨h1, h2, h3⟩ := h
 refine ⟨?_, h2, h3⟩
 unfold partAt
 cases hf : fld P s f with
 | some q => rw [hf] at h1; exact ⟨_, _, rfl, h1.1, h1.2⟩
 | none =>
  rw [hf] at h1
  cases ha : Zhz P s with
  | some q => rw [ha] at h1; exact ⟨_, _, rfl, h1.1, h1.2⟩
  | none => rw [ha] at h1; exact h1.elim
theorem Zwp [Glob P] {s : TypeId} {pl : Nat → Option (Nat × Nat)} (hpl : ∀ f q, partAt P s f = some q → pl f = some q) {w : World} {g : Mem} : ∀ (ps : List (Nat × Operand)) (xs : List D) (vs : List Value) (cs : List D) (cells : Array Value) (ρ : Operand → Value), Reps w g xs vs → ps.map (fun p => ρ p.2) = vs → Reps w g cs cells.toList →
  Zel P s cs.length ps xs → ∃ r, Instr.fill pl cells (ps.map fun (i, x) => (i, ρ x)) = some r ∧ Reps w g (Ztr P s ps xs cs) r.toList := by
 intro ps
 induction ps with
 | nil => intro xs vs cs cells ρ hx hρ hc hok; exact ⟨cells, by simp [Instr.fill], by simpa [Ztr] using hc⟩
 | cons p ps ih =>
  intro xs vs cs cells ρ hx hρ hc hok
  obtain ⟨f, o⟩ := p
  simp only [List.map_cons] at hρ
  subst hρ
  cases xs with
  | nil => simp [Zel] at hok
  | cons x xs =>
   obtain ⟨⟨off, m, hf, h4, h5⟩, h2, h3⟩ := Zhw hok
   obtain ⟨q1, q2, q3⟩ := hx.head.cells h2
   have hfp := hpl _ _ hf
   have hcl : cs.length = cells.size := by simpa using hc.1
   obtain ⟨g1, g2⟩ := Go.Great.foldl_set off (ρ o).cells.toList 0 cells
   generalize hnew : ((ρ o).cells.toList.zipIdx 0).foldl (fun cs (x : Value × Nat) => cs.setIfInBounds (off + x.2) x.1) cells = new at g1 g2
   have hnl : new.toList = cells.toList.take off ++ (ρ o).cells.toList ++ cells.toList.drop (off + (ρ o).cells.toList.length) := by
    apply List.ext_getElem?
    intro k
    rw [Array.getElem?_toList, g2]
    simp only [Nat.add_zero, List.append_assoc, Array.length_toList, q3]
    have l1 : (cells.toList.take off).length = off := by simp; omega
    have l2 : (ρ o).cells.toList.length = x.cells.length := by simp [q3]
    by_cases hk : k < off
    ·
     rw [if_neg (by omega), List.getElem?_append_left (by omega), List.getElem?_take, if_pos hk]; simp
    ·
     rw [List.getElem?_append_right (by omega), l1]
     by_cases hk2 : k < off + x.cells.length
     ·
      rw [if_pos (by omega), List.getElem?_append_left (by omega)]
     ·
      rw [if_neg (by omega), List.getElem?_append_right (by omega), List.getElem?_drop, Array.getElem?_toList, l2]
      congr 1; omega
   obtain ⟨r, k1, k2⟩ := ih xs (ps.map fun p => ρ p.2) (splice cs off x.cells) new ρ hx.tail rfl (by rw [hnl]; exact Zfv hc q1 off) (by rw [Zsf _ _ _ h5]; exact h3)
   refine ⟨r, ?_, by rw [Zz0, hf]; exact k2⟩
   simp only [List.map_cons]
   unfold Instr.fill
   simp only [hfp]
   rw [if_neg (by simp; omega), ← k1]
   congr 1
   rw [← hnew, ← Array.foldl_toList, Array.toList_zipIdx]
theorem Zyw [Glob P] {w : World} {g : Mem} {t : TypeId} {ps : Array (Nat × Operand)} {xs : List D} {vs : List Value} (hr : Reps w g xs vs) (hc : (Zfq P t ps.toList xs).2) (ρ : Operand → Value) (hρ : ps.toList.map (fun p => ρ p.2) = vs) :
  ∃ v, (Instr.build t (ps.map fun (i, x) => (i, ρ x))).run P w = .ok v w ∧ Rep w g (Zfq P t ps.toList xs).1 v := by
 obtain ⟨c1, c2, c3, c4⟩ := hc
 unfold Zlg at c4
 obtain ⟨i, z, hi, hz⟩ := Zjm c3
 obtain ⟨z1, _, _⟩ := Zsl hi hz w g c2
 split at c4
 case h_3 => cases c4
 case h_1 =>
  rename_i fs hfs
  obtain ⟨r, f1, f2⟩ := Zwp (pl := fun x => (fs.toList.map fun f => (f.offset, P.cellsOf f.type)).toArray[x]?) (fun f q hq => by
   unfold partAt at hq
   have ha : Zhz P t = none := by unfold Zhz; rw [hfs]
   unfold fld at hq
   rw [hfs, ha] at hq
   simp only at hq
   cases hff : fs[f]? with
   | none => rw [hff] at hq; cases hq
   | some fd => rw [hff] at hq; simp only [Option.map_some, Option.some.injEq] at hq; rw [← hq]; simp [hff]) ps.toList xs vs (zeroCells P t) z.cells ρ hr hρ z1 c1
  refine ⟨.agg r, run_build (P := P) w t _ r ?_, .mk_agg f2⟩
  unfold Program.built
  have hp : fs.toList.mapM (fun f => (P.info? f.type).map fun i => (f.offset, i.size)) = some (fs.toList.map fun f => (f.offset, P.cellsOf f.type)) := by
   have : ∀ l : List Field, (l.all fun f => (P.info? f.type).isSome) = true → l.mapM (fun f => (P.info? f.type).map fun i => (f.offset, i.size)) = some (l.map fun f => (f.offset, P.cellsOf f.type)) := by
    intro l
    induction l with
    | nil => intro _; rfl
    | cons a l ih =>
     intro h
     simp only [List.all_cons, Bool.and_eq_true] at h
     obtain ⟨ia, hia⟩ := Option.isSome_iff_exists.1 h.1
     simp [List.mapM_cons, hia, ih h.2, Program.cellsOf]
   exact this _ c4
  simp only [hi, hfs, hz, hp]
  rw [← f1]
  simp
 case h_2 =>
  rename_i m e hfs
  obtain ⟨ie, hie⟩ := Option.isSome_iff_exists.1 c4
  have hce : P.cellsOf e = ie.size := by simp [Program.cellsOf, hie]
  obtain ⟨r, f1, f2⟩ := Zwp (pl := fun i => some (i * ie.size, ie.size)) (fun f q hq => by
   unfold partAt at hq
   have ha : Zhz P t = some (m, e) := by unfold Zhz; rw [hfs]
   unfold fld at hq
   rw [hfs, ha] at hq
   simp only [Option.some.injEq] at hq
   rw [← hq, hce]) ps.toList xs vs (zeroCells P t) z.cells ρ hr hρ z1 c1
  refine ⟨.agg r, run_build (P := P) w t _ r ?_, .mk_agg f2⟩
  unfold Program.built
  simp only [hi, hfs, hz, hie]
  rw [← f1]
  simp
end Go.DL
namespace Go.DL
open Go.RowKit Go.MapKept
variable {P : Program}
theorem Zvg (e : MapEntry) (l : List MapEntry) : (e :: l).flatMap (fun e => [e.key, e.val]) = e.key :: e.val :: l.flatMap fun e => [e.key, e.val] := rfl
theorem kv_at : ∀ (l : List MapEntry) (j : Nat) (e : MapEntry), l[j]? = some e → (l.flatMap fun e => [e.key, e.val])[2 * j]? = some e.key ∧ (l.flatMap fun e => [e.key, e.val])[2 * j + 1]? = some e.val
 | [], j, e, h => by simp at h
 | e0 :: l, j, e, h => by
  rw [Zvg]
  cases j with
  | zero => simp at h; subst h; exact ⟨rfl, rfl⟩
  | succ j =>
   have := kv_at l j e (by simpa using h)
   have e1 : 2 * (j + 1) = 2 * j + 1 + 1 := by omega
   rw [e1]
   simpa using this
theorem Zqt (f : MapEntry → MapEntry) : ∀ (l : List MapEntry) (j : Nat) (e : MapEntry), l[j]? = some e → ((l.modify j f).flatMap fun e => [e.key, e.val]) = ((l.flatMap fun e => [e.key, e.val]).set (2 * j) (f e).key).set (2 * j + 1) (f e).val
 | [], j, e, h => by simp at h
 | e0 :: l, j, e, h => by
  cases j with
  | zero => simp at h; subst h; simp
  | succ j =>
   have := Zqt f l j e (by simpa using h)
   have e1 : 2 * (j + 1) = 2 * j + 1 + 1 := by omega
   rw [e1, List.modify_succ_cons, Zvg, Zvg, this]
   simp
theorem Zhn {t kt e : TypeId} (h : mapT P t = some (kt, e)) : P.underlying t = some (.map kt e) := by
 unfold mapT at h
 split at h
 ·
  rename_i k e' hu; simp at h; rw [hu, h.1, h.2]
 ·
  cases h
theorem Zdb {t : TypeId} {d : D} (h : Zec P t d = true) : (∃ k n, P.underlying t = some (.int k) ∧ d = .v (.int k n)) ∨ (∃ b, P.underlying t = some .bool ∧ d = .v (.bool b)) ∨ ∃ s, P.underlying t = some .string ∧ d = .v (.string s) := by
 unfold Zec at h
 split at h
 ·
  rename_i hu; exact .inr (.inr ⟨_, hu, rfl⟩)
 ·
  rename_i hu; simp at h; subst h; exact .inl ⟨_, _, hu, rfl⟩
 ·
  rename_i hu; exact .inr (.inl ⟨_, hu, rfl⟩)
 ·
  cases h
theorem Ztu {a b : ByteArray} (h : a.data.toList = b.data.toList) : a = b := by
 cases a; cases b
 simp at h
 rw [h]
theorem Zgl {t : TypeId} {a b : D} (ha : Zec P t a = true) (hb : Zec P t b = true) (h : Zqe a b = true) : a = b := by
 rcases Zdb ha with ⟨k, n, u1, rfl⟩ | ⟨x, u1, rfl⟩ | ⟨x, u1, rfl⟩ <;> rcases Zdb hb with ⟨k', n', u2, rfl⟩ | ⟨x', u2, rfl⟩ | ⟨x', u2, rfl⟩ <;> rw [u1] at u2 <;> simp at u2
 ·
  subst u2; simp [Zqe] at h; rw [h]
 ·
  simp [Zqe] at h; rw [h]
 ·
  simp only [Zqe, beq_iff_eq] at h; rw [Ztu h]
theorem Ze0 [Glob P] {t : TypeId} {k : Kd} {a b : D} (hk : kindOf P t = some k) (ha : Zec P t a = true) (hb : Zec P t b = true) : Zrg k a b = true := by
 rcases Zdb ha with ⟨k1, n, u1, rfl⟩ | ⟨x, u1, rfl⟩ | ⟨x, u1, rfl⟩ <;> rcases Zdb hb with ⟨k2, n', u2, rfl⟩ | ⟨x', u2, rfl⟩ | ⟨x', u2, rfl⟩ <;> rw [u1] at u2 <;> simp at u2 <;> simp [kindOf, u1] at hk <;> subst hk
 ·
  subst u2; simp [Zrg]
 ·
  rfl
 ·
  rfl
theorem Zyp [Glob P] : ∀ (fs : List Field) (i : Nat) (ks : List Kd) (xs ys : List D), Zrd P i fs = some ks → Ztb P i fs xs = true → Ztb P i fs ys = true → Zcd ks xs ys = true ∧ (Zrc xs ys = true → xs = ys) := by
 intro fs
 induction fs with
 | nil =>
  intro i ks xs ys hk hx hy
  cases xs <;> cases ys <;> simp [Ztb] at hx hy
  simp [Zrd] at hk
  subst hk
  exact ⟨rfl, fun _ => rfl⟩
 | cons f fs ih =>
  intro i ks xs ys hk hx hy
  cases xs with
  | nil => simp [Ztb] at hx
  | cons x xs =>
  cases ys with
  | nil => simp [Ztb] at hy
  | cons y ys =>
  simp only [Ztb, Bool.and_eq_true] at hx hy
  simp only [Zrd] at hk
  split at hk
  case isFalse => cases hk
  split at hk
  case h_2 => cases hk
  rename_i k ks' h1 h2
  simp only [Option.some.injEq] at hk
  subst hk
  obtain ⟨i1, i2⟩ := ih (i + 1) ks' xs ys h2 hx.2 hy.2
  refine ⟨by simp only [Zcd, Bool.and_eq_true]; exact ⟨Ze0 h1 hx.1.2 hy.1.2, i1⟩, fun h => ?_⟩
  simp only [Zrc, Bool.and_eq_true] at h
  rw [Zgl hx.1.2 hy.1.2 h.1, i2 h.2]
theorem Zad {t : TypeId} {d : D} (h : Zkh P t d = true) : (∃ fs cs, P.underlying t = some (.struct fs) ∧ d = .agg cs ∧ Ztb P 0 fs.toList cs = true) ∨ Zec P t d = true := by
 unfold Zkh at h
 split at h
 ·
  rename_i hu; exact .inl ⟨_, _, hu, rfl, h⟩
 ·
  exact .inr h
theorem Zjd {t : TypeId} {d : D} {fs : Array Field} (hu : P.underlying t = some (.struct fs)) : Zec P t d = false := by
 unfold Zec; rw [hu]
theorem key_eq {t : TypeId} [Glob P] {a b : D} (hty : Zkn P t = true) (ha : Zkh P t a = true) (hb : Zkh P t b = true) (h : Zol a b = true) : a = b := by
 rcases Zad ha with ⟨fs, xs, u1, rfl, p1⟩ | p1
 ·
  rcases Zad hb with ⟨fs', ys, u2, rfl, p2⟩ | p2
  ·
   rw [u1] at u2
   simp at u2
   subst u2
   simp only [Zkn, u1] at hty
   obtain ⟨ks, hks⟩ := Option.isSome_iff_exists.1 hty
   unfold Zge at hks
   rw [u1] at hks
   simp only at hks
   split at hks
   case isFalse => cases hks
   rw [(Zyp fs.toList 0 ks xs ys hks p1 p2).2 h]
  ·
   rw [Zjd u1] at p2; cases p2
 ·
  rcases Zad hb with ⟨fs', ys, u2, rfl, p2⟩ | p2
  ·
   rw [Zjd u2] at p1; cases p1
  ·
   refine Zgl p1 p2 ?_
   rcases Zdb p1 with ⟨k, n, _, rfl⟩ | ⟨x, _, rfl⟩ | ⟨x, _, rfl⟩ <;> rcases Zdb p2 with ⟨k', n', _, rfl⟩ | ⟨x', _, rfl⟩ | ⟨x', _, rfl⟩ <;> exact h
theorem Zyi {t : TypeId} {w : World} {g : Mem} {d : D} {v : Value} (h : Zec P t d = true) (hr : Rep w g d v) : d = .v v := by
 rcases Zdb h with ⟨k, n, _, rfl⟩ | ⟨x, _, rfl⟩ | ⟨x, _, rfl⟩ <;> rw [hr.v_inv]
theorem Zwo : ∀ {fs : List Field} {i : Nat} {ds : List D} {w w' : World} {g g' : Mem} {vs us : List Value}, Ztb P i fs ds = true → Reps w g ds vs → Reps w' g' ds us → vs = us
 | fs, i, [], w, w', g, g', vs, us, _, h1, h2 => by rw [h1.of_nil, h2.of_nil]
 | [], i, d :: ds, _, _, _, _, _, _, h, _, _ => by simp [Ztb] at h
 | f :: fs, i, d :: ds, w, w', g, g', vs, us, h, h1, h2 => by
  obtain ⟨x, xs, rfl, a1, a2⟩ := h1.of_cons
  obtain ⟨y, ys, rfl, b1, b2⟩ := h2.of_cons
  simp only [Ztb, Bool.and_eq_true] at h
  have e1 := Zyi h.1.2 a1
  have e2 := Zyi h.1.2 b1
  rw [e1] at e2
  cases e2
  rw [Zwo h.2 a2 b2]
theorem Zst {t : TypeId} {w w' : World} {g g' : Mem} {d : D} {v u : Value} (h : Zkh P t d = true) (hv : Rep w g d v) (hu : Rep w' g' d u) : v = u := by
 rcases Zad h with ⟨fs, xs, _, rfl, p⟩ | p
 ·
  cases hv with | agg _ vs n1 r1 =>
  cases hu with | agg _ us n2 r2 =>
  have := Zwo p (vs := vs.toList) (us := us.toList) ⟨by simpa using n1, fun i d x h1 h2 => r1 i d x h1 (by simpa using h2)⟩ ⟨by simpa using n2, fun i d x h1 h2 => r2 i d x h1 (by simpa using h2)⟩
  rw [Array.toList_inj.1 this]
 ·
  have e1 := Zyi p hv
  have e2 := Zyi p hu
  rw [e1] at e2
  cases e2
  rfl
theorem Zbp {t : TypeId} {w : World} {g : Mem} {d : D} {v : Value} (h : Zec P t d = true) (hr : Rep w g d v) (n : Nat) : Instr.sameBits n v v = true := by
 rcases Zdb h with ⟨k, m, _, rfl⟩ | ⟨x, _, rfl⟩ | ⟨x, _, rfl⟩ <;> rw [hr.v_inv] <;> simp [Instr.sameBits, bytes_beq]
theorem key_bits {t : TypeId} {w : World} {g : Mem} {d : D} {v : Value} (h : Zkh P t d = true) (hr : Rep w g d v) (n : Nat) : Instr.sameBits (n + 1) v v = true := by
 rcases Zad h with ⟨fs, xs, _, rfl, p⟩ | p
 ·
  cases hr with | agg _ vs n1 r1 =>
  have key : ∀ (fs : List Field) (i : Nat) (ds : List D) (vs : List Value), Ztb P i fs ds = true → Reps w g ds vs → ∀ q ∈ vs.zip vs, Instr.sameBits n q.1 q.2 = true := by
   intro fs
   induction fs with
   | nil => intro i ds vs h hr q hq; cases ds with
    | nil => rw [hr.of_nil] at hq; simp at hq
    | cons => simp [Ztb] at h
   | cons f fs ih =>
    intro i ds vs h hr q hq
    cases ds with
    | nil => simp [Ztb] at h
    | cons d ds =>
    obtain ⟨x, xs, rfl, a1, a2⟩ := hr.of_cons
    simp only [Ztb, Bool.and_eq_true] at h
    rcases List.mem_cons.1 hq with rfl | hq
    ·
     exact Zbp h.1.2 a1 n
    ·
     exact ih (i + 1) ds xs h.2 a2 q hq
  have := key fs.toList 0 xs vs.toList p ⟨by simpa using n1, fun i d x h1 h2 => r1 i d x h1 (by simpa using h2)⟩
  simp only [Instr.sameBits, beq_self_eq_true, Bool.true_and, List.all_eq_true]
  exact fun q hq => this q hq
 ·
  exact Zbp p hr _
theorem Zvn {t : TypeId} {w : World} {g : Mem} {d : D} {v : Value} (h : Zec P t d = true) (hr : Rep w g d v) (em : Bool) (n : Nat) : (Instr.checkKey em (n + 1) t v).run P w = .ok () w := by
 rcases Zdb h with ⟨k, m, u, rfl⟩ | ⟨x, u, rfl⟩ | ⟨x, u, rfl⟩ <;> rw [hr.v_inv] <;> simp [Instr.checkKey, run_underlying u]
theorem Zi0 {t : TypeId} {w : World} {d : D} (h : Zec P t d = true) {vs : Array Value} {v : Value} {i : Nat} (hv : vs[i]? = some v) : (part t vs i).run P w = .ok v w := by
 have hu : ∃ q, P.underlying t = some q ∧ (q = .bool ∨ q = .string ∨ ∃ k, q = .int k) := by
  rcases Zdb h with ⟨k, m, u, rfl⟩ | ⟨x, u, rfl⟩ | ⟨x, u, rfl⟩
  ·
   exact ⟨_, u, .inr (.inr ⟨_, rfl⟩)⟩
  ·
   exact ⟨_, u, .inl rfl⟩
  ·
   exact ⟨_, u, .inr (.inl rfl)⟩
 obtain ⟨q, u, hq⟩ := hu
 have hagg : (isAgg t).run P w = .ok false w := by
  unfold isAgg
  rw [Sem.run_bind, run_underlying u w]
  rcases hq with rfl | rfl | ⟨k, rfl⟩ <;> simp
 have hlt := (Array.getElem?_eq_some_iff.1 hv).1
 have e := (Array.getElem?_eq_some_iff.1 hv).2
 unfold part
 simp [hagg, hlt, e]
theorem Zsu {t : TypeId} {w : World} {g : Mem} {d : D} {v : Value} (h : Zkh P t d = true) (hr : Rep w g d v) (em : Bool) (n : Nat) : (Instr.checkKey em (n + 2) t v).run P w = .ok () w := by
 rcases Zad h with ⟨fs, xs, u, rfl, p⟩ | p
 ·
  cases hr with | agg _ vs n1 r1 =>
  rw [Instr.checkKey]
  simp only [Sem.run_bind, run_underlying u, Result.andThen_ok]
  rw [← Array.forIn_toList]
  have key : ∀ (L : List Field) (i : Nat) (ds : List D), Ztb P i L ds = true → (∀ (j : Nat) d, ds[j]? = some d → ∃ v, vs[i + j]? = some v ∧ Rep w g d v) →
    (forIn L PUnit.unit fun f _ => do
     if f.name ≠ "_" then
      let q ← part f.type vs f.offset
      Instr.checkKey em (n + 1) f.type q
      pure (ForInStep.yield PUnit.unit)
     else pure (ForInStep.yield PUnit.unit) : Sem PUnit).run P w = .ok PUnit.unit w := by
   intro L
   induction L with
   | nil => intro i ds _ _; simp
   | cons f L ih =>
    intro i ds h hd
    cases ds with
    | nil => simp [Ztb] at h
    | cons d ds =>
    simp only [Ztb, Bool.and_eq_true, bne_iff_ne, beq_iff_eq] at h
    obtain ⟨⟨⟨h1, h2⟩, h3⟩, h4⟩ := h
    obtain ⟨v, hv, hr⟩ := hd 0 d rfl
    have p1 := Zi0 (w := w) h3 (by simpa using hv)
    have p2 := Zvn h3 hr em n
    rw [← h2] at p1
    simp only [List.forIn_cons, Sem.run_bind, h1, ne_eq, not_false_eq_true, if_true, Result.andThen_ok, p1, p2, Sem.run_pure]
    exact ih (i + 1) ds h4 fun j d hj => by
     obtain ⟨v, hv⟩ := hd (j + 1) d (by simpa using hj)
     exact ⟨v, by rw [Nat.add_assoc, Nat.add_comm 1 j]; exact hv.1, hv.2⟩
  have := key fs.toList 0 xs p fun j d hj => by
   have hlt : j < xs.length := (List.getElem?_eq_some_iff.1 hj).1
   have hlt' : j < vs.size := by omega
   exact ⟨vs[j], by simp [hlt'], r1 j d _ hj (by simp [hlt'])⟩
  simp at this ⊢
  rw [this]
  rfl
 ·
  exact Zvn p hr em _
theorem Zb4 [Glob P] {t : TypeId} {w : World} {g : Mem} {a b : D} {va vb : Value} (hty : Zkn P t = true) (ha : Zkh P t a = true) (hb : Zkh P t b = true) (ra : Rep w g a va) (rb : Rep w g b vb) (hst : ∃ fs, P.underlying t = some (.struct fs)) : (Op.equal t va vb).run P w = .ok (Zol a b) w := by
 obtain ⟨fs, u⟩ := hst
 rcases Zad ha with ⟨fs1, xs, u1, rfl, p1⟩ | p1
 ·
  rcases Zad hb with ⟨fs2, ys, u2, rfl, p2⟩ | p2
  ·
   rw [u1] at u2
   simp at u2
   subst u2
   simp only [Zkn, u1] at hty
   obtain ⟨ks, hks⟩ := Option.isSome_iff_exists.1 hty
   have hks0 := hks
   unfold Zge at hks
   rw [u1] at hks
   simp only at hks
   split at hks
   case isFalse => cases hks
   rename_i hc
   simp only [Bool.and_eq_true, Bool.not_eq_true'] at hc
   have hp := (Zyp fs1.toList 0 ks xs ys hks p1 p2).1
   cases ra with | agg _ vs hn hv =>
   cases rb with | agg _ us hm hu =>
   have hF : P.fieldsOf t = fs1 := by simp [Program.fieldsOf, u1]
   have h1 := run_equalIn_agg (P := P) w 9999 t vs us (by rw [hF]; exact u1) hc.1
   have h2 := Zah (P := P) fs1.toList 0 ks vs.toList us.toList xs ys w g 9998 hks (by simpa using hp) ⟨by simpa using hn, fun i d x h1 h2 => hv i d x h1 (by simpa using h2)⟩ ⟨by simpa using hm, fun i d x h1 h2 => hu i d x h1 (by simpa using h2)⟩
   rw [hF] at h1
   simp only [Array.toArray_toList, List.drop_zero] at h2
   exact h1.trans h2
  ·
   rw [Zjd u] at p2; cases p2
 ·
  rw [Zjd u] at p1; cases p1
theorem same_key {t : TypeId} {w : World} {g : Mem} {a b : D} {va vb : Value} {q : TypeDesc} (hu : P.underlying t = some q) (ha : Zec P t a = true) (hb : Zec P t b = true) (ra : Rep w g a va) (rb : Rep w g b vb) : Instr.sameNow q va vb = some (Zol a b) := by
 rcases Zdb ha with ⟨k, n, u1, rfl⟩ | ⟨x, u1, rfl⟩ | ⟨x, u1, rfl⟩ <;> rcases Zdb hb with ⟨k', n', u2, rfl⟩ | ⟨x', u2, rfl⟩ | ⟨x', u2, rfl⟩ <;> rw [u1] at u2 hu <;> simp at u2 hu <;> rw [ra.v_inv, rb.v_inv] <;> subst hu
 ·
  subst u2; simp [Instr.sameNow, Zol, Zqe]
 ·
  simp [Instr.sameNow, Zol, Zqe]
 ·
  simp only [Instr.sameNow, Zol, Zqe, Option.some.injEq]
  rw [Bool.eq_iff_iff, bytes_beq, beq_iff_eq]
  exact ⟨fun h => by rw [h], Ztu⟩
def Found (kv : List D) (l : List MapEntry) (q : D) (i0 : Nat) (vq : Value) (r : Option (Nat × Value)) : Prop :=
 (r = none ∧ Znl kv q = none ∧ ∀ x, Zml kv q x = kv ++ [q, x]) ∨
 ∃ j e d, r = some (i0 + j, e.val) ∧ l[j]? = some e ∧ Znl kv q = some d ∧ kv[2 * j + 1]? = some d ∧ e.key = vq ∧ ∀ x, Zml kv q x = (kv.set (2 * j) q).set (2 * j + 1) x
theorem Ztp {k d q : D} {kv : List D} {e : MapEntry} {l : List MapEntry} {i0 : Nat} {vq : Value} {r : Option (Nat × Value)} (hne : Zol q k = false) (h : Found kv l q (i0 + 1) vq r) : Found (k :: d :: kv) (e :: l) q i0 vq r := by
 rcases h with ⟨h1, h2, h3⟩ | ⟨j, e', d', h1, h2, h3, h4, h5, h6⟩
 ·
  exact .inl ⟨h1, by simp [Znl, hne, h2], fun x => by simp [Zml, hne, h3]⟩
 ·
  refine .inr ⟨j + 1, e', d', by rw [h1]; congr 2; omega, by simpa using h2, by simp [Znl, hne, h3], ?_, h5, fun x => ?_⟩
  ·
   have : 2 * (j + 1) + 1 = (2 * j + 1) + 2 := by omega
   rw [this]; simpa using h4
  ·
   have e1 : 2 * (j + 1) = 2 * j + 1 + 1 := by omega
   simp only [Zml, hne, h6, e1, List.set_cons_succ]
   simp
theorem Zsp {k d q : D} {kv : List D} {e : MapEntry} {l : List MapEntry} {i0 : Nat} {vq : Value} (he : Zol q k = true) (hk : e.key = vq) : Found (k :: d :: kv) (e :: l) q i0 vq (some (i0, e.val)) :=
 .inr ⟨0, e, d, rfl, rfl, by simp [Znl, he], rfl, hk, fun x => by simp [Zml, he]⟩
theorem Zmy [Glob P] {t : TypeId} {w : World} {g : Mem} {q : D} {vq : Value} {q0 : TypeDesc} (hu : P.underlying t = some q0) (hty : Zkn P t = true) (hq : Zkh P t q = true) (rq : Rep w g q vq) {kv : List D} {es : Array MapEntry} (hr : Reps w g kv (Zrt es)) (hks : Zoh P t kv = true) :
  ∃ r, (Instr.findKey t vq es.toList).run P w = .ok r w ∧ Found kv es.toList q 0 vq r := by
 unfold Zrt at hr
 by_cases hst : ∃ fs, P.underlying t = some (.struct fs)
 ·
  rw [run_findKey_eq w (by obtain ⟨fs, h⟩ := hst; rw [h])]
  have key : ∀ (l : List MapEntry) (kv : List D) (i0 : Nat), Reps w g kv (l.flatMap fun e => [e.key, e.val]) → Zoh P t kv = true → ∃ r, (Instr.findAsking t vq l i0).run P w = .ok r w ∧ Found kv l q i0 vq r := by
   intro l
   induction l with
   | nil =>
    intro kv i0 hr hks
    have : kv = [] := List.eq_nil_of_length_eq_zero (by simpa using hr.1)
    subst this
    exact ⟨none, by simp [Instr.findAsking], .inl ⟨rfl, rfl, fun x => rfl⟩⟩
   | cons e l ih =>
    intro kv i0 hr hks
    rw [Zvg] at hr
    match kv, hr, hks with
    | [], hr, _ => exact absurd hr.1 (by simp)
    | [_], hr, _ => exact absurd hr.1 (by simp)
    | k :: d :: kv, hr, hks =>
     simp only [Zoh, Bool.and_eq_true] at hks
     have he := Zb4 hty hq hks.1 rq hr.head hst
     cases hc : Zol q k with
     | true =>
      rw [hc] at he
      have hqk := key_eq hty hq hks.1 hc
      subst hqk
      exact ⟨some (i0, e.val), by simp [Instr.findAsking, he], Zsp hc (Zst hq hr.head rq)⟩
     | false =>
      rw [hc] at he
      obtain ⟨r, h1, h2⟩ := ih kv (i0 + 1) hr.tail.tail hks.2
      exact ⟨r, by simp [Instr.findAsking, he, h1], Ztp hc h2⟩
  exact key es.toList kv 0 hr hks
 ·
  have hp : ∀ {d : D}, Zkh P t d = true → Zec P t d = true := by
   intro d hd
   rcases Zad hd with ⟨fs, _, u, _⟩ | h
   ·
    exact absurd ⟨fs, u⟩ hst
   ·
    exact h
  have key : ∀ (l : List MapEntry) (kv : List D) (i0 : Nat), Reps w g kv (l.flatMap fun e => [e.key, e.val]) → Zoh P t kv = true → ∃ r, Instr.findNow q0 vq l i0 = some r ∧ Found kv l q i0 vq r := by
   intro l
   induction l with
   | nil =>
    intro kv i0 hr hks
    have : kv = [] := List.eq_nil_of_length_eq_zero (by simpa using hr.1)
    subst this
    exact ⟨none, by simp [Instr.findNow], .inl ⟨rfl, rfl, fun x => rfl⟩⟩
   | cons e l ih =>
    intro kv i0 hr hks
    rw [Zvg] at hr
    match kv, hr, hks with
    | [], hr, _ => exact absurd hr.1 (by simp)
    | [_], hr, _ => exact absurd hr.1 (by simp)
    | k :: d :: kv, hr, hks =>
     simp only [Zoh, Bool.and_eq_true] at hks
     have he := same_key hu (hp hq) (hp hks.1) rq hr.head
     cases hc : Zol q k with
     | true =>
      rw [hc] at he
      have hqk := key_eq hty hq hks.1 hc
      subst hqk
      exact ⟨some (i0, e.val), by simp [Instr.findNow, he], Zsp hc (Zst hq hr.head rq)⟩
     | false =>
      rw [hc] at he
      obtain ⟨r, h1, h2⟩ := ih kv (i0 + 1) hr.tail.tail hks.2
      exact ⟨r, by simp [Instr.findNow, he, h1], Ztp hc h2⟩
  obtain ⟨r, h1, h2⟩ := key es.toList kv 0 hr hks
  exact ⟨r, run_findKey hu h1, h2⟩
theorem kvB_some {bl : Blk} {kv : List D} (h : kvB bl = some kv) : bl.rows = Zfc kv := by
 unfold kvB at h
 split at h
 ·
  rename_i e; cases h; exact e
 ·
  cases h
theorem Zcy [Glob P] {h : H} {g : Mem} {w : World} (hm : HM P h g w) {r : Nat} {v : Value} (hv : Rep w g (.mp r) v) {bl : Blk} (hr : h r = some bl) {kv : List D} (hk : kvB bl = some kv) :
  ∃ b es clk, v = .map (some b) ∧ w.heap[b]? = some (.map es clk) ∧ Reps w g kv (Zrt es) ∧ g.M r = some (some b, maxLen + 1, P.cellsOf bl.ty) ∧ ¬ g.I b ∧ P.cellsOf bl.ty = 1 := by
 obtain ⟨blk, c, h1, h2, h3, h4, h5⟩ := hm.blk r bl hr
 cases hv with | mp _ _ hx hU hv =>
 obtain ⟨hc, b, rfl, rfl⟩ := hv _ _ _ h1
 rcases h5 with ⟨h5, _⟩ | ⟨b', cur, h5, k1, k2, k3, k4⟩
 ·
  cases h5
 cases h5
 obtain ⟨es, clk, e1, rfl⟩ := k1.map hc
 rw [Holds, kvB_some hk] at k4
 obtain ⟨q0, q⟩ := k4 0 _ rfl
 refine ⟨b, es, clk, rfl, e1, ?_, hc ▸ h1, k3, q0.symm⟩
 obtain ⟨u, u1, _, u3⟩ := q 0 _ rfl
 simp at u1
 subst u1
 cases u3 with | iface _ _ _ u3 =>
 obtain ⟨vs, e2, e3⟩ := u3.tuple_inv
 simp at e2
 rw [← e2] at e3
 simpa using e3
theorem Zq0 {g : Mem} {w : World} {kv : List D} {v : Value} (hv : Rep w g (.fmap kv) v) : ∃ b es clk, v = .map (some b) ∧ w.heap[b]? = some (.map es clk) ∧ Reps w g kv (Zrt es) := by
 cases hv with | fmap _ b es clk hI hb hn hr => exact ⟨b, es, clk, rfl, hb, hn, hr⟩
theorem Zmt [Glob P] {h : H} {g : Mem} {w : World} (hm : HM P h g w) {t : TypeId} {ok : Bool} {m k : D} {vm vk : Value} (rm : Rep w g m vm) (rk : Rep w g k vk) (hc : (Zej P t ok m k h).2) :
  ∃ v, (Instr.lookup t vm vk ok).run P w = .ok v w ∧ Rep w g (Zej P t ok m k h).1 v := by
 unfold Zej at hc ⊢
 split at hc
 case h_2 => exact hc.elim
 rename_i kt e kv ht hk
 obtain ⟨c1, c2, c3, c4⟩ := hc
 have hu := Zhn ht
 have lies : ∃ b es clk, vm = .map (some b) ∧ w.heap[b]? = some (.map es clk) ∧ Reps w g kv (Zrt es) := by
  unfold kvH at hk
  split at hk
  ·
   rename_i r
   cases hr : h r with
   | none => rw [hr] at hk; cases hk
   | some bl =>
    rw [hr] at hk
    obtain ⟨b, es, clk, q1, q2, q3, _⟩ := Zcy hm rm hr hk
    exact ⟨b, es, clk, q1, q2, q3⟩
  ·
   cases hk
   exact Zq0 rm
  ·
   cases hk
 obtain ⟨b, es, clk, rfl, hb, hr⟩ := lies
 have hkt : ∃ q0, P.underlying kt = some q0 := by
  unfold Zkn at c3
  cases hq : P.underlying kt with
  | none => rw [hq] at c3; cases c3
  | some q => exact ⟨q, rfl⟩
 obtain ⟨q0, hkt⟩ := hkt
 obtain ⟨r, h1, h2⟩ := Zmy hkt c3 c1 rk hr c2
 have hck := Zsu c1 rk es.isEmpty 9998 (w := w)
 obtain ⟨z, hz⟩ := Option.isSome_iff_exists.1 c4
 rcases h2 with ⟨rfl, g1, _⟩ | ⟨j, e', d, rfl, g0, g1, g2, _, _⟩
 ·
  have hzr : (zeroValue e).run P w = .ok z w := by
   cases hi : P.info? e with
   | none => rw [hi] at hz; cases hz
   | some i =>
    rw [hi] at hz
    simp at hz
    simp [zeroValue, typeInfo, hi, hz]
  have hzd : Zkz P e = ofV z := by unfold Zkz; rw [hz]
  refine ⟨if ok then .tuple #[z, .bool false] else z, ?_, ?_⟩
  ·
   cases ok <;> simp [Instr.lookup, run_underlying hu, MapKept.run_getObj_map hb, hck, h1, hzr]
  ·
   rw [g1, hzd]
   cases ok with
   | false => exact Zdr w g z
   | true => exact .mk_tuple (.cons (Zdr w g z) (.cons (.v _) .nil))
 ·
  have hev : Rep w g d e'.val := by
   refine hr.2 (2 * j + 1) d e'.val g2 ?_
   unfold Zrt
   exact kv_at es.toList j e' g0 |>.2
  refine ⟨if ok then .tuple #[e'.val, .bool true] else e'.val, ?_, ?_⟩
  ·
   cases ok <;> simp [Instr.lookup, run_underlying hu, MapKept.run_getObj_map hb, hck, h1]
  ·
   rw [g1]
   cases ok with
   | false => exact hev
   | true => exact .mk_tuple (.cons hev (.cons (.v _) .nil))
theorem Zrk [Glob P] {h : H} {g : Mem} {w : World} (hm : HM P h g w) {t : TypeId} {m k x : D} {vm vk vx : Value} (rm : Rep w g m vm) (rk : Rep w g k vk) (rx : Rep w g x vx) (hc : (Zcg P t m k x h).2) :
  ∃ g' w', (Instr.mapUpdate t vm vk vx).run P w = .ok () w' ∧ HM P (Zcg P t m k x h).1 g' w' ∧ Mono g g' w w' ∧ ∀ r, g'.U r → g.U r := by
 unfold Zcg at hc ⊢
 split at hc
 case h_2 => exact hc.elim
 rename_i kt e r ht
 cases hr : h r with
 | none => rw [hr] at hc; exact hc.elim
 | some bl =>
 rw [hr] at hc
 simp only at hc ⊢
 cases hk : kvB bl with
 | none => rw [hk] at hc; exact hc.elim
 | some kv =>
 rw [hk] at hc
 simp only at hc ⊢
 obtain ⟨c1, c2, c3⟩ := hc
 have hu := Zhn ht
 have hU : g.U r := by cases rm with | mp _ _ _ hU _ => exact hU
 obtain ⟨b, es, clk, rfl, hb, hrep, hM, hnI, hsz⟩ := Zcy hm rm hr hk
 have hkt : ∃ q0, P.underlying kt = some q0 := by
  unfold Zkn at c3
  cases hq : P.underlying kt with
  | none => rw [hq] at c3; cases c3
  | some q => exact ⟨q, rfl⟩
 obtain ⟨q0, hkt⟩ := hkt
 obtain ⟨f, h1, h2⟩ := Zmy hkt c3 c1 rk hrep c2
 have hck := Zsu c1 rk false 9998 (w := w)
 have fin : ∀ (es' : Array MapEntry) (clk' : Nat), Reps w g (Zml kv k x) (Zrt es') → ∃ g', HM P (upd h r (some ⟨bl.ty, Zfc (Zml kv k x)⟩)) g' { w with heap := w.heap.setIfInBounds b (.map es' clk') } ∧ Mono g g' w { w with heap := w.heap.setIfInBounds b (.map es' clk') } ∧ ∀ r, g'.U r → g.U r := by
  intro es' clk' hreps
  have hh := heap_set (o' := .map es' clk') hb
  obtain ⟨g', q1, q2, q3, q4, q5⟩ := hm.putB (h' := upd h r (some ⟨bl.ty, Zfc (Zml kv k x)⟩)) (w' := { w with heap := w.heap.setIfInBounds b (.map es' clk') }) r b (maxLen + 1) ⟨bl.ty, Zfc (Zml kv k x)⟩ #[.iface 0 (.tuple (Zrt es').toArray)]
   (.inr hM) (upd_same _ _ _) (fun r' hr' => .inl (upd_ne _ _ _ _ hr')) (.inr ⟨r, _, _, hM, .inl rfl⟩) (.inr ⟨rfl, es', clk', hh.1, rfl⟩) (fun h => by omega) (by rw [hsz]; omega) (by simp [Zfc]) (Nat.le_refl _)
   (by
    intro i row hi
    cases i with
    | succ i => simp [Zfc] at hi
    | zero =>
     simp only [Zfc, List.getElem?_cons_zero, Option.some.injEq] at hi
     subst hi
     refine ⟨hsz.symm, fun j d hd => ?_⟩
     cases j with
     | succ j => simp at hd
     | zero =>
      simp only [List.getElem?_cons_zero, Option.some.injEq] at hd
      subst hd
      exact ⟨.iface 0 (.tuple (Zrt es').toArray), by simp, by simp [Value.oneCell', Value.cells], .iface 0 _ _ (.mk_tuple (by simpa using hreps))⟩)
   ⟨rfl, rfl, rfl, by simp, fun k' _ hk' => hh.2 k' (fun e => hk' (by rw [e]))⟩
  refine ⟨g', q4, q5, fun r' hr' => ?_⟩
  rcases (q2 r').1 hr' with h | h
  ·
   exact h
  ·
   exact h ▸ hU
 rcases h2 with ⟨rfl, g1, g2⟩ | ⟨j, e', d, rfl, g0, g1, g2, g3, g4⟩
 ·
  obtain ⟨g', f1, f2, f3⟩ := fin (es.push { key := vk, val := vx, born := clk }) (clk + 1) (by
   rw [g2]
   unfold Zrt
   rw [Array.toList_push, List.flatMap_append]
   exact hrep.append (.cons rk (.cons rx .nil)))
  refine ⟨g', _, ?_, f1, f2, f3⟩
  simp [Instr.mapUpdate, run_underlying hu, MapKept.run_getObj_map hb, hck, h1, run_setObj_map _ hb]
 ·
  obtain ⟨g', f1, f2, f3⟩ := fin (es.modify j fun e => { e with key := vk, val := vx }) clk (by
   rw [g4]
   unfold Zrt
   rw [Array.toList_modify, Zqt _ _ _ _ g0]
   refine ⟨by rw [List.length_set, List.length_set, List.length_set, List.length_set]; exact hrep.1, fun i d' y h3 h4 => ?_⟩
   by_cases e1 : i = 2 * j + 1
   ·
    subst e1
    rw [List.getElem?_set_self (by have := (List.getElem?_eq_some_iff.1 h3).1; simpa using this)] at h3
    rw [List.getElem?_set_self (by have := (List.getElem?_eq_some_iff.1 h4).1; simpa using this)] at h4
    cases h3; cases h4; exact rx
   ·
    rw [List.getElem?_set_ne (Ne.symm e1)] at h3 h4
    by_cases e2 : i = 2 * j
    ·
     subst e2
     rw [List.getElem?_set_self (by have := (List.getElem?_eq_some_iff.1 h3).1; simpa using this)] at h3
     rw [List.getElem?_set_self (by have := (List.getElem?_eq_some_iff.1 h4).1; simpa using this)] at h4
     cases h3; cases h4; exact rk
    ·
     rw [List.getElem?_set_ne (Ne.symm e2)] at h3 h4
     exact hrep.2 i d' y h3 h4)
  refine ⟨g', _, ?_, f1, f2, f3⟩
  have hj : es[j]? = some e' := by simpa using g0
  have hst : (Instr.keyThatStays vk vk).run P w = .ok vk w := by simp [Instr.keyThatStays, key_bits c1 rk 9999]
  simp [Instr.mapUpdate, run_underlying hu, MapKept.run_getObj_map hb, hck, h1, hj, g3, hst, run_setObj_map _ hb]
theorem Zlt {z : Array Value} {n i j : Nat} (hi : i < n) (hj : j < z.size) : (madeCells z (n * z.size))[i * z.size + j]? = some z[j] := by
 unfold madeCells
 have hlt : i * z.size + j < n * z.size := by
  have : (i + 1) * z.size ≤ n * z.size := Nat.mul_le_mul_right _ hi
  rw [Nat.add_mul, Nat.one_mul] at this
  omega
 have e : (i * z.size + j) % z.size = j := by rw [Nat.mul_comm, Nat.mul_add_mod, Nat.mod_eq_of_lt hj]
 simp [hlt, e, hj]
theorem Zl0 [Glob P] {h : H} {g : Mem} {w : World} (hm : HM P h g w) {b : Nat} (hb : ¬ g.U b) {t : TypeId} {x y : D} {vx vy : Value} (rx : Rep w g x vx) (ry : Rep w g y vy) (hc : (Zsv P t h b x y).2.2) :
  ∃ v g' w', (Instr.makeSlice t vx vy).run P w = .ok v w' ∧ Rep w' g' (Zsv P t h b x y).1 v ∧ HM P (Zsv P t h b x y).2.1 g' w' ∧ Mono g g' w w' ∧ ∀ r, g'.U r → g.U r ∨ r = b := by
 unfold Zsv at hc ⊢
 split at hc
 case h_2 => exact hc.elim
 rename_i k n k' m
 cases he : Zya P t with
 | none => rw [he] at hc; exact hc.elim
 | some e =>
 rw [he] at hc
 simp only at hc ⊢
 obtain ⟨rfl, c1, c2, c3, c4, c5, c6, c7⟩ := hc
 have ht := Zdc he
 obtain ⟨i, hi, hs⟩ := Zhd c7
 obtain ⟨i', z, hi', hz⟩ := Zjm (P := P) (t := e) (by omega)
 rw [hi] at hi'
 cases hi'
 obtain ⟨z1, z2, z3⟩ := Zsl hi hz w g c6
 have hby : (i.bytes : Int) * n ≤ 281474976710656 := by
  have : P.bytesOf e = i.bytes := by simp [Program.bytesOf, hi]
  rw [← this]; exact c2
 have hrun := run_make (P := P) w t e i z ht hi hz k k' n n c1 (Int.le_refl _) hby c3
 rw [rx.v_inv, ry.v_inv]
 have hzs : z.cells.size = P.cellsOf e := by omega
 rw [hs, ← hzs] at hrun
 obtain ⟨g', h2, h3, h4, h5, h6⟩ := hm.put (h' := upd h b (some ⟨e, List.replicate n.toNat (zeroCells P e)⟩)) (w' := w.alloc (.cells (madeCells z.cells (n.toNat * z.cells.size)) e)) b w.heap.size n.toNat ⟨e, List.replicate n.toNat (zeroCells P e)⟩ (madeCells z.cells (n.toNat * z.cells.size)) (.inl hb) (upd_same _ _ _)
  (fun r hr => .inl (upd_ne _ _ _ _ hr)) (.inl (Nat.le_refl _)) (heap_alloc_new w _) (by rw [size_madeCells, hzs]) c7 (by simp) (by simp only [maxLen]; omega)
  (by
   intro p row hp
   have hpl : p < n.toNat := by have := (List.getElem?_eq_some_iff.1 hp).1; simpa using this
   rw [List.getElem?_replicate, if_pos hpl] at hp
   cases hp
   refine ⟨c5, fun j d hj => ?_⟩
   have hjl : j < z.cells.size := by have := (List.getElem?_eq_some_iff.1 hj).1; omega
   refine ⟨z.cells[j], ?_, z2 _ (by simp), z1.2 j d _ hj (by simp [hjl])⟩
   show (madeCells z.cells (n.toNat * z.cells.size))[p * P.cellsOf e + j]? = _
   rw [← hzs]
   exact Zlt hpl hjl)
  (World.grownBy_alloc w _ _)
 refine ⟨_, g', _, hrun, ?_, h5, h6, fun r hr => (h3 r).1 hr⟩
 refine .mrow b 0 n.toNat _ ⟨_, _, rfl, Nat.le_refl _, fun _ => ⟨_, rfl⟩⟩ ((h3 b).2 (.inr rfl)) fun blk c sz he => ?_
 rw [h2] at he
 simp only [Option.some.injEq, Prod.mk.injEq] at he
 obtain ⟨rfl, rfl, rfl⟩ := he
 refine ⟨⟨by omega, by simp only [maxLen]; omega⟩, ?_⟩
 by_cases hz0 : n.toNat = 0
 ·
  rw [hz0]; exact .inl ⟨rfl, _, rfl⟩
 ·
  exact .inr ⟨hz0, w.heap.size, rfl, by simp⟩
theorem Zs0 [Glob P] {h : H} {g : Mem} {w : World} (hm : HM P h g w) {b : Nat} (hb : ¬ g.U b) {t : TypeId} {xs : List D} {ro : Option Operand} {ρ : Operand → Value} (hr : Reps w g xs (ro.toList.map ρ)) (hc : (Ztv P t xs h b).2.2) :
  ∃ v g' w', (Instr.makeMap t (ro.map ρ)).run P w = .ok v w' ∧ Rep w' g' (Ztv P t xs h b).1 v ∧ HM P (Ztv P t xs h b).2.1 g' w' ∧ Mono g g' w w' ∧ ∀ r, g'.U r → g.U r ∨ r = b := by
 unfold Ztv at hc ⊢
 obtain ⟨c1, c2, c3⟩ := hc
 obtain ⟨⟨kt, e⟩, ht⟩ := Option.isSome_iff_exists.1 c1
 have hu := Zhn ht
 obtain ⟨g', q1, q2, q3, q4, q5⟩ := hm.putB (h' := upd h b (some ⟨t, Zfc []⟩)) (w' := w.alloc (.map #[] 0)) b w.heap.size (maxLen + 1) ⟨t, Zfc []⟩ #[.iface 0 (.tuple #[])]
  (.inl hb) (upd_same _ _ _) (fun r hr => .inl (upd_ne _ _ _ _ hr)) (.inl (Nat.le_refl _)) (.inr ⟨rfl, #[], 0, (heap_alloc w _).1, rfl⟩) (fun h => by omega) (by show 0 < P.cellsOf t; omega) (by simp [Zfc]) (Nat.le_refl _)
  (by
   intro i row hi
   cases i with
   | succ i => simp [Zfc] at hi
   | zero =>
    simp only [Zfc, List.getElem?_cons_zero, Option.some.injEq] at hi
    subst hi
    refine ⟨c2.symm, fun j d hd => ?_⟩
    cases j with
    | succ j => simp at hd
    | zero =>
     simp only [List.getElem?_cons_zero, Option.some.injEq] at hd
     subst hd
     exact ⟨.iface 0 (.tuple #[]), by simp, by simp [Value.oneCell', Value.cells], .iface 0 _ _ (.mk_tuple (vs := #[]) .nil)⟩)
  (World.grownBy_alloc w _ _)
 refine ⟨.map (some w.heap.size), g', w.alloc (.map #[] 0), ?_, ?_, q4, q5, fun r hr => (q2 r).1 hr⟩
 ·
  cases ro with
  | none => simp [Instr.makeMap]
  | some o =>
   simp only [Option.toList_some, List.map_cons, List.map_nil] at hr
   match xs, hr, c3 with
   | [], hr, _ => exact absurd hr.1 (by simp)
   | [.v (.int k n)], hr, _ =>
    rw [Option.map_some, hr.head.v_inv]
    simp [Instr.makeMap, run_underlying hu, asInt, asIntOf]
 ·
  refine .mp b _ ⟨_, rfl⟩ ((q2 b).2 (.inr rfl)) fun blk c sz he => ?_
  rw [q1] at he
  simp only [Option.some.injEq, Prod.mk.injEq] at he
  exact ⟨he.2.1.symm, _, he.1.symm, rfl⟩
end Go.DL
namespace Go.DL
open Go.RowKit
variable {P : Program} {W : Words} {C : Con}
def Zln : Op → Bool
 | .call { callee := .value _, .. } => true
 | _ => false
theorem Zzm {w : World} {g : Mem} {xs : List D} {ρ : Operand → Value} {l : Option Operand} {rest : List Operand} (h : Reps w g xs ((l.toList ++ rest).map ρ)) :
  Zlq w g (Zje l xs).1 (l.map ρ) ∧ Reps w g (Zje l xs).2 (rest.map ρ) := by
 cases l with
 | none => exact ⟨trivial, by simpa [Zje] using h⟩
 | some x =>
  simp only [Option.toList_some, List.singleton_append, List.map_cons] at h
  cases xs with
  | nil => exact absurd h.1 (by simp)
  | cons d ds => exact ⟨h.head, h.tail⟩
theorem Zc4 [Glob P] {h : H} {g : Mem} {w : World} (hm : HM P h g w) {b : Nat} (hb : ¬ g.U b) {xs : List D} {o : Oper} {ρ : Operand → Value} (hr : Reps w g xs ((Zga o.op).map ρ)) (hcall : Zln o.op = false) (hc : (eff P W C o.op xs h b).2.2) :
  Does P g w b ((execOp ρ o).run P w) (eff P W C o.op xs h b).1 (eff P W C o.op xs h b).2.1 := by
 obtain ⟨dst, op, ty, pos, after, guard⟩ := o
 simp only at hr hcall hc ⊢
 unfold eff at hc ⊢
 split at hc
 ·
  obtain ⟨v, l, e, h1, h2⟩ := hr.of_cons
  simp only [Zga, List.map_cons, List.map_nil, List.cons.injEq] at e
  obtain ⟨rfl, _⟩ := e
  exact Does.still (s := pure _) hm (by simp) h1
 ·
  obtain ⟨v, l, e, h1, h2⟩ := hr.of_cons
  simp only [Zga, List.map_cons, List.map_nil, List.cons.injEq] at e
  obtain ⟨rfl, _⟩ := e
  exact Does.still (s := pure _) hm (by simp) h1
 ·
  rename_i e
  obtain ⟨c1, c2, c3⟩ := hc
  obtain ⟨i, z, hi, hz⟩ := Zjm (P := P) (t := e) (by omega)
  obtain ⟨z1, z2, z3⟩ := Zsl hi hz w g c2
  obtain ⟨g', k1, k2, k3, k4⟩ := Zjt hm hb (e := e) z1 z2 c1 (by omega)
  refine ⟨_, g', _, .inl ?_, k1, k2, k3, k4⟩
  simp [execOp, Instr.alloc, zeroValue, typeInfo, hi, hz, newVar, newRow]
 ·
  rename_i e x d
  obtain ⟨v, l, e1, h1, h2⟩ := hr.of_cons
  simp only [Zga, List.map_cons, List.map_nil, List.cons.injEq] at e1
  obtain ⟨rfl, _⟩ := e1
  obtain ⟨c1, c2, c3⟩ := hc
  obtain ⟨z1, z2, z3⟩ := h1.cells c2
  obtain ⟨g', k1, k2, k3, k4⟩ := Zjt hm hb (e := e) z1 z2 c1 c3
  refine ⟨_, g', _, .inl ?_, k1, k2, k3, k4⟩
  simp [execOp, Instr.box, newVar, newRow]
 ·
  rename_i t ps
  obtain ⟨v, h1, h2⟩ := Zyw (P := P) (ps := ps) hr hc ρ (by simp [Zga])
  exact Does.still hm h1 h2
 ·
  rename_i t n ps
  cases hbs : C.bs with
  | false =>
   simp only [hbs, Bool.false_eq_true, if_false] at hc ⊢
   obtain ⟨v, g', w', h1, h2, h3, h4, h5⟩ := Zql (P := P) hm (ps := ps) hr hc ρ (by simp [Zga])
   exact ⟨v, g', w', .inl (by simp [execOp, h1]), h2, h3, h4, fun r hr => .inl (h5 r hr)⟩
  | true =>
   simp only [hbs, if_true] at hc ⊢
   obtain ⟨v, g', w', h1, h2, h3, h4, h5⟩ := Zzw (P := P) hm hb (ps := ps) hr hc ρ (by simp [Zga])
   exact ⟨v, g', w', .inl (by simp [execOp, h1]), h2, h3, h4, h5⟩
 ·
  obtain ⟨v, l, e1, h1, h2⟩ := hr.of_cons
  simp only [Zga, List.map_cons, List.map_nil, List.cons.injEq] at e1
  obtain ⟨rfl, _⟩ := e1
  obtain ⟨v, k1, k2⟩ := Zt0 hm h1 hc
  exact Does.still hm k1 k2
 ·
  obtain ⟨v, l, e1, h1, h2⟩ := hr.of_cons
  simp only [Zga, List.map_cons, List.map_nil, List.cons.injEq] at e1
  obtain ⟨rfl, rfl⟩ := e1
  obtain ⟨g', w', k1, k2, k3, k4⟩ := Zav hm h1 h2.head hc
  exact ⟨undef, g', w', .inr ⟨by simp [execOp, k1], rfl⟩, .v _, k2, k3, fun r hr => .inl (k4 r hr)⟩
 ·
  obtain ⟨v, l, e1, h1, h2⟩ := hr.of_cons
  simp only [Zga, List.map_cons, List.map_nil, List.cons.injEq] at e1
  obtain ⟨e1, _⟩ := e1
  obtain ⟨p, e2, _⟩ := Zdk h1 hc 0
  refine ⟨v, g, w, .inl ?_, h1, hm, Mono.refl _ _, fun _ h => .inl h⟩
  simp [execOp, e1, e2]
 ·
  obtain ⟨v, l, e1, h1, h2⟩ := hr.of_cons
  simp only [Zga, List.map_cons, List.map_nil, List.cons.injEq] at e1
  obtain ⟨rfl, rfl⟩ := e1
  obtain ⟨v, k1, k2⟩ := Zl1 h1 h2.head hc _ _
  exact Does.still hm k1 k2
 ·
  obtain ⟨v, l, e1, h1, h2⟩ := hr.of_cons
  simp only [Zga, List.map_cons, List.map_nil, List.cons.injEq] at e1
  obtain ⟨rfl, _⟩ := e1
  obtain ⟨v, k1, k2⟩ := Zx1 h1 hc
  exact Does.still hm k1 k2
 ·
  obtain ⟨v, l, e1, h1, h2⟩ := hr.of_cons
  simp only [Zga, List.map_cons, List.map_nil, List.cons.injEq] at e1
  obtain ⟨rfl, _⟩ := e1
  obtain ⟨v, k1, k2⟩ := Zsw h1 hc
  exact Does.still hm k1 k2
 ·
  rename_i f first captured
  simp only [Zga, List.map_append] at hr
  have q1 := hr.take first.size
  have q2 := hr.drop first.size
  have l1 : (first.toList.map ρ).length = first.size := by simp
  rw [List.take_left' l1] at q1
  rw [List.drop_left' l1] at q2
  refine Does.still (s := Instr.makeFunc f (first.map ρ) (captured.map ρ)) hm (v := .func f (first.map ρ) (captured.map ρ)) (by simp [Instr.makeFunc]) ?_
  exact .fn f _ _ _ _ (by have := q1.1; simp at this ⊢; exact this) (by have := q2.1; simp at this ⊢; exact this) (fun i d x h1 h2 => q1.2 i d x h1 (by simpa using h2)) (fun i d x h1 h2 => q2.2 i d x h1 (by simpa using h2))
 ·
  rename_i t x l hi m d ds
  obtain ⟨v, l', e1, h1, h2⟩ := hr.of_cons
  simp only [Zga, List.map_cons, List.cons.injEq] at e1
  obtain ⟨rfl, rfl⟩ := e1
  rw [List.append_assoc] at h2
  obtain ⟨k1, h3⟩ := Zzm h2
  obtain ⟨k2, h4⟩ := Zzm h3
  rw [← List.append_nil m.toList] at h4
  obtain ⟨k3, _⟩ := Zzm h4
  obtain ⟨v, q1, q2⟩ := Zgv hm h1 k1 k2 k3 hc
  exact Does.still hm q1 q2
 ·
  obtain ⟨v, l, e1, h1, h2⟩ := hr.of_cons
  simp only [Zga, List.map_cons, List.map_nil, List.cons.injEq] at e1
  obtain ⟨rfl, _⟩ := e1
  obtain ⟨v, k1, k2⟩ := Zho h1 hc
  exact Does.still hm k1 k2
 ·
  obtain ⟨v, l, e1, h1, h2⟩ := hr.of_cons
  simp only [Zga, List.map_cons, List.map_nil, List.cons.injEq] at e1
  obtain ⟨rfl, _⟩ := e1
  obtain ⟨v, k1, k2⟩ := Zgu h1 hc
  exact Does.still hm k1 k2
 ·
  obtain ⟨v, l, e1, h1, h2⟩ := hr.of_cons
  simp only [Zga, List.map_cons, List.map_nil, List.cons.injEq] at e1
  obtain ⟨rfl, rfl⟩ := e1
  obtain ⟨v, k1, k2⟩ := Zau hm h1 h2.head hc
  exact Does.still hm k1 k2
 ·
  obtain ⟨v, l, e1, h1, h2⟩ := hr.of_cons
  simp only [Zga, List.map_cons, List.map_nil, List.cons.injEq] at e1
  obtain ⟨rfl, rfl⟩ := e1
  obtain ⟨v, k1, k2⟩ := Zx0 (P := P) h1 h2.head hc
  exact Does.still hm k1 k2
 ·
  obtain ⟨v, l, e1, h1, h2⟩ := hr.of_cons
  simp only [Zga, List.map_cons, List.map_nil, List.cons.injEq] at e1
  obtain ⟨rfl, rfl⟩ := e1
  obtain ⟨v, g', w', k1, k2, k3, k4, k5⟩ := Zl0 (P := P) hm hb h1 h2.head hc
  exact ⟨v, g', w', .inl (by simp [execOp, k1]), k2, k3, k4, k5⟩
 ·
  rename_i t r
  obtain ⟨v, g', w', h1, h2, h3, h4, h5⟩ := Zs0 (P := P) hm hb (ro := r) hr hc
  exact ⟨v, g', w', .inl (by simp [execOp, h1]), h2, h3, h4, h5⟩
 ·
  obtain ⟨v, l, e1, h1, h2⟩ := hr.of_cons
  obtain ⟨v2, l2, e2, h3, h4⟩ := h2.of_cons
  simp only [Zga, List.map_cons, List.map_nil, List.cons.injEq] at e1
  obtain ⟨rfl, e1⟩ := e1
  rw [e2] at e1
  simp only [List.cons.injEq] at e1
  obtain ⟨rfl, rfl⟩ := e1
  obtain ⟨g', w', k1, k2, k3, k4⟩ := Zrk hm h1 h3 h4.head hc
  exact ⟨undef, g', w', .inr ⟨by simp [execOp, k1], rfl⟩, .v _, k2, k3, fun r hr => .inl (k4 r hr)⟩
 ·
  obtain ⟨v, l, e1, h1, h2⟩ := hr.of_cons
  obtain ⟨v2, l2, e2, h3, h4⟩ := h2.of_cons
  simp only [Zga, List.map_cons, List.map_nil, List.cons.injEq] at e1
  obtain ⟨rfl, e1⟩ := e1
  rw [e2] at e1
  simp only [List.cons.injEq] at e1
  obtain ⟨rfl, rfl⟩ := e1
  obtain ⟨g', w', k1, k2, k3, k4⟩ := Zrk hm h1 h3 h4.head hc
  exact ⟨undef, g', w', .inr ⟨by simp [execOp, k1], rfl⟩, .v _, k2, k3, fun r hr => .inl (k4 r hr)⟩
 ·
  obtain ⟨v, l, e1, h1, h2⟩ := hr.of_cons
  simp only [Zga, List.map_cons, List.map_nil, List.cons.injEq] at e1
  obtain ⟨rfl, rfl⟩ := e1
  obtain ⟨v, k1, k2⟩ := Zmt hm h1 h2.head hc
  exact Does.still hm k1 k2
 ·
  rename_i i ds
  obtain ⟨v, l, e1, h1, h2⟩ := hr.of_cons
  simp only [Zga, List.map_cons, List.map_nil, List.cons.injEq] at e1
  obtain ⟨e1, _⟩ := e1
  obtain ⟨vs, rfl, h3⟩ := h1.tuple_inv
  have hl : i < vs.size := by have := h3.1; simp at this; omega
  refine ⟨vs[i], g, w, .inl ?_, ?_, hm, Mono.refl _ _, fun _ h => .inl h⟩
  ·
   simp [execOp, e1, Instr.extract, hl]
  ·
   exact h3.2 i _ _ (by simp [List.getD, List.getElem?_eq_getElem hc]) (by simp [hl])
 ·
  rename_i args argTypes d
  obtain ⟨v, l, e1, h1, h2⟩ := hr.of_cons
  simp only [Zga] at e1
  rw [h2.of_nil] at e1
  split at hc
  case h_2 => exact hc.elim
  rename_i t ht
  have ht' : argTypes = #[t] := by apply Array.ext'; simpa using ht
  have ea : args.map ρ = #[v] := by apply Array.ext'; simpa using e1
  subst ht'
  refine ⟨_, g, w, .inl ?_, .v _, hm, Mono.refl _ _, fun _ h => .inl h⟩
  have := Zj3 (ty := ty) h1 hc
  simp [execOp, resolve, invoke, builtin, ea, this]
 ·
  rename_i args argTypes d d'
  obtain ⟨v, l, e1, h1, h2⟩ := hr.of_cons
  obtain ⟨v', l', e2, h3, h4⟩ := h2.of_cons
  simp only [Zga] at e1
  rw [e2, h4.of_nil] at e1
  split at hc
  case h_2 => exact hc.elim
  rename_i t u ht
  have ht' : argTypes = #[t, u] := by apply Array.ext'; simpa using ht
  have ea : args.map ρ = #[v, v'] := by apply Array.ext'; simpa using e1
  subst ht'
  obtain ⟨x, g', w', k1, k2, k3, k4, k5⟩ := Zwu hm hb h1 h3 hc ty
  refine ⟨x, g', w', .inl ?_, k2, k3, k4, k5⟩
  simp [execOp, resolve, invoke, builtin, ea, k1]
 ·
  rename_i args argTypes
  simp only [Zga] at hr
  obtain ⟨v, k1, k2⟩ := Zm0 (P := P) hr hc argTypes ty
  refine ⟨v, g, w, .inl ?_, k2, hm, Mono.refl _ _, fun _ h => .inl h⟩
  have ea : (args.toList.map ρ).toArray = args.map ρ := by apply Array.ext'; simp
  rw [ea] at k1
  simp [execOp, resolve, invoke, builtin, k1]
 ·
  rename_i args argTypes
  simp only [Zga] at hr
  obtain ⟨v, k1, k2⟩ := Zp0 (P := P) hr hc argTypes ty
  refine ⟨v, g, w, .inl ?_, k2, hm, Mono.refl _ _, fun _ h => .inl h⟩
  have ea : (args.toList.map ρ).toArray = args.map ρ := by apply Array.ext'; simp
  rw [ea] at k1
  simp [execOp, resolve, invoke, builtin, k1]
 ·
  simp [Zln] at hcall
 ·
  exact hc.elim
theorem Zg0 [Glob P] {h : H} {g : Mem} {w : World} (hm : HM P h g w) {b : Nat} {xs : List D} {o : Oper} {ρ : Operand → Value} (hr : Reps w g xs ((Zga o.op).map ρ)) (hp : Zra o.op = true) {gd : Bool} (hg : gd = true) (hc : (pickD gd xs).2) :
  Does P g w b ((execOp ρ o).run P w) (pickD gd xs).1 h := by
 obtain ⟨dst, op, ty, pos, after, guard⟩ := o
 simp only at hr hp ⊢
 cases op <;> simp only [Zra] at hp <;> try (cases hp; done)
 rename_i c x y
 unfold pickD at hc ⊢
 split at hc
 case h_2 => exact hc.elim
 rename_i dc dx dy
 obtain ⟨q1, q2, q3⟩ := hc hg
 have r1 := hr.head
 have r2 := hr.tail.head
 have r3 := hr.tail.tail.head
 have strip : ∀ {d : D} {v : Value}, Rep w g d v → sg d = true ∧ isB (sd d) = true → v = .bool (bv (sd d)) := by
  intro d v hd ⟨hs, he⟩
  have key : ∀ {d : D}, Rep w g d v → isB d = true → v = .bool (bv d) := by
   intro d hd he
   cases hd with
   | v => cases v <;> first | rfl | cases he
   | _ => cases he
  cases hd with
  | cond b d x ht hf => exact key (ht hs) he
  | v => exact key (.v _) he
  | _ => cases he
 have s1 := strip r1 q1
 refine ⟨.bool (bif bv (sd dc) then bv (sd dx) else bv (sd dy)), g, w, .inl ?_, .v _, hm, Mono.refl _ _, fun _ h => .inl h⟩
 cases hcc : bv (sd dc) with
 | true => have s2 := strip r2 (q2 hcc); simp [execOp, s1, s2, asBool, hcc]
 | false => have s3 := strip r3 (q3 hcc); simp [execOp, s1, s3, asBool, hcc]
end Go.DL
namespace Go.DL
open Go.RowKit
variable {P : Program}
theorem Zye {d : D} : ∀ {ds : List D}, nrs ds = true → d ∈ ds → d.nr = true
 | [], _, h => by cases h
 | e :: ds, h, hm => by
  simp only [nrs, Bool.and_eq_true] at h
  rcases List.mem_cons.1 hm with rfl | hm
  ·
   exact h.1
  ·
   exact Zye h.2 hm
theorem Zcn {d : List D} : ∀ {ds : List (List D)}, nrr ds = true → d ∈ ds → nrs d = true
 | [], _, h => by cases h
 | e :: ds, h, hm => by
  simp only [nrr, Bool.and_eq_true] at h
  rcases List.mem_cons.1 hm with rfl | hm
  ·
   exact h.1
  ·
   exact Zcn h.2 hm
theorem Zfp : ∀ (a b : List (List D)), nrr (a ++ b) = (nrr a && nrr b)
 | [], b => by simp [nrr]
 | x :: a, b => by simp [nrr, Zfp a b, Bool.and_assoc]
theorem Rep.clean {w : World} {g g' : Mem} {d : D} {v : Value} (h : Rep w g d v) (hn : d.nr = true) (hI : ∀ b, g.I b → g'.I b) : Rep w g' d v := by
 induction h with
 | v x => exact .v x
 | agg ds vs hl _ ih => exact .agg ds vs hl fun i d x h1 h2 => ih i d x h1 h2 (Zye hn (List.mem_of_getElem? h1))
 | tuple ds vs hl _ ih => exact .tuple ds vs hl fun i d x h1 h2 => ih i d x h1 h2 (Zye hn (List.mem_of_getElem? h1))
 | iface t d x _ ih => exact .iface t d x (ih hn)
 | empty full a cap hf hm => exact .empty full a cap hf hm
 | list full rows ad cap size cv hi hl hf hm hs hc _ ih => exact .list full rows ad cap size cv (hI _ hi) hl hf hm hs hc fun i j r d h1 h2 => ih i j r d h1 h2 (Zye (Zcn hn (List.mem_of_getElem? h1)) (List.mem_of_getElem? h2))
 | eptr cs p cv hi hc _ ih => exact .eptr cs p cv (hI _ hi) hc fun j d h1 => ih j d h1 (Zye hn (List.mem_of_getElem? h1))
 | mrow => simp [D.nr] at hn
 | mptr => simp [D.nr] at hn
 | mp => simp [D.nr] at hn
 | fmap kv b es clk hi hb hl _ ih => exact .fmap kv b es clk (hI _ hi) hb hl fun i d x h1 h2 => ih i d x h1 h2 (Zye hn (List.mem_of_getElem? h1))
 | fn f first caps fs cs hf hc _ _ ih1 ih2 =>
  simp only [D.nr, Bool.and_eq_true] at hn
  exact .fn f first caps fs cs hf hc (fun i d x h1 h2 => ih1 i d x h1 h2 (Zye hn.1 (List.mem_of_getElem? h1))) (fun i d x h1 h2 => ih2 i d x h1 h2 (Zye hn.2 (List.mem_of_getElem? h1)))
 | cond b d x _ hf ih => exact .cond b d x (fun hb => ih hb hn) hf
 | junk x => exact .junk x
mutual
theorem wk_nr : ∀ d : D, d.nr = true → (wk d).nr = true
 | .agg cs, h => Zlo cs h
 | .list _ rows, h => wkr_nr rows h
 | .eptr cs, h => Zlo cs h
 | .tuple ds, h => Zlo ds h
 | .iface _ d, h => wk_nr d h
 | .v _, h => h
 | .mrow _ _ _, h => h
 | .mptr _ _ _, h => h
 | .mp _, h => h
 | .fmap kv, h => Zlo kv h
 | .fn _ _ _, h => h
 | .cond _ _, h => h
 | .junk, h => h
theorem Zlo : ∀ ds : List D, nrs ds = true → nrs (wks ds) = true
 | [], _ => rfl
 | d :: ds, h => by
  simp only [nrs, wks, Bool.and_eq_true] at h ⊢
  exact ⟨wk_nr d h.1, Zlo ds h.2⟩
theorem wkr_nr : ∀ ds : List (List D), nrr ds = true → nrr (wkr ds) = true
 | [], _ => rfl
 | d :: ds, h => by
  simp only [nrr, wkr, Bool.and_eq_true] at h ⊢
  exact ⟨Zlo d h.1, wkr_nr ds h.2⟩
end
mutual
def D.rin (U : Nat → Prop) : D → Prop
 | .v _ => True
 | .agg cs => Zxz U cs
 | .list _ rows => rinr U rows
 | .eptr cs => Zxz U cs
 | .mrow r _ _ => U r
 | .mptr r _ _ => U r
 | .mp r => U r
 | .fmap kv => Zxz U kv
 | .fn _ a b => Zxz U a ∧ Zxz U b
 | .tuple ds => Zxz U ds
 | .iface _ d => d.rin U
 | .cond b d => b = true → d.rin U
 | .junk => True
def Zxz (U : Nat → Prop) : List D → Prop
 | [] => True
 | d :: ds => d.rin U ∧ Zxz U ds
def rinr (U : Nat → Prop) : List (List D) → Prop
 | [] => True
 | r :: rs => Zxz U r ∧ rinr U rs
end
theorem rins_iff {U : Nat → Prop} : ∀ {ds : List D}, Zxz U ds ↔ ∀ d ∈ ds, d.rin U
 | [] => by simp [Zxz]
 | d :: ds => by simp [Zxz, rins_iff (ds := ds)]
theorem rinr_iff {U : Nat → Prop} : ∀ {ds : List (List D)}, rinr U ds ↔ ∀ d ∈ ds, Zxz U d
 | [] => by simp [rinr]
 | d :: ds => by simp [rinr, rinr_iff (ds := ds)]
theorem Zvi {w : World} {g : Mem} {ds : List D} {n : Nat} {f : Nat → Option Value} (hn : ds.length ≤ n) (hs : ∀ i, i < n → (f i).isSome = true) (h : ∀ (i : Nat) d x, ds[i]? = some d → f i = some x → D.rin g.U d) (_ : w = w) : Zxz g.U ds := by
 refine rins_iff.2 fun d hd => ?_
 obtain ⟨i, hi⟩ := List.getElem?_of_mem hd
 have hlt : i < ds.length := (List.getElem?_eq_some_iff.1 hi).1
 obtain ⟨x, hx⟩ := Option.isSome_iff_exists.1 (hs i (by omega))
 exact h i d x hi hx
theorem Rep.rin {w : World} {g : Mem} {d : D} {v : Value} (h : Rep w g d v) : d.rin g.U := by
 induction h with
 | v x => trivial
 | agg ds vs hl _ ih => exact Zvi (w := w) (n := vs.size) (f := fun i => vs[i]?) (by omega) (fun i hi => by simp [hi]) ih rfl
 | tuple ds vs hl _ ih => exact Zvi (w := w) (n := vs.size) (f := fun i => vs[i]?) (by omega) (fun i hi => by simp [hi]) ih rfl
 | iface t d x _ ih => exact ih
 | empty full a cap hf hm => exact rinr_iff.2 fun d hd => by cases hd
 | list full rows ad cap size cv hi hl hf hm hs hc _ ih =>
  refine rinr_iff.2 fun row hrow => rins_iff.2 fun d hd => ?_
  obtain ⟨i, h1⟩ := List.getElem?_of_mem hrow
  obtain ⟨j, h2⟩ := List.getElem?_of_mem hd
  exact ih i j row d h1 h2
 | eptr cs p cv hi hc _ ih =>
  refine rins_iff.2 fun d hd => ?_
  obtain ⟨j, h2⟩ := List.getElem?_of_mem hd
  exact ih j d h2
 | mrow r off len x hx hU h => exact hU
 | mptr r i off x hx hU h => exact hU
 | mp r x hx hU h => exact hU
 | fmap kv b es clk hi hb hl _ ih => exact Zvi (w := w) (n := (Zrt es).length) (f := fun i => (Zrt es)[i]?) (by omega) (fun i hi => by simp [hi]) ih rfl
 | fn f first caps fs cs hf hc _ _ ih1 ih2 =>
  exact ⟨Zvi (w := w) (n := fs.size) (f := fun i => fs[i]?) (by omega) (fun i hi => by simp [hi]) ih1 rfl, Zvi (w := w) (n := cs.size) (f := fun i => cs[i]?) (by omega) (fun i hi => by simp [hi]) ih2 rfl⟩
 | cond b d x _ hf ih => exact fun hb => ih hb
 | junk x => trivial
theorem Rep.within {w : World} {g g' : Mem} {d : D} {v : Value} (h : Rep w g d v) (hn : d.rin g'.U) (hI : ∀ b, g.I b → g'.I b) (hM : ∀ r, g'.U r → g'.M r = g.M r ∨ g'.M r = none) : Rep w g' d v := by
 induction h with
 | v x => exact .v x
 | agg ds vs hl _ ih => exact .agg ds vs hl fun i d x h1 h2 => ih i d x h1 h2 (rins_iff.1 hn d (List.mem_of_getElem? h1))
 | tuple ds vs hl _ ih => exact .tuple ds vs hl fun i d x h1 h2 => ih i d x h1 h2 (rins_iff.1 hn d (List.mem_of_getElem? h1))
 | iface t d x _ ih => exact .iface t d x (ih hn)
 | empty full a cap hf hm => exact .empty full a cap hf hm
 | list full rows ad cap size cv hi hl hf hm hs hc _ ih => exact .list full rows ad cap size cv (hI _ hi) hl hf hm hs hc fun i j r d h1 h2 => ih i j r d h1 h2 (rins_iff.1 (rinr_iff.1 hn r (List.mem_of_getElem? h1)) d (List.mem_of_getElem? h2))
 | eptr cs p cv hi hc _ ih => exact .eptr cs p cv (hI _ hi) hc fun j d h1 => ih j d h1 (rins_iff.1 hn d (List.mem_of_getElem? h1))
 | mrow r off len x hx hU h =>
  refine .mrow r off len x hx hn fun blk c sz he => ?_
  rcases hM r hn with e | e
  ·
   exact h blk c sz (e ▸ he)
  ·
   rw [e] at he; cases he
 | mptr r i off x hx hU h =>
  refine .mptr r i off x hx hn fun blk c sz he => ?_
  rcases hM r hn with e | e
  ·
   exact h blk c sz (e ▸ he)
  ·
   rw [e] at he; cases he
 | mp r x hx hU h =>
  refine .mp r x hx hn fun blk c sz he => ?_
  rcases hM r hn with e | e
  ·
   exact h blk c sz (e ▸ he)
  ·
   rw [e] at he; cases he
 | fmap kv b es clk hi hb hl _ ih => exact .fmap kv b es clk (hI _ hi) hb hl fun i d x h1 h2 => ih i d x h1 h2 (rins_iff.1 hn d (List.mem_of_getElem? h1))
 | fn f first caps fs cs hf hc _ _ ih1 ih2 =>
  exact .fn f first caps fs cs hf hc (fun i d x h1 h2 => ih1 i d x h1 h2 (rins_iff.1 hn.1 d (List.mem_of_getElem? h1))) (fun i d x h1 h2 => ih2 i d x h1 h2 (rins_iff.1 hn.2 d (List.mem_of_getElem? h1)))
 | cond b d x _ hf ih => exact .cond b d x (fun hb => ih hb (hn hb)) hf
 | junk x => exact .junk x
theorem Reps.clean {w : World} {g g' : Mem} {ds : List D} {vs : List Value} (h : Reps w g ds vs) (hn : ds.all D.nr = true) (hI : ∀ b, g.I b → g'.I b) : Reps w g' ds vs :=
 ⟨h.1, fun i d x h1 h2 => (h.2 i d x h1 h2).clean (List.all_eq_true.1 hn d (List.mem_of_getElem? h1)) hI⟩
theorem Zfu {w w' : World} {g g' : Mem} {d : D} {v : Value} (h : Rep w g d v) (hf : flat1 d = true) : Rep w' g' d v := by
 cases h <;> simp [flat1] at hf
 exact .v _
theorem Zly {w w' : World} {g g' : Mem} {d : D} {v : Value} (h : Rep w g d v) (hf : flat d = true) : Rep w' g' d v := by
 cases h <;> simp only [flat] at hf <;> try (cases hf; done)
 ·
  exact .v _
 ·
  rename_i ds vs hl hv
  exact .agg ds vs hl fun i d x h1 h2 => Zfu (hv i d x h1 h2) (List.all_eq_true.1 hf d (List.mem_of_getElem? h1))
 ·
  rename_i ds vs hl hv
  exact .tuple ds vs hl fun i d x h1 h2 => Zfu (hv i d x h1 h2) (List.all_eq_true.1 hf d (List.mem_of_getElem? h1))
def Zea (P : Program) [Glob P] (f : FuncId) : Bool := match P.funcs[f]? with
 | some fn => fn.body.isSome && fn.name != "runtime.NumGoroutine"
 | none => false
def noM (I : Nat → Prop) : Mem := ⟨fun _ => none, fun _ => False, I⟩
structure Bel (w w' : World) : Prop where
 os : w'.os = w.os
 tape : w'.tape = w.tape
 output : w'.output = w.output
 size : w.heap.size ≤ w'.heap.size
 drawn : w.drawn ≤ w'.drawn
 block : ∀ k, k < w.heap.size → w'.heap[k]? = w.heap[k]?
def PureCt (P : Program) [Glob P] (f : FuncId) (args : List D) (res : D) : Prop :=
 Zea P f = true ∧ args.all D.nr = true ∧ ∀ (w : World) (I : Nat → Prop) (vs : List Value), (∀ b, I b → b < w.heap.size) → Gr P I w → Reps w (noM I) args vs →
  CallsIn Fence.wide 0 P f vs.toArray w fun e w' => ∃ v, e = .returned v ∧ Bel w w' ∧ Rep w' (noM fun b => I b ∨ (w.heap.size ≤ b ∧ b < w'.heap.size)) res v
def Ct (P : Program) [Glob P] (f : FuncId) (args : List D) (h : H) (b : Nat) (res : D) (h' : H) : Prop :=
 Zea P f = true ∧ ∀ (w : World) (g : Mem) (vs : List Value) (n : Nat), HM P h g w → (∀ r, g.U r → r < n) → ¬ g.U b → Reps w g args vs →
  CallsIn Fence.wide 0 P f vs.toArray w fun e w' => ∃ v g', e = .returned v ∧ Rep w' g' res v ∧ HM P h' g' w' ∧ Mono g g' w w' ∧ ∀ r, g'.U r → g.U r ∨ r = b
def words (P : Program) [Glob P] : Words := { pureCt := PureCt P, ct := Ct P }
theorem Zuc [Glob P] {f : FuncId} (h : Zea P f = true) (args : Array Value) (w : World) : (callFunc f args).run P w = .ok (.enter f args) w := by
 unfold Zea at h
 split at h
 ·
  rename_i fn hf
  simp only [Bool.and_eq_true, bne_iff_ne] at h
  obtain ⟨h1, h2⟩ := h
  have h3 : fn.body ≠ none := by intro e; rw [e] at h1; cases h1
  simp [callFunc, hf, h2, h3]
 ·
  cases h
def Zxh (g : Mem) : Mem := { g with I := fun b => g.I b ∨ ∃ r c s, g.M r = some (some b, c, s) }
theorem Zyc {g : Mem} {w : World} {d : D} {v : Value} (h : Rep w g d v) : Rep w (Zxh g) d v := by
 refine Rep.mono ?_ ?_ ?_ h
 ·
  exact fun b hb => ⟨Or.inl hb, rfl⟩
 ·
  exact fun _ h => h
 ·
  exact fun _ _ => Or.inl rfl
theorem Zlf [Glob P] {h : H} {g : Mem} {w : World} (hm : HM P h g w) {r off len : Nat} {x : Value} (hr : Rep w (Zxh g) (.mrow r off len) x) (ho : (h r).isSome = true ∧ (rowsOf (.mrow r off len) h).length = len) :
  Rep w (Zxh g) (.list false (rowsOf (.mrow r off len) h)) x := by
 have hmono : ∀ {d : D} {v : Value}, Rep w g d v → Rep w (Zxh g) d v := fun h => Zyc h
 cases hr with
 | mrow r off len x hx hU hv =>
  obtain ⟨o1, o2⟩ := ho
  obtain ⟨bl, hbl⟩ := Option.isSome_iff_exists.1 o1
  simp only [rowsOf, hbl] at o2 ⊢
  obtain ⟨blk, c, h1, h2, h3, h4, h5⟩ := hm.blk r bl hbl
  obtain ⟨h6, h7⟩ := hv _ _ _ h1
  rcases h7 with ⟨rfl, a, rfl⟩ | ⟨hne, b, rfl, rfl⟩
  ·
   have : len = 0 := by omega
   subst this
   have : (bl.rows.drop c).take 0 = [] := by simp
   rw [this]
   exact .empty false a 0 (fun h => by cases h) (by simp [maxLen])
  ·
   rcases h5 with ⟨h5, _⟩ | ⟨b', cur, h5, k1, k2, k3, k4⟩
   ·
    cases h5
   cases h5
   by_cases hz : len = 0
   ·
    subst hz
    have : (bl.rows.drop off).take 0 = [] := by simp
    rw [this]
    exact .empty false _ _ (fun h => by cases h) (by omega)
   have hle : off + len ≤ bl.rows.length := by simp at o2; omega
   have hget : ∀ (i : Nat) row, ((bl.rows.drop off).take len)[i]? = some row → bl.rows[off + i]? = some row := by
    intro i row hi
    rw [List.getElem?_take] at hi
    split at hi
    ·
     rwa [List.getElem?_drop] at hi
    ·
     cases hi
   have hex : ∀ i j, ∃ u, ∀ row d, bl.rows[off + i]? = some row → row[j]? = some d → cur[(off + i) * P.cellsOf bl.ty + j]? = some u ∧ u.oneCell' = true ∧ Rep w g d u := by
    intro i j
    by_cases hh : ∃ row d, bl.rows[off + i]? = some row ∧ row[j]? = some d
    ·
     obtain ⟨row, d, q1, q2⟩ := hh
     obtain ⟨u, q3⟩ := (k4 _ row q1).2 j d q2
     refine ⟨u, fun row' d' q1' q2' => ?_⟩
     rw [q1] at q1'; cases q1'
     rw [q2] at q2'; cases q2'
     exact q3
    ·
     exact ⟨undef, fun row d q1 q2 => absurd ⟨row, d, q1, q2⟩ hh⟩
   generalize hcv : (fun i j => Classical.choose (hex i j)) = cv
   have hcvs : ∀ i j row d, bl.rows[off + i]? = some row → row[j]? = some d → cur[(off + i) * P.cellsOf bl.ty + j]? = some (cv i j) ∧ (cv i j).oneCell' = true ∧ Rep w g d (cv i j) := by
    intro i j; rw [← hcv]; exact Classical.choose_spec (hex i j)
   have hlen : len = ((bl.rows.drop off).take len).length := o2.symm
   generalize hrows : (bl.rows.drop off).take len = rows at *
   subst hlen
   refine .list false rows ⟨b, off * P.cellsOf bl.ty, none⟩ _ (P.cellsOf bl.ty) cv (.inr ⟨r, _, _, h1⟩) (by omega) (fun h => by cases h) (by omega) (fun row hrow => ?_) (fun i j row d q1 q2 => ?_) (fun i j row d q1 q2 => hmono (hcvs i j row d (hget i row q1) q2).2.2)
   ·
    obtain ⟨i, hi, rfl⟩ := List.getElem_of_mem hrow
    exact (k4 _ _ (hget i _ (List.getElem?_eq_getElem hi))).1
   ·
    obtain ⟨q3, q4, _⟩ := hcvs i j row d (hget i row q1) q2
    refine ⟨?_, q4⟩
    rw [Zgg, cell_of_row w b _ cur bl.ty (0, 0) (k1.cells h6.2), ← q3, Nat.add_mul]
    congr 1; omega
theorem Zd1 [Glob P] {h : H} {g : Mem} {w : World} (hm : HM P h g w) {d : D} {v : Value} (hr : Rep w (Zxh g) d v) (ho : Zdd h d) : Rep w (Zxh g) (Zbh h d) v := by
 cases d with
 | mrow r off len => exact Zlf hm hr ho
 | _ => exact hr
theorem Zlu [Glob P] {h : H} {g : Mem} {w : World} (hm : HM P h g w) {r i off : Nat} {x : Value} (hr : Rep w (Zxh g) (.mptr r i off) x) (ho : (h r).isSome = true ∧ ∀ c ∈ Zwa (.mptr r i off) h, Zdd h c) :
  Rep w (Zxh g) (.eptr ((Zwa (.mptr r i off) h).map (Zbh h))) x := by
 obtain ⟨o1, o2⟩ := ho
 obtain ⟨bl, hbl⟩ := Option.isSome_iff_exists.1 o1
 simp only [Zwa, hbl] at o2 ⊢
 cases hr with | mptr _ _ _ x hx hU hv =>
 obtain ⟨blk, c, h1, h2, h3, h4, h5⟩ := hm.blk r bl hbl
 obtain ⟨hcm, b, rfl, rfl⟩ := hv _ _ _ h1
 rcases h5 with ⟨h5, _⟩ | ⟨b', cur, h5, k1, k2, k3, k4⟩
 ·
  cases h5
 cases h5
 have key : ∀ j d, ((bl.rows.getD i []).drop off)[j]? = some d → ∃ u, cur[i * P.cellsOf bl.ty + off + j]? = some u ∧ Rep w g d u := by
  intro j d hd
  rw [List.getElem?_drop] at hd
  cases hri : bl.rows[i]? with
  | none => rw [List.getD, hri] at hd; simp at hd
  | some row =>
   rw [List.getD, hri, Option.getD_some] at hd
   obtain ⟨u, p1, _, p3⟩ := (k4 i row hri).2 (off + j) d hd
   exact ⟨u, by rw [Nat.add_assoc]; exact p1, p3⟩
 refine .eptr _ _ (fun j => cur.getD (i * P.cellsOf bl.ty + off + j) undef) (.inr ⟨r, _, _, h1⟩) (fun j d hd => ?_) (fun j d hd => ?_)
 ·
  obtain ⟨d', e1, rfl⟩ := Zlc hd
  obtain ⟨u, p1, p2⟩ := key j d' e1
  rw [Zgg, cell_of_row w b _ cur bl.ty (0, 0) (k1.cells hcm), p1]
  simp [Array.getD_eq_getD_getElem?, p1]
 ·
  obtain ⟨d', e1, rfl⟩ := Zlc hd
  obtain ⟨u, p1, p2⟩ := key j d' e1
  have e2 : cur.getD (i * P.cellsOf bl.ty + off + j) undef = u := by simp [Array.getD_eq_getD_getElem?, p1]
  rw [e2]
  exact Zd1 hm (Zyc p2) (o2 d' (List.mem_of_getElem? e1))
theorem Zcq [Glob P] {h : H} {g : Mem} {w : World} (hm : HM P h g w) {d : D} {v : Value} (hr : Rep w (Zxh g) d v) (ho : Zqc h d) : Rep w (Zxh g) (Zre h d) v := by
 cases d with
 | mrow r off len => exact Zlf hm hr ho
 | mptr r i off => exact Zlu hm hr ho
 | _ => exact hr
theorem Zbq [Glob P] {h : H} {g : Mem} {w : World} (hm : HM P h g w) {d : D} {v : Value} (hr : Rep w (Zxh g) d v) (ho : Zhc h d) :
  Rep w (Zxh g) (deref h d) v := by
 cases d with
 | mrow r off len => exact Zlf hm hr ho
 | mptr r i off => exact Zlu hm hr ho
 | fn f a b =>
  cases hr with
  | fn _ _ _ fs cs hf hc h1 h2 =>
   refine .fn f _ _ fs cs (by simpa using hf) (by simpa using hc) (fun i d x e1 e2 => ?_) (fun i d x e1 e2 => ?_)
   ·
    obtain ⟨d', e3, rfl⟩ := Zlc e1
    exact Zcq hm (h1 i d' x e3 e2) (ho.1 d' (List.mem_of_getElem? e3))
   ·
    obtain ⟨d', e3, rfl⟩ := Zlc e1
    exact Zcq hm (h2 i d' x e3 e2) (ho.2 d' (List.mem_of_getElem? e3))
 | _ => exact hr
theorem Zn4 [Glob P] {h : H} {g : Mem} {w : World} (hm : HM P h g w) {d : D} {v : Value} (hr : Rep w g d v) (ho : Zhc h d) : Rep w (Zxh g) (deref h d) v := Zbq hm (Zyc hr) ho
theorem Zpw {h : H} {d : D} (hd : Zgk d = false) : Zre h d = d := by cases d <;> first | rfl | cases hd
theorem Zjl {h : H} {ds : List D} (hd : ds.any Zgk = false) : ds.map (Zre h) = ds := by
 rw [List.any_eq_false] at hd
 conv => rhs; rw [← List.map_id ds]
 exact List.map_congr_left fun d hm => Zpw (by have := hd d hm; simpa using this)
theorem Zaq {h : H} {d : D} (hd : Zgc d = false) : deref h d = d := by
 cases d <;> first | rfl | (cases hd; done) | skip
 rename_i f a b
 simp only [Zgc, Bool.or_eq_false_iff] at hd
 simp only [deref, Zjl hd.1, Zjl hd.2]
theorem Zap [Glob P] {h : H} {g : Mem} {w : World} (hm : HM P h g w) {k : FuncId} {zs : List D} {vs : List Value} {res : D} (hzs : Reps w g zs vs) (hct : PureCt P k (zs.map (Zie h)) res) (hfl : zs.any Zgc = true → flat res = true ∧ ∀ y ∈ zs, Zhc h y) :
  CallsIn Fence.wide 0 P k vs.toArray w fun e w' => ∃ v g', e = .returned v ∧ Rep w' g' res v ∧ HM P h g' w' ∧ Mono g g' w w' ∧ ∀ r, g'.U r → g.U r := by
 obtain ⟨hbd, hnr, hct⟩ := hct
 by_cases hmr : zs.any Zgc = true
 ·
  obtain ⟨f1, f2⟩ := hfl hmr
  have hds : Reps w (Zxh g) (zs.map (Zie h)) vs := by
   refine ⟨by simpa using hzs.1, fun i d x h1 h2 => ?_⟩
   rw [List.getElem?_map] at h1
   cases hi : zs[i]? with
   | none => rw [hi] at h1; cases h1
   | some y =>
    rw [hi] at h1; simp at h1; subst h1
    exact (Zn4 hm (hzs.2 i y x hi h2) (f2 y (List.mem_of_getElem? hi))).wk
  refine (hct w (fun b => g.I b ∨ ∃ r c s, g.M r = some (some b, c, s)) _ (fun b hb => ?_) (hm.gr.later fun b hb => ⟨.inl hb, rfl⟩) (hds.clean hnr fun _ h => h)).mono ?_
  ·
   rcases hb with hb | ⟨r, c, s, hb⟩
   ·
    exact hm.imm b hb
   ·
    exact (Zn1 hm hb).1
  ·
   rintro e w' ⟨v, rfl, hbel, hv⟩
   have mono : Mono g g w w' := ⟨hbel.os, hbel.tape, hbel.output, hbel.size, hbel.drawn, fun _ h => h, fun _ _ => .inl rfl, fun r b c s h => .inl ⟨r, c, s, h⟩, fun _ h => h, fun _ h => .inl h, fun b hb _ => hbel.block b hb⟩
   refine ⟨v, g, rfl, Zly hv f1, ⟨hm.dead, fun r bl hr => ?_, hm.inj, hm.used, fun b hb => Nat.lt_of_lt_of_le (hm.imm b hb) hbel.size, hm.gr.later (hm.kept mono)⟩, mono, fun _ h => h⟩
   obtain ⟨blk, c, h1, h2, h3, h4, h5⟩ := hm.blk r bl hr
   refine ⟨blk, c, h1, h2, h3, h4, ?_⟩
   rcases h5 with h5 | ⟨b, cur, rfl, h6, h7, h8, h9⟩
   ·
    exact .inl h5
   ·
    refine .inr ⟨b, cur, rfl, by rw [hbel.block b (Zn1 hm h1).1]; exact h6, h7, h8, fun i row hi => ⟨(h9 i row hi).1, fun j d hd => ?_⟩⟩
    obtain ⟨u, k3, k4, k5⟩ := (h9 i row hi).2 j d hd
    exact ⟨u, k3, k4, k5.later hm mono⟩
 ·
  have hzs : Reps w g (zs.map (Zie h)) vs := by
   refine ⟨by simpa using hzs.1, fun i d x h1 h2 => ?_⟩
   obtain ⟨y, h3, rfl⟩ := Zlc h1
   have hy : Zgc y = false := by
    cases hq : Zgc y with
    | false => rfl
    | true => exact absurd (List.any_eq_true.2 ⟨y, List.mem_of_getElem? h3, hq⟩) hmr
   have : deref h y = y := Zaq hy
   show Rep w g (wk (deref h y)) x
   rw [this]
   exact (hzs.2 i y x h3 h2).wk
  refine (hct w g.I _ hm.imm hm.gr (hzs.clean hnr fun _ h => h)).mono ?_
  rintro e w' ⟨v, rfl, hbel, hv⟩
  let g' : Mem := { g with I := fun b => g.I b ∨ (w.heap.size ≤ b ∧ b < w'.heap.size) }
  have mono : Mono g g' w w' := ⟨hbel.os, hbel.tape, hbel.output, hbel.size, hbel.drawn, fun _ h => h, fun _ _ => .inl rfl, fun r b c s h => .inl ⟨r, c, s, h⟩, fun _ h => .inl h, fun b h => by rcases h with h | h; exact .inl h; exact .inr (.inl h.1), fun b hb _ => hbel.block b hb⟩
  refine ⟨v, g', rfl, by refine Rep.mono ?_ ?_ ?_ hv; exact fun b hb => ⟨hb, rfl⟩; exact fun _ h => False.elim h; exact fun _ h => False.elim h, ⟨hm.dead, fun r bl hr => ?_, hm.inj, hm.used, fun b hb => ?_, hm.gr.later (hm.kept mono)⟩, mono, fun _ h => h⟩
  ·
   obtain ⟨blk, c, h1, h2, h3, h4, h5⟩ := hm.blk r bl hr
   refine ⟨blk, c, h1, h2, h3, h4, ?_⟩
   rcases h5 with h5 | ⟨b, cur, rfl, h6, h7, h8, h9⟩
   ·
    exact .inl h5
   ·
    have hlt := (Zn1 hm h1).1
    refine .inr ⟨b, cur, rfl, by rw [hbel.block b hlt]; exact h6, h7, fun hI => ?_, fun i row hi => ⟨(h9 i row hi).1, fun j d hd => ?_⟩⟩
    ·
     rcases hI with hI | hI
     ·
      exact h8 hI
     ·
      omega
    ·
     obtain ⟨u, k3, k4, k5⟩ := (h9 i row hi).2 j d hd
     exact ⟨u, k3, k4, k5.later hm mono⟩
  ·
   rcases hb with hb | hb
   ·
    exact Nat.lt_of_lt_of_le (hm.imm b hb) hbel.size
   ·
    exact hb.2
theorem Zgp {ys : List D} {h : H} (hn : ys.any Zgc = false) : ys.map (Zie h) = ys.map wk := by
 rw [List.any_eq_false] at hn
 exact List.map_congr_left fun d hd => by
  have := hn d hd
  simp only [Bool.not_eq_true] at this
  show wk (deref h d) = wk d
  rw [Zaq this]
def liveI (g : Mem) : Mem := noM fun b => g.I b ∨ ∃ r c s, g.M r = some (some b, c, s)
theorem Zbn {ds : List D} (h : ∀ d ∈ ds, d.nr = true) : nrs ds = true := by
 induction ds with
 | nil => rfl
 | cons d ds ih => simp [nrs, h d (by simp), ih fun d hd => h d (by simp [hd])]
theorem Zz2 {ds : List (List D)} (h : ∀ d ∈ ds, nrs d = true) : nrr ds = true := by
 induction ds with
 | nil => rfl
 | cons d ds ih => simp [nrr, h d (by simp), ih fun d hd => h d (by simp [hd])]
theorem Zkx [Glob P] {h : H} {g : Mem} {w : World} (hm : HM P h g w) : ∀ (k : Nat) (d : D) (v : Value), Rep w (Zxh g) d v → Zkb h k d → Rep w (liveI g) (Zjh h k d) v ∧ (Zjh h k d).nr = true := by
 intro k
 induction k with
 | zero => exact fun d v hr ho => ⟨hr.clean ho fun b hb => hb, ho⟩
 | succ k ih =>
  intro d v hr ho
  cases d with
  | mrow r off len =>
   obtain ⟨o1, o2⟩ := ho
   have hd := Zbq hm hr o1
   simp only [deref] at hd
   simp only [Zjh]
   generalize rowsOf (.mrow r off len) h = rows at hd o2 ⊢
   refine ⟨?_, ?_⟩
   ·
    cases hd with
    | empty _ a cap hf hmx => exact .empty false a cap hf hmx
    | list _ _ ad cap size cv hI hl hf hmx hs hc hrr =>
     have e : rows.length = (rows.map fun row => row.map (Zjh h k)).length := by simp
     rw [e]
     refine .list false _ ad cap size cv hI (by simpa using hl) (fun h => by cases h) hmx (fun row hrow => ?_) (fun i j row d h1 h2 => ?_) (fun i j row d h1 h2 => ?_)
     ·
      simp only [List.mem_map] at hrow
      obtain ⟨row', h1, rfl⟩ := hrow
      simpa using hs row' h1
     ·
      rw [List.getElem?_map] at h1
      cases hri : rows[i]? with
      | none => rw [hri] at h1; cases h1
      | some row' =>
       rw [hri] at h1; simp at h1; subst h1
       rw [List.getElem?_map] at h2
       cases hrj : row'[j]? with
       | none => rw [hrj] at h2; cases h2
       | some d' => exact hc i j row' d' hri hrj
     ·
      rw [List.getElem?_map] at h1
      cases hri : rows[i]? with
      | none => rw [hri] at h1; cases h1
      | some row' =>
       rw [hri] at h1; simp at h1; subst h1
       rw [List.getElem?_map] at h2
       cases hrj : row'[j]? with
       | none => rw [hrj] at h2; cases h2
       | some d' =>
        rw [hrj] at h2; simp at h2; subst h2
        exact (ih d' _ (hrr i j row' d' hri hrj) (o2 row' (List.mem_of_getElem? hri) d' (List.mem_of_getElem? hrj))).1
   ·
    refine Zz2 fun row hrow => Zbn fun d hd' => ?_
    simp only [List.mem_map] at hrow
    obtain ⟨row', h1, rfl⟩ := hrow
    simp only [List.mem_map] at hd'
    obtain ⟨d', h2, rfl⟩ := hd'
    cases hd with
    | empty => cases h1
    | list _ _ ad cap size cv hI hl hf hmx hs hc hrr =>
     obtain ⟨i, hi⟩ := List.getElem?_of_mem h1
     obtain ⟨j, hj⟩ := List.getElem?_of_mem h2
     exact (ih d' _ (hrr i j row' d' hi hj) (o2 row' h1 d' h2)).2
  | agg cs =>
   obtain ⟨vs, rfl, hv⟩ := hr.agg_inv
   simp only [Zjh]
   refine ⟨.mk_agg ⟨by simpa using hv.1, fun i d x h1 h2 => ?_⟩, Zbn fun d hd => ?_⟩
   ·
    rw [List.getElem?_map] at h1
    cases hci : cs[i]? with
    | none => rw [hci] at h1; cases h1
    | some c =>
     rw [hci] at h1; simp at h1; subst h1
     exact (ih c x (hv.2 i c x hci h2) (ho c (List.mem_of_getElem? hci))).1
   ·
    simp only [List.mem_map] at hd
    obtain ⟨c, h1, rfl⟩ := hd
    obtain ⟨i, hi⟩ := List.getElem?_of_mem h1
    have hlt : i < vs.toList.length := by rw [← hv.1]; exact (List.getElem?_eq_some_iff.1 hi).1
    exact (ih c _ (hv.2 i c _ hi (List.getElem?_eq_getElem hlt)) (ho c h1)).2
  | tuple cs =>
   obtain ⟨vs, rfl, hv⟩ := hr.tuple_inv
   simp only [Zjh]
   refine ⟨.mk_tuple ⟨by simpa using hv.1, fun i d x h1 h2 => ?_⟩, Zbn fun d hd => ?_⟩
   ·
    rw [List.getElem?_map] at h1
    cases hci : cs[i]? with
    | none => rw [hci] at h1; cases h1
    | some c =>
     rw [hci] at h1; simp at h1; subst h1
     exact (ih c x (hv.2 i c x hci h2) (ho c (List.mem_of_getElem? hci))).1
   ·
    simp only [List.mem_map] at hd
    obtain ⟨c, h1, rfl⟩ := hd
    obtain ⟨i, hi⟩ := List.getElem?_of_mem h1
    have hlt : i < vs.toList.length := by rw [← hv.1]; exact (List.getElem?_eq_some_iff.1 hi).1
    exact (ih c _ (hv.2 i c _ hi (List.getElem?_eq_getElem hlt)) (ho c h1)).2
  | iface t d =>
   cases hr with
   | iface _ _ x h1 =>
    obtain ⟨q1, q2⟩ := ih d x h1 ho
    exact ⟨.iface t _ x q1, q2⟩
  | mptr r i off =>
   obtain ⟨o1, o2⟩ := ho
   obtain ⟨bl, hbl⟩ := Option.isSome_iff_exists.1 o1
   simp only [Zjh]
   have ecs : Zwa (.mptr r i off) h = (bl.rows.getD i []).drop off := by simp only [Zwa, hbl]
   rw [ecs] at o2 ⊢
   cases hr with | mptr _ _ _ x hx hU hv =>
   obtain ⟨blk, c, h1, h2, h3, h4, h5⟩ := hm.blk r bl hbl
   obtain ⟨hcm, b, rfl, rfl⟩ := hv _ _ _ h1
   rcases h5 with ⟨h5, _⟩ | ⟨b', cur, h5, k1, k2, k3, k4⟩
   ·
    cases h5
   cases h5
   have key : ∀ j d, ((bl.rows.getD i []).drop off)[j]? = some d → ∃ u, cur[i * P.cellsOf bl.ty + off + j]? = some u ∧ Rep w g d u := by
    intro j d hd
    rw [List.getElem?_drop] at hd
    cases hri : bl.rows[i]? with
    | none => rw [List.getD, hri] at hd; simp at hd
    | some row =>
     rw [List.getD, hri, Option.getD_some] at hd
     obtain ⟨u, p1, _, p3⟩ := (k4 i row hri).2 (off + j) d hd
     exact ⟨u, by rw [Nat.add_assoc]; exact p1, p3⟩
   refine ⟨.eptr _ _ (fun j => cur.getD (i * P.cellsOf bl.ty + off + j) undef) (.inr ⟨r, _, _, h1⟩) (fun j d hd => ?_) (fun j d hd => ?_), Zbn fun d hd => ?_⟩
   ·
    obtain ⟨d', e1, rfl⟩ := Zlc hd
    obtain ⟨u, p1, p2⟩ := key j d' e1
    rw [Zgg, cell_of_row w b _ cur bl.ty (0, 0) (k1.cells hcm), p1]
    simp [Array.getD_eq_getD_getElem?, p1]
   ·
    obtain ⟨d', e1, rfl⟩ := Zlc hd
    obtain ⟨u, p1, p2⟩ := key j d' e1
    have e2 : cur.getD (i * P.cellsOf bl.ty + off + j) undef = u := by simp [Array.getD_eq_getD_getElem?, p1]
    rw [e2]
    exact (ih d' u (Zyc p2) (o2 d' (List.mem_of_getElem? e1))).1
   ·
    obtain ⟨d', e1, rfl⟩ := List.mem_map.1 hd
    obtain ⟨j, hj⟩ := List.getElem?_of_mem e1
    obtain ⟨u, p1, p2⟩ := key j d' hj
    exact (ih d' u (Zyc p2) (o2 d' e1)).2
  | fn f a b =>
   cases hr with
   | fn _ _ _ fs cs hf hc h1 h2 =>
    simp only [Zjh]
    refine ⟨.fn f _ _ fs cs (by simpa using hf) (by simpa using hc) (fun i d x e1 e2 => ?_) (fun i d x e1 e2 => ?_), ?_⟩
    ·
     obtain ⟨d', e3, rfl⟩ := Zlc e1
     exact (ih d' x (h1 i d' x e3 e2) (ho.1 d' (List.mem_of_getElem? e3))).1
    ·
     obtain ⟨d', e3, rfl⟩ := Zlc e1
     exact (ih d' x (h2 i d' x e3 e2) (ho.2 d' (List.mem_of_getElem? e3))).1
    ·
     simp only [D.nr, Bool.and_eq_true]
     refine ⟨Zbn fun d hd => ?_, Zbn fun d hd => ?_⟩
     ·
      obtain ⟨d', e1, rfl⟩ := List.mem_map.1 hd
      obtain ⟨i, hi⟩ := List.getElem?_of_mem e1
      have hlt : i < fs.size := by rw [← hf]; exact (List.getElem?_eq_some_iff.1 hi).1
      exact (ih d' _ (h1 i d' _ hi (Array.getElem?_eq_getElem hlt)) (ho.1 d' e1)).2
     ·
      obtain ⟨d', e1, rfl⟩ := List.mem_map.1 hd
      obtain ⟨i, hi⟩ := List.getElem?_of_mem e1
      have hlt : i < cs.size := by rw [← hc]; exact (List.getElem?_eq_some_iff.1 hi).1
      exact (ih d' _ (h2 i d' _ hi (Array.getElem?_eq_getElem hlt)) (ho.2 d' e1)).2
  | _ => exact ⟨hr.clean ho fun b hb => hb, ho⟩
theorem Zpo [Glob P] {h : H} {g : Mem} {w : World} (hm : HM P h g w) {k : FuncId} {ys : List D} {vs : List Value} {res : D} (hys : Reps w g ys vs) (hct : PureCt P k (ys.map (Zll h)) res) (hfl : flat res = true) (hso : ∀ y ∈ ys, Zkb h 5 y) :
  CallsIn Fence.wide 0 P k vs.toArray w fun e w' => ∃ v g', e = .returned v ∧ Rep w' g' res v ∧ HM P h g' w' ∧ Mono g g' w w' ∧ ∀ r, g'.U r → g.U r := by
 obtain ⟨hbd, hnr, hct⟩ := hct
 have hds : Reps w (liveI g) (ys.map (Zll h)) vs := by
  refine ⟨by simpa using hys.1, fun i d x h1 h2 => ?_⟩
  obtain ⟨y, h3, rfl⟩ := Zlc h1
  exact (Zkx hm 5 y x (Zyc (hys.2 i y x h3 h2)) (hso y (List.mem_of_getElem? h3))).1.wk
 refine (hct w (fun b => g.I b ∨ ∃ r c s, g.M r = some (some b, c, s)) _ (fun b hb => ?_) (hm.gr.later fun b hb => ⟨.inl hb, rfl⟩) hds).mono ?_
 ·
  rcases hb with hb | ⟨r, c, s, hb⟩
  ·
   exact hm.imm b hb
  ·
   exact (Zn1 hm hb).1
 ·
  rintro e w' ⟨v, rfl, hbel, hv⟩
  have mono : Mono g g w w' := ⟨hbel.os, hbel.tape, hbel.output, hbel.size, hbel.drawn, fun _ h => h, fun _ _ => .inl rfl, fun r b c s h => .inl ⟨r, c, s, h⟩, fun _ h => h, fun _ h => .inl h, fun b hb _ => hbel.block b hb⟩
  refine ⟨v, g, rfl, Zly hv hfl, ⟨hm.dead, fun r bl hr => ?_, hm.inj, hm.used, fun b hb => Nat.lt_of_lt_of_le (hm.imm b hb) hbel.size, hm.gr.later (hm.kept mono)⟩, mono, fun _ h => h⟩
  obtain ⟨blk, c, h1, h2, h3, h4, h5⟩ := hm.blk r bl hr
  refine ⟨blk, c, h1, h2, h3, h4, ?_⟩
  rcases h5 with h5 | ⟨b, cur, rfl, h6, h7, h8, h9⟩
  ·
   exact .inl h5
  ·
   refine .inr ⟨b, cur, rfl, by rw [hbel.block b (Zn1 hm h1).1]; exact h6, h7, h8, fun i row hi => ⟨(h9 i row hi).1, fun j d hd => ?_⟩⟩
   obtain ⟨u, k3, k4, k5⟩ := (h9 i row hi).2 j d hd
   exact ⟨u, k3, k4, k5.later hm mono⟩
theorem callD_cf [Glob P] {C : Con} {f : Operand} {xs : List D} {h : H} {b : Nat} (hcf : C.cf = true) (hc : (Zke (words P) C f xs h b).2.2) : Zke (words P) C f xs h b = ((Zke (words P) { C with cf := false, dp := false } f xs h b).1, (Zke (words P) { C with cf := false, dp := false } f xs h b).2.1, (Zke (words P) C f xs h b).2.2) ∧ (Zke (words P) { C with cf := false, dp := false } f xs h b).2.2 := by
 unfold Zke at hc ⊢
 split at hc
 ·
  rename_i k d ys
  by_cases hp : C.pure k = true
  ·
   simp only [hp, hcf, if_true, Bool.false_eq_true, if_false] at hc ⊢
   rw [Zgp hc.2]
   exact ⟨rfl, hc.1, fun h => by rw [hc.2] at h; cases h⟩
  ·
   simp only [hp, if_false] at hc
   exact hc.elim
 ·
  rename_i k first caps ys hnf
  by_cases hp : C.pure k = true
  ·
   cases f <;> simp only [hp, hcf, if_true, Bool.false_eq_true, if_false] at hc ⊢ <;> first
    | (rw [Zgp hc.2]; exact ⟨rfl, hc.1, fun h => by rw [hc.2] at h; cases h⟩)
    | exact absurd rfl (hnf _)
  ·
   simp only [hp, if_false] at hc
   exact hc.elim
 ·
  exact hc.elim
theorem Zyn [Glob P] {C : Con} (hcf : C.cf = false) {h : H} {g : Mem} {w : World} (hm : HM P h g w) {b n : Nat} (hb : ¬ g.U b) (hn : ∀ r, g.U r → r < n) {f : Operand} {xs : List D} {args : Array Operand} {argTypes : Array TypeId} {o : Oper} (ho : o.op = .call { callee := .value f, args, argTypes }) {ρ : Operand → Value} (hρ : ∀ k, ρ (.func k) = .func (.func k) #[] #[])
  (hr : Reps w g xs (ρ f :: args.toList.map ρ)) (hc : (Zke (words P) C f xs h b).2.2) :
  ∃ k vs, (execOp ρ o).run P w = .ok (.enter k vs) w ∧ CallsIn Fence.wide 0 P k vs w fun e w' => ∃ v g', e = .returned v ∧ Rep w' g' (Zke (words P) C f xs h b).1 v ∧ HM P (Zke (words P) C f xs h b).2.1 g' w' ∧ Mono g g' w w' ∧ ∀ r, g'.U r → g.U r ∨ r = b := by
 have hex : ∀ k fs cs, ρ f = .func (.func k) fs cs → Zea P k = true → (execOp ρ o).run P w = .ok (.enter k (fs ++ args.map ρ ++ cs)) w := by
  intro k fs cs hf hbd
  simp [execOp, ho, resolve, Deferred.ofValue, hf, invoke, Zuc hbd]
 unfold Zke at hc ⊢
 split at hc
 ·
  rename_i k d ys
  have hys : Reps w g ys (args.toList.map ρ) := hr.tail
  by_cases hp : C.pure k = true
  ·
   cases hdp : C.dp with
   | true =>
    simp only [hp, hcf, hdp, if_true, Bool.false_eq_true, if_false] at hc ⊢
    obtain ⟨⟨hbd, hnr, hct⟩, hfl, hso⟩ := hc
    have e := hex k #[] #[] (hρ k) hbd
    simp only [Array.empty_append, Array.append_empty] at e
    refine ⟨k, _, e, ?_⟩
    have ea : args.map ρ = (args.toList.map ρ).toArray := by apply Array.ext'; simp
    rw [ea]
    exact (Zpo hm hys ⟨hbd, hnr, hct⟩ hfl hso).mono fun e w' ⟨v, g', q1, q2, q3, q4, q5⟩ => ⟨v, g', q1, q2, q3, q4, fun r hr => .inl (q5 r hr)⟩
   | false =>
   simp only [hp, hcf, hdp, if_true, Bool.false_eq_true, if_false] at hc ⊢
   obtain ⟨⟨hbd, hnr, hct⟩, hfl⟩ := hc
   have e := hex k #[] #[] (hρ k) hbd
   simp only [Array.empty_append, Array.append_empty] at e
   refine ⟨k, _, e, ?_⟩
   have ea : args.map ρ = (args.toList.map ρ).toArray := by apply Array.ext'; simp
   rw [ea]
   exact (Zap hm hys ⟨hbd, hnr, hct⟩ hfl).mono fun e w' ⟨v, g', q1, q2, q3, q4, q5⟩ => ⟨v, g', q1, q2, q3, q4, fun r hr => .inl (q5 r hr)⟩
  ·
   simp only [hp, if_false, Bool.false_eq_true] at hc
 ·
  rename_i k first caps ys _
  have hf := hr.head
  generalize hv : ρ f = vf at hf hr
  cases hf with | fn _ _ _ fs cs l1 l2 r1 r2 =>
  have e : fs ++ args.map ρ ++ cs = (fs.toList ++ args.toList.map ρ ++ cs.toList).toArray := by apply Array.ext'; simp
  have hzs : Reps w g (first ++ ys ++ caps) (fs.toList ++ args.toList.map ρ ++ cs.toList) := Reps.append (Reps.append ⟨by simpa using l1, fun i d x h1 h2 => r1 i d x h1 (by simpa using h2)⟩ hr.tail) ⟨by simpa using l2, fun i d x h1 h2 => r2 i d x h1 (by simpa using h2)⟩
  by_cases hp : C.pure k = true
  ·
   cases hdp : C.dp with
   | true =>
    simp only [hp, hcf, hdp, if_true, Bool.false_eq_true, if_false] at hc ⊢
    refine ⟨k, _, hex k fs cs hv hc.1.1, ?_⟩
    rw [e]
    exact (Zpo hm hzs hc.1 hc.2.1 hc.2.2).mono fun e w' ⟨v, g', q1, q2, q3, q4, q5⟩ => ⟨v, g', q1, q2, q3, q4, fun r hr => .inl (q5 r hr)⟩
   | false =>
   simp only [hp, hcf, hdp, if_true, Bool.false_eq_true, if_false] at hc ⊢
   refine ⟨k, _, hex k fs cs hv hc.1.1, ?_⟩
   rw [e]
   exact (Zap hm hzs hc.1 hc.2).mono fun e w' ⟨v, g', q1, q2, q3, q4, q5⟩ => ⟨v, g', q1, q2, q3, q4, fun r hr => .inl (q5 r hr)⟩
  ·
   simp only [hp, if_false, Bool.false_eq_true] at hc
 ·
  exact hc.elim
theorem Zi1 [Glob P] {C : Con} {h : H} {g : Mem} {w : World} (hm : HM P h g w) {b n : Nat} (hb : ¬ g.U b) (hn : ∀ r, g.U r → r < n) {f : Operand} {xs : List D} {args : Array Operand} {argTypes : Array TypeId} {o : Oper} (ho : o.op = .call { callee := .value f, args, argTypes }) {ρ : Operand → Value} (hρ : ∀ k, ρ (.func k) = .func (.func k) #[] #[])
  (hr : Reps w g xs (ρ f :: args.toList.map ρ)) (hc : (Zke (words P) C f xs h b).2.2) :
  ∃ k vs, (execOp ρ o).run P w = .ok (.enter k vs) w ∧ CallsIn Fence.wide 0 P k vs w fun e w' => ∃ v g', e = .returned v ∧ Rep w' g' (Zke (words P) C f xs h b).1 v ∧ HM P (Zke (words P) C f xs h b).2.1 g' w' ∧ Mono g g' w w' ∧ ∀ r, g'.U r → g.U r ∨ r = b := by
 cases hcf : C.cf with
 | false => exact Zyn hcf hm hb hn ho hρ hr hc
 | true =>
  obtain ⟨e, h2⟩ := callD_cf hcf hc
  rw [e]
  exact Zyn (C := { C with cf := false, dp := false }) rfl hm hb hn ho hρ hr h2
end Go.DL
namespace Go.DL
open Go.RowKit
variable {P : Program} {C : Con}
def Marks (B : Nat) (g : Mem) : List Deferred → World → Prop
 | [], _ => True
 | d :: ds, w => (∃ D, d.target = .collected D ∧ w.heap[D]? = some (.deferred (some [])) ∧ (∀ d' ∈ ds, d'.target ≠ .collected D) ∧ B ≤ D ∧ ¬ g.I D) ∧ Marks B g ds w
theorem Zzc [Glob P] {h : H} {g : Mem} {w : World} (hm : HM P h g w) {D : Nat} {o : Obj} (hD : w.heap[D]? = some o) (ho : ∀ c e f, o ≠ .cells c e f) (ho2 : ∀ c e, o ≠ .map c e := by intro c e; simp) : ∀ r c s, g.M r ≠ some (some D, c, s) := by
 intro r c s e
 ·
  cases hr : h r with
  | none => rw [hm.dead r hr] at e; cases e
  | some bl =>
   obtain ⟨blk, c', h1, _, _, _, h5⟩ := hm.blk r bl hr
   rw [e] at h1
   simp only [Option.some.injEq, Prod.mk.injEq] at h1
   rcases h5 with ⟨h6, _⟩ | ⟨b', cur, h6, h7, _⟩
   ·
    rw [← h1.1] at h6; cases h6
   ·
    rw [← h1.1] at h6; cases h6
    obtain ⟨x, hx, hy⟩ := h7.some
    rw [hD] at hx; cases hx
    rcases hy with ⟨_, _, _, hy⟩ | ⟨_, _, hy⟩
    ·
     exact ho _ _ _ hy
    ·
     exact ho2 _ _ hy
theorem Zqd [Glob P] {h : H} {g g' : Mem} {w w' : World} (hm : HM P h g w) (k : Mono g g' w w') {D : Nat} {o : Obj} (hD : w.heap[D]? = some o) (ho : ∀ c e f, o ≠ .cells c e f) (ho2 : ∀ c e, o ≠ .map c e := by intro c e; simp) : w'.heap[D]? = some o := by
 rw [k.same D (Array.getElem?_eq_some_iff.1 hD).1 (Zzc hm hD ho ho2)]; exact hD
theorem Marks.later [Glob P] {h : H} {g g' : Mem} {w w' : World} (hm : HM P h g w) (k : Mono g g' w w') {B : Nat} : ∀ {ds : List Deferred}, Marks B g ds w → Marks B g' ds w'
 | [], _ => trivial
 | d :: ds, ⟨⟨D, h1, h2, h3, h4, h5⟩, h6⟩ => ⟨⟨D, h1, Zqd hm k h2 (fun c e f => by simp), h3, h4, fun hI => by
   rcases k.inew D hI with e | e | ⟨r, c, s, e⟩
   ·
    exact h5 e
   ·
    have := (Array.getElem?_eq_some_iff.1 h2).1; omega
   ·
    exact Zzc hm h2 (fun c e f => by simp) (fun c e => by simp) r c s e⟩, h6.later hm k⟩
structure Bot where
 n : Nat
 ds : List Deferred
 fn : ∀ d ∈ ds, ∀ D, d.target ≠ .collected D
def Bot.of (n : Nat) : Bot := ⟨n, [], fun _ h => by simp at h⟩
def Dfs (B : Bot) (g : Mem) (ds : List Deferred) (w : World) : Prop := ∃ ms, ds = ms ++ B.ds ∧ Marks B.n g ms w
theorem Dfs.map {B : Bot} {g g' : Mem} {ds : List Deferred} {w w' : World} (h : Dfs B g ds w) (k : ∀ ms, Marks B.n g ms w → Marks B.n g' ms w') : Dfs B g' ds w' :=
 let ⟨ms, h1, h2⟩ := h; ⟨ms, h1, k ms h2⟩
theorem Dfs.start {B : Bot} {g : Mem} {w : World} : Dfs B g B.ds w := ⟨[], rfl, trivial⟩
theorem Dfs.later [Glob P] {h : H} {g g' : Mem} {w w' : World} (hm : HM P h g w) (k : Mono g g' w w') {B : Bot} {ds : List Deferred} (hd : Dfs B g ds w) : Dfs B g' ds w' := hd.map fun _ h => h.later hm k
theorem Dfs.marks {n : Nat} {g : Mem} {ds : List Deferred} {w : World} (h : Dfs (Bot.of n) g ds w) : Marks n g ds w := by
 obtain ⟨ms, h1, h2⟩ := h
 rw [h1]
 show Marks n g (ms ++ []) w
 rw [List.append_nil]
 exact h2
variable {B : Bot}
structure St (P : Program) [Glob P] (B : Bot) (s : S) (g : Mem) (a : Act) (w : World) : Prop where
 sz : a.tmps.size = s.n
 tm : ∀ i, Rep w g (s.t i) (a.tmps.getD i undef)
 mem : HM P s.h g w
 df : Dfs B g a.defers w
 en : s.e.p g w
 bd : B.n ≤ w.heap.size
def Fw (ro : Option Nat) : Fence := { Fence.wide with round := ro }
theorem Znf [Glob P] {ro : Option Nat} {f : FuncId} {args : Array Value} {w : World} {R : Ending → World → Prop} {n m : Nat} (h : CallsIn Fence.wide n P f args w R) : CallsIn (Fw ro) m P f args w R :=
 ⟨trivial, fun cs _ => h.2 cs (room_wide _)⟩
theorem Zzg [Glob P] {s : S} {g : Mem} {a : Act} {w : World} (hs : St P B s g a w) (x : Operand) : Rep w g (s.ev x) (a.eval x) := by
 cases x with
 | tmp t => exact hs.tm t
 | const v => exact Zdr w g v
 | global i => exact .v _
 | func f => exact .fn (.func f) [] [] #[] #[] rfl rfl (by simp) (by simp)
theorem Zki [Glob P] {s : S} {g : Mem} {a : Act} {w : World} (hs : St P B s g a w) : ∀ xs : List Operand, Reps w g (xs.map s.ev) (xs.map a.eval)
 | [] => .nil
 | x :: xs => .cons (Zzg hs x) (Zki hs xs)
theorem Zd2 {w : World} {g : Mem} {d : D} {v : Value} (h : Rep w g d v) (hs : sg d = true) : Rep w g (sd d) v := by
 cases d <;> first | exact h | skip
 cases h with
 | cond _ _ _ ht hf => exact ht hs
theorem Zyd {w : World} {g : Mem} : ∀ {ds : List D} {vs : List Value}, Reps w g ds vs → ds.all sg = true → Reps w g (ds.map sd) vs
 | [], vs, h, _ => by rw [h.of_nil]; exact .nil
 | d :: ds, vs, h, hs => by
  obtain ⟨x, xs, rfl, h1, h2⟩ := h.of_cons
  simp only [List.all_cons, Bool.and_eq_true] at hs
  exact .cons (Zd2 h1 hs.1) (Zyd h2 hs.2)
theorem Zzk [Glob P] {s : S} {g g' : Mem} {a : Act} {w w' : World} (hs : St P B s g a w) (k : Mono g g' w w') {h' : H} (hm : HM P h' g' w') {dst : Option Tmp} (hd : Zhe s.n dst = true) {d : D} {v : Value} (hv : Rep w' g' d v) (ok : Prop) :
  St P B { s with t := s.put dst d, h := h', ok := ok } g' (a.put dst v) w' := by
 refine ⟨?_, fun i => ?_, hm, ?_, Env.later hs.mem k hs.en, Nat.le_trans hs.bd k.size⟩
 ·
  cases dst <;> simp [Act.put, hs.sz]
 ·
  cases dst with
  | none => exact (hs.tm i).later hs.mem k
  | some j =>
   simp only [Zhe, decide_eq_true_eq] at hd
   simp only [S.put, Act.put]
   by_cases e : i = j
   ·
    subst e
    rw [upd_same]
    have : (a.tmps.setIfInBounds i v).getD i undef = v := by
     have : i < a.tmps.size := by rw [hs.sz]; exact hd
     simp [this]
    rw [this]; exact hv
   ·
    rw [upd_ne _ _ _ _ e]
    have : (a.tmps.setIfInBounds j v).getD i undef = a.tmps.getD i undef := by
     simp [Ne.symm e]
    rw [this]; exact (hs.tm i).later hs.mem k
 ·
  have : (a.put dst v).defers = a.defers := by cases dst <;> rfl
  rw [this]; exact hs.df.later hs.mem k
theorem eff_h [Glob P] {W : Words} {op : Op} {xs : List D} {h : H} {b : Nat} (hc : cls C op ≠ .writes) : (eff P W C op xs h b).2.1 = h := by
 unfold eff
 split <;> first
  | rfl
  | (exfalso; exact hc rfl)
  | skip
 ·
  have hb : C.bs = false := by
   cases hb : C.bs with
   | false => rfl
   | true => exact absurd (by simp [cls, hb]) hc
  simp only [hb, Bool.false_eq_true, if_false]
  rfl
 ·
  rename_i f args argTypes
  unfold Zke
  split
  ·
   split <;> first | rfl | (split <;> first | rfl | (split <;> rfl))
  ·
   split <;> first | rfl | (split <;> first | rfl | (split <;> rfl))
  ·
   rfl
theorem Zaw {op : Op} (h : Zln op = true) : ∃ f args argTypes, op = .call { callee := .value f, args, argTypes } := by
 unfold Zln at h
 split at h
 ·
  exact ⟨_, _, _, rfl⟩
 ·
  cases h
theorem Zzp [Glob P] {s : S} {g : Mem} {a : Act} {w : World} (hs : St P B s g a w) {b N : Nat} (hb : ¬ g.U b) (hN : ∀ r, g.U r → r < N) {o : Oper} (hc : (Zmb P (words P) C true o.op ((Zga o.op).map s.ev) s.h b).2.2)
  {ro : Option Nat} {n : Nat} {K : Act → World → Prop} {Q : Exit → Act → World → Prop}
  (hK : ∀ v g' w', Rep w' g' (Zmb P (words P) C true o.op ((Zga o.op).map s.ev) s.h b).1 v → HM P (Zmb P (words P) C true o.op ((Zga o.op).map s.ev) s.h b).2.1 g' w' → Mono g g' w w' → (∀ r, g'.U r → g.U r ∨ r = b) → K (a.put o.dst v) w') :
  o.wpIn (Fw ro) n P a w K Q := by
 have hdef : ∀ c, o.op ≠ .defer c := by
  intro c e
  rw [e] at hc
  simp [Zmb, Zra, eff] at hc
 have hsem : o.semAt (Fw ro).round a.eval = execOp a.eval o := Oper.semAt_eq _ _ _ hdef
 refine ⟨fun _ _ => trivial, ?_⟩
 rw [hsem]
 have done : Does P g w b ((execOp a.eval o).run P w) (Zmb P (words P) C true o.op ((Zga o.op).map s.ev) s.h b).1 (Zmb P (words P) C true o.op ((Zga o.op).map s.ev) s.h b).2.1 → o.uponIn (Fw ro) n P a K Q ((execOp a.eval o).run P w) := by
  rintro ⟨v, g', w', hr, h1, h2, h3, h4⟩
  rcases hr with hr | ⟨hr, rfl⟩
  ·
   rw [hr, Oper.uponIn_value]; exact hK v g' w' h1 h2 h3 h4
  ·
   rw [hr, Oper.uponIn_skip]; exact hK undef g' w' h1 h2 h3 h4
 by_cases hp : Zra o.op = true
 ·
  simp only [Zmb, hp, if_true] at hc hK done ⊢
  exact done (Zg0 hs.mem (Zki hs _) hp rfl hc)
 ·
  simp only [Zmb, hp, if_false, Bool.false_eq_true] at hc hK done
  obtain ⟨h1, h2⟩ := hc
  have hx := Zyd (Zki hs (Zga o.op)) (h1 trivial)
  by_cases hcall : Zln o.op = true
  ·
   obtain ⟨f, args, argTypes, ho⟩ := Zaw hcall
   rw [ho] at h2 hx hK
   simp only [eff, Zga] at h2 hx hK
   obtain ⟨k, vs, hrun, hcalls⟩ := Zi1 hs.mem hb hN ho (fun k => rfl) hx h2
   rw [hrun, Oper.uponIn_enter]
   refine ⟨fun h => by simp [Fw, Fence.wide] at h, Znf (hcalls.mono ?_)⟩
   rintro e w' ⟨v, g', rfl, q1, q2, q3, q4⟩
   exact hK v g' w' q1 q2 q3 q4
  ·
   exact done (Zc4 hs.mem hb hx (by simpa using hcall) h2)
theorem undef_st [Glob P] {s : S} {g : Mem} {a : Act} {w : World} (hs : St P B s g a w) {dst : Option Tmp} (hd : Zhe s.n dst = true) (d : D) (ok : Prop) :
  St P B { s with t := s.put dst (.cond false d), ok := ok } g (a.put dst undef) w :=
 Zzk hs (Mono.refl g w) hs.mem hd (.cond false d undef (fun h => by cases h) (fun _ => rfl)) ok
theorem Zt3 [Glob P] {s : S} {g : Mem} {a : Act} {w : World} (hs : St P B s g a w) {ops : Array Oper} {j : Nat} {want : Bool} (hk : gok (((ops.toList[j]?).bind (·.dst)).elim .junk s.t) = true) :
  (yielded ops a.tmps j == some want) = Zpp (((ops.toList[j]?).bind (·.dst)).elim .junk s.t) want := by
 rw [Array.getElem?_toList] at hk ⊢
 unfold yielded
 cases hd : (ops[j]?).bind (·.dst) with
 | none => rw [hd] at hk; simp [gok] at hk
 | some d =>
  rw [hd] at hk
  simp only [Option.elim, Option.bind_some] at hk ⊢
  have hr := hs.tm d
  have hv : ∀ v, a.tmps.getD d undef = v → v ≠ undef → a.tmps[d]? = some v := by
   intro v e hne
   cases hq : a.tmps[d]? with
   | none =>
    have hq' := Array.getElem?_eq_none_iff.1 hq
    simp only [Array.getD] at e
    rw [dif_neg (by omega)] at e
    exact absurd e.symm hne
   | some x => simp [hq] at e; rw [e]
  generalize hv0 : a.tmps.getD d undef = v0 at hr hv
  generalize hd0 : s.t d = d0 at hr hk
  cases hr with
  | v x =>
   cases v0 <;> simp only [gok] at hk <;> try (cases hk; done)
   rename_i bv
   rw [hv _ rfl (by simp [undef])]
   simp [Zpp]
  | cond g0 d1 _ ht hf =>
   cases g0 with
   | true =>
    have h1 := ht rfl
    cases h1 with
    | v x =>
     cases v0 <;> simp only [gok] at hk <;> try (cases hk; done)
     rename_i bv
     rw [hv _ rfl (by simp [undef])]
     simp [Zpp]
    | _ => simp [gok] at hk
   | false =>
    have h1 := hf rfl
    subst h1
    split
    ·
     rename_i b e
     have hlt := (Array.getElem?_eq_some_iff.1 e).1
     rw [Array.getElem?_eq_getElem hlt] at e
     simp only [Array.getD, dif_pos hlt] at hv0
     simp only [Option.some.injEq] at e
     have := hv0.symm.trans e
     simp [undef] at this
    ·
     have hz : Zpp (.cond false d1) want = false := by
      unfold Zpp
      split
      ·
       rename_i e; cases e
      ·
       rename_i e; cases e; simp
      ·
       rfl
     rw [hz]; rfl
  | _ => simp [gok] at hk
theorem Zfe [Glob P] {s : S} {g : Mem} {a : Act} {w : World} (hs : St P B s g a w) {b i N : Nat} (hb : ¬ g.U (b + i)) (hN : ∀ r, g.U r → r < N) {ops : Array Oper} {o : Oper} (hi : ops[i]? = some o) (hok : (Zhb P (words P) C ops.toList b i o s).ok)
  {ro : Option Nat} {n : Nat} {K : Act → World → Prop} {Q : Exit → Act → World → Prop}
  (hK : ∀ g' a' w', St P B (Zhb P (words P) C ops.toList b i o s) g' a' w' → Mono g g' w w' → (∀ r, g'.U r → g.U r ∨ r = b + i) → K a' w') : wpOpIn (Fw ro) n P ops Q i K a w := by
 unfold wpOpIn
 rw [hi]
 simp only
 unfold Zhb at hok hK
 cases hg : o.guard with
 | none =>
  rw [hg] at hok hK
  simp only at hok hK
  obtain ⟨_, h2, h3⟩ := hok
  have hw : Region.wanted o (yielded ops a.tmps) = true := by simp [Region.wanted, hg]
  rw [if_pos hw]
  exact Zzp hs hb hN h3 fun v g' w' h4 h5 h6 h7 => hK g' _ w' (Zzk hs h6 h5 h2 h4 _) h6 h7
 | some jw =>
  obtain ⟨j, want⟩ := jw
  rw [hg] at hok hK
  simp only at hok hK
  obtain ⟨_, h2, h3, h4, h5⟩ := hok
  have hgv := Zt3 hs (want := want) h3
  have hwt : Region.wanted o (yielded ops a.tmps) = Zpp (((ops.toList[j]?).bind (·.dst)).elim .junk s.t) want := by simp only [Region.wanted, hg]; exact hgv
  rw [hwt]
  generalize Zpp (((ops.toList[j]?).bind (·.dst)).elim .junk s.t) want = gv at *
  cases gv with
  | false =>
   rw [if_neg (by simp)]
   exact ⟨fun _ _ => trivial, hK g _ w (undef_st hs h2 _ _) (Mono.refl g w) fun _ h => .inl h⟩
  | true =>
   rw [if_pos rfl]
   have he : (Zmb P (words P) C true o.op ((Zga o.op).map s.ev) s.h (b + i)).2.1 = s.h := by
    unfold Zmb
    split
    ·
     rfl
    ·
     exact eff_h h4
   refine Zzp hs hb hN (h5 rfl) fun v g' w' q1 q2 q3 q4 => ?_
   rw [he] at q2
   exact hK g' _ w' (Zzk hs q3 q2 h2 (.cond true _ v (fun _ => q1) (fun h => by cases h)) _) q3 q4
theorem Zur [Glob P] {W : Words} {L : List Oper} {b i : Nat} {o : Oper} {s : S} (h : (Zhb P W C L b i o s).ok) : s.ok := by
 unfold Zhb at h
 split at h
 ·
  exact h.1
 ·
  exact h.1
theorem exec1_n [Glob P] {W : Words} {L : List Oper} {b i : Nat} {o : Oper} {s : S} : (Zhb P W C L b i o s).n = s.n ∧ (Zhb P W C L b i o s).nx = s.nx := by
 unfold Zhb
 split <;> exact ⟨rfl, rfl⟩
theorem Zii [Glob P] {W : Words} {L : List Oper} {b : Nat} : ∀ {os : List Oper} {i : Nat} {s : S}, (Zha P W C L b i os s).ok → s.ok
 | [], _, _, h => h
 | _ :: _, _, _, h => Zur (Zii (by exact h))
theorem Zjo [Glob P] {ops : Array Oper} {b : Nat} {ro : Option Nat} {n : Nat} {Q : Exit → Act → World → Prop} {w0 : World} {g0 : Mem} : ∀ (k i : Nat) (s : S) (g : Mem) (a : Act) (w : World), St P B s g a w → Mono g0 g w0 w → (∀ r, g.U r → r < b + i) →
  i + k = ops.size → (Zha P (words P) C ops.toList b i (ops.toList.drop i) s).ok →
  (∀ g' a' w', St P B (Zha P (words P) C ops.toList b i (ops.toList.drop i) s) g' a' w' → Mono g0 g' w0 w' → (∀ r, g'.U r → r < b + ops.size) → Q .normal a' w') →
  wpOpsIn (Fw ro) n P ops Q (List.range' i k) a w := by
 intro k
 induction k with
 | zero =>
  intro i s g a w hs hm hU hk hok hQ
  have : ops.toList.drop i = [] := List.drop_eq_nil_of_le (by simp; omega)
  rw [this] at hQ
  exact hQ g a w hs hm (fun r hr => by have := hU r hr; omega)
 | succ k ih =>
  intro i s g a w hs hm hU hk hok hQ
  have hlt : i < ops.size := by omega
  have hd : ops.toList.drop i = ops[i] :: ops.toList.drop (i + 1) := by rw [List.drop_eq_getElem_cons (by simpa using hlt)]; simp
  rw [hd] at hok hQ
  simp only [Zha] at hok hQ
  rw [List.range'_succ, wpOpsIn_cons]
  refine Zfe hs (b := b) (N := b + i) (fun h => by have := hU _ h; omega) hU (by simp [hlt]) (Zii hok) fun g' a' w' h1 h2 h3 => ?_
  exact ih (i + 1) _ g' a' w' h1 (hm.trans h2) (fun r hr => by rcases h3 r hr with h | h <;> first | omega | (have := hU r h; omega)) (by omega) hok hQ
end Go.DL
namespace Go.DL
open Go.RowKit
variable {P : Program} {C : Con} {B : Bot}
def tmpOf : Operand → Option Tmp
 | .tmp t => some t
 | _ => none
def looks (L : List Oper) (o : Oper) : List Tmp :=
 (Zga o.op).filterMap tmpOf ++ (match o.guard with | some (j, _) => ((L[j]?).bind (·.dst)).toList | none => [])
def meets : Cls → Cls → Bool
 | .none, _ | _, .none => false
 | .reads, .reads => false
 | _, _ => true
def Zhq (C : Con) (L : List Oper) (x y : Oper) : Bool :=
 (match x.dst with | some d => !(looks L y).contains d && y.dst != some d | none => true) &&
 (match y.dst with | some d => !(looks L x).contains d | none => true) && !meets (cls C x.op) (cls C y.op)
def maker (o : Oper) : Bool := (match o.op with | .alloc _ | .box _ _ | .makeSlice .. | .buildSlice .. => true | _ => false) && o.guard.isNone
def Zxk (op : Op) : Bool := match op with
 | .load .. | .indexAddr .. | .slice .. | .lookup .. => true
 | _ => false
def reader (o : Oper) : Bool := Zxk o.op && o.guard.isNone
def Zoc (C : Con) (o : Oper) : Bool := match o.op with
 | .call { callee := .value f, .. } => Zif f
 | _ => true
def Znc (L : List Oper) (x y : Oper) : Bool :=
 (match x.dst with | some d => !(looks L y).contains d && y.dst != some d | none => true) &&
 (match y.dst with | some d => !(looks L x).contains d | none => true)
def Zte (C : Con) (L : List Oper) (x y : Oper) : Bool :=
 Zhq C L x y || (Znc L x y && L.all (Zoc C) && ((maker x && reader y) || (reader x && maker y) || (maker x && maker y)))
def Zgz (acc : List Nat) (o : Oper) : Nat := o.after.toList.foldl (fun s e => if Region.binds .any e then s ||| 2 ^ e.on ||| acc.getD e.on 0 else s) 0
def Zao : List Oper → List Nat → List Nat
 | [], acc => acc
 | o :: os, acc => Zao os (acc ++ [Zgz acc o])
def Zkl (C : Con) (L : List Oper) : Bool :=
 let B := Zao L []
 (List.range L.length).all fun i => (List.range i).all fun j => (B.getD i 0).testBit j || Zte C L (L.getD j default) (L.getD i default)
theorem Zuu : ∀ (os : List Oper) (acc : List Nat), ∃ B, Zao os acc = acc ++ B ∧ B.length = os.length ∧ ∀ (k : Nat) o, os[k]? = some o → B[k]? = some (Zgz (acc ++ B.take k) o)
 | [], acc => ⟨[], by simp [Zao], rfl, fun k o h => by simp at h⟩
 | o :: os, acc => by
  obtain ⟨B, h1, h2, h3⟩ := Zuu os (acc ++ [Zgz acc o])
  refine ⟨Zgz acc o :: B, by simp [Zao, h1], by simp [h2], fun k o' hk => ?_⟩
  cases k with
  | zero => simp at hk; subst hk; simp
  | succ k =>
   simp at hk
   have := h3 k o' hk
   simpa using this
theorem Zup (acc : List Nat) (j : Nat) : ∀ (es : List Edge) (s : Nat), (es.foldl (fun s e => if Region.binds .any e then s ||| 2 ^ e.on ||| acc.getD e.on 0 else s) s).testBit j = true →
  s.testBit j = true ∨ ∃ e ∈ es, Region.binds .any e = true ∧ (e.on = j ∨ (acc.getD e.on 0).testBit j = true)
 | [], s, h => .inl h
 | e :: es, s, h => by
  simp only [List.foldl_cons] at h
  rcases Zup acc j es _ h with h | ⟨e', h1, h2, h3⟩
  ·
   split at h
   ·
    rename_i hb
    simp only [Nat.testBit_or, Bool.or_eq_true] at h
    rcases h with (h | h) | h
    ·
     exact .inl h
    ·
     rw [Nat.testBit_two_pow] at h
     exact .inr ⟨e, by simp, hb, .inl (by simpa using h)⟩
    ·
     exact .inr ⟨e, by simp, hb, .inr h⟩
   ·
    exact .inl h
  ·
   exact .inr ⟨e', by simp [h1], h2, h3⟩
theorem Zzd {L : List Oper} {X : Nat → Prop} (hX : ∀ (i : Nat) o, L[i]? = some o → X i → ∀ e ∈ o.after.toList, Region.binds .any e = true → X e.on) :
  ∀ (i : Nat) o, L[i]? = some o → (∀ e ∈ o.after.toList, Region.binds .any e = true → X e.on) → ∀ j, ((Zao L []).getD i 0).testBit j = true → X j := by
 obtain ⟨BB, h1, h2, h3⟩ := Zuu L []
 simp only [List.nil_append] at h1 h3
 rw [h1]
 intro i
 induction i using Nat.strongRecOn with
 | _ i ih =>
  intro o hi hp j hj
  have hBi := h3 i o hi
  rw [List.getD, hBi, Option.getD_some] at hj
  rcases Zup _ j _ _ hj with h | ⟨e, he, hb, h⟩
  ·
   simp at h
  ·
   rcases h with rfl | h
   ·
    exact hp e he hb
   ·
    rw [List.getD, List.getElem?_take] at h
    split at h
    ·
     rename_i hlt
     have hlB : i < BB.length := by have := (List.getElem?_eq_some_iff.1 hBi).1; exact this
     have hlL : e.on < L.length := by omega
     exact ih e.on hlt L[e.on] (by simp) (hX e.on _ (by simp) (hp e he hb)) j h
    ·
     simp at h
def Zob (P : Program) [Glob P] (W : Words) (C : Con) (L : List Oper) (b i : Nat) (o : Oper) (n : Nat) (ev : Operand → D) (t : Nat → D) (h : H) : D × H × Prop :=
 match o.guard with
 | none => let r := Zmb P W C true o.op ((Zga o.op).map ev) h (b + i); (r.1, r.2.1, Zhe n o.dst = true ∧ r.2.2)
 | some (j, want) =>
  let gd := ((L[j]?).bind (·.dst)).elim .junk t
  let r := Zmb P W C (Zpp gd want) o.op ((Zga o.op).map ev) h (b + i)
  (.cond (Zpp gd want) r.1, h, Zhe n o.dst = true ∧ gok gd = true ∧ cls C o.op ≠ .writes ∧ (Zpp gd want = true → r.2.2))
theorem Zsa [Glob P] {W : Words} {L : List Oper} {b i : Nat} {o : Oper} {s : S} : Zhb P W C L b i o s =
  { s with t := s.put o.dst (Zob P W C L b i o s.n s.ev s.t s.h).1, h := (Zob P W C L b i o s.n s.ev s.t s.h).2.1, ok := s.ok ∧ (Zob P W C L b i o s.n s.ev s.t s.h).2.2 } := by
 unfold Zhb Zob
 cases o.guard <;> rfl
theorem Zhf [Glob P] {W : Words} {L : List Oper} {b i : Nat} {o : Oper} {s s' : S} {n : Nat} {h : H} (he : ∀ x ∈ looks L o, s.t x = s'.t x) : Zob P W C L b i o n s.ev s.t h = Zob P W C L b i o n s'.ev s'.t h := by
 have h1 : (Zga o.op).map s.ev = (Zga o.op).map s'.ev := by
  refine List.map_congr_left fun x hx => ?_
  cases x with
  | tmp t => exact he t (List.mem_append.2 (.inl (List.mem_filterMap.2 ⟨.tmp t, hx, rfl⟩)))
  | _ => rfl
 unfold Zob
 cases hg : o.guard with
 | none => simp only [h1]
 | some jw =>
  obtain ⟨j, want⟩ := jw
  have h2 : ((L[j]?).bind (·.dst)).elim D.junk s.t = ((L[j]?).bind (·.dst)).elim D.junk s'.t := by
   cases hd : (L[j]?).bind (·.dst) with
   | none => rfl
   | some d => exact he d (List.mem_append.2 (.inr (by rw [hg]; simp [hd])))
  simp only [h1, h2]
theorem Zvr [Glob P] {W : Words} {op : Op} {xs : List D} {h h' : H} {b : Nat} (hc : cls C op = .none) : eff P W C op xs h b = ((eff P W C op xs h' b).1, h, (eff P W C op xs h' b).2.2) := by
 unfold eff
 split <;> first
  | rfl
  | (exfalso; exact Cls.noConfusion hc)
  | skip
 ·
  rename_i t n ps
  have hb : C.bs = false := by
   cases hb : C.bs with
   | false => rfl
   | true => simp [cls, hb] at hc
  simp only [hb, Bool.false_eq_true, if_false]
  rfl
 ·
  rename_i f args argTypes
  have hcf : C.cf = true := by
   cases hcf : C.cf with
   | true => rfl
   | false => simp [cls, hcf, Zif] at hc
  unfold Zke
  split
  ·
   simp only [hcf, if_true]
   split <;> rfl
  ·
   simp only [hcf, if_true]
   split <;> rfl
  ·
   rfl
theorem Zhu [Glob P] {W : Words} {g : Bool} {op : Op} {xs : List D} {h h' : H} {b : Nat} (hc : cls C op = .none) : Zmb P W C g op xs h b = ((Zmb P W C g op xs h' b).1, h, (Zmb P W C g op xs h' b).2.2) := by
 unfold Zmb
 split
 ·
  rfl
 ·
  simp only
  rw [Zvr (h := h) (h' := h') hc]
theorem Zbr [Glob P] {W : Words} {L : List Oper} {b i : Nat} {o : Oper} {ev : Operand → D} {t : Nat → D} {n : Nat} {h h' : H} (hc : cls C o.op = .none) :
  Zob P W C L b i o n ev t h = ((Zob P W C L b i o n ev t h').1, h, (Zob P W C L b i o n ev t h').2.2) := by
 unfold Zob
 cases o.guard with
 | none => simp only; rw [Zhu (h := h) (h' := h') hc]
 | some jw => simp only; rw [Zhu (h := h) (h' := h') hc]
theorem Zgf [Glob P] {W : Words} {L : List Oper} {b i : Nat} {o : Oper} {ev : Operand → D} {t : Nat → D} {n : Nat} {h : H} (hc : cls C o.op ≠ .writes) : (Zob P W C L b i o n ev t h).2.1 = h := by
 unfold Zob
 cases o.guard with
 | none =>
  simp only
  unfold Zmb
  split
  ·
   rfl
  ·
   exact eff_h hc
 | some jw => rfl
theorem Zo0 {y : Cls} (h : meets .writes y = false) : y = .none := by cases y <;> simp [meets] at h ⊢
theorem Zuv {x : Cls} (h : meets x .writes = false) : x = .none := by cases x <;> simp [meets] at h ⊢
theorem Zih [Glob P] {W : Words} {L : List Oper} {b i j : Nat} {x y : Oper} {s : S} (hs : Znc L x y = true)
  (key : ∀ (rx ry : D) (hx hy : H) (px py : Prop), (Zob P W C L b i x s.n s.ev s.t s.h) = (rx, hx, px) → (Zob P W C L b j y s.n s.ev s.t s.h) = (ry, hy, py) →
   ∃ hz, Zob P W C L b j y s.n s.ev s.t hx = (ry, hz, py) ∧ Zob P W C L b i x s.n s.ev s.t hy = (rx, hz, px)) : Zhb P W C L b j y (Zhb P W C L b i x s) = Zhb P W C L b i x (Zhb P W C L b j y s) := by
 simp only [Znc, Bool.and_eq_true] at hs
 obtain ⟨h1, h2⟩ := hs
 have nx : ∀ d, x.dst = some d → d ∉ looks L y ∧ y.dst ≠ some d := by
  intro d hd
  rw [hd] at h1
  simp only [Bool.and_eq_true, Bool.not_eq_true', bne_iff_ne] at h1
  exact ⟨by simpa using h1.1, h1.2⟩
 have ny : ∀ d, y.dst = some d → d ∉ looks L x := by
  intro d hd
  rw [hd] at h2
  simpa using h2
 have look : ∀ {u : Oper} {s : S} {dst : Option Tmp} {r : D}, (∀ d, dst = some d → d ∉ looks L u) → ∀ z ∈ looks L u, s.t z = (S.put s dst r) z := by
  intro u s dst r hd z hz
  cases dst with
  | none => rfl
  | some d => exact (upd_ne _ _ _ _ (fun e => hd d rfl (by rw [← e]; exact hz))).symm
 have ly : ∀ {h' : H} {ok' : Prop} {r : D} {n : Nat} {h : H}, Zob P W C L b j y n (S.ev { s with t := s.put x.dst r, h := h', ok := ok' }) (s.put x.dst r) h = Zob P W C L b j y n s.ev s.t h :=
  fun {h' ok' r n h} => (Zhf (s := s) (s' := { s with t := s.put x.dst r, h := h', ok := ok' }) (look fun d hd => (nx d hd).1)).symm
 have lx : ∀ {h' : H} {ok' : Prop} {r : D} {n : Nat} {h : H}, Zob P W C L b i x n (S.ev { s with t := s.put y.dst r, h := h', ok := ok' }) (s.put y.dst r) h = Zob P W C L b i x n s.ev s.t h :=
  fun {h' ok' r n h} => (Zhf (s := s) (s' := { s with t := s.put y.dst r, h := h', ok := ok' }) (look fun d hd => ny d hd)).symm
 rw [Zsa (s := s) (o := x), Zsa (s := s) (o := y), Zsa (o := y), Zsa (o := x)]
 simp only [ly, lx]
 have hput : ∀ r q, S.put { s with t := s.put x.dst r } y.dst q = S.put { s with t := s.put y.dst q } x.dst r := by
  intro r q
  cases hx : x.dst with
  | none => rfl
  | some d =>
   cases hy : y.dst with
   | none => rfl
   | some d' =>
    have hne : d ≠ d' := fun e => (nx d hx).2 (by rw [hy, e])
    funext z
    simp only [S.put, upd]
    by_cases e1 : z = d
    ·
     have : z ≠ d' := fun e => hne (e1 ▸ e)
     simp [e1, hne]
    ·
     simp [e1]
 have hput' : ∀ r q h1 ok1 h2 ok2, S.put { s with t := s.put x.dst r, h := h1, ok := ok1 } y.dst q = S.put { s with t := s.put y.dst q, h := h2, ok := ok2 } x.dst r := fun r q _ _ _ _ => hput r q
 rcases hox : Zob P W C L b i x s.n s.ev s.t s.h with ⟨rx, hx, px⟩
 rcases hoy : Zob P W C L b j y s.n s.ev s.t s.h with ⟨ry, hy, py⟩
 obtain ⟨hz, k1, k2⟩ := key rx ry hx hy px py hox hoy
 simp only [k1, k2]
 congr 1
 ·
  exact hput' _ _ _ _ _ _
 ·
  exact propext ⟨fun ⟨⟨a, b⟩, c⟩ => ⟨⟨a, c⟩, b⟩, fun ⟨⟨a, b⟩, c⟩ => ⟨⟨a, c⟩, b⟩⟩
theorem Zxp [Glob P] {W : Words} {L : List Oper} {b i j : Nat} {x y : Oper} {s : S} (ha : Zhq C L x y = true) : Zhb P W C L b j y (Zhb P W C L b i x s) = Zhb P W C L b i x (Zhb P W C L b j y s) := by
 simp only [Zhq, Bool.and_eq_true, Bool.not_eq_true'] at ha
 obtain ⟨⟨h1, h2⟩, h3⟩ := ha
 refine Zih (by simp only [Znc, Bool.and_eq_true]; exact ⟨h1, h2⟩) ?_
 generalize hX : cls C x.op = cx at h3
 generalize hY : cls C y.op = cy at h3
 ·
  intro rx ry hx hy px py e1 e2
  have ex : hx = (Zob P W C L b i x s.n s.ev s.t s.h).2.1 := by rw [e1]
  have ey : hy = (Zob P W C L b j y s.n s.ev s.t s.h).2.1 := by rw [e2]
  by_cases c1 : cx = .writes
  ·
   have c2 : cy = .none := Zo0 (c1 ▸ h3)
   subst c2
   rw [Zgf (by rw [hY]; simp)] at ey
   subst ey
   refine ⟨hx, ?_, e1⟩
   rw [Zbr (h := hx) (h' := s.h) hY, e2]
  ·
   rw [Zgf (by rw [hX]; exact c1)] at ex
   subst ex
   by_cases c2 : cy = .writes
   ·
    have c3 : cx = .none := Zuv (c2 ▸ h3)
    refine ⟨hy, e2, ?_⟩
    rw [Zbr (h := hy) (h' := s.h) (by rw [hX, c3]), e1]
   ·
    rw [Zgf (by rw [hY]; exact c2)] at ey
    subst ey
    exact ⟨s.h, e2, e1⟩
def Zbc (P : Program) [Glob P] (W : Words) (C : Con) (L : List Oper) (b : Nat) (s : S) (i : Nat) : S := match L[i]? with
 | some o => Zhb P W C L b i o s
 | none => s
theorem Zom [Glob P] {W : Words} {L : List Oper} {b : Nat} : ∀ {l : List Nat} {s : S}, (l.foldl (Zbc P W C L b) s).ok → s.ok
 | [], _, h => h
 | i :: l, s, h => by
  have h1 := Zom (l := l) h
  unfold Zbc at h1
  split at h1
  ·
   exact Zur h1
  ·
   exact h1
theorem Znj [Glob P] {W : Words} {L : List Oper} {b : Nat} : ∀ (k i : Nat) (s : S), i + k = L.length → Zha P W C L b i (L.drop i) s = (List.range' i k).foldl (Zbc P W C L b) s := by
 intro k
 induction k with
 | zero =>
  intro i s hk
  rw [List.drop_eq_nil_of_le (by omega)]
  simp [Zha]
 | succ k ih =>
  intro i s hk
  have hlt : i < L.length := by omega
  rw [List.drop_eq_getElem_cons hlt, List.range'_succ]
  simp only [Zha, List.foldl_cons]
  rw [ih (i + 1) _ (by omega)]
  congr 1
  simp [Zbc, hlt]
def named (n : Nat) : D → Bool
 | .mrow r _ _ => r == n
 | .mptr r _ _ => r == n
 | .mp r => r == n
 | _ => false
theorem kvH_new {a : D} {h : H} {n : Nat} {bl : Blk} (hn : named n a = false) : kvH (upd h n (some bl)) a = kvH h a := by
 cases a with
 | mp r =>
  have : r ≠ n := by simpa [named] using hn
  show (upd h n (some bl) r).bind kvB = (h r).bind kvB
  rw [upd_ne _ _ _ _ this]
 | _ => rfl
theorem Znt [Glob P] {t : TypeId} {ok : Bool} {m k : D} {h : H} {n : Nat} {bl : Blk} (hn : named n m = false) : Zej P t ok m k (upd h n (some bl)) = Zej P t ok m k h := by
 unfold Zej
 rw [kvH_new hn]
theorem Zxv {a : D} {h : H} {n : Nat} {bl : Blk} (hn : named n a = false) : Zwa a (upd h n (some bl)) = Zwa a h := by
 cases a with
 | mptr r i off =>
  have : r ≠ n := by simpa [named] using hn
  simp only [Zwa, upd_ne _ _ _ _ this]
 | _ => rfl
theorem Zl3 [Glob P] {a : D} {h : H} {n : Nat} {bl : Blk} (hn : named n a = false) : ldc P a (upd h n (some bl)) = ldc P a h := by
 unfold ldc
 split
 ·
  rfl
 ·
  exact Zxv hn
theorem Znp [Glob P] {t : TypeId} {x ix : D} {h : H} {n : Nat} {bl : Blk} (hn : named n x = false) : Zzb P t x ix (upd h n (some bl)) = Zzb P t x ix h := by
 unfold Zzb
 cases Zya P t with
 | none => rfl
 | some e =>
  cases x with
  | mrow r off len =>
   have : r ≠ n := by simpa [named] using hn
   cases ix with
   | v y => cases y <;> first | rfl | simp only [upd_ne _ _ _ _ this]
   | _ => rfl
  | list f rows =>
   cases ix with
   | v y => cases y <;> rfl
   | _ => rfl
  | _ => cases ix <;> rfl
theorem Zqo [Glob P] {t : TypeId} {x : D} {l hh m : Option D} {h : H} {n : Nat} {bl : Blk} (hn : named n x = false) : Zdg P t x l hh m (upd h n (some bl)) = Zdg P t x l hh m h := by
 cases x with
 | mrow r off len =>
  have : r ≠ n := by simpa [named] using hn
  simp only [Zdg, upd_ne _ _ _ _ this]
 | v y => cases y <;> rfl
 | list f rows => simp only [Zdg]
 | _ => rfl
theorem Zgh {op : Op} (hc : Zxk op = true) : (∃ t x, op = .load t x) ∨ (∃ t x y, op = .indexAddr t x y) ∨ (∃ t x l hh m, op = .slice t x l hh m) ∨ (∃ t m k ok, op = .lookup t m k ok) := by
 unfold Zxk at hc
 split at hc <;> first
  | cases hc
  | skip
 ·
  exact .inl ⟨_, _, rfl⟩
 ·
  exact .inr (.inl ⟨_, _, _, rfl⟩)
 ·
  exact .inr (.inr (.inl ⟨_, _, _, _, _, rfl⟩))
 ·
  exact .inr (.inr (.inr ⟨_, _, _, _, rfl⟩))
theorem Za0 [Glob P] {W : Words} {op : Op} {xs : List D} {h : H} {n b : Nat} {bl : Blk} (hc : Zxk op = true) (hn : ∀ d ∈ xs, named n d = false) :
  eff P W C op xs (upd h n (some bl)) b = ((eff P W C op xs h b).1, upd h n (some bl), (eff P W C op xs h b).2.2) := by
 rcases Zgh hc with ⟨t, x, rfl⟩ | ⟨t, x, y, rfl⟩ | ⟨t, x, l, hh, m, rfl⟩ | ⟨t, m, k, ok, rfl⟩
 ·
  match xs, hn with
  | [], _ => rfl
  | [a], hn => simp only [eff, still, ldD, Zl3 (hn a (by simp))]
  | _ :: _ :: _, _ => rfl
 ·
  match xs, hn with
  | [], _ => rfl
  | [_], _ => rfl
  | [a, c], hn => simp only [eff, still, Znp (hn a (by simp))]
  | _ :: _ :: _ :: _, _ => rfl
 ·
  match xs, hn with
  | [], _ => rfl
  | a :: al9, hn => simp only [eff, still, Zqo (hn a (by simp))]
 ·
  match xs, hn with
  | [], _ => rfl
  | [_], _ => rfl
  | [a, c], hn => simp only [eff, still, Znt (hn a (by simp))]
  | _ :: _ :: _ :: _, _ => rfl
theorem Zhh {a : D} {n : Nat} (hn : named n a = true) : (∃ off len, a = .mrow n off len) ∨ (∃ i off, a = .mptr n i off) ∨ a = .mp n := by
 cases a with
 | mrow r off len =>
           have : r = n := by simpa [named] using hn
           subst this; exact .inl ⟨_, _, rfl⟩
 | mptr r i off =>
          have : r = n := by simpa [named] using hn
          subst this; exact .inr (.inl ⟨_, _, rfl⟩)
 | mp r =>
      have : r = n := by simpa [named] using hn
      subst this; exact .inr (.inr rfl)
 | _ => cases hn
theorem Zzz [Glob P] {W : Words} {op : Op} {xs : List D} {h : H} {n b : Nat} {bl : Blk} (hc : Zxk op = true) (hno : h n = none) (hok : (eff P W C op xs h b).2.2) :
  eff P W C op xs (upd h n (some bl)) b = ((eff P W C op xs h b).1, upd h n (some bl), (eff P W C op xs h b).2.2) := by
 rcases Zgh hc with ⟨t, x, rfl⟩ | ⟨t, x, y, rfl⟩ | ⟨t, x, l, hh, m, rfl⟩ | ⟨t, m, k, ok, rfl⟩
 ·
  match xs, hok with
  | [a], hok =>
   cases hna : named n a with
   | false => simp only [eff, still, ldD, Zl3 hna]
   | true =>
    exfalso
    simp only [eff, still, ldD] at hok
    obtain ⟨q1, q2, _⟩ := hok
    rcases Zhh hna with ⟨off, len, rfl⟩ | ⟨i, off, rfl⟩ | rfl <;> simp [ldc, Zwa, hno] at q1 <;> omega
 ·
  match xs, hok with
  | [a, c], hok =>
   cases hna : named n a with
   | false => simp only [eff, still, Znp hna]
   | true =>
    rcases Zhh hna with ⟨off, len, rfl⟩ | ⟨i, off, rfl⟩ | rfl
    ·
     exfalso
     simp only [eff, still] at hok
     unfold Zzb at hok
     split at hok
     ·
      unfold Zph at hok
      split at hok
      ·
       exact absurd hok.1 (by simp [isGp])
      ·
       exact hok
     ·
      split at hok
      ·
       rename_i e; cases e
      ·
       rename_i e; cases e
       rw [hno] at hok; exact hok.2.2.2
      ·
       exact hok
    ·
     have e : ∀ h', Zzb P t (.mptr n i off) c h' = Zzb P t (.mptr n i off) c h := by
      intro h'
      unfold Zzb
      cases Zya P t <;> rfl
     simp only [eff, still, e]
    ·
     exfalso
     simp only [eff, still] at hok
     unfold Zzb at hok
     split at hok
     ·
      unfold Zph at hok
      split at hok
      ·
       exact absurd hok.1 (by simp [isGp])
      ·
       exact hok
     ·
      exact hok
 ·
  match xs, hok with
  | a :: al9, hok =>
   cases hna : named n a with
   | false => simp only [eff, still, Zqo hna]
   | true =>
    exfalso
    simp only [eff, still] at hok
    rcases Zhh hna with ⟨off, len, rfl⟩ | ⟨i, off, rfl⟩ | rfl
    ·
     simp only [Zdg] at hok
     split at hok
     ·
      exact hok
     ·
      simp only [hno] at hok; exact hok.2.2.2
    ·
     exact hok
    ·
     exact hok
 ·
  match xs, hok with
  | [a, c], hok =>
   cases hna : named n a with
   | false => simp only [eff, still, Znt hna]
   | true =>
    exfalso
    simp only [eff, still] at hok
    rcases Zhh hna with ⟨off, len, rfl⟩ | ⟨i, off, rfl⟩ | rfl
    ·
     unfold Zej at hok
     split at hok
     ·
      rename_i e; cases e
     ·
      exact hok
    ·
     unfold Zej at hok
     split at hok
     ·
      rename_i e; cases e
     ·
      exact hok
    ·
     unfold Zej at hok
     split at hok
     ·
      rename_i e
      simp only [kvH, hno] at e
      cases e
     ·
      exact hok
theorem Zr0 [Glob P] {W : Words} {op : Op} (hm : (match op with | .alloc _ | .box _ _ | .makeSlice .. | .buildSlice .. => true | _ => false) = true) (xs : List D) (b : Nat) :
  ∃ r p, (∃ bl, ∀ h, eff P W C op xs h b = (r, upd h b (some bl), p)) ∨ ∀ h, eff P W C op xs h b = (r, h, p) := by
 cases op with
 | alloc e =>
  match xs with
  | [] => exact ⟨_, _, .inl ⟨_, fun h => rfl⟩⟩
  | _ :: _ => exact ⟨_, _, .inr fun h => rfl⟩
 | box e x =>
  match xs with
  | [] => exact ⟨_, _, .inr fun h => rfl⟩
  | [a] => exact ⟨_, _, .inl ⟨_, fun h => rfl⟩⟩
  | _ :: _ :: _ => exact ⟨_, _, .inr fun h => rfl⟩
 | buildSlice t n ps =>
  cases hb : C.bs with
  | false => exact ⟨_, _, .inr fun h => by simp only [eff, hb, Bool.false_eq_true, if_false, still]; rfl⟩
  | true =>
   cases he : Zya P t with
   | none => exact ⟨_, _, .inr fun h => by simp only [eff, hb, if_true, Zrl, he]; rfl⟩
   | some e => exact ⟨_, _, .inl ⟨_, fun h => by simp only [eff, hb, if_true, Zrl, he]; rfl⟩⟩
 | makeSlice t x y =>
  match xs with
  | [] => exact ⟨_, _, .inr fun h => rfl⟩
  | [_] => exact ⟨_, _, .inr fun h => rfl⟩
  | _ :: _ :: _ :: _ => exact ⟨_, _, .inr fun h => rfl⟩
  | [a, c] =>
   have key : ∃ r p, (∃ bl, ∀ h, Zsv P t h b a c = (r, upd h b (some bl), p)) ∨ ∀ h, Zsv P t h b a c = (r, h, p) := by
    by_cases hm : ∃ k n k' m, a = .v (.int k n) ∧ c = .v (.int k' m)
    ·
     obtain ⟨k, n, k', m, rfl, rfl⟩ := hm
     cases he : Zya P t with
     | none => exact ⟨_, _, .inr fun h => by simp only [Zsv, he]; rfl⟩
     | some e => exact ⟨_, _, .inl ⟨_, fun h => by simp only [Zsv, he]; rfl⟩⟩
    ·
     refine ⟨.junk, False, .inr fun h => ?_⟩
     unfold Zsv
     split
     ·
      exact absurd ⟨_, _, _, _, rfl, rfl⟩ hm
     ·
      rfl
   exact key
 | _ => cases hm
theorem Zvp [Glob P] {W : Words} {L : List Oper} {b i : Nat} : ∀ (pre : List Nat) (s : S), (∀ j ∈ pre, ∀ x y, L[j]? = some x → L[i]? = some y → Zhq C L x y = true) →
  Zbc P W C L b (pre.foldl (Zbc P W C L b) s) i = pre.foldl (Zbc P W C L b) (Zbc P W C L b s i)
 | [], s, _ => rfl
 | j :: pre, s, h => by
  simp only [List.foldl_cons]
  rw [Zvp pre _ (fun j' hj' => h j' (by simp [hj']))]
  congr 1
  unfold Zbc
  cases hj : L[j]? with
  | none => rfl
  | some x =>
   cases hi : L[i]? with
   | none => rfl
   | some y => exact Zxp (h j (by simp) x y hj hi)
theorem Zdj [Glob P] {W : Words} {L : List Oper} {b i : Nat} {o : Oper} {ev : Operand → D} {t : Nat → D} {n : Nat} (hm : maker o = true) :
  ∃ r p, (∃ bl, ∀ h, Zob P W C L b i o n ev t h = (r, upd h (b + i) (some bl), p)) ∨ ∀ h, Zob P W C L b i o n ev t h = (r, h, p) := by
 simp only [maker, Bool.and_eq_true, Option.isNone_iff_eq_none] at hm
 obtain ⟨h1, h2⟩ := hm
 have hp : Zra o.op = false := by cases ho : o.op <;> rw [ho] at h1 <;> first | rfl | cases h1
 obtain ⟨r, p, h⟩ := Zr0 (P := P) (C := C) (W := W) h1 (((Zga o.op).map ev).map sd) (b + i)
 refine ⟨r, Zhe n o.dst = true ∧ ((true : Bool) = true → ((Zga o.op).map ev).all sg = true) ∧ p, ?_⟩
 rcases h with ⟨bl, h⟩ | h
 ·
  refine .inl ⟨bl, fun hh => ?_⟩
  unfold Zob
  simp only [h2]
  unfold Zmb
  simp only [hp, Bool.false_eq_true, if_false, h]
 ·
  refine .inr fun hh => ?_
  unfold Zob
  simp only [h2]
  unfold Zmb
  simp only [hp, Bool.false_eq_true, if_false, h]
theorem Zvh {op : Op} (hc : Zxk op = true) : Zra op = false := by
 rcases Zgh hc with ⟨t, x, rfl⟩ | ⟨t, x, y, rfl⟩ | ⟨t, x, l, hh, m, rfl⟩ | ⟨t, m, k, ok, rfl⟩ <;> rfl
theorem Zbe {o : Oper} (hr : reader o = true) : Zxk o.op = true ∧ o.guard = none := by
 simp only [reader, Bool.and_eq_true, Option.isNone_iff_eq_none] at hr
 exact hr
theorem Zyo {o : Oper} (hr : reader o = true) : cls C o.op ≠ .writes := by
 rcases Zgh (Zbe hr).1 with ⟨t, x, e⟩ | ⟨t, x, y, e⟩ | ⟨t, x, l, hh, m, e⟩ | ⟨t, m, k, ok, e⟩ <;> simp [e, cls]
theorem Zxo [Glob P] {W : Words} {L : List Oper} {b i m : Nat} {o : Oper} {ev : Operand → D} {t : Nat → D} {n : Nat} {h : H} {bl : Blk} (hr : reader o = true)
  (hn : (∀ d ∈ (Zga o.op).map ev, named m (sd d) = false) ∨ (h m = none ∧ (Zob P W C L b i o n ev t h).2.2)) :
  Zob P W C L b i o n ev t (upd h m (some bl)) = ((Zob P W C L b i o n ev t h).1, upd h m (some bl), (Zob P W C L b i o n ev t h).2.2) := by
 obtain ⟨hc, hg⟩ := Zbe hr
 have hp := Zvh hc
 have key : eff P W C o.op (((Zga o.op).map ev).map sd) (upd h m (some bl)) (b + i) = ((eff P W C o.op (((Zga o.op).map ev).map sd) h (b + i)).1, upd h m (some bl), (eff P W C o.op (((Zga o.op).map ev).map sd) h (b + i)).2.2) := by
  rcases hn with hn | ⟨h1, h2⟩
  ·
   refine Za0 hc fun d hd => ?_
   obtain ⟨d', h1, rfl⟩ := List.mem_map.1 hd
   exact hn d' h1
  ·
   refine Zzz hc h1 ?_
   simp only [Zob, hg, Zmb, hp, Bool.false_eq_true, if_false] at h2
   exact h2.2.2
 simp only [Zob, hg, Zmb, hp, Bool.false_eq_true, if_false, key]
theorem Zsk [Glob P] {t : TypeId} {m k x : D} {h : H} {r : Nat} (hn : h r = none) : (Zcg P t m k x h).1 r = none := by
 unfold Zcg
 split
 ·
  split
  ·
   rename_i q bl hq
   split
   ·
    exact (upd_ne _ _ _ _ (fun e => by subst e; rw [hn] at hq; cases hq)).trans hn
   ·
    exact hn
  ·
   exact hn
 ·
  exact hn
theorem Zd4 [Glob P] {W : Words} {op : Op} {xs : List D} {h : H} {b r : Nat} (hc : (match op with | .call { callee := .value f, .. } => Zif f | _ => true) = true) (hr : r ≠ b) (hn : h r = none) : (eff P W C op xs h b).2.1 r = none := by
 by_cases hw : cls C op ≠ .writes
 ·
  rw [eff_h hw]; exact hn
 ·
  have hw : cls C op = .writes := by simpa using hw
  cases op with
  | alloc e =>
   match xs with
   | [] => simp only [eff, upd_ne _ _ _ _ hr]; exact hn
   | _ :: _ => exact hn
  | box e x =>
   match xs with
   | [] => exact hn
   | [a] => simp only [eff, upd_ne _ _ _ _ hr]; exact hn
   | _ :: _ :: _ => exact hn
  | buildSlice t n ps =>
   have hb : C.bs = true := by
    cases hb : C.bs with
    | true => rfl
    | false => simp [cls, hb] at hw
   simp only [eff, hb, if_true, Zrl]
   split
   ·
    simp only [upd_ne _ _ _ _ hr]; exact hn
   ·
    exact hn
  | store t x y =>
   match xs with
   | [] => exact hn
   | [_] => exact hn
   | _ :: _ :: _ :: _ => exact hn
   | [a, x] =>
    simp only [eff, stH]
    cases a with
    | mptr r' i off =>
     simp only
     cases hq : h r' with
     | none => exact hn
     | some bl =>
      have : r ≠ r' := fun e => by subst e; rw [hn] at hq; cases hq
      simp only [upd_ne _ _ _ _ this]; exact hn
    | _ => exact hn
  | makeMap t ro => simp only [eff, Ztv, upd_ne _ _ _ _ hr]; exact hn
  | makeSlice t x y =>
   match xs with
   | [] | [_] | _ :: _ :: _ :: _ => exact hn
   | [a, c] =>
    simp only [eff]
    unfold Zsv
    split
    ·
     split
     ·
      simp only [upd_ne _ _ _ _ hr]; exact hn
     ·
      exact hn
    ·
     exact hn
  | mapUpdate t m k x =>
   match xs with
   | [] | [_] | [_, _] | _ :: _ :: _ :: _ :: _ => exact hn
   | [a, c, d] => exact Zsk hn
  | insert t m k x =>
   match xs with
   | [] | [_] | [_, _] | _ :: _ :: _ :: _ :: _ => exact hn
   | [a, c, d] => exact Zsk hn
  | call c =>
   obtain ⟨callee, args, ts⟩ := c
   cases callee with
   | value f =>
    simp only at hc
    cases hcf : C.cf <;> simp [cls, hc, hcf] at hw
   | builtin bi =>
    cases bi with
    | append =>
     match xs with
     | [] => exact hn
     | [_] => exact hn
     | _ :: _ :: _ :: _ => exact hn
     | [x, y] =>
      simp only [eff]
      split
      ·
       simp only [Zib]
       split
       ·
        exact hn
       ·
        split
        ·
         simp only [upd_ne _ _ _ _ hr]; exact hn
        ·
         rename_i r' n'
         cases hq : h r' with
         | none => exact hn
         | some bl =>
          simp only [upd_ne _ _ _ _ hr]
          by_cases e : r = r'
          ·
           subst e; exact upd_same _ _ _
          ·
           rw [upd_ne _ _ _ _ e]; exact hn
        ·
         exact hn
      ·
       exact hn
    | _ => simp [cls] at hw
   | _ => simp [cls] at hw
  | _ => simp [cls] at hw
theorem Zji [Glob P] {W : Words} {L : List Oper} {b i r : Nat} {o : Oper} {s : S} (hc : Zoc C o = true) (hr : r ≠ b + i) (hn : s.h r = none) : (Zhb P W C L b i o s).h r = none := by
 rw [Zsa]
 show (Zob P W C L b i o s.n s.ev s.t s.h).2.1 r = none
 unfold Zob
 cases o.guard with
 | some jw => exact hn
 | none =>
  simp only [Zmb]
  split
  ·
   exact hn
  ·
   exact Zd4 hc hr hn
theorem Znm [Glob P] {W : Words} {L : List Oper} {b i : Nat} {x y : Oper} {s : S} (hs : Znc L x y = true) : (Zga y.op).map (Zhb P W C L b i x s).ev = (Zga y.op).map s.ev := by
 simp only [Znc, Bool.and_eq_true] at hs
 refine List.map_congr_left fun z hz => ?_
 cases z with
 | tmp t =>
  rw [Zsa]
  show S.put s x.dst _ t = s.t t
  cases hd : x.dst with
  | none => rfl
  | some d =>
   have h1 := hs.1
   rw [hd] at h1
   simp only [Bool.and_eq_true, Bool.not_eq_true', bne_iff_ne] at h1
   have h2 : d ∉ looks L y := by simpa using h1.1
   refine upd_ne _ _ _ _ fun e => h2 ?_
   subst e
   exact List.mem_append.2 (.inl (List.mem_filterMap.2 ⟨.tmp t, hz, rfl⟩))
 | _ => rfl
theorem Zsd {L : List Oper} {x y : Oper} (h : Zte C L x y = true) : Znc L x y = true := by
 unfold Zte at h
 simp only [Bool.or_eq_true, Bool.and_eq_true] at h
 rcases h with h | h
 ·
  simp only [Zhq, Bool.and_eq_true] at h
  simp only [Znc, Bool.and_eq_true]
  exact h.1
 ·
  exact h.1.1
theorem Zqn [Glob P] {W : Words} {L : List Oper} {b i j : Nat} {x y : Oper} {s : S} (hij : j ≠ i) (ha : Zte C L x y = true)
  (h1 : maker x = true → reader y = true → ∀ d ∈ (Zga y.op).map s.ev, named (b + j) (sd d) = false)
  (h2 : reader x = true → maker y = true → s.h (b + i) = none ∧ (Zob P W C L b j x s.n s.ev s.t s.h).2.2) :
  Zhb P W C L b i y (Zhb P W C L b j x s) = Zhb P W C L b j x (Zhb P W C L b i y s) := by
 have hs := Zsd ha
 unfold Zte at ha
 simp only [Bool.or_eq_true, Bool.and_eq_true] at ha
 rcases ha with ha | ⟨_, (⟨hm, hr⟩ | ⟨hr, hm⟩) | ⟨hm, hm2⟩⟩
 ·
  exact Zxp ha
 ·
  refine Zih hs fun rx ry hx hy px py e1 e2 => ?_
  obtain ⟨r, p, ⟨bl, h⟩ | h⟩ := Zdj (P := P) (C := C) (W := W) (L := L) (b := b) (i := j) (ev := s.ev) (t := s.t) (n := s.n) hm
  ·
   have e3 := Zxo (P := P) (C := C) (W := W) (L := L) (b := b) (i := i) (t := s.t) (n := s.n) (h := s.h) (bl := bl) hr (.inl (h1 hm hr))
   have e4 := h s.h
   rw [e1] at e4
   cases e4
   refine ⟨upd s.h (b + j) (some bl), by rw [e3, e2], ?_⟩
   ·
    have : hy = s.h := by
     have := Zgf (P := P) (W := W) (L := L) (b := b) (i := i) (ev := s.ev) (t := s.t) (n := s.n) (h := s.h) (C := C) (o := y) (Zyo hr)
     rw [e2] at this; exact this
    rw [h hy, this]
  ·
   have e4 := h s.h
   rw [e1] at e4
   cases e4
   exact ⟨hy, e2, h hy⟩
 ·
  refine Zih hs fun rx ry hx hy px py e1 e2 => ?_
  have hxs : hx = s.h := by
   have := Zgf (P := P) (W := W) (L := L) (b := b) (i := j) (ev := s.ev) (t := s.t) (n := s.n) (h := s.h) (C := C) (o := x) (Zyo hr)
   rw [e1] at this; exact this
  subst hxs
  obtain ⟨r, p, ⟨bl, h⟩ | h⟩ := Zdj (P := P) (C := C) (W := W) (L := L) (b := b) (i := i) (ev := s.ev) (t := s.t) (n := s.n) hm
  ·
   have e3 := Zxo (P := P) (C := C) (W := W) (L := L) (b := b) (i := j) (t := s.t) (n := s.n) (h := s.h) (bl := bl) hr (.inr (h2 hr hm))
   have e4 := h s.h
   rw [e2] at e4
   cases e4
   exact ⟨_, e2, by rw [e3, e1]⟩
  ·
   have e4 := h s.h
   rw [e2] at e4
   cases e4
   exact ⟨_, e2, e1⟩
 ·
  refine Zih hs fun rx ry hx hy px py e1 e2 => ?_
  obtain ⟨r1, p1, k1⟩ := Zdj (P := P) (C := C) (W := W) (L := L) (b := b) (i := j) (ev := s.ev) (t := s.t) (n := s.n) hm
  obtain ⟨r2, p2, k2⟩ := Zdj (P := P) (C := C) (W := W) (L := L) (b := b) (i := i) (ev := s.ev) (t := s.t) (n := s.n) hm2
  rcases k1 with ⟨bl1, k1⟩ | k1 <;> rcases k2 with ⟨bl2, k2⟩ | k2 <;> rw [k1] at e1 <;> rw [k2] at e2 <;> cases e1 <;> cases e2
  ·
   refine ⟨_, k2 _, ?_⟩
   rw [k1]
   congr 2
   funext q
   by_cases q1 : q = b + j <;> by_cases q2 : q = b + i <;> simp [upd, q1, q2] <;> omega
  ·
   exact ⟨_, k2 _, k1 _⟩
  ·
   exact ⟨_, k2 _, k1 _⟩
  ·
   exact ⟨_, k2 _, k1 _⟩
theorem Zuz [Glob P] {W : Words} {L : List Oper} {b j : Nat} {y : Oper} {s : S} (h : ∀ x, L[j]? = some x → Znc L x y = true) : (Zga y.op).map (Zbc P W C L b s j).ev = (Zga y.op).map s.ev := by
 unfold Zbc
 cases hj : L[j]? with
 | none => rfl
 | some x => exact Znm (h x hj)
theorem Zhk [Glob P] {W : Words} {L : List Oper} {b : Nat} {y : Oper} : ∀ (pre : List Nat) (s : S), (∀ j ∈ pre, ∀ x, L[j]? = some x → Znc L x y = true) → (Zga y.op).map (pre.foldl (Zbc P W C L b) s).ev = (Zga y.op).map s.ev
 | [], s, _ => rfl
 | j :: pre, s, h => by
  simp only [List.foldl_cons]
  rw [Zhk pre _ fun k hk => h k (by simp [hk]), Zuz (h j (by simp))]
theorem Zfi [Glob P] {W : Words} {L : List Oper} {b i : Nat} {y : Oper} (hi : L[i]? = some y) : ∀ (pre : List Nat) (s : S), (∀ j ∈ pre, j ≠ i ∧ ∀ x, L[j]? = some x → Zte C L x y = true) →
  (reader y = true → ∀ j ∈ pre, ∀ d ∈ (Zga y.op).map s.ev, named (b + j) (sd d) = false) → s.h (b + i) = none → (pre.foldl (Zbc P W C L b) s).ok →
  Zbc P W C L b (pre.foldl (Zbc P W C L b) s) i = pre.foldl (Zbc P W C L b) (Zbc P W C L b s i)
 | [], s, _, _, _, _ => rfl
 | j :: pre, s, h, hr, hh, hok => by
  simp only [List.foldl_cons] at hok ⊢
  have hji := (h j (by simp)).1
  have hok1 := Zom hok
  cases hj : L[j]? with
  | none =>
   have e : ∀ u, Zbc P W C L b u j = u := fun u => by simp only [Zbc, hj]
   rw [e s, e] at *
   exact Zfi hi pre s (fun k hk => h k (by simp [hk])) (fun hry k hk => hr hry k (by simp [hk])) hh hok
  | some x =>
   have hap := (h j (by simp)).2 x hj
   have e : ∀ u, Zbc P W C L b u j = Zhb P W C L b j x u := fun u => by simp only [Zbc, hj]
   have e' : ∀ u, Zbc P W C L b u i = Zhb P W C L b i y u := fun u => by simp only [Zbc, hi]
   have hstep : Zbc P W C L b (Zbc P W C L b s j) i = Zbc P W C L b (Zbc P W C L b s i) j := by
    rw [e, e, e', e']
    refine Zqn hji hap (fun _ hry => hr hry j (by simp)) fun _ _ => ⟨hh, ?_⟩
    rw [e, Zsa] at hok1
    exact hok1.2
   rw [← hstep]
   unfold Zte at hap
   by_cases hcp : L.all (Zoc C) = true
   ·
    refine Zfi hi pre _ (fun k hk => h k (by simp [hk])) (fun hry k hk => ?_) ?_ hok
    ·
     rw [e, Znm (Zsd ((h j (by simp)).2 x hj))]
     exact hr hry k (by simp [hk])
    ·
     rw [e]
     refine Zji (List.all_eq_true.1 hcp x (List.mem_of_getElem? hj)) (by omega) hh
   ·
    have hall : ∀ k ∈ pre, ∀ x y', L[k]? = some x → L[i]? = some y' → Zhq C L x y' = true := by
     intro k hk x' y' hx' hy'
     rw [hi] at hy'; cases hy'
     have := (h k (by simp [hk])).2 x' hx'
     unfold Zte at this
     have hcp' : L.all (Zoc C) = false := by simpa using hcp
     simpa [hcp'] using this
    exact Zvp pre _ hall
theorem Zbt {w : World} {g : Mem} {d : D} {v : Value} {n : Nat} (hr : Rep w g d v) (hg : sg d = true) (hn : named n (sd d) = true) : g.U n := by
 have key : ∀ {d : D}, Rep w g d v → named n d = true → g.U n := by
  intro d hr hn
  cases hr with
  | mrow r off len x hx hU h => exact (show r = n by simpa [named] using hn) ▸ hU
  | mptr r i off x hx hU h => exact (show r = n by simpa [named] using hn) ▸ hU
  | mp r x hx hU h => exact (show r = n by simpa [named] using hn) ▸ hU
  | _ => cases hn
 cases d with
 | cond g d =>
  cases hr with
  | cond _ _ _ ht hf => exact key (ht hg) hn
 | _ => exact key hr hn
theorem Zk4 [Glob P] {s : S} {g : Mem} {a : Act} {w : World} (hs : St P B s g a w) : St P B s g a { w with drawn := w.drawn + 1 } ∧ Mono g g w { w with drawn := w.drawn + 1 } := by
 have m : Mono g g w { w with drawn := w.drawn + 1 } := ⟨rfl, rfl, rfl, Nat.le_refl _, Nat.le_succ _, fun _ h => h, fun _ _ => .inl rfl, fun r _ c s h => .inl ⟨r, c, s, h⟩, fun _ h => h, fun _ h => .inl h, fun _ _ _ => rfl⟩
 refine ⟨⟨hs.sz, fun i => (hs.tm i).later hs.mem m, ⟨hs.mem.dead, fun r bl hr => ?_, hs.mem.inj, hs.mem.used, hs.mem.imm, hs.mem.gr.later (hs.mem.kept m)⟩, hs.df.later hs.mem m, Env.later hs.mem m hs.en, hs.bd⟩, m⟩
 obtain ⟨blk, c, h1, h2, h3, h4, h5⟩ := hs.mem.blk r bl hr
 refine ⟨blk, c, h1, h2, h3, h4, ?_⟩
 rcases h5 with h5 | ⟨b, cur, rfl, h6, h7, h8, h9⟩
 ·
  exact .inl h5
 ·
  exact .inr ⟨b, cur, rfl, h6, h7, h8, fun i row hi => ⟨(h9 i row hi).1, fun j d hd => by
   obtain ⟨u, k3, k4, k5⟩ := (h9 i row hi).2 j d hd
   exact ⟨u, k3, k4, k5.later hs.mem m⟩⟩⟩
def todo (n : Nat) (listed : Array Bool) : List Nat := (List.range n).filter fun i => !listed.getD i false
end Go.DL
