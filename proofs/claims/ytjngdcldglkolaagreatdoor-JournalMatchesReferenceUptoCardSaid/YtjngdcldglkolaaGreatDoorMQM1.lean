/-
  MANY TEXTS OF MINE IN ONE (a claim has a limit of files): DCore, DRep, DExec, DPure, DMem, DOps, DApp, DEff, DBuild, DMap, DEff2, DCall, DRegion, DDraw, DFt, DW. Conditions: none.
-/
import Derived.WalkKit
import Derived.ControlIn
import Derived.CallsIn
import Derived.OrdersIn
import Derived.Laws.StructEq
import Derived.Great.BuildSlice
import Derived.MapKept
import Derived.Laws.MakeOwn
import Derived.WideKeyRuns
import Derived.RangeFuncLeaves
import Derived.Deep.LoopGhost
import Derived.RangeFuncRecord
set_option linter.unusedVariables false
set_option linter.unusedSimpArgs false
set_option linter.unusedSectionVars false
set_option linter.defProp false
namespace Go
def XV := @List.length_append
def XW := @Bool.and_eq_true
def XX := @decide_eq_true_eq
def XY := @Nat.le_refl
def XZ := @if_neg
def X0 := @List.cons_append
def X3 := @List.nil_append
def X4 := @List.take_succ_cons
def X5 := @List.eq_nil_of_length_eq_zero
def X6 := @if_pos
def X7 := @List.drop_zero
def X8 := @List.drop_succ_cons
def X9 := @decide_eq_false_iff_not
def Ya := @List.getElem?_eq_some_iff
def Yb := @List.map_cons
def Yc := @Nat.le_trans
def Yd := @Bool.or_eq_true
def Ye := @Bool.not_eq_true'
def Yf := @List.take_zero
def Yg := @List.getElem?_eq_getElem
def Yh := @Option.some.injEq
def Yi := @List.length_drop
def Yj := @Bool.or_eq_false_iff
def Yk := @Array.getElem?_eq_some_iff
def Yl := @List.mem_of_getElem?
def Ym := @Bool.false_eq_true
def Yo := @Nat.zero_le
def Yp := @List.take_of_length_le
def Yq := @List.mem_singleton
def Yr := @Nat.sub_self
def Yt := @List.map_nil
def Yu := @List.length_take
def Yv := @List.getElem_mem
def Yw := @Bool.not_eq_false'
def Yx := @List.mem_append
def Yy := @List.drop_eq_getElem_cons
def Yz := @List.append_assoc
def YA := @Bool.and_eq_false_iff
def YB := @Nat.lt_of_lt_of_le
def YC := @List.append_nil
def YD := @List.set_cons_zero
def YE := @beq_iff_eq
def YF := @List.length_nil
def YG := @List.take_length
def YH := @List.length_cons
def YI := @Prod.mk.injEq
def YJ := @List.getElem?_map
def YK := @List.mem_cons
def YL := @List.set_cons_succ
def YM := @List.map_append
def YN := @Option.isSome_iff_exists
def YO := @List.foldl_cons
def YP := @List.cons.injEq
def YQ := @List.all_eq_true
def YR := @Option.map_some
def YS := @List.getElem?_append_right
def YT := @Option.getD_some
def YU := @List.drop_eq_nil_of_le
def YV := @Nat.lt_or_ge
def YW := @List.getElem?_append_left
def YX := @Classical.byContradiction
def YY := @List.getElem?_take
def YZ := @List.getElem?_drop
def Y0 := @List.range'_succ
def Y1 := @decide_eq_true
def Y2 := @List.pairwise_cons
def Y3 := @Nat.mul_le_mul_right
def Y4 := @List.range_eq_range'
def Y5 := @List.mem_map
def Y6 := @decide_eq_false
def Y7 := @eq_false
def Y8 := @List.take_add_one
def Y9 := @if_false
def Za := @Bool.eq_iff_iff
def Zb := @Option.isNone_iff_eq_none
def Zc := @List.foldl_append
def Zd := @List.getElem_of_mem
def Ze := @List.range'_append_1
def Zf := @List.getElem?_of_mem
def Zg := @List.drop_length
def Zh := @Array.getElem?_toList
def Zi := @List.pairwise_append
def Zj := @of_decide_eq_true
def Zk := @List.length_map
def Zl := @Array.ext'
def Zm := @List.take_append_drop
def Zo := @Nat.add_mul
def Zp := @List.mem_range
def Zq := @Array.getD_eq_getD_getElem?
def Zr := @List.length_pos_iff
def Zt := @List.drop_drop
def Zu := @Bool.true_and
def Zv := @Nat.add_zero
def Zw := @Nat.mod_eq_of_lt
def Zx := @bne_eq_false_iff_eq
def Zy := @beq_eq_false_iff_ne
def Zz := @List.map_congr_left
def ZA := @List.filter_eq_self
def ZB := @Classical.choose_spec
def ZC := @List.pairwise_singleton
def ZE := @Nat.mul_comm
def ZF := @List.not_mem_nil
def ZG := @List.foldl_nil
def ZH := @UInt8.toNat_inj
def ZI := @decide_eq_decide
def ZJ := @Nat.le_add_right
def ZK := @if_true
def ZL := @bne_iff_ne
def ZM := @List.pairwise_iff_getElem
def ZN := @Array.getElem?_eq_getElem
def ZO := @List.getElem?_eq_none
def ZP := @Array.eq_empty_of_size_eq_zero
def ZQ := @List.map_take
def ZR := @Bool.or_false
def ZT := @Bool.and_self
def ZU := @List.mem_append_left
def ZV := @List.flatMap_cons
def ZW := @Nat.min_eq_left
def ZX := @List.pairwise_lt_range
def ZY := @List.getElem?_set_self
def ZZ := @Bool.and_assoc
def Z0 := @Nat.mul_add_mod
def Z4 := @List.mem_filter
def Z5 := @List.length_set
def Z6 := @List.filter_congr
def Z7 := @List.Pairwise.filter
def Z8 := @Option.some.inj
def Z9 := @List.mem_filterMap
end Go
namespace Go.DL
theorem ez9 {p : Prop} (h : p := by first | omega | (intros; omega) | (intro h; cases h) | (intro h; simp at h; done)) : p := h
end Go.DL
namespace Go.DL
theorem om {p:Prop}(h:p:=by omega):p:=h
theorem oW {p:Prop}(h:p:=by first|omega|(dsimp only;omega)):p:=h
inductive D where
 | v (x:Value)
 | agg (cs:List D)
 | list (full:Bool) (rows:List (List D))
 | eptr (cs:List D)
 | mrow (r off len:Nat)
 | mptr (r i off:Nat)
 | fn (f:Fn) (first caps:List D)
 | tuple (ds:List D)
 | iface (t:TypeId) (d:D)
 | mp (r:Nat)
 | fmap (kv:List D)
 | cond (g:Bool) (d:D)
 | junk
 deriving Inhabited
abbrev D.i (n:Int):D:=.v (.int .i64 n)
abbrev D.b (x:Bool):D:=.v (.bool x)
def D.cells:D->List D
 | .agg cs=>cs
 | d=>[d]
def D.one:D->Bool
 | .v (.agg _) | .v (.tuple _)=>false
 | .agg _ | .tuple _ | .cond _ _ | .junk=>false
 | _=>true
def MB (_:Program):Type:=Nat->Option (List Value)
abbrev Glob (P:Program):=Inhabited (MB P)
def Glob.tab (P:Program) [Glob P]:Nat->Option (List Value):=(default:MB P)
structure Blk where
 ty:TypeId
 rows:List (List D)
abbrev H:=Nat->Option Blk
def upd {α:Type}(f:Nat->α) (i:Nat) (x:α):Nat->α:=fun j=>if j=i then x else f j
theorem upd_same {α:Type}(f:Nat->α) (i:Nat) (x:α):upd f i x i=x:=by simp[upd]
theorem upd_ne {α:Type}(f:Nat->α) (i j:Nat) (x:α) (h:j≠i):upd f i x j=f j:=by simp[upd,h]
def vR:Value->D
 | .slice a n c=>if a.isNone&&n==0&&c==0 then .list true [] else .v (.slice a n c)
 | .func f fs cs=>if fs.size==0&&cs.size==0 then .fn f [] [] else .v (.func f fs cs)
 | x=>.v x
def ic:Value->D
 | .agg cs=>.agg (cs.toList.map vR)
 | x=>vR x
section
variable (P : Program) [Glob P]
def aK (t:TypeId):Bool:=match P.underlying t with|some (.struct _)|some (.array _ _)=>true|_=>false
def zeroCells (t:TypeId):List D:=match (P.info? t).bind (·.zero) with|some z=>(ic z).cells|none=>[]
def aC (t:TypeId):Bool:=match (P.info? t).bind (·.zero) with|some z=>z.cells.size==P.cellsOf t|none=>false
def aR (s:TypeId) (f:Nat):Option (Nat×TypeId):=match P.underlying s with|some (.struct fs)=>(fs[f]?).map fun f=>(f.offset,f.type)|_=>none
def bf (t:TypeId):Option TypeId:=match P.underlying t with|some (.slice e)=>some e|_=>none
def nW (t:TypeId) (cs:List D):D:=if aK P t then .agg (cs.take (P.cellsOf t)) else cs.headD .junk
def dP (a:D) (h:H):List D:=match a with
 | .eptr cs=>cs
 | .mptr r i off=>match h r with
  | some b=>(b.rows.getD i []).drop off
  | none=>[]
 | _=>[]
def fD (a:D) (h:H):List D:=match a with
 | .v (.pointer (some ⟨x,o,none⟩))=>match Glob.tab P x with
  | some cs=>(cs.drop o).map D.v
  | none=>[]
 | a=>dP a h
def lN (t:TypeId) (a:D) (h:H):D×Prop :=
 (nW P t (fD P a h),P.cellsOf t<=(fD P a h).length/\0<P.cellsOf t/\(P.underlying t).isSome=true)
def splice (row:List D) (off:Nat) (cs:List D):List D:=row.take off++cs++row.drop (off+cs.length)
def lH (t:TypeId) (a x:D) (h:H):H×Prop:=match a with
 | .mptr r i off=>match h r with
  | some b=>(upd h r (some { b with rows:=b.rows.set i (splice (b.rows.getD i []) off x.cells) }),
    x.cells.length=P.cellsOf t/\0<P.cellsOf t/\i<b.rows.length/\off+x.cells.length<=(b.rows.getD i []).length/\x.cells.all D.one=true)
  | none=>(h,False)
 | _=>(h,False)
def pY (n:Nat):D->D
 | .eptr cs=>.eptr (cs.drop n)
 | .mptr r i off=>.mptr r i (off+n)
 | .v (.pointer (some p))=>.v (.pointer (some (p.add n)))
 | _=>.junk
def mM:D->Bool
 | .eptr _ | .mptr _ _ _=>true
 | .v (.pointer (some _))=>true
 | _=>false
def sG (s:TypeId) (f:Nat) (a:D):D×Prop:=match aR P s f with
 | some (off,t)=>(pY off a,mM a=true/\P.cellsOf t≠0)
 | none=>(.junk,False)
def wL (s:TypeId) (f:Nat) (a:D):D×Prop:=match aR P s f,a with
 | some (off,t),.agg cs=>(nW P t (cs.drop off),off+P.cellsOf t<=cs.length/\0<P.cellsOf t/\(P.underlying t).isSome=true)
 | _,_=>(.junk,False)
def rowsOf (d:D) (h:H):List (List D):=match d with
 | .list _ rows=>rows
 | .mrow r off len=>match h r with
  | some b=>(b.rows.drop off).take len
  | none=>[]
 | .v (.string s)=>s.data.toList.map fun b=>[.v (.int .u8 b.toNat)]
 | _=>[]
def aV (d:D):Nat:=match d with
 | .list _ rows=>rows.length
 | .mrow _ _ len=>len
 | .v (.string s)=>s.size
 | _=>0
def jS (t:TypeId):Option (Nat×TypeId):=match P.underlying t with|some (.array n e)=>some (n,e)|_=>none
def ol:D->Bool
 | .v (.pointer (some _)) | .eptr _ | .mptr _ _ _=>true
 | _=>false
def oz (t:TypeId) (x ix:D):D×Prop:=match jS P t,ix with
 | some (n,e),.v (.int _ k)=>(pY (k.toNat*P.cellsOf e) x,ol x=true/\0<=k/\k<n/\0<P.cellsOf e)
 | _,_=>(.junk,False)
def fG (t:TypeId) (x ix:D) (h:H):D×Prop:=match bf P t with
 | none=>oz P t x ix
 | some e=>match x,ix with
  | .list _ rows,.v (.int _ n)=>(.eptr (rows.getD n.toNat []),0<=n/\n<rows.length/\0<P.cellsOf e/\(rows.getD n.toNat []).length=P.cellsOf e)
  | .mrow r off len,.v (.int _ n)=>(.mptr r (off+n.toNat) 0,0<=n/\n<len/\0<P.cellsOf e/\match h r with|some bl=>bl.ty=e|none=>False)
  | _,_=>(.junk,False)
def gV (k:IntKind) (n:Int):Prop:=k.min<=n/\n<=k.max
def iM:D->D->Bool
 | .v (.int _ a),.v (.int _ b)=>a==b
 | .v (.bool a),.v (.bool b)=>a==b
 | .v (.string a),.v (.string b)=>a.data.toList==b.data.toList
 | _,_=>false
def iL:List D->List D->Bool
 | x::xs,y::ys=>iM x y&&iL xs ys
 | _,_=>true
inductive Kd where
 | b|i|s
def p9:Kd->D->D->Bool
 | .i,.v (.int k _),.v (.int k' _)=>k==k'
 | .b,.v (.bool _),.v (.bool _)=>true
 | .s,.v (.string _),.v (.string _)=>true
 | _,_,_=>false
def jQ:List Kd->List D->List D->Bool
 | k::ks,x::xs,y::ys=>p9 k x y&&jQ ks xs ys
 | [],[],[]=>true
 | _,_,_=>false
def bY (t:TypeId) (op:BinOp) (x y:Value):Value×Prop:=match op,x,y with
 | .add,.int k a,.int k' b=>if k.signed then (.int k (a+b),k=k'/\gV k (a+b)) else (.int k (k.wrap (a+b)),k=k')
 | .sub,.int k a,.int k' b=>if k.signed then (.int k (a-b),k=k'/\gV k (a-b)) else (.int k (k.wrap (a-b)),k=k')
 | .mul,.int k a,.int k' b=>if k.signed then (.int k (a*b),k=k'/\gV k (a*b)) else (.int k (k.wrap (a*b)),k=k')
 | .quo,.int k a,.int k' b=>(.int k (a / b),k=k'/\0<=a/\1<=b/\gV k a)
 | .rem,.int k a,.int k' b=>(.int k (a % b),k=k'/\0<=a/\1<=b)
 | .lss,.int k a,.int k' b=>(.bool (decide (a<b)),k=k')
 | .leq,.int k a,.int k' b=>(.bool (decide (a<=b)),k=k')
 | .gtr,.int k a,.int k' b=>(.bool (decide (b<a)),k=k')
 | .geq,.int k a,.int k' b=>(.bool (decide (b<=a)),k=k')
 | .eql,.int k a,.int k' b=>(.bool (a==b),k=k')
 | .neq,.int k a,.int k' b=>(.bool (a != b),k=k')
 | .eql,.bool a,.bool b=>(.bool (a==b),P.underlying t=some .bool)
 | .neq,.bool a,.bool b=>(.bool (a != b),P.underlying t=some .bool)
 | .eql,.string a,.string b=>(.bool (a.data.toList==b.data.toList),True)
 | .neq,.string a,.string b=>(.bool (a.data.toList != b.data.toList),True)
 | .add,.string a,.string b=>(.string (a++b),a.size+b.size<=9223372036854775807)
 | .lss,.string a,.string b=>(.bool (Go.Op.bytesLess a.data.toList b.data.toList),True)
 | .leq,.string a,.string b=>(.bool (Go.Op.bytesLess a.data.toList b.data.toList||a.data.toList==b.data.toList),True)
 | .gtr,.string a,.string b=>(.bool !(Go.Op.bytesLess a.data.toList b.data.toList||a.data.toList==b.data.toList),True)
 | .geq,.string a,.string b=>(.bool !(Go.Op.bytesLess a.data.toList b.data.toList),True)
 | .shl,.int k a,.int _ b=>(.int k (k.wrap (a*2^(min b.toNat k.bits))),0<=b)
 | .shr,.int k a,.int _ b=>(.int k (a.fdiv (2^(min b.toNat k.bits))),0<=b)
 | .or,.int k a,.int k' b=>(.int k (k.wrap (BitVec.ofInt k.bits a ||| BitVec.ofInt k.bits b).toNat),k=k')
 | .xor,.int k a,.int k' b=>(.int k (k.wrap (BitVec.ofInt k.bits a ^^^ BitVec.ofInt k.bits b).toNat),k=k')
 | _,_,_=>(undef,False)
def kindOf (P:Program) [Glob P] (t:TypeId):Option Kd:=match P.underlying t with
 | some .bool=>some .b
 | some (.int _)=>some .i
 | some .string=>some .s
 | _=>none
def qK (P:Program) [Glob P]:Nat->List Field->Option (List Kd)
 | _,[]=>some []
 | i, f :: fs => if f.name != "_" && f.offset == i then (match kindOf P f.type, qK P (i + 1) fs with
  | some k,some ks=>some (k::ks)
  | _,_=>none) else none
def kF (P:Program) [Glob P] (t:TypeId):Option (List Kd):=match P.underlying t with
 | some (.struct fs)=>if !P.stoodInHeld t && !P.eqGuardType P.depth t then qK P 0 fs.toList else none
 | _=>none
def o8 (t:TypeId) (op:BinOp) (x y:D):D×Prop:=match x,y with
 | .v a,.v b=>(.v (bY P t op a b).1,(bY P t op a b).2)
 | .agg xs,.agg ys=>match op with
  | .eql=>(.v (.bool (iL xs ys)),match kF P t with|some ks=>jQ ks xs ys=true|none=>False)
  | .neq=>(.v (.bool (!iL xs ys)),match kF P t with|some ks=>jQ ks xs ys=true|none=>False)
  | _=>(.junk,False)
 | _,_=>(.junk,False)
end
def iI:D->D->Bool
 | .agg xs,.agg ys=>iL xs ys
 | x,y=>iM x y
def gz:List D->D->Option D
 | k::v::l,q=>if iI q k then some v else gz l q
 | _,_=>none
def fE:List D->D->D->List D
 | k::v::l,q,x=>if iI q k then q::x::l else k::v::fE l q x
 | _,q,x=>[q,x]
def gQ (P:Program) (t:TypeId) (d:D):Bool:=match P.underlying t,d with
 | some .string,.v (.string _)=>true
 | some (.int k),.v (.int k' _)=>k==k'
 | some .bool,.v (.bool _)=>true
 | _,_=>false
def gH (P:Program):Nat->List Field->List D->Bool
 | i, f :: fs, d :: ds => f.name != "_" && f.offset == i && gQ P f.type d && gH P (i + 1) fs ds
 | _,[],[]=>true
 | _,_,_=>false
def gU (P:Program) (t:TypeId) (d:D):Bool:=match P.underlying t,d with
 | some (.struct fs),.agg cs=>gH P 0 fs.toList cs
 | _,d=>gQ P t d
def gB (P:Program) (t:TypeId):List D->Bool
 | k::_::l=>gU P t k&&gB P t l
 | []=>true
 | _=>false
def ku (P:Program) [Glob P] (t:TypeId):Bool:=match P.underlying t with
 | some (.struct _)=>(kF P t).isSome
 | some .string|some (.int _)|some .bool=>true
 | _=>false
def pF (P:Program) (t:TypeId):D:=match (P.info? t).bind (·.zero) with|some z=>ic z|none=>.junk
def zy (P:Program) (t:TypeId):Bool:=((P.info? t).bind (·.zero)).isSome
def kr (P:Program) (t:TypeId):Option (TypeId×TypeId):=match P.underlying t with|some (.map k e)=>some (k,e)|_=>none
def jm (bl:Blk):Option (List D):=match bl.rows with
 | [[.iface 0 (.tuple kv)]]=>some kv
 | _=>none
def eX (kv:List D):List (List D):=[[.iface 0 (.tuple kv)]]
def nY (h:H):D->Option (List D)
 | .mp r=>(h r).bind jm
 | .fmap kv=>some kv
 | _=>none
end Go.DL
namespace Go.DL
open Go.RowKit
structure Mem where
 M:Nat->Option (Option Nat×Nat×Nat)
 U:Nat->Prop
 I:Nat->Prop
theorem block_add (a:Addr) (n:Nat):(a.add n).block=a.block:=by unfold Addr.add;split<;>rfl
theorem add_add' (a:Addr) (i j:Nat):(a.add i).add j=a.add (i+j):=by
 unfold Addr.add
 by_cases hi:i=0<;>by_cases hj:j=0<;>simp[hi,hj,Nat.add_assoc]
theorem jy (b o n:Nat):(⟨b,o,none⟩:Addr).add n=⟨b,o+n,none⟩:=by
 unfold Addr.add;split<;>simp_all
def jl (es:Array MapEntry):List Value:=es.toList.flatMap fun e=>[e.key,e.val]
def LieB (o:Option Obj) (ty:TypeId) (cur:Array Value) (c:Nat):Prop :=
 (c<=maxLen/\o=some (.cells cur ty (0,0)))\/(c=maxLen+1 /\ ∃ es clk,o=some (.map es clk)/\cur = #[.iface 0 (.tuple (jl es).toArray)])
theorem LieB.cells {o:Option Obj}{ty:TypeId}{cur:Array Value}{c:Nat}(h:LieB o ty cur c) (hc:c<=maxLen):o=some (.cells cur ty (0,0)):=by
 rcases h with h|⟨h,_⟩
 .
  exact h.2
 omega
theorem LieB.map {o:Option Obj}{ty:TypeId}{cur:Array Value}{c:Nat}(h:LieB o ty cur c) (hc:c=maxLen+1):∃ es clk,o=some (.map es clk)/\cur = #[.iface 0 (.tuple (jl es).toArray)]:=by
 rcases h with h|⟨_,h⟩
 .
  omega
 exact h
theorem LieB.some {o:Option Obj}{ty:TypeId}{cur:Array Value}{c:Nat}(h:LieB o ty cur c):∃ x,o=some x/\((∃ e f g,x = .cells e f g) \/ ∃ e f,x = .map e f):=by
 rcases h with h|⟨_,es,clk,h,_⟩
 .
  exact⟨_,h.2,.inl ⟨_,_,_,rfl⟩⟩
 exact⟨_,h,.inr ⟨_,_,rfl⟩⟩
theorem LieB.uniq {o:Option Obj}{ty:TypeId}{cur cur':Array Value}{c:Nat}(h:LieB o ty cur c) (k:LieB o ty cur' c):cur=cur':=by
 by_cases hc:c<=maxLen
 .
  have h1:=h.cells hc;have h2:=k.cells hc;rw[h1] at h2
  cases h2
  rfl
 have e:c=maxLen+1:=by
  rcases h with h|h
  .
   exact absurd h.1 hc
  exact h.1
 obtain⟨es,clk,h1,h2⟩:=h.map e
 obtain⟨es',clk',k1,k2⟩:=k.map e
 rw[h1] at k1
 cases k1
 rw[h2,k2]
inductive Rep (w:World) (g:Mem):D->Value->Prop
 | v (x:Value):Rep w g (.v x) x
 | agg (ds:List D) (vs:Array Value) (hn:ds.length=vs.size) (h : ∀ (i:Nat) d x,ds[i]? = some d->vs[i]? = some x->Rep w g d x):Rep w g (.agg ds) (.agg vs)
 | tuple (ds:List D) (vs:Array Value) (hn:ds.length=vs.size) (h : ∀ (i:Nat) d x,ds[i]? = some d->vs[i]? = some x->Rep w g d x):Rep w g (.tuple ds) (.tuple vs)
 | iface (t:TypeId) (d:D) (x:Value) (h:Rep w g d x):Rep w g (.iface t d) (.iface t x)
 | empty (full:Bool) (a:Option Addr) (cap:Nat) (hf:full=true->cap=0) (hm:cap<=maxLen):Rep w g (.list full []) (.slice a 0 cap)
 | list (full:Bool) (rows:List (List D)) (ad:Addr) (cap size:Nat) (cv:Nat->Nat->Value) (hI:g.I ad.block) (hl:rows.length<=cap) (hf:full=true->cap=rows.length) (hm:cap<=maxLen)
   (hs : ∀ r∈rows,r.length=size) (hc : ∀ (i j:Nat) r d,rows[i]? = some r->r[j]? = some d->w.cell? (ad.add (i*size+j))=some (cv i j)/\(cv i j).oneCell'=true)
   (hr : ∀ (i j:Nat) r d,rows[i]? = some r->r[j]? = some d->Rep w g d (cv i j)):Rep w g (.list full rows) (.slice (some ad) rows.length cap)
 | eptr (cs:List D) (p:Addr) (cv:Nat->Value) (hI:g.I p.block) (hc : ∀ (j:Nat) d,cs[j]? = some d->w.cell? (p.add j)=some (cv j)) (hr : ∀ (j:Nat) d,cs[j]? = some d->Rep w g d (cv j)):Rep w g (.eptr cs) (.pointer (some p))
 | mrow (r off len:Nat) (x:Value) (hx : ∃ a c,x = .slice a len c/\len<=c/\(0<len -> ∃ p,a=some p)) (hU:g.U r) (h : ∀ blk c sz,g.M r=some (blk,c,sz)->(off+len<=c/\c<=maxLen)/\((c=off /\ ∃ a,x = .slice a 0 0)\/(c≠off /\ ∃ b,blk=some b/\x = .slice (some ⟨b,off*sz,Option.none⟩) len (c-off)))):Rep w g (.mrow r off len) x
 | mptr (r i off:Nat) (x:Value) (hx : ∃ p,x = .pointer (some p)) (hU:g.U r) (h : ∀ blk c sz,g.M r=some (blk,c,sz)->c<=maxLen /\ ∃ b,blk=some b/\x = .pointer (some ⟨b,i*sz+off,Option.none⟩)):Rep w g (.mptr r i off) x
 | mp (r:Nat) (x:Value) (hx : ∃ p,x = .map (some p)) (hU:g.U r) (h : ∀ blk c sz,g.M r=some (blk,c,sz)->c=maxLen+1 /\ ∃ b,blk=some b/\x = .map (some b)):Rep w g (.mp r) x
 | fmap (kv:List D) (b:Nat) (es:Array MapEntry) (clk:Nat) (hI:g.I b) (hb:w.heap[b]? = some (.map es clk)) (hn:kv.length=(jl es).length) (h : ∀ (i:Nat) d x,kv[i]? = some d->(jl es)[i]? = some x->Rep w g d x):Rep w g (.fmap kv) (.map (some b))
 | fn (f:Fn) (first caps:List D) (fs cs:Array Value) (hf:first.length=fs.size) (hc:caps.length=cs.size) (h1 : ∀ (i:Nat) d x,first[i]? = some d->fs[i]? = some x->Rep w g d x)
   (h2 : ∀ (i:Nat) d x,caps[i]? = some d->cs[i]? = some x->Rep w g d x):Rep w g (.fn f first caps) (.func f fs cs)
 | cond (b:Bool) (d:D) (x:Value) (ht:b=true->Rep w g d x) (hf:b=false->x=undef):Rep w g (.cond b d) x
 | junk (x:Value):Rep w g .junk x
theorem Rep.mono {w w':World}{g g':Mem}(hI : ∀ b,g.I b->g'.I b/\w'.heap[b]? = w.heap[b]?) (hU : ∀ r,g.U r->g'.U r) (hM : ∀ r,g.U r->g'.M r=g.M r\/g'.M r=Option.none)
  {d:D} {x:Value} (h:Rep w g d x):Rep w' g' d x:=by
 induction h with
 | v x=>exact .v x
 | agg ds vs hn _ ih=>exact .agg ds vs hn ih
 | tuple ds vs hn _ ih=>exact .tuple ds vs hn ih
 | iface t d x _ ih=>exact .iface t d x ih
 | empty full a cap hf hm=>exact .empty full a cap hf hm
 | list full rows ad cap size cv hi hl hf hm hs hc _ ih =>
  refine .list full rows ad cap size cv (hI _ hi).1 hl hf hm hs (fun i j r d h1 h2=>?_) ih
  obtain⟨h3,h4⟩:=hc i j r d h1 h2;refine⟨?_,h4⟩;rw[<- h3];exact World.cell?_of_block (by rw[block_add];exact (hI _ hi).2)
 | eptr cs p cv hi hc _ ih =>
  refine .eptr cs p cv (hI _ hi).1 (fun j d h1=>?_) ih
  rw[<- hc j d h1];exact World.cell?_of_block (by rw[block_add];exact (hI _ hi).2)
 | mrow r off len x hx hu h =>
  refine .mrow r off len x hx (hU r hu) fun blk c sz he=>?_
  rcases hM r hu with e|e
  .
   exact h blk c sz (e ▸ he)
  rw[e] at he;cases he
 | mptr r i off x hx hu h =>
  refine .mptr r i off x hx (hU r hu) fun blk c sz he=>?_
  rcases hM r hu with e|e
  .
   exact h blk c sz (e ▸ he)
  rw[e] at he;cases he
 | mp r x hx hu h =>
  refine .mp r x hx (hU r hu) fun blk c sz he=>?_
  rcases hM r hu with e|e
  .
   exact h blk c sz (e ▸ he)
  rw[e] at he;cases he
 | fmap kv b es clk hi hb hn _ ih=>exact .fmap kv b es clk (hI b hi).1 ((hI b hi).2.trans hb) hn ih
 | fn f first caps fs cs hf hc _ _ ih1 ih2=>exact .fn f first caps fs cs hf hc ih1 ih2
 | cond b d x _ hf ih=>exact .cond b d x ih hf
 | junk x=>exact .junk x
def Reps (w:World) (g:Mem) (ds:List D) (vs:List Value):Prop:=ds.length=vs.length /\ ∀ (i:Nat) d x,ds[i]? = some d->vs[i]? = some x->Rep w g d x
theorem Reps.nil {w:World}{g:Mem}:Reps w g [] []:=⟨rfl,fun i d x h=>by simp at h⟩
theorem Reps.cons {w:World}{g:Mem}{d:D}{x:Value}{ds:List D}{vs:List Value}(h:Rep w g d x) (hs:Reps w g ds vs):Reps w g (d::ds) (x::vs):=by
 refine⟨by simp[hs.1],fun i d' x' h1 h2=>?_⟩
 cases i with
 | zero=>simp at h1 h2;subst h1;subst h2;exact h
 | succ i=>simp at h1 h2;exact hs.2 i d' x' h1 h2
theorem Reps.head {w:World}{g:Mem}{d:D}{x:Value}{ds:List D}{vs:List Value}(hs:Reps w g (d::ds) (x::vs)):Rep w g d x:=hs.2 0 d x rfl rfl
theorem Reps.tail {w:World}{g:Mem}{d:D}{x:Value}{ds:List D}{vs:List Value}(hs:Reps w g (d::ds) (x::vs)):Reps w g ds vs :=
 ⟨by simpa using hs.1,fun i d' x' h1 h2=>hs.2 (i+1) d' x' (by simpa using h1) (by simpa using h2)⟩
theorem Reps.of_nil {w:World}{g:Mem}{vs:List Value}(hs:Reps w g [] vs):vs=[]:=X5 hs.1.symm
theorem Reps.of_cons {w:World}{g:Mem}{d:D}{ds:List D}{vs:List Value}(hs:Reps w g (d::ds) vs):∃ x xs,vs=x::xs/\Rep w g d x/\Reps w g ds xs:=by
 cases vs with
 | nil=>simp[Reps] at hs
 | cons x xs=>exact⟨x,xs,rfl,hs.head,hs.tail⟩
theorem Reps.append {w:World}{g:Mem}{ds es:List D}{vs us:List Value}(h:Reps w g ds vs) (k:Reps w g es us):Reps w g (ds++es) (vs++us):=by
 induction ds generalizing vs with
 | nil=>rw[h.of_nil];exact k
 | cons d ds ih=>obtain⟨x,xs,rfl,h1,h2⟩:=h.of_cons;exact .cons h1 (ih h2)
theorem Reps.take {w:World}{g:Mem}{ds:List D}{vs:List Value}(h:Reps w g ds vs) (n:Nat):Reps w g (ds.take n) (vs.take n):=by
 refine⟨by simp[h.1],fun i d x h1 h2=>?_⟩
 rw[YY] at h1 h2
 split at h1
 .
  rename_i hi;rw[X6 hi] at h2;exact h.2 i d x h1 h2
 cases h1
theorem Reps.drop {w:World}{g:Mem}{ds:List D}{vs:List Value}(h:Reps w g ds vs) (n:Nat):Reps w g (ds.drop n) (vs.drop n):=by
 refine⟨by simp[h.1],fun i d x h1 h2=>?_⟩
 rw[YZ] at h1 h2
 exact h.2 _ d x h1 h2
theorem Reps.mono {w w':World}{g g':Mem}(hI : ∀ b,g.I b->g'.I b/\w'.heap[b]? = w.heap[b]?) (hU : ∀ r,g.U r->g'.U r) (hM : ∀ r,g.U r->g'.M r=g.M r\/g'.M r=Option.none)
  {ds:List D} {vs:List Value} (h:Reps w g ds vs):Reps w' g' ds vs:=⟨h.1,fun i d x h1 h2=>(h.2 i d x h1 h2).mono hI hU hM⟩
def Holds (P:Program) [Glob P] (w:World) (g:Mem) (bl:Blk) (cur:Array Value):Prop :=
 ∀ (i:Nat) row,bl.rows[i]? = some row->row.length=P.cellsOf bl.ty /\ ∀ (j:Nat) d,row[j]? = some d -> ∃ u,cur[i*P.cellsOf bl.ty+j]? = some u/\u.oneCell'=true/\Rep w g d u
def Gr (P:Program) [Glob P] (I:Nat->Prop) (w:World):Prop:=∀ x cs,Glob.tab P x=some cs->I x /\ ∀ (j:Nat) v,cs[j]? = some v->w.cell? ⟨x,j,Option.none⟩=some v
theorem Gr.later {P:Program}[Glob P] {I I':Nat->Prop}{w w':World}(h:Gr P I w) (k : ∀ b,I b->I' b/\w'.heap[b]? = w.heap[b]?):Gr P I' w':=by
 intro x cs hx
 obtain⟨h1,h2⟩:=h x cs hx
 refine⟨(k x h1).1,fun j v hj=>?_⟩
 rw[<- h2 j v hj]
 exact World.cell?_of_block (k x h1).2
structure HM (P:Program) [Glob P] (h:H) (g:Mem) (w:World):Prop where
 dead : ∀ r,h r=Option.none->g.M r=Option.none
 blk : ∀ r bl,h r=some bl -> ∃ blk c,g.M r=some (blk,c,P.cellsOf bl.ty)/\0<P.cellsOf bl.ty/\bl.rows.length<=c/\c<=maxLen+1 /\
  ((blk=Option.none/\c=0) \/ ∃ b cur,blk=some b/\LieB w.heap[b]? bl.ty cur c/\(c<=maxLen->cur.size=c*P.cellsOf bl.ty) /\ ¬ g.I b/\Holds P w g bl cur)
 inj : ∀ r r' b c c' s s',g.M r=some (some b,c,s)->g.M r'=some (some b,c',s')->r=r'
 used : ∀ r,g.M r≠Option.none->g.U r
 imm : ∀ b,g.I b->b<w.heap.size
 gr:Gr P g.I w
structure Mono (g g':Mem) (w w':World):Prop where
 os:w'.os=w.os
 tape:w'.tape=w.tape
 output:w'.output=w.output
 size:w.heap.size<=w'.heap.size
 drawn:w.drawn<=w'.drawn
 U : ∀ r,g.U r->g'.U r
 M : ∀ r,g.U r->g'.M r=g.M r\/g'.M r=Option.none
 new : ∀ r b c s,g'.M r=some (some b,c,s)->(∃ r' c' s',g.M r'=some (some b,c',s'))\/w.heap.size<=b
 I : ∀ b,g.I b->g'.I b
 inew : ∀ b,g'.I b->g.I b\/w.heap.size<=b \/ ∃ r c s,g.M r=some (some b,c,s)
 same : ∀ b,b<w.heap.size->(∀ r c s,g.M r≠some (some b,c,s))->w'.heap[b]? = w.heap[b]?
theorem Mono.refl (g:Mem) (w:World):Mono g g w w :=
 ⟨rfl,rfl,rfl,XY _,XY _,fun _ h=>h,fun _ _=>.inl rfl,fun r _ c s h=>.inl ⟨r,c,s,h⟩,fun _ h=>h,fun _ h=>.inl h,fun _ _ _=>rfl⟩
theorem Mono.trans {g g' g'':Mem}{w w' w'':World}(h:Mono g g' w w') (k:Mono g' g'' w' w''):Mono g g'' w w'':=by
 refine⟨k.os.trans h.os,k.tape.trans h.tape,k.output.trans h.output,Yc h.size k.size,Yc h.drawn k.drawn,fun r hr=>k.U r (h.U r hr),fun r hr=>?_,fun r b c s hr=>?_,fun b hb=>k.I b (h.I b hb),fun b hb=>?_,fun b hb hn=>?_⟩
 .
  rcases k.M r (h.U r hr) with e|e
  .
   rw[e];exact h.M r hr
  exact .inr e
 .
  rcases k.new r b c s hr with⟨r',c',s',e⟩|e
  .
   exact h.new r' b c' s' e
  exact .inr (Yc h.size e)
 .
  rcases k.inew b hb with e|e|⟨r,c,s,e⟩
  .
   exact h.inew b e
  .
   exact .inr (.inl (Yc h.size e))
  rcases h.new r b c s e with⟨r',c',s',e'⟩|e'
  .
   exact .inr (.inr ⟨r',c',s',e'⟩)
  exact .inr (.inl e')
 refine (k.same b (YB hb h.size) fun r c s e=>?_).trans (h.same b hb hn)
 rcases h.new r b c s e with⟨r',c',s',e'⟩|e'
 .
  exact hn r' c' s' e'
 omega
theorem HM.kept {P:Program}[Glob P] {h:H}{g g':Mem}{w w':World}(hm:HM P h g w) (k:Mono g g' w w'):∀ b,g.I b->g'.I b/\w'.heap[b]? = w.heap[b]? := by
 refine fun b hb=>⟨k.I b hb,k.same b (hm.imm b hb) fun r c s e=>?_⟩
 cases hr:h r with
 | none=>rw[hm.dead r hr] at e;cases e
 | some bl =>
  obtain⟨blk,c',e1,_,_,_,h5⟩:=hm.blk r bl hr;rw[e] at e1;simp only[Yh,YI] at e1
  rcases h5 with⟨h6,_⟩|⟨b',cur,h6,_,_,h7,_⟩
  .
   rw[<- e1.1] at h6;cases h6
  rw[<- e1.1] at h6;cases h6;exact h7 hb
theorem Rep.later {P:Program}[Glob P] {h:H}{g g':Mem}{w w':World}(hm:HM P h g w) (k:Mono g g' w w') {d:D}{x:Value}(hr:Rep w g d x):Rep w' g' d x:=hr.mono (hm.kept k) k.U k.M
theorem Reps.later {P:Program}[Glob P] {h:H}{g g':Mem}{w w':World}(hm:HM P h g w) (k:Mono g g' w w') {d:List D}{x:List Value}(hr:Reps w g d x):Reps w' g' d x:=hr.mono (hm.kept k) k.U k.M
mutual
def wk:D->D
 | .agg cs=>.agg (di cs)
 | .list _ rows=>.list false (bZ rows)
 | .eptr cs=>.eptr (di cs)
 | .tuple ds=>.tuple (di ds)
 | .iface t d=>.iface t (wk d)
 | .fmap kv=>.fmap (di kv)
 | d=>d
def di:List D->List D
 | []=>[]
 | d::ds=>wk d::di ds
def bZ:List (List D)->List (List D)
 | []=>[]
 | r::rs=>di r::bZ rs
end
theorem pG : ∀ ds:List D,di ds=ds.map wk
 | []=>rfl
 | d::ds=>by simp only[di,pG ds,Yb]
theorem EB : ∀ ds:List (List D),bZ ds=ds.map di
 | []=>rfl
 | d::ds=>by simp only[bZ,EB ds,Yb]
theorem fP {α β:Type}{f:α->β}{l:List α}{i:Nat}{y:β}(h:(l.map f)[i]? = some y):∃ x,l[i]? = some x/\f x=y:=by
 rw[YJ] at h
 cases hi:l[i]? with
 | none=>rw[hi] at h;cases h
 | some x=>rw[hi] at h;exact⟨x,rfl,by simpa using h⟩
theorem Rep.wk {w:World}{g:Mem}{d:D}{v:Value}(h:Rep w g d v):Rep w g (wk d) v:=by
 induction h with
 | v x=>exact .v x
 | agg ds vs hl _ ih =>
  simp only[DL.wk,pG];exact .agg _ vs (by simpa using hl) fun i d x h1 h2=>by obtain⟨y,h3,rfl⟩:=fP h1;exact ih i y x h3 h2
 | tuple ds vs hl _ ih =>
  simp only[DL.wk,pG];exact .tuple _ vs (by simpa using hl) fun i d x h1 h2=>by obtain⟨y,h3,rfl⟩:=fP h1;exact ih i y x h3 h2
 | iface t d x _ ih=>exact .iface t _ x ih
 | empty full a cap hf hm=>exact .empty false a cap (fun h=>by cases h) hm
 | list full rows ad cap size cv hi hl hf hm hs hc _ ih =>
  simp only[DL.wk,EB];have e:rows.length=(rows.map di).length:=by simp
  rw[e];refine .list false _ ad cap size cv hi (by simpa using hl) (fun h=>by cases h) hm (fun r hr=>?_) (fun i j r d h1 h2=>?_) (fun i j r d h1 h2=>?_)
  .
   obtain⟨r',h1,rfl⟩:=Y5.1 hr;rw[pG];simpa using hs r' h1
  .
   obtain⟨r',h3,rfl⟩:=fP h1;rw[pG] at h2;obtain⟨d',h4,rfl⟩:=fP h2;exact hc i j r' d' h3 h4
  obtain⟨r',h3,rfl⟩:=fP h1;rw[pG] at h2;obtain⟨d',h4,rfl⟩:=fP h2;exact ih i j r' d' h3 h4
 | eptr cs p cv hi hc _ ih =>
  simp only[DL.wk,pG];refine .eptr _ p cv hi (fun j d h1=>?_) (fun j d h1=>?_)
  .
   obtain⟨d',h3,rfl⟩:=fP h1;exact hc j d' h3
  obtain⟨d',h3,rfl⟩:=fP h1;exact ih j d' h3
 | mrow r off len x hx hu h=>exact .mrow r off len x hx hu h
 | mptr r i off x hx hu h=>exact .mptr r i off x hx hu h
 | mp r x hx hu h=>exact .mp r x hx hu h
 | fmap kv b es clk hi hb hn _ ih =>
  simp only[DL.wk,pG];exact .fmap _ b es clk hi hb (by simpa using hn) fun i d x h1 h2=>by obtain⟨y,h3,rfl⟩:=fP h1;exact ih i y x h3 h2
 | fn f first caps fs cs hf hc h1 h2 _ _=>exact .fn f first caps fs cs hf hc h1 h2
 | cond b d x ht hf _=>exact .cond b d x ht hf
 | junk x=>exact .junk x
structure Env where
 p:Mem->World->Prop
 x:Option Nat
 st : ∀ (P:Program) [Glob P] (h:H) (g g':Mem) (w w':World),HM P h g w->Mono g g' w w'->p g w->p g' w'
def Env.tt:Env:=⟨fun _ _=>True,Option.none,fun _ _ _ _ _ _ _ _ _ _=>trivial⟩
theorem Env.later {P:Program}[Glob P] {E:Env}{h:H}{g g':Mem}{w w':World}(hm:HM P h g w) (k:Mono g g' w w') (hr:E.p g w):E.p g' w':=E.st P h g g' w w' hm k hr
structure MonoX (x:Option Nat) (g g':Mem) (w w':World):Prop where
 os:w'.os=w.os
 tape:w'.tape=w.tape
 output:w'.output=w.output
 size:w.heap.size<=w'.heap.size
 drawn:w.drawn<=w'.drawn
 U : ∀ r,g.U r->g'.U r
 M : ∀ r,g.U r->g'.M r=g.M r\/g'.M r=Option.none
 new : ∀ r b c s,g'.M r=some (some b,c,s)->(∃ r' c' s',g.M r'=some (some b,c',s'))\/w.heap.size<=b
 I : ∀ b,g.I b->g'.I b
 inew : ∀ b,g'.I b->g.I b\/w.heap.size<=b \/ ∃ r c s,g.M r=some (some b,c,s)
 same : ∀ b,b<w.heap.size->(∀ r c s,g.M r≠some (some b,c,s))->x≠some b->w'.heap[b]? = w.heap[b]?
theorem Mono.toX {x:Option Nat}{g g':Mem}{w w':World}(h:Mono g g' w w'):MonoX x g g' w w':=⟨h.os,h.tape,h.output,h.size,h.drawn,h.U,h.M,h.new,h.I,h.inew,fun b h1 h2 _=>h.same b h1 h2⟩
theorem MonoX.out {g g':Mem}{w w':World}(h:MonoX Option.none g g' w w'):Mono g g' w w':=⟨h.os,h.tape,h.output,h.size,h.drawn,h.U,h.M,h.new,h.I,h.inew,fun b h1 h2=>h.same b h1 h2 (by simp)⟩
theorem MonoX.refl (x:Option Nat) (g:Mem) (w:World):MonoX x g g w w:=(Mono.refl g w).toX
theorem MonoX.trans {x:Option Nat}{g g' g'':Mem}{w w' w'':World}(h:MonoX x g g' w w') (k:MonoX x g' g'' w' w''):MonoX x g g'' w w'':=by
 refine⟨k.os.trans h.os,k.tape.trans h.tape,k.output.trans h.output,Yc h.size k.size,Yc h.drawn k.drawn,fun r hr=>k.U r (h.U r hr),fun r hr=>?_,fun r b c s e=>?_,fun b hb=>k.I b (h.I b hb),fun b hb=>?_,fun b hb hn hx=>?_⟩
 .
  rcases k.M r (h.U r hr) with e|e
  .
   rcases h.M r hr with e'|e'
   .
    exact .inl (e.trans e')
   exact .inr (e.trans e')
  exact .inr e
 .
  rcases k.new r b c s e with⟨r',c',s',e'⟩|e'
  .
   exact h.new r' b c' s' e'
  exact .inr (Yc h.size e')
 .
  rcases k.inew b hb with e|e|⟨r,c,s,e⟩
  .
   exact h.inew b e
  .
   exact .inr (.inl (Yc h.size e))
  rcases h.new r b c s e with⟨r',c',s',e'⟩|e'
  .
   exact .inr (.inr ⟨r',c',s',e'⟩)
  exact .inr (.inl e')
 refine (k.same b (YB hb h.size) (fun r c s e=>?_) hx).trans (h.same b hb hn hx)
 rcases h.new r b c s e with⟨r',c',s',e'⟩|e'
 .
  exact hn r' c' s' e'
 omega
end Go.DL
namespace Go.DL
structure Con where
 pure:FuncId->Bool:=fun _=>false
 pf:FuncId->List D->D:=fun _ _=>.junk
 im:FuncId->List D->H->Nat->D×H:=fun _ _ h _=>(.junk,h)
 bs:Bool:=false
 cf:Bool:=false
 dp:Bool:=false
structure S where
 n:Nat
 t:Nat->D
 h:H
 nx:Nat
 ok:Prop:=True
 e:Env:=Env.tt
def S.ev (s:S):Operand->D
 | .tmp i=>s.t i
 | .const x=>ic x
 | .global g=>.v (.pointer (some ⟨g,0,none⟩))
 | .func f=>.fn (.func f) [] []
def aQ:Op->List Operand
 | .move x | .assign x | .box _ x | .load _ x | .nilCheck x | .unOp _ _ x | .convert _ _ x | .makeInterface _ x | .fieldAddr _ x _ | .field _ x _ | .extract x _=>[x]
 | .pick c a b=>[c,a,b]
 | .build _ ps | .buildSlice _ _ ps=>ps.toList.map (·.2)
 | .store _ a x | .binOp _ _ a x _ | .indexAddr _ a x | .index _ a x | .makeSlice _ a x=>[a,x]
 | .makeFunc _ first captured=>first.toList++captured.toList
 | .slice _ x l h m=>x::(l.toList++h.toList++m.toList)
 | .makeMap _ r=>r.toList
 | .lookup _ m k _=>[m,k]
 | .mapUpdate _ m k x | .insert _ m k x=>[m,k,x]
 | .call { callee:=.value f,args,.. }=>f::args.toList
 | .call { callee:=.builtin _,args,.. }=>args.toList
 | _=>[]
def gD:D->Bool->Bool
 | .v (.bool b),want=>b==want
 | .cond g (.v (.bool b)),want=>g&&(b==want)
 | _,_=>false
def kX:D->Bool
 | .v (.bool _) | .cond _ (.v (.bool _))=>true
 | _=>false
def sd:D->D
 | .cond _ d=>d
 | d=>d
def sg:D->Bool
 | .cond g _=>g
 | _=>true
def bv:D->Bool
 | .v (.bool b)=>b
 | _=>false
def oq:D->Bool
 | .v (.bool _)=>true
 | _=>false
def yM (g:Bool):List D->D×Prop
 | [c,a,b]=>(.v (.bool (bif bv (sd c) then bv (sd a) else bv (sd b))),(g=true->(sg c=true/\oq (sd c)=true)/\(bv (sd c)=true->sg a=true/\oq (sd a)=true)/\(bv (sd c)=false->sg b=true/\oq (sd b)=true)))
 | _=>(.junk,False)
section
variable (P : Program) [Glob P] (C : Con)
def oU (s:TypeId):List (Nat×Operand)->List D->List D->List D
 | (f,_)::ps,x::xs,cs=>match aR P s f with
  | some (off,_)=>oU s ps xs (splice cs off x.cells)
  | none=>match jS P s with
   | some (_,e)=>oU s ps xs (splice cs (f*P.cellsOf e) x.cells)
   | none=>cs
 | _,_,cs=>cs
def qJ (s:TypeId) (n:Nat):List (Nat×Operand)->List D->Prop
 | (f,_)::ps,x::xs=>(match aR P s f with
  | some (off,t)=>x.cells.length=P.cellsOf t/\off+x.cells.length<=n
  | none=>match jS P s with
   | some (_,e)=>x.cells.length=P.cellsOf e/\f*P.cellsOf e+x.cells.length<=n
   | none=>False)/\x.cells.all D.one=true/\qJ s n ps xs
 | [],_=>True
 | _,_=>False
def fq (t:TypeId):Bool:=match P.underlying t with
 | some (.struct fs)=>fs.toList.all fun f=>(P.info? f.type).isSome
 | some (.array _ e)=>(P.info? e).isSome
 | _=>false
def uG (t:TypeId) (ps:List (Nat×Operand)) (xs:List D):D×Prop :=
 (.agg (oU P t ps xs (zeroCells P t)),qJ P t (zeroCells P t).length ps xs/\(zeroCells P t).all D.one=true/\0<(zeroCells P t).length/\fq P t=true)
def rE (n i:Nat):List (Nat×Operand)->List D->Prop
 | (j,_)::ps,x::xs=>j=i/\x.cells.length=n/\x.cells.all D.one=true/\rE n (i+1) ps xs
 | [],[]=>True
 | _,_=>False
def sK (t:TypeId) (len:Nat) (ps:List (Nat×Operand)) (xs:List D):D×Prop:=match bf P t with
 | some e=>(.list true (xs.map D.cells),ps.length=len/\rE (P.cellsOf e) 0 ps xs/\0<P.cellsOf e/\len*P.cellsOf e<=16777216/\aC P e=true)
 | none=>(.junk,False)
def lu (t:TypeId) (len:Nat) (ps:List (Nat×Operand)) (xs:List D) (h:H) (b:Nat):D×H×Prop:=match bf P t with
 | some e=>(.mrow b 0 len,upd h b (some ⟨e,xs.map D.cells⟩),0<len/\ps.length=len/\rE (P.cellsOf e) 0 ps xs/\0<P.cellsOf e/\len*P.cellsOf e<=16777216/\aC P e=true)
 | none=>(.junk,h,False)
def gK (u:TypeId) (h:H):D->Bool
 | .list _ _=>(bf P u).isSome
 | .mrow r _ _=>(bf P u).isSome&&(h r).isSome
 | .v (.string _)=>match P.underlying u with|some .string=>true|_=>false
 | _=>false
def kI (t u:TypeId) (x y:D) (h:H) (b:Nat):D×H×Prop:=match bf P t with
 | none=>(.junk,h,False)
 | some e =>
  let news:=rowsOf y h
  let size:=0<P.cellsOf e/\(aV x+news.length)*P.bytesOf e<=140737488355328/\aV x+news.length<=9223372036854775807
  let src:=news.length=aV y/\gK P u h y=true/\aC P e=true /\ ∀ r∈news,r.length=P.cellsOf e
  match x with
  | .list true rows=>(.mrow b 0 (rows.length+news.length),upd h b (some ⟨e,rows++news⟩),size/\src/\(news=[]->rows=[]) /\ ∀ r∈rows,r.length=P.cellsOf e)
  | .mrow r 0 n=>match h r with
   | some bl=>(.mrow b 0 (n+news.length),upd (upd h r none) b (some ⟨e,bl.rows++news⟩),size/\src/\bl.ty=e/\bl.rows.length=n/\r≠b)
   | none=>(.junk,h,False)
  | _=>(.junk,h,False)
def bnd (o:Option D) (d:Nat):Int:=match o with
 | some (.v (.int _ n))=>n
 | _=>d
def sM:Option D->Bool
 | none|some (.v (.int _ _))=>true
 | _=>false
def iY (t:TypeId) (x:D) (l hh m:Option D) (h:H):D×Prop :=
 let len:=aV x
 let lo:=bnd l 0
 let hi:=bnd hh len
 let ok:=sM l=true/\sM hh=true/\sM m=true/\0<=lo/\lo<=hi/\hi<=len
 match x with
 | .v (.string s)=>(.v (.string (s.extract lo.toNat hi.toNat)),ok/\m=none/\P.underlying t=some .string)
 | .list full rows=>match bf P t with
  | none=>(.junk,False)
  | some e=>match m with
   | none=>(.list (full&&hi==len) ((rows.take hi.toNat).drop lo.toNat),ok/\0<P.cellsOf e /\ ∀ r∈rows,r.length=P.cellsOf e)
   | some _=>(.list true ((rows.take hi.toNat).drop lo.toNat),ok/\hh.isSome=true/\bnd m 0=hi/\0<P.cellsOf e /\ ∀ r∈rows,r.length=P.cellsOf e)
 | .mrow r off _=>match bf P t with
  | none=>(.junk,False)
  | some e=>(.mrow r (off+lo.toNat) (hi-lo).toNat,ok/\m=none/\0<P.cellsOf e/\match h r with|some bl=>bl.ty=e|none=>False)
 | _=>(.junk,False)
def fM (o:Option Operand) (xs:List D):Option D×List D:=match o,xs with
 | some _,x::xs=>(some x,xs)
 | some _,[]=>(none,[])
 | none,xs=>(none,xs)
def sj (t:TypeId) (x ix:D):D×Prop:=match x,ix with
 | .v (.string s),.v (.int _ n)=>(.v (.int .u8 (s.data.toList.getD n.toNat 0).toNat),0<=n/\n<s.size/\P.underlying t=some .string)
 | _,_=>(.junk,False)
def pK (op:UnOp) (x:D):D×Prop:=match op,x with
 | .not,.v (.bool b)=>(.v (.bool !b),True)
 | .neg,.v (.int k n)=>(.v (.int k (-n)),gV k (-n))
 | _,_=>(.junk,False)
def byteOf:List D->UInt8
 | [.v (.int .u8 n)]=>UInt8.ofNat n.toNat
 | _=>0
def isByte:List D->Bool
 | [.v (.int .u8 _)]=>true
 | _=>false
def DT (P:Program) (t:TypeId):Bool:=match P.underlying t with
 | some (.slice e)=>match P.underlying e with
  | some (.int .u8)=>true
  | _=>false
 | _=>false
def sJ (src dst:TypeId) (x:D):D×Prop:=match P.underlying dst,x with
 | some (.int k),.v (.int _ n)=>(.v (.int k (k.wrap n)),(P.underlying src).isSome=true)
 | some .string,.v (.string s)=>(.v (.string s),match P.underlying src with|some .string=>True|_=>False)
 | some .string,.list _ rows=>(.v (.string ⟨(rows.map byteOf).toArray⟩),DT P src=true/\rows.all isByte=true)
 | _,_=>(.junk,False)
def jh (t:TypeId) (h:H) (b:Nat):D->D->D×H×Prop
 | .v (.int _ n),.v (.int _ m)=>match bf P t with
  | some e=>(.mrow b 0 n.toNat,upd h b (some ⟨e,List.replicate n.toNat (zeroCells P e)⟩),n=m/\0<=n/\P.bytesOf e*n<=281474976710656/\n<=9223372036854775807/\aC P e=true/\(zeroCells P e).length=P.cellsOf e/\(zeroCells P e).all D.one=true/\0<P.cellsOf e)
  | none=>(.junk,h,False)
 | _,_=>(.junk,h,False)
def zq:List D->Bool
 | []|[.v (.int _ _)]=>true
 | _=>false
def rU (t:TypeId) (xs:List D) (h:H) (b:Nat):D×H×Prop:=(.mp b,upd h b (some ⟨t,eX []⟩),(kr P t).isSome=true/\P.cellsOf t=1/\zq xs=true)
def ma (t:TypeId) (m k x:D) (h:H):H×Prop:=match kr P t,m with
 | some (kt,_),.mp r=>match h r with
  | some bl=>match jm bl with
   | some kv=>(upd h r (some ⟨bl.ty,eX (fE kv k x)⟩),gU P kt k=true/\gB P kt kv=true/\ku P kt=true)
   | none=>(h,False)
  | none=>(h,False)
 | _,_=>(h,False)
def jM (t:TypeId) (ok:Bool) (m k:D) (h:H):D×Prop:=match kr P t,nY h m with
 | some (kt,e),some kv=>(if ok then .tuple [(gz kv k).getD (pF P e),.b (gz kv k).isSome] else (gz kv k).getD (pF P e),
   gU P kt k=true/\gB P kt kv=true/\ku P kt=true/\zy P e=true)
 | _,_=>(.junk,False)
def kG (h:H) (d:D):D:=match d with
 | .mrow _ _ _=>.list false (rowsOf d h)
 | d=>d
def jR (h:H) (d:D):D:=match d with
 | .mrow _ _ _=>.list false (rowsOf d h)
 | .mptr _ _ _=>.eptr ((dP d h).map (kG h))
 | d=>d
def deref (h:H) (d:D):D:=match d with
 | .mrow _ _ _=>.list false (rowsOf d h)
 | .mptr _ _ _=>.eptr ((dP d h).map (kG h))
 | .fn f a b=>.fn f (a.map (jR h)) (b.map (jR h))
 | d=>d
def jo (h:H) (d:D):D:=wk (deref h d)
def lm (h:H) (d:D):Prop:=match d with
 | .mrow r _ len=>(h r).isSome=true/\(rowsOf d h).length=len
 | _=>True
def ll (h:H) (d:D):Prop:=match d with
 | .mrow r _ len=>(h r).isSome=true/\(rowsOf d h).length=len
 | .mptr r _ _=>(h r).isSome=true /\ ∀ c∈dP d h,lm h c
 | _=>True
def iy (h:H) (d:D):Prop:=match d with
 | .mrow r _ len=>(h r).isSome=true/\(rowsOf d h).length=len
 | .mptr r _ _=>(h r).isSome=true /\ ∀ c∈dP d h,lm h c
 | .fn _ a b=>(∀ c∈a,ll h c) /\ ∀ c∈b,ll h c
 | _=>True
mutual
def D.nr:D->Bool
 | .v _=>true
 | .agg cs=>aZ cs
 | .list _ rows=>aS rows
 | .eptr cs=>aZ cs
 | .mrow _ _ _=>false
 | .mptr _ _ _=>false
 | .mp _=>false
 | .fmap kv=>aZ kv
 | .fn _ a b=>aZ a&&aZ b
 | .tuple ds=>aZ ds
 | .iface _ d=>d.nr
 | .cond _ d=>d.nr
 | .junk=>true
def aZ:List D->Bool
 | []=>true
 | d::ds=>d.nr&&aZ ds
def aS:List (List D)->Bool
 | []=>true
 | r::rs=>aZ r&&aS rs
end
def bN (h:H):Nat->D->D
 | 0,d=>d
 | k+1,d=>match d with
  | .mrow r off len=>.list false ((rowsOf (.mrow r off len) h).map fun row=>row.map (bN h k))
  | .agg cs=>.agg (cs.map (bN h k))
  | .tuple cs=>.tuple (cs.map (bN h k))
  | .iface t d=>.iface t (bN h k d)
  | .mptr r i off=>.eptr ((dP (.mptr r i off) h).map (bN h k))
  | .fn f a b=>.fn f (a.map (bN h k)) (b.map (bN h k))
  | d=>d
def cu (h:H):Nat->D->Prop
 | 0,d=>d.nr=true
 | k+1,d=>match d with
  | .mrow r off len=>iy h (.mrow r off len) /\ ∀ row∈rowsOf (.mrow r off len) h,∀ c∈row,cu h k c
  | .agg cs=>∀ c∈cs,cu h k c
  | .tuple cs=>∀ c∈cs,cu h k c
  | .iface _ d=>cu h k d
  | .mptr r i off=>(h r).isSome=true /\ ∀ c∈dP (.mptr r i off) h,cu h k c
  | .fn _ a b=>(∀ c∈a,cu h k c) /\ ∀ c∈b,cu h k c
  | d=>d.nr=true
def kL (h:H) (d:D):D:=wk (bN h 5 d)
def ky:D->Bool
 | .mrow _ _ _ | .mptr _ _ _=>true
 | _=>false
def fF:D->Bool
 | .mrow _ _ _ | .mptr _ _ _=>true
 | .fn _ a b=>a.any ky||b.any ky
 | _=>false
def Df:D->Bool
 | .v _=>true
 | _=>false
def flat:D->Bool
 | .v _=>true
 | .agg cs | .tuple cs=>cs.all Df
 | _=>false
def y7:List D->D×Prop
 | [.v (.int k a),.v (.int k' b)]=>(.v (.int k (min a b)),k=k')
 | _=>(.junk,False)
def y8:List D->D×Prop
 | [.v (.int k a),.v (.int k' b)]=>(.v (.int k (max a b)),k=k')
 | _=>(.junk,False)
def rV (t:TypeId):D->Bool
 | .list _ _ | .mrow _ _ _=>(bf P t).isSome
 | .v (.string _)=>match P.underlying t with|some .string=>true|_=>false
 | _=>false
end
structure Words where
 pureCt:FuncId->List D->D->Prop
 ct:FuncId->List D->H->Nat->D->H->Prop
section
variable (P : Program) [Glob P] (W : Words) (C : Con)
def wu (_:Operand):Bool:=true
def fQ (f:Operand) (xs:List D) (h:H) (_:Nat):D×H×Prop:=match f,xs with
 | .func k,_::ys=>if C.pure k then
   (if C.cf then
    let ys':=ys.map wk
    (C.pf k ys',h,W.pureCt k ys' (C.pf k ys')/\ys.any fF=false)
   else if C.dp then
    let ys':=ys.map (kL h)
    (C.pf k ys',h,W.pureCt k ys' (C.pf k ys')/\flat (C.pf k ys')=true /\ ∀ y∈ys,cu h 5 y)
   else
    let ys':=ys.map (jo h)
    (C.pf k ys',h,W.pureCt k ys' (C.pf k ys')/\(ys.any fF=true->flat (C.pf k ys')=true /\ ∀ y∈ys,iy h y)))
  else (.junk,h,False)
 | _,.fn (.func k) first caps::ys=>if C.pure k then
   (if C.cf then
    let zs':=(first++ys++caps).map wk
    (C.pf k zs',h,W.pureCt k zs' (C.pf k zs')/\(first++ys++caps).any fF=false)
   else if C.dp then
    let zs':=(first++ys++caps).map (kL h)
    (C.pf k zs',h,W.pureCt k zs' (C.pf k zs')/\flat (C.pf k zs')=true /\ ∀ y∈first++ys++caps,cu h 5 y)
   else
    let zs':=(first++ys++caps).map (jo h)
    (C.pf k zs',h,W.pureCt k zs' (C.pf k zs')/\((first++ys++caps).any fF=true->flat (C.pf k zs')=true /\ ∀ y∈first++ys++caps,iy h y)))
  else (.junk,h,False)
 | _,_=>(.junk,h,False)
def still (h:H) (r:D×Prop):D×H×Prop:=(r.1,h,r.2)
def aN (op:Op) (xs:List D) (h:H) (b:Nat):D×H×Prop :=
 match op,xs with
 | .move _,[x] | .assign _,[x]=>(x,h,True)
 | .alloc e,[]=>(.mptr b 0 0,upd h b (some ⟨e,[zeroCells P e]⟩),(zeroCells P e).length=P.cellsOf e/\(zeroCells P e).all D.one=true/\0<P.cellsOf e)
 | .box e _,[x]=>(.mptr b 0 0,upd h b (some ⟨e,[x.cells]⟩),x.cells.length=P.cellsOf e/\x.cells.all D.one=true/\0<P.cellsOf e)
 | .build t ps,xs=>still h (uG P t ps.toList xs)
 | .buildSlice t n ps,xs=>if C.bs then lu P t n ps.toList xs h b else still h (sK P t n ps.toList xs)
 | .load t _,[a]=>still h (lN P t a h)
 | .store t _ _,[a,x]=>(.v undef,lH P t a x h)
 | .nilCheck _,[x]=>(x,h,mM x=true)
 | .binOp op t _ _ _,[x,y]=>still h (o8 P t op x y)
 | .unOp op _ _,[x]=>still h (pK op x)
 | .convert src dst _,[x]=>still h (sJ P src dst x)
 | .makeFunc f first _,xs=>(.fn f (xs.take first.size) (xs.drop first.size),h,True)
 | .slice t _ l hi m,x::xs =>
  still h (iY P t x (fM l xs).1 (fM hi (fM l xs).2).1 (fM m (fM hi (fM l xs).2).2).1 h)
 | .fieldAddr s _ f,[a]=>still h (sG P s f a)
 | .field s _ f,[a]=>still h (wL P s f a)
 | .indexAddr t _ _,[x,ix]=>still h (fG P t x ix h)
 | .index t _ _,[x,ix]=>still h (sj P t x ix)
 | .makeSlice t _ _,[x,y]=>jh P t h b x y
 | .makeMap t _,xs=>rU P t xs h b
 | .mapUpdate t _ _ _,[m,k,x] | .insert t _ _ _,[m,k,x]=>(.v undef,ma P t m k x h)
 | .lookup t _ _ ok,[m,k]=>still h (jM P t ok m k h)
 | .extract _ i,[.tuple ds]=>(ds.getD i .junk,h,i<ds.length)
 | .call { callee:=.builtin .len,argTypes,.. },[x]=>(.v (.int .i64 (aV x)),h,match argTypes.toList with|[t]=>rV P t x=true|_=>False)
 | .call { callee:=.builtin .append,argTypes,.. },[x,y]=>(match argTypes.toList with|[t,u]=>kI P t u x y h b|_=>(.junk,h,False))
 | .call { callee:=.builtin .min,.. },xs=>still h (y7 xs)
 | .call { callee:=.builtin .max,.. },xs=>still h (y8 xs)
 | .call { callee:=.value f,.. },xs=>fQ W C f xs h b
 | _,_=>(.junk,h,False)
inductive Cls where
 | none|reads|writes
 deriving DecidableEq
def aT (op:Op):Cls:=match op with
 | .load .. | .indexAddr .. | .slice .. => .reads
 | .alloc _ | .box .. | .store .. | .makeSlice .. | .makeMap .. | .mapUpdate .. | .insert .. => .writes
 | .lookup .. => .reads
 | .buildSlice .. => if C.bs then .writes else .none
 | .call { callee:=.builtin .append,.. }=>.writes
 | .call { callee:=.value f,.. }=>if C.cf then .none else if wu f then .reads else .writes
 | _=>.none
def bX:Op->Bool
 | .pick .. => true
 | _=>false
def aL (g:Bool) (op:Op) (xs:List D) (h:H) (b:Nat):D×H×Prop :=
 if bX op then still h (yM g xs)
 else let r:=aN P W C op (xs.map sd) h b;(r.1,r.2.1,(g=true->xs.all sg=true)/\r.2.2)
def S.put (s:S) (d:Option Tmp) (x:D):Nat->D:=match d with
 | some d=>upd s.t d x
 | none=>s.t
def bB (n:Nat):Option Tmp->Bool
 | some d=>decide (d<n)
 | none=>true
def bu (L:List Oper) (b:Nat) (i:Nat) (o:Oper) (s:S):S :=
 match o.guard with
 | none =>
  let r:=aL P W C true o.op ((aQ o.op).map s.ev) s.h (b+i)
  { s with t:=s.put o.dst r.1,h:=r.2.1,ok:=s.ok/\bB s.n o.dst=true/\r.2.2 }
 | some (j,want) =>
  let gd:=((L[j]?).bind (·.dst)).elim .junk s.t
  let r:=aL P W C (gD gd want) o.op ((aQ o.op).map s.ev) s.h (b+i)
  { s with t:=s.put o.dst (.cond (gD gd want) r.1),ok:=s.ok/\bB s.n o.dst=true/\kX gd=true/\aT C o.op ≠ .writes/\(gD gd want=true->r.2.2) }
def aF (L:List Oper) (b:Nat):Nat->List Oper->S->S
 | _,[],s=>s
 | i,o::os,s=>aF L b (i+1) os (bu P W C L b i o s)
def S.begin (s:S) (k:Nat):S:={ s with nx:=s.nx+k }
def exec (L:List Oper) (s:S):S:=aF P W C L s.nx 0 L (s.begin L.length)
end
end Go.DL
namespace Go.DL
open Go.RowKit
theorem uW {k:IntKind}{n:Int}(h:gV k n):k.wrap n=n:=by
 cases k<;>simp[gV,IntKind.min,IntKind.max,IntKind.signed,IntKind.bits] at h
 .
  exact IntWalk.i8_in n h
 .
  exact IntWalk.i16_in n h
 .
  exact IntWalk.i32_in n h
 .
  exact IntWalk.i64_in n h
 .
  exact IntWalk.u8_in n ⟨h.1,om⟩
 .
  exact IntWalk.u16_in n ⟨h.1,om⟩
 .
  exact IntWalk.u32_in n ⟨h.1,om⟩
 exact IntWalk.u64_in n ⟨h.1,om⟩
theorem Ua {k:IntKind}{a b:Int}(h:gV k a) (h0:0<=a) (h1:1<=b):gV k (a / b):=by
 have h2:0<=a / b:=Int.ediv_nonneg h0 om
 have h3:a / b<=a:=Int.ediv_le_self _ h0
 exact⟨by have:=h.1;cases k<;>simp[IntKind.min,IntKind.signed,IntKind.bits] at * <;> omega,Int.le_trans h3 h.2⟩
variable {P : Program}
theorem LY [Glob P] {t:TypeId}{op:BinOp}{x y:Value}(h:(bY P t op x y).2) (a b:Operand) (w:World) :
  (do eqGuard op t a b x y;binOp op t x y:Sem Value).run P w = .ok (bY P t op x y).1 w:=by
 unfold bY at h ⊢
 split at h
 case h_1 k a' k' b' =>
  by_cases hs:k.signed=true
  .
   simp only[hs,ZK] at h ⊢;obtain⟨rfl,h2⟩:=h
   simp[eqGuard,binOp,Op.intArith,uW h2]
  simp only[hs,Y9,Ym] at h ⊢;subst h
  simp[eqGuard,binOp,Op.intArith]
 case h_2 k a' k' b' =>
  by_cases hs:k.signed=true
  .
   simp only[hs,ZK] at h ⊢;obtain⟨rfl,h2⟩:=h
   simp[eqGuard,binOp,Op.intArith,uW h2]
  simp only[hs,Y9,Ym] at h ⊢;subst h
  simp[eqGuard,binOp,Op.intArith]
 case h_3 k a' k' b' =>
  by_cases hs:k.signed=true
  .
   simp only[hs,ZK] at h ⊢;obtain⟨rfl,h2⟩:=h
   simp[eqGuard,binOp,Op.intArith,uW h2]
  simp only[hs,Y9,Ym] at h ⊢;subst h
  simp[eqGuard,binOp,Op.intArith]
 case h_4 k a' k' b' =>
  obtain⟨rfl,h2,h3,h4⟩:=h;have e:k.wrap (a'.tdiv b')=a' / b':=by
   rw[Int.tdiv_eq_ediv_of_nonneg h2,uW (Ua h4 h2 h3)]
  simp[eqGuard,binOp,Op.intDiv,show b'≠0 by omega,e]
 case h_5 k a' k' b' =>
  obtain⟨rfl,h2,h3⟩:=h
  simp[eqGuard,binOp,Op.intDiv,show b'≠0 by omega,Int.tmod_eq_emod_of_nonneg h2]
 case h_17 a' b' =>
  simp only[eqGuard,binOp]
  simp[Op.stringOp,ByteArray.toList_eq]
 case h_18 a' b' =>
  simp only[eqGuard,binOp]
  simp[Op.stringOp,ByteArray.toList_eq]
 case h_19 a' b' =>
  simp only[eqGuard,binOp]
  simp[Op.stringOp,ByteArray.toList_eq]
 case h_20 a' b' =>
  simp only[eqGuard,binOp]
  simp[Op.stringOp,ByteArray.toList_eq]
 case h_21 k a' k' b' =>
  have h' : ¬ b'<0:=by omega
  simp[eqGuard,binOp,Op.shift,h']
 case h_22 k a' k' b' =>
  have h' : ¬ b'<0:=by omega
  simp[eqGuard,binOp,Op.shift,h']
 case h_23 k a' k' b' =>
  subst h
  simp[eqGuard,binOp,Op.intBits]
 case h_24 k a' k' b' =>
  subst h
  simp[eqGuard,binOp,Op.intBits]
 case h_25=>exact h.elim
 case h_16 a' b' =>
  have:=run_string_add_sum (P:=P) w a' b' h
  simp[eqGuard,binOp,this]
 case h_12 a' b' =>
  have e:(Op.equalIn 10000 t (.bool a') (.bool b')).run P w = .ok (a'==b') w:=run_equalIn_bool w 9999 t a' b' h;simp only[eqGuard,binOp]
  simp[Op.equal,Op.maxDepth,e]
 case h_13 a' b' =>
  have e:(Op.equalIn 10000 t (.bool a') (.bool b')).run P w = .ok (a'==b') w:=run_equalIn_bool w 9999 t a' b' h;simp only[eqGuard,binOp]
  simp[Op.equal,Op.maxDepth,e,bne]
 case h_14 a' b' =>
  simp only[eqGuard,binOp]
  simp[Op.stringOp,ByteArray.toList_eq]
 case h_15 a' b' =>
  simp only[eqGuard,binOp]
  simp[Op.stringOp,ByteArray.toList_eq,bne]
 all_goals
  subst h;simp only[eqGuard,binOp]
  simp[Op.intCmp]
theorem Rep.v_inv {w:World}{g:Mem}{x y:Value}(h:Rep w g (.v x) y):y=x:=by cases h;rfl
theorem QV {k:Kd}{a b:D}(h:p9 k a b=true) :
  (k = .i /\ ∃ kk x y,a = .v (.int kk x)/\b = .v (.int kk y))\/(k = .b /\ ∃ x y,a = .v (.bool x)/\b = .v (.bool y))\/(k = .s /\ ∃ x y,a = .v (.string x)/\b = .v (.string y)):=by
 unfold p9 at h
 split at h
 .
  simp only[YE] at h;subst h;exact .inl ⟨rfl,_,_,_,rfl,rfl⟩
 .
  exact .inr (.inl ⟨rfl,_,_,rfl,rfl⟩)
 .
  exact .inr (.inr ⟨rfl,_,_,rfl,rfl⟩)
 cases h
theorem Kr [Glob P]:∀ (fs:List Field) (i:Nat) (ks:List Kd) (xs ys:List Value) (dx dy:List D) (w:World) (g:Mem) (n:Nat),qK P i fs=some ks->jQ ks (dx.drop i) (dy.drop i)=true ->
  Reps w g dx xs->Reps w g dy ys->(Op.eqFields (n+1) xs.toArray ys.toArray fs).run P w = .ok (iL (dx.drop i) (dy.drop i)) w:=by
 intro fs
 induction fs with
 | nil =>
  intro i ks xs ys dx dy w g n hk hp hx hy;simp only[qK,Yh] at hk;subst hk
  cases h1:dx.drop i with
  | nil=>simp[Op.eqFields,iL]
  | cons a l=>rw[h1] at hp;simp[jQ] at hp
 | cons f fs ih =>
  intro i ks xs ys dx dy w g n hf hp hx hy;simp only[qK] at hf
  split at hf
  case isFalse=>cases hf
  rename_i hno
  simp only[XW,ZL,YE] at hno;obtain⟨hn,ho⟩:=hno
  split at hf
  case h_2=>cases hf
  rename_i k ks' hk hr
  simp only[Yh] at hf;subst hf;have hlt:i<dx.length:=by
   rcases YV i dx.length with h|h
   .
    exact h
   rw[YU h] at hp;simp[jQ] at hp
  have hxi:dx.drop i=dx[i]::dx.drop (i+1):=Yy hlt;have hlty:i<dy.length:=by
   rcases YV i dy.length with h|h
   .
    exact h
   rw[hxi,YU h] at hp;simp[jQ] at hp
  have hyi:dy.drop i=dy[i]::dy.drop (i+1):=Yy hlty;rw[hxi,hyi] at hp ⊢;simp only[jQ,XW] at hp;have hlx:i<xs.length:=by rw[<- hx.1];exact hlt
  have hly:i<ys.length:=by rw[<- hy.1];exact hlty
  have rx:=hx.2 i dx[i] xs[i] (by simp) (by simp)
  have ry:=hy.2 i dy[i] ys[i] (by simp) (by simp)
  have ih':=ih (i+1) ks' xs ys dx dy w g n hr hp.2 hx hy;have hu : ∃ d,P.underlying f.type=some d/\((k = .b/\d = .bool)\/(k = .s/\d = .string)\/(k = .i /\ ∃ kk,d = .int kk)):=by
   unfold kindOf at hk
   split at hk<;>simp at hk<;>subst hk<;>simp_all
  obtain⟨d,hu,hd⟩:=hu;have hagg:(isAgg f.type).run P w = .ok false w:=by
   unfold isAgg;rw[Sem.run_bind,run_underlying hu w]
   rcases hd with⟨_,rfl⟩|⟨_,rfl⟩|⟨_,kk,rfl⟩<;>simp
  have px:(part f.type xs.toArray f.offset).run P w = .ok xs[i] w:=by
   unfold part;simp[hagg,ho,hlx]
  have py:(part f.type ys.toArray f.offset).run P w = .ok ys[i] w:=by
   unfold part;simp[hagg,ho,hly]
  have heq:(Op.equalIn (n+1) f.type xs[i] ys[i]).run P w = .ok (iM dx[i] dy[i]) w:=by
   rcases QV hp.1 with⟨rfl,kk,x,y,e1,e2⟩|⟨rfl,x,y,e1,e2⟩|⟨rfl,x,y,e1,e2⟩<;>rw[e1] at rx ⊢ <;> rw[e2] at ry ⊢ <;> rw[rx.v_inv,ry.v_inv]
   .
    rcases hd with⟨h,_⟩|⟨h,_⟩|⟨_,k2,rfl⟩
    .
     cases h
    .
     cases h
    exact run_equalIn_int w n f.type kk k2 x y hu
   .
    rcases hd with⟨_,rfl⟩|⟨h,_⟩|⟨h,_⟩
    .
     exact run_equalIn_bool w n f.type x y hu
    .
     cases h
    cases h
   rcases hd with⟨h,_⟩|⟨_,rfl⟩|⟨h,_⟩
   .
    cases h
   .
    rw[run_equalIn_string w n f.type x y hu,ByteArray.toList_eq,ByteArray.toList_eq];rfl
   cases h
  simp only[Op.eqFields,X6 hn,Sem.run_bind,px,py,heq,Result.andThen_ok,iL]
  cases hc:iM dx[i] dy[i] with
  | false=>simp
  | true=>simp[ih']
theorem WY [Glob P] {t:TypeId}{op:BinOp}{x y:D}{vx vy:Value}{w:World}{g:Mem}(hx:Rep w g x vx) (hy:Rep w g y vy) (h:(o8 P t op x y).2) (a b:Operand) :
  ∃ v,(do eqGuard op t a b vx vy;binOp op t vx vy:Sem Value).run P w = .ok v w/\Rep w g (o8 P t op x y).1 v:=by
 unfold o8 at h ⊢
 split at h
 .
  rename_i x y
  rw[hx.v_inv,hy.v_inv];exact⟨_,LY h a b w,.v _⟩
 .
  rename_i xs ys
  cases hx with|agg _ vs hn hv =>
  cases hy with|agg _ us hm hu =>
  have key : ∀ ks,kF P t=some ks->jQ ks xs ys=true->(Op.equalIn 10000 t (.agg vs) (.agg us)).run P w = .ok (iL xs ys) w/\P.eqGuardType P.depth t=false:=by
   intro ks hks hp;unfold kF at hks
   split at hks
   case h_2=>cases hks
   rename_i fs hfs
   split at hks
   case isFalse=>cases hks
   rename_i hc
   simp only[XW,Ye] at hc;have hF:P.fieldsOf t=fs:=by simp[Program.fieldsOf,hfs]
   have h1:=run_equalIn_agg (P:=P) w 9999 t vs us (by rw[hF];exact hfs) hc.1
   have h2:=Kr (P:=P) fs.toList 0 ks vs.toList us.toList xs ys w g 9998 hks (by simpa using hp) ⟨by simpa using hn,fun i d x h1 h2=>hv i d x h1 (by simpa using h2)⟩ ⟨by simpa using hm,fun i d x h1 h2=>hu i d x h1 (by simpa using h2)⟩
   rw[hF] at h1;simp only[Array.toArray_toList,X7] at h2;exact⟨h1.trans h2,hc.2⟩
  split at h
  .
   split at h
   .
    rename_i ks hks
    obtain⟨k1,k2⟩:=key ks hks h;refine⟨.bool (iL xs ys),?_,.v _⟩;simp only[Sem.run_bind,run_eqGuard_agg w .eql t a b vs us k2,Result.andThen_ok,run_eql_struct,k1]
   exact h.elim
  .
   split at h
   .
    rename_i ks hks
    obtain⟨k1,k2⟩:=key ks hks h;refine⟨.bool (!iL xs ys),?_,.v _⟩;simp only[Sem.run_bind,run_eqGuard_agg w .neq t a b vs us k2,Result.andThen_ok,run_neq_struct,k1]
   exact h.elim
  exact h.elim
 exact h.elim
end Go.DL
namespace Go.DL
open Go.RowKit
variable {P : Program}
theorem iQ [Glob P] {h:H}{g:Mem}{w:World}(hm:HM P h g w) {r b c s:Nat}(e:g.M r=some (some b,c,s)):b<w.heap.size /\ ¬ g.I b /\ ∃ bl,h r=some bl:=by
 cases hr:h r with
 | none=>rw[hm.dead r hr] at e;cases e
 | some bl =>
  obtain⟨blk,c',e1,_,_,_,h5⟩:=hm.blk r bl hr;rw[e] at e1;simp only[Yh,YI] at e1
  rcases h5 with⟨h6,_⟩|⟨b',cur,h6,h7,_,h8,_⟩
  .
   rw[<- e1.1] at h6;cases h6
  rw[<- e1.1] at h6;cases h6
  obtain⟨x,hx,_⟩:=h7.some;exact⟨(Yk.1 hx).1,h8,_,rfl⟩
theorem HM.putB [Glob P] {h h':H}{g:Mem}{w w':World}(hm:HM P h g w) (b nb c:Nat) (bl:Blk) (cur:Array Value)
  (hb : ¬ g.U b\/g.M b=some (some nb,c,P.cellsOf bl.ty)) (hb':h' b=some bl) (hr : ∀ r,r≠b->h' r=h r\/h' r=none)
  (hnb:w.heap.size<=nb \/ ∃ r c' s',g.M r=some (some nb,c',s')/\(r=b\/h' r=none))
  (hcur:LieB w'.heap[nb]? bl.ty cur c) (hsz:c<=maxLen->cur.size=c*P.cellsOf bl.ty) (hpos:0<P.cellsOf bl.ty) (hle:bl.rows.length<=c) (hmax:c<=maxLen+1)
  (hold:Holds P w g bl cur) (gb:w.grownBy w' (some nb)) (hdr:w.drawn<=w'.drawn:=by first|exact XY _|exact Nat.le_succ _) :
  ∃ g':Mem,g'.M b=some (some nb,c,P.cellsOf bl.ty)/\(∀ r,g'.U r ↔ g.U r\/r=b)/\(∀ b,g'.I b ↔ g.I b)/\HM P h' g' w'/\Mono g g' w w':=by
 let g':Mem:={ M:=fun r=>if r=b then some (some nb,c,P.cellsOf bl.ty) else if (h' r).isSome then g.M r else none,U:=fun r=>g.U r\/r=b,I:=g.I }
 have e_b:g'.M b=some (some nb,c,P.cellsOf bl.ty):=by simp[g']
 have e_r : ∀ r,r≠b->g'.M r=if (h' r).isSome then g.M r else none:=fun r hr=>by simp[g',hr]
 have hne : ∀ r c' s',r≠b->g'.M r≠some (some nb,c',s'):=by
  intro r c' s' hrb he;rw[e_r r hrb] at he
  split at he
  .
   rename_i hs
   rcases hnb with h1|⟨r2,c2,s2,h2,h3⟩
   .
    have:=(iQ hm he).1;omega
   have:r=r2:=hm.inj _ _ _ _ _ _ _ he h2;subst this
   rcases h3 with h3|h3
   .
    exact hrb h3
   rw[h3] at hs;cases hs
  cases he
 have hnI : ¬ g.I nb:=by
  intro hi
  rcases hnb with h1|⟨r2,c2,s2,h2,_⟩
  .
   have:=hm.imm nb hi;omega
  exact (iQ hm h2).2.1 hi
 have mono:Mono g g' w w':=by
  refine⟨gb.os,gb.tape,gb.output,gb.size,hdr,fun r h=>.inl h,fun r hu=>?_,fun r b' c' s' he=>?_,fun _ h=>h,fun _ h=>.inl h,fun k hk hn=>?_⟩
  .
   by_cases e:r=b
   .
    subst e
    rcases hb with h1|h1
    .
     exact absurd hu h1
    rw[e_b,h1];exact .inl rfl
   rw[e_r r e];split
   .
    exact .inl rfl
   exact .inr rfl
  .
   by_cases e:r=b
   .
    subst e;rw[e_b] at he;simp only[Yh,YI] at he;obtain⟨rfl,_,_⟩:=he
    rcases hnb with h1|⟨r2,c2,s2,h2,_⟩
    .
     exact .inr h1
    exact .inl ⟨r2,c2,s2,h2⟩
   rw[e_r r e] at he
   split at he
   .
    exact .inl ⟨r,c',s',he⟩
   cases he
  refine gb.block k hk fun e=>?_
  cases e
  rcases hnb with h1|⟨r2,c2,s2,h2,_⟩
  .
   omega
  exact hn _ _ _ h2
 refine⟨g',e_b,fun _=>Iff.rfl,fun _=>Iff.rfl,⟨fun r hn=>?_,fun r bl' hrl=>?_,fun r r' b' c1 c2 s1 s2 e1 e2=>?_,fun r hn=>?_,fun k hk=>YB (hm.imm k hk) gb.size,hm.gr.later (hm.kept mono)⟩,mono⟩
 .
  have e:r≠b:=fun e=>by rw[e,hb'] at hn;cases hn
  rw[e_r r e,hn];rfl
 .
  by_cases e:r=b
  .
   subst e;rw[hb'] at hrl;cases hrl
   refine⟨some nb,c,e_b,hpos,hle,hmax,.inr ⟨nb,cur,rfl,hcur,hsz,hnI,fun i row hi=>?_⟩⟩
   obtain⟨h1,h2⟩:=hold i row hi;refine⟨h1,fun j d hd=>?_⟩
   obtain⟨u,h3,h4,h5⟩:=h2 j d hd;exact⟨u,h3,h4,h5.later hm mono⟩
  rcases hr r e with e1|e1
  .
   rw[e1] at hrl;obtain⟨blk,c',h1,h2,h3,h4,h5⟩:=hm.blk r bl' hrl;refine⟨blk,c',by rw[e_r r e,e1,hrl];exact h1,h2,h3,h4,?_⟩
   rcases h5 with h5|⟨b',cur',rfl,h6,h7,h8,h9⟩
   .
    exact .inl h5
   refine .inr ⟨b',cur',rfl,?_,h7,h8,fun i row hi=>?_⟩
   .
    have hb':b'≠nb:=fun e2=>by
     subst e2;exact hne r c' _ e (by rw[e_r r e,e1,hrl];exact h1)
    rw[gb.block b' (iQ hm h1).1 (by simpa using hb')];exact h6
   obtain⟨k1,k2⟩:=h9 i row hi;refine⟨k1,fun j d hd=>?_⟩
   obtain⟨u,k3,k4,k5⟩:=k2 j d hd;exact⟨u,k3,k4,k5.later hm mono⟩
  rw[e1] at hrl;cases hrl
 .
  by_cases e:r=b<;>by_cases e':r'=b
  .
   rw[e,e']
  .
   subst e;rw[e_b] at e1;simp only[Yh,YI] at e1;obtain⟨rfl,_,_⟩:=e1;exact absurd e2 (hne r' _ _ e')
  .
   subst e';rw[e_b] at e2;simp only[Yh,YI] at e2;obtain⟨rfl,_,_⟩:=e2;exact absurd e1 (hne r _ _ e)
  rw[e_r r e] at e1;rw[e_r r' e'] at e2
  split at e1
  .
   split at e2
   .
    exact hm.inj _ _ _ _ _ _ _ e1 e2
   cases e2
  cases e1
 by_cases e:r=b
 .
  exact .inr e
 rw[e_r r e] at hn
 split at hn
 .
  exact .inl (hm.used r hn)
 exact absurd rfl hn
theorem HM.put [Glob P] {h h':H}{g:Mem}{w w':World}(hm:HM P h g w) (b nb c:Nat) (bl:Blk) (cur:Array Value)
  (hb : ¬ g.U b\/g.M b=some (some nb,c,P.cellsOf bl.ty)) (hb':h' b=some bl) (hr : ∀ r,r≠b->h' r=h r\/h' r=none)
  (hnb:w.heap.size<=nb \/ ∃ r c' s',g.M r=some (some nb,c',s')/\(r=b\/h' r=none))
  (hcur:w'.heap[nb]? = some (.cells cur bl.ty (0,0))) (hsz:cur.size=c*P.cellsOf bl.ty) (hpos:0<P.cellsOf bl.ty) (hle:bl.rows.length<=c) (hmax:c<=maxLen)
  (hold:Holds P w g bl cur) (gb:w.grownBy w' (some nb)) (hdr:w.drawn<=w'.drawn:=by first|exact XY _|exact Nat.le_succ _) :
  ∃ g':Mem,g'.M b=some (some nb,c,P.cellsOf bl.ty)/\(∀ r,g'.U r ↔ g.U r\/r=b)/\(∀ b,g'.I b ↔ g.I b)/\HM P h' g' w'/\Mono g g' w w' :=
 hm.putB b nb c bl cur hb hb' hr hnb (.inl ⟨hmax,hcur⟩) (fun _=>hsz) hpos hle (Nat.le_succ_of_le hmax) hold gb hdr
theorem HM.putNone [Glob P] {h h':H}{g:Mem}{w:World}(hm:HM P h g w) (b:Nat) (bl:Blk) (hb : ¬ g.U b) (hb':h' b=some bl) (hr : ∀ r,r≠b->h' r=h r\/h' r=none) (hpos:0<P.cellsOf bl.ty) (hle:bl.rows=[]) :
  ∃ g':Mem,g'.M b=some (none,0,P.cellsOf bl.ty)/\(∀ r,g'.U r ↔ g.U r\/r=b)/\(∀ b,g'.I b ↔ g.I b)/\HM P h' g' w/\Mono g g' w w:=by
 let g':Mem:={ M:=fun r=>if r=b then some (none,0,P.cellsOf bl.ty) else if (h' r).isSome then g.M r else none,U:=fun r=>g.U r\/r=b,I:=g.I }
 have e_b:g'.M b=some (none,0,P.cellsOf bl.ty):=by simp[g']
 have e_r : ∀ r,r≠b->g'.M r=if (h' r).isSome then g.M r else none:=fun r hr=>by simp[g',hr]
 have mono:Mono g g' w w:=by
  refine⟨rfl,rfl,rfl,XY _,XY _,fun r h=>.inl h,fun r hu=>?_,fun r b' c' s' he=>?_,fun _ h=>h,fun _ h=>.inl h,fun k hk hn=>rfl⟩
  .
   have e:r≠b:=fun e=>hb (e ▸ hu)
   rw[e_r r e];split
   .
    exact .inl rfl
   exact .inr rfl
  by_cases e:r=b
  .
   subst e;rw[e_b] at he;cases he
  rw[e_r r e] at he
  split at he
  .
   exact .inl ⟨r,c',s',he⟩
  cases he
 refine⟨g',e_b,fun _=>Iff.rfl,fun _=>Iff.rfl,⟨fun r hn=>?_,fun r bl' hrl=>?_,fun r r' b' c1 c2 s1 s2 e1 e2=>?_,fun r hn=>?_,fun k hk=>hm.imm k hk,hm.gr.later (hm.kept mono)⟩,mono⟩
 .
  have e:r≠b:=fun e=>by rw[e,hb'] at hn;cases hn
  rw[e_r r e,hn];rfl
 .
  by_cases e:r=b
  .
   subst e;rw[hb'] at hrl;cases hrl
   exact⟨none,0,e_b,hpos,by rw[hle];exact XY _,Yo _,.inl ⟨rfl,rfl⟩⟩
  rcases hr r e with e1|e1
  .
   rw[e1] at hrl;obtain⟨blk,c',h1,h2,h3,h4,h5⟩:=hm.blk r bl' hrl;refine⟨blk,c',by rw[e_r r e,e1,hrl];exact h1,h2,h3,h4,?_⟩
   rcases h5 with h5|⟨b',cur',rfl,h6,h7,h8,h9⟩
   .
    exact .inl h5
   refine .inr ⟨b',cur',rfl,h6,h7,h8,fun i row hi=>?_⟩
   obtain⟨k1,k2⟩:=h9 i row hi;refine⟨k1,fun j d hd=>?_⟩
   obtain⟨u,k3,k4,k5⟩:=k2 j d hd;exact⟨u,k3,k4,k5.later hm mono⟩
  rw[e1] at hrl;cases hrl
 .
  by_cases e:r=b
  .
   subst e;rw[e_b] at e1;cases e1
  by_cases e':r'=b
  .
   subst e';rw[e_b] at e2;cases e2
  rw[e_r r e] at e1;rw[e_r r' e'] at e2
  split at e1
  .
   split at e2
   .
    exact hm.inj _ _ _ _ _ _ _ e1 e2
   cases e2
  cases e1
 by_cases e:r=b
 .
  exact .inr e
 rw[e_r r e] at hn
 split at hn
 .
  exact .inl (hm.used r hn)
 exact absurd rfl hn
end Go.DL
namespace Go.DL
open Go.RowKit
variable {P : Program}
def Does (P:Program) [Glob P] (g:Mem) (w:World) (b:Nat) (r:Result Next) (d:D) (h':H):Prop :=
 ∃ v g' w',(r = .ok (.value v) w'\/(r = .ok .skip w'/\v=undef))/\Rep w' g' d v/\HM P h' g' w'/\Mono g g' w w' /\ ∀ r,g'.U r->g.U r\/r=b
theorem Does.still [Glob P] {g:Mem}{w:World}{b:Nat}{s:Sem Value}{d:D}{h:H}{v:Value}(hm:HM P h g w) (hr:s.run P w = .ok v w) (hv:Rep w g d v) :
  Does P g w b ((do pure (.value (<- s)):Sem Next).run P w) d h :=
 ⟨v,g,w,.inl (by simp[hr]),hv,hm,Mono.refl _ _,fun _ h=>.inl h⟩
theorem Rep.one {w:World}{g:Mem}{d:D}{v:Value}(h:Rep w g d v) (h1:d.one=true):v.oneCell'=true/\v.cells = #[v]:=by
 cases h with
 | v=>cases v<;>simp_all [D.one,Value.oneCell',Value.cells]
 | agg=>simp[D.one] at h1
 | tuple=>simp[D.one] at h1
 | iface=>simp[Value.oneCell',Value.cells]
 | empty=>simp[Value.oneCell',Value.cells]
 | list=>simp[Value.oneCell',Value.cells]
 | eptr=>simp[Value.oneCell',Value.cells]
 | mrow r off len x hx=>obtain⟨a,c,rfl,_⟩:=hx;simp[Value.oneCell',Value.cells]
 | mptr r i off x hx=>obtain⟨p,rfl⟩:=hx;simp[Value.oneCell',Value.cells]
 | mp r x hx=>obtain⟨p,rfl⟩:=hx;simp[Value.oneCell',Value.cells]
 | fmap=>simp[Value.oneCell',Value.cells]
 | fn=>simp[Value.oneCell',Value.cells]
 | cond=>simp[D.one] at h1
 | junk=>simp[D.one] at h1
theorem Rep.cells {w:World}{g:Mem}{d:D}{v:Value}(h:Rep w g d v) (h1:d.cells.all D.one=true) :
  Reps w g d.cells v.cells.toList/\(∀ u∈v.cells.toList,u.oneCell'=true)/\v.cells.size=d.cells.length:=by
 by_cases ha : ∃ cs,d = .agg cs
 .
  obtain⟨cs,rfl⟩:=ha
  cases h with|agg _ vs hn hv =>
  simp only[D.cells] at h1 ⊢;refine⟨⟨by simpa [Value.cells] using hn,fun i d x h2 h3=>hv i d x h2 (by simpa [Value.cells] using h3)⟩,fun u hu=>?_,by simp[Value.cells,hn]⟩
  simp only[Value.cells,Array.mem_toList_iff] at hu;obtain⟨i,hi,rfl⟩:=Array.mem_iff_getElem.1 hu;have hd:i<cs.length:=by omega
  exact ((hv i cs[i] vs[i] (by simp) (by simp)).one (YQ.1 h1 _ (Yv hd))).1
 have e:d.cells=[d]:=by cases d<;>simp_all [D.cells]
 rw[e] at h1 ⊢
 have h2:=h.one (by simpa using h1)
 rw[h2.2]
 exact⟨.cons h .nil,by simpa using h2.1,by simp⟩
theorem si [Glob P] {t:TypeId}(h:0<P.cellsOf t):∃ i,P.info? t=some i/\i.size=P.cellsOf t:=by
 unfold Program.cellsOf at h ⊢
 cases hi:P.info? t with
 | none=>simp[hi] at h
 | some i=>exact⟨i,rfl,by simp⟩
theorem jX [Glob P] {t:TypeId}(h:0<P.cellsOf t) (w:World):(sizeOf t).run P w = .ok (P.cellsOf t) w:=by
 obtain⟨i,hi,hs⟩:=si h
 simp[sizeOf,typeInfo,hi,hs]
theorem Jq [Glob P] {t:TypeId}(h:(P.underlying t).isSome=true) (w:World):(isAgg t).run P w = .ok (aK P t) w:=by
 obtain⟨d,hd⟩:=YN.1 h
 unfold isAgg aK
 rw[Sem.run_bind,run_underlying hd w,hd]
 cases d<;>simp
theorem SC [Glob P] {r i off:Nat}{h:H}:fD P (.mptr r i off) h=match h r with|some b=>(b.rows.getD i []).drop off|none=>[]:=rfl
theorem SB [Glob P] {x o:Nat}{h:H}:fD P (.v (.pointer (some ⟨x,o,none⟩))) h=match Glob.tab P x with|some cs=>(cs.drop o).map D.v|none=>[]:=rfl
theorem Ha [Glob P] {h:H}{g:Mem}{w:World}(hm:HM P h g w) {a:D}{va:Value}(ha:Rep w g a va) (hne:fD P a h≠[]) :
  ∃ p,va = .pointer (some p) /\ ∀ (j:Nat) d,(fD P a h)[j]? = some d -> ∃ u,w.cell? (p.add j)=some u/\Rep w g d u:=by
 cases ha with
 | eptr cs p cv hI hc hr=>exact⟨p,rfl,fun j d hj=>⟨cv j,hc j d hj,hr j d hj⟩⟩
 | mptr r i off x hx hU hv =>
  simp only[SC] at hne ⊢
  cases hr:h r with
  | none=>rw[hr] at hne;exact absurd rfl hne
  | some bl =>
   rw[hr] at hne;simp only at hne ⊢;obtain⟨blk,c,h1,h2,h3,h4,h5⟩:=hm.blk r bl hr;have hi:i<bl.rows.length:=by
    rcases YV i bl.rows.length with h|h
    .
     exact h
    simp[List.getD,ZO h] at hne
   rcases h5 with⟨_,rfl⟩|⟨b,cur,rfl,h6,h7,h8,h9⟩
   .
    omega
   obtain⟨hcm,b',he,rfl⟩:=hv _ _ _ h1
   cases he
   refine⟨_,rfl,fun j d hj=>?_⟩
   rw[YZ] at hj;obtain⟨_,k2⟩:=h9 i (bl.rows.getD i []) (by simp[List.getD,Yg hi])
   obtain⟨u,k3,_,k5⟩:=k2 (off+j) d hj;refine⟨u,?_,k5⟩;rw[jy,cell_of_row w b _ cur bl.ty (0,0) (h6.cells hcm),<- k3]
   congr 1
   omega
 | v =>
  by_cases hp : ∃ b o,va=Value.pointer (some ⟨b,o,none⟩)
  .
   obtain⟨b,o,rfl⟩:=hp;refine⟨_,rfl,fun j d hj=>?_⟩
   rw[SB] at hj
   cases ht:Glob.tab P b with
   | none=>rw[ht] at hj;simp at hj
   | some cs =>
    rw[ht] at hj;simp only[YJ,YZ,Option.map_eq_some_iff] at hj;obtain⟨u,h1,rfl⟩:=hj;exact⟨u,by rw[jy];exact (hm.gr b cs ht).2 _ u h1,.v _⟩
  refine absurd ?_ hne;unfold fD
  split
  .
   rename_i x' o e
   first|(cases e;exact absurd ⟨_,_,rfl⟩ hp)|exact absurd ⟨_,_,rfl⟩ hp
  rfl
 | _=>exact absurd rfl hne
theorem FT [Glob P] {t:TypeId}{p:Addr}{w:World}{g:Mem}{ds:List D}(hc : ∀ (j:Nat) d,ds[j]? = some d -> ∃ u,w.cell? (p.add j)=some u/\Rep w g d u)
  (hn:P.cellsOf t<=ds.length) (hp:0<P.cellsOf t) (hu:(P.underlying t).isSome=true):∃ v,(loadVar t p).run P w = .ok v w/\Rep w g (nW P t ds) v:=by
 unfold loadVar nW
 rw[Sem.run_bind,Jq hu w]
 cases hg:aK P t with
 | false =>
  have h0:0<ds.length:=by omega
  obtain⟨u,h1,h2⟩:=hc 0 ds[0] (by simp)
  refine⟨u,?_,?_⟩
  .
   simp only[Addr.add,ZK] at h1
   simp[h1]
  have:ds.headD .junk=ds[0]:=by cases ds<;>simp_all
  simp only[Ym,Y9];rw[this];exact h2
 | true =>
  have hex : ∀ j,∃ u,j<P.cellsOf t->w.cell? (p.add j)=some u /\ ∀ d,ds[j]? = some d->Rep w g d u:=by
   intro j
   by_cases hj:j<P.cellsOf t
   .
    obtain⟨u,h1,h2⟩:=hc j (ds[j]'(by omega)) (by simp)
    refine⟨u,fun _=>⟨h1,fun d hd=>?_⟩⟩
    rw[Yg (by omega)] at hd
    cases hd;exact h2
   exact⟨undef,fun h=>absurd h hj⟩
  let f:=fun j=>Classical.choose (hex j)
  have hf:=fun j=>ZB (hex j)
  refine⟨.agg ((List.range (P.cellsOf t)).map f).toArray,?_,?_⟩
  .
   have:=run_loadCells (P:=P) w p (P.cellsOf t) f (fun j hj=>(hf j hj).1)
   simp[jX hp,this]
  simp only[ZK];refine .agg _ _ (by simp;omega) fun i d x h1 h2=>?_
  rw[YY] at h1
  split at h1
  .
   rename_i hi
   simp[hi] at h2
   subst h2;exact (hf i hi).2 d h1
  cases h1
theorem Su [Glob P] {h:H}{g:Mem}{w:World}(hm:HM P h g w) {t:TypeId}{a:D}{va:Value}(ha:Rep w g a va) (hc:(lN P t a h).2) :
  ∃ v,(Instr.loadAt t va).run P w = .ok v w/\Rep w g (lN P t a h).1 v:=by
 obtain⟨h1,h2,h3⟩:=hc
 obtain⟨p,rfl,hp⟩:=Ha hm ha (by intro e;rw[e] at h1;simp at h1;omega)
 obtain⟨v,h4,h5⟩:=FT hp h1 h2 h3
 exact⟨v,by simp[Instr.loadAt,Instr.sureAddr,h4],h5⟩
theorem Q7 [Glob P] {g:Mem}{w:World}{t:TypeId}{off:Nat}{ds:List D}{vs:Array Value}(hv:Reps w g ds vs.toList) (hn:off+P.cellsOf t<=ds.length) (hp:0<P.cellsOf t) (hu:(P.underlying t).isSome=true) :
  ∃ v,(part t vs off).run P w = .ok v w/\Rep w g (nW P t (ds.drop off)) v:=by
 have hl:ds.length=vs.size:=by simpa using hv.1
 unfold part nW
 rw[Sem.run_bind,Jq hu w]
 cases hg:aK P t with
 | false =>
  refine⟨vs[off]'(by omega),?_,?_⟩
  .
   simp[show off<vs.size by omega]
  have h1:=hv.2 off (ds[off]'(by omega)) (vs[off]'(by omega)) (by simp) (by simp)
  have:(ds.drop off).headD .junk=ds[off]'(by omega):=by rw[Yy (by omega)];rfl
  simp only[Ym,Y9];rw[this];exact h1
 | true =>
  refine⟨.agg (vs.extract off (off+P.cellsOf t)),by simp[jX hp],?_⟩
  simp only[ZK];refine .agg _ _ (by simp;omega) fun i d x h1 h2=>?_
  rw[YY] at h1
  split at h1
  .
   rename_i hi
   rw[YZ] at h1;rw[Array.getElem?_extract] at h2
   split at h2
   .
    exact hv.2 _ d x h1 (by simpa using h2)
   cases h2
  cases h1
theorem Ie (w:World) (g:Mem) (x:Value):Rep w g (vR x) x:=by
 cases x with
 | slice a n c =>
  simp only[vR]
  split
  .
   rename_i h
   simp only[XW,Zb,YE] at h;obtain⟨⟨rfl,rfl⟩,rfl⟩:=h;exact .empty true none 0 (fun _=>rfl) (by simp[maxLen])
  exact .v _
 | func f fs cs =>
  simp only[vR]
  split
  .
   rename_i h
   simp only[XW,YE] at h;exact .fn f [] [] fs cs (by simp[h.1]) (by simp[h.2]) (by simp) (by simp)
  exact .v _
 | _=>exact .v _
theorem yT (w:World) (g:Mem) (x:Value):Rep w g (ic x) x:=by
 unfold ic
 split
 .
  refine .agg _ _ (by simp) fun i d y h1 h2=>?_
  simp only[YJ,Zh] at h1;rw[h2] at h1
  simp at h1
  subst h1;exact Ie w g y
 exact Ie w g x
theorem uU [Glob P] {t:TypeId}{i:TypeInfo}{z:Value}(hi:P.info? t=some i) (hz:i.zero=some z) (w:World) (g:Mem) (h1:(zeroCells P t).all D.one=true) :
  Reps w g (zeroCells P t) z.cells.toList/\(∀ u∈z.cells.toList,u.oneCell'=true)/\z.cells.size=(zeroCells P t).length:=by
 have e:zeroCells P t=(ic z).cells:=by simp[zeroCells,hi,hz]
 rw[e] at h1 ⊢
 exact (yT w g z).cells h1
theorem xq [Glob P] {t:TypeId}(h:0<(zeroCells P t).length):∃ i z,P.info? t=some i/\i.zero=some z:=by
 unfold zeroCells at h
 cases hi:P.info? t with
 | none=>simp[hi] at h
 | some i =>
  cases hz:i.zero with
  | none=>simp[hi,hz] at h
  | some z=>exact⟨i,z,rfl,hz⟩
theorem holds_one [Glob P] {w:World}{g:Mem}{e:TypeId}{ds:List D}{vs:Array Value}(h:Reps w g ds vs.toList) (h1 : ∀ u∈vs.toList,u.oneCell'=true) (hl:ds.length=P.cellsOf e):Holds P w g ⟨e,[ds]⟩ vs:=by
 intro i row hi
 cases i with
 | succ i=>simp at hi
 | zero =>
  simp at hi;subst hi
  refine⟨hl,fun j d hd=>?_⟩
  have hj:j<vs.size:=by have:=h.1;simp at this;rw[<- this];exact (Ya.1 hd).1
  exact⟨vs[j],by simp[hj],h1 _ (by simp),h.2 j d _ hd (by simp[hj])⟩
theorem Iu [Glob P] {h:H}{g:Mem}{w:World}(hm:HM P h g w) {b:Nat}(hb : ¬ g.U b) {e:TypeId}{ds:List D}{vs:Array Value}(hr:Reps w g ds vs.toList) (h1 : ∀ u∈vs.toList,u.oneCell'=true) (hl:ds.length=P.cellsOf e) (hp:0<P.cellsOf e) :
  ∃ g',Rep (w.alloc (.cells vs e)) g' (.mptr b 0 0) (.pointer (some ⟨w.heap.size,0,none⟩))/\HM P (upd h b (some ⟨e,[ds]⟩)) g' (w.alloc (.cells vs e))/\Mono g g' w (w.alloc (.cells vs e)) /\ ∀ r,g'.U r->g.U r\/r=b:=by
 have hs:vs.size=P.cellsOf e:=by have:=hr.1;simp at this;omega
 obtain⟨g',h2,h3,h4,h5,h6⟩:=hm.put (h':=upd h b (some ⟨e,[ds]⟩)) (w':=w.alloc (.cells vs e)) b w.heap.size 1 ⟨e,[ds]⟩ vs (.inl hb) (upd_same _ _ _)
  (fun r hr=>.inl (upd_ne _ _ _ _ hr)) (.inl (XY _)) (heap_alloc_new w _) (by simp[hs]) hp (by simp) (by simp[maxLen]) (holds_one hr h1 hl) (World.grownBy_alloc w _ _)
 refine⟨g',?_,h5,h6,fun r hr=>(h3 r).1 hr⟩
 refine .mptr b 0 0 _ ⟨_,rfl⟩ ((h3 b).2 (.inr rfl)) fun blk c sz he=>?_
 rw[h2] at he
 simp only[Yh,YI] at he
 exact⟨by rw[<- he.2.1];simp[maxLen],w.heap.size,he.1.symm,by simp⟩
theorem NU {w:World}{g:Mem}{row xs:List D}{cs us:List Value}(h:Reps w g row cs) (k:Reps w g xs us) (off:Nat) :
  Reps w g (splice row off xs) (cs.take off++us++cs.drop (off+us.length)):=by
 unfold splice
 rw[k.1]
 exact ((h.take off).append k).append (h.drop _)
theorem Bf (row xs:List D) (off:Nat) (h:off+xs.length<=row.length):(splice row off xs).length=row.length:=by
 simp[splice];omega
theorem EX [Glob P] {h:H}{g:Mem}{w:World}(hm:HM P h g w) {t:TypeId}{a x:D}{va vx:Value}(ha:Rep w g a va) (hx:Rep w g x vx) (hc:(lH P t a x h).2) :
  ∃ g' w',(Instr.storeAt t va vx).run P w = .ok () w'/\HM P (lH P t a x h).1 g' w'/\Mono g g' w w' /\ ∀ r,g'.U r->g.U r:=by
 unfold lH at hc ⊢
 split at hc
 case h_2=>exact hc.elim
 rename_i r i off
 cases hr:h r with
 | none=>rw[hr] at hc;exact hc.elim
 | some bl =>
  rw[hr] at hc;simp only at hc ⊢;obtain⟨c1,c0,c2,c3,c4⟩:=hc;obtain⟨blk,c,h1,h2,h3,h4,h5⟩:=hm.blk r bl hr
  rcases h5 with⟨_,rfl⟩|⟨b,cur,rfl,h6,h7,h8,h9⟩
  .
   omega
  cases ha with|mptr _ _ _ _ hxx hU hv =>
  obtain⟨hcm,b',he,rfl⟩:=hv _ _ _ h1
  cases he
  have h6:=h6.cells hcm;have h7:=h7 hcm;have h4:=hcm;obtain⟨q1,q2,q3⟩:=hx.cells c4;have hrow:bl.rows[i]? = some (bl.rows.getD i []):=by simp[List.getD,Yg c2]
  generalize hR:bl.rows.getD i []=row at *;obtain⟨m1,m2⟩:=h9 i _ hrow;have q4:vx.cells.toList.length=x.cells.length:=by simp[q3]
  have hin:i*P.cellsOf bl.ty+P.cellsOf bl.ty<=cur.size:=by
   have e1:(i+1)*P.cellsOf bl.ty<=c*P.cellsOf bl.ty:=Y3 _ om;rw[Zo,Nat.one_mul] at e1;omega
  have hfit:i*P.cellsOf bl.ty+off+vx.cells.toList.length<=cur.size:=by omega
  have hst:=run_storeCells_at P b (i*P.cellsOf bl.ty+off) bl.ty vx.cells.toList 0 cur w h6 (by simpa using hfit) q2
  simp only[Zv] at hst;generalize hnew:(List.take (i*P.cellsOf bl.ty+off) cur.toList++vx.cells.toList++List.drop (i*P.cellsOf bl.ty+off+vx.cells.toList.length) cur.toList)=new at hst;have hnl:new.length=cur.size:=by rw[<- hnew];simp;omega
  have hget : ∀ k,new[k]? = if i*P.cellsOf bl.ty+off<=k/\k<i*P.cellsOf bl.ty+off+x.cells.length then vx.cells.toList[k-(i*P.cellsOf bl.ty+off)]? else cur[k]? := by
   intro k;rw[<- hnew];have l1:(List.take (i*P.cellsOf bl.ty+off) cur.toList).length=i*P.cellsOf bl.ty+off:=by simp;omega
   rw[Yz]
   by_cases hk:k<i*P.cellsOf bl.ty+off
   .
    rw[YW (by omega),XZ (by omega),YY,X6 hk];simp
   rw[YS (by omega),l1]
   by_cases hk2:k<i*P.cellsOf bl.ty+off+x.cells.length
   .
    rw[YW (by omega),X6 (by omega)]
   rw[YS (by omega),XZ (by omega),YZ]
   rw[q4,Zh]
   congr 1;omega
  obtain⟨g',g1,g2,g3,g4,g5⟩:=hm.put (h':=upd h r (some { bl with rows:=bl.rows.set i (splice row off x.cells) })) (w':=w.setRow b new.toArray) r b c
   { bl with rows:=bl.rows.set i (splice row off x.cells) } new.toArray (.inr h1) (upd_same _ _ _) (fun r' hr'=>.inl (upd_ne _ _ _ _ hr')) (.inr ⟨r,c,_,h1,.inl rfl⟩)
   (setRow_heap w b cur _ bl.ty _ h6) (by simp[hnl,h7]) h2 (by simpa using h3) h4
   (by
    intro i' row' hi';simp only[List.getElem?_set] at hi'
    by_cases e:i=i'
    .
     subst e;rw[X6 rfl,X6 c2] at hi'
     cases hi'
     refine⟨by rw[Bf _ _ _ c3];exact m1,fun j d hj=>?_⟩
     have hjl:j<row.length:=by
      have:=(Ya.1 hj).1;rwa [Bf _ _ _ c3] at this
     unfold splice at hj;rw[Yz] at hj;have l1:(List.take off row).length=off:=by simp;omega
     simp only[List.getElem?_toArray];rw[hget]
     by_cases hk:j<off
     .
      rw[YW (by omega),YY,X6 hk] at hj
      rw[XZ (by omega)]
      exact m2 j d hj
     rw[YS (by omega),l1] at hj
     by_cases hk2:j<off+x.cells.length
     .
      rw[YW (by omega)] at hj
      rw[X6 (by omega)]
      have hjj:i*P.cellsOf bl.ty+j-(i*P.cellsOf bl.ty+off)=j-off:=by omega
      rw[hjj];have hlt:j-off<vx.cells.toList.length:=by omega
      exact⟨vx.cells.toList[j-off],by simp,q2 _ (Yv hlt),q1.2 (j-off) d _ hj (by simp)⟩
     rw[YS (by omega),YZ] at hj
     rw[XZ (by omega)]
     have:off+x.cells.length+(j-off-x.cells.length)=j:=by omega
     rw[this] at hj;exact m2 j d hj
    rw[XZ e] at hi';obtain⟨k1,k2⟩:=h9 i' row' hi';refine⟨k1,fun j d hj=>?_⟩
    have hjl:j<P.cellsOf bl.ty:=by have:=(Ya.1 hj).1;omega
    simp only[List.getElem?_toArray];rw[hget,XZ]
    .
     exact k2 j d hj
    intro ⟨u1,u2⟩;have v1:i*P.cellsOf bl.ty<i'*P.cellsOf bl.ty+P.cellsOf bl.ty:=by omega
    have v2:i'*P.cellsOf bl.ty<i*P.cellsOf bl.ty+P.cellsOf bl.ty:=by omega
    have e1:i<i'+1:=Nat.lt_of_mul_lt_mul_right (a:=P.cellsOf bl.ty) (by rw[Zo,Nat.one_mul];exact v1)
    have e2:i'<i+1:=Nat.lt_of_mul_lt_mul_right (a:=P.cellsOf bl.ty) (by rw[Zo,Nat.one_mul];exact v2)
    omega)
   ⟨rfl,rfl,rfl,by simp,fun k _ hk=>setRow_other w b k _ (fun e=>hk (by rw[e]))⟩
  refine⟨g',_,?_,g4,g5,fun r' hr'=>?_⟩
  .
   simp[Instr.storeAt,Instr.sureAddr,storeVar,jX c0,q3,c1,hst]
  rcases (g2 r').1 hr' with h|rfl
  .
   exact h
  exact hU
end Go.DL
namespace Go.DL
open Go.RowKit
variable {P : Program}
def RowsIn (w:World) (g:Mem) (size:Nat) (rows:List (List D)) (cs:List Value):Prop :=
 cs.length=rows.length*size /\ ∀ (i:Nat) row,rows[i]? = some row->row.length=size /\ ∀ (j:Nat) d,row[j]? = some d -> ∃ u,cs[i*size+j]? = some u/\u.oneCell'=true/\Rep w g d u
theorem uu {i j n size:Nat}(hi:i<n) (hj:j<size):i*size+j<n*size:=by
 have e1:(i+1)*size<=n*size:=Y3 _ om
 rw[Zo,Nat.one_mul] at e1
 omega
theorem RowsIn.nil {w:World}{g:Mem}{size:Nat}:RowsIn w g size [] []:=⟨by simp,fun i row h=>by simp at h⟩
theorem RowsIn.append {w:World}{g:Mem}{size:Nat}{r s:List (List D)}{a b:List Value}(h:RowsIn w g size r a) (k:RowsIn w g size s b):RowsIn w g size (r++s) (a++b):=by
 refine⟨by simp[h.1,k.1,Zo],fun i row hi=>?_⟩
 by_cases hlt:i<r.length
 .
  rw[YW hlt] at hi;obtain⟨h1,h2⟩:=h.2 i row hi;refine⟨h1,fun j d hj=>?_⟩
  have hjl:j<size:=by have:=(Ya.1 hj).1;omega
  have:=uu hlt hjl;rw[YW (by rw[h.1];exact this)]
  exact h2 j d hj
 rw[YS (by omega)] at hi
 obtain⟨h1,h2⟩:=k.2 _ row hi
 refine⟨h1,fun j d hj=>?_⟩
 have e:i*size=r.length*size+(i-r.length)*size:=by rw[<- Zo];congr 1;omega
 rw[YS (by rw[h.1];omega),h.1]
 have e2:i*size+j-r.length*size=(i-r.length)*size+j:=by omega
 rw[e2]
 exact h2 j d hj
theorem RowsIn.one {w:World}{g:Mem}{size:Nat}{rows:List (List D)}{cs:List Value}(h:RowsIn w g size rows cs):∀ u∈cs,u.oneCell'=true:=by
 intro u hu
 obtain⟨k,hk,rfl⟩:=Zd hu
 rcases Nat.eq_zero_or_pos size with h0|h0
 .
  rw[h.1,h0] at hk;omega
 have hi:k / size<rows.length:=by rw[Nat.div_lt_iff_lt_mul h0,<- h.1];exact hk
 obtain⟨h1,h2⟩:=h.2 (k / size) rows[k / size] (by simp)
 have hj:k % size<rows[k / size].length:=by rw[h1];exact Nat.mod_lt _ h0
 obtain⟨u,h3,h4,_⟩:=h2 (k % size) (rows[k / size][k % size]) (by simp)
 have e:k / size*size+k % size=k:=by rw[ZE];exact Nat.div_add_mod k size
 rw[e,Yg hk] at h3
 cases h3;exact h4
theorem RowsIn.holds [Glob P] {w:World}{g:Mem}{e:TypeId}{rows:List (List D)}{cs:List Value}{cur:Array Value}(h:RowsIn w g (P.cellsOf e) rows cs) (hc:cur.toList.take cs.length=cs):Holds P w g ⟨e,rows⟩ cur:=by
 intro i row hi
 obtain⟨h1,h2⟩:=h.2 i row hi
 refine⟨h1,fun j d hj=>?_⟩
 obtain⟨u,h3,h4,h5⟩:=h2 j d hj
 refine⟨u,?_,h4,h5⟩
 rw[<- hc,YY] at h3
 split at h3
 .
  simpa using h3
 cases h3
theorem Holds.rowsIn [Glob P] {w:World}{g:Mem}{bl:Blk}{cur:Array Value}(h:Holds P w g bl cur) (off len:Nat) (hl:off+len<=bl.rows.length) (hc:bl.rows.length*P.cellsOf bl.ty<=cur.size) :
  RowsIn w g (P.cellsOf bl.ty) ((bl.rows.drop off).take len) ((cur.toList.drop (off*P.cellsOf bl.ty)).take (len*P.cellsOf bl.ty)):=by
 have e1:(off+len)*P.cellsOf bl.ty<=bl.rows.length*P.cellsOf bl.ty:=Y3 _ hl
 rw[Zo] at e1
 refine⟨?_,fun i row hi=>?_⟩
 .
  simp only[Yu,Yi,Array.length_toList];rw[ZW (by omega),ZW (by omega)]
 rw[YY] at hi
 split at hi
 .
  rename_i hil
  rw[YZ] at hi;obtain⟨h1,h2⟩:=h (off+i) row hi;refine⟨h1,fun j d hj=>?_⟩
  obtain⟨u,h3,h4,h5⟩:=h2 j d hj;have hjl:j<P.cellsOf bl.ty:=by have:=(Ya.1 hj).1;omega
  refine⟨u,?_,h4,h5⟩;rw[YY,X6 (uu hil hjl),YZ,Zh,<- h3]
  congr 1
  rw[Zo];omega
 cases hi
theorem vD [Glob P] {h:H}{g:Mem}{w:World}(hm:HM P h g w) {y:D}{vy:Value}(hy:Rep w g y vy) {size:Nat}(hp:0<size) (hl:(rowsOf y h).length=aV y) (hs : ∀ r∈rowsOf y h,r.length=size) {u:TypeId}(ho:gK P u h y=true) :
  ∃ cs,RowsIn w g size (rowsOf y h) cs/\(∀ w',(Builtin.lenOf vy).run P w' = .ok (aV y) w')/\(∀ w',w'.heap=w.heap->(Builtin.firstCells size (aV y) vy).run P w' = .ok cs.toArray w') /\
   (∀ w',∃ d,(underlying u).run P w' = .ok d w'/\(d = .string \/ ∃ e',d = .slice e')):=by
 cases hy with
 | empty full a cap hf hmx =>
  obtain⟨e,he⟩:=YN.1 (show (bf P u).isSome=true from ho)
  have hu:P.underlying u=some (.slice e):=by unfold bf at he;split at he<;>simp_all
  refine⟨[],.nil,fun w'=>by simp[Builtin.lenOf,aV],fun w' _=>?_,fun w'=>⟨_,run_underlying hu w',by simp⟩⟩
  cases a<;>simp[Builtin.firstCells,aV,loadCells,loadCellsFrom]
 | list full rows ad cap sz cv hI hlc hf hmx hsz hc hr =>
  obtain⟨e,he⟩:=YN.1 (show (bf P u).isSome=true from ho)
  have hu:P.underlying u=some (.slice e):=by unfold bf at he;split at he<;>simp_all
  simp only[rowsOf] at hs hl ⊢
  by_cases hz:rows=[]
  .
   subst hz;refine⟨[],.nil,fun w'=>by simp[Builtin.lenOf,aV],fun w' _=>?_,fun w'=>⟨_,run_underlying hu w',by simp⟩⟩
   simp[Builtin.firstCells,aV,loadCells,loadCellsFrom]
  have hse:sz=size:=by
   cases rows with
   | nil=>exact absurd rfl hz
   | cons a l=>rw[<- hsz a (by simp),hs a (by simp)]
  subst hse;refine⟨(List.range (rows.length*sz)).map fun k=>cv (k / sz) (k % sz),⟨by simp,fun i row hi=>⟨hs row (Yl hi),fun j d hj=>?_⟩⟩,fun w'=>by simp[Builtin.lenOf,aV],fun w' hw=>?_,fun w'=>⟨_,run_underlying hu w',by simp⟩⟩
  .
   have hil:i<rows.length:=(Ya.1 hi).1;have hjl:j<sz:=by have:=(Ya.1 hj).1;have:=hs row (Yl hi);omega
   refine⟨cv i j,?_,(hc i j row d hi hj).2,hr i j row d hi hj⟩;rw[YJ,List.getElem?_range (uu hil hjl)];have e1:(i*sz+j) / sz=i:=by rw[ZE,Nat.mul_add_div hp,Nat.div_eq_of_lt hjl];rfl
   have e2:(i*sz+j) % sz=j:=by rw[ZE,Z0,Zw hjl]
   simp[e1,e2]
  have:=run_loadCells (P:=P) w' ad (rows.length*sz) (fun k=>cv (k / sz) (k % sz)) (fun k hk=>by
   have hil:k / sz<rows.length:=by rw[Nat.div_lt_iff_lt_mul hp];exact hk
   have hjl:k % sz<(rows[k / sz]).length:=by rw[hs _ (by simp)];exact Nat.mod_lt _ hp
   have h1:=(hc (k / sz) (k % sz) rows[k / sz] (rows[k / sz][k % sz]) (by simp) (by simp)).1
   have e:k / sz*sz+k % sz=k:=by rw[ZE];exact Nat.div_add_mod k sz
   rw[e] at h1;rw[<- h1];exact World.cell?_of_block (by rw[hw]))
  simpa [Builtin.firstCells,aV] using this
 | mrow r off len x hx hU hv =>
  simp only[gK,XW] at ho;obtain⟨e,he⟩:=YN.1 ho.1;have hu:P.underlying u=some (.slice e):=by unfold bf at he;split at he<;>simp_all
  simp only[rowsOf,aV] at hs hl ⊢
  cases hr:h r with
  | none =>
   rw[hr] at ho;simp at ho
  | some bl =>
   rw[hr] at hl hs;simp only at hl hs ⊢;obtain⟨blk,c,h1,h2,h3,h4,h5⟩:=hm.blk r bl hr;obtain⟨h6,h7⟩:=hv _ _ _ h1
   rcases h7 with⟨rfl,a,rfl⟩|⟨hne,b,rfl,rfl⟩
   .
    have:len=0:=by omega
    subst this;refine⟨[],by simpa using RowsIn.nil,fun w'=>by simp[Builtin.lenOf],fun w' _=>?_,fun w'=>⟨_,run_underlying hu w',by simp⟩⟩
    cases a<;>simp[Builtin.firstCells,loadCells,loadCellsFrom]
   rcases h5 with⟨h5,_⟩|⟨b',cur,h5,k1,k2,k3,k4⟩
   .
    cases h5
   cases h5
   have k1:=k1.cells h6.2;have k2:=k2 h6.2;have hle:off+len<=bl.rows.length\/len=0:=by
    simp only[Yu,Yi] at hl;omega
   rcases hle with hle|hle
   .
    have hR:=k4.rowsIn off len hle (by rw[k2];exact Y3 _ h3)
    by_cases hz:len=0
    .
     subst hz;refine⟨[],by simpa using RowsIn.nil,fun w'=>by simp[Builtin.lenOf],fun w' _=>by simp[Builtin.firstCells,loadCells,loadCellsFrom],fun w'=>⟨_,run_underlying hu w',by simp⟩⟩
    have hse:P.cellsOf bl.ty=size:=by
     have hlt:0<((bl.rows.drop off).take len).length:=by omega
     have m1:=hs _ (Yv hlt);have m2:=(hR.2 0 _ (Yg hlt)).1;omega
    rw[hse] at hR k2;refine⟨_,hR,fun w'=>by simp[Builtin.lenOf],fun w' hw=>?_,fun w'=>⟨_,run_underlying hu w',by simp⟩⟩
    rw[hse];have hlen:=hR.1;rw[hl] at hlen;refine run_firstCells_some (P:=P) w' size len _ len _ _ hlen fun j v hj=>?_
    rw[jy,cell_of_row w' b _ cur bl.ty (0,0) (by rw[hw];exact k1)]
    rw[YY] at hj
    split at hj
    .
     rw[YZ] at hj;simpa using hj
    cases hj
   subst hle;refine⟨[],by simpa using RowsIn.nil,fun w'=>by simp[Builtin.lenOf],fun w' _=>by simp[Builtin.firstCells,loadCells,loadCellsFrom],fun w'=>⟨_,run_underlying hu w',by simp⟩⟩
 | v =>
  cases vy<;>simp only[gK] at ho<;>try (cases ho;done)
  rename_i s
  have hu:P.underlying u=some .string:=by split at ho<;>simp_all
  simp only[rowsOf,aV] at hs hl ⊢
  by_cases hz:s.size=0
  .
   have e:s.data.toList=[]:=X5 (by simpa using hz)
   refine⟨[],by rw[e];exact RowsIn.nil,fun w'=>by simp[Builtin.lenOf],fun w' _=>?_,fun w'=>⟨_,run_underlying hu w',by simp⟩⟩
   simp[Builtin.firstCells,hz]
  have hse:size=1:=by
   have hlt:0<s.data.toList.length:=by simp;exact Nat.pos_of_ne_zero hz
   rw[<- hs [.v (.int .u8 (s.data.toList[0].toNat))] (by simp only[Y5];exact⟨_,Yv hlt,rfl⟩)];rfl
  subst hse;refine⟨s.data.toList.map fun b=>.int .u8 b.toNat,⟨by simp,fun i row hi=>?_⟩,fun w'=>by simp[Builtin.lenOf],fun w' _=>?_,fun w'=>⟨_,run_underlying hu w',by simp⟩⟩
  .
   rw[YJ] at hi
   cases hb:s.data.toList[i]? with
   | none=>rw[hb] at hi;cases hi
   | some b =>
    rw[hb] at hi;simp at hi;subst hi;refine⟨rfl,fun j d hj=>?_⟩
    cases j with
    | succ j=>simp at hj
    | zero=>simp at hj;subst hj;exact⟨.int .u8 b.toNat,by rw[YJ];simp[hb],rfl,.v _⟩
  simp[Builtin.firstCells]
  apply Zl
  simp
 | _=>simp[gK] at ho
section
variable {t u e : TypeId} {i : TypeInfo} {x : Value} {n : Nat} {w : World}
theorem Xo [Glob P] (ht:P.underlying t=some (.slice e)) (hi:P.info? e=some i) (hu : ∃ d,(underlying u).run P w = .ok d w/\(d = .string \/ ∃ e',d = .slice e')) (ty:TypeId) (b o sLen sCap:Nat)
  (hl:(Builtin.lenOf x).run P w = .ok n w) (hroom:sLen+n<=sCap) {news:List Value} (hn:(Builtin.firstCells i.size n x).run P w = .ok news.toArray w) (h1 : ∀ v∈news,v.oneCell'=true)
  {cur:Array Value} (hg:w.heap[b]? = some (.cells cur e (0,0))) (hfit:o+sLen*i.size+news.length<=cur.size) :
  (Builtin.append_ #[t,u] ty #[.slice (some ⟨b,o,none⟩) sLen sCap,x]).run P w = .ok (.slice (some ⟨b,o,none⟩) (sLen+n) sCap)
   (w.setRow b (cur.toList.take (o+sLen*i.size)++news++cur.toList.drop (o+sLen*i.size+news.length)).toArray):=by
 obtain⟨d,hu,hd⟩:=hu
 have hst:=run_storeCells_at P b (o+sLen*i.size) e news 0 cur w hg (by simpa using hfit) h1
 simp only[Zv] at hst
 rcases hd with rfl|⟨e',rfl⟩<;>simp[Builtin.append_,run_underlying ht,hu,sizeOf,typeInfo,hi,hl,hroom,hn,jy,hst]
theorem Mg [Glob P] (ht:P.underlying t=some (.slice e)) (hi:P.info? e=some i) (hu : ∃ d,(underlying u).run P w = .ok d w/\(d = .string \/ ∃ e',d = .slice e')) (ty:TypeId) (a:Option Addr) (sLen sCap:Nat) (hle:sLen<=sCap)
  (hl:(Builtin.lenOf x).run P w = .ok 0 w) (hn:(Builtin.firstCells i.size 0 x).run P w = .ok #[] w) :
  (Builtin.append_ #[t,u] ty #[.slice a sLen sCap,x]).run P w = .ok (.slice a sLen sCap) w:=by
 obtain⟨d,hu,hd⟩:=hu
 rcases hd with rfl|⟨e',rfl⟩<;>cases a<;>simp[Builtin.append_,run_underlying ht,hu,sizeOf,typeInfo,hi,hl,hle,hn,storeCells]
theorem Mj [Glob P] (ht:P.underlying t=some (.slice e)) (hi:P.info? e=some i) {z:Value}(hz:i.zero=some z) (hu : ∃ d,(underlying u).run P w = .ok d w/\(d = .string \/ ∃ e',d = .slice e')) (ty:TypeId) (a:Option Addr) (sLen sCap:Nat)
  (hl:(Builtin.lenOf x).run P w = .ok n w) (hgr:sCap<sLen+n) {olds news:List Value} (ho:(Builtin.firstCells i.size sLen (.slice a sLen sCap)).run P w.drew = .ok olds.toArray w.drew)
  (hn:(Builtin.firstCells i.size n x).run P w.drew = .ok news.toArray w.drew) (h63:sLen+n<=9223372036854775807) (hby:(sLen+n)*i.bytes<=140737488355328) :
  (Builtin.append_ #[t,u] ty #[.slice a sLen sCap,x]).run P w = .ok (.slice (some ⟨w.heap.size,0,none⟩) (sLen+n) (grownCap w (sLen+n) sCap e))
   (w.drew.alloc (.cells ((olds++news).toArray++Builtin.zeroCells z.cells (grownCap w (sLen+n) sCap e-(sLen+n))) e)):=by
 obtain⟨d,hu',hd⟩:=hu
 have h1 : ¬ (sLen+n<=sCap):=by omega
 have h63' : ¬ (9223372036854775807<(sLen:Int)+(n:Int)):=by omega
 have h48 : ¬ (281474976710656<Builtin.nextslicecap (sLen+n) sCap*i.bytes):=by have:=growslice_fits (bytes:=i.bytes) hgr hby;omega
 have e0 : ∀ Z:Array Value,(olds++news).toArray++Z=olds.toArray++(news.toArray++Z):=fun Z=>by apply Zl;simp
 rw[e0]
 rcases hd with rfl|⟨e',rfl⟩<;>simp[Builtin.append_,run_underlying ht,hu',sizeOf,typeInfo,zeroValue,hi,hz,hl,h1,h63',h48,Question.forced,ho,hn,newRow,grownCap]
end
theorem nk [Glob P] {t e:TypeId}(h:bf P t=some e):P.underlying t=some (.slice e):=by unfold bf at h;split at h<;>simp_all
theorem CS [Glob P] {h h':H}{g:Mem}{w:World}(hm:HM P h g w) {b:Nat}(hb : ¬ g.U b) {e:TypeId}{rows:List (List D)}{cs:List Value}(hr:RowsIn w g (P.cellsOf e) rows cs) (hp:0<P.cellsOf e) {z:Value}(hz:z.cells.size=P.cellsOf e)
  (hb':h' b=some ⟨e,rows⟩) (hrr : ∀ r,r≠b->h' r=h r\/h' r=none) (c:Nat) (hc:rows.length<=c) (hc0:0<c) (hmx:c<=maxLen) :
  ∃ g',Rep (w.drew.alloc (.cells (cs.toArray++Builtin.zeroCells z.cells (c-rows.length)) e)) g' (.mrow b 0 rows.length) (.slice (some ⟨w.heap.size,0,none⟩) rows.length c) /\
   HM P h' g' (w.drew.alloc (.cells (cs.toArray++Builtin.zeroCells z.cells (c-rows.length)) e))/\Mono g g' w (w.drew.alloc (.cells (cs.toArray++Builtin.zeroCells z.cells (c-rows.length)) e)) /\ ∀ r,g'.U r->g.U r\/r=b:=by
 obtain⟨g',h2,h3,h4,h5,h6⟩:=hm.put (h':=h') (w':=w.drew.alloc (.cells (cs.toArray++Builtin.zeroCells z.cells (c-rows.length)) e)) b w.heap.size c ⟨e,rows⟩ (cs.toArray++Builtin.zeroCells z.cells (c-rows.length)) (.inl hb) hb' hrr (.inl (XY _))
  (heap_alloc_new w.drew _) (by simp only[Array.size_append,List.size_toArray,size_zeroCells,hz,hr.1,<- Zo];congr 1;omega) hp hc hmx
  (hr.holds (by simp)) ⟨rfl,rfl,rfl,by simp,fun k hk _=>Below.heap_alloc w.drew _ k hk⟩
 refine⟨g',.mrow b 0 rows.length _ ⟨_,_,rfl,hc,fun _=>⟨_,rfl⟩⟩ ((h3 b).2 (.inr rfl)) fun blk c' sz he=>?_,h5,h6,fun r hr=>(h3 r).1 hr⟩
 rw[h2] at he
 simp only[Yh,YI] at he
 obtain⟨rfl,rfl,rfl⟩:=he
 exact⟨om,.inr ⟨om,w.heap.size,rfl,by simp⟩⟩
theorem Gc {w:World}{g:Mem}{b sz:Nat}(hM:g.M b=some (none,0,sz)) (hU:g.U b) (a:Option Addr):Rep w g (.mrow b 0 0) (.slice a 0 0) :=
 .mrow b 0 0 _ ⟨_,_,rfl,XY _,fun h=>absurd h om⟩ hU fun blk c s he=>by
  rw[hM] at he;simp only[Yh,YI] at he;obtain⟨rfl,rfl,rfl⟩:=he;exact⟨⟨XY _,Yo _⟩,.inl ⟨rfl,a,rfl⟩⟩
theorem Xn [Glob P] {h:H}{g:Mem}{w:World}(hm:HM P h g w) {t u:TypeId}{x y:D}{vx vy:Value}{b:Nat}(hb : ¬ g.U b) (hx:Rep w g x vx) (hy:Rep w g y vy) (hc:(kI P t u x y h b).2.2) (ty:TypeId) :
  ∃ v g' w',(Builtin.append_ #[t,u] ty #[vx,vy]).run P w = .ok v w'/\Rep w' g' (kI P t u x y h b).1 v/\HM P (kI P t u x y h b).2.1 g' w'/\Mono g g' w w' /\ ∀ r,g'.U r->g.U r\/r=b:=by
 unfold kI at hc ⊢
 cases he:bf P t with
 | none=>rw[he] at hc;exact hc.elim
 | some e =>
  rw[he] at hc;simp only at hc ⊢;have ht:=nk he;have common:(0<P.cellsOf e/\(aV x+(rowsOf y h).length)*P.bytesOf e<=140737488355328/\aV x+(rowsOf y h).length<=9223372036854775807) ->
    ((rowsOf y h).length=aV y/\gK P u h y=true/\aC P e=true /\ ∀ r∈rowsOf y h,r.length=P.cellsOf e) ->
    ∃ i z news,P.info? e=some i/\i.size=P.cellsOf e/\i.bytes=P.bytesOf e/\i.zero=some z/\z.cells.size=P.cellsOf e/\RowsIn w g (P.cellsOf e) (rowsOf y h) news/\(Builtin.lenOf vy).run P w = .ok (rowsOf y h).length w /\
     (∀ w',w'.heap=w.heap->(Builtin.firstCells i.size (rowsOf y h).length vy).run P w' = .ok news.toArray w')/\(∃ d,(underlying u).run P w = .ok d w/\(d = .string \/ ∃ e',d = .slice e')):=by
   rintro⟨a1,a2,a3⟩ ⟨b1,b2,b3,b4⟩;obtain⟨i,hi,hs⟩:=si a1;unfold aC at b3
   cases hz:i.zero with
   | none=>simp[hi,hz] at b3
   | some z =>
    simp only[hi,hz,Option.bind_some,YE] at b3;obtain⟨news,r1,r2,r3,r4⟩:=vD hm hy a1 b1 b4 b2;exact⟨i,z,news,hi,hs,by simp[Program.bytesOf,hi],hz,b3,r1,by rw[b1];exact r2 w,by rw[b1,hs];exact r3,r4 w⟩
  split at hc
  case h_3=>exact hc.elim
  case h_1 rows =>
   obtain⟨hsz,hsrc,hne,hrl⟩:=hc;simp only[aV] at hsz common;obtain⟨i,z,news,hi,hs,hby,hz,hzs,hR,hlen,hfc,hu⟩:=common hsz hsrc
   by_cases hn:rowsOf y h=[]
   .
    have hr0:=hne hn;subst hr0;rw[hn] at hlen hfc hR ⊢;have:news=[]:=X5 (by simpa using hR.1)
    subst this;obtain⟨g',g1,g2,g3,g4,g5⟩:=hm.putNone (h':=upd h b (some ⟨e,[]⟩)) b ⟨e,[]⟩ hb (upd_same _ _ _) (fun r hr=>.inl (upd_ne _ _ _ _ hr)) hsz.1 rfl
    have hv : ∃ a,vx = .slice a 0 0:=by
     cases hx with
     | empty full a cap hf hmx=>rw[hf rfl];exact⟨a,rfl⟩
     | list full rows ad cap size cv hI hl hf hmx hs' hc' hr'=>rw[hf rfl];exact⟨_,rfl⟩
    obtain⟨a,rfl⟩:=hv;exact⟨.slice a 0 0,g',w,Mg ht hi hu ty a 0 0 (XY _) hlen (hfc w rfl),Gc g1 ((g2 b).2 (.inr rfl)) a,g4,g5,fun r hr=>(g2 r).1 hr⟩
   have hpos:0<(rowsOf y h).length:=Zr.2 hn;obtain⟨olds,o1,o2,o3,_⟩:=vD hm hx (u:=t) hsz.1 (by simp[rowsOf,aV]) hrl (by simp[gK,he])
   simp only[rowsOf,aV] at o1 o2 o3;have hv : ∃ a,vx = .slice a rows.length rows.length:=by
    cases hx with
    | empty full a cap hf hmx=>rw[hf rfl];exact⟨a,rfl⟩
    | list full rows ad cap size cv hI hl hf hmx hs' hc' hr'=>rw[hf rfl];exact⟨_,rfl⟩
   obtain⟨a,rfl⟩:=hv;have hap:=Mj (P:=P) ht hi hz hu ty a rows.length rows.length hlen (by omega) (by rw[hs];exact o3 w.drew rfl) (hfc w.drew rfl) hsz.2.2 (by rw[hby];exact hsz.2.1)
   have hge:=grownCap_ge w (rows.length+(rowsOf y h).length) rows.length e;obtain⟨g',k1,k2,k3,k4⟩:=CS (h':=upd h b (some ⟨e,rows++rowsOf y h⟩)) hm hb (o1.append hR) hsz.1 hzs (upd_same _ _ _) (fun r hr=>.inl (upd_ne _ _ _ _ hr)) (grownCap w (rows.length+(rowsOf y h).length) rows.length e) (by simpa using hge) om
    (grownCap_le_maxLen _ _ _ _ (by simp only[maxLen];exact hsz.2.2))
   simp only[XV] at k1 k2 k3;exact⟨_,g',_,hap,k1,k2,k3,k4⟩
  case h_2 r n =>
   cases hr:h r with
   | none=>rw[hr] at hc;exact hc.elim
   | some bl =>
    rw[hr] at hc;simp only at hc ⊢;obtain⟨hsz,hsrc,rfl,rfl,hrb⟩:=hc;simp only[aV] at hsz common;obtain⟨i,z,news,hi,hs,hby,hz,hzs,hR,hlen,hfc,hu⟩:=common hsz hsrc;have hh' : ∀ r',r'≠b->upd (upd h r none) b (some ⟨bl.ty,bl.rows++rowsOf y h⟩) r'=h r'\/upd (upd h r none) b (some ⟨bl.ty,bl.rows++rowsOf y h⟩) r'=none:=by
     intro r' hr';rw[upd_ne _ _ _ _ hr']
     by_cases e1:r'=r
     .
      subst e1;exact .inr (upd_same _ _ _)
     exact .inl (upd_ne _ _ _ _ e1)
    obtain⟨blk,c,q1,q2,q3,q4,q5⟩:=hm.blk r bl hr
    cases hx with|mrow _ _ _ _ hxx hU hv =>
    obtain⟨q6,q7⟩:=hv _ _ _ q1;have grow : ∀ a cap,vx = .slice a bl.rows.length cap->cap<bl.rows.length+(rowsOf y h).length -> ∃ v g' w',(Builtin.append_ #[t,u] ty #[vx,vy]).run P w = .ok v w'/\Rep w' g' (.mrow b 0 (bl.rows.length+(rowsOf y h).length)) v /\
      HM P (upd (upd h r none) b (some ⟨bl.ty,bl.rows++rowsOf y h⟩)) g' w'/\Mono g g' w w' /\ ∀ r,g'.U r->g.U r\/r=b:=by
     rintro a cap rfl hcap;have hrx:rowsOf (.mrow r 0 bl.rows.length) h=bl.rows:=by simp[rowsOf,hr]
     obtain⟨olds,o1,o2,o3,_⟩:=vD hm (.mrow r 0 bl.rows.length _ hxx hU hv) (u:=t) hsz.1 (by simp[hrx,aV]) (by
      rw[hrx];intro row hrow;obtain⟨k,hk,rfl⟩:=Zd hrow
      rcases q5 with⟨_,rfl⟩|⟨b',cur,_,_,_,_,k9⟩
      .
       omega
      exact (k9 k _ (Yg hk)).1) (by simp[gK,he,hr])
     rw[hrx] at o1;simp only[aV] at o2 o3;have hap:=Mj (P:=P) ht hi hz hu ty a bl.rows.length cap hlen hcap (by rw[hs];exact o3 w.drew rfl) (hfc w.drew rfl) hsz.2.2 (by rw[hby];exact hsz.2.1)
     have hge:=grownCap_ge w (bl.rows.length+(rowsOf y h).length) cap bl.ty;obtain⟨g',k1,k2,k3,k4⟩:=CS (h':=upd (upd h r none) b (some ⟨bl.ty,bl.rows++rowsOf y h⟩)) hm hb (o1.append hR) hsz.1 hzs (upd_same _ _ _) hh' (grownCap w (bl.rows.length+(rowsOf y h).length) cap bl.ty) (by simpa using hge) om
      (grownCap_le_maxLen _ _ _ _ (by simp only[maxLen];exact hsz.2.2))
     simp only[XV] at k1 k2 k3;exact⟨_,g',_,hap,k1,k2,k3,k4⟩
    rcases q7 with⟨hc0,a,rfl⟩|⟨hc0,b0,rfl,rfl⟩
    .
     have hl0:bl.rows.length=0:=by omega
     by_cases hn:rowsOf y h=[]
     .
      rw[hn] at hlen hfc hR ⊢;have:news=[]:=X5 (by simpa using hR.1)
      subst this;rw[X5 hl0];obtain⟨g',g1,g2,g3,g4,g5⟩:=hm.putNone (h':=upd (upd h r none) b (some ⟨bl.ty,[]++[]⟩)) b ⟨bl.ty,[]⟩ hb (upd_same _ _ _) (by rw[hn,X5 hl0] at hh';exact hh') hsz.1 rfl
      exact⟨.slice a 0 0,g',w,Mg ht hi hu ty a 0 0 (XY _) hlen (hfc w rfl),Gc g1 ((g2 b).2 (.inr rfl)) a,g4,g5,fun r hr=>(g2 r).1 hr⟩
     have hpos:0<(rowsOf y h).length:=Zr.2 hn;exact grow a 0 (by rw[hl0]) (by omega)
    rcases q5 with⟨q5,_⟩|⟨b',cur,q5,k1,k2,k3,k4⟩
    .
     cases q5
    cases q5
    have k1:=k1.cells q6.2;have k2:=k2 q6.2;have q4:=q6.2;simp only[Nat.zero_mul,Nat.sub_zero] at *
    by_cases hroom:bl.rows.length+(rowsOf y h).length<=c
    .
     have hnl:news.length=(rowsOf y h).length*P.cellsOf bl.ty:=hR.1;have hfit:bl.rows.length*P.cellsOf bl.ty+news.length<=cur.size:=by
      rw[hnl,k2,<- Zo];exact Y3 _ hroom
     have hap:=Xo (P:=P) ht hi hu ty b0 0 bl.rows.length c hlen hroom (hfc w rfl) hR.one k1 (by rw[hs];simpa using hfit)
     rw[hs] at hap;simp only[Nat.zero_add] at hap;have hO:=k4.rowsIn 0 bl.rows.length (by omega) (by rw[k2];exact Y3 _ q3)
     simp only[X7,YG,Nat.zero_mul] at hO;have hA:=hO.append hR;generalize hnew:(List.take (bl.rows.length*P.cellsOf bl.ty) cur.toList++news++List.drop (bl.rows.length*P.cellsOf bl.ty+news.length) cur.toList)=new at hap;have hsize:new.length=cur.size:=by rw[<- hnew];simp;omega
     obtain⟨g',g1,g2,g3,g4,g5⟩:=hm.put (h':=upd (upd h r none) b (some ⟨bl.ty,bl.rows++rowsOf y h⟩)) (w':=w.setRow b0 new.toArray) b b0 c ⟨bl.ty,bl.rows++rowsOf y h⟩ new.toArray (.inl hb) (upd_same _ _ _) hh'
      (.inr ⟨r,c,_,q1,.inr (by rw[upd_ne _ _ _ _ hrb];exact upd_same _ _ _)⟩) (setRow_heap w b0 cur _ bl.ty _ k1) (by simp[hsize,k2]) hsz.1 (by simpa using hroom) q4
      (hA.holds (by rw[<- hnew];simp only[Yz];rw[<- Yz];exact List.take_left))
      ⟨rfl,rfl,rfl,by simp,fun k _ hk=>setRow_other w b0 k _ (fun e=>hk (by rw[e]))⟩
     refine⟨_,g',_,hap,.mrow b 0 _ _ ⟨_,_,rfl,hroom,fun _=>⟨_,rfl⟩⟩ ((g2 b).2 (.inr rfl)) fun blk c' sz he=>?_,g4,g5,fun r hr=>(g2 r).1 hr⟩
     rw[g1] at he;simp only[Yh,YI] at he;obtain⟨rfl,rfl,rfl⟩:=he;exact⟨om,.inr ⟨hc0,b0,rfl,by simp⟩⟩
    exact grow _ c rfl om
end Go.DL
namespace Go.DL
open Go.RowKit
variable {P : Program}
theorem Rep.agg_inv {w:World}{g:Mem}{ds:List D}{v:Value}(h:Rep w g (.agg ds) v):∃ vs,v = .agg vs/\Reps w g ds vs.toList:=by
 cases h with|agg _ vs hn hv=>exact⟨vs,rfl,by simpa using hn,fun i d x h1 h2=>hv i d x h1 (by simpa using h2)⟩
theorem Rep.tuple_inv {w:World}{g:Mem}{ds:List D}{v:Value}(h:Rep w g (.tuple ds) v):∃ vs,v = .tuple vs/\Reps w g ds vs.toList:=by
 cases h with|tuple _ vs hn hv=>exact⟨vs,rfl,by simpa using hn,fun i d x h1 h2=>hv i d x h1 (by simpa using h2)⟩
theorem Rep.mk_agg {w:World}{g:Mem}{ds:List D}{vs:Array Value}(h:Reps w g ds vs.toList):Rep w g (.agg ds) (.agg vs) :=
 .agg ds vs (by simpa using h.1) fun i d x h1 h2=>h.2 i d x h1 (by simpa using h2)
theorem Rep.mk_tuple {w:World}{g:Mem}{ds:List D}{vs:Array Value}(h:Reps w g ds vs.toList):Rep w g (.tuple ds) (.tuple vs) :=
 .tuple ds vs (by simpa using h.1) fun i d x h1 h2=>h.2 i d x h1 (by simpa using h2)
theorem BL {w:World}{g:Mem}{a:D}{va:Value}(ha:Rep w g a va) (hp:mM a=true) (n:Nat):∃ p,va = .pointer (some p)/\Rep w g (pY n a) (.pointer (some (p.add n))):=by
 cases ha with
 | eptr cs p cv hI hc hr =>
  refine⟨p,rfl,.eptr _ _ (fun j=>cv (n+j)) (by rw[block_add];exact hI) (fun j d hj=>?_) (fun j d hj=>?_)⟩
  .
   rw[YZ] at hj;rw[add_add'];exact hc _ d hj
  rw[YZ] at hj;exact hr _ d hj
 | mptr r i off x hx hU hv =>
  obtain⟨p,rfl⟩:=hx;refine⟨p,rfl,.mptr r i (off+n) _ ⟨_,rfl⟩ hU fun blk c sz he=>?_⟩
  obtain⟨h0,b,h1,h2⟩:=hv blk c sz he;refine⟨h0,b,h1,?_⟩;simp only[Value.pointer.injEq,Yh] at h2;rw[h2,jy,Nat.add_assoc]
 | v =>
  unfold mM at hp
  split at hp
  .
   rename_i e;cases e
  .
   rename_i e;cases e
  .
   rename_i p e;cases e;exact⟨_,rfl,.v _⟩
  cases hp
 | _=>simp[mM] at hp
theorem TM {a:D}(h:ol a=true):mM a=true:=by
 unfold ol at h
 split at h
 .
  rfl
 .
  rfl
 .
  rfl
 cases h
theorem UV [Glob P] {w:World}{g:Mem}{s:TypeId}{f:Nat}{a:D}{va:Value}(ha:Rep w g a va) (hc:(sG P s f a).2):∃ v,(Instr.fieldAt s va f).run P w = .ok v w/\Rep w g (sG P s f a).1 v:=by
 unfold sG at hc ⊢
 cases hf:aR P s f with
 | none=>rw[hf] at hc;exact hc.elim
 | some ot =>
  obtain⟨off,t⟩:=ot;rw[hf] at hc;obtain⟨h1,h2⟩:=hc;obtain⟨p,rfl,h3⟩:=BL ha h1 off;refine⟨_,?_,h3⟩;unfold aR at hf
  split at hf
  case h_2=>cases hf
  rename_i fs hfs
  cases hff:fs[f]? with
  | none=>rw[hff] at hf;cases hf
  | some fd =>
   rw[hff] at hf;simp only[YR,Yh,YI] at hf;obtain⟨rfl,rfl⟩:=hf;have h4:=jX (P:=P) (t:=fd.type) (by omega) w
   simp[Instr.fieldAt,run_underlying hfs,hff,Instr.sureAddr,fieldPlace,h4,h2]
theorem UU [Glob P] {w:World}{g:Mem}{s:TypeId}{f:Nat}{a:D}{va:Value}(ha:Rep w g a va) (hc:(wL P s f a).2):∃ v,(Instr.field s va f).run P w = .ok v w/\Rep w g (wL P s f a).1 v:=by
 unfold wL at hc ⊢
 split at hc
 case h_2=>exact hc.elim
 rename_i off t cs hf
 obtain⟨h1,h2,h3⟩:=hc
 obtain⟨vs,rfl,hv⟩:=ha.agg_inv
 obtain⟨v,h4,h5⟩:=Q7 (P:=P) hv h1 h2 h3
 refine⟨v,?_,h5⟩
 unfold aR at hf
 split at hf
 case h_2=>cases hf
 rename_i fs hfs
 cases hff:fs[f]? with
 | none=>rw[hff] at hf;cases hf
 | some fd =>
  rw[hff] at hf;simp only[YR,Yh,YI] at hf;obtain⟨rfl,rfl⟩:=hf
  simp[Instr.field,run_underlying hfs,hff,asAgg,h4]
theorem Uc [Glob P] {h:H}{g:Mem}{w:World}(hm:HM P h g w) {t:TypeId}{x ix:D}{vx vi:Value}(hx:Rep w g x vx) (hi:Rep w g ix vi) (hc:(fG P t x ix h).2):∃ v,(Instr.indexAt t vx vi).run P w = .ok v w/\Rep w g (fG P t x ix h).1 v:=by
 unfold fG at hc ⊢
 cases he:bf P t with
 | none =>
  rw[he] at hc;simp only at hc ⊢;unfold oz at hc ⊢
  split at hc
  case h_2=>exact hc.elim
  rename_i n e k kk ha
  obtain⟨c1,c2,c3,c4⟩:=hc;obtain⟨p,rfl,h3⟩:=BL hx (TM c1) (kk.toNat*P.cellsOf e);rw[hi.v_inv];refine⟨_,?_,h3⟩;unfold jS at ha
  split at ha
  case h_2=>cases ha
  rename_i n' e' hu
  cases ha
  simp[Instr.indexAt,asIntOf,run_underlying hu,Instr.sureAddr,c2,c3,jX c4]
 | some e =>
 rw[he] at hc
 simp only at hc ⊢
 have hu:=nk he
 split at hc
 case h_3=>exact hc.elim
 case h_1 full rows k n =>
  rw[hi.v_inv];obtain⟨c1,c2,c3,c4⟩:=hc;have hlt:n.toNat<rows.length:=by omega
  cases hx with
  | empty=>simp at hlt
  | list full rows ad cap size cv hI hl hf hmx hs hcc hr =>
   have hsz:size=P.cellsOf e:=by
    rw[<- c4,<- hs (rows.getD n.toNat []) (by simp[List.getD,Yg hlt])]
   subst hsz;refine⟨.pointer (some (ad.add (n.toNat*P.cellsOf e))),?_,?_⟩
   .
    have h2:n<(rows.length:Int):=c2
    simp[Instr.indexAt,asIntOf,run_underlying hu,c1,h2,jX c3]
   have hrow:rows[n.toNat]? = some (rows.getD n.toNat []):=by simp[List.getD,Yg hlt]
   refine .eptr _ _ (fun j=>cv n.toNat j) (by rw[block_add];exact hI) (fun j d hj=>?_) (fun j d hj=>hr _ _ _ _ hrow hj)
   rw[add_add'];exact (hcc _ _ _ _ hrow hj).1
 case h_2 r off len k n =>
  rw[hi.v_inv];obtain⟨c1,c2,c3,c4⟩:=hc
  cases hr:h r with
  | none=>rw[hr] at c4;exact c4.elim
  | some bl =>
   rw[hr] at c4;simp only at c4;subst c4
   cases hx with|mrow _ _ _ _ hxx hU hv =>
   obtain⟨a,c,rfl,h1,h2⟩:=hxx;obtain⟨p,rfl⟩:=h2 om;refine⟨.pointer (some (p.add (n.toNat*P.cellsOf bl.ty))),?_,.mptr _ _ _ _ ⟨_,rfl⟩ hU fun blk c' sz hM=>?_⟩
   .
    simp[Instr.indexAt,asIntOf,run_underlying hu,c1,c2,jX c3]
   obtain⟨blk',c'',q1,_⟩:=hm.blk r bl hr;rw[hM] at q1;simp only[Yh,YI] at q1;obtain⟨q0,q2⟩:=hv _ _ _ hM
   rcases q2 with⟨rfl,a,q2⟩|⟨_,b,q3,q4⟩
   .
    omega
   refine⟨q0.2,b,q3,?_⟩;simp only[Value.slice.injEq,Yh] at q4;rw[q4.1,jy,q1.2.2,<- Zo];rfl
theorem Ub [Glob P] {g:Mem}{w:World}{t:TypeId}{x ix:D}{vx vi:Value}(hx:Rep w g x vx) (hi:Rep w g ix vi) (hc:(sj P t x ix).2):∃ v,(Instr.index t vx vi).run P w = .ok v w/\Rep w g (sj P t x ix).1 v:=by
 unfold sj at hc ⊢
 split at hc
 case h_2=>exact hc.elim
 rename_i s k n
 obtain⟨c1,c2,c3⟩:=hc
 rw[hx.v_inv,hi.v_inv]
 refine⟨_,?_,.v _⟩
 have hlt:n.toNat<s.size:=by omega
 have e:s[n.toNat]? = some (s.data.toList.getD n.toNat 0):=by
  rw[ByteArray.getElem?_lt' s n.toNat hlt];have hlt':n.toNat<s.data.size:=hlt;simp only[List.getD,Zh,ZN hlt',YT];rfl
 simp[Instr.index,asIntOf,run_underlying c3,c1,e]
theorem M7 {g:Mem}{w:World}{op:UnOp}{x:D}{vx:Value}(hx:Rep w g x vx) (hc:(pK op x).2):∃ v,(Op.unary op vx).run P w = .ok v w/\Rep w g (pK op x).1 v:=by
 unfold pK at hc ⊢
 split at hc
 .
  rw[hx.v_inv];exact⟨_,by simp[Op.unary],.v _⟩
 .
  rw[hx.v_inv];exact⟨_,by simp[Op.unary,Op.intArith,uW hc],.v _⟩
 exact hc.elim
theorem Wi [Glob P] {g:Mem}{w:World}{src dst:TypeId}{x:D}{vx:Value}(hx:Rep w g x vx) (hc:(sJ P src dst x).2):∃ v,(convert src dst vx).run P w = .ok v w/\Rep w g (sJ P src dst x).1 v:=by
 unfold sJ at hc ⊢
 split at hc
 .
  rename_i k k' n hd
  obtain⟨d,hs⟩:=YN.1 hc;rw[hx.v_inv];exact⟨.int k (k.wrap n),by simp[convert,run_underlying hs,run_underlying hd,Conv.intToInt],.v _⟩
 .
  rename_i s hd
  rw[hx.v_inv]
  split at hc
  .
   rename_i hs
   exact⟨_,by simp[convert,run_underlying hs,run_underlying hd],.v _⟩
  exact hc.elim
 .
  rename_i full rows hd
  obtain⟨h1,h2⟩:=hc;unfold DT at h1
  split at h1
  case h_2=>cases h1
  rename_i e hs
  split at h1
  case h_2=>cases h1
  rename_i he
  have key : ∀ (a:Option Addr) (n c:Nat),vx = .slice a n c->(convert src dst vx).run P w=(Conv.bytesToString (.slice a n c)).run P w:=by
   intro a n c e;subst e;exact run_convert_bytes_string w src dst _ a n c hs he hd
  cases hx with
  | empty full a cap hf hm =>
   refine⟨_,?_,.v _⟩;rw[key _ _ _ rfl]
   cases a with
   | none=>simp[Conv.bytesToString];rfl
   | some a =>
    rw[run_bytesToString w a 0 cap [] (by have:=run_loadCells (P:=P) w a 0 (fun _=>undef) (fun j hj=>by omega);simpa using this)]
    rfl
  | list full rows ad cap size cv hi hl hf hm hs' hcc hr =>
   have hrow : ∀ i (hi:i<rows.length),∃ n,rows[i]=[.v (.int .u8 n)]:=by
    intro i hi;have h3:=YQ.1 h2 rows[i] (Yv hi);unfold isByte at h3
    split at h3
    .
     exact⟨_,by assumption⟩
    cases h3
   have hex : ∀ i,∃ n,i<rows.length->rows[i]? = some [.v (.int .u8 n)]:=by
    intro i
    by_cases hi:i<rows.length
    .
     obtain⟨n,h⟩:=hrow i hi;exact⟨n,fun _=>by rw[Yg hi,h]⟩
    exact⟨0,fun h=>absurd h hi⟩
   obtain⟨f,hf'⟩:∃ f:Nat->Int,∀ i,i<rows.length->rows[i]? = some [.v (.int .u8 (f i))]:=⟨fun i=>Classical.choose (hex i),fun i=>ZB (hex i)⟩
   refine⟨_,?_,.v _⟩;rw[key _ _ _ rfl];have hcell : ∀ j,j<rows.length->w.cell? (ad.add j)=some (.int .u8 (f j)):=by
    intro j hj;have h4:=hf' j hj;have hsz:size=1:=by rw[<- hs' _ (Yl h4)];rfl
    obtain⟨h5,_⟩:=hcc j 0 _ _ h4 rfl;have h6:=(hr j 0 _ _ h4 rfl).v_inv;rw[hsz,Nat.mul_one,Zv,h6] at h5;exact h5
   have hload:=run_loadCells (P:=P) w ad rows.length (fun j=>.int .u8 (f j)) hcell
   rw[run_bytesToString w ad rows.length cap ((List.range rows.length).map f) (by rw[hload,List.map_map];rfl)]
   congr 2
   have hfold : ∀ (l:List Int) (r:ByteArray),l.foldl (fun r n=>r.push (UInt8.ofNat n.toNat)) r=⟨r.data++(l.map fun n=>UInt8.ofNat n.toNat).toArray⟩:=by
    intro l
    induction l with
    | nil=>intro r;simp
    | cons n l ih =>
     intro r;rw[YO,ih]
     congr 1
     apply Zl
     simp[ByteArray.push]
   rw[hfold]
   congr 1
   apply Zl
   have he2:ByteArray.empty.data = #[]:=rfl;rw[he2];simp only[Array.toList_append,X3]
   apply List.ext_getElem?
   intro i
   by_cases hi:i<rows.length
   .
    have h4:=hf' i hi;have h5:(List.range rows.length)[i]? = some i:=List.getElem?_range hi;simp only[YJ,h4,h5,YR];rfl
   rw[ZO (by simp only[Zk,List.length_range];omega),ZO (by simp only[Zk];omega)]
 exact hc.elim
theorem R8 {g:Mem}{w:World}{xs:List D}{vs:List Value}(hx:Reps w g xs vs) (hc:(y7 xs).2) (a:Array TypeId) (t:TypeId):∃ v,(Builtin.min_ a t vs.toArray).run P w = .ok v w/\Rep w g (y7 xs).1 v:=by
 unfold y7 at hc ⊢
 split at hc
 .
  obtain⟨x,l,rfl,h1,h2⟩:=hx.of_cons;obtain⟨y,l,rfl,h3,h4⟩:=h2.of_cons;rw[h4.of_nil,h1.v_inv,h3.v_inv];subst hc
  rename_i k a b
  refine⟨.int k (min a b),?_,.v _⟩;have e:(if b<a then b else a)=min a b:=by omega
  simp[Builtin.min_,Builtin.min2,e]
 exact hc.elim
theorem Si {g:Mem}{w:World}{xs:List D}{vs:List Value}(hx:Reps w g xs vs) (hc:(y8 xs).2) (a:Array TypeId) (t:TypeId):∃ v,(Builtin.max_ a t vs.toArray).run P w = .ok v w/\Rep w g (y8 xs).1 v:=by
 unfold y8 at hc ⊢
 split at hc
 .
  obtain⟨x,l,rfl,h1,h2⟩:=hx.of_cons;obtain⟨y,l,rfl,h3,h4⟩:=h2.of_cons;rw[h4.of_nil,h1.v_inv,h3.v_inv];subst hc
  rename_i k a b
  refine⟨.int k (max a b),?_,.v _⟩;have e:(if a<b then b else a)=max a b:=by omega
  simp[Builtin.max_,Builtin.max2,e]
 exact hc.elim
theorem Sz [Glob P] {g:Mem}{w:World}{t ty:TypeId}{x:D}{vx:Value}(hx:Rep w g x vx) (hc:rV P t x=true):(Builtin.len_ #[t] ty #[vx]).run P w = .ok (.int .i64 (aV x)) w:=by
 unfold rV at hc
 split at hc
 .
  obtain⟨e,he⟩:=YN.1 hc
  cases hx with
  | empty=>simp[Builtin.len_,run_underlying (nk he),goInt,aV]
  | list=>simp[Builtin.len_,run_underlying (nk he),goInt,aV]
 .
  obtain⟨e,he⟩:=YN.1 hc
  cases hx with|mrow _ _ _ _ hxx hU hv =>
  obtain⟨a,c,rfl,_⟩:=hxx
  simp[Builtin.len_,run_underlying (nk he),goInt,aV]
 .
  rename_i s
  have hu:P.underlying t=some .string:=by split at hc<;>simp_all
  rw[hx.v_inv]
  simp[Builtin.len_,run_underlying hu,goInt,aV]
 cases hc
def uR (w:World) (g:Mem) (o:Option D) (vo:Option Value):Prop:=match o,vo with|some x,some v=>Rep w g x v|none,none=>True|_,_=>False
def qc (vo:Option Value) (d y:Nat) (code:BoundsCode):Sem Nat:=match vo with|some v=>Instr.sliceBound v y code|none=>pure d
theorem kH [Glob P] {o:Option D}{vo:Option Value}{d:Nat}{y:Nat}{w:World}{g:Mem}(hr:uR w g o vo) (hk:sM o=true) (h0:0<=bnd o d) (hle:bnd o d<=y) (code:BoundsCode) :
  (qc vo d y code).run P w = .ok (bnd o d).toNat w:=by
 unfold uR at hr
 split at hr
 .
  rename_i x v
  unfold sM at hk
  split at hk
  .
   rename_i e;cases e
  .
   rename_i k n e
   cases e
   rw[hr.v_inv];simp only[bnd] at h0 hle ⊢
   simp[qc,Instr.sliceBound,asIntOf,h0,hle]
  cases hk
 .
  simp[qc,bnd]
 exact hr.elim
theorem wX [Glob P] {b:Bool}{len cap l h:Nat}{vl vh:Option Value}{w:World}(c1:(qc vh len cap (if b then .sliceAcap else .sliceAlen)).run P w = .ok h w) (c2:(qc vl 0 h .sliceB).run P w = .ok l w) :
  (Instr.sliceBounds b len cap vl vh none).run P w = .ok (l,h,cap) w:=by
 cases vh<;>cases vl<;>simp_all [Instr.sliceBounds,qc]
theorem WM [Glob P] {b:Bool}{len cap l h m:Nat}{vl:Option Value}{vh vm:Value}{w:World}(c0:(Instr.sliceBound vm cap (if b then .slice3Acap else .slice3Alen)).run P w = .ok m w) (c1:(Instr.sliceBound vh m .slice3B).run P w = .ok h w) (c2:(qc vl 0 h .slice3C).run P w = .ok l w) :
  (Instr.sliceBounds b len cap vl (some vh) (some vm)).run P w = .ok (l,h,m) w:=by
 cases vl<;>simp_all [Instr.sliceBounds,qc]
theorem vw [Glob P] {t e:TypeId}(hu:P.underlying t=some (.slice e)) (he:0<P.cellsOf e) {a:Option Addr}{len cap l h m:Nat}{vl vh vm:Option Value}{w:World}(hb:(Instr.sliceBounds true len cap vl vh vm).run P w = .ok (l,h,m) w) :
  (Instr.sliceAt t (.slice a len cap) vl vh vm).run P w = .ok (.slice (if m=l then a else a.map (·.add (l*P.cellsOf e))) (h-l) (m-l)) w:=by
 simp[Instr.sliceAt,Instr.slice,run_underlying hu,hb,jX he]
theorem IL {w:World}{g:Mem}{full:Bool}{rows:List (List D)}{ao:Option Addr}{len cap e:Nat}(hx:Rep w g (.list full rows) (.slice ao len cap)) (he:0<e) (hs : ∀ r∈rows,r.length=e) (lo hi m:Nat) (h1:lo<=hi) (h2:hi<=rows.length) (h3:hi<=m) (h4:m<=cap) (f:Bool) (hf:f=true->m=hi) :
  Rep w g (.list f ((rows.take hi).drop lo)) (.slice (if m=lo then ao else ao.map (·.add (lo*e))) (hi-lo) (m-lo)):=by
 by_cases hz:(rows.take hi).drop lo=[]
 .
  rw[hz];have hlen:hi-lo=0:=by
   have:=congrArg List.length hz;simp at this;omega
  have hm:cap<=maxLen:=by cases hx<;>assumption
  rw[hlen];exact .empty f _ _ (fun h=>by have:=hf h;omega) om
 cases hx with
 | empty=>simp at hz
 | list full rows ad cap size cv hI hl hff hmx hss hcc hr =>
  have hlt:lo<hi:=by
   rcases YV lo hi with h|h
   .
    exact h
   exfalso;apply hz;apply YU;simp;omega
  rw[XZ (by omega)]
  have hse:size=e:=by
   have h0:0<rows.length:=by omega
   rw[<- hss rows[0] (by simp),hs rows[0] (by simp)]
  subst hse;have hlen:hi-lo=((rows.take hi).drop lo).length:=by simp;omega
  rw[hlen];have hg : ∀ (i:Nat) r,((rows.take hi).drop lo)[i]? = some r->rows[lo+i]? = some r:=by
   intro i r hir;rw[YZ,YY] at hir
   split at hir
   .
    exact hir
   cases hir
  refine .list f _ _ _ size (fun i j=>cv (lo+i) j) (by rw[block_add];exact hI) (by omega) (fun h=>by have:=hf h;omega) (by omega) (fun r hr=>hs r (List.mem_of_mem_take (List.mem_of_mem_drop hr))) (fun i j r d h5 h6=>?_) (fun i j r d h5 h6=>hr _ _ _ _ (hg i r h5) h6)
  have:=hcc _ _ _ _ (hg i r h5) h6;rw[add_add'];have e2:lo*size+(i*size+j)=(lo+i)*size+j:=by rw[Zo];omega
  rw[e2];exact this
theorem Oe [Glob P] {h:H}{g:Mem}{w:World}(hm:HM P h g w) {t:TypeId}{x:D}{l hh m:Option D}{vx:Value}{vl vh vm:Option Value}(hx:Rep w g x vx) (hl:uR w g l vl) (hh':uR w g hh vh) (hmm:uR w g m vm) (hc:(iY P t x l hh m h).2) :
  ∃ v,(Instr.sliceAt t vx vl vh vm).run P w = .ok v w/\Rep w g (iY P t x l hh m h).1 v:=by
 unfold iY at hc ⊢
 split at hc
 case h_4=>exact hc.elim
 case h_1 s =>
  obtain⟨⟨b1,b2,b3,b4,b5,b6⟩,rfl,hu⟩:=hc;rw[hx.v_inv]
  cases vm with
  | some v=>exact hmm.elim
  | none =>
  simp only[aV] at b4 b5 b6 ⊢;have r2:=kH (P:=P) (d:=s.size) (y:=s.size) hh' b2 (by omega) (by omega) (if false then .sliceAcap else .sliceAlen)
  have r1:=kH (P:=P) (d:=0) (y:=(bnd hh s.size).toNat) hl b1 b4 (by omega) .sliceB
  exact⟨_,by simp[Instr.sliceAt,Instr.slice,run_underlying hu,wX r2 r1],.v _⟩
 case h_2 full rows =>
  cases he:bf P t with
  | none=>rw[he] at hc;exact hc.elim
  | some e =>
  rw[he] at hc;simp only at hc ⊢;have hu:=nk he;simp only[aV] at hc ⊢;have hv : ∃ a cap,vx = .slice a rows.length cap/\rows.length<=cap/\cap<=maxLen/\(full=true->cap=rows.length):=by
   cases hx with
   | empty full a cap hf hmx=>exact⟨a,cap,rfl,Yo _,hmx,hf⟩
   | list full rows ad cap size cv hI hll hf hmx hs' hc' hr'=>exact⟨_,cap,rfl,hll,hmx,hf⟩
  obtain⟨a,cap,rfl,v1,v2,v3⟩:=hv
  cases m with
  | none =>
   simp only at hc ⊢;obtain⟨⟨b1,b2,b3,b4,b5,b6⟩,c2,c3⟩:=hc
   cases vm with
   | some v=>exact hmm.elim
   | none =>
   have r2:=kH (P:=P) (d:=rows.length) (y:=cap) hh' b2 (by omega) (by omega) (if true then .sliceAcap else .sliceAlen)
   have r1:=kH (P:=P) (d:=0) (y:=(bnd hh rows.length).toNat) hl b1 b4 (by omega) .sliceB
   refine⟨_,vw hu c2 (wX r2 r1),?_⟩;refine IL hx c2 c3 _ _ cap om om om (XY _) _ fun hf=>?_
   simp only[XW,YE] at hf;have:=v3 hf.1;omega
  | some dm =>
   simp only at hc ⊢;obtain⟨⟨b1,b2,b3,b4,b5,b6⟩,c0,c1,c2,c3⟩:=hc
   cases vm with
   | none=>exact hmm.elim
   | some vm =>
   obtain⟨dh,rfl⟩:=YN.1 c0
   cases vh with
   | none=>exact hh'.elim
   | some vh =>
   have r3:=kH (P:=P) (d:=0) (y:=cap) hmm b3 (by omega) (by omega) (if true then .slice3Acap else .slice3Alen)
   have r2:=kH (P:=P) (d:=rows.length) (y:=(bnd (some dm) 0).toNat) hh' b2 (by omega) (by omega) .slice3B
   have r1:=kH (P:=P) (d:=0) (y:=(bnd (some dh) rows.length).toNat) hl b1 b4 (by omega) .slice3C
   refine⟨_,vw hu c2 (WM r3 r2 r1),?_⟩;exact IL hx c2 c3 _ _ _ om om om om _ fun hf=>by omega
 case h_3 r off len =>
  cases he:bf P t with
  | none=>rw[he] at hc;exact hc.elim
  | some e =>
  rw[he] at hc;simp only at hc ⊢;have hu:=nk he;simp only[aV] at hc ⊢;obtain⟨⟨b1,b2,b3,b4,b5,b6⟩,rfl,c2,c3⟩:=hc
  cases hr:h r with
  | none=>rw[hr] at c3;exact c3.elim
  | some bl =>
  rw[hr] at c3;simp only at c3;subst c3
  cases vm with
  | some v=>exact hmm.elim
  | none =>
  cases hx with|mrow _ _ _ _ hxx hU hv =>
  obtain⟨a,c,rfl,h1,h2⟩:=hxx;have r2:=kH (P:=P) (d:=len) (y:=c) hh' b2 (by omega) (by omega) (if true then .sliceAcap else .sliceAlen)
  have r1:=kH (P:=P) (d:=0) (y:=(bnd hh len).toNat) hl b1 b4 (by omega) .sliceB
  refine⟨_,vw hu c2 (wX r2 r1),?_⟩;have e1:(bnd hh len).toNat-(bnd l 0).toNat=(bnd hh len-bnd l 0).toNat:=by omega
  rw[e1];refine .mrow r _ _ _ ⟨_,_,rfl,om,fun hlt=>?_⟩ hU fun blk c' sz hM=>?_
  .
   obtain⟨p,rfl⟩:=h2 om
   split
   .
    exact⟨p,rfl⟩
   exact⟨_,rfl⟩
  obtain⟨q1,q2⟩:=hv _ _ _ hM;obtain⟨blk',c'',q5, -⟩:=hm.blk r bl hr;rw[hM] at q5;simp only[Yh,YI] at q5
  rcases q2 with⟨rfl,a',q2⟩|⟨q2,b,rfl,q3⟩
  .
   simp only[Value.slice.injEq] at q2;obtain⟨rfl,rfl,rfl⟩:=q2;have z1:(bnd l 0).toNat=0:=by omega
   have z2:(bnd hh 0-bnd l 0).toNat=0:=by omega
   exact⟨om,.inl ⟨om,_,by rw[z1,z2]⟩⟩
  simp only[Value.slice.injEq] at q3;obtain⟨rfl,_,rfl⟩:=q3;refine⟨om,?_⟩
  by_cases hcl:c'-off=(bnd l 0).toNat
  .
   refine .inl ⟨om,some ⟨b,off*sz,none⟩,?_⟩;rw[X6 hcl];have z2:(bnd hh len-bnd l 0).toNat=0:=by omega
   rw[z2,hcl,Yr]
  refine .inr ⟨om,b,rfl,?_⟩;rw[XZ hcl,q5.2.2];simp only[YR,jy,<- Zo];rw[Nat.sub_sub]
end Go.DL
namespace Go.DL
open Go.RowKit
variable {P : Program}
theorem HM.still [Glob P] {h:H}{g:Mem}{w:World}(hm:HM P h g w) (o:Obj) :
  HM P h { g with I:=fun b=>g.I b\/b=w.heap.size } (w.alloc o)/\Mono g { g with I:=fun b=>g.I b\/b=w.heap.size } w (w.alloc o):=by
 have mono:Mono g { g with I:=fun b=>g.I b\/b=w.heap.size } w (w.alloc o) :=
  ⟨rfl,rfl,rfl,by simp,XY _,fun _ h=>h,fun _ _=>.inl rfl,fun r b c s h=>.inl ⟨r,c,s,h⟩,fun _ h=>.inl h,fun b h=>by rcases h with h|rfl;exact .inl h;exact .inr (.inl (XY _)),fun b hb _=>Below.heap_alloc w o b hb⟩
 refine⟨⟨hm.dead,fun r bl hr=>?_,hm.inj,hm.used,fun b hb=>?_,hm.gr.later (hm.kept mono)⟩,mono⟩
 .
  obtain⟨blk,c,h1,h2,h3,h4,h5⟩:=hm.blk r bl hr;refine⟨blk,c,h1,h2,h3,h4,?_⟩
  rcases h5 with h5|⟨b,cur,rfl,h6,h7,h8,h9⟩
  .
   exact .inl h5
  have hlt:=(iQ hm h1).1;refine .inr ⟨b,cur,rfl,by rw[Below.heap_alloc w o b hlt];exact h6,h7,fun hI=>?_,fun i row hi=>?_⟩
  .
   rcases hI with hI|hI
   .
    exact h8 hI
   omega
  obtain⟨k1,k2⟩:=h9 i row hi;refine⟨k1,fun j d hd=>?_⟩
  obtain⟨u,k3,k4,k5⟩:=k2 j d hd;exact⟨u,k3,k4,k5.later hm mono⟩
 rcases hb with hb|rfl
 .
  have:=hm.imm b hb;simp;omega
 simp
theorem F4 {n:Nat}:∀ {ps:List (Nat×Operand)}{xs:List D}{i:Nat},rE n i ps xs->ps.map (·.1)=List.range' i ps.length/\xs.length=ps.length /\ ∀ x∈xs,x.cells.length=n/\x.cells.all D.one=true:=by
 intro ps
 induction ps with
 | nil=>intro xs i h;cases xs<;>simp_all [rE]
 | cons p ps ih =>
  intro xs i h
  cases xs with
  | nil=>simp[rE] at h
  | cons x xs =>
   obtain⟨h1,h2,h3,h4⟩:=h;obtain⟨k1,k2,k3⟩:=ih h4;refine⟨by simp[h1,k1,Y0],by simp[k2],fun y hy=>?_⟩
   rcases YK.1 hy with rfl|hy
   .
    exact⟨h2,h3⟩
   exact k3 y hy
theorem WI [Glob P] {h:H}{g:Mem}{w:World}(hm:HM P h g w) {t:TypeId}{len:Nat}{ps:Array (Nat×Operand)}{xs:List D}{vs:List Value}(hr:Reps w g xs vs) (hc:(sK P t len ps.toList xs).2) (ρ:Operand->Value) (hρ:ps.toList.map (fun p=>ρ p.2)=vs) :
  ∃ v g' w',(Instr.buildSlice t len (ps.map fun (i,x)=>(i,ρ x))).run P w = .ok v w'/\Rep w' g' (sK P t len ps.toList xs).1 v/\HM P h g' w'/\Mono g g' w w' /\ ∀ r,g'.U r->g.U r:=by
 unfold sK at hc ⊢
 cases he:bf P t with
 | none=>rw[he] at hc;exact hc.elim
 | some e =>
 rw[he] at hc
 simp only at hc ⊢
 have hu:=nk he
 obtain⟨c1,c2,c3,c4,c5⟩:=hc
 obtain⟨ie,hie,hs⟩:=si c3
 obtain⟨k1,k2,k3⟩:=F4 c2
 have hvl:vs.length=len:=by rw[<- hr.1,k2,c1]
 have hparts:(ps.map fun (i,x)=>(i,ρ x)).toList=(vs.zipIdx 0).map fun x=>(x.2,x.1):=by
  apply List.ext_getElem?
  intro i;simp only[Array.toList_map,YJ,List.getElem?_zipIdx,<- hρ]
  cases hp:ps.toList[i]? with
  | none=>simp
  | some p =>
   have:(ps.toList.map (·.1))[i]? = some p.1:=by simp only[YJ,hp,YR]
   rw[k1] at this;have hil:i<ps.toList.length:=(Ya.1 hp).1;rw[List.getElem?_range' (by omega)] at this
   simp at this
   simp[this]
 obtain⟨z,hz⟩:∃ z,ie.zero=some z:=by
  unfold aC at c5
  cases hz:ie.zero with
  | none=>simp[hie,hz] at c5
  | some z=>exact⟨z,rfl⟩
 obtain⟨hm',mono⟩:=hm.still (.cells #[] e)
 by_cases h0:len=0
 .
  subst h0;have hx0:xs=[]:=X5 om;subst hx0;have hp0:ps = #[]:=by
   have:ps.toList=[]:=X5 c1
   simpa using this
  subst hp0;refine⟨.slice (some ⟨w.heap.size,0,none⟩) 0 0,_,_,?_,.empty true _ 0 (fun _=>rfl) (by simp[maxLen]),hm',mono,fun _ h=>h⟩
  have e0:(Array.range 0).map (fun _=>(default:Value)) = #[]:=by apply Zl;simp
  simp[Instr.buildSlice,run_underlying hu,jX c3,Instr.fill,newRow,e0]
 obtain⟨r,f1,f2,f3⟩:=Go.Great.fill_dense (s:=ie.size) om vs 0 ((Array.range (len*ie.size)).map (z.cells[· % z.cells.size]!)) (fun v hv=>by
  obtain⟨i,hi,rfl⟩:=Zd hv;have hxi:i<xs.length:=by omega
  obtain⟨q1,q2⟩:=k3 xs[i] (Yv hxi);rw[((hr.2 i xs[i] vs[i] (by simp) (by simp)).cells q2).2.2,q1,hs]) (by simp[hvl])
 have hrun:=run_buildSlice (P:=P) w t e len (ps.map fun (i,x)=>(i,ρ x)) r ie z hu hie hz (by rw[hs];omega) (by rw[hs];exact Nat.mul_ne_zero h0 (by omega)) (by rw[hparts];exact f1)
 obtain⟨hm',mono⟩:=hm.still (.cells r e)
 have hlen:len=(xs.map D.cells).length:=by simp;omega
 refine⟨_,_,_,hrun,?_,hm',mono,fun _ h=>h⟩
 have key : ∀ (i j:Nat) row d,(xs.map D.cells)[i]? = some row->row[j]? = some d -> ∃ u,r[i*P.cellsOf e+j]? = some u/\u.oneCell'=true/\Rep w g d u:=by
  intro i j row d hi hj;rw[YJ] at hi
  cases hxi:xs[i]? with
  | none=>rw[hxi] at hi;cases hi
  | some x =>
   rw[hxi] at hi;simp only[YR,Yh] at hi;subst hi;have hil:i<xs.length:=(Ya.1 hxi).1;have hiv:i<vs.length:=by omega
   obtain⟨q1,q2⟩:=k3 x (Yl hxi);obtain⟨q3,q4,q5⟩:=(hr.2 i x vs[i] hxi (by simp)).cells q2
   have hjl:j<P.cellsOf e:=by have:=(Ya.1 hj).1;omega
   have hjv:j<vs[i].cells.toList.length:=by simp;omega
   refine⟨vs[i].cells.toList[j],?_,q4 _ (Yv hjv),q3.2 j d _ hj (by simp)⟩
   rw[f3,X6 ⟨om,by rw[Nat.zero_add,hs];exact uu hiv hjl⟩,hs]
   have e1:(i*P.cellsOf e+j) / P.cellsOf e=i:=by rw[ZE,Nat.mul_add_div c3,Nat.div_eq_of_lt hjl];rfl
   have e2:(i*P.cellsOf e+j) % P.cellsOf e=j:=by rw[ZE,Z0,Zw hjl]
   rw[e1,e2,Nat.sub_zero,Yg hiv]
   simp
 have hex : ∀ i j,∃ u,∀ row d,(xs.map D.cells)[i]? = some row->row[j]? = some d->r[i*P.cellsOf e+j]? = some u/\u.oneCell'=true/\Rep w g d u:=by
  intro i j
  by_cases hh : ∃ row d,(xs.map D.cells)[i]? = some row/\row[j]? = some d
  .
   obtain⟨row,d,h1,h2⟩:=hh;obtain⟨u,h3,h4,h5⟩:=key i j row d h1 h2;refine⟨u,fun row' d' h1' h2'=>?_⟩
   rw[h1] at h1';cases h1'
   rw[h2] at h2';cases h2'
   exact⟨h3,h4,h5⟩
  exact⟨undef,fun row d h1 h2=>absurd ⟨row,d,h1,h2⟩ hh⟩
 generalize hf:(fun i j=>Classical.choose (hex i j))=cf
 have hcf : ∀ i j row d,(xs.map D.cells)[i]? = some row->row[j]? = some d->r[i*P.cellsOf e+j]? = some (cf i j)/\(cf i j).oneCell'=true/\Rep w g d (cf i j):=by
  intro i j;rw[<- hf];exact ZB (hex i j)
 rw[hlen]
 refine .list true _ ⟨w.heap.size,0,none⟩ _ (P.cellsOf e) cf (.inr rfl) (XY _) (fun _=>rfl) ?_ (fun row hrow=>?_) (fun i j row d h1 h2=>?_) (fun i j row d h1 h2=>?_)
 .
  rw[<- hlen];simp only[maxLen];have:len<=len*P.cellsOf e:=Nat.le_mul_of_pos_right _ c3;omega
 .
  simp only[Y5] at hrow;obtain⟨x,hx,rfl⟩:=hrow;exact (k3 x hx).1
 .
  obtain⟨h3,h4,_⟩:=hcf i j row d h1 h2;refine⟨?_,h4⟩;rw[jy,Nat.zero_add,cell_of_row _ _ _ r e (0,0) (heap_alloc_new w _)];exact h3
 exact (hcf i j row d h1 h2).2.2.later hm mono
theorem WJ [Glob P] {h:H}{g:Mem}{w:World}(hm:HM P h g w) {b:Nat}(hb : ¬ g.U b) {t:TypeId}{len:Nat}{ps:Array (Nat×Operand)}{xs:List D}{vs:List Value}(hr:Reps w g xs vs) (hc:(lu P t len ps.toList xs h b).2.2) (ρ:Operand->Value) (hρ:ps.toList.map (fun p=>ρ p.2)=vs) :
  ∃ v g' w',(Instr.buildSlice t len (ps.map fun (i,x)=>(i,ρ x))).run P w = .ok v w'/\Rep w' g' (lu P t len ps.toList xs h b).1 v/\HM P (lu P t len ps.toList xs h b).2.1 g' w'/\Mono g g' w w' /\ ∀ r,g'.U r->g.U r\/r=b:=by
 unfold lu at hc ⊢
 cases he:bf P t with
 | none=>rw[he] at hc;exact hc.elim
 | some e =>
 rw[he] at hc
 simp only at hc ⊢
 have hu:=nk he
 obtain⟨c0,c1,c2,c3,c4,c5⟩:=hc
 have h0 : ¬ len=0:=by omega
 obtain⟨ie,hie,hs⟩:=si c3
 obtain⟨k1,k2,k3⟩:=F4 c2
 have hvl:vs.length=len:=by rw[<- hr.1,k2,c1]
 have hparts:(ps.map fun (i,x)=>(i,ρ x)).toList=(vs.zipIdx 0).map fun x=>(x.2,x.1):=by
  apply List.ext_getElem?
  intro i;simp only[Array.toList_map,YJ,List.getElem?_zipIdx,<- hρ]
  cases hp:ps.toList[i]? with
  | none=>simp
  | some p =>
   have:(ps.toList.map (·.1))[i]? = some p.1:=by simp only[YJ,hp,YR]
   rw[k1] at this;have hil:i<ps.toList.length:=(Ya.1 hp).1;rw[List.getElem?_range' (by omega)] at this
   simp at this
   simp[this]
 obtain⟨z,hz⟩:∃ z,ie.zero=some z:=by
  unfold aC at c5
  cases hz:ie.zero with
  | none=>simp[hie,hz] at c5
  | some z=>exact⟨z,rfl⟩
 obtain⟨r,f1,f2,f3⟩:=Go.Great.fill_dense (s:=ie.size) om vs 0 ((Array.range (len*ie.size)).map (z.cells[· % z.cells.size]!)) (fun v hv=>by
  obtain⟨i,hi,rfl⟩:=Zd hv;have hxi:i<xs.length:=by omega
  obtain⟨q1,q2⟩:=k3 xs[i] (Yv hxi);rw[((hr.2 i xs[i] vs[i] (by simp) (by simp)).cells q2).2.2,q1,hs]) (by simp[hvl])
 have hrun:=run_buildSlice (P:=P) w t e len (ps.map fun (i,x)=>(i,ρ x)) r ie z hu hie hz (by rw[hs];omega) (by rw[hs];exact Nat.mul_ne_zero h0 (by omega)) (by rw[hparts];exact f1)
 have key : ∀ (i j:Nat) row d,(xs.map D.cells)[i]? = some row->row[j]? = some d -> ∃ u,r[i*P.cellsOf e+j]? = some u/\u.oneCell'=true/\Rep w g d u:=by
  intro i j row d hi hj;rw[YJ] at hi
  cases hxi:xs[i]? with
  | none=>rw[hxi] at hi;cases hi
  | some x =>
   rw[hxi] at hi;simp only[YR,Yh] at hi;subst hi;have hil:i<xs.length:=(Ya.1 hxi).1;have hiv:i<vs.length:=by omega
   obtain⟨q1,q2⟩:=k3 x (Yl hxi);obtain⟨q3,q4,q5⟩:=(hr.2 i x vs[i] hxi (by simp)).cells q2
   have hjl:j<P.cellsOf e:=by have:=(Ya.1 hj).1;omega
   have hjv:j<vs[i].cells.toList.length:=by simp;omega
   refine⟨vs[i].cells.toList[j],?_,q4 _ (Yv hjv),q3.2 j d _ hj (by simp)⟩
   rw[f3,X6 ⟨om,by rw[Nat.zero_add,hs];exact uu hiv hjl⟩,hs]
   have e1:(i*P.cellsOf e+j) / P.cellsOf e=i:=by rw[ZE,Nat.mul_add_div c3,Nat.div_eq_of_lt hjl];rfl
   have e2:(i*P.cellsOf e+j) % P.cellsOf e=j:=by rw[ZE,Z0,Zw hjl]
   rw[e1,e2,Nat.sub_zero,Yg hiv]
   simp
 have hlen:len=(xs.map D.cells).length:=by simp;omega
 have hmx:len<=maxLen:=by
  simp only[maxLen];have:len<=len*P.cellsOf e:=Nat.le_mul_of_pos_right _ c3;omega
 obtain⟨g',h2,h3,h4,h5,h6⟩:=hm.put (h':=upd h b (some ⟨e,xs.map D.cells⟩)) (w':=w.alloc (.cells r e)) b w.heap.size len ⟨e,xs.map D.cells⟩ r (.inl hb) (upd_same _ _ _)
  (fun r hr=>.inl (upd_ne _ _ _ _ hr)) (.inl (XY _)) (heap_alloc_new w _) (by simp only[<- hs];simpa using f2) c3 (by simp only;omega) hmx (fun i row hi=>by
   have hi':=hi;simp only[YJ] at hi'
   cases hxi:xs[i]? with
   | none=>rw[hxi] at hi';cases hi'
   | some x =>
    rw[hxi] at hi';simp only[YR,Yh] at hi';subst hi';exact⟨(k3 x (Yl hxi)).1,fun j d hj=>key i j _ d hi hj⟩) (World.grownBy_alloc w _ _)
 refine⟨_,g',_,hrun,?_,h5,h6,fun r hr=>(h3 r).1 hr⟩
 refine .mrow b 0 len _ ⟨some ⟨w.heap.size,0,none⟩,len,rfl,XY _,fun _=>⟨_,rfl⟩⟩ ((h3 b).2 (.inr rfl)) fun blk c sz he=>?_
 rw[h2] at he
 simp only[Yh,YI] at he
 obtain⟨rfl,rfl,rfl⟩:=he
 exact⟨om,.inr ⟨om,w.heap.size,rfl,by simp⟩⟩
def partAt (P:Program) [Glob P] (s:TypeId) (f:Nat):Option (Nat×Nat):=match aR P s f with
 | some (off,t)=>some (off,P.cellsOf t)
 | none=>match jS P s with
  | some (_,e)=>some (f*P.cellsOf e,P.cellsOf e)
  | none=>none
theorem UT [Glob P] {s:TypeId}{f:Nat}{o:Operand}{ps:List (Nat×Operand)}{x:D}{xs cs:List D}:oU P s ((f,o)::ps) (x::xs) cs=match partAt P s f with
  | some (off,_)=>oU P s ps xs (splice cs off x.cells)
  | none=>cs:=by
 conv=>lhs;unfold oU
 unfold partAt
 cases aR P s f with
 | some q=>rfl
 | none=>cases jS P s<;>rfl
theorem UR [Glob P] {s:TypeId}{n f:Nat}{o:Operand}{ps:List (Nat×Operand)}{x:D}{xs:List D}(h:qJ P s n ((f,o)::ps) (x::xs)):(∃ off m,partAt P s f=some (off,m)/\x.cells.length=m/\off+x.cells.length<=n)/\x.cells.all D.one=true/\qJ P s n ps xs:=by
 unfold qJ at h
 obtain⟨h1,h2,h3⟩:=h
 refine⟨?_,h2,h3⟩
 unfold partAt
 cases hf:aR P s f with
 | some q=>rw[hf] at h1;exact⟨_,_,rfl,h1.1,h1.2⟩
 | none =>
  rw[hf] at h1
  cases ha:jS P s with
  | some q=>rw[ha] at h1;exact⟨_,_,rfl,h1.1,h1.2⟩
  | none=>rw[ha] at h1;exact h1.elim
theorem Km [Glob P] {s:TypeId}{pl:Nat->Option (Nat×Nat)}(hpl : ∀ f q,partAt P s f=some q->pl f=some q) {w:World}{g:Mem}:∀ (ps:List (Nat×Operand)) (xs:List D) (vs:List Value) (cs:List D) (cells:Array Value) (ρ:Operand->Value),Reps w g xs vs->ps.map (fun p=>ρ p.2)=vs->Reps w g cs cells.toList ->
  qJ P s cs.length ps xs -> ∃ r,Instr.fill pl cells (ps.map fun (i,x)=>(i,ρ x))=some r/\Reps w g (oU P s ps xs cs) r.toList:=by
 intro ps
 induction ps with
 | nil=>intro xs vs cs cells ρ hx hρ hc hok;exact⟨cells,by simp[Instr.fill],by simpa [oU] using hc⟩
 | cons p ps ih =>
  intro xs vs cs cells ρ hx hρ hc hok;obtain⟨f,o⟩:=p;simp only[Yb] at hρ;subst hρ
  cases xs with
  | nil=>simp[qJ] at hok
  | cons x xs =>
   obtain⟨⟨off,m,hf,h4,h5⟩,h2,h3⟩:=UR hok;obtain⟨q1,q2,q3⟩:=hx.head.cells h2;have hfp:=hpl _ _ hf;have hcl:cs.length=cells.size:=by simpa using hc.1
   obtain⟨g1,g2⟩:=Go.Great.foldl_set off (ρ o).cells.toList 0 cells;generalize hnew:((ρ o).cells.toList.zipIdx 0).foldl (fun cs (x:Value×Nat)=>cs.setIfInBounds (off+x.2) x.1) cells=new at g1 g2
   have hnl:new.toList=cells.toList.take off++(ρ o).cells.toList++cells.toList.drop (off+(ρ o).cells.toList.length):=by
    apply List.ext_getElem?
    intro k;rw[Zh,g2];simp only[Zv,Yz,Array.length_toList,q3];have l1:(cells.toList.take off).length=off:=by simp;omega
    have l2:(ρ o).cells.toList.length=x.cells.length:=by simp[q3]
    by_cases hk:k<off
    .
     rw[XZ (by omega),YW (by omega),YY,X6 hk];simp
    rw[YS (by omega),l1]
    by_cases hk2:k<off+x.cells.length
    .
     rw[X6 (by omega),YW (by omega)]
    rw[XZ (by omega),YS (by omega),YZ,Zh,l2]
    congr 1;omega
   obtain⟨r,k1,k2⟩:=ih xs (ps.map fun p=>ρ p.2) (splice cs off x.cells) new ρ hx.tail rfl (by rw[hnl];exact NU hc q1 off) (by rw[Bf _ _ _ h5];exact h3)
   refine⟨r,?_,by rw[UT,hf];exact k2⟩
   simp only[Yb];unfold Instr.fill;simp only[hfp];rw[XZ (by simp;omega),<- k1]
   congr 1
   rw[<- hnew,<- Array.foldl_toList,Array.toList_zipIdx]
theorem WH [Glob P] {w:World}{g:Mem}{t:TypeId}{ps:Array (Nat×Operand)}{xs:List D}{vs:List Value}(hr:Reps w g xs vs) (hc:(uG P t ps.toList xs).2) (ρ:Operand->Value) (hρ:ps.toList.map (fun p=>ρ p.2)=vs) :
  ∃ v,(Instr.build t (ps.map fun (i,x)=>(i,ρ x))).run P w = .ok v w/\Rep w g (uG P t ps.toList xs).1 v:=by
 obtain⟨c1,c2,c3,c4⟩:=hc
 unfold fq at c4
 obtain⟨i,z,hi,hz⟩:=xq c3
 obtain⟨z1,_,_⟩:=uU hi hz w g c2
 split at c4
 case h_3=>cases c4
 case h_1 =>
  rename_i fs hfs
  obtain⟨r,f1,f2⟩:=Km (pl:=fun x=>(fs.toList.map fun f=>(f.offset,P.cellsOf f.type)).toArray[x]?) (fun f q hq=>by
   unfold partAt at hq;have ha:jS P t=none:=by unfold jS;rw[hfs]
   unfold aR at hq;rw[hfs,ha] at hq;simp only at hq
   cases hff:fs[f]? with
   | none=>rw[hff] at hq;cases hq
   | some fd=>rw[hff] at hq;simp only[YR,Yh] at hq;rw[<- hq];simp[hff]) ps.toList xs vs (zeroCells P t) z.cells ρ hr hρ z1 c1
  refine⟨.agg r,run_build (P:=P) w t _ r ?_,.mk_agg f2⟩;unfold Program.built;have hp:fs.toList.mapM (fun f=>(P.info? f.type).map fun i=>(f.offset,i.size))=some (fs.toList.map fun f=>(f.offset,P.cellsOf f.type)):=by
   have : ∀ l:List Field,(l.all fun f=>(P.info? f.type).isSome)=true->l.mapM (fun f=>(P.info? f.type).map fun i=>(f.offset,i.size))=some (l.map fun f=>(f.offset,P.cellsOf f.type)):=by
    intro l
    induction l with
    | nil=>intro _;rfl
    | cons a l ih =>
     intro h;simp only[List.all_cons,XW] at h;obtain⟨ia,hia⟩:=YN.1 h.1
     simp[List.mapM_cons,hia,ih h.2,Program.cellsOf]
   exact this _ c4
  simp only[hi,hfs,hz,hp];rw[<- f1]
  simp
 case h_2 =>
  rename_i m e hfs
  obtain⟨ie,hie⟩:=YN.1 c4;have hce:P.cellsOf e=ie.size:=by simp[Program.cellsOf,hie]
  obtain⟨r,f1,f2⟩:=Km (pl:=fun i=>some (i*ie.size,ie.size)) (fun f q hq=>by
   unfold partAt at hq;have ha:jS P t=some (m,e):=by unfold jS;rw[hfs]
   unfold aR at hq;rw[hfs,ha] at hq;simp only[Yh] at hq;rw[<- hq,hce]) ps.toList xs vs (zeroCells P t) z.cells ρ hr hρ z1 c1
  refine⟨.agg r,run_build (P:=P) w t _ r ?_,.mk_agg f2⟩;unfold Program.built;simp only[hi,hfs,hz,hie];rw[<- f1]
  simp
end Go.DL
namespace Go.DL
open Go.RowKit Go.MapKept
variable {P : Program}
theorem wm (e:MapEntry) (l:List MapEntry):(e::l).flatMap (fun e=>[e.key,e.val])=e.key::e.val::l.flatMap fun e=>[e.key,e.val]:=rfl
theorem I5 : ∀ (l:List MapEntry) (j:Nat) (e:MapEntry),l[j]? = some e->(l.flatMap fun e=>[e.key,e.val])[2*j]? = some e.key/\(l.flatMap fun e=>[e.key,e.val])[2*j+1]? = some e.val
 | [],j,e,h=>by simp at h
 | e0::l,j,e,h=>by
  rw[wm]
  cases j with
  | zero=>simp at h;subst h;exact⟨rfl,rfl⟩
  | succ j =>
   have:=I5 l j e (by simpa using h)
   have e1:2*(j+1)=2*j+1+1:=by omega
   rw[e1]
   simpa using this
theorem I4 (f:MapEntry->MapEntry):∀ (l:List MapEntry) (j:Nat) (e:MapEntry),l[j]? = some e->((l.modify j f).flatMap fun e=>[e.key,e.val])=((l.flatMap fun e=>[e.key,e.val]).set (2*j) (f e).key).set (2*j+1) (f e).val
 | [],j,e,h=>by simp at h
 | e0::l,j,e,h=>by
  cases j with
  | zero=>simp at h;subst h;simp
  | succ j =>
   have:=I4 f l j e (by simpa using h)
   have e1:2*(j+1)=2*j+1+1:=by omega
   rw[e1,List.modify_succ_cons,wm,wm,this]
   simp
theorem Cq {t kt e:TypeId}(h:kr P t=some (kt,e)):P.underlying t=some (.map kt e):=by
 unfold kr at h
 split at h
 .
  rename_i k e' hu;simp at h;rw[hu,h.1,h.2]
 cases h
theorem kR {t:TypeId}{d:D}(h:gQ P t d=true):(∃ k n,P.underlying t=some (.int k)/\d = .v (.int k n))\/(∃ b,P.underlying t=some .bool/\d = .v (.bool b)) \/ ∃ s,P.underlying t=some .string/\d = .v (.string s):=by
 unfold gQ at h
 split at h
 .
  rename_i hu;exact .inr (.inr ⟨_,hu,rfl⟩)
 .
  rename_i hu;simp at h;subst h;exact .inl ⟨_,_,hu,rfl⟩
 .
  rename_i hu;exact .inr (.inl ⟨_,hu,rfl⟩)
 cases h
theorem LK {a b:ByteArray}(h:a.data.toList=b.data.toList):a=b:=by
 cases a;cases b
 simp at h
 rw[h]
theorem Kt {t:TypeId}{a b:D}(ha:gQ P t a=true) (hb:gQ P t b=true) (h:iM a b=true):a=b:=by
 rcases kR ha with⟨k,n,u1,rfl⟩|⟨x,u1,rfl⟩|⟨x,u1,rfl⟩<;>rcases kR hb with⟨k',n',u2,rfl⟩|⟨x',u2,rfl⟩|⟨x',u2,rfl⟩<;>rw[u1] at u2<;>simp at u2
 .
  subst u2;simp[iM] at h;rw[h]
 .
  simp[iM] at h;rw[h]
 simp only[iM,YE] at h;rw[LK h]
theorem QU [Glob P] {t:TypeId}{k:Kd}{a b:D}(hk:kindOf P t=some k) (ha:gQ P t a=true) (hb:gQ P t b=true):p9 k a b=true:=by
 rcases kR ha with⟨k1,n,u1,rfl⟩|⟨x,u1,rfl⟩|⟨x,u1,rfl⟩<;>rcases kR hb with⟨k2,n',u2,rfl⟩|⟨x',u2,rfl⟩|⟨x',u2,rfl⟩<;>rw[u1] at u2<;>simp at u2<;>simp[kindOf,u1] at hk<;>subst hk
 .
  subst u2;simp[p9]
 .
  rfl
 rfl
theorem Kq [Glob P]:∀ (fs:List Field) (i:Nat) (ks:List Kd) (xs ys:List D),qK P i fs=some ks->gH P i fs xs=true->gH P i fs ys=true->jQ ks xs ys=true/\(iL xs ys=true->xs=ys):=by
 intro fs
 induction fs with
 | nil =>
  intro i ks xs ys hk hx hy
  cases xs<;>cases ys<;>simp[gH] at hx hy
  simp[qK] at hk
  subst hk;exact⟨rfl,fun _=>rfl⟩
 | cons f fs ih =>
  intro i ks xs ys hk hx hy
  cases xs with
  | nil=>simp[gH] at hx
  | cons x xs =>
  cases ys with
  | nil=>simp[gH] at hy
  | cons y ys =>
  simp only[gH,XW] at hx hy;simp only[qK] at hk
  split at hk
  case isFalse=>cases hk
  split at hk
  case h_2=>cases hk
  rename_i k ks' h1 h2
  simp only[Yh] at hk;subst hk;obtain⟨i1,i2⟩:=ih (i+1) ks' xs ys h2 hx.2 hy.2;refine⟨by simp only[jQ,XW];exact⟨QU h1 hx.1.2 hy.1.2,i1⟩,fun h=>?_⟩
  simp only[iL,XW] at h;rw[Kt hx.1.2 hy.1.2 h.1,i2 h.2]
theorem nZ {t:TypeId}{d:D}(h:gU P t d=true):(∃ fs cs,P.underlying t=some (.struct fs)/\d = .agg cs/\gH P 0 fs.toList cs=true)\/gQ P t d=true:=by
 unfold gU at h
 split at h
 .
  rename_i hu;exact .inl ⟨_,_,hu,rfl,h⟩
 exact .inr h
theorem yL {t:TypeId}{d:D}{fs:Array Field}(hu:P.underlying t=some (.struct fs)):gQ P t d=false:=by
 unfold gQ;rw[hu]
theorem I7 {t:TypeId}[Glob P] {a b:D}(hty:ku P t=true) (ha:gU P t a=true) (hb:gU P t b=true) (h:iI a b=true):a=b:=by
 rcases nZ ha with⟨fs,xs,u1,rfl,p1⟩|p1
 .
  rcases nZ hb with⟨fs',ys,u2,rfl,p2⟩|p2
  .
   rw[u1] at u2
   simp at u2
   subst u2;simp only[ku,u1] at hty;obtain⟨ks,hks⟩:=YN.1 hty;unfold kF at hks;rw[u1] at hks;simp only at hks
   split at hks
   case isFalse=>cases hks
   rw[(Kq fs.toList 0 ks xs ys hks p1 p2).2 h]
  rw[yL u1] at p2;cases p2
 rcases nZ hb with⟨fs',ys,u2,rfl,p2⟩|p2
 .
  rw[yL u2] at p1;cases p1
 refine Kt p1 p2 ?_
 rcases kR p1 with⟨k,n,_,rfl⟩|⟨x,_,rfl⟩|⟨x,_,rfl⟩<;>rcases kR p2 with⟨k',n',_,rfl⟩|⟨x',_,rfl⟩|⟨x',_,rfl⟩<;>exact h
theorem yt {t:TypeId}{w:World}{g:Mem}{d:D}{v:Value}(h:gQ P t d=true) (hr:Rep w g d v):d = .v v:=by
 rcases kR h with⟨k,n,_,rfl⟩|⟨x,_,rfl⟩|⟨x,_,rfl⟩<;>rw[hr.v_inv]
theorem Gb : ∀ {fs:List Field}{i:Nat}{ds:List D}{w w':World}{g g':Mem}{vs us:List Value},gH P i fs ds=true->Reps w g ds vs->Reps w' g' ds us->vs=us
 | fs,i,[],w,w',g,g',vs,us,_,h1,h2=>by rw[h1.of_nil,h2.of_nil]
 | [],i,d::ds,_,_,_,_,_,_,h,_,_=>by simp[gH] at h
 | f::fs,i,d::ds,w,w',g,g',vs,us,h,h1,h2=>by
  obtain⟨x,xs,rfl,a1,a2⟩:=h1.of_cons;obtain⟨y,ys,rfl,b1,b2⟩:=h2.of_cons;simp only[gH,XW] at h;have e1:=yt h.1.2 a1;have e2:=yt h.1.2 b1;rw[e1] at e2
  cases e2
  rw[Gb h.2 a2 b2]
theorem I6 {t:TypeId}{w w':World}{g g':Mem}{d:D}{v u:Value}(h:gU P t d=true) (hv:Rep w g d v) (hu:Rep w' g' d u):v=u:=by
 rcases nZ h with⟨fs,xs,_,rfl,p⟩|p
 .
  cases hv with|agg _ vs n1 r1 =>
  cases hu with|agg _ us n2 r2 =>
  have:=Gb p (vs:=vs.toList) (us:=us.toList) ⟨by simpa using n1,fun i d x h1 h2=>r1 i d x h1 (by simpa using h2)⟩ ⟨by simpa using n2,fun i d x h1 h2=>r2 i d x h1 (by simpa using h2)⟩
  rw[Array.toList_inj.1 this]
 have e1:=yt p hv
 have e2:=yt p hu
 rw[e1] at e2
 cases e2
 rfl
theorem Hd {t:TypeId}{w:World}{g:Mem}{d:D}{v:Value}(h:gQ P t d=true) (hr:Rep w g d v) (n:Nat):Instr.sameBits n v v=true:=by
 rcases kR h with⟨k,m,_,rfl⟩|⟨x,_,rfl⟩|⟨x,_,rfl⟩<;>rw[hr.v_inv]<;>simp[Instr.sameBits,bytes_beq]
theorem Ti {t:TypeId}{w:World}{g:Mem}{d:D}{v:Value}(h:gU P t d=true) (hr:Rep w g d v) (n:Nat):Instr.sameBits (n+1) v v=true:=by
 rcases nZ h with⟨fs,xs,_,rfl,p⟩|p
 .
  cases hr with|agg _ vs n1 r1 =>
  have key : ∀ (fs:List Field) (i:Nat) (ds:List D) (vs:List Value),gH P i fs ds=true->Reps w g ds vs -> ∀ q∈vs.zip vs,Instr.sameBits n q.1 q.2=true:=by
   intro fs
   induction fs with
   | nil=>intro i ds vs h hr q hq;cases ds with
    | nil=>rw[hr.of_nil] at hq;simp at hq
    | cons=>simp[gH] at h
   | cons f fs ih =>
    intro i ds vs h hr q hq
    cases ds with
    | nil=>simp[gH] at h
    | cons d ds =>
    obtain⟨x,xs,rfl,a1,a2⟩:=hr.of_cons;simp only[gH,XW] at h
    rcases YK.1 hq with rfl|hq
    .
     exact Hd h.1.2 a1 n
    exact ih (i+1) ds xs h.2 a2 q hq
  have:=key fs.toList 0 xs vs.toList p ⟨by simpa using n1,fun i d x h1 h2=>r1 i d x h1 (by simpa using h2)⟩
  simp only[Instr.sameBits,beq_self_eq_true,Zu,YQ];exact fun q hq=>this q hq
 exact Hd p hr _
theorem LD {t:TypeId}{w:World}{g:Mem}{d:D}{v:Value}(h:gQ P t d=true) (hr:Rep w g d v) (em:Bool) (n:Nat):(Instr.checkKey em (n+1) t v).run P w = .ok () w:=by
 rcases kR h with⟨k,m,u,rfl⟩|⟨x,u,rfl⟩|⟨x,u,rfl⟩<;>rw[hr.v_inv]<;>simp[Instr.checkKey,run_underlying u]
theorem Q8 {t:TypeId}{w:World}{d:D}(h:gQ P t d=true) {vs:Array Value}{v:Value}{i:Nat}(hv:vs[i]? = some v):(part t vs i).run P w = .ok v w:=by
 have hu : ∃ q,P.underlying t=some q/\(q = .bool\/q = .string \/ ∃ k,q = .int k):=by
  rcases kR h with⟨k,m,u,rfl⟩|⟨x,u,rfl⟩|⟨x,u,rfl⟩
  .
   exact⟨_,u,.inr (.inr ⟨_,rfl⟩)⟩
  .
   exact⟨_,u,.inl rfl⟩
  exact⟨_,u,.inr (.inl rfl)⟩
 obtain⟨q,u,hq⟩:=hu
 have hagg:(isAgg t).run P w = .ok false w:=by
  unfold isAgg;rw[Sem.run_bind,run_underlying u w]
  rcases hq with rfl|rfl|⟨k,rfl⟩<;>simp
 have hlt:=(Yk.1 hv).1
 have e:=(Yk.1 hv).2
 unfold part
 simp[hagg,hlt,e]
theorem LF {t:TypeId}{w:World}{g:Mem}{d:D}{v:Value}(h:gU P t d=true) (hr:Rep w g d v) (em:Bool) (n:Nat):(Instr.checkKey em (n+2) t v).run P w = .ok () w:=by
 rcases nZ h with⟨fs,xs,u,rfl,p⟩|p
 .
  cases hr with|agg _ vs n1 r1 =>
  rw[Instr.checkKey];simp only[Sem.run_bind,run_underlying u,Result.andThen_ok];rw[<- Array.forIn_toList];have key : ∀ (L:List Field) (i:Nat) (ds:List D),gH P i L ds=true->(∀ (j:Nat) d,ds[j]? = some d -> ∃ v,vs[i+j]? = some v/\Rep w g d v) ->
    (forIn L PUnit.unit fun f _=>do
     if f.name ≠ "_" then
      let q <- part f.type vs f.offset
      Instr.checkKey em (n+1) f.type q
      pure (ForInStep.yield PUnit.unit)
     else pure (ForInStep.yield PUnit.unit):Sem PUnit).run P w = .ok PUnit.unit w:=by
   intro L
   induction L with
   | nil=>intro i ds _ _;simp
   | cons f L ih =>
    intro i ds h hd
    cases ds with
    | nil=>simp[gH] at h
    | cons d ds =>
    simp only[gH,XW,ZL,YE] at h;obtain⟨⟨⟨h1,h2⟩,h3⟩,h4⟩:=h;obtain⟨v,hv,hr⟩:=hd 0 d rfl;have p1:=Q8 (w:=w) h3 (by simpa using hv)
    have p2:=LD h3 hr em n;rw[<- h2] at p1;simp only[List.forIn_cons,Sem.run_bind,h1,ne_eq,not_false_eq_true,ZK,Result.andThen_ok,p1,p2,Sem.run_pure];exact ih (i+1) ds h4 fun j d hj=>by
     obtain⟨v,hv⟩:=hd (j+1) d (by simpa using hj)
     exact⟨v,by rw[Nat.add_assoc,Nat.add_comm 1 j];exact hv.1,hv.2⟩
  have:=key fs.toList 0 xs p fun j d hj=>by
   have hlt:j<xs.length:=(Ya.1 hj).1;have hlt':j<vs.size:=by omega
   exact⟨vs[j],by simp[hlt'],r1 j d _ hj (by simp[hlt'])⟩
  simp at this ⊢
  rw[this];rfl
 exact LD p hr em _
theorem U3 [Glob P] {t:TypeId}{w:World}{g:Mem}{a b:D}{va vb:Value}(hty:ku P t=true) (ha:gU P t a=true) (hb:gU P t b=true) (ra:Rep w g a va) (rb:Rep w g b vb) (hst : ∃ fs,P.underlying t=some (.struct fs)):(Op.equal t va vb).run P w = .ok (iI a b) w:=by
 obtain⟨fs,u⟩:=hst
 rcases nZ ha with⟨fs1,xs,u1,rfl,p1⟩|p1
 .
  rcases nZ hb with⟨fs2,ys,u2,rfl,p2⟩|p2
  .
   rw[u1] at u2
   simp at u2
   subst u2;simp only[ku,u1] at hty;obtain⟨ks,hks⟩:=YN.1 hty;have hks0:=hks;unfold kF at hks;rw[u1] at hks;simp only at hks
   split at hks
   case isFalse=>cases hks
   rename_i hc
   simp only[XW,Ye] at hc;have hp:=(Kq fs1.toList 0 ks xs ys hks p1 p2).1
   cases ra with|agg _ vs hn hv =>
   cases rb with|agg _ us hm hu =>
   have hF:P.fieldsOf t=fs1:=by simp[Program.fieldsOf,u1]
   have h1:=run_equalIn_agg (P:=P) w 9999 t vs us (by rw[hF];exact u1) hc.1
   have h2:=Kr (P:=P) fs1.toList 0 ks vs.toList us.toList xs ys w g 9998 hks (by simpa using hp) ⟨by simpa using hn,fun i d x h1 h2=>hv i d x h1 (by simpa using h2)⟩ ⟨by simpa using hm,fun i d x h1 h2=>hu i d x h1 (by simpa using h2)⟩
   rw[hF] at h1;simp only[Array.toArray_toList,X7] at h2;exact h1.trans h2
  rw[yL u] at p2;cases p2
 rw[yL u] at p1;cases p1
theorem Pf {t:TypeId}{w:World}{g:Mem}{a b:D}{va vb:Value}{q:TypeDesc}(hu:P.underlying t=some q) (ha:gQ P t a=true) (hb:gQ P t b=true) (ra:Rep w g a va) (rb:Rep w g b vb):Instr.sameNow q va vb=some (iI a b):=by
 rcases kR ha with⟨k,n,u1,rfl⟩|⟨x,u1,rfl⟩|⟨x,u1,rfl⟩<;>rcases kR hb with⟨k',n',u2,rfl⟩|⟨x',u2,rfl⟩|⟨x',u2,rfl⟩<;>rw[u1] at u2 hu<;>simp at u2 hu<;>rw[ra.v_inv,rb.v_inv]<;>subst hu
 .
  subst u2;simp[Instr.sameNow,iI,iM]
 .
  simp[Instr.sameNow,iI,iM]
 simp only[Instr.sameNow,iI,iM,Yh]
 rw[Za,bytes_beq,YE]
 exact⟨fun h=>by rw[h],LK⟩
def Found (kv:List D) (l:List MapEntry) (q:D) (i0:Nat) (vq:Value) (r:Option (Nat×Value)):Prop :=
 (r=none/\gz kv q=none /\ ∀ x,fE kv q x=kv++[q,x]) \/
 ∃ j e d,r=some (i0+j,e.val)/\l[j]? = some e/\gz kv q=some d/\kv[2*j+1]? = some d/\e.key=vq /\ ∀ x,fE kv q x=(kv.set (2*j) q).set (2*j+1) x
theorem J8 {k d q:D}{kv:List D}{e:MapEntry}{l:List MapEntry}{i0:Nat}{vq:Value}{r:Option (Nat×Value)}(hne:iI q k=false) (h:Found kv l q (i0+1) vq r):Found (k::d::kv) (e::l) q i0 vq r:=by
 rcases h with⟨h1,h2,h3⟩|⟨j,e',d',h1,h2,h3,h4,h5,h6⟩
 .
  exact .inl ⟨h1,by simp[gz,hne,h2],fun x=>by simp[fE,hne,h3]⟩
 refine .inr ⟨j+1,e',d',by rw[h1];congr 2;omega,by simpa using h2,by simp[gz,hne,h3],?_,h5,fun x=>?_⟩
 .
  have:2*(j+1)+1=(2*j+1)+2:=by omega
  rw[this];simpa using h4
 have e1:2*(j+1)=2*j+1+1:=by omega
 simp only[fE,hne,h6,e1,YL]
 simp
theorem J7 {k d q:D}{kv:List D}{e:MapEntry}{l:List MapEntry}{i0:Nat}{vq:Value}(he:iI q k=true) (hk:e.key=vq):Found (k::d::kv) (e::l) q i0 vq (some (i0,e.val)) :=
 .inr ⟨0,e,d,rfl,rfl,by simp[gz,he],rfl,hk,fun x=>by simp[fE,he]⟩
theorem Kk [Glob P] {t:TypeId}{w:World}{g:Mem}{q:D}{vq:Value}{q0:TypeDesc}(hu:P.underlying t=some q0) (hty:ku P t=true) (hq:gU P t q=true) (rq:Rep w g q vq) {kv:List D}{es:Array MapEntry}(hr:Reps w g kv (jl es)) (hks:gB P t kv=true) :
  ∃ r,(Instr.findKey t vq es.toList).run P w = .ok r w/\Found kv es.toList q 0 vq r:=by
 unfold jl at hr
 by_cases hst : ∃ fs,P.underlying t=some (.struct fs)
 .
  rw[run_findKey_eq w (by obtain⟨fs,h⟩:=hst;rw[h])]
  have key : ∀ (l:List MapEntry) (kv:List D) (i0:Nat),Reps w g kv (l.flatMap fun e=>[e.key,e.val])->gB P t kv=true -> ∃ r,(Instr.findAsking t vq l i0).run P w = .ok r w/\Found kv l q i0 vq r:=by
   intro l
   induction l with
   | nil =>
    intro kv i0 hr hks;have:kv=[]:=X5 (by simpa using hr.1)
    subst this;exact⟨none,by simp[Instr.findAsking],.inl ⟨rfl,rfl,fun x=>rfl⟩⟩
   | cons e l ih =>
    intro kv i0 hr hks;rw[wm] at hr
    match kv,hr,hks with
    | [],hr,_=>exact absurd hr.1 (by simp)
    | [_],hr,_=>exact absurd hr.1 (by simp)
    | k::d::kv,hr,hks =>
     simp only[gB,XW] at hks;have he:=U3 hty hq hks.1 rq hr.head hst
     cases hc:iI q k with
     | true =>
      rw[hc] at he;have hqk:=I7 hty hq hks.1 hc;subst hqk;exact⟨some (i0,e.val),by simp[Instr.findAsking,he],J7 hc (I6 hq hr.head rq)⟩
     | false =>
      rw[hc] at he;obtain⟨r,h1,h2⟩:=ih kv (i0+1) hr.tail.tail hks.2;exact⟨r,by simp[Instr.findAsking,he,h1],J8 hc h2⟩
  exact key es.toList kv 0 hr hks
 have hp : ∀ {d:D},gU P t d=true->gQ P t d=true:=by
  intro d hd
  rcases nZ hd with⟨fs,_,u,_⟩|h
  .
   exact absurd ⟨fs,u⟩ hst
  exact h
 have key : ∀ (l:List MapEntry) (kv:List D) (i0:Nat),Reps w g kv (l.flatMap fun e=>[e.key,e.val])->gB P t kv=true -> ∃ r,Instr.findNow q0 vq l i0=some r/\Found kv l q i0 vq r:=by
  intro l
  induction l with
  | nil =>
   intro kv i0 hr hks;have:kv=[]:=X5 (by simpa using hr.1)
   subst this;exact⟨none,by simp[Instr.findNow],.inl ⟨rfl,rfl,fun x=>rfl⟩⟩
  | cons e l ih =>
   intro kv i0 hr hks;rw[wm] at hr
   match kv,hr,hks with
   | [],hr,_=>exact absurd hr.1 (by simp)
   | [_],hr,_=>exact absurd hr.1 (by simp)
   | k::d::kv,hr,hks =>
    simp only[gB,XW] at hks;have he:=Pf hu (hp hq) (hp hks.1) rq hr.head
    cases hc:iI q k with
    | true =>
     rw[hc] at he;have hqk:=I7 hty hq hks.1 hc;subst hqk;exact⟨some (i0,e.val),by simp[Instr.findNow,he],J7 hc (I6 hq hr.head rq)⟩
    | false =>
     rw[hc] at he;obtain⟨r,h1,h2⟩:=ih kv (i0+1) hr.tail.tail hks.2;exact⟨r,by simp[Instr.findNow,he,h1],J8 hc h2⟩
 obtain⟨r,h1,h2⟩:=key es.toList kv 0 hr hks
 exact⟨r,run_findKey hu h1,h2⟩
theorem Tg {bl:Blk}{kv:List D}(h:jm bl=some kv):bl.rows=eX kv:=by
 unfold jm at h
 split at h
 .
  rename_i e;cases h;exact e
 cases h
theorem Co [Glob P] {h:H}{g:Mem}{w:World}(hm:HM P h g w) {r:Nat}{v:Value}(hv:Rep w g (.mp r) v) {bl:Blk}(hr:h r=some bl) {kv:List D}(hk:jm bl=some kv) :
  ∃ b es clk,v = .map (some b)/\w.heap[b]? = some (.map es clk)/\Reps w g kv (jl es)/\g.M r=some (some b,maxLen+1,P.cellsOf bl.ty) /\ ¬ g.I b/\P.cellsOf bl.ty=1:=by
 obtain⟨blk,c,h1,h2,h3,h4,h5⟩:=hm.blk r bl hr
 cases hv with|mp _ _ hx hU hv =>
 obtain⟨hc,b,rfl,rfl⟩:=hv _ _ _ h1
 rcases h5 with⟨h5,_⟩|⟨b',cur,h5,k1,k2,k3,k4⟩
 .
  cases h5
 cases h5
 obtain⟨es,clk,e1,rfl⟩:=k1.map hc
 rw[Holds,Tg hk] at k4
 obtain⟨q0,q⟩:=k4 0 _ rfl
 refine⟨b,es,clk,rfl,e1,?_,hc ▸ h1,k3,q0.symm⟩
 obtain⟨u,u1,_,u3⟩:=q 0 _ rfl
 simp at u1
 subst u1
 cases u3 with|iface _ _ _ u3 =>
 obtain⟨vs,e2,e3⟩:=u3.tuple_inv
 simp at e2
 rw[<- e2] at e3
 simpa using e3
theorem Sl {g:Mem}{w:World}{kv:List D}{v:Value}(hv:Rep w g (.fmap kv) v):∃ b es clk,v = .map (some b)/\w.heap[b]? = some (.map es clk)/\Reps w g kv (jl es):=by
 cases hv with|fmap _ b es clk hI hb hn hr=>exact⟨b,es,clk,rfl,hb,hn,hr⟩
theorem Sr [Glob P] {h:H}{g:Mem}{w:World}(hm:HM P h g w) {t:TypeId}{ok:Bool}{m k:D}{vm vk:Value}(rm:Rep w g m vm) (rk:Rep w g k vk) (hc:(jM P t ok m k h).2) :
  ∃ v,(Instr.lookup t vm vk ok).run P w = .ok v w/\Rep w g (jM P t ok m k h).1 v:=by
 unfold jM at hc ⊢
 split at hc
 case h_2=>exact hc.elim
 rename_i kt e kv ht hk
 obtain⟨c1,c2,c3,c4⟩:=hc
 have hu:=Cq ht
 have lies : ∃ b es clk,vm = .map (some b)/\w.heap[b]? = some (.map es clk)/\Reps w g kv (jl es):=by
  unfold nY at hk
  split at hk
  .
   rename_i r
   cases hr:h r with
   | none=>rw[hr] at hk;cases hk
   | some bl =>
    rw[hr] at hk;obtain⟨b,es,clk,q1,q2,q3,_⟩:=Co hm rm hr hk;exact⟨b,es,clk,q1,q2,q3⟩
  .
   cases hk
   exact Sl rm
  cases hk
 obtain⟨b,es,clk,rfl,hb,hr⟩:=lies
 have hkt : ∃ q0,P.underlying kt=some q0:=by
  unfold ku at c3
  cases hq:P.underlying kt with
  | none=>rw[hq] at c3;cases c3
  | some q=>exact⟨q,rfl⟩
 obtain⟨q0,hkt⟩:=hkt
 obtain⟨r,h1,h2⟩:=Kk hkt c3 c1 rk hr c2
 have hck:=LF c1 rk es.isEmpty 9998 (w:=w)
 obtain⟨z,hz⟩:=YN.1 c4
 rcases h2 with⟨rfl,g1,_⟩|⟨j,e',d,rfl,g0,g1,g2,_,_⟩
 .
  have hzr:(zeroValue e).run P w = .ok z w:=by
   cases hi:P.info? e with
   | none=>rw[hi] at hz;cases hz
   | some i =>
    rw[hi] at hz
    simp at hz
    simp[zeroValue,typeInfo,hi,hz]
  have hzd:pF P e=ic z:=by unfold pF;rw[hz]
  refine⟨if ok then .tuple #[z,.bool false] else z,?_,?_⟩
  .
   cases ok<;>simp[Instr.lookup,run_underlying hu,MapKept.run_getObj_map hb,hck,h1,hzr]
  rw[g1,hzd]
  cases ok with
  | false=>exact yT w g z
  | true=>exact .mk_tuple (.cons (yT w g z) (.cons (.v _) .nil))
 have hev:Rep w g d e'.val:=by
  refine hr.2 (2*j+1) d e'.val g2 ?_;unfold jl;exact I5 es.toList j e' g0 |>.2
 refine⟨if ok then .tuple #[e'.val,.bool true] else e'.val,?_,?_⟩
 .
  cases ok<;>simp[Instr.lookup,run_underlying hu,MapKept.run_getObj_map hb,hck,h1]
 rw[g1]
 cases ok with
 | false=>exact hev
 | true=>exact .mk_tuple (.cons hev (.cons (.v _) .nil))
theorem EL [Glob P] {h:H}{g:Mem}{w:World}(hm:HM P h g w) {t:TypeId}{m k x:D}{vm vk vx:Value}(rm:Rep w g m vm) (rk:Rep w g k vk) (rx:Rep w g x vx) (hc:(ma P t m k x h).2) :
  ∃ g' w',(Instr.mapUpdate t vm vk vx).run P w = .ok () w'/\HM P (ma P t m k x h).1 g' w'/\Mono g g' w w' /\ ∀ r,g'.U r->g.U r:=by
 unfold ma at hc ⊢
 split at hc
 case h_2=>exact hc.elim
 rename_i kt e r ht
 cases hr:h r with
 | none=>rw[hr] at hc;exact hc.elim
 | some bl =>
 rw[hr] at hc
 simp only at hc ⊢
 cases hk:jm bl with
 | none=>rw[hk] at hc;exact hc.elim
 | some kv =>
 rw[hk] at hc
 simp only at hc ⊢
 obtain⟨c1,c2,c3⟩:=hc
 have hu:=Cq ht
 have hU:g.U r:=by cases rm with|mp _ _ _ hU _=>exact hU
 obtain⟨b,es,clk,rfl,hb,hrep,hM,hnI,hsz⟩:=Co hm rm hr hk
 have hkt : ∃ q0,P.underlying kt=some q0:=by
  unfold ku at c3
  cases hq:P.underlying kt with
  | none=>rw[hq] at c3;cases c3
  | some q=>exact⟨q,rfl⟩
 obtain⟨q0,hkt⟩:=hkt
 obtain⟨f,h1,h2⟩:=Kk hkt c3 c1 rk hrep c2
 have hck:=LF c1 rk false 9998 (w:=w)
 have fin : ∀ (es':Array MapEntry) (clk':Nat),Reps w g (fE kv k x) (jl es') -> ∃ g',HM P (upd h r (some ⟨bl.ty,eX (fE kv k x)⟩)) g' { w with heap:=w.heap.setIfInBounds b (.map es' clk') }/\Mono g g' w { w with heap:=w.heap.setIfInBounds b (.map es' clk') } /\ ∀ r,g'.U r->g.U r:=by
  intro es' clk' hreps;have hh:=heap_set (o':=.map es' clk') hb;obtain⟨g',q1,q2,q3,q4,q5⟩:=hm.putB (h':=upd h r (some ⟨bl.ty,eX (fE kv k x)⟩)) (w':={ w with heap:=w.heap.setIfInBounds b (.map es' clk') }) r b (maxLen+1) ⟨bl.ty,eX (fE kv k x)⟩ #[.iface 0 (.tuple (jl es').toArray)]
   (.inr hM) (upd_same _ _ _) (fun r' hr'=>.inl (upd_ne _ _ _ _ hr')) (.inr ⟨r,_,_,hM,.inl rfl⟩) (.inr ⟨rfl,es',clk',hh.1,rfl⟩) (fun h=>by omega) (by rw[hsz];omega) (by simp[eX]) (XY _)
   (by
    intro i row hi
    cases i with
    | succ i=>simp[eX] at hi
    | zero =>
     simp only[eX,List.getElem?_cons_zero,Yh] at hi;subst hi;refine⟨hsz.symm,fun j d hd=>?_⟩
     cases j with
     | succ j=>simp at hd
     | zero =>
      simp only[List.getElem?_cons_zero,Yh] at hd;subst hd;exact⟨.iface 0 (.tuple (jl es').toArray),by simp,by simp[Value.oneCell',Value.cells],.iface 0 _ _ (.mk_tuple (by simpa using hreps))⟩)
   ⟨rfl,rfl,rfl,by simp,fun k' _ hk'=>hh.2 k' (fun e=>hk' (by rw[e]))⟩
  refine⟨g',q4,q5,fun r' hr'=>?_⟩
  rcases (q2 r').1 hr' with h|h
  .
   exact h
  exact h ▸ hU
 rcases h2 with⟨rfl,g1,g2⟩|⟨j,e',d,rfl,g0,g1,g2,g3,g4⟩
 .
  obtain⟨g',f1,f2,f3⟩:=fin (es.push { key:=vk,val:=vx,born:=clk }) (clk+1) (by
   rw[g2];unfold jl;rw[Array.toList_push,List.flatMap_append];exact hrep.append (.cons rk (.cons rx .nil)))
  refine⟨g',_,?_,f1,f2,f3⟩
  simp[Instr.mapUpdate,run_underlying hu,MapKept.run_getObj_map hb,hck,h1,run_setObj_map _ hb]
 obtain⟨g',f1,f2,f3⟩:=fin (es.modify j fun e=>{ e with key:=vk,val:=vx }) clk (by
  rw[g4];unfold jl;rw[Array.toList_modify,I4 _ _ _ _ g0];refine⟨by rw[Z5,Z5,Z5,Z5];exact hrep.1,fun i d' y h3 h4=>?_⟩
  by_cases e1:i=2*j+1
  .
   subst e1;rw[ZY (by have:=(Ya.1 h3).1;simpa using this)] at h3
   rw[ZY (by have:=(Ya.1 h4).1;simpa using this)] at h4
   cases h3;cases h4;exact rx
  rw[List.getElem?_set_ne (Ne.symm e1)] at h3 h4
  by_cases e2:i=2*j
  .
   subst e2;rw[ZY (by have:=(Ya.1 h3).1;simpa using this)] at h3
   rw[ZY (by have:=(Ya.1 h4).1;simpa using this)] at h4
   cases h3;cases h4;exact rk
  rw[List.getElem?_set_ne (Ne.symm e2)] at h3 h4;exact hrep.2 i d' y h3 h4)
 refine⟨g',_,?_,f1,f2,f3⟩
 have hj:es[j]? = some e':=by simpa using g0
 have hst:(Instr.keyThatStays vk vk).run P w = .ok vk w:=by simp[Instr.keyThatStays,Ti c1 rk 9999]
 simp[Instr.mapUpdate,run_underlying hu,MapKept.run_getObj_map hb,hck,h1,hj,g3,hst,run_setObj_map _ hb]
theorem IJ {z:Array Value}{n i j:Nat}(hi:i<n) (hj:j<z.size):(madeCells z (n*z.size))[i*z.size+j]? = some z[j]:=by
 unfold madeCells
 have hlt:i*z.size+j<n*z.size:=by
  have:(i+1)*z.size<=n*z.size:=Y3 _ hi;rw[Zo,Nat.one_mul] at this;omega
 have e:(i*z.size+j) % z.size=j:=by rw[ZE,Z0,Zw hj]
 simp[hlt,e,hj]
theorem R6 [Glob P] {h:H}{g:Mem}{w:World}(hm:HM P h g w) {b:Nat}(hb : ¬ g.U b) {t:TypeId}{x y:D}{vx vy:Value}(rx:Rep w g x vx) (ry:Rep w g y vy) (hc:(jh P t h b x y).2.2) :
  ∃ v g' w',(Instr.makeSlice t vx vy).run P w = .ok v w'/\Rep w' g' (jh P t h b x y).1 v/\HM P (jh P t h b x y).2.1 g' w'/\Mono g g' w w' /\ ∀ r,g'.U r->g.U r\/r=b:=by
 unfold jh at hc ⊢
 split at hc
 case h_2=>exact hc.elim
 rename_i k n k' m
 cases he:bf P t with
 | none=>rw[he] at hc;exact hc.elim
 | some e =>
 rw[he] at hc
 simp only at hc ⊢
 obtain⟨rfl,c1,c2,c3,c4,c5,c6,c7⟩:=hc
 have ht:=nk he
 obtain⟨i,hi,hs⟩:=si c7
 obtain⟨i',z,hi',hz⟩:=xq (P:=P) (t:=e) om
 rw[hi] at hi'
 cases hi'
 obtain⟨z1,z2,z3⟩:=uU hi hz w g c6
 have hby:(i.bytes:Int)*n<=281474976710656:=by
  have:P.bytesOf e=i.bytes:=by simp[Program.bytesOf,hi]
  rw[<- this];exact c2
 have hrun:=run_make (P:=P) w t e i z ht hi hz k k' n n c1 (Int.le_refl _) hby c3
 rw[rx.v_inv,ry.v_inv]
 have hzs:z.cells.size=P.cellsOf e:=by omega
 rw[hs,<- hzs] at hrun
 obtain⟨g',h2,h3,h4,h5,h6⟩:=hm.put (h':=upd h b (some ⟨e,List.replicate n.toNat (zeroCells P e)⟩)) (w':=w.alloc (.cells (madeCells z.cells (n.toNat*z.cells.size)) e)) b w.heap.size n.toNat ⟨e,List.replicate n.toNat (zeroCells P e)⟩ (madeCells z.cells (n.toNat*z.cells.size)) (.inl hb) (upd_same _ _ _)
  (fun r hr=>.inl (upd_ne _ _ _ _ hr)) (.inl (XY _)) (heap_alloc_new w _) (by rw[size_madeCells,hzs]) c7 (by simp) (by simp only[maxLen];omega)
  (by
   intro p row hp;have hpl:p<n.toNat:=by have:=(Ya.1 hp).1;simpa using this
   rw[List.getElem?_replicate,X6 hpl] at hp
   cases hp
   refine⟨c5,fun j d hj=>?_⟩
   have hjl:j<z.cells.size:=by have:=(Ya.1 hj).1;omega
   refine⟨z.cells[j],?_,z2 _ (by simp),z1.2 j d _ hj (by simp[hjl])⟩
   show (madeCells z.cells (n.toNat*z.cells.size))[p*P.cellsOf e+j]? = _
   rw[<- hzs];exact IJ hpl hjl)
  (World.grownBy_alloc w _ _)
 refine⟨_,g',_,hrun,?_,h5,h6,fun r hr=>(h3 r).1 hr⟩
 refine .mrow b 0 n.toNat _ ⟨_,_,rfl,XY _,fun _=>⟨_,rfl⟩⟩ ((h3 b).2 (.inr rfl)) fun blk c sz he=>?_
 rw[h2] at he
 simp only[Yh,YI] at he
 obtain⟨rfl,rfl,rfl⟩:=he
 refine⟨⟨om,by simp only[maxLen];omega⟩,?_⟩
 by_cases hz0:n.toNat=0
 .
  rw[hz0];exact .inl ⟨rfl,_,rfl⟩
 exact .inr ⟨hz0,w.heap.size,rfl,by simp⟩
theorem Sq [Glob P] {h:H}{g:Mem}{w:World}(hm:HM P h g w) {b:Nat}(hb : ¬ g.U b) {t:TypeId}{xs:List D}{ro:Option Operand}{ρ:Operand->Value}(hr:Reps w g xs (ro.toList.map ρ)) (hc:(rU P t xs h b).2.2) :
  ∃ v g' w',(Instr.makeMap t (ro.map ρ)).run P w = .ok v w'/\Rep w' g' (rU P t xs h b).1 v/\HM P (rU P t xs h b).2.1 g' w'/\Mono g g' w w' /\ ∀ r,g'.U r->g.U r\/r=b:=by
 unfold rU at hc ⊢
 obtain⟨c1,c2,c3⟩:=hc
 obtain⟨⟨kt,e⟩,ht⟩:=YN.1 c1
 have hu:=Cq ht
 obtain⟨g',q1,q2,q3,q4,q5⟩:=hm.putB (h':=upd h b (some ⟨t,eX []⟩)) (w':=w.alloc (.map #[] 0)) b w.heap.size (maxLen+1) ⟨t,eX []⟩ #[.iface 0 (.tuple #[])]
  (.inl hb) (upd_same _ _ _) (fun r hr=>.inl (upd_ne _ _ _ _ hr)) (.inl (XY _)) (.inr ⟨rfl,#[],0,(heap_alloc w _).1,rfl⟩) (fun h=>by omega) (by show 0<P.cellsOf t;omega) (by simp[eX]) (XY _)
  (by
   intro i row hi
   cases i with
   | succ i=>simp[eX] at hi
   | zero =>
    simp only[eX,List.getElem?_cons_zero,Yh] at hi;subst hi;refine⟨c2.symm,fun j d hd=>?_⟩
    cases j with
    | succ j=>simp at hd
    | zero =>
     simp only[List.getElem?_cons_zero,Yh] at hd;subst hd;exact⟨.iface 0 (.tuple #[]),by simp,by simp[Value.oneCell',Value.cells],.iface 0 _ _ (.mk_tuple (vs:=#[]) .nil)⟩)
  (World.grownBy_alloc w _ _)
 refine⟨.map (some w.heap.size),g',w.alloc (.map #[] 0),?_,?_,q4,q5,fun r hr=>(q2 r).1 hr⟩
 .
  cases ro with
  | none=>simp[Instr.makeMap]
  | some o =>
   simp only[Option.toList_some,Yb,Yt] at hr
   match xs,hr,c3 with
   | [],hr,_=>exact absurd hr.1 (by simp)
   | [.v (.int k n)],hr,_ =>
    rw[YR,hr.head.v_inv]
    simp[Instr.makeMap,run_underlying hu,asInt,asIntOf]
 refine .mp b _ ⟨_,rfl⟩ ((q2 b).2 (.inr rfl)) fun blk c sz he=>?_
 rw[q1] at he
 simp only[Yh,YI] at he
 exact⟨he.2.1.symm,_,he.1.symm,rfl⟩
end Go.DL
namespace Go.DL
open Go.RowKit
variable {P : Program} {W : Words} {C : Con}
def rZ:Op->Bool
 | .call { callee:=.value _,.. }=>true
 | _=>false
theorem BU {w:World}{g:Mem}{xs:List D}{ρ:Operand->Value}{l:Option Operand}{rest:List Operand}(h:Reps w g xs ((l.toList++rest).map ρ)) :
  uR w g (fM l xs).1 (l.map ρ)/\Reps w g (fM l xs).2 (rest.map ρ):=by
 cases l with
 | none=>exact⟨trivial,by simpa [fM] using h⟩
 | some x =>
  simp only[Option.toList_some,List.singleton_append,Yb] at h
  cases xs with
  | nil=>exact absurd h.1 (by simp)
  | cons d ds=>exact⟨h.head,h.tail⟩
theorem U7 [Glob P] {h:H}{g:Mem}{w:World}(hm:HM P h g w) {b:Nat}(hb : ¬ g.U b) {xs:List D}{o:Oper}{ρ:Operand->Value}(hr:Reps w g xs ((aQ o.op).map ρ)) (hcall:rZ o.op=false) (hc:(aN P W C o.op xs h b).2.2) :
  Does P g w b ((execOp ρ o).run P w) (aN P W C o.op xs h b).1 (aN P W C o.op xs h b).2.1:=by
 obtain⟨dst,op,ty,pos,after,guard⟩:=o
 simp only at hr hcall hc ⊢
 unfold aN at hc ⊢
 split at hc
 .
  obtain⟨v,l,e,h1,h2⟩:=hr.of_cons;simp only[aQ,Yb,Yt,YP] at e;obtain⟨rfl,_⟩:=e;exact Does.still (s:=pure _) hm (by simp) h1
 .
  obtain⟨v,l,e,h1,h2⟩:=hr.of_cons;simp only[aQ,Yb,Yt,YP] at e;obtain⟨rfl,_⟩:=e;exact Does.still (s:=pure _) hm (by simp) h1
 .
  rename_i e
  obtain⟨c1,c2,c3⟩:=hc;obtain⟨i,z,hi,hz⟩:=xq (P:=P) (t:=e) om;obtain⟨z1,z2,z3⟩:=uU hi hz w g c2;obtain⟨g',k1,k2,k3,k4⟩:=Iu hm hb (e:=e) z1 z2 c1 om;refine⟨_,g',_,.inl ?_,k1,k2,k3,k4⟩
  simp[execOp,Instr.alloc,zeroValue,typeInfo,hi,hz,newVar,newRow]
 .
  rename_i e x d
  obtain⟨v,l,e1,h1,h2⟩:=hr.of_cons;simp only[aQ,Yb,Yt,YP] at e1;obtain⟨rfl,_⟩:=e1;obtain⟨c1,c2,c3⟩:=hc;obtain⟨z1,z2,z3⟩:=h1.cells c2;obtain⟨g',k1,k2,k3,k4⟩:=Iu hm hb (e:=e) z1 z2 c1 c3;refine⟨_,g',_,.inl ?_,k1,k2,k3,k4⟩
  simp[execOp,Instr.box,newVar,newRow]
 .
  rename_i t ps
  obtain⟨v,h1,h2⟩:=WH (P:=P) (ps:=ps) hr hc ρ (by simp[aQ])
  exact Does.still hm h1 h2
 .
  rename_i t n ps
  cases hbs:C.bs with
  | false =>
   simp only[hbs,Ym,Y9] at hc ⊢;obtain⟨v,g',w',h1,h2,h3,h4,h5⟩:=WI (P:=P) hm (ps:=ps) hr hc ρ (by simp[aQ])
   exact⟨v,g',w',.inl (by simp[execOp,h1]),h2,h3,h4,fun r hr=>.inl (h5 r hr)⟩
  | true =>
   simp only[hbs,ZK] at hc ⊢;obtain⟨v,g',w',h1,h2,h3,h4,h5⟩:=WJ (P:=P) hm hb (ps:=ps) hr hc ρ (by simp[aQ])
   exact⟨v,g',w',.inl (by simp[execOp,h1]),h2,h3,h4,h5⟩
 .
  obtain⟨v,l,e1,h1,h2⟩:=hr.of_cons;simp only[aQ,Yb,Yt,YP] at e1;obtain⟨rfl,_⟩:=e1;obtain⟨v,k1,k2⟩:=Su hm h1 hc;exact Does.still hm k1 k2
 .
  obtain⟨v,l,e1,h1,h2⟩:=hr.of_cons;simp only[aQ,Yb,Yt,YP] at e1;obtain⟨rfl,rfl⟩:=e1;obtain⟨g',w',k1,k2,k3,k4⟩:=EX hm h1 h2.head hc;exact⟨undef,g',w',.inr ⟨by simp[execOp,k1],rfl⟩,.v _,k2,k3,fun r hr=>.inl (k4 r hr)⟩
 .
  obtain⟨v,l,e1,h1,h2⟩:=hr.of_cons;simp only[aQ,Yb,Yt,YP] at e1;obtain⟨e1,_⟩:=e1;obtain⟨p,e2,_⟩:=BL h1 hc 0;refine⟨v,g,w,.inl ?_,h1,hm,Mono.refl _ _,fun _ h=>.inl h⟩
  simp[execOp,e1,e2]
 .
  obtain⟨v,l,e1,h1,h2⟩:=hr.of_cons;simp only[aQ,Yb,Yt,YP] at e1;obtain⟨rfl,rfl⟩:=e1;obtain⟨v,k1,k2⟩:=WY h1 h2.head hc _ _;exact Does.still hm k1 k2
 .
  obtain⟨v,l,e1,h1,h2⟩:=hr.of_cons;simp only[aQ,Yb,Yt,YP] at e1;obtain⟨rfl,_⟩:=e1;obtain⟨v,k1,k2⟩:=M7 h1 hc;exact Does.still hm k1 k2
 .
  obtain⟨v,l,e1,h1,h2⟩:=hr.of_cons;simp only[aQ,Yb,Yt,YP] at e1;obtain⟨rfl,_⟩:=e1;obtain⟨v,k1,k2⟩:=Wi h1 hc;exact Does.still hm k1 k2
 .
  rename_i f first captured
  simp only[aQ,YM] at hr;have q1:=hr.take first.size
  have q2:=hr.drop first.size
  have l1:(first.toList.map ρ).length=first.size:=by simp
  rw[List.take_left' l1] at q1;rw[List.drop_left' l1] at q2;refine Does.still (s:=Instr.makeFunc f (first.map ρ) (captured.map ρ)) hm (v:=.func f (first.map ρ) (captured.map ρ)) (by simp[Instr.makeFunc]) ?_
  exact .fn f _ _ _ _ (by have:=q1.1;simp at this ⊢;exact this) (by have:=q2.1;simp at this ⊢;exact this) (fun i d x h1 h2=>q1.2 i d x h1 (by simpa using h2)) (fun i d x h1 h2=>q2.2 i d x h1 (by simpa using h2))
 .
  rename_i t x l hi m d ds
  obtain⟨v,l',e1,h1,h2⟩:=hr.of_cons;simp only[aQ,Yb,YP] at e1;obtain⟨rfl,rfl⟩:=e1;rw[Yz] at h2;obtain⟨k1,h3⟩:=BU h2;obtain⟨k2,h4⟩:=BU h3;rw[<- YC m.toList] at h4;obtain⟨k3,_⟩:=BU h4;obtain⟨v,q1,q2⟩:=Oe hm h1 k1 k2 k3 hc;exact Does.still hm q1 q2
 .
  obtain⟨v,l,e1,h1,h2⟩:=hr.of_cons;simp only[aQ,Yb,Yt,YP] at e1;obtain⟨rfl,_⟩:=e1;obtain⟨v,k1,k2⟩:=UV h1 hc;exact Does.still hm k1 k2
 .
  obtain⟨v,l,e1,h1,h2⟩:=hr.of_cons;simp only[aQ,Yb,Yt,YP] at e1;obtain⟨rfl,_⟩:=e1;obtain⟨v,k1,k2⟩:=UU h1 hc;exact Does.still hm k1 k2
 .
  obtain⟨v,l,e1,h1,h2⟩:=hr.of_cons;simp only[aQ,Yb,Yt,YP] at e1;obtain⟨rfl,rfl⟩:=e1;obtain⟨v,k1,k2⟩:=Uc hm h1 h2.head hc;exact Does.still hm k1 k2
 .
  obtain⟨v,l,e1,h1,h2⟩:=hr.of_cons;simp only[aQ,Yb,Yt,YP] at e1;obtain⟨rfl,rfl⟩:=e1;obtain⟨v,k1,k2⟩:=Ub (P:=P) h1 h2.head hc;exact Does.still hm k1 k2
 .
  obtain⟨v,l,e1,h1,h2⟩:=hr.of_cons;simp only[aQ,Yb,Yt,YP] at e1;obtain⟨rfl,rfl⟩:=e1;obtain⟨v,g',w',k1,k2,k3,k4,k5⟩:=R6 (P:=P) hm hb h1 h2.head hc;exact⟨v,g',w',.inl (by simp[execOp,k1]),k2,k3,k4,k5⟩
 .
  rename_i t r
  obtain⟨v,g',w',h1,h2,h3,h4,h5⟩:=Sq (P:=P) hm hb (ro:=r) hr hc;exact⟨v,g',w',.inl (by simp[execOp,h1]),h2,h3,h4,h5⟩
 .
  obtain⟨v,l,e1,h1,h2⟩:=hr.of_cons;obtain⟨v2,l2,e2,h3,h4⟩:=h2.of_cons;simp only[aQ,Yb,Yt,YP] at e1;obtain⟨rfl,e1⟩:=e1;rw[e2] at e1;simp only[YP] at e1;obtain⟨rfl,rfl⟩:=e1;obtain⟨g',w',k1,k2,k3,k4⟩:=EL hm h1 h3 h4.head hc;exact⟨undef,g',w',.inr ⟨by simp[execOp,k1],rfl⟩,.v _,k2,k3,fun r hr=>.inl (k4 r hr)⟩
 .
  obtain⟨v,l,e1,h1,h2⟩:=hr.of_cons;obtain⟨v2,l2,e2,h3,h4⟩:=h2.of_cons;simp only[aQ,Yb,Yt,YP] at e1;obtain⟨rfl,e1⟩:=e1;rw[e2] at e1;simp only[YP] at e1;obtain⟨rfl,rfl⟩:=e1;obtain⟨g',w',k1,k2,k3,k4⟩:=EL hm h1 h3 h4.head hc;exact⟨undef,g',w',.inr ⟨by simp[execOp,k1],rfl⟩,.v _,k2,k3,fun r hr=>.inl (k4 r hr)⟩
 .
  obtain⟨v,l,e1,h1,h2⟩:=hr.of_cons;simp only[aQ,Yb,Yt,YP] at e1;obtain⟨rfl,rfl⟩:=e1;obtain⟨v,k1,k2⟩:=Sr hm h1 h2.head hc;exact Does.still hm k1 k2
 .
  rename_i i ds
  obtain⟨v,l,e1,h1,h2⟩:=hr.of_cons;simp only[aQ,Yb,Yt,YP] at e1;obtain⟨e1,_⟩:=e1;obtain⟨vs,rfl,h3⟩:=h1.tuple_inv;have hl:i<vs.size:=by have:=h3.1;simp at this;omega
  refine⟨vs[i],g,w,.inl ?_,?_,hm,Mono.refl _ _,fun _ h=>.inl h⟩
  .
   simp[execOp,e1,Instr.extract,hl]
  exact h3.2 i _ _ (by simp[List.getD,Yg hc]) (by simp[hl])
 .
  rename_i args argTypes d
  obtain⟨v,l,e1,h1,h2⟩:=hr.of_cons;simp only[aQ] at e1;rw[h2.of_nil] at e1
  split at hc
  case h_2=>exact hc.elim
  rename_i t ht
  have ht':argTypes = #[t]:=by apply Zl;simpa using ht
  have ea:args.map ρ = #[v]:=by apply Zl;simpa using e1
  subst ht';refine⟨_,g,w,.inl ?_,.v _,hm,Mono.refl _ _,fun _ h=>.inl h⟩
  have:=Sz (ty:=ty) h1 hc
  simp[execOp,resolve,invoke,builtin,ea,this]
 .
  rename_i args argTypes d d'
  obtain⟨v,l,e1,h1,h2⟩:=hr.of_cons;obtain⟨v',l',e2,h3,h4⟩:=h2.of_cons;simp only[aQ] at e1;rw[e2,h4.of_nil] at e1
  split at hc
  case h_2=>exact hc.elim
  rename_i t u ht
  have ht':argTypes = #[t,u]:=by apply Zl;simpa using ht
  have ea:args.map ρ = #[v,v']:=by apply Zl;simpa using e1
  subst ht';obtain⟨x,g',w',k1,k2,k3,k4,k5⟩:=Xn hm hb h1 h3 hc ty;refine⟨x,g',w',.inl ?_,k2,k3,k4,k5⟩
  simp[execOp,resolve,invoke,builtin,ea,k1]
 .
  rename_i args argTypes
  simp only[aQ] at hr;obtain⟨v,k1,k2⟩:=R8 (P:=P) hr hc argTypes ty;refine⟨v,g,w,.inl ?_,k2,hm,Mono.refl _ _,fun _ h=>.inl h⟩
  have ea:(args.toList.map ρ).toArray=args.map ρ:=by apply Zl;simp
  rw[ea] at k1
  simp[execOp,resolve,invoke,builtin,k1]
 .
  rename_i args argTypes
  simp only[aQ] at hr;obtain⟨v,k1,k2⟩:=Si (P:=P) hr hc argTypes ty;refine⟨v,g,w,.inl ?_,k2,hm,Mono.refl _ _,fun _ h=>.inl h⟩
  have ea:(args.toList.map ρ).toArray=args.map ρ:=by apply Zl;simp
  rw[ea] at k1
  simp[execOp,resolve,invoke,builtin,k1]
 .
  simp[rZ] at hcall
 exact hc.elim
theorem Q3 [Glob P] {h:H}{g:Mem}{w:World}(hm:HM P h g w) {b:Nat}{xs:List D}{o:Oper}{ρ:Operand->Value}(hr:Reps w g xs ((aQ o.op).map ρ)) (hp:bX o.op=true) {gd:Bool}(hg:gd=true) (hc:(yM gd xs).2) :
  Does P g w b ((execOp ρ o).run P w) (yM gd xs).1 h:=by
 obtain⟨dst,op,ty,pos,after,guard⟩:=o
 simp only at hr hp ⊢
 cases op<;>simp only[bX] at hp<;>try (cases hp;done)
 rename_i c x y
 unfold yM at hc ⊢
 split at hc
 case h_2=>exact hc.elim
 rename_i dc dx dy
 obtain⟨q1,q2,q3⟩:=hc hg
 have r1:=hr.head
 have r2:=hr.tail.head
 have r3:=hr.tail.tail.head
 have strip : ∀ {d:D} {v:Value},Rep w g d v->sg d=true/\oq (sd d)=true->v = .bool (bv (sd d)):=by
  intro d v hd ⟨hs,he⟩;have key : ∀ {d:D},Rep w g d v->oq d=true->v = .bool (bv d):=by
   intro d hd he
   cases hd with
   | v=>cases v<;>first|rfl|cases he
   | _=>cases he
  cases hd with
  | cond b d x ht hf=>exact key (ht hs) he
  | v=>exact key (.v _) he
  | _=>cases he
 have s1:=strip r1 q1
 refine⟨.bool (bif bv (sd dc) then bv (sd dx) else bv (sd dy)),g,w,.inl ?_,.v _,hm,Mono.refl _ _,fun _ h=>.inl h⟩
 cases hcc:bv (sd dc) with
 | true=>have s2:=strip r2 (q2 hcc);simp[execOp,s1,s2,asBool,hcc]
 | false=>have s3:=strip r3 (q3 hcc);simp[execOp,s1,s3,asBool,hcc]
end Go.DL
namespace Go.DL
open Go.RowKit
variable {P : Program}
theorem jL {d:D}:∀ {ds:List D},aZ ds=true->d∈ds->d.nr=true
 | [],_,h=>by cases h
 | e::ds,h,hm=>by
  simp only[aZ,XW] at h
  rcases YK.1 hm with rfl|hm
  .
   exact h.1
  exact jL h.2 hm
theorem ui {d:List D}:∀ {ds:List (List D)},aS ds=true->d∈ds->aZ d=true
 | [],_,h=>by cases h
 | e::ds,h,hm=>by
  simp only[aS,XW] at h
  rcases YK.1 hm with rfl|hm
  .
   exact h.1
  exact ui h.2 hm
theorem Io : ∀ (a b:List (List D)),aS (a++b)=(aS a&&aS b)
 | [],b=>by simp[aS]
 | x::a,b=>by simp[aS,Io a b,ZZ]
theorem Rep.clean {w:World}{g g':Mem}{d:D}{v:Value}(h:Rep w g d v) (hn:d.nr=true) (hI : ∀ b,g.I b->g'.I b):Rep w g' d v:=by
 induction h with
 | v x=>exact .v x
 | agg ds vs hl _ ih=>exact .agg ds vs hl fun i d x h1 h2=>ih i d x h1 h2 (jL hn (Yl h1))
 | tuple ds vs hl _ ih=>exact .tuple ds vs hl fun i d x h1 h2=>ih i d x h1 h2 (jL hn (Yl h1))
 | iface t d x _ ih=>exact .iface t d x (ih hn)
 | empty full a cap hf hm=>exact .empty full a cap hf hm
 | list full rows ad cap size cv hi hl hf hm hs hc _ ih=>exact .list full rows ad cap size cv (hI _ hi) hl hf hm hs hc fun i j r d h1 h2=>ih i j r d h1 h2 (jL (ui hn (Yl h1)) (Yl h2))
 | eptr cs p cv hi hc _ ih=>exact .eptr cs p cv (hI _ hi) hc fun j d h1=>ih j d h1 (jL hn (Yl h1))
 | mrow=>simp[D.nr] at hn
 | mptr=>simp[D.nr] at hn
 | mp=>simp[D.nr] at hn
 | fmap kv b es clk hi hb hl _ ih=>exact .fmap kv b es clk (hI _ hi) hb hl fun i d x h1 h2=>ih i d x h1 h2 (jL hn (Yl h1))
 | fn f first caps fs cs hf hc _ _ ih1 ih2 =>
  simp only[D.nr,XW] at hn;exact .fn f first caps fs cs hf hc (fun i d x h1 h2=>ih1 i d x h1 h2 (jL hn.1 (Yl h1))) (fun i d x h1 h2=>ih2 i d x h1 h2 (jL hn.2 (Yl h1)))
 | cond b d x _ hf ih=>exact .cond b d x (fun hb=>ih hb hn) hf
 | junk x=>exact .junk x
mutual
theorem xx : ∀ d:D,d.nr=true->(wk d).nr=true
 | .agg cs,h=>sV cs h
 | .list _ rows,h=>EA rows h
 | .eptr cs,h=>sV cs h
 | .tuple ds,h=>sV ds h
 | .iface _ d,h=>xx d h
 | .v _,h=>h
 | .mrow _ _ _,h=>h
 | .mptr _ _ _,h=>h
 | .mp _,h=>h
 | .fmap kv,h=>sV kv h
 | .fn _ _ _,h=>h
 | .cond _ _,h=>h
 | .junk,h=>h
theorem sV : ∀ ds:List D,aZ ds=true->aZ (di ds)=true
 | [],_=>rfl
 | d::ds,h=>by
  simp only[aZ,di,XW] at h ⊢;exact⟨xx d h.1,sV ds h.2⟩
theorem EA : ∀ ds:List (List D),aS ds=true->aS (bZ ds)=true
 | [],_=>rfl
 | d::ds,h=>by
  simp only[aS,bZ,XW] at h ⊢;exact⟨sV d h.1,EA ds h.2⟩
end
mutual
def D.rin (U:Nat->Prop):D->Prop
 | .v _=>True
 | .agg cs=>pR U cs
 | .list _ rows=>F8 U rows
 | .eptr cs=>pR U cs
 | .mrow r _ _=>U r
 | .mptr r _ _=>U r
 | .mp r=>U r
 | .fmap kv=>pR U kv
 | .fn _ a b=>pR U a/\pR U b
 | .tuple ds=>pR U ds
 | .iface _ d=>d.rin U
 | .cond b d=>b=true->d.rin U
 | .junk=>True
def pR (U:Nat->Prop):List D->Prop
 | []=>True
 | d::ds=>d.rin U/\pR U ds
def F8 (U:Nat->Prop):List (List D)->Prop
 | []=>True
 | r::rs=>pR U r/\F8 U rs
end
theorem Reps.clean {w:World}{g g':Mem}{ds:List D}{vs:List Value}(h:Reps w g ds vs) (hn:ds.all D.nr=true) (hI : ∀ b,g.I b->g'.I b):Reps w g' ds vs :=
 ⟨h.1,fun i d x h1 h2=>(h.2 i d x h1 h2).clean (YQ.1 hn d (Yl h1)) hI⟩
theorem Kg {w w':World}{g g':Mem}{d:D}{v:Value}(h:Rep w g d v) (hf:Df d=true):Rep w' g' d v:=by
 cases h<;>simp[Df] at hf
 exact .v _
theorem Ke {w w':World}{g g':Mem}{d:D}{v:Value}(h:Rep w g d v) (hf:flat d=true):Rep w' g' d v:=by
 cases h<;>simp only[flat] at hf<;>try (cases hf;done)
 .
  exact .v _
 .
  rename_i ds vs hl hv
  exact .agg ds vs hl fun i d x h1 h2=>Kg (hv i d x h1 h2) (YQ.1 hf d (Yl h1))
 rename_i ds vs hl hv
 exact .tuple ds vs hl fun i d x h1 h2=>Kg (hv i d x h1 h2) (YQ.1 hf d (Yl h1))
def bV (P:Program) [Glob P] (f:FuncId):Bool:=match P.funcs[f]? with
 | some fn => fn.body.isSome && fn.name != "runtime.NumGoroutine"
 | none=>false
def dK (I:Nat->Prop):Mem:=⟨fun _=>none,fun _=>False,I⟩
structure xh (w w':World):Prop where
 os:w'.os=w.os
 tape:w'.tape=w.tape
 output:w'.output=w.output
 size:w.heap.size<=w'.heap.size
 drawn:w.drawn<=w'.drawn
 block : ∀ k,k<w.heap.size->w'.heap[k]? = w.heap[k]?
def PureCt (P:Program) [Glob P] (f:FuncId) (args:List D) (res:D):Prop :=
 bV P f=true/\args.all D.nr=true /\ ∀ (w:World) (I:Nat->Prop) (vs:List Value),(∀ b,I b->b<w.heap.size)->Gr P I w->Reps w (dK I) args vs ->
  CallsIn Fence.wide 0 P f vs.toArray w fun e w'=>∃ v,e = .returned v/\xh w w'/\Rep w' (dK fun b=>I b\/(w.heap.size<=b/\b<w'.heap.size)) res v
def Ct (P:Program) [Glob P] (f:FuncId) (args:List D) (h:H) (b:Nat) (res:D) (h':H):Prop :=
 bV P f=true /\ ∀ (w:World) (g:Mem) (vs:List Value) (n:Nat),HM P h g w->(∀ r,g.U r->r<n) -> ¬ g.U b->Reps w g args vs ->
  CallsIn Fence.wide 0 P f vs.toArray w fun e w'=>∃ v g',e = .returned v/\Rep w' g' res v/\HM P h' g' w'/\Mono g g' w w' /\ ∀ r,g'.U r->g.U r\/r=b
def words (P:Program) [Glob P]:Words:={ pureCt:=PureCt P,ct:=Ct P }
theorem lZ [Glob P] {f:FuncId}(h:bV P f=true) (args:Array Value) (w:World):(callFunc f args).run P w = .ok (.enter f args) w:=by
 unfold bV at h
 split at h
 .
  rename_i fn hf
  simp only[XW,ZL] at h;obtain⟨h1,h2⟩:=h;have h3:fn.body≠none:=by intro e;rw[e] at h1;cases h1
  simp[callFunc,hf,h2,h3]
 cases h
def jf (g:Mem):Mem:={ g with I:=fun b=>g.I b \/ ∃ r c s,g.M r=some (some b,c,s) }
theorem lJ {g:Mem}{w:World}{d:D}{v:Value}(h:Rep w g d v):Rep w (jf g) d v:=by
 refine Rep.mono ?_ ?_ ?_ h
 .
  exact fun b hb=>⟨Or.inl hb,rfl⟩
 .
  exact fun _ h=>h
 exact fun _ _=>Or.inl rfl
theorem Aa [Glob P] {h:H}{g:Mem}{w:World}(hm:HM P h g w) {r off len:Nat}{x:Value}(hr:Rep w (jf g) (.mrow r off len) x) (ho:(h r).isSome=true/\(rowsOf (.mrow r off len) h).length=len) :
  Rep w (jf g) (.list false (rowsOf (.mrow r off len) h)) x:=by
 have hmono : ∀ {d:D} {v:Value},Rep w g d v->Rep w (jf g) d v:=fun h=>lJ h
 cases hr with
 | mrow r off len x hx hU hv =>
  obtain⟨o1,o2⟩:=ho;obtain⟨bl,hbl⟩:=YN.1 o1;simp only[rowsOf,hbl] at o2 ⊢;obtain⟨blk,c,h1,h2,h3,h4,h5⟩:=hm.blk r bl hbl;obtain⟨h6,h7⟩:=hv _ _ _ h1
  rcases h7 with⟨rfl,a,rfl⟩|⟨hne,b,rfl,rfl⟩
  .
   have:len=0:=by omega
   subst this;have:(bl.rows.drop c).take 0=[]:=by simp
   rw[this];exact .empty false a 0 (fun h=>by cases h) (by simp[maxLen])
  rcases h5 with⟨h5,_⟩|⟨b',cur,h5,k1,k2,k3,k4⟩
  .
   cases h5
  cases h5
  by_cases hz:len=0
  .
   subst hz;have:(bl.rows.drop off).take 0=[]:=by simp
   rw[this];exact .empty false _ _ (fun h=>by cases h) om
  have hle:off+len<=bl.rows.length:=by simp at o2;omega
  have hget : ∀ (i:Nat) row,((bl.rows.drop off).take len)[i]? = some row->bl.rows[off+i]? = some row:=by
   intro i row hi;rw[YY] at hi
   split at hi
   .
    rwa [YZ] at hi
   cases hi
  have hex : ∀ i j,∃ u,∀ row d,bl.rows[off+i]? = some row->row[j]? = some d->cur[(off+i)*P.cellsOf bl.ty+j]? = some u/\u.oneCell'=true/\Rep w g d u:=by
   intro i j
   by_cases hh : ∃ row d,bl.rows[off+i]? = some row/\row[j]? = some d
   .
    obtain⟨row,d,q1,q2⟩:=hh;obtain⟨u,q3⟩:=(k4 _ row q1).2 j d q2;refine⟨u,fun row' d' q1' q2'=>?_⟩
    rw[q1] at q1';cases q1'
    rw[q2] at q2';cases q2'
    exact q3
   exact⟨undef,fun row d q1 q2=>absurd ⟨row,d,q1,q2⟩ hh⟩
  generalize hcv:(fun i j=>Classical.choose (hex i j))=cv
  have hcvs : ∀ i j row d,bl.rows[off+i]? = some row->row[j]? = some d->cur[(off+i)*P.cellsOf bl.ty+j]? = some (cv i j)/\(cv i j).oneCell'=true/\Rep w g d (cv i j):=by
   intro i j;rw[<- hcv];exact ZB (hex i j)
  have hlen:len=((bl.rows.drop off).take len).length:=o2.symm;generalize hrows:(bl.rows.drop off).take len=rows at *;subst hlen;refine .list false rows ⟨b,off*P.cellsOf bl.ty,none⟩ _ (P.cellsOf bl.ty) cv (.inr ⟨r,_,_,h1⟩) om (fun h=>by cases h) om (fun row hrow=>?_) (fun i j row d q1 q2=>?_) (fun i j row d q1 q2=>hmono (hcvs i j row d (hget i row q1) q2).2.2)
  .
   obtain⟨i,hi,rfl⟩:=Zd hrow;exact (k4 _ _ (hget i _ (Yg hi))).1
  obtain⟨q3,q4,_⟩:=hcvs i j row d (hget i row q1) q2;refine⟨?_,q4⟩;rw[jy,cell_of_row w b _ cur bl.ty (0,0) (k1.cells h6.2),<- q3,Zo]
  congr 1;omega
theorem VO [Glob P] {h:H}{g:Mem}{w:World}(hm:HM P h g w) {d:D}{v:Value}(hr:Rep w (jf g) d v) (ho:lm h d):Rep w (jf g) (kG h d) v:=by
 cases d with
 | mrow r off len=>exact Aa hm hr ho
 | _=>exact hr
theorem Dv [Glob P] {h:H}{g:Mem}{w:World}(hm:HM P h g w) {r i off:Nat}{x:Value}(hr:Rep w (jf g) (.mptr r i off) x) (ho:(h r).isSome=true /\ ∀ c∈dP (.mptr r i off) h,lm h c) :
  Rep w (jf g) (.eptr ((dP (.mptr r i off) h).map (kG h))) x:=by
 obtain⟨o1,o2⟩:=ho
 obtain⟨bl,hbl⟩:=YN.1 o1
 simp only[dP,hbl] at o2 ⊢
 cases hr with|mptr _ _ _ x hx hU hv =>
 obtain⟨blk,c,h1,h2,h3,h4,h5⟩:=hm.blk r bl hbl
 obtain⟨hcm,b,rfl,rfl⟩:=hv _ _ _ h1
 rcases h5 with⟨h5,_⟩|⟨b',cur,h5,k1,k2,k3,k4⟩
 .
  cases h5
 cases h5
 have key : ∀ j d,((bl.rows.getD i []).drop off)[j]? = some d -> ∃ u,cur[i*P.cellsOf bl.ty+off+j]? = some u/\Rep w g d u:=by
  intro j d hd;rw[YZ] at hd
  cases hri:bl.rows[i]? with
  | none=>rw[List.getD,hri] at hd;simp at hd
  | some row =>
   rw[List.getD,hri,YT] at hd;obtain⟨u,p1,_,p3⟩:=(k4 i row hri).2 (off+j) d hd;exact⟨u,by rw[Nat.add_assoc];exact p1,p3⟩
 refine .eptr _ _ (fun j=>cur.getD (i*P.cellsOf bl.ty+off+j) undef) (.inr ⟨r,_,_,h1⟩) (fun j d hd=>?_) (fun j d hd=>?_)
 .
  obtain⟨d',e1,rfl⟩:=fP hd;obtain⟨u,p1,p2⟩:=key j d' e1;rw[jy,cell_of_row w b _ cur bl.ty (0,0) (k1.cells hcm),p1]
  simp[Zq,p1]
 obtain⟨d',e1,rfl⟩:=fP hd
 obtain⟨u,p1,p2⟩:=key j d' e1
 have e2:cur.getD (i*P.cellsOf bl.ty+off+j) undef=u:=by simp[Zq,p1]
 rw[e2]
 exact VO hm (lJ p2) (o2 d' (Yl e1))
theorem K7 [Glob P] {h:H}{g:Mem}{w:World}(hm:HM P h g w) {d:D}{v:Value}(hr:Rep w (jf g) d v) (ho:ll h d):Rep w (jf g) (jR h d) v:=by
 cases d with
 | mrow r off len=>exact Aa hm hr ho
 | mptr r i off=>exact Dv hm hr ho
 | _=>exact hr
theorem K5 [Glob P] {h:H}{g:Mem}{w:World}(hm:HM P h g w) {d:D}{v:Value}(hr:Rep w (jf g) d v) (ho:iy h d) :
  Rep w (jf g) (deref h d) v:=by
 cases d with
 | mrow r off len=>exact Aa hm hr ho
 | mptr r i off=>exact Dv hm hr ho
 | fn f a b =>
  cases hr with
  | fn _ _ _ fs cs hf hc h1 h2 =>
   refine .fn f _ _ fs cs (by simpa using hf) (by simpa using hc) (fun i d x e1 e2=>?_) (fun i d x e1 e2=>?_)
   .
    obtain⟨d',e3,rfl⟩:=fP e1;exact K7 hm (h1 i d' x e3 e2) (ho.1 d' (Yl e3))
   obtain⟨d',e3,rfl⟩:=fP e1;exact K7 hm (h2 i d' x e3 e2) (ho.2 d' (Yl e3))
 | _=>exact hr
theorem VM [Glob P] {h:H}{g:Mem}{w:World}(hm:HM P h g w) {d:D}{v:Value}(hr:Rep w g d v) (ho:iy h d):Rep w (jf g) (deref h d) v:=K5 hm (lJ hr) ho
theorem VN {h:H}{d:D}(hd:ky d=false):jR h d=d:=by cases d<;>first|rfl|cases hd
theorem K6 {h:H}{ds:List D}(hd:ds.any ky=false):ds.map (jR h)=ds:=by
 rw[List.any_eq_false] at hd
 conv=>rhs;rw[<- List.map_id ds]
 exact Zz fun d hm=>VN (by have:=hd d hm;simpa using this)
theorem K4 {h:H}{d:D}(hd:fF d=false):deref h d=d:=by
 cases d<;>first|rfl|(cases hd;done)|skip
 rename_i f a b
 simp only[fF,Yj] at hd
 simp only[deref,K6 hd.1,K6 hd.2]
theorem G6 [Glob P] {h:H}{g:Mem}{w:World}(hm:HM P h g w) {k:FuncId}{zs:List D}{vs:List Value}{res:D}(hzs:Reps w g zs vs) (hct:PureCt P k (zs.map (jo h)) res) (hfl:zs.any fF=true->flat res=true /\ ∀ y∈zs,iy h y) :
  CallsIn Fence.wide 0 P k vs.toArray w fun e w'=>∃ v g',e = .returned v/\Rep w' g' res v/\HM P h g' w'/\Mono g g' w w' /\ ∀ r,g'.U r->g.U r:=by
 obtain⟨hbd,hnr,hct⟩:=hct
 by_cases hmr:zs.any fF=true
 .
  obtain⟨f1,f2⟩:=hfl hmr;have hds:Reps w (jf g) (zs.map (jo h)) vs:=by
   refine⟨by simpa using hzs.1,fun i d x h1 h2=>?_⟩
   rw[YJ] at h1
   cases hi:zs[i]? with
   | none=>rw[hi] at h1;cases h1
   | some y =>
    rw[hi] at h1;simp at h1;subst h1;exact (VM hm (hzs.2 i y x hi h2) (f2 y (Yl hi))).wk
  refine (hct w (fun b=>g.I b \/ ∃ r c s,g.M r=some (some b,c,s)) _ (fun b hb=>?_) (hm.gr.later fun b hb=>⟨.inl hb,rfl⟩) (hds.clean hnr fun _ h=>h)).mono ?_
  .
   rcases hb with hb|⟨r,c,s,hb⟩
   .
    exact hm.imm b hb
   exact (iQ hm hb).1
  rintro e w' ⟨v,rfl,hbel,hv⟩;have mono:Mono g g w w':=⟨hbel.os,hbel.tape,hbel.output,hbel.size,hbel.drawn,fun _ h=>h,fun _ _=>.inl rfl,fun r b c s h=>.inl ⟨r,c,s,h⟩,fun _ h=>h,fun _ h=>.inl h,fun b hb _=>hbel.block b hb⟩
  refine⟨v,g,rfl,Ke hv f1,⟨hm.dead,fun r bl hr=>?_,hm.inj,hm.used,fun b hb=>YB (hm.imm b hb) hbel.size,hm.gr.later (hm.kept mono)⟩,mono,fun _ h=>h⟩
  obtain⟨blk,c,h1,h2,h3,h4,h5⟩:=hm.blk r bl hr;refine⟨blk,c,h1,h2,h3,h4,?_⟩
  rcases h5 with h5|⟨b,cur,rfl,h6,h7,h8,h9⟩
  .
   exact .inl h5
  refine .inr ⟨b,cur,rfl,by rw[hbel.block b (iQ hm h1).1];exact h6,h7,h8,fun i row hi=>⟨(h9 i row hi).1,fun j d hd=>?_⟩⟩
  obtain⟨u,k3,k4,k5⟩:=(h9 i row hi).2 j d hd;exact⟨u,k3,k4,k5.later hm mono⟩
 have hzs:Reps w g (zs.map (jo h)) vs:=by
  refine⟨by simpa using hzs.1,fun i d x h1 h2=>?_⟩
  obtain⟨y,h3,rfl⟩:=fP h1;have hy:fF y=false:=by
   cases hq:fF y with
   | false=>rfl
   | true=>exact absurd (List.any_eq_true.2 ⟨y,Yl h3,hq⟩) hmr
  have:deref h y=y:=K4 hy
  show Rep w g (wk (deref h y)) x
  rw[this];exact (hzs.2 i y x h3 h2).wk
 refine (hct w g.I _ hm.imm hm.gr (hzs.clean hnr fun _ h=>h)).mono ?_
 rintro e w' ⟨v,rfl,hbel,hv⟩
 let g':Mem:={ g with I:=fun b=>g.I b\/(w.heap.size<=b/\b<w'.heap.size) }
 have mono:Mono g g' w w':=⟨hbel.os,hbel.tape,hbel.output,hbel.size,hbel.drawn,fun _ h=>h,fun _ _=>.inl rfl,fun r b c s h=>.inl ⟨r,c,s,h⟩,fun _ h=>.inl h,fun b h=>by rcases h with h|h;exact .inl h;exact .inr (.inl h.1),fun b hb _=>hbel.block b hb⟩
 refine⟨v,g',rfl,by refine Rep.mono ?_ ?_ ?_ hv;exact fun b hb=>⟨hb,rfl⟩;exact fun _ h=>False.elim h;exact fun _ h=>False.elim h,⟨hm.dead,fun r bl hr=>?_,hm.inj,hm.used,fun b hb=>?_,hm.gr.later (hm.kept mono)⟩,mono,fun _ h=>h⟩
 .
  obtain⟨blk,c,h1,h2,h3,h4,h5⟩:=hm.blk r bl hr;refine⟨blk,c,h1,h2,h3,h4,?_⟩
  rcases h5 with h5|⟨b,cur,rfl,h6,h7,h8,h9⟩
  .
   exact .inl h5
  have hlt:=(iQ hm h1).1;refine .inr ⟨b,cur,rfl,by rw[hbel.block b hlt];exact h6,h7,fun hI=>?_,fun i row hi=>⟨(h9 i row hi).1,fun j d hd=>?_⟩⟩
  .
   rcases hI with hI|hI
   .
    exact h8 hI
   omega
  obtain⟨u,k3,k4,k5⟩:=(h9 i row hi).2 j d hd;exact⟨u,k3,k4,k5.later hm mono⟩
 rcases hb with hb|hb
 .
  exact YB (hm.imm b hb) hbel.size
 exact hb.2
theorem Jo {ys:List D}{h:H}(hn:ys.any fF=false):ys.map (jo h)=ys.map wk:=by
 rw[List.any_eq_false] at hn
 exact Zz fun d hd=>by
  have:=hn d hd;simp only[Bool.not_eq_true] at this
  show wk (deref h d)=wk d
  rw[K4 this]
def Cr (g:Mem):Mem:=dK fun b=>g.I b \/ ∃ r c s,g.M r=some (some b,c,s)
theorem rQ {ds:List D}(h : ∀ d∈ds,d.nr=true):aZ ds=true:=by
 induction ds with
 | nil=>rfl
 | cons d ds ih=>simp[aZ,h d (by simp),ih fun d hd=>h d (by simp[hd])]
theorem Ca {ds:List (List D)}(h : ∀ d∈ds,aZ d=true):aS ds=true:=by
 induction ds with
 | nil=>rfl
 | cons d ds ih=>simp[aS,h d (by simp),ih fun d hd=>h d (by simp[hd])]
theorem xN [Glob P] {h:H}{g:Mem}{w:World}(hm:HM P h g w):∀ (k:Nat) (d:D) (v:Value),Rep w (jf g) d v->cu h k d->Rep w (Cr g) (bN h k d) v/\(bN h k d).nr=true:=by
 intro k
 induction k with
 | zero=>exact fun d v hr ho=>⟨hr.clean ho fun b hb=>hb,ho⟩
 | succ k ih =>
  intro d v hr ho
  cases d with
  | mrow r off len =>
   obtain⟨o1,o2⟩:=ho;have hd:=K5 hm hr o1;simp only[deref] at hd;simp only[bN];generalize rowsOf (.mrow r off len) h=rows at hd o2 ⊢;refine⟨?_,?_⟩
   .
    cases hd with
    | empty _ a cap hf hmx=>exact .empty false a cap hf hmx
    | list _ _ ad cap size cv hI hl hf hmx hs hc hrr =>
     have e:rows.length=(rows.map fun row=>row.map (bN h k)).length:=by simp
     rw[e];refine .list false _ ad cap size cv hI (by simpa using hl) (fun h=>by cases h) hmx (fun row hrow=>?_) (fun i j row d h1 h2=>?_) (fun i j row d h1 h2=>?_)
     .
      simp only[Y5] at hrow;obtain⟨row',h1,rfl⟩:=hrow
      simpa using hs row' h1
     .
      rw[YJ] at h1
      cases hri:rows[i]? with
      | none=>rw[hri] at h1;cases h1
      | some row' =>
       rw[hri] at h1;simp at h1;subst h1;rw[YJ] at h2
       cases hrj:row'[j]? with
       | none=>rw[hrj] at h2;cases h2
       | some d'=>exact hc i j row' d' hri hrj
     rw[YJ] at h1
     cases hri:rows[i]? with
     | none=>rw[hri] at h1;cases h1
     | some row' =>
      rw[hri] at h1;simp at h1;subst h1;rw[YJ] at h2
      cases hrj:row'[j]? with
      | none=>rw[hrj] at h2;cases h2
      | some d' =>
       rw[hrj] at h2;simp at h2;subst h2;exact (ih d' _ (hrr i j row' d' hri hrj) (o2 row' (Yl hri) d' (Yl hrj))).1
   refine Ca fun row hrow=>rQ fun d hd'=>?_
   simp only[Y5] at hrow;obtain⟨row',h1,rfl⟩:=hrow;simp only[Y5] at hd';obtain⟨d',h2,rfl⟩:=hd'
   cases hd with
   | empty=>cases h1
   | list _ _ ad cap size cv hI hl hf hmx hs hc hrr =>
    obtain⟨i,hi⟩:=Zf h1;obtain⟨j,hj⟩:=Zf h2;exact (ih d' _ (hrr i j row' d' hi hj) (o2 row' h1 d' h2)).2
  | agg cs =>
   obtain⟨vs,rfl,hv⟩:=hr.agg_inv;simp only[bN];refine⟨.mk_agg ⟨by simpa using hv.1,fun i d x h1 h2=>?_⟩,rQ fun d hd=>?_⟩
   .
    rw[YJ] at h1
    cases hci:cs[i]? with
    | none=>rw[hci] at h1;cases h1
    | some c =>
     rw[hci] at h1;simp at h1;subst h1;exact (ih c x (hv.2 i c x hci h2) (ho c (Yl hci))).1
   simp only[Y5] at hd;obtain⟨c,h1,rfl⟩:=hd;obtain⟨i,hi⟩:=Zf h1;have hlt:i<vs.toList.length:=by rw[<- hv.1];exact (Ya.1 hi).1
   exact (ih c _ (hv.2 i c _ hi (Yg hlt)) (ho c h1)).2
  | tuple cs =>
   obtain⟨vs,rfl,hv⟩:=hr.tuple_inv;simp only[bN];refine⟨.mk_tuple ⟨by simpa using hv.1,fun i d x h1 h2=>?_⟩,rQ fun d hd=>?_⟩
   .
    rw[YJ] at h1
    cases hci:cs[i]? with
    | none=>rw[hci] at h1;cases h1
    | some c =>
     rw[hci] at h1;simp at h1;subst h1;exact (ih c x (hv.2 i c x hci h2) (ho c (Yl hci))).1
   simp only[Y5] at hd;obtain⟨c,h1,rfl⟩:=hd;obtain⟨i,hi⟩:=Zf h1;have hlt:i<vs.toList.length:=by rw[<- hv.1];exact (Ya.1 hi).1
   exact (ih c _ (hv.2 i c _ hi (Yg hlt)) (ho c h1)).2
  | iface t d =>
   cases hr with
   | iface _ _ x h1 =>
    obtain⟨q1,q2⟩:=ih d x h1 ho;exact⟨.iface t _ x q1,q2⟩
  | mptr r i off =>
   obtain⟨o1,o2⟩:=ho;obtain⟨bl,hbl⟩:=YN.1 o1;simp only[bN];have ecs:dP (.mptr r i off) h=(bl.rows.getD i []).drop off:=by simp only[dP,hbl]
   rw[ecs] at o2 ⊢
   cases hr with|mptr _ _ _ x hx hU hv =>
   obtain⟨blk,c,h1,h2,h3,h4,h5⟩:=hm.blk r bl hbl;obtain⟨hcm,b,rfl,rfl⟩:=hv _ _ _ h1
   rcases h5 with⟨h5,_⟩|⟨b',cur,h5,k1,k2,k3,k4⟩
   .
    cases h5
   cases h5
   have key : ∀ j d,((bl.rows.getD i []).drop off)[j]? = some d -> ∃ u,cur[i*P.cellsOf bl.ty+off+j]? = some u/\Rep w g d u:=by
    intro j d hd;rw[YZ] at hd
    cases hri:bl.rows[i]? with
    | none=>rw[List.getD,hri] at hd;simp at hd
    | some row =>
     rw[List.getD,hri,YT] at hd;obtain⟨u,p1,_,p3⟩:=(k4 i row hri).2 (off+j) d hd;exact⟨u,by rw[Nat.add_assoc];exact p1,p3⟩
   refine⟨.eptr _ _ (fun j=>cur.getD (i*P.cellsOf bl.ty+off+j) undef) (.inr ⟨r,_,_,h1⟩) (fun j d hd=>?_) (fun j d hd=>?_),rQ fun d hd=>?_⟩
   .
    obtain⟨d',e1,rfl⟩:=fP hd;obtain⟨u,p1,p2⟩:=key j d' e1;rw[jy,cell_of_row w b _ cur bl.ty (0,0) (k1.cells hcm),p1]
    simp[Zq,p1]
   .
    obtain⟨d',e1,rfl⟩:=fP hd;obtain⟨u,p1,p2⟩:=key j d' e1;have e2:cur.getD (i*P.cellsOf bl.ty+off+j) undef=u:=by simp[Zq,p1]
    rw[e2];exact (ih d' u (lJ p2) (o2 d' (Yl e1))).1
   obtain⟨d',e1,rfl⟩:=Y5.1 hd;obtain⟨j,hj⟩:=Zf e1;obtain⟨u,p1,p2⟩:=key j d' hj;exact (ih d' u (lJ p2) (o2 d' e1)).2
  | fn f a b =>
   cases hr with
   | fn _ _ _ fs cs hf hc h1 h2 =>
    simp only[bN];refine⟨.fn f _ _ fs cs (by simpa using hf) (by simpa using hc) (fun i d x e1 e2=>?_) (fun i d x e1 e2=>?_),?_⟩
    .
     obtain⟨d',e3,rfl⟩:=fP e1;exact (ih d' x (h1 i d' x e3 e2) (ho.1 d' (Yl e3))).1
    .
     obtain⟨d',e3,rfl⟩:=fP e1;exact (ih d' x (h2 i d' x e3 e2) (ho.2 d' (Yl e3))).1
    simp only[D.nr,XW];refine⟨rQ fun d hd=>?_,rQ fun d hd=>?_⟩
    .
     obtain⟨d',e1,rfl⟩:=Y5.1 hd;obtain⟨i,hi⟩:=Zf e1;have hlt:i<fs.size:=by rw[<- hf];exact (Ya.1 hi).1
     exact (ih d' _ (h1 i d' _ hi (ZN hlt)) (ho.1 d' e1)).2
    obtain⟨d',e1,rfl⟩:=Y5.1 hd;obtain⟨i,hi⟩:=Zf e1;have hlt:i<cs.size:=by rw[<- hc];exact (Ya.1 hi).1
    exact (ih d' _ (h2 i d' _ hi (ZN hlt)) (ho.2 d' e1)).2
  | _=>exact⟨hr.clean ho fun b hb=>hb,ho⟩
theorem Fe [Glob P] {h:H}{g:Mem}{w:World}(hm:HM P h g w) {k:FuncId}{ys:List D}{vs:List Value}{res:D}(hys:Reps w g ys vs) (hct:PureCt P k (ys.map (kL h)) res) (hfl:flat res=true) (hso : ∀ y∈ys,cu h 5 y) :
  CallsIn Fence.wide 0 P k vs.toArray w fun e w'=>∃ v g',e = .returned v/\Rep w' g' res v/\HM P h g' w'/\Mono g g' w w' /\ ∀ r,g'.U r->g.U r:=by
 obtain⟨hbd,hnr,hct⟩:=hct
 have hds:Reps w (Cr g) (ys.map (kL h)) vs:=by
  refine⟨by simpa using hys.1,fun i d x h1 h2=>?_⟩
  obtain⟨y,h3,rfl⟩:=fP h1;exact (xN hm 5 y x (lJ (hys.2 i y x h3 h2)) (hso y (Yl h3))).1.wk
 refine (hct w (fun b=>g.I b \/ ∃ r c s,g.M r=some (some b,c,s)) _ (fun b hb=>?_) (hm.gr.later fun b hb=>⟨.inl hb,rfl⟩) hds).mono ?_
 .
  rcases hb with hb|⟨r,c,s,hb⟩
  .
   exact hm.imm b hb
  exact (iQ hm hb).1
 rintro e w' ⟨v,rfl,hbel,hv⟩
 have mono:Mono g g w w':=⟨hbel.os,hbel.tape,hbel.output,hbel.size,hbel.drawn,fun _ h=>h,fun _ _=>.inl rfl,fun r b c s h=>.inl ⟨r,c,s,h⟩,fun _ h=>h,fun _ h=>.inl h,fun b hb _=>hbel.block b hb⟩
 refine⟨v,g,rfl,Ke hv hfl,⟨hm.dead,fun r bl hr=>?_,hm.inj,hm.used,fun b hb=>YB (hm.imm b hb) hbel.size,hm.gr.later (hm.kept mono)⟩,mono,fun _ h=>h⟩
 obtain⟨blk,c,h1,h2,h3,h4,h5⟩:=hm.blk r bl hr
 refine⟨blk,c,h1,h2,h3,h4,?_⟩
 rcases h5 with h5|⟨b,cur,rfl,h6,h7,h8,h9⟩
 .
  exact .inl h5
 refine .inr ⟨b,cur,rfl,by rw[hbel.block b (iQ hm h1).1];exact h6,h7,h8,fun i row hi=>⟨(h9 i row hi).1,fun j d hd=>?_⟩⟩
 obtain⟨u,k3,k4,k5⟩:=(h9 i row hi).2 j d hd
 exact⟨u,k3,k4,k5.later hm mono⟩
theorem WA [Glob P] {C:Con}{f:Operand}{xs:List D}{h:H}{b:Nat}(hcf:C.cf=true) (hc:(fQ (words P) C f xs h b).2.2):fQ (words P) C f xs h b=((fQ (words P) { C with cf:=false,dp:=false } f xs h b).1,(fQ (words P) { C with cf:=false,dp:=false } f xs h b).2.1,(fQ (words P) C f xs h b).2.2)/\(fQ (words P) { C with cf:=false,dp:=false } f xs h b).2.2:=by
 unfold fQ at hc ⊢
 split at hc
 .
  rename_i k d ys
  by_cases hp:C.pure k=true
  .
   simp only[hp,hcf,ZK,Ym,Y9] at hc ⊢;rw[Jo hc.2];exact⟨rfl,hc.1,fun h=>by rw[hc.2] at h;cases h⟩
  simp only[hp,Y9] at hc;exact hc.elim
 .
  rename_i k first caps ys hnf
  by_cases hp:C.pure k=true
  .
   cases f<;>simp only[hp,hcf,ZK,Ym,Y9] at hc ⊢ <;> first
    | (rw[Jo hc.2];exact⟨rfl,hc.1,fun h=>by rw[hc.2] at h;cases h⟩)
    | exact absurd rfl (hnf _)
  simp only[hp,Y9] at hc;exact hc.elim
 exact hc.elim
theorem LJ [Glob P] {C:Con}(hcf:C.cf=false) {h:H}{g:Mem}{w:World}(hm:HM P h g w) {b n:Nat}(hb : ¬ g.U b) (hn : ∀ r,g.U r->r<n) {f:Operand}{xs:List D}{args:Array Operand}{argTypes:Array TypeId}{o:Oper}(ho:o.op = .call { callee:=.value f,args,argTypes }) {ρ:Operand->Value}(hρ : ∀ k,ρ (.func k) = .func (.func k) #[] #[])
  (hr:Reps w g xs (ρ f::args.toList.map ρ)) (hc:(fQ (words P) C f xs h b).2.2) :
  ∃ k vs,(execOp ρ o).run P w = .ok (.enter k vs) w/\CallsIn Fence.wide 0 P k vs w fun e w'=>∃ v g',e = .returned v/\Rep w' g' (fQ (words P) C f xs h b).1 v/\HM P (fQ (words P) C f xs h b).2.1 g' w'/\Mono g g' w w' /\ ∀ r,g'.U r->g.U r\/r=b:=by
 have hex : ∀ k fs cs,ρ f = .func (.func k) fs cs->bV P k=true->(execOp ρ o).run P w = .ok (.enter k (fs++args.map ρ++cs)) w:=by
  intro k fs cs hf hbd
  simp[execOp,ho,resolve,Deferred.ofValue,hf,invoke,lZ hbd]
 unfold fQ at hc ⊢
 split at hc
 .
  rename_i k d ys
  have hys:Reps w g ys (args.toList.map ρ):=hr.tail
  by_cases hp:C.pure k=true
  .
   cases hdp:C.dp with
   | true =>
    simp only[hp,hcf,hdp,ZK,Ym,Y9] at hc ⊢;obtain⟨⟨hbd,hnr,hct⟩,hfl,hso⟩:=hc;have e:=hex k #[] #[] (hρ k) hbd;simp only[Array.empty_append,Array.append_empty] at e;refine⟨k,_,e,?_⟩;have ea:args.map ρ=(args.toList.map ρ).toArray:=by apply Zl;simp
    rw[ea];exact (Fe hm hys ⟨hbd,hnr,hct⟩ hfl hso).mono fun e w' ⟨v,g',q1,q2,q3,q4,q5⟩=>⟨v,g',q1,q2,q3,q4,fun r hr=>.inl (q5 r hr)⟩
   | false =>
   simp only[hp,hcf,hdp,ZK,Ym,Y9] at hc ⊢;obtain⟨⟨hbd,hnr,hct⟩,hfl⟩:=hc;have e:=hex k #[] #[] (hρ k) hbd;simp only[Array.empty_append,Array.append_empty] at e;refine⟨k,_,e,?_⟩;have ea:args.map ρ=(args.toList.map ρ).toArray:=by apply Zl;simp
   rw[ea];exact (G6 hm hys ⟨hbd,hnr,hct⟩ hfl).mono fun e w' ⟨v,g',q1,q2,q3,q4,q5⟩=>⟨v,g',q1,q2,q3,q4,fun r hr=>.inl (q5 r hr)⟩
  simp only[hp,Y9,Ym] at hc
 .
  rename_i k first caps ys _
  have hf:=hr.head;generalize hv:ρ f=vf at hf hr
  cases hf with|fn _ _ _ fs cs l1 l2 r1 r2 =>
  have e:fs++args.map ρ++cs=(fs.toList++args.toList.map ρ++cs.toList).toArray:=by apply Zl;simp
  have hzs:Reps w g (first++ys++caps) (fs.toList++args.toList.map ρ++cs.toList):=Reps.append (Reps.append ⟨by simpa using l1,fun i d x h1 h2=>r1 i d x h1 (by simpa using h2)⟩ hr.tail) ⟨by simpa using l2,fun i d x h1 h2=>r2 i d x h1 (by simpa using h2)⟩
  by_cases hp:C.pure k=true
  .
   cases hdp:C.dp with
   | true =>
    simp only[hp,hcf,hdp,ZK,Ym,Y9] at hc ⊢;refine⟨k,_,hex k fs cs hv hc.1.1,?_⟩;rw[e];exact (Fe hm hzs hc.1 hc.2.1 hc.2.2).mono fun e w' ⟨v,g',q1,q2,q3,q4,q5⟩=>⟨v,g',q1,q2,q3,q4,fun r hr=>.inl (q5 r hr)⟩
   | false =>
   simp only[hp,hcf,hdp,ZK,Ym,Y9] at hc ⊢;refine⟨k,_,hex k fs cs hv hc.1.1,?_⟩;rw[e];exact (G6 hm hzs hc.1 hc.2).mono fun e w' ⟨v,g',q1,q2,q3,q4,q5⟩=>⟨v,g',q1,q2,q3,q4,fun r hr=>.inl (q5 r hr)⟩
  simp only[hp,Y9,Ym] at hc
 exact hc.elim
theorem Wz [Glob P] {C:Con}{h:H}{g:Mem}{w:World}(hm:HM P h g w) {b n:Nat}(hb : ¬ g.U b) (hn : ∀ r,g.U r->r<n) {f:Operand}{xs:List D}{args:Array Operand}{argTypes:Array TypeId}{o:Oper}(ho:o.op = .call { callee:=.value f,args,argTypes }) {ρ:Operand->Value}(hρ : ∀ k,ρ (.func k) = .func (.func k) #[] #[])
  (hr:Reps w g xs (ρ f::args.toList.map ρ)) (hc:(fQ (words P) C f xs h b).2.2) :
  ∃ k vs,(execOp ρ o).run P w = .ok (.enter k vs) w/\CallsIn Fence.wide 0 P k vs w fun e w'=>∃ v g',e = .returned v/\Rep w' g' (fQ (words P) C f xs h b).1 v/\HM P (fQ (words P) C f xs h b).2.1 g' w'/\Mono g g' w w' /\ ∀ r,g'.U r->g.U r\/r=b:=by
 cases hcf:C.cf with
 | false=>exact LJ hcf hm hb hn ho hρ hr hc
 | true =>
  obtain⟨e,h2⟩:=WA hcf hc;rw[e];exact LJ (C:={ C with cf:=false,dp:=false }) rfl hm hb hn ho hρ hr h2
end Go.DL
namespace Go.DL
open Go.RowKit
variable {P : Program} {C : Con}
def Marks (B:Nat) (g:Mem):List Deferred->World->Prop
 | [],_=>True
 | d::ds,w=>(∃ D,d.target = .collected D/\w.heap[D]? = some (.deferred (some []))/\(∀ d'∈ds,d'.target ≠ .collected D)/\B<=D /\ ¬ g.I D)/\Marks B g ds w
theorem nT [Glob P] {h:H}{g:Mem}{w:World}(hm:HM P h g w) {D:Nat}{o:Obj}(hD:w.heap[D]? = some o) (ho : ∀ c e f,o ≠ .cells c e f) (ho2 : ∀ c e,o ≠ .map c e:=by intro c e;simp):∀ r c s,g.M r≠some (some D,c,s):=by
 intro r c s e
 cases hr:h r with
 | none=>rw[hm.dead r hr] at e;cases e
 | some bl =>
  obtain⟨blk,c',h1,_,_,_,h5⟩:=hm.blk r bl hr;rw[e] at h1;simp only[Yh,YI] at h1
  rcases h5 with⟨h6,_⟩|⟨b',cur,h6,h7,_⟩
  .
   rw[<- h1.1] at h6;cases h6
  rw[<- h1.1] at h6;cases h6
  obtain⟨x,hx,hy⟩:=h7.some;rw[hD] at hx;cases hx
  rcases hy with⟨_,_,_,hy⟩|⟨_,_,hy⟩
  .
   exact ho _ _ _ hy
  exact ho2 _ _ hy
theorem vT [Glob P] {h:H}{g g':Mem}{w w':World}(hm:HM P h g w) (k:Mono g g' w w') {D:Nat}{o:Obj}(hD:w.heap[D]? = some o) (ho : ∀ c e f,o ≠ .cells c e f) (ho2 : ∀ c e,o ≠ .map c e:=by intro c e;simp):w'.heap[D]? = some o:=by
 rw[k.same D (Yk.1 hD).1 (nT hm hD ho ho2)];exact hD
theorem Marks.later [Glob P] {h:H}{g g':Mem}{w w':World}(hm:HM P h g w) (k:Mono g g' w w') {B:Nat}:∀ {ds:List Deferred},Marks B g ds w->Marks B g' ds w'
 | [],_=>trivial
 | d::ds,⟨⟨D,h1,h2,h3,h4,h5⟩,h6⟩=>⟨⟨D,h1,vT hm k h2 (fun c e f=>by simp),h3,h4,fun hI=>by
   rcases k.inew D hI with e|e|⟨r,c,s,e⟩
   .
    exact h5 e
   .
    have:=(Yk.1 h2).1;omega
   exact nT hm h2 (fun c e f=>by simp) (fun c e=>by simp) r c s e⟩,h6.later hm k⟩
structure Bot where
 n:Nat
 ds:List Deferred
 fn : ∀ d∈ds,∀ D,d.target ≠ .collected D
def Bot.of (n:Nat):Bot:=⟨n,[],fun _ h=>by simp at h⟩
def Dfs (B:Bot) (g:Mem) (ds:List Deferred) (w:World):Prop:=∃ ms,ds=ms++B.ds/\Marks B.n g ms w
theorem Dfs.map {B:Bot}{g g':Mem}{ds:List Deferred}{w w':World}(h:Dfs B g ds w) (k : ∀ ms,Marks B.n g ms w->Marks B.n g' ms w'):Dfs B g' ds w' :=
 let ⟨ms,h1,h2⟩:=h;⟨ms,h1,k ms h2⟩
theorem Dfs.start {B:Bot}{g:Mem}{w:World}:Dfs B g B.ds w:=⟨[],rfl,trivial⟩
theorem Dfs.later [Glob P] {h:H}{g g':Mem}{w w':World}(hm:HM P h g w) (k:Mono g g' w w') {B:Bot}{ds:List Deferred}(hd:Dfs B g ds w):Dfs B g' ds w':=hd.map fun _ h=>h.later hm k
theorem Dfs.marks {n:Nat}{g:Mem}{ds:List Deferred}{w:World}(h:Dfs (Bot.of n) g ds w):Marks n g ds w:=by
 obtain⟨ms,h1,h2⟩:=h
 rw[h1]
 show Marks n g (ms++[]) w
 rw[YC]
 exact h2
variable {B : Bot}
structure St (P:Program) [Glob P] (B:Bot) (s:S) (g:Mem) (a:Act) (w:World):Prop where
 sz:a.tmps.size=s.n
 tm : ∀ i,Rep w g (s.t i) (a.tmps.getD i undef)
 mem:HM P s.h g w
 df:Dfs B g a.defers w
 en:s.e.p g w
 bd:B.n<=w.heap.size
def Fw (ro:Option Nat):Fence:={ Fence.wide with round:=ro }
theorem o7 [Glob P] {ro:Option Nat}{f:FuncId}{args:Array Value}{w:World}{R:Ending->World->Prop}{n m:Nat}(h:CallsIn Fence.wide n P f args w R):CallsIn (Fw ro) m P f args w R :=
 ⟨trivial,fun cs _=>h.2 cs (room_wide _)⟩
theorem bI [Glob P] {s:S}{g:Mem}{a:Act}{w:World}(hs:St P B s g a w) (x:Operand):Rep w g (s.ev x) (a.eval x):=by
 cases x with
 | tmp t=>exact hs.tm t
 | const v=>exact yT w g v
 | global i=>exact .v _
 | func f=>exact .fn (.func f) [] [] #[] #[] rfl rfl (by simp) (by simp)
theorem lX [Glob P] {s:S}{g:Mem}{a:Act}{w:World}(hs:St P B s g a w):∀ xs:List Operand,Reps w g (xs.map s.ev) (xs.map a.eval)
 | []=>.nil
 | x::xs=>.cons (bI hs x) (lX hs xs)
theorem Nv {w:World}{g:Mem}{d:D}{v:Value}(h:Rep w g d v) (hs:sg d=true):Rep w g (sd d) v:=by
 cases d<;>first|exact h|skip
 cases h with
 | cond _ _ _ ht hf=>exact ht hs
theorem mg {w:World}{g:Mem}:∀ {ds:List D}{vs:List Value},Reps w g ds vs->ds.all sg=true->Reps w g (ds.map sd) vs
 | [],vs,h,_=>by rw[h.of_nil];exact .nil
 | d::ds,vs,h,hs=>by
  obtain⟨x,xs,rfl,h1,h2⟩:=h.of_cons;simp only[List.all_cons,XW] at hs;exact .cons (Nv h1 hs.1) (mg h2 hs.2)
theorem gN [Glob P] {s:S}{g g':Mem}{a:Act}{w w':World}(hs:St P B s g a w) (k:Mono g g' w w') {h':H}(hm:HM P h' g' w') {dst:Option Tmp}(hd:bB s.n dst=true) {d:D}{v:Value}(hv:Rep w' g' d v) (ok:Prop) :
  St P B { s with t:=s.put dst d,h:=h',ok:=ok } g' (a.put dst v) w':=by
 refine⟨?_,fun i=>?_,hm,?_,Env.later hs.mem k hs.en,Yc hs.bd k.size⟩
 .
  cases dst<;>simp[Act.put,hs.sz]
 .
  cases dst with
  | none=>exact (hs.tm i).later hs.mem k
  | some j =>
   simp only[bB,XX] at hd;simp only[S.put,Act.put]
   by_cases e:i=j
   .
    subst e;rw[upd_same];have:(a.tmps.setIfInBounds i v).getD i undef=v:=by
     have:i<a.tmps.size:=by rw[hs.sz];exact hd
     simp[this]
    rw[this];exact hv
   rw[upd_ne _ _ _ _ e];have:(a.tmps.setIfInBounds j v).getD i undef=a.tmps.getD i undef:=by
    simp[Ne.symm e]
   rw[this];exact (hs.tm i).later hs.mem k
 have:(a.put dst v).defers=a.defers:=by cases dst<;>rfl
 rw[this];exact hs.df.later hs.mem k
theorem Dn [Glob P] {W:Words}{op:Op}{xs:List D}{h:H}{b:Nat}(hc:aT C op ≠ .writes):(aN P W C op xs h b).2.1=h:=by
 unfold aN
 split<;>first
  | rfl
  | (exfalso;exact hc rfl)
  | skip
 .
  have hb:C.bs=false:=by
   cases hb:C.bs with
   | false=>rfl
   | true=>exact absurd (by simp[aT,hb]) hc
  simp only[hb,Ym,Y9];rfl
 rename_i f args argTypes
 unfold fQ
 split
 .
  split<;>first|rfl|(split<;>first|rfl|(split<;>rfl))
 .
  split<;>first|rfl|(split<;>first|rfl|(split<;>rfl))
 rfl
theorem TS {op:Op}(h:rZ op=true):∃ f args argTypes,op = .call { callee:=.value f,args,argTypes }:=by
 unfold rZ at h
 split at h
 .
  exact⟨_,_,_,rfl⟩
 cases h
theorem Dp [Glob P] {s:S}{g:Mem}{a:Act}{w:World}(hs:St P B s g a w) {b N:Nat}(hb : ¬ g.U b) (hN : ∀ r,g.U r->r<N) {o:Oper}(hc:(aL P (words P) C true o.op ((aQ o.op).map s.ev) s.h b).2.2)
  {ro:Option Nat} {n:Nat} {K:Act->World->Prop} {Q:Exit->Act->World->Prop}
  (hK : ∀ v g' w',Rep w' g' (aL P (words P) C true o.op ((aQ o.op).map s.ev) s.h b).1 v->HM P (aL P (words P) C true o.op ((aQ o.op).map s.ev) s.h b).2.1 g' w'->Mono g g' w w'->(∀ r,g'.U r->g.U r\/r=b)->K (a.put o.dst v) w') :
  o.wpIn (Fw ro) n P a w K Q:=by
 have hdef : ∀ c,o.op ≠ .defer c:=by
  intro c e;rw[e] at hc
  simp[aL,bX,aN] at hc
 have hsem:o.semAt (Fw ro).round a.eval=execOp a.eval o:=Oper.semAt_eq _ _ _ hdef
 refine⟨fun _ _=>trivial,?_⟩
 rw[hsem]
 have done:Does P g w b ((execOp a.eval o).run P w) (aL P (words P) C true o.op ((aQ o.op).map s.ev) s.h b).1 (aL P (words P) C true o.op ((aQ o.op).map s.ev) s.h b).2.1->o.uponIn (Fw ro) n P a K Q ((execOp a.eval o).run P w):=by
  rintro⟨v,g',w',hr,h1,h2,h3,h4⟩
  rcases hr with hr|⟨hr,rfl⟩
  .
   rw[hr,Oper.uponIn_value];exact hK v g' w' h1 h2 h3 h4
  rw[hr,Oper.uponIn_skip];exact hK undef g' w' h1 h2 h3 h4
 by_cases hp:bX o.op=true
 .
  simp only[aL,hp,ZK] at hc hK done ⊢;exact done (Q3 hs.mem (lX hs _) hp rfl hc)
 simp only[aL,hp,Y9,Ym] at hc hK done
 obtain⟨h1,h2⟩:=hc
 have hx:=mg (lX hs (aQ o.op)) (h1 trivial)
 by_cases hcall:rZ o.op=true
 .
  obtain⟨f,args,argTypes,ho⟩:=TS hcall;rw[ho] at h2 hx hK;simp only[aN,aQ] at h2 hx hK;obtain⟨k,vs,hrun,hcalls⟩:=Wz hs.mem hb hN ho (fun k=>rfl) hx h2
  rw[hrun,Oper.uponIn_enter];refine⟨fun h=>by simp[Fw,Fence.wide] at h,o7 (hcalls.mono ?_)⟩
  rintro e w' ⟨v,g',rfl,q1,q2,q3,q4⟩;exact hK v g' w' q1 q2 q3 q4
 exact done (U7 hs.mem hb hx (by simpa using hcall) h2)
theorem M5 [Glob P] {s:S}{g:Mem}{a:Act}{w:World}(hs:St P B s g a w) {dst:Option Tmp}(hd:bB s.n dst=true) (d:D) (ok:Prop) :
  St P B { s with t:=s.put dst (.cond false d),ok:=ok } g (a.put dst undef) w :=
 gN hs (Mono.refl g w) hs.mem hd (.cond false d undef (fun h=>by cases h) (fun _=>rfl)) ok
theorem Uh [Glob P] {s:S}{g:Mem}{a:Act}{w:World}(hs:St P B s g a w) {ops:Array Oper}{j:Nat}{want:Bool}(hk:kX (((ops.toList[j]?).bind (·.dst)).elim .junk s.t)=true) :
  (yielded ops a.tmps j==some want)=gD (((ops.toList[j]?).bind (·.dst)).elim .junk s.t) want:=by
 rw[Zh] at hk ⊢
 unfold yielded
 cases hd:(ops[j]?).bind (·.dst) with
 | none=>rw[hd] at hk;simp[kX] at hk
 | some d =>
  rw[hd] at hk;simp only[Option.elim,Option.bind_some] at hk ⊢;have hr:=hs.tm d;have hv : ∀ v,a.tmps.getD d undef=v->v≠undef->a.tmps[d]? = some v:=by
   intro v e hne
   cases hq:a.tmps[d]? with
   | none =>
    have hq':=Array.getElem?_eq_none_iff.1 hq;simp only[Array.getD] at e;rw[dif_neg (by omega)] at e
    exact absurd e.symm hne
   | some x=>simp[hq] at e;rw[e]
  generalize hv0:a.tmps.getD d undef=v0 at hr hv;generalize hd0:s.t d=d0 at hr hk
  cases hr with
  | v x =>
   cases v0<;>simp only[kX] at hk<;>try (cases hk;done)
   rename_i bv
   rw[hv _ rfl (by simp[undef])]
   simp[gD]
  | cond g0 d1 _ ht hf =>
   cases g0 with
   | true =>
    have h1:=ht rfl
    cases h1 with
    | v x =>
     cases v0<;>simp only[kX] at hk<;>try (cases hk;done)
     rename_i bv
     rw[hv _ rfl (by simp[undef])]
     simp[gD]
    | _=>simp[kX] at hk
   | false =>
    have h1:=hf rfl;subst h1
    split
    .
     rename_i b e
     have hlt:=(Yk.1 e).1;rw[ZN hlt] at e;simp only[Array.getD,dif_pos hlt] at hv0;simp only[Yh] at e;have:=hv0.symm.trans e
     simp[undef] at this
    have hz:gD (.cond false d1) want=false:=by
     unfold gD
     split
     .
      rename_i e;cases e
     .
      rename_i e;cases e;simp
     rfl
    rw[hz];rfl
  | _=>simp[kX] at hk
theorem zT [Glob P] {s:S}{g:Mem}{a:Act}{w:World}(hs:St P B s g a w) {b i N:Nat}(hb : ¬ g.U (b+i)) (hN : ∀ r,g.U r->r<N) {ops:Array Oper}{o:Oper}(hi:ops[i]? = some o) (hok:(bu P (words P) C ops.toList b i o s).ok)
  {ro:Option Nat} {n:Nat} {K:Act->World->Prop} {Q:Exit->Act->World->Prop}
  (hK : ∀ g' a' w',St P B (bu P (words P) C ops.toList b i o s) g' a' w'->Mono g g' w w'->(∀ r,g'.U r->g.U r\/r=b+i)->K a' w'):wpOpIn (Fw ro) n P ops Q i K a w:=by
 unfold wpOpIn
 rw[hi]
 simp only
 unfold bu at hok hK
 cases hg:o.guard with
 | none =>
  rw[hg] at hok hK;simp only at hok hK;obtain⟨_,h2,h3⟩:=hok;have hw:Region.wanted o (yielded ops a.tmps)=true:=by simp[Region.wanted,hg]
  rw[X6 hw];exact Dp hs hb hN h3 fun v g' w' h4 h5 h6 h7=>hK g' _ w' (gN hs h6 h5 h2 h4 _) h6 h7
 | some jw =>
  obtain⟨j,want⟩:=jw;rw[hg] at hok hK;simp only at hok hK;obtain⟨_,h2,h3,h4,h5⟩:=hok;have hgv:=Uh hs (want:=want) h3;have hwt:Region.wanted o (yielded ops a.tmps)=gD (((ops.toList[j]?).bind (·.dst)).elim .junk s.t) want:=by simp only[Region.wanted,hg];exact hgv
  rw[hwt];generalize gD (((ops.toList[j]?).bind (·.dst)).elim .junk s.t) want=gv at *
  cases gv with
  | false =>
   rw[XZ (by simp)]
   exact⟨fun _ _=>trivial,hK g _ w (M5 hs h2 _ _) (Mono.refl g w) fun _ h=>.inl h⟩
  | true =>
   rw[X6 rfl];have he:(aL P (words P) C true o.op ((aQ o.op).map s.ev) s.h (b+i)).2.1=s.h:=by
    unfold aL
    split
    .
     rfl
    exact Dn h4
   refine Dp hs hb hN (h5 rfl) fun v g' w' q1 q2 q3 q4=>?_
   rw[he] at q2;exact hK g' _ w' (gN hs q3 q2 h2 (.cond true _ v (fun _=>q1) (fun h=>by cases h)) _) q3 q4
theorem zU [Glob P] {W:Words}{L:List Oper}{b i:Nat}{o:Oper}{s:S}(h:(bu P W C L b i o s).ok):s.ok:=by
 unfold bu at h
 split at h
 .
  exact h.1
 exact h.1
theorem exec1_n [Glob P] {W:Words}{L:List Oper}{b i:Nat}{o:Oper}{s:S}:(bu P W C L b i o s).n=s.n/\(bu P W C L b i o s).nx=s.nx:=by
 unfold bu
 split<;>exact⟨rfl,rfl⟩
theorem zR [Glob P] {W:Words}{L:List Oper}{b:Nat}:∀ {os:List Oper}{i:Nat}{s:S},(aF P W C L b i os s).ok->s.ok
 | [],_,_,h=>h
 | _::_,_,_,h=>zU (zR (by exact h))
theorem UY [Glob P] {ops:Array Oper}{b:Nat}{ro:Option Nat}{n:Nat}{Q:Exit->Act->World->Prop}{w0:World}{g0:Mem}:∀ (k i:Nat) (s:S) (g:Mem) (a:Act) (w:World),St P B s g a w->Mono g0 g w0 w->(∀ r,g.U r->r<b+i) ->
  i+k=ops.size->(aF P (words P) C ops.toList b i (ops.toList.drop i) s).ok ->
  (∀ g' a' w',St P B (aF P (words P) C ops.toList b i (ops.toList.drop i) s) g' a' w'->Mono g0 g' w0 w'->(∀ r,g'.U r->r<b+ops.size)->Q .normal a' w') ->
  wpOpsIn (Fw ro) n P ops Q (List.range' i k) a w:=by
 intro k
 induction k with
 | zero =>
  intro i s g a w hs hm hU hk hok hQ;have:ops.toList.drop i=[]:=YU (by simp;omega)
  rw[this] at hQ;exact hQ g a w hs hm (fun r hr=>by have:=hU r hr;omega)
 | succ k ih =>
  intro i s g a w hs hm hU hk hok hQ;have hlt:i<ops.size:=by omega
  have hd:ops.toList.drop i=ops[i]::ops.toList.drop (i+1):=by rw[Yy (by simpa using hlt)];simp
  rw[hd] at hok hQ;simp only[aF] at hok hQ;rw[Y0,wpOpsIn_cons];refine zT hs (b:=b) (N:=b+i) (fun h=>by have:=hU _ h;omega) hU (by simp[hlt]) (zR hok) fun g' a' w' h1 h2 h3=>?_
  exact ih (i+1) _ g' a' w' h1 (hm.trans h2) (fun r hr=>by
                                 rcases h3 r hr with h|h;· have:=hU r h;omega
                                 omega) om hok hQ
end Go.DL
namespace Go.DL
open Go.RowKit
variable {P : Program} {C : Con} {B : Bot}
def Nf:Operand->Option Tmp
 | .tmp t=>some t
 | _=>none
def looks (L:List Oper) (o:Oper):List Tmp :=
 (aQ o.op).filterMap Nf++(match o.guard with|some (j,_)=>((L[j]?).bind (·.dst)).toList|none=>[])
def meets:Cls->Cls->Bool
 | .none,_|_,.none=>false
 | .reads,.reads=>false
 | _,_=>true
def qV (C:Con) (L:List Oper) (x y:Oper):Bool :=
 (match x.dst with|some d=>!(looks L y).contains d&&y.dst != some d|none=>true) &&
 (match y.dst with|some d=>!(looks L x).contains d|none=>true) && !meets (aT C x.op) (aT C y.op)
def maker (o:Oper):Bool:=(match o.op with | .alloc _ | .box _ _ | .makeSlice .. | .buildSlice .. => true|_=>false)&&o.guard.isNone
def rG (op:Op):Bool:=match op with
 | .load .. | .indexAddr .. | .slice .. | .lookup .. => true
 | _=>false
def reader (o:Oper):Bool:=rG o.op&&o.guard.isNone
def Ak (C:Con) (o:Oper):Bool:=match o.op with
 | .call { callee:=.value f,.. }=>wu f
 | _=>true
def fU (L:List Oper) (x y:Oper):Bool :=
 (match x.dst with|some d=>!(looks L y).contains d&&y.dst != some d|none=>true) &&
 (match y.dst with|some d=>!(looks L x).contains d|none=>true)
def iB (C:Con) (L:List Oper) (x y:Oper):Bool :=
 qV C L x y||(fU L x y&&L.all (Ak C)&&((maker x&&reader y)||(reader x&&maker y)||(maker x&&maker y)))
def Al (acc:List Nat) (o:Oper):Nat:=o.after.toList.foldl (fun s e=>if Region.binds .any e then s ||| 2^e.on ||| acc.getD e.on 0 else s) 0
def bK:List Oper->List Nat->List Nat
 | [],acc=>acc
 | o::os,acc=>bK os (acc++[Al acc o])
def jr (C:Con) (L:List Oper):Bool :=
 let B:=bK L []
 (List.range L.length).all fun i=>(List.range i).all fun j=>(B.getD i 0).testBit j||iB C L (L.getD j default) (L.getD i default)
theorem L8 : ∀ (os:List Oper) (acc:List Nat),∃ B,bK os acc=acc++B/\B.length=os.length /\ ∀ (k:Nat) o,os[k]? = some o->B[k]? = some (Al (acc++B.take k) o)
 | [],acc=>⟨[],by simp[bK],rfl,fun k o h=>by simp at h⟩
 | o::os,acc=>by
  obtain⟨B,h1,h2,h3⟩:=L8 os (acc++[Al acc o]);refine⟨Al acc o::B,by simp[bK,h1],by simp[h2],fun k o' hk=>?_⟩
  cases k with
  | zero=>simp at hk;subst hk;simp
  | succ k =>
   simp at hk
   have:=h3 k o' hk
   simpa using this
theorem J9 (acc:List Nat) (j:Nat):∀ (es:List Edge) (s:Nat),(es.foldl (fun s e=>if Region.binds .any e then s ||| 2^e.on ||| acc.getD e.on 0 else s) s).testBit j=true ->
  s.testBit j=true \/ ∃ e∈es,Region.binds .any e=true/\(e.on=j\/(acc.getD e.on 0).testBit j=true)
 | [],s,h=>.inl h
 | e::es,s,h=>by
  simp only[YO] at h
  rcases J9 acc j es _ h with h|⟨e',h1,h2,h3⟩
  .
   split at h
   .
    rename_i hb
    simp only[Nat.testBit_or,Yd] at h
    rcases h with (h|h)|h
    .
     exact .inl h
    .
     rw[Nat.testBit_two_pow] at h;exact .inr ⟨e,by simp,hb,.inl (by simpa using h)⟩
    exact .inr ⟨e,by simp,hb,.inr h⟩
   exact .inl h
  exact .inr ⟨e',by simp[h1],h2,h3⟩
theorem pg {L:List Oper}{X:Nat->Prop}(hX : ∀ (i:Nat) o,L[i]? = some o->X i -> ∀ e∈o.after.toList,Region.binds .any e=true->X e.on) :
  ∀ (i:Nat) o,L[i]? = some o->(∀ e∈o.after.toList,Region.binds .any e=true->X e.on) -> ∀ j,((bK L []).getD i 0).testBit j=true->X j:=by
 obtain⟨BB,h1,h2,h3⟩:=L8 L []
 simp only[X3] at h1 h3
 rw[h1]
 intro i
 induction i using Nat.strongRecOn with
 | _ i ih =>
  intro o hi hp j hj;have hBi:=h3 i o hi;rw[List.getD,hBi,YT] at hj
  rcases J9 _ j _ _ hj with h|⟨e,he,hb,h⟩
  .
   simp at h
  rcases h with rfl|h
  .
   exact hp e he hb
  rw[List.getD,YY] at h
  split at h
  .
   rename_i hlt
   have hlB:i<BB.length:=by have:=(Ya.1 hBi).1;exact this
   have hlL:e.on<L.length:=by omega
   exact ih e.on hlt L[e.on] (by simp) (hX e.on _ (by simp) (hp e he hb)) j h
  simp at h
def aM (P:Program) [Glob P] (W:Words) (C:Con) (L:List Oper) (b i:Nat) (o:Oper) (n:Nat) (ev:Operand->D) (t:Nat->D) (h:H):D×H×Prop :=
 match o.guard with
 | none=>let r:=aL P W C true o.op ((aQ o.op).map ev) h (b+i);(r.1,r.2.1,bB n o.dst=true/\r.2.2)
 | some (j,want) =>
  let gd:=((L[j]?).bind (·.dst)).elim .junk t
  let r:=aL P W C (gD gd want) o.op ((aQ o.op).map ev) h (b+i)
  (.cond (gD gd want) r.1,h,bB n o.dst=true/\kX gd=true/\aT C o.op ≠ .writes/\(gD gd want=true->r.2.2))
theorem jP [Glob P] {W:Words}{L:List Oper}{b i:Nat}{o:Oper}{s:S}:bu P W C L b i o s =
  { s with t:=s.put o.dst (aM P W C L b i o s.n s.ev s.t s.h).1,h:=(aM P W C L b i o s.n s.ev s.t s.h).2.1,ok:=s.ok/\(aM P W C L b i o s.n s.ev s.t s.h).2.2 }:=by
 unfold bu aM
 cases o.guard<;>rfl
theorem vO [Glob P] {W:Words}{L:List Oper}{b i:Nat}{o:Oper}{s s':S}{n:Nat}{h:H}(he : ∀ x∈looks L o,s.t x=s'.t x):aM P W C L b i o n s.ev s.t h=aM P W C L b i o n s'.ev s'.t h:=by
 have h1:(aQ o.op).map s.ev=(aQ o.op).map s'.ev:=by
  refine Zz fun x hx=>?_
  cases x with
  | tmp t=>exact he t (Yx.2 (.inl (Z9.2 ⟨.tmp t,hx,rfl⟩)))
  | _=>rfl
 unfold aM
 cases hg:o.guard with
 | none=>simp only[h1]
 | some jw =>
  obtain⟨j,want⟩:=jw;have h2:((L[j]?).bind (·.dst)).elim D.junk s.t=((L[j]?).bind (·.dst)).elim D.junk s'.t:=by
   cases hd:(L[j]?).bind (·.dst) with
   | none=>rfl
   | some d=>exact he d (Yx.2 (.inr (by rw[hg];simp[hd])))
  simp only[h1,h2]
theorem U8 [Glob P] {W:Words}{op:Op}{xs:List D}{h h':H}{b:Nat}(hc:aT C op = .none):aN P W C op xs h b=((aN P W C op xs h' b).1,h,(aN P W C op xs h' b).2.2):=by
 unfold aN
 split<;>first
  | rfl
  | (exfalso;exact Cls.noConfusion hc)
  | skip
 .
  rename_i t n ps
  have hb:C.bs=false:=by
   cases hb:C.bs with
   | false=>rfl
   | true=>simp[aT,hb] at hc
  simp only[hb,Ym,Y9];rfl
 rename_i f args argTypes
 have hcf:C.cf=true:=by
  cases hcf:C.cf with
  | true=>rfl
  | false=>simp[aT,hcf,wu] at hc
 unfold fQ
 split
 .
  simp only[hcf,ZK]
  split<;>rfl
 .
  simp only[hcf,ZK]
  split<;>rfl
 rfl
theorem KA [Glob P] {W:Words}{g:Bool}{op:Op}{xs:List D}{h h':H}{b:Nat}(hc:aT C op = .none):aL P W C g op xs h b=((aL P W C g op xs h' b).1,h,(aL P W C g op xs h' b).2.2):=by
 unfold aL
 split
 .
  rfl
 simp only
 rw[U8 (h:=h) (h':=h') hc]
theorem BQ [Glob P] {W:Words}{L:List Oper}{b i:Nat}{o:Oper}{ev:Operand->D}{t:Nat->D}{n:Nat}{h h':H}(hc:aT C o.op = .none) :
  aM P W C L b i o n ev t h=((aM P W C L b i o n ev t h').1,h,(aM P W C L b i o n ev t h').2.2):=by
 unfold aM
 cases o.guard with
 | none=>simp only;rw[KA (h:=h) (h':=h') hc]
 | some jw=>simp only;rw[KA (h:=h) (h':=h') hc]
theorem ug [Glob P] {W:Words}{L:List Oper}{b i:Nat}{o:Oper}{ev:Operand->D}{t:Nat->D}{n:Nat}{h:H}(hc:aT C o.op ≠ .writes):(aM P W C L b i o n ev t h).2.1=h:=by
 unfold aM
 cases o.guard with
 | none =>
  simp only;unfold aL
  split
  .
   rfl
  exact Dn hc
 | some jw=>rfl
theorem Sg {y:Cls}(h:meets .writes y=false):y = .none:=by cases y<;>simp[meets] at h ⊢
theorem Sd {x:Cls}(h:meets x .writes=false):x = .none:=by cases x<;>simp[meets] at h ⊢
theorem zS [Glob P] {W:Words}{L:List Oper}{b i j:Nat}{x y:Oper}{s:S}(hs:fU L x y=true)
  (key : ∀ (rx ry:D) (hx hy:H) (px py:Prop),(aM P W C L b i x s.n s.ev s.t s.h)=(rx,hx,px)->(aM P W C L b j y s.n s.ev s.t s.h)=(ry,hy,py) ->
   ∃ hz,aM P W C L b j y s.n s.ev s.t hx=(ry,hz,py)/\aM P W C L b i x s.n s.ev s.t hy=(rx,hz,px)):bu P W C L b j y (bu P W C L b i x s)=bu P W C L b i x (bu P W C L b j y s):=by
 simp only[fU,XW] at hs
 obtain⟨h1,h2⟩:=hs
 have nx : ∀ d,x.dst=some d->d ∉ looks L y/\y.dst≠some d:=by
  intro d hd;rw[hd] at h1;simp only[XW,Ye,ZL] at h1;exact⟨by simpa using h1.1,h1.2⟩
 have ny : ∀ d,y.dst=some d->d ∉ looks L x:=by
  intro d hd;rw[hd] at h2
  simpa using h2
 have look : ∀ {u:Oper} {s:S} {dst:Option Tmp} {r:D},(∀ d,dst=some d->d ∉ looks L u) -> ∀ z∈looks L u,s.t z=(S.put s dst r) z:=by
  intro u s dst r hd z hz
  cases dst with
  | none=>rfl
  | some d=>exact (upd_ne _ _ _ _ (fun e=>hd d rfl (by rw[<- e];exact hz))).symm
 have ly : ∀ {h':H} {ok':Prop} {r:D} {n:Nat} {h:H},aM P W C L b j y n (S.ev { s with t:=s.put x.dst r,h:=h',ok:=ok' }) (s.put x.dst r) h=aM P W C L b j y n s.ev s.t h :=
  fun {h' ok' r n h}=>(vO (s:=s) (s':={ s with t:=s.put x.dst r,h:=h',ok:=ok' }) (look fun d hd=>(nx d hd).1)).symm
 have lx : ∀ {h':H} {ok':Prop} {r:D} {n:Nat} {h:H},aM P W C L b i x n (S.ev { s with t:=s.put y.dst r,h:=h',ok:=ok' }) (s.put y.dst r) h=aM P W C L b i x n s.ev s.t h :=
  fun {h' ok' r n h}=>(vO (s:=s) (s':={ s with t:=s.put y.dst r,h:=h',ok:=ok' }) (look fun d hd=>ny d hd)).symm
 rw[jP (s:=s) (o:=x),jP (s:=s) (o:=y),jP (o:=y),jP (o:=x)]
 simp only[ly,lx]
 have hput : ∀ r q,S.put { s with t:=s.put x.dst r } y.dst q=S.put { s with t:=s.put y.dst q } x.dst r:=by
  intro r q
  cases hx:x.dst with
  | none=>rfl
  | some d =>
   cases hy:y.dst with
   | none=>rfl
   | some d' =>
    have hne:d≠d':=fun e=>(nx d hx).2 (by rw[hy,e])
    funext z
    simp only[S.put,upd]
    by_cases e1:z=d
    .
     have:z≠d':=fun e=>hne (e1 ▸ e)
     simp[e1,hne]
    simp[e1]
 have hput' : ∀ r q h1 ok1 h2 ok2,S.put { s with t:=s.put x.dst r,h:=h1,ok:=ok1 } y.dst q=S.put { s with t:=s.put y.dst q,h:=h2,ok:=ok2 } x.dst r:=fun r q _ _ _ _=>hput r q
 rcases hox:aM P W C L b i x s.n s.ev s.t s.h with⟨rx,hx,px⟩
 rcases hoy:aM P W C L b j y s.n s.ev s.t s.h with⟨ry,hy,py⟩
 obtain⟨hz,k1,k2⟩:=key rx ry hx hy px py hox hoy
 simp only[k1,k2]
 congr 1
 .
  exact hput' _ _ _ _ _ _
 exact propext ⟨fun ⟨⟨a,b⟩,c⟩=>⟨⟨a,c⟩,b⟩,fun ⟨⟨a,b⟩,c⟩=>⟨⟨a,c⟩,b⟩⟩
theorem Ko [Glob P] {W:Words}{L:List Oper}{b i j:Nat}{x y:Oper}{s:S}(ha:qV C L x y=true):bu P W C L b j y (bu P W C L b i x s)=bu P W C L b i x (bu P W C L b j y s):=by
 simp only[qV,XW,Ye] at ha
 obtain⟨⟨h1,h2⟩,h3⟩:=ha
 refine zS (by simp only[fU,XW];exact⟨h1,h2⟩) ?_
 generalize hX:aT C x.op=cx at h3
 generalize hY:aT C y.op=cy at h3
 intro rx ry hx hy px py e1 e2
 have ex:hx=(aM P W C L b i x s.n s.ev s.t s.h).2.1:=by rw[e1]
 have ey:hy=(aM P W C L b j y s.n s.ev s.t s.h).2.1:=by rw[e2]
 by_cases c1:cx = .writes
 .
  have c2:cy = .none:=Sg (c1 ▸ h3);subst c2;rw[ug (by rw[hY];simp)] at ey
  subst ey;refine⟨hx,?_,e1⟩;rw[BQ (h:=hx) (h':=s.h) hY,e2]
 rw[ug (by rw[hX];exact c1)] at ex
 subst ex
 by_cases c2:cy = .writes
 .
  have c3:cx = .none:=Sd (c2 ▸ h3);refine⟨hy,e2,?_⟩;rw[BQ (h:=hy) (h':=s.h) (by rw[hX,c3]),e1]
 rw[ug (by rw[hY];exact c2)] at ey
 subst ey
 exact⟨s.h,e2,e1⟩
def aJ (P:Program) [Glob P] (W:Words) (C:Con) (L:List Oper) (b:Nat) (s:S) (i:Nat):S:=match L[i]? with
 | some o=>bu P W C L b i o s
 | none=>s
theorem rC [Glob P] {W:Words}{L:List Oper}{b:Nat}:∀ {l:List Nat}{s:S},(l.foldl (aJ P W C L b) s).ok->s.ok
 | [],_,h=>h
 | i::l,s,h=>by
  have h1:=rC (l:=l) h;unfold aJ at h1
  split at h1
  .
   exact zU h1
  exact h1
theorem UZ [Glob P] {W:Words}{L:List Oper}{b:Nat}:∀ (k i:Nat) (s:S),i+k=L.length->aF P W C L b i (L.drop i) s=(List.range' i k).foldl (aJ P W C L b) s:=by
 intro k
 induction k with
 | zero =>
  intro i s hk;rw[YU (by omega)]
  simp[aF]
 | succ k ih =>
  intro i s hk;have hlt:i<L.length:=by omega
  rw[Yy hlt,Y0];simp only[aF,YO];rw[ih (i+1) _ (by omega)]
  congr 1
  simp[aJ,hlt]
def named (n:Nat):D->Bool
 | .mrow r _ _=>r==n
 | .mptr r _ _=>r==n
 | .mp r=>r==n
 | _=>false
theorem Td {a:D}{h:H}{n:Nat}{bl:Blk}(hn:named n a=false):nY (upd h n (some bl)) a=nY h a:=by
 cases a with
 | mp r =>
  have:r≠n:=by simpa [named] using hn
  show (upd h n (some bl) r).bind jm=(h r).bind jm
  rw[upd_ne _ _ _ _ this]
 | _=>rfl
theorem IK [Glob P] {t:TypeId}{ok:Bool}{m k:D}{h:H}{n:Nat}{bl:Blk}(hn:named n m=false):jM P t ok m k (upd h n (some bl))=jM P t ok m k h:=by
 unfold jM
 rw[Td hn]
theorem SF {a:D}{h:H}{n:Nat}{bl:Blk}(hn:named n a=false):dP a (upd h n (some bl))=dP a h:=by
 cases a with
 | mptr r i off =>
  have:r≠n:=by simpa [named] using hn
  simp only[dP,upd_ne _ _ _ _ this]
 | _=>rfl
theorem IW [Glob P] {a:D}{h:H}{n:Nat}{bl:Blk}(hn:named n a=false):fD P a (upd h n (some bl))=fD P a h:=by
 unfold fD
 split
 .
  rfl
 exact SF hn
theorem Jv [Glob P] {t:TypeId}{x ix:D}{h:H}{n:Nat}{bl:Blk}(hn:named n x=false):fG P t x ix (upd h n (some bl))=fG P t x ix h:=by
 unfold fG
 cases bf P t with
 | none=>rfl
 | some e =>
  cases x with
  | mrow r off len =>
   have:r≠n:=by simpa [named] using hn
   cases ix with
   | v y=>cases y<;>first|rfl|simp only[upd_ne _ _ _ _ this]
   | _=>rfl
  | list f rows =>
   cases ix with
   | v y=>cases y<;>rfl
   | _=>rfl
  | _=>cases ix<;>rfl
theorem Fg [Glob P] {t:TypeId}{x:D}{l hh m:Option D}{h:H}{n:Nat}{bl:Blk}(hn:named n x=false):iY P t x l hh m (upd h n (some bl))=iY P t x l hh m h:=by
 cases x with
 | mrow r off len =>
  have:r≠n:=by simpa [named] using hn
  simp only[iY,upd_ne _ _ _ _ this]
 | v y=>cases y<;>rfl
 | list f rows=>simp only[iY]
 | _=>rfl
theorem yw {op:Op}(hc:rG op=true):(∃ t x,op = .load t x)\/(∃ t x y,op = .indexAddr t x y)\/(∃ t x l hh m,op = .slice t x l hh m)\/(∃ t m k ok,op = .lookup t m k ok):=by
 unfold rG at hc
 split at hc<;>first
  | cases hc
  | skip
 .
  exact .inl ⟨_,_,rfl⟩
 .
  exact .inr (.inl ⟨_,_,_,rfl⟩)
 .
  exact .inr (.inr (.inl ⟨_,_,_,_,_,rfl⟩))
 exact .inr (.inr (.inr ⟨_,_,_,_,rfl⟩))
theorem P5 [Glob P] {W:Words}{op:Op}{xs:List D}{h:H}{n b:Nat}{bl:Blk}(hc:rG op=true) (hn : ∀ d∈xs,named n d=false) :
  aN P W C op xs (upd h n (some bl)) b=((aN P W C op xs h b).1,upd h n (some bl),(aN P W C op xs h b).2.2):=by
 rcases yw hc with⟨t,x,rfl⟩|⟨t,x,y,rfl⟩|⟨t,x,l,hh,m,rfl⟩|⟨t,m,k,ok,rfl⟩
 .
  match xs,hn with
  | [],_=>rfl
  | [a],hn=>simp only[aN,still,lN,IW (hn a (by simp))]
  | _::_::_,_=>rfl
 .
  match xs,hn with
  | [],_=>rfl
  | [_],_=>rfl
  | [a,c],hn=>simp only[aN,still,Jv (hn a (by simp))]
  | _::_::_::_,_=>rfl
 .
  match xs,hn with
  | [],_=>rfl
  | a::al9,hn=>simp only[aN,still,Fg (hn a (by simp))]
 match xs,hn with
 | [],_=>rfl
 | [_],_=>rfl
 | [a,c],hn=>simp only[aN,still,IK (hn a (by simp))]
 | _::_::_::_,_=>rfl
theorem yZ {a:D}{n:Nat}(hn:named n a=true):(∃ off len,a = .mrow n off len)\/(∃ i off,a = .mptr n i off)\/a = .mp n:=by
 cases a with
 | mrow r off len =>
           have:r=n:=by simpa [named] using hn
           subst this;exact .inl ⟨_,_,rfl⟩
 | mptr r i off =>
          have:r=n:=by simpa [named] using hn
          subst this;exact .inr (.inl ⟨_,_,rfl⟩)
 | mp r =>
      have:r=n:=by simpa [named] using hn
      subst this;exact .inr (.inr rfl)
 | _=>cases hn
theorem PY [Glob P] {W:Words}{op:Op}{xs:List D}{h:H}{n b:Nat}{bl:Blk}(hc:rG op=true) (hno:h n=none) (hok:(aN P W C op xs h b).2.2) :
  aN P W C op xs (upd h n (some bl)) b=((aN P W C op xs h b).1,upd h n (some bl),(aN P W C op xs h b).2.2):=by
 rcases yw hc with⟨t,x,rfl⟩|⟨t,x,y,rfl⟩|⟨t,x,l,hh,m,rfl⟩|⟨t,m,k,ok,rfl⟩
 .
  match xs,hok with
  | [a],hok =>
   cases hna:named n a with
   | false=>simp only[aN,still,lN,IW hna]
   | true =>
    exfalso
    simp only[aN,still,lN] at hok;obtain⟨q1,q2,_⟩:=hok
    rcases yZ hna with⟨off,len,rfl⟩|⟨i,off,rfl⟩|rfl<;>simp[fD,dP,hno] at q1<;>omega
 .
  match xs,hok with
  | [a,c],hok =>
   cases hna:named n a with
   | false=>simp only[aN,still,Jv hna]
   | true =>
    rcases yZ hna with⟨off,len,rfl⟩|⟨i,off,rfl⟩|rfl
    .
     exfalso
     simp only[aN,still] at hok;unfold fG at hok
     split at hok
     .
      unfold oz at hok
      split at hok
      .
       exact absurd hok.1 (by simp[ol])
      exact hok
     split at hok
     .
      rename_i e;cases e
     .
      rename_i e;cases e
      rw[hno] at hok;exact hok.2.2.2
     exact hok
    .
     have e : ∀ h',fG P t (.mptr n i off) c h'=fG P t (.mptr n i off) c h:=by
      intro h';unfold fG
      cases bf P t<;>rfl
     simp only[aN,still,e]
    exfalso
    simp only[aN,still] at hok;unfold fG at hok
    split at hok
    .
     unfold oz at hok
     split at hok
     .
      exact absurd hok.1 (by simp[ol])
     exact hok
    exact hok
 .
  match xs,hok with
  | a::al9,hok =>
   cases hna:named n a with
   | false=>simp only[aN,still,Fg hna]
   | true =>
    exfalso
    simp only[aN,still] at hok
    rcases yZ hna with⟨off,len,rfl⟩|⟨i,off,rfl⟩|rfl
    .
     simp only[iY] at hok
     split at hok
     .
      exact hok
     simp only[hno] at hok;exact hok.2.2.2
    .
     exact hok
    exact hok
 match xs,hok with
 | [a,c],hok =>
  cases hna:named n a with
  | false=>simp only[aN,still,IK hna]
  | true =>
   exfalso
   simp only[aN,still] at hok
   rcases yZ hna with⟨off,len,rfl⟩|⟨i,off,rfl⟩|rfl
   .
    unfold jM at hok
    split at hok
    .
     rename_i e;cases e
    exact hok
   .
    unfold jM at hok
    split at hok
    .
     rename_i e;cases e
    exact hok
   unfold jM at hok
   split at hok
   .
    rename_i e
    simp only[nY,hno] at e
    cases e
   exact hok
theorem Sn [Glob P] {W:Words}{op:Op}(hm:(match op with | .alloc _ | .box _ _ | .makeSlice .. | .buildSlice .. => true|_=>false)=true) (xs:List D) (b:Nat) :
  ∃ r p,(∃ bl,∀ h,aN P W C op xs h b=(r,upd h b (some bl),p)) \/ ∀ h,aN P W C op xs h b=(r,h,p):=by
 cases op with
 | alloc e =>
  match xs with
  | []=>exact⟨_,_,.inl ⟨_,fun h=>rfl⟩⟩
  | _::_=>exact⟨_,_,.inr fun h=>rfl⟩
 | box e x =>
  match xs with
  | []=>exact⟨_,_,.inr fun h=>rfl⟩
  | [a]=>exact⟨_,_,.inl ⟨_,fun h=>rfl⟩⟩
  | _::_::_=>exact⟨_,_,.inr fun h=>rfl⟩
 | buildSlice t n ps =>
  cases hb:C.bs with
  | false=>exact⟨_,_,.inr fun h=>by simp only[aN,hb,Ym,Y9,still];rfl⟩
  | true =>
   cases he:bf P t with
   | none=>exact⟨_,_,.inr fun h=>by simp only[aN,hb,ZK,lu,he];rfl⟩
   | some e=>exact⟨_,_,.inl ⟨_,fun h=>by simp only[aN,hb,ZK,lu,he];rfl⟩⟩
 | makeSlice t x y =>
  match xs with
  | []=>exact⟨_,_,.inr fun h=>rfl⟩
  | [_]=>exact⟨_,_,.inr fun h=>rfl⟩
  | _::_::_::_=>exact⟨_,_,.inr fun h=>rfl⟩
  | [a,c] =>
   have key : ∃ r p,(∃ bl,∀ h,jh P t h b a c=(r,upd h b (some bl),p)) \/ ∀ h,jh P t h b a c=(r,h,p):=by
    by_cases hm : ∃ k n k' m,a = .v (.int k n)/\c = .v (.int k' m)
    .
     obtain⟨k,n,k',m,rfl,rfl⟩:=hm
     cases he:bf P t with
     | none=>exact⟨_,_,.inr fun h=>by simp only[jh,he];rfl⟩
     | some e=>exact⟨_,_,.inl ⟨_,fun h=>by simp only[jh,he];rfl⟩⟩
    refine⟨.junk,False,.inr fun h=>?_⟩
    unfold jh
    split
    .
     exact absurd ⟨_,_,_,_,rfl,rfl⟩ hm
    rfl
   exact key
 | _=>cases hm
theorem Ka [Glob P] {W:Words}{L:List Oper}{b i:Nat}:∀ (pre:List Nat) (s:S),(∀ j∈pre,∀ x y,L[j]? = some x->L[i]? = some y->qV C L x y=true) ->
  aJ P W C L b (pre.foldl (aJ P W C L b) s) i=pre.foldl (aJ P W C L b) (aJ P W C L b s i)
 | [],s,_=>rfl
 | j::pre,s,h=>by
  simp only[YO];rw[Ka pre _ (fun j' hj'=>h j' (by simp[hj']))]
  congr 1
  unfold aJ
  cases hj:L[j]? with
  | none=>rfl
  | some x =>
   cases hi:L[i]? with
   | none=>rfl
   | some y=>exact Ko (h j (by simp) x y hj hi)
theorem y9 [Glob P] {W:Words}{L:List Oper}{b i:Nat}{o:Oper}{ev:Operand->D}{t:Nat->D}{n:Nat}(hm:maker o=true) :
  ∃ r p,(∃ bl,∀ h,aM P W C L b i o n ev t h=(r,upd h (b+i) (some bl),p)) \/ ∀ h,aM P W C L b i o n ev t h=(r,h,p):=by
 simp only[maker,XW,Zb] at hm
 obtain⟨h1,h2⟩:=hm
 have hp:bX o.op=false:=by cases ho:o.op<;>rw[ho] at h1<;>first|rfl|cases h1
 obtain⟨r,p,h⟩:=Sn (P:=P) (C:=C) (W:=W) h1 (((aQ o.op).map ev).map sd) (b+i)
 refine⟨r,bB n o.dst=true/\((true:Bool)=true->((aQ o.op).map ev).all sg=true)/\p,?_⟩
 rcases h with⟨bl,h⟩|h
 .
  refine .inl ⟨bl,fun hh=>?_⟩
  unfold aM;simp only[h2];unfold aL;simp only[hp,Ym,Y9,h]
 refine .inr fun hh=>?_
 unfold aM
 simp only[h2]
 unfold aL
 simp only[hp,Ym,Y9,h]
theorem Bw {op:Op}(hc:rG op=true):bX op=false:=by
 rcases yw hc with⟨t,x,rfl⟩|⟨t,x,y,rfl⟩|⟨t,x,l,hh,m,rfl⟩|⟨t,m,k,ok,rfl⟩<;>rfl
theorem yx {o:Oper}(hr:reader o=true):rG o.op=true/\o.guard=none:=by
 simp only[reader,XW,Zb] at hr
 exact hr
theorem Gj {o:Oper}(hr:reader o=true):aT C o.op ≠ .writes:=by
 rcases yw (yx hr).1 with⟨t,x,e⟩|⟨t,x,y,e⟩|⟨t,x,l,hh,m,e⟩|⟨t,m,k,ok,e⟩<;>simp[e,aT]
theorem Gi [Glob P] {W:Words}{L:List Oper}{b i m:Nat}{o:Oper}{ev:Operand->D}{t:Nat->D}{n:Nat}{h:H}{bl:Blk}(hr:reader o=true)
  (hn:(∀ d∈(aQ o.op).map ev,named m (sd d)=false)\/(h m=none/\(aM P W C L b i o n ev t h).2.2)) :
  aM P W C L b i o n ev t (upd h m (some bl))=((aM P W C L b i o n ev t h).1,upd h m (some bl),(aM P W C L b i o n ev t h).2.2):=by
 obtain⟨hc,hg⟩:=yx hr
 have hp:=Bw hc
 have key:aN P W C o.op (((aQ o.op).map ev).map sd) (upd h m (some bl)) (b+i)=((aN P W C o.op (((aQ o.op).map ev).map sd) h (b+i)).1,upd h m (some bl),(aN P W C o.op (((aQ o.op).map ev).map sd) h (b+i)).2.2):=by
  rcases hn with hn|⟨h1,h2⟩
  .
   refine P5 hc fun d hd=>?_
   obtain⟨d',h1,rfl⟩:=Y5.1 hd;exact hn d' h1
  refine PY hc h1 ?_;simp only[aM,hg,aL,hp,Ym,Y9] at h2;exact h2.2.2
 simp only[aM,hg,aL,hp,Ym,Y9,key]
theorem EM [Glob P] {t:TypeId}{m k x:D}{h:H}{r:Nat}(hn:h r=none):(ma P t m k x h).1 r=none:=by
 unfold ma
 split
 .
  split
  .
   rename_i q bl hq
   split
   .
    exact (upd_ne _ _ _ _ (fun e=>by subst e;rw[hn] at hq;cases hq)).trans hn
   exact hn
  exact hn
 exact hn
theorem Va [Glob P] {W:Words}{op:Op}{xs:List D}{h:H}{b r:Nat}(hc:(match op with | .call { callee:=.value f,.. }=>wu f|_=>true)=true) (hr:r≠b) (hn:h r=none):(aN P W C op xs h b).2.1 r=none:=by
 by_cases hw:aT C op ≠ .writes
 .
  rw[Dn hw];exact hn
 have hw:aT C op = .writes:=by simpa using hw
 cases op with
 | alloc e =>
  match xs with
  | []=>simp only[aN,upd_ne _ _ _ _ hr];exact hn
  | _::_=>exact hn
 | box e x =>
  match xs with
  | []=>exact hn
  | [a]=>simp only[aN,upd_ne _ _ _ _ hr];exact hn
  | _::_::_=>exact hn
 | buildSlice t n ps =>
  have hb:C.bs=true:=by
   cases hb:C.bs with
   | true=>rfl
   | false=>simp[aT,hb] at hw
  simp only[aN,hb,ZK,lu]
  split
  .
   simp only[upd_ne _ _ _ _ hr];exact hn
  exact hn
 | store t x y =>
  match xs with
  | []=>exact hn
  | [_]=>exact hn
  | _::_::_::_=>exact hn
  | [a,x] =>
   simp only[aN,lH]
   cases a with
   | mptr r' i off =>
    simp only
    cases hq:h r' with
    | none=>exact hn
    | some bl =>
     have:r≠r':=fun e=>by subst e;rw[hn] at hq;cases hq
     simp only[upd_ne _ _ _ _ this];exact hn
   | _=>exact hn
 | makeMap t ro=>simp only[aN,rU,upd_ne _ _ _ _ hr];exact hn
 | makeSlice t x y =>
  match xs with
  | []|[_]|_::_::_::_=>exact hn
  | [a,c] =>
   simp only[aN];unfold jh
   split
   .
    split
    .
     simp only[upd_ne _ _ _ _ hr];exact hn
    exact hn
   exact hn
 | mapUpdate t m k x =>
  match xs with
  | []|[_]|[_,_]|_::_::_::_::_=>exact hn
  | [a,c,d]=>exact EM hn
 | insert t m k x =>
  match xs with
  | []|[_]|[_,_]|_::_::_::_::_=>exact hn
  | [a,c,d]=>exact EM hn
 | call c =>
  obtain⟨callee,args,ts⟩:=c
  cases callee with
  | value f =>
   simp only at hc
   cases hcf:C.cf<;>simp[aT,hc,hcf] at hw
  | builtin bi =>
   cases bi with
   | append =>
    match xs with
    | []=>exact hn
    | [_]=>exact hn
    | _::_::_::_=>exact hn
    | [x,y] =>
     simp only[aN]
     split
     .
      simp only[kI]
      split
      .
       exact hn
      split
      .
       simp only[upd_ne _ _ _ _ hr];exact hn
      .
       rename_i r' n'
       cases hq:h r' with
       | none=>exact hn
       | some bl =>
        simp only[upd_ne _ _ _ _ hr]
        by_cases e:r=r'
        .
         subst e;exact upd_same _ _ _
        rw[upd_ne _ _ _ _ e];exact hn
      exact hn
     exact hn
   | _=>simp[aT] at hw
  | _=>simp[aT] at hw
 | _=>simp[aT] at hw
theorem U0 [Glob P] {W:Words}{L:List Oper}{b i r:Nat}{o:Oper}{s:S}(hc:Ak C o=true) (hr:r≠b+i) (hn:s.h r=none):(bu P W C L b i o s).h r=none:=by
 rw[jP]
 show (aM P W C L b i o s.n s.ev s.t s.h).2.1 r=none
 unfold aM
 cases o.guard with
 | some jw=>exact hn
 | none =>
  simp only[aL]
  split
  .
   exact hn
  exact Va hc hr hn
theorem Ff [Glob P] {W:Words}{L:List Oper}{b i:Nat}{x y:Oper}{s:S}(hs:fU L x y=true):(aQ y.op).map (bu P W C L b i x s).ev=(aQ y.op).map s.ev:=by
 simp only[fU,XW] at hs
 refine Zz fun z hz=>?_
 cases z with
 | tmp t =>
  rw[jP]
  show S.put s x.dst _ t=s.t t
  cases hd:x.dst with
  | none=>rfl
  | some d =>
   have h1:=hs.1;rw[hd] at h1;simp only[XW,Ye,ZL] at h1;have h2:d ∉ looks L y:=by simpa using h1.1
   refine upd_ne _ _ _ _ fun e=>h2 ?_
   subst e;exact Yx.2 (.inl (Z9.2 ⟨.tmp t,hz,rfl⟩))
 | _=>rfl
theorem Aq {L:List Oper}{x y:Oper}(h:iB C L x y=true):fU L x y=true:=by
 unfold iB at h
 simp only[Yd,XW] at h
 rcases h with h|h
 .
  simp only[qV,XW] at h;simp only[fU,XW];exact h.1
 exact h.1.1
theorem U2 [Glob P] {W:Words}{L:List Oper}{b i j:Nat}{x y:Oper}{s:S}(hij:j≠i) (ha:iB C L x y=true)
  (h1:maker x=true->reader y=true -> ∀ d∈(aQ y.op).map s.ev,named (b+j) (sd d)=false)
  (h2:reader x=true->maker y=true->s.h (b+i)=none/\(aM P W C L b j x s.n s.ev s.t s.h).2.2) :
  bu P W C L b i y (bu P W C L b j x s)=bu P W C L b j x (bu P W C L b i y s):=by
 have hs:=Aq ha
 unfold iB at ha
 simp only[Yd,XW] at ha
 rcases ha with ha|⟨_,(⟨hm,hr⟩|⟨hr,hm⟩)|⟨hm,hm2⟩⟩
 .
  exact Ko ha
 .
  refine zS hs fun rx ry hx hy px py e1 e2=>?_
  obtain⟨r,p,⟨bl,h⟩|h⟩:=y9 (P:=P) (C:=C) (W:=W) (L:=L) (b:=b) (i:=j) (ev:=s.ev) (t:=s.t) (n:=s.n) hm
  .
   have e3:=Gi (P:=P) (C:=C) (W:=W) (L:=L) (b:=b) (i:=i) (t:=s.t) (n:=s.n) (h:=s.h) (bl:=bl) hr (.inl (h1 hm hr));have e4:=h s.h;rw[e1] at e4
   cases e4
   refine⟨upd s.h (b+j) (some bl),by rw[e3,e2],?_⟩
   have:hy=s.h:=by
    have:=ug (P:=P) (W:=W) (L:=L) (b:=b) (i:=i) (ev:=s.ev) (t:=s.t) (n:=s.n) (h:=s.h) (C:=C) (o:=y) (Gj hr);rw[e2] at this;exact this
   rw[h hy,this]
  have e4:=h s.h;rw[e1] at e4
  cases e4
  exact⟨hy,e2,h hy⟩
 .
  refine zS hs fun rx ry hx hy px py e1 e2=>?_
  have hxs:hx=s.h:=by
   have:=ug (P:=P) (W:=W) (L:=L) (b:=b) (i:=j) (ev:=s.ev) (t:=s.t) (n:=s.n) (h:=s.h) (C:=C) (o:=x) (Gj hr);rw[e1] at this;exact this
  subst hxs;obtain⟨r,p,⟨bl,h⟩|h⟩:=y9 (P:=P) (C:=C) (W:=W) (L:=L) (b:=b) (i:=i) (ev:=s.ev) (t:=s.t) (n:=s.n) hm
  .
   have e3:=Gi (P:=P) (C:=C) (W:=W) (L:=L) (b:=b) (i:=j) (t:=s.t) (n:=s.n) (h:=s.h) (bl:=bl) hr (.inr (h2 hr hm));have e4:=h s.h;rw[e2] at e4
   cases e4
   exact⟨_,e2,by rw[e3,e1]⟩
  have e4:=h s.h;rw[e2] at e4
  cases e4
  exact⟨_,e2,e1⟩
 refine zS hs fun rx ry hx hy px py e1 e2=>?_
 obtain⟨r1,p1,k1⟩:=y9 (P:=P) (C:=C) (W:=W) (L:=L) (b:=b) (i:=j) (ev:=s.ev) (t:=s.t) (n:=s.n) hm
 obtain⟨r2,p2,k2⟩:=y9 (P:=P) (C:=C) (W:=W) (L:=L) (b:=b) (i:=i) (ev:=s.ev) (t:=s.t) (n:=s.n) hm2
 rcases k1 with⟨bl1,k1⟩|k1<;>rcases k2 with⟨bl2,k2⟩|k2<;>rw[k1] at e1<;>rw[k2] at e2<;>cases e1<;>cases e2
 .
  refine⟨_,k2 _,?_⟩;rw[k1]
  congr 2
  funext q
  by_cases q1:q=b+j<;>by_cases q2:q=b+i<;>simp[upd,q1,q2]<;>omega
 .
  exact⟨_,k2 _,k1 _⟩
 .
  exact⟨_,k2 _,k1 _⟩
 exact⟨_,k2 _,k1 _⟩
theorem Pq [Glob P] {W:Words}{L:List Oper}{b j:Nat}{y:Oper}{s:S}(h : ∀ x,L[j]? = some x->fU L x y=true):(aQ y.op).map (aJ P W C L b s j).ev=(aQ y.op).map s.ev:=by
 unfold aJ
 cases hj:L[j]? with
 | none=>rfl
 | some x=>exact Ff (h x hj)
theorem wJ [Glob P] {W:Words}{L:List Oper}{b:Nat}{y:Oper}:∀ (pre:List Nat) (s:S),(∀ j∈pre,∀ x,L[j]? = some x->fU L x y=true)->(aQ y.op).map (pre.foldl (aJ P W C L b) s).ev=(aQ y.op).map s.ev
 | [],s,_=>rfl
 | j::pre,s,h=>by
  simp only[YO];rw[wJ pre _ fun k hk=>h k (by simp[hk]),Pq (h j (by simp))]
theorem zL [Glob P] {W:Words}{L:List Oper}{b i:Nat}{y:Oper}(hi:L[i]? = some y):∀ (pre:List Nat) (s:S),(∀ j∈pre,j≠i /\ ∀ x,L[j]? = some x->iB C L x y=true) ->
  (reader y=true -> ∀ j∈pre,∀ d∈(aQ y.op).map s.ev,named (b+j) (sd d)=false)->s.h (b+i)=none->(pre.foldl (aJ P W C L b) s).ok ->
  aJ P W C L b (pre.foldl (aJ P W C L b) s) i=pre.foldl (aJ P W C L b) (aJ P W C L b s i)
 | [],s,_,_,_,_=>rfl
 | j::pre,s,h,hr,hh,hok=>by
  simp only[YO] at hok ⊢;have hji:=(h j (by simp)).1
  have hok1:=rC hok
  cases hj:L[j]? with
  | none =>
   have e : ∀ u,aJ P W C L b u j=u:=fun u=>by simp only[aJ,hj]
   rw[e s,e] at *;exact zL hi pre s (fun k hk=>h k (by simp[hk])) (fun hry k hk=>hr hry k (by simp[hk])) hh hok
  | some x =>
   have hap:=(h j (by simp)).2 x hj
   have e : ∀ u,aJ P W C L b u j=bu P W C L b j x u:=fun u=>by simp only[aJ,hj]
   have e' : ∀ u,aJ P W C L b u i=bu P W C L b i y u:=fun u=>by simp only[aJ,hi]
   have hstep:aJ P W C L b (aJ P W C L b s j) i=aJ P W C L b (aJ P W C L b s i) j:=by
    rw[e,e,e',e'];refine U2 hji hap (fun _ hry=>hr hry j (by simp)) fun _ _=>⟨hh,?_⟩
    rw[e,jP] at hok1;exact hok1.2
   rw[<- hstep];unfold iB at hap
   by_cases hcp:L.all (Ak C)=true
   .
    refine zL hi pre _ (fun k hk=>h k (by simp[hk])) (fun hry k hk=>?_) ?_ hok
    .
     rw[e,Ff (Aq ((h j (by simp)).2 x hj))]
     exact hr hry k (by simp[hk])
    rw[e];refine U0 (YQ.1 hcp x (Yl hj)) om hh
   have hall : ∀ k∈pre,∀ x y',L[k]? = some x->L[i]? = some y'->qV C L x y'=true:=by
    intro k hk x' y' hx' hy';rw[hi] at hy';cases hy'
    have:=(h k (by simp[hk])).2 x' hx'
    unfold iB at this;have hcp':L.all (Ak C)=false:=by simpa using hcp
    simpa [hcp'] using this
   exact Ka pre _ hall
theorem Gd {w:World}{g:Mem}{d:D}{v:Value}{n:Nat}(hr:Rep w g d v) (hg:sg d=true) (hn:named n (sd d)=true):g.U n:=by
 have key : ∀ {d:D},Rep w g d v->named n d=true->g.U n:=by
  intro d hr hn
  cases hr with
  | mrow r off len x hx hU h=>exact (show r=n by simpa [named] using hn) ▸ hU
  | mptr r i off x hx hU h=>exact (show r=n by simpa [named] using hn) ▸ hU
  | mp r x hx hU h=>exact (show r=n by simpa [named] using hn) ▸ hU
  | _=>cases hn
 cases d with
 | cond g d =>
  cases hr with
  | cond _ _ _ ht hf=>exact key (ht hg) hn
 | _=>exact key hr hn
theorem zY [Glob P] {s:S}{g:Mem}{a:Act}{w:World}(hs:St P B s g a w):St P B s g a { w with drawn:=w.drawn+1 }/\Mono g g w { w with drawn:=w.drawn+1 }:=by
 have m:Mono g g w { w with drawn:=w.drawn+1 }:=⟨rfl,rfl,rfl,XY _,Nat.le_succ _,fun _ h=>h,fun _ _=>.inl rfl,fun r _ c s h=>.inl ⟨r,c,s,h⟩,fun _ h=>h,fun _ h=>.inl h,fun _ _ _=>rfl⟩
 refine⟨⟨hs.sz,fun i=>(hs.tm i).later hs.mem m,⟨hs.mem.dead,fun r bl hr=>?_,hs.mem.inj,hs.mem.used,hs.mem.imm,hs.mem.gr.later (hs.mem.kept m)⟩,hs.df.later hs.mem m,Env.later hs.mem m hs.en,hs.bd⟩,m⟩
 obtain⟨blk,c,h1,h2,h3,h4,h5⟩:=hs.mem.blk r bl hr
 refine⟨blk,c,h1,h2,h3,h4,?_⟩
 rcases h5 with h5|⟨b,cur,rfl,h6,h7,h8,h9⟩
 .
  exact .inl h5
 exact .inr ⟨b,cur,rfl,h6,h7,h8,fun i row hi=>⟨(h9 i row hi).1,fun j d hd=>by
  obtain⟨u,k3,k4,k5⟩:=(h9 i row hi).2 j d hd;exact⟨u,k3,k4,k5.later hs.mem m⟩⟩⟩
def todo (n:Nat) (listed:Array Bool):List Nat:=(List.range n).filter fun i=>!listed.getD i false
end Go.DL
namespace Go.DL
open Go.RowKit
variable {P : Program} {C : Con} {B : Bot}
theorem Tj [Glob P] {W:Words}{L:List Oper}{b:Nat}{z:Tmp}{s:S}{k:Nat}(h : ∀ o,L[k]? = some o->o.dst≠some z):(aJ P W C L b s k).t z=s.t z:=by
 unfold aJ
 cases hk:L[k]? with
 | none=>rfl
 | some o =>
  have:=h o hk;simp only;rw[jP]
  show S.put s o.dst _ z=s.t z
  cases hd:o.dst with
  | none=>rfl
  | some d=>exact upd_ne _ _ _ _ fun e=>this (by rw[hd,e])
theorem keeps [Glob P] {W:Words}{L:List Oper}{b:Nat}{z:Tmp}:∀ (l:List Nat) (s:S),(∀ k∈l,∀ o,L[k]? = some o->o.dst≠some z)->(l.foldl (aJ P W C L b) s).t z=s.t z
 | [],s,_=>rfl
 | k::l,s,h=>by
  simp only[YO];rw[keeps l _ fun m hm=>h m (by simp[hm]),Tj (h k (by simp))]
theorem zQ [Glob P] {W:Words}{L:List Oper}{b:Nat}:∀ (k i:Nat) (s:S),i+k<=L.length->aF P W C L b i ((L.drop i).take k) s=(List.range' i k).foldl (aJ P W C L b) s:=by
 intro k
 induction k with
 | zero=>intro i s _;simp[aF]
 | succ k ih =>
  intro i s hk;have hlt:i<L.length:=by omega
  rw[Yy hlt,X4,Y0];simp only[aF,YO];rw[ih (i+1) _ (by omega)]
  congr 1
  simp[aJ,hlt]
theorem SG {a:D}{h h':H}(hn : ∀ r,named r a=true->h' r=h r):dP a h'=dP a h:=by
 cases a with
 | mptr r i off =>
  have:=hn r (by simp[named])
  simp only[dP,this]
 | _=>rfl
theorem SE [Glob P] {a:D}{h h':H}(hn : ∀ r,named r a=true->h' r=h r):fD P a h'=fD P a h:=by
 unfold fD
 split
 .
  rfl
 exact SG hn
def Mem.only (g:Mem) (h':H):Mem:={ M:=fun r=>if (h' r).isSome then g.M r else none,U:=g.U,I:=g.I }
theorem HZ {g:Mem}{h':H}(r:Nat) (_:g.U r):(g.only h').M r=g.M r\/(g.only h').M r=none:=by
 show (if (h' r).isSome then g.M r else none)=g.M r\/(if (h' r).isSome then g.M r else none)=none
 split
 .
  exact .inl rfl
 exact .inr rfl
theorem only_mono {g:Mem}{h':H}{w:World}:Mono g (g.only h') w w:=by
 refine⟨rfl,rfl,rfl,XY _,XY _,fun _ h=>h,HZ,fun r b c s h=>.inl ⟨r,c,s,?_⟩,fun _ h=>h,fun _ h=>.inl h,fun _ _ _=>rfl⟩
 have h':(if (h' r).isSome then g.M r else none)=some (some b,c,s):=h
 split at h'
 .
  exact h'
 cases h'
theorem Rep.only {g:Mem}{h':H}{w:World}{d:D}{v:Value}(h:Rep w g d v):Rep w (g.only h') d v :=
 Rep.mono (g:=g) (g':=g.only h') (fun _ hb=>⟨hb,rfl⟩) (fun _ h=>h) HZ h
theorem HM.only[Glob P] {h h':H}{g:Mem}{w:World}(hm:HM P h g w) (hh : ∀ r,h' r=h r\/h' r=none):HM P h' (g.only h') w:=by
 have inv : ∀ {r x},(g.only h').M r=some x->g.M r=some x:=by
  intro r x e;have e:(if (h' r).isSome then g.M r else none)=some x:=e
  split at e
  .
   exact e
  cases e
 refine⟨fun r hr=>?_,fun r bl hr=>?_,fun r r' b c c' s s' q1 q2=>hm.inj _ _ _ _ _ _ _ (inv q1) (inv q2),fun r hr=>?_,hm.imm,hm.gr⟩
 .
  show (if (h' r).isSome then g.M r else none)=none
  rw[hr];rfl
 .
  have e:h r=some bl:=by
   rcases hh r with e|e
   .
    rw[<- e];exact hr
   rw[e] at hr;cases hr
  obtain⟨blk,c,h1,h2,h3,h4,h5⟩:=hm.blk r bl e;refine⟨blk,c,by show (if (h' r).isSome then g.M r else none)=_;rw[hr];exact h1,h2,h3,h4,?_⟩
  rcases h5 with h5|⟨b,cur,rfl,h6,h7,h8,h9⟩
  .
   exact .inl h5
  refine .inr ⟨b,cur,rfl,h6,h7,h8,fun i row hi=>⟨(h9 i row hi).1,fun j d hd=>?_⟩⟩
  obtain⟨u,k3,k4,k5⟩:=(h9 i row hi).2 j d hd;exact⟨u,k3,k4,k5.only⟩
 cases e:(g.only h').M r with
 | none=>exact absurd e hr
 | some x=>exact hm.used r (by rw[inv e];simp)
def iK (g:Mem) (r:Nat):Mem:={ M:=fun x=>if x=r then none else g.M x,U:=g.U,I:=fun b=>g.I b \/ ∃ c s,g.M r=some (some b,c,s) }
theorem zG {g:Mem}{r x:Nat}{y} (e:(iK g r).M x=some y):x≠r/\g.M x=some y:=by
 have e:(if x=r then none else g.M x)=some y:=e
 split at e
 .
  cases e
 exact⟨‹_›,e⟩
theorem wF (g:Mem) (r:Nat) (w:World):Mono g (iK g r) w w:=by
 refine⟨rfl,rfl,rfl,XY _,XY _,fun _ h=>h,fun x _=>?_,fun x b c s e=>.inl ⟨x,c,s,(zG e).2⟩,fun _ h=>.inl h,fun b hb=>?_,fun _ _ _=>rfl⟩
 .
  show (if x=r then none else g.M x)=g.M x\/(if x=r then none else g.M x)=none
  split
  .
   exact .inr rfl
  exact .inl rfl
 rcases hb with hb|⟨c,s,hb⟩
 .
  exact .inl hb
 exact .inr (.inr ⟨r,c,s,hb⟩)
theorem zH [Glob P] {h:H}{g:Mem}{w:World}(hm:HM P h g w) (r:Nat):HM P (upd h r none) (iK g r) w:=by
 have mono:=wF g r w
 refine⟨fun x hx=>?_,fun x bl hx=>?_,fun x x' b c c' s s' q1 q2=>hm.inj _ _ _ _ _ _ _ (zG q1).2 (zG q2).2,fun x hx=>?_,fun b hb=>?_,hm.gr.later (hm.kept mono)⟩
 .
  show (if x=r then none else g.M x)=none
  split
  .
   rfl
  rename_i e;rw[upd_ne _ _ _ _ e] at hx;exact hm.dead x hx
 .
  by_cases e:x=r
  .
   subst e;rw[upd_same] at hx;cases hx
  rw[upd_ne _ _ _ _ e] at hx;obtain⟨blk,c,h1,h2,h3,h4,h5⟩:=hm.blk x bl hx;refine⟨blk,c,by show (if x=r then none else g.M x)=_;rw[XZ e];exact h1,h2,h3,h4,?_⟩
  rcases h5 with h5|⟨b,cur,rfl,h6,h7,h8,h9⟩
  .
   exact .inl h5
  refine .inr ⟨b,cur,rfl,h6,h7,fun hI=>?_,fun i row hi=>⟨(h9 i row hi).1,fun j d hd=>?_⟩⟩
  .
   rcases hI with hI|⟨c',s',hI⟩
   .
    exact h8 hI
   exact e (hm.inj _ _ _ _ _ _ _ h1 hI)
  obtain⟨u,k3,k4,k5⟩:=(h9 i row hi).2 j d hd;exact⟨u,k3,k4,k5.later hm mono⟩
 .
  cases e:(iK g r).M x with
  | none=>exact absurd e hx
  | some y=>exact hm.used x (by rw[(zG e).2];simp)
 rcases hb with hb|⟨c,s,hb⟩
 .
  exact hm.imm b hb
 exact (iQ hm hb).1
theorem RF : ∀ {rows rows':List (List D)},aS rows=true->(∀ r∈rows',r∈rows)->aS rows'=true:=by
 intro rows rows' h hs
 exact Ca fun r hr=>ui h (hs r hr)
theorem JY [Glob P] {h:H}{g:Mem}{w:World}(hm:HM P h g w) {r:Nat}{ty:TypeId}{rows:List (List D)}(hr:h r=some ⟨ty,rows⟩) (hn:aS rows=true) {off k:Nat}(hk:off+k<=rows.length) {v:Value}(hv:Rep w g (.mrow r off k) v):Rep w (iK g r) (.list false ((rows.drop off).take k)) v:=by
 let h1:H:=fun x=>if x=r then h r else none
 have hsub : ∀ x,h1 x=h x\/h1 x=none:=fun x=>by
  by_cases e:x=r
  .
   subst e;exact .inl (X6 rfl)
  exact .inr (XZ e)
 have hm1:=hm.only hsub
 have e1:h1 r=some ⟨ty,rows⟩:=by show (if r=r then h r else none)=_;rw[X6 rfl];exact hr
 have e2:rowsOf (.mrow r off k) h1=(rows.drop off).take k:=by simp only[rowsOf,e1]
 have:=Aa hm1 (lJ hv.only) ⟨by rw[e1];rfl,by rw[e2];simp;omega⟩
 rw[e2] at this
 refine this.clean (RF hn fun x hx=>List.mem_of_mem_drop (List.mem_of_mem_take hx)) fun b hb=>?_
 rcases hb with hb|⟨x,c,sz,hb⟩
 .
  exact .inl hb
 have hb2:(if (h1 x).isSome then g.M x else none)=some (some b,c,sz):=hb
 split at hb2
 .
  rename_i hx
  have:x=r:=by
   refine YX fun e=>?_
   have:h1 x=none:=XZ e;rw[this] at hx;cases hx
  subst this;exact .inr ⟨c,sz,hb2⟩
 cases hb2
theorem Vv [Glob P] {ops:Array Oper}{b:Nat}{ro:Option Nat}{n:Nat}{Q:Exit->Act->World->Prop}{w0:World}{g0:Mem}{fin:S}(hcomm:jr C ops.toList=true) :
  ∀ (fuel:Nat) (listed:Array Bool) (s:S) (g:Mem) (a:Act) (w:World),listed.size=ops.size->(todo ops.size listed).length<=fuel->(∀ (i:Nat) o,ops.toList[i]? = some o->listed.getD i false=true -> ∀ e∈o.after.toList,Region.binds .any e=true->listed.getD e.on false=true) ->
   (∀ (i:Nat) o,ops.toList[i]? = some o -> ∀ e∈o.after.toList,Region.binds .any e=true->e.on<i) ->
   St P B s g a w->Mono g0 g w0 w->(∀ r,g.U r->r<b \/ ∃ i,listed.getD i false=true/\i<ops.size/\r=b+i)->(todo ops.size listed).foldl (aJ P (words P) C ops.toList b) s=fin->fin.ok ->
   (∀ g' a' w',St P B fin g' a' w'->Mono g0 g' w0 w'->(∀ r,g'.U r->r<b+ops.size)->Q .normal a' w') ->
   wpAnyIn (Fw ro) n P .any ops Q fuel listed a w:=by
 intro fuel
 induction fuel with
 | zero =>
  intro listed s g a w hsz hfu hX hback hs hm hU hfin hok hQ;have hnil:todo ops.size listed=[]:=X5 om;rw[hnil] at hfin;simp only[ZG] at hfin;subst hfin;refine⟨?_,hQ g a w hs hm fun r hr=>?_⟩
  .
   unfold Region.ready;rw[List.filter_eq_nil_iff];intro i hi;have h1:i ∉ todo ops.size listed:=by rw[hnil];simp
   simp only[todo,Z4,hi,true_and,Ye,Bool.not_eq_false] at h1;have hil:i<listed.size:=by rw[hsz];simpa using hi
   have h2:listed.getD i true=true:=by simp[Array.getD,hil] at h1 ⊢;exact h1
   simp[h2]
  rcases hU r hr with h|⟨i,_,h,rfl⟩<;>omega
 | succ fuel ih =>
  intro listed s g a w hsz hfu hX hback hs hm hU hfin hok hQ;refine⟨fun hrd=>?_,fun i hi=>?_⟩
  .
   have hnil:todo ops.size listed=[]:=by
    rw[todo,List.filter_eq_nil_iff];intro i hi;simp only[Ye,Bool.not_eq_false];have hlt:i<ops.size:=by simpa using hi
    have : ∀ k,k<ops.size->listed.getD k false=true:=by
     intro k
     induction k using Nat.strongRecOn with
     | _ k ihk =>
      intro hk;have h0:k ∉ Region.ready .any ops listed:=by rw[hrd];simp
      unfold Region.ready at h0;simp only[Z4,Zp,hk,true_and] at h0;have hkl:k<listed.size:=by omega
      cases hq:listed.getD k false with
      | true=>rfl
      | false =>
       exfalso
       apply h0
       have h2:listed.getD k true=false:=by simp[Array.getD,hkl] at hq ⊢;exact hq
       have h3:ops[k]? = some ops[k]:=by simp[hk]
       simp only[h2,Bool.not_false,h3,YR,YT,Zu];rw[Array.all_eq_true];intro q hqq;simp only[Yd,Ye]
       cases hb:Region.binds .any (ops[k].after[q]) with
       | false=>exact .inl rfl
       | true =>
        have hmem:ops[k].after[q]∈ops[k].after.toList:=by simp
        have h4:=hback k ops[k] (by simp[hk]) _ hmem hb
        exact .inr (ihk _ h4 om)
    exact this i hlt
   rw[hnil] at hfin;simp only[ZG] at hfin;subst hfin;exact hQ g a w hs hm fun r hr=>by rcases hU r hr with h|⟨i,_,h,rfl⟩<;>omega
  unfold Region.ready at hi;simp only[Z4,Zp,XW,Ye] at hi;obtain⟨hlt,h1,h2⟩:=hi;have h3:ops[i]? = some ops[i]:=by simp[hlt]
  have h3L:ops.toList[i]? = some ops[i]:=by simp[hlt]
  simp only[h3,YR,YT] at h2;have hil:i<listed.size:=by omega
  have h1f:listed.getD i false=false:=by simp[Array.getD,hil] at h1 ⊢;exact h1
  have hpred : ∀ e∈(ops[i]).after.toList,Region.binds .any e=true->listed.getD e.on false=true:=by
   intro e he hb;rw[Array.all_eq_true] at h2;obtain⟨q,hq,rfl⟩:=Array.mem_iff_getElem.1 (Array.mem_toList_iff.1 he);have:=h2 q hq;simp only[hb,Bool.not_true,Bool.false_or] at this;exact this
  have hmem:i∈todo ops.size listed:=by simp[todo,hlt];simpa using h1f
  obtain⟨pre,post,hsplit⟩:=List.append_of_mem hmem;have hsorted:(todo ops.size listed).Pairwise (· < ·):=Z7 _ ZX;rw[hsplit] at hsorted;have hpre : ∀ j∈pre,j<i:=fun j hj=>(Zi.1 hsorted).2.2 j hj i (by simp)
  have hpost : ∀ j∈post,i<j:=fun j hj=>(Y2.1 (Zi.1 hsorted).2.1).1 j hj
  have hap : ∀ j∈pre,j≠i /\ ∀ x,ops.toList[j]? = some x->iB C ops.toList x ops[i]=true:=by
   intro j hj;have hjl:=hpre j hj;refine⟨om,fun x hx=>?_⟩
   have hjm:j∈todo ops.size listed:=by rw[hsplit];simp[hj]
   have hjn:listed.getD j false=false:=by simp only[todo,Z4,Ye] at hjm;exact hjm.2
   unfold jr at hcomm;simp only[YQ,Zp,Yd] at hcomm
   rcases hcomm i (by simpa using hlt) j hjl with h|h
   .
    exfalso
    have:=pg (L:=ops.toList) (X:=fun k=>listed.getD k false=true) hX i _ h3L hpred j h
    rw[hjn] at this;cases this
   have e1:ops.toList.getD j default=x:=by simp only[List.getD,hx,YT]
   have e2:ops.toList.getD i default=ops[i]:=by simp only[List.getD,h3L,YT]
   rw[e1,e2] at h;exact h
  have hnU : ∀ j,j∈todo ops.size listed -> ¬ g.U (b+j):=by
   intro j hjm hu;have hjn:listed.getD j false=false:=by simp only[todo,Z4,Ye] at hjm;exact hjm.2
   rcases hU _ hu with h|⟨k,hk,_,e⟩
   .
    omega
   have:k=j:=by omega
   subst this;rw[hjn] at hk;cases hk
  have hh0:s.h (b+i)=none:=by
   cases hq:s.h (b+i) with
   | none=>rfl
   | some bl =>
    obtain⟨blk,c',q1,_⟩:=hs.mem.blk _ bl hq;exact absurd (hs.mem.used _ (by rw[q1];simp)) (hnU i hmem)
  have hok0:=hok;rw[<- hfin,hsplit,Zc,YO] at hok0;have hok1:=rC hok0;have hokp:(pre.foldl (aJ P (words P) C ops.toList b) s).ok:=by
   unfold aJ at hok1;rw[h3L] at hok1;exact zU hok1
  have hnam:reader ops[i]=true -> ∀ j∈pre,∀ d∈(aQ (ops[i]).op).map s.ev,named (b+j) (sd d)=false:=by
   intro hr j hj d hd;have hsg:sg d=true:=by
    have e:=wJ (P:=P) (W:=words P) (C:=C) (L:=ops.toList) (b:=b) (y:=ops[i]) pre s fun k hk x hx=>Aq ((hap k hk).2 x hx)
    have hrun' : ∀ u,aJ P (words P) C ops.toList b u i=bu P (words P) C ops.toList b i ops[i] u:=fun u=>by simp[aJ,hlt]
    rw[hrun',jP] at hok1;have h2:=hok1.2;obtain⟨r1,r2⟩:=yx hr;simp only[aM,r2,aL,Bw r1,Ym,Y9] at h2;have h4:=h2.2.1 trivial;rw[show (aQ (ops[i]).op).map (pre.foldl (aJ P (words P) C ops.toList b) s).ev=(aQ (ops[i]).op).map s.ev from e] at h4
    exact YQ.1 h4 d hd
   cases hq:named (b+j) (sd d) with
   | false=>rfl
   | true =>
    exfalso
    obtain⟨z,_,rfl⟩:=Y5.1 hd;exact hnU j (by rw[hsplit];simp[hj]) (Gd (bI hs z) hsg hq)
  have hfin':(pre++post).foldl (aJ P (words P) C ops.toList b) (aJ P (words P) C ops.toList b s i)=fin:=by
   rw[<- hfin,hsplit,Zc,Zc,YO,zL h3L pre s hap hnam hh0 hokp]
  have hrun:aJ P (words P) C ops.toList b s i=bu P (words P) C ops.toList b i ops[i] s:=by simp[aJ,hlt]
  rw[hrun] at hfin';have hset : ∀ k,(listed.setIfInBounds i true).getD k false=(listed.getD k false||k==i):=by
   intro k
   by_cases e:k=i
   .
    subst e;simp[Array.getD,hil]
   rw[getD_set_ne false (Ne.symm e)];have:(k==i)=false:=by simpa using e
   rw[this,ZR]
  have htodo:todo ops.size (listed.setIfInBounds i true)=pre++post:=by
   have e1:todo ops.size (listed.setIfInBounds i true)=(todo ops.size listed).filter (· != i):=by
    unfold todo;rw[List.filter_filter];refine Z6 fun k _=>?_
    rw[hset k]
    by_cases e:k=i
    .
     simp[e]
    have e2:(k==i)=false:=by simpa using e
    have e3:(k != i)=true:=by simpa using e
    rw[e2,e3,ZR,Zu]
   rw[e1,hsplit,List.filter_append,List.filter_cons];have p1:pre.filter (· != i)=pre:=ZA.2 fun j hj=>by have:=hpre j hj;simp;omega
   have p2:post.filter (· != i)=post:=ZA.2 fun j hj=>by have:=hpost j hj;simp;omega
   simp[p1,p2]
  refine zT hs (b:=b) (N:=b+ops.size) (fun h=>?_) (fun r hr=>?_) h3 (rC (by rw[hfin'];exact hok)) fun g' a' w' q1 q2 q3=>?_
  .
   rcases hU _ h with h|⟨k,hk,_,e⟩
   .
    omega
   have:k=i:=by omega
   subst this;rw[h1f] at hk;cases hk
  .
   rcases hU r hr with h|⟨k,_,h,rfl⟩<;>omega
  refine ih (listed.setIfInBounds i true) _ g' a' w' (by simp[hsz]) (by rw[htodo];have:=congrArg List.length hsplit;simp at this;simp;omega) (fun k o hk hkl e he hb=>?_) hback q1 (hm.trans q2) (fun r hr=>?_) (by rw[htodo];exact hfin') hok hQ
  .
   rw[hset] at hkl ⊢;simp only[Yd,YE] at hkl ⊢
   rcases hkl with hkl|rfl
   .
    exact .inl (hX k o hk hkl e he hb)
   rw[h3L] at hk;cases hk
   exact .inl (hpred e he hb)
  rcases q3 r hr with h|rfl
  .
   rcases hU r h with h|⟨k,hk,hks,rfl⟩
   .
    exact .inl h
   exact .inr ⟨k,by rw[hset,hk];rfl,hks,rfl⟩
  exact .inr ⟨i,by rw[hset];simp,hlt,rfl⟩
end Go.DL
namespace Go.DL
open Go.RowKit
variable {P : Program} {C : Con}
def S.clear (s:S):S:={ s with ok:=True }
theorem St.clear [Glob P] {B:Bot}{s:S}{g:Mem}{a:Act}{w:World}(h:St P B s g a w):St P B s.clear g a w:=⟨h.sz,h.tm,h.mem,h.df,h.en,h.bd⟩
def DW (P:Program) [Glob P] (ro:Option Nat) (c:Code) (Q:Exit->S->Prop) (s:S):Prop :=
 ∀ (B:Bot) (g:Mem) (a:Act) (w:World),St P B s g a w->(∀ r,g.U r->r<s.nx) ->
  c.wpIn (Fw ro) 0 P (fun e a' w'=>∃ s' g',Q e s'/\St P B s' g' a' w'/\MonoX s.e.x g g' w w'/\(∀ r,g'.U r->r<s'.nx)/\s'.e.x=s.e.x) a w
theorem wpIn_loop_ghost [Glob P] {F:Fence}{n:Nat}{Q:Exit->Act->World->Prop}{a:Act}{w:World}{c:Code}(I:Nat->Act->World->Prop) (n0:Nat) (h0:I n0 a w)
  (round : ∀ k a w,I k a w->c.wpIn F n P (Exit.then (fun a' w'=>∃ k',k'<k/\I k' a' w') Q) a w):(Code.loop c).wpIn F n P Q a w:=by
 refine wpIn_loop (fun a w=>∃ k,I k a w) (fun a w=>leastOf fun k=>I k a w) ⟨n0,h0⟩ fun a w h=>?_
 obtain⟨h1,h2⟩:=leastOf_spec h
 refine wpIn_mono (round _ a w h1) fun e a' w' hq=>?_
 cases e with
 | normal =>
  obtain⟨k',hlt,hI⟩:=hq;exact⟨⟨k',hI⟩,Nat.lt_of_le_of_lt ((leastOf_spec ⟨k',hI⟩).2 k' hI) hlt⟩
 | _=>exact hq
section
variable {ro : Option Nat} {Q : Exit -> S -> Prop} {s : S}
theorem DW.mono [Glob P] {c:Code}{Q':Exit->S->Prop}(h:DW P ro c Q s) (hq : ∀ e s,Q e s->Q' e s):DW P ro c Q' s :=
 fun B g a w hs hU=>wpIn_mono (h B g a w hs hU) fun _ _ _ ⟨s',g',q,r⟩=>⟨s',g',hq _ _ q,r⟩
theorem dw_skip [Glob P] (h:Q .normal s):DW P ro .skip Q s:=fun _ g _ _ hs hU=>wpIn_skip ⟨s,g,h,hs,MonoX.refl _ _ _,hU,rfl⟩
theorem aB [Glob P] {id:Nat}(h:Q (.exit id) s):DW P ro (.exit id) Q s:=fun _ g _ _ hs hU=>wpIn_exit ⟨s,g,h,hs,MonoX.refl _ _ _,hU,rfl⟩
theorem aI [Glob P] (h:Q .ret s):DW P ro .ret Q s:=fun _ g _ _ hs hU=>wpIn_ret ⟨s,g,h,hs,MonoX.refl _ _ _,hU,rfl⟩
def thenS (next:S->Prop) (Q:Exit->S->Prop):Exit->S->Prop
 | .normal,s=>next s
 | e,s=>Q e s
theorem ae [Glob P] {x y:Code}(h:DW P ro x (thenS (DW P ro y Q) Q) s):DW P ro (.seq x y) Q s:=by
 intro B g a w hs hU
 refine wpIn_seq (wpIn_mono (h B g a w hs hU) ?_)
 rintro e a' w' ⟨s',g',hq,hs',hm,hU',hx⟩
 cases e with
 | normal=>exact wpIn_mono (hq B g' a' w' hs' hU') fun e a'' w'' ⟨s'',g'',q,r,m,u,v⟩=>⟨s'',g'',q,r,hm.trans (hx ▸ m),u,v.trans hx⟩
 | _=>exact⟨s',g',hq,hs',hm,hU',hx⟩
theorem Vb [Glob P] {x y:Code}(M:S->Prop) (h:DW P ro x (thenS M Q) s) (k : ∀ s',M s'->DW P ro y Q s'):DW P ro (.seq x y) Q s :=
 ae (h.mono fun e s' hq=>by cases e<;>first|exact k s' hq|exact hq)
theorem Vo [Glob P] {c:Operand}{x y:Code}{t:Bool}(hc:s.ev c = .v (.bool t)) (ht:t=true->DW P ro x Q s) (hf:t=false->DW P ro y Q s):DW P ro (.cond c x y) Q s:=by
 intro B g a w hs hU
 have h:=bI hs c
 rw[hc] at h
 exact wpIn_cond_split h.v_inv (fun e=>ht e B g a w hs hU) (fun e=>hf e B g a w hs hU)
def DU (id:Nat) (Q:Exit->S->Prop):Exit->S->Prop
 | .exit id',s=>if id'=id then Q .normal s else Q (.exit id') s
 | e,s=>Q e s
theorem ah [Glob P] {id:Nat}{c:Code}(h:DW P ro c (DU id Q) s):DW P ro (.block id c) Q s:=by
 intro B g a w hs hU
 refine wpIn_block (wpIn_mono (h B g a w hs hU) ?_)
 rintro e a' w' ⟨s',g',hq,r⟩
 cases e with
 | exit id' =>
  simp only[Exit.inBlock,DU] at hq ⊢
  split
  .
   rename_i e;rw[X6 e] at hq;exact⟨s',g',hq,r⟩
  rename_i e;rw[XZ e] at hq;exact⟨s',g',hq,r⟩
 | _=>exact⟨s',g',hq,r⟩
def gF (L:List Oper):Bool:=(List.range L.length).all fun i=>(L.getD i default).after.toList.all fun e=>!Region.binds .any e||decide (e.on<i)
theorem Vd [Glob P] {id:Nat}{ops:Array Oper}{draw:Bool}(hd:draw=true->P.follows .mixedOrders=true/\jr C ops.toList=true/\gF ops.toList=true)
  (hok:(exec P (words P) C ops.toList s).ok) (hq:Q .normal (exec P (words P) C ops.toList s).clear):DW P ro (.region id ops draw) Q s:=by
 intro B g a w hs hU
 have hs0:St P B (s.begin ops.toList.length) g a w:=⟨hs.sz,hs.tm,hs.mem,hs.df,hs.en,hs.bd⟩
 have hnx : ∀ (l:List Nat) (u:S),(l.foldl (aJ P (words P) C ops.toList s.nx) u).nx=u.nx:=by
  intro l
  induction l with
  | nil=>intro u;rfl
  | cons i l ih =>
   intro u;simp only[YO];rw[ih];unfold aJ
   split
   .
    exact exec1_n.2
   rfl
 have hfold:=UZ (P:=P) (W:=words P) (C:=C) (L:=ops.toList) (b:=s.nx) ops.toList.length 0 (s.begin ops.toList.length) (by omega)
 simp only[X7] at hfold
 have hfin:exec P (words P) C ops.toList s=(List.range' 0 ops.toList.length).foldl (aJ P (words P) C ops.toList s.nx) (s.begin ops.toList.length):=hfold
 have hnxf:(exec P (words P) C ops.toList s).nx=s.nx+ops.size:=by rw[hfin,hnx];simp[S.begin]
 have hex : ∀ (l:List Nat) (u:S),(l.foldl (aJ P (words P) C ops.toList s.nx) u).e=u.e:=by
  intro l
  induction l with
  | nil=>intro u;rfl
  | cons i l ih =>
   intro u;simp only[YO];rw[ih];unfold aJ
   split
   .
    unfold bu;split<;>rfl
   rfl
 have hef:(exec P (words P) C ops.toList s).clear.e.x=s.e.x:=by show (exec P (words P) C ops.toList s).e.x=s.e.x;rw[hfin,hex];rfl
 have fin : ∀ g' a' w',St P B (exec P (words P) C ops.toList s) g' a' w'->Mono g g' w w'->(∀ r,g'.U r->r<s.nx+ops.size) -> ∃ s' g'',Q .normal s'/\St P B s' g'' a' w'/\MonoX s.e.x g g'' w w'/\(∀ r,g''.U r->r<s'.nx)/\s'.e.x=s.e.x :=
  fun g' a' w' h1 h2 h3=>⟨_,g',hq,h1.clear,h2.toX,fun r hr=>by show r<(exec P (words P) C ops.toList s).nx;rw[hnxf];exact h3 r hr,hef⟩
 cases draw with
 | false =>
  refine wpIn_region ?_;have:=UY (P:=P) (C:=C) (B:=B) (ops:=ops) (b:=s.nx) (ro:=ro) (n:=0) (Q:=fun e a' w'=>∃ s' g',Q e s'/\St P B s' g' a' w'/\MonoX s.e.x g g' w w'/\(∀ r,g'.U r->r<s'.nx)/\s'.e.x=s.e.x) ops.size 0 (s.begin ops.toList.length) g a w hs0 (Mono.refl _ _) (fun r hr=>by have:=hU r hr;omega) om
   (by simp only[X7];exact hok) (by simp only[X7];exact fin)
  rw[Y4];exact this
 | true =>
  obtain⟨h1,h2,h3⟩:=hd rfl;refine wpIn_region_any h1 ?_;obtain⟨hs1,hm1⟩:=zY hs0;have hrep : ∀ i,(Array.replicate ops.size false).getD i false=false:=by
   intro i
   by_cases h:i<ops.size<;>simp[Array.getD,h]
  have htodo:todo ops.size (Array.replicate ops.size false)=List.range' 0 ops.toList.length:=by
   unfold todo;rw[ZA.2 (fun i _=>by rw[hrep];rfl),Y4]
   simp
  refine Vv (C:=C) (B:=B) (b:=s.nx) (fin:=exec P (words P) C ops.toList s) h2 ops.size _ (s.begin ops.toList.length) g a _ (by simp) (by rw[htodo];simp) (fun i o _ hi=>by rw[hrep] at hi;cases hi) (fun i o ho e he hb=>?_) hs1 hm1 (fun r hr=>.inl (hU r hr)) (by rw[htodo,hfin]) hok fin
  unfold gF at h3;simp only[YQ,Zp,Yd,Ye,XX] at h3;have hil:i<ops.toList.length:=(Ya.1 ho).1;have ho':ops.toList.getD i default=o:=by simp only[List.getD,ho,YT]
  have:=h3 i hil e (by rw[ho'];exact he)
  rcases this with h|h
  .
   rw[hb] at h;cases h
  exact h
end
def S.init (n:Nat) (args:List D):S:={ n,t:=fun i=>args.getD i .junk,h:=fun _=>none,nx:=0 }
def vF [Glob P] (s:S):ResultVar->D
 | .tmp t=>s.t t
 | .cell a t=>(lN P t (s.t a) s.h).1
def Ga [Glob P] (s:S):ResultVar->Prop
 | .tmp _=>True
 | .cell a t=>(lN P t (s.t a) s.h).2
def jH (P:Program) [Glob P] (rs:List ResultVar) (s:S):D:=match rs.map (vF (P:=P) s) with
 | [d]=>d
 | ds=>.tuple ds
def jb (P:Program) [Glob P] (s:S):List ResultVar->Prop
 | []=>True
 | r::rs=>Ga (P:=P) s r/\jb P s rs
def yo (tmps:Array Value) (r:ResultVar):Sem Value:=match r with
 | .tmp t=>pure (tmps.getD t undef)
 | .cell a t=>do loadVar t (<- asAddr (tmps.getD a undef))
theorem F9 [Glob P] {B:Bot}{s:S}{g:Mem}{a:Act}{w:World}(hs:St P B { s with e:=Env.tt } g a w):∀ rs:List ResultVar,jb P s rs -> ∃ vs:List Value,(rs.mapM (yo a.tmps)).run P w = .ok vs w/\Reps w g (rs.map (vF (P:=P) s)) vs
 | [],_=>⟨[],by simp,.nil⟩
 | r::rs,h=>by
  obtain⟨vs,h1,h2⟩:=F9 hs rs h.2
  cases r with
  | tmp t=>exact⟨a.tmps.getD t undef::vs,by simp only[List.mapM_cons,Sem.run_bind,yo,Sem.run_pure,Result.andThen_ok,h1],.cons (hs.tm t) h2⟩
  | cell c t =>
   obtain⟨q1,q2,q3⟩:=h.1;obtain⟨p,hp,hc⟩:=Ha hs.mem (hs.tm c) (by intro e;rw[e] at q1;simp at q1;omega)
   obtain⟨v,h4,h5⟩:=FT hc q1 q2 q3;refine⟨v::vs,?_,.cons h5 h2⟩;simp only[List.mapM_cons,Sem.run_bind,yo,hp,asAddr,Sem.run_pure,Result.andThen_ok,h4,h1]
theorem tQ [Glob P] {fn:Func}{B:Bot}{s:S}{g:Mem}{a:Act}{w:World}(hs:St P B { s with e:=Env.tt } g a w) (hok:jb P s fn.results.toList):∃ v,(results fn a.tmps).run P w = .ok v w/\Rep w g (jH P fn.results.toList s) v:=by
 obtain⟨vs,h1,h2⟩:=F9 hs _ hok
 have hrun:(results fn a.tmps).run P w = .ok (if h:vs.toArray.size=1 then vs.toArray[0] else .tuple vs.toArray) w:=by
  have e:results fn a.tmps=(do let vs <- fn.results.mapM (yo a.tmps);pure (if h:vs.size=1 then vs[0] else .tuple vs):Sem Value):=rfl
  rw[e,Array.mapM_eq_mapM_toList]
  simp[h1]
 refine⟨_,hrun,?_⟩
 unfold jH
 split
 .
  rename_i d hd
  rw[hd] at h2;obtain⟨v,l,rfl,h3,h4⟩:=h2.of_cons;rw[h4.of_nil]
  simpa using h3
 rename_i hne
 rw[dif_neg (fun h=>?_)]
 .
  exact .mk_tuple (by simpa using h2)
 have hl:(fn.results.toList.map (vF (P:=P) s)).length=1:=by rw[h2.1];simpa using h
 match hq:fn.results.toList.map (vF (P:=P) s),hl with
 | [d],_=>exact hne d hq
def wZ:Obj->Prop
 | .cells .. | .map .. => True
 | _=>False
theorem zb [Glob P] {fn:Func}{tmps:Array Value}{R:Ending->World->Prop}{n B:Nat}{g:Mem}:∀ (ds:List Deferred) (w:World),Marks B g ds w ->
  (∀ w',w'.drawn=w.drawn->w'.os=w.os->w'.tape=w.tape->w'.output=w.output->w'.heap.size=w.heap.size->(∀ k:Nat,k<B->w'.heap[k]? = w.heap[k]?)->(∀ k:Nat,g.I k->w'.heap[k]? = w.heap[k]?)->(∀ (k:Nat) o,w.heap[k]? = some o->wZ o->w'.heap[k]? = w.heap[k]?) -> ∃ v,(results fn tmps).run P w' = .ok v w'/\R (.returned v) w') ->
  LeavesInM Fence.wide n P fn tmps R ds .returning w:=by
 intro ds
 induction ds with
 | nil =>
  intro w _ h;exact h w rfl rfl rfl rfl rfl (fun _ _=>rfl) (fun _ _=>rfl) (fun _ _ _ _=>rfl)
 | cons d ds ih =>
  rintro w ⟨⟨D,h1,h2,h3,h4,h5⟩,h6⟩ h;refine⟨by simp,.inl ⟨D,w.putObj D (.deferred none),h1,run_takeDeferred h2,?_⟩⟩
  have hne : ∀ k,k≠D->(w.putObj D (.deferred none)).heap[k]? = w.heap[k]? := fun k hk=>World.putObj_heap_other hk
  have hms : ∀ ds:List Deferred,(∀ d'∈ds,d'.target ≠ .collected D)->Marks B g ds w->Marks B g ds (w.putObj D (.deferred none)):=by
   intro ds
   induction ds with
   | nil=>intro _ _;trivial
   | cons e ds ihd =>
    rintro hds ⟨⟨D',k1,k2,k3,k4,k5⟩,k6⟩;refine⟨⟨D',k1,?_,k3,k4,k5⟩,ihd (fun d' hd'=>hds d' (by simp[hd'])) k6⟩
    rw[hne D' (fun e'=>by subst e';exact hds e (by simp) k1)]
    exact k2
  refine ih _ (hms ds h3 h6) fun w' e0 e1 e2 e3 e4 e5 e6 e7=>?_
  refine h w' (by rw[e0];rfl) (by rw[e1];rfl) (by rw[e2];rfl) (by rw[e3];rfl) (by rw[e4];simp) (fun k hk=>?_) (fun k hk=>?_) (fun k o hk ho=>?_)
  .
   rw[e5 k hk,hne k (by omega)]
  .
   rw[e6 k hk,hne k (fun e=>by subst e;exact h5 hk)]
  have:k≠D:=fun e'=>by subst e';rw[h2] at hk;cases hk;exact ho
  rw[e7 k o (by rw[hne k this];exact hk) ho,hne k this]
theorem HM.marks [Glob P] {h:H}{g:Mem}{w w':World}(hm:HM P h g w) (e4:w'.heap.size=w.heap.size) (e6 : ∀ k:Nat,g.I k->w'.heap[k]? = w.heap[k]?) (e7 : ∀ (k:Nat) o,w.heap[k]? = some o->wZ o->w'.heap[k]? = w.heap[k]?):HM P h g w':=by
 refine⟨hm.dead,fun r bl hr=>?_,hm.inj,hm.used,fun b hb=>by rw[e4];exact hm.imm b hb,hm.gr.later fun b hb=>⟨hb,e6 b hb⟩⟩
 obtain⟨blk,c,h1,h2,h3,h4,h5⟩:=hm.blk r bl hr
 refine⟨blk,c,h1,h2,h3,h4,?_⟩
 rcases h5 with h5|⟨b,cur,rfl,h6,h7,h8,h9⟩
 .
  exact .inl h5
 have hst:w'.heap[b]? = w.heap[b]? := by
  obtain⟨x,hx,hy⟩:=h6.some;exact e7 b x hx (by rcases hy with⟨_,_,_,rfl⟩|⟨_,_,rfl⟩<;>trivial)
 exact .inr ⟨b,cur,rfl,by rw[hst];exact h6,h7,h8,fun i row hi=>⟨(h9 i row hi).1,fun j d hd=>by
  obtain⟨u,k3,k4,k5⟩:=(h9 i row hi).2 j d hd;exact⟨u,k3,k4,k5.mono (fun b hb=>⟨hb,e6 b hb⟩) (fun _ h=>h) (fun _ _=>.inl rfl)⟩⟩⟩
theorem St.marks [Glob P] {B:Bot}{s:S}{g:Mem}{a:Act}{w w':World}(hs:St P B s g a w) (e4:w'.heap.size=w.heap.size) (e6 : ∀ k:Nat,g.I k->w'.heap[k]? = w.heap[k]?) (e7 : ∀ (k:Nat) o,w.heap[k]? = some o->wZ o->w'.heap[k]? = w.heap[k]?) :
  St P (Bot.of B.n) { s with e:=Env.tt } g { a with defers:=[] } w' :=
 ⟨hs.sz,fun i=>(hs.tm i).mono (fun b hb=>⟨hb,e6 b hb⟩) (fun _ h=>h) (fun _ _=>.inl rfl),hs.mem.marks e4 e6 e7,Dfs.start,trivial,by rw[e4];exact hs.bd⟩
theorem qw [Glob P] {n:Nat}{args:List D}{vs:List Value}{g:Mem}{w:World}(hr:Reps w g args vs) (hn:args.length<=n) {h:H}(hm:HM P h g w) {nx:Nat} :
  St P (Bot.of w.heap.size) { S.init n args with h:=h,nx:=nx } g { tmps:=vs.toArray++Array.replicate (n-vs.toArray.size) undef,defers:=[] } w:=by
 have hl:vs.length=args.length:=hr.1.symm
 refine⟨by simp[S.init];omega,fun i=>?_,hm,Dfs.start,trivial,XY _⟩
 simp only[S.init]
 by_cases hi:i<args.length
 .
  have e1:args.getD i .junk=args[i]:=by simp[List.getD,Yg hi]
  have hi':i<vs.length:=by omega
  have e2:(vs.toArray++Array.replicate (n-vs.toArray.size) undef).getD i undef=vs[i]:=by
   simp[Array.getElem?_append,hi']
  rw[e1,e2];exact hr.2 i _ _ (by simp) (by simp)
 have e1:args.getD i .junk = .junk:=by simp[List.getD,ZO (Nat.le_of_not_lt hi)]
 rw[e1]
 exact .junk _
theorem G8 [Glob P] {f:FuncId}{fn:Func}{c:Code}{args:List D}{res:D}(hf:P.funcs[f]? = some fn) (hb:fn.body=some c) (hbd:bV P f=true) (hnr:args.all D.nr=true) (hn:args.length<=fn.ntmps)
  (h:DW P none c (fun e s=>(e = .normal\/e = .ret)/\jb P s fn.results.toList /\ ∃ k,cu s.h k (jH P fn.results.toList s)/\wk (bN s.h k (jH P fn.results.toList s))=res) (S.init fn.ntmps args)):PureCt P f args res:=by
 refine⟨hbd,hnr,fun w I vs hI hgr hr=>?_⟩
 have hm:HM P (fun _=>none) (dK I) w:=by
  refine⟨fun _ _=>rfl,?_,?_,?_,hI,hgr⟩
  .
   intro r bl h;cases h
  .
   intro r r' b c c' s s' h;cases h
  intro r h;exact absurd rfl h
 have hs:St P (Bot.of w.heap.size) (S.init fn.ntmps args) (dK I) { tmps:=vs.toArray++Array.replicate (fn.ntmps-vs.toArray.size) undef,defers:=[] } w:=qw hr hn hm
 refine callsIn_of_wp_marks (n:=0) hf hb trivial (wpIn_mono (F:=Fence.wide) (h (Bot.of w.heap.size) (dK I) _ w hs (fun r h=>False.elim h)) ?_)
 rintro e a' w' ⟨s',g',⟨he,ho,k,hk,hres⟩,hs',hm',_⟩
 have hm':=hm'.out
 have hlast:LeavesInM Fence.wide 0 P fn a'.tmps (fun e w'=>∃ v,e = .returned v/\xh w w'/\Rep w' (dK fun b=>I b\/(w.heap.size<=b/\b<w'.heap.size)) res v) a'.defers .returning w':=by
  refine zb (P:=P) a'.defers w' hs'.df.marks fun w2 e0 e1 e2 e3 e4 e5 e6 e7=>?_
  have hs2:=hs'.marks e4 e6 e7;obtain⟨v,h1,h2⟩:=tQ (fn:=fn) hs2 ho;refine⟨v,h1,v,rfl,⟨by rw[e1,hm'.os],by rw[e2,hm'.tape],by rw[e3,hm'.output],by rw[e4];exact hm'.size,by rw[e0];exact hm'.drawn,fun b hb=>?_⟩,?_⟩
  .
   rw[e5 b hb,hm'.same b hb (fun r c s h=>by cases h)]
  obtain⟨q1,q2⟩:=xN hs2.mem k _ v (lJ h2) hk;have q1:=q1.wk;have q2:=xx _ q2;rw[hres] at q1 q2;refine q1.clean q2 fun b hb=>?_
  rcases hb with hb|⟨r,c,s,hb⟩
  .
   rcases hm'.inew b hb with h|h|⟨r,c,s,h⟩
   .
    exact .inl h
   .
    exact .inr ⟨h,hs2.mem.imm b hb⟩
   cases h
  rcases hm'.new r b c s hb with⟨r',c',s',h⟩|h
  .
   cases h
  exact .inr ⟨h,(iQ hs2.mem hb).1⟩
 rcases he with rfl|rfl<;>exact hlast
end Go.DL
