/-
  MANY TEXTS OF MINE IN ONE (a claim has a limit of files): DCore, DRep, DExec, DPure, DMem, DOps, DApp, DEff, DBuild, DMap, DEff2, DCall, DRegion, DDraw, DFt, DW. Conditions: none.
-/
import Derived.WalkKit
import Derived.ControlIn
import Derived.CallsIn
import Derived.OrdersIn
import Derived.Laws.StructEq
import Derived.Great.BuildSlice
import Derived.MapKept
import Derived.Laws.MakeOwn
import Derived.WideKeyRuns
import Derived.RangeFuncLeaves
import Derived.Deep.LoopGhost
import Derived.RangeFuncRecord
set_option linter.unusedVariables false
set_option linter.unusedSimpArgs false
set_option linter.unusedSectionVars false
set_option linter.defProp false
set_option linter.unnecessarySimpa false
namespace Go
def XU := @Bool.and_eq_true
def XV := @if_neg
def XW := @decide_eq_true_eq
def XX := @Nat.le_refl
def XY := @List.cons_append
def XZ := @List.length_append
def X0 := @List.nil_append
def X3 := @if_pos
def X4 := @decide_eq_false_iff_not
def X5 := @List.take_succ_cons
def X6 := @List.drop_zero
def X7 := @List.getElem?_eq_some_iff
def X8 := @List.map_cons
def X9 := @List.drop_succ_cons
def Ya := @List.eq_nil_of_length_eq_zero
def Yb := @Bool.not_eq_true'
def Yc := @Bool.or_eq_true
def Yd := @Bool.or_eq_false_iff
def Ye := @List.take_zero
def Yf := @Option.some.injEq
def Yg := @List.getElem?_eq_getElem
def Yh := @Nat.le_trans
def Yi := @Nat.zero_le
def Yj := @List.mem_of_getElem?
def Yk := @Array.getElem?_eq_some_iff
def Yl := @List.take_of_length_le
def Ym := @List.mem_cons
def Yn := @List.take_length
def Yo := @List.mem_singleton
def Yp := @Bool.false_eq_true
def Yq := @Nat.sub_self
def Yr := @Bool.not_eq_false'
def Yt := @List.mem_map
def Yu := @List.append_assoc
def Yv := @List.append_nil
def Yw := @List.length_drop
def Yx := @List.mem_append
def Yy := @Bool.and_eq_false_iff
def Yz := @List.map_nil
def YA := @List.length_take
def YB := @beq_iff_eq
def YC := @List.drop_eq_getElem_cons
def YD := @Nat.lt_of_lt_of_le
def YE := @decide_eq_true
def YF := @List.pairwise_cons
def YG := @Nat.lt_or_ge
def YH := @List.foldl_cons
def YI := @List.getElem_mem
def YJ := @List.all_eq_true
def YK := @Prod.mk.injEq
def YL := @Bool.eq_iff_iff
def YM := @List.getElem?_append_right
def YN := @of_decide_eq_true
def YO := @eq_false
def YP := @List.set_cons_zero
def YQ := @Option.isSome_iff_exists
def YR := @Option.getD_some
def YS := @List.length_cons
def YT := @List.map_append
def YU := @List.getElem?_map
def YV := @Classical.byContradiction
def YW := @List.set_cons_succ
def YX := @Option.map_some
def YY := @Nat.mul_le_mul_right
def YZ := @List.not_mem_nil
def Y0 := @List.cons.injEq
def Y1 := @List.filter_eq_self
def Y2 := @List.getElem?_drop
def Y3 := @List.drop_eq_nil_of_le
def Y4 := @List.length_nil
def Y5 := @List.getElem?_append_left
def Y6 := @List.getElem?_take
def Y7 := @List.take_append_drop
def Y8 := @decide_eq_false
def Y9 := @List.range'_succ
def Za := @if_false
def Zb := @Option.isNone_iff_eq_none
def Zc := @Array.getElem?_toList
def Zd := @List.map_congr_left
def Ze := @List.range_eq_range'
def Zf := @List.pairwise_append
def Zg := @List.take_add_one
def Zh := @List.foldl_append
def Zi := @beq_eq_false_iff_ne
def Zj := @List.getElem_of_mem
def Zk := @Nat.add_mul
def Zl := @List.range'_append_1
def Zm := @List.length_map
def Zn := @if_true
def Zo := @bne_eq_false_iff_eq
def Zp := @List.mem_range
def Zq := @Array.ext'
def Zr := @List.mem_filter
def Zt := @Option.some.inj
def Zu := @Nat.add_zero
def Zv := @List.getElem?_of_mem
def Zw := @List.mem_filterMap
def Zx := @Array.getD_eq_getD_getElem?
def Zy := @List.length_pos_iff
def Zz := @Array.eq_empty_of_size_eq_zero
def ZA := @List.foldl_nil
def ZB := @Nat.mod_eq_of_lt
def ZC := @bne_iff_ne
def ZE := @Nat.mul_comm
def ZF := @List.map_take
def ZG := @Bool.true_and
def ZH := @Bool.and_self
def ZI := @List.pairwise_iff_getElem
def ZJ := @List.drop_drop
def ZK := @Nat.min_eq_left
def ZL := @List.drop_length
def ZN := @Array.getElem?_eq_getElem
def ZO := @Classical.choose_spec
def ZP := @decide_eq_decide
def ZQ := @Nat.le_add_right
def ZR := @Bool.or_false
def ZT := @List.mem_append_left
def ZU := @List.flatMap_cons
def ZV := @UInt8.toNat_inj
def ZW := @List.pairwise_lt_range
def ZX := @List.getElem?_set_self
def ZY := @List.any_eq_true
def ZZ := @Bool.and_assoc
def Z0 := @List.getElem?_eq_none
def Z4 := @Nat.mul_add_mod
def Z5 := @List.filter_congr
def Z6 := @List.Pairwise.filter
def Z7 := @List.pairwise_singleton
def Z8 := @List.length_set
end Go
namespace Go.DL
theorem ez9 {p : Prop} (h : p := by first | omega | (intros; omega) | (intro h; cases h) | (intro h; simp at h; done)) : p := h
end Go.DL
namespace Go.DL
theorem om{p:Prop}(h:p:=by omega):p:=h
theorem _root_.o5q{p:Prop}(h:p:=by simp only[maxLen];omega):p:=h
theorem _root_.o5t{p:Prop}(h:p:=by rw[k2];exact YY _ h3):p:=h
theorem oW{p:Prop}(h:p:=by first|omega|(dsimp only;omega)):p:=h
inductive D where
 | v (x:Value)
 | agg (cs:List D)
 | list (full:Bool) (rows:List (List D))
 | eptr (cs:List D)
 | mrow (r off len:Nat)
 | mptr (r i off:Nat)
 | fn (f:Fn) (first aD:List D)
 | tuple (ds:List D)
 | iface (t:TypeId) (d:D)
 | mp (r:Nat)
 | fmap (kv:List D)
 | cond (g:Bool) (d:D)
 | junk
 deriving Inhabited
abbrev D.i(n:Int):D:=.v (.int .i64 n)
abbrev D.b(x:Bool):D:=.v (.bool x)
def D.cells:D->List D
 | .agg cs=>cs
 | d=>[d]
def D.one:D->Bool
 | .v (.agg _) | .v (.tuple _)=>false
 | .agg _ | .tuple _ | .cond _ _ | .junk=>false
 | _=>true
def Zab(_:Program):Type:=Nat->Option (List Value)
abbrev Glob(P:Program):=Inhabited (Zab P)
def Glob.tab(P:Program)[Glob P]:Nat->Option (List Value):=(default:Zab P)
structure eZ where
 ty:TypeId
 rows:List (List D)
abbrev H:=Nat->Option eZ
def upd{α:Type}(f:Nat->α)(i:Nat)(x:α):Nat->α:=λj=>if j=i then x else f j
theorem bN{α:Type}(f:Nat->α)(i:Nat)(x:α):upd f i x i=x:=by simp[upd]
theorem aK{α:Type}(f:Nat->α)(i j:Nat)(x:α)(h:j≠i):upd f i x j=f j:=by simp[upd,h]
def E8:Value->D
 | .slice a n c=>if a.isNone&&n==0&&c==0 then .list true []else .v (.slice a n c)
 | .func f fs cs=>if fs.size==0&&cs.size==0 then .fn f [] []else .v (.func f fs cs)
 | x=>.v x
def qm:Value->D
 | .agg cs=>.agg (cs.toList.map E8)
 | x=>E8 x
section
variable (P : Program) [Glob P]
def dN(t:TypeId):Bool:=match P.underlying t with|some (.struct _)|some (.array _ _)=>true|_=>false
def zeroCells(t:TypeId):List D:=match(P.info? t).bind (·.zero)with|some z=>(qm z).cells|none=>[]
def eQ(t:TypeId):Bool:=match(P.info? t).bind (·.zero)with|some z=>z.cells.size==P.cellsOf t|none=>false
def bH(s:TypeId)(f:Nat):Option (Nat×TypeId):=match P.underlying s with|some (.struct fs)=>(fs[f]?).map λf=>(f.offset,f.type)|_=>none
def bQ(t:TypeId):Option TypeId:=match P.underlying t with|some (.slice e)=>some e|_=>none
def xZ(t:TypeId)(cs:List D):D:=if dN P t then .agg (cs.take (P.cellsOf t))else cs.headD .junk
def jL(a:D)(h:H):List D:=match a with
 | .eptr cs=>cs
 | .mptr r i off=>match h r with
  | some b=>(b.rows.getD i []).drop off
  | none=>[]
 | _=>[]
def jo(a:D)(h:H):List D:=match a with
 | .v (.pointer (some ⟨x,o,none⟩))=>match Glob.tab P x with
  | some cs=>(cs.drop o).map D.v
  | none=>[]
 | a=>jL a h
def mP(t:TypeId)(a:D)(h:H):D×Prop :=
 (xZ P t (jo P a h),P.cellsOf t<=(jo P a h).length/\0<P.cellsOf t/\(P.underlying t).isSome=true)
def splice(row:List D)(off:Nat)(cs:List D):List D:=row.take off++cs++row.drop (off+cs.length)
def lu(t:TypeId)(a x:D)(h:H):H×Prop:=match a with
 | .mptr r i off=>match h r with
  | some b=>(upd h r (some { b with rows:=b.rows.set i (splice (b.rows.getD i []) off x.cells) }),
    x.cells.length=P.cellsOf t/\0<P.cellsOf t/\i<b.rows.length/\off+x.cells.length<=(b.rows.getD i []).length/\x.cells.all D.one=true)
  | none=>(h,False)
 | _=>(h,False)
def zu(n:Nat):D->D
 | .eptr cs=>.eptr (cs.drop n)
 | .mptr r i off=>.mptr r i (off+n)
 | .v (.pointer (some p))=>.v (.pointer (some (p.add n)))
 | _=>.junk
def ym:D->Bool
 | .eptr _ | .mptr _ _ _=>true
 | .v (.pointer (some _))=>true
 | _=>false
def Ca(s:TypeId)(f:Nat)(a:D):D×Prop:=match bH P s f with
 | some (off,t)=>(zu off a,ym a=true/\P.cellsOf t≠0)
 | none=>(.junk,False)
def Gf(s:TypeId)(f:Nat)(a:D):D×Prop:=match bH P s f,a with
 | some (off,t),.agg cs=>(xZ P t (cs.drop off),off+P.cellsOf t<=cs.length/\0<P.cellsOf t/\(P.underlying t).isSome=true)
 | _,_=>(.junk,False)
def aC(d:D)(h:H):List (List D):=match d with
 | .list _ rows=>rows
 | .mrow r off len=>match h r with
  | some b=>(b.rows.drop off).take len
  | none=>[]
 | .v (.string s)=>s.data.toList.map λb=>[.v (.int .u8 b.toNat)]
 | _=>[]
def bO(d:D):Nat:=match d with
 | .list _ rows=>rows.length
 | .mrow _ _ len=>len
 | .v (.string s)=>s.size
 | _=>0
def rf(t:TypeId):Option (Nat×TypeId):=match P.underlying t with|some (.array n e)=>some (n,e)|_=>none
def zP:D->Bool
 | .v (.pointer (some _)) | .eptr _ | .mptr _ _ _=>true
 | _=>false
def wZ(t:TypeId)(x ix:D):D×Prop:=match rf P t,ix with
 | some (n,e),.v (.int _ k)=>(zu (k.toNat*P.cellsOf e) x,zP x=true/\0<=k/\k<n/\0<P.cellsOf e)
 | _,_=>(.junk,False)
def jr(t:TypeId)(x ix:D)(h:H):D×Prop:=match bQ P t with
 | none=>wZ P t x ix
 | some e=>match x,ix with
  | .list _ rows,.v (.int _ n)=>(.eptr (rows.getD n.toNat []),0<=n/\n<rows.length/\0<P.cellsOf e/\(rows.getD n.toNat []).length=P.cellsOf e)
  | .mrow r off len,.v (.int _ n)=>(.mptr r (off+n.toNat) 0,0<=n/\n<len/\0<P.cellsOf e/\match h r with|some bl=>bl.ty=e|none=>False)
  | _,_=>(.junk,False)
def qz(k:IntKind)(n:Int):Prop:=k.min<=n/\n<=k.max
def nU:D->D->Bool
 | .v (.int _ a),.v (.int _ b)=>a==b
 | .v (.bool a),.v (.bool b)=>a==b
 | .v (.string a),.v (.string b)=>a.data.toList==b.data.toList
 | _,_=>false
def pI:List D->List D->Bool
 | x::xs,y::ys=>nU x y&&pI xs ys
 | _,_=>true
inductive Kd where
 | b|i|s
def A7:Kd->D->D->Bool
 | .i,.v (.int k _),.v (.int k' _)=>k==k'
 | .b,.v (.bool _),.v (.bool _)=>true
 | .s,.v (.string _),.v (.string _)=>true
 | _,_,_=>false
def su:List Kd->List D->List D->Bool
 | k::ks,x::xs,y::ys=>A7 k x y&&su ks xs ys
 | [],[],[]=>true
 | _,_,_=>false
def gT(t:TypeId)(op:BinOp)(x y:Value):Value×Prop:=match op,x,y with
 | .add,.int k a,.int k' b=>if k.signed then(.int k (a+b),k=k'/\qz k (a+b))else(.int k (k.wrap (a+b)),k=k')
 | .sub,.int k a,.int k' b=>if k.signed then(.int k (a-b),k=k'/\qz k (a-b))else(.int k (k.wrap (a-b)),k=k')
 | .mul,.int k a,.int k' b=>if k.signed then(.int k (a*b),k=k'/\qz k (a*b))else(.int k (k.wrap (a*b)),k=k')
 | .quo,.int k a,.int k' b=>(.int k (a / b),k=k'/\0<=a/\1<=b/\qz k a)
 | .rem,.int k a,.int k' b=>(.int k (a % b),k=k'/\0<=a/\1<=b)
 | .lss,.int k a,.int k' b=>(.bool (decide (a<b)),k=k')
 | .leq,.int k a,.int k' b=>(.bool (decide (a<=b)),k=k')
 | .gtr,.int k a,.int k' b=>(.bool (decide (b<a)),k=k')
 | .geq,.int k a,.int k' b=>(.bool (decide (b<=a)),k=k')
 | .eql,.int k a,.int k' b=>(.bool (a==b),k=k')
 | .neq,.int k a,.int k' b=>(.bool (a != b),k=k')
 | .eql,.bool a,.bool b=>(.bool (a==b),P.underlying t=some .bool)
 | .neq,.bool a,.bool b=>(.bool (a != b),P.underlying t=some .bool)
 | .eql,.string a,.string b=>(.bool (a.data.toList==b.data.toList),True)
 | .neq,.string a,.string b=>(.bool (a.data.toList != b.data.toList),True)
 | .add,.string a,.string b=>(.string (a++b),a.size+b.size<=9223372036854775807)
 | .lss,.string a,.string b=>(.bool (Go.Op.bytesLess a.data.toList b.data.toList),True)
 | .leq,.string a,.string b=>(.bool (Go.Op.bytesLess a.data.toList b.data.toList||a.data.toList==b.data.toList),True)
 | .gtr,.string a,.string b=>(.bool !(Go.Op.bytesLess a.data.toList b.data.toList||a.data.toList==b.data.toList),True)
 | .geq,.string a,.string b=>(.bool !(Go.Op.bytesLess a.data.toList b.data.toList),True)
 | .shl,.int k a,.int _ b=>(.int k (k.wrap (a*2^(min b.toNat k.bits))),0<=b)
 | .shr,.int k a,.int _ b=>(.int k (a.fdiv (2^(min b.toNat k.bits))),0<=b)
 | .or,.int k a,.int k' b=>(.int k (k.wrap (BitVec.ofInt k.bits a ||| BitVec.ofInt k.bits b).toNat),k=k')
 | .xor,.int k a,.int k' b=>(.int k (k.wrap (BitVec.ofInt k.bits a ^^^ BitVec.ofInt k.bits b).toNat),k=k')
 | _,_,_=>(undef,False)
def kindOf(P:Program)[Glob P](t:TypeId):Option Kd:=match P.underlying t with
 | some .bool=>some .b
 | some (.int _)=>some .i
 | some .string=>some .s
 | _=>none
def Ae(P:Program)[Glob P]:Nat->List Field->Option (List Kd)
 | _,[]=>some []
 | i, f :: fs => if f.name != "_" && f.offset == i then (match kindOf P f.type, Ae P (i + 1) fs with
  | some k,some ks=>some (k::ks)
  | _,_=>none)else none
def vW(P:Program)[Glob P](t:TypeId):Option (List Kd):=match P.underlying t with
 | some (.struct fs)=>if !P.stoodInHeld t && !P.eqGuardType P.depth t then Ae P 0 fs.toList else none
 | _=>none
def yQ(t:TypeId)(op:BinOp)(x y:D):D×Prop:=match x,y with
 | .v a,.v b=>(.v (gT P t op a b).1,(gT P t op a b).2)
 | .agg xs,.agg ys=>match op with
  | .eql=>(.v (.bool (pI xs ys)),match vW P t with|some ks=>su ks xs ys=true|none=>False)
  | .neq=>(.v (.bool (!pI xs ys)),match vW P t with|some ks=>su ks xs ys=true|none=>False)
  | _=>(.junk,False)
 | _,_=>(.junk,False)
end
def mW:D->D->Bool
 | .agg xs,.agg ys=>pI xs ys
 | x,y=>nU x y
def kK:List D->D->Option D
 | k::v::l,q=>if mW q k then some v else kK l q
 | _,_=>none
def jq:List D->D->D->List D
 | k::v::l,q,x=>if mW q k then q::x::l else k::v::jq l q x
 | _,q,x=>[q,x]
def mJ(P:Program)(t:TypeId)(d:D):Bool:=match P.underlying t,d with
 | some .string,.v (.string _)=>true
 | some (.int k),.v (.int k' _)=>k==k'
 | some .bool,.v (.bool _)=>true
 | _,_=>false
def lX(P:Program):Nat->List Field->List D->Bool
 | i, f :: fs, d :: ds => f.name != "_" && f.offset == i && mJ P f.type d && lX P (i + 1) fs ds
 | _,[],[]=>true
 | _,_,_=>false
def l5(P:Program)(t:TypeId)(d:D):Bool:=match P.underlying t,d with
 | some (.struct fs),.agg cs=>lX P 0 fs.toList cs
 | _,d=>mJ P t d
def kL(P:Program)(t:TypeId):List D->Bool
 | k::_::l=>l5 P t k&&kL P t l
 | []=>true
 | _=>false
def rU(P:Program)[Glob P](t:TypeId):Bool:=match P.underlying t with
 | some (.struct _)=>(vW P t).isSome
 | some .string|some (.int _)|some .bool=>true
 | _=>false
def yX(P:Program)(t:TypeId):D:=match(P.info? t).bind (·.zero)with|some z=>qm z|none=>.junk
def Jy(P:Program)(t:TypeId):Bool:=((P.info? t).bind (·.zero)).isSome
def rR(P:Program)(t:TypeId):Option (TypeId×TypeId):=match P.underlying t with|some (.map k e)=>some (k,e)|_=>none
def qy(bl:eZ):Option (List D):=match bl.rows with
 | [[.iface 0 (.tuple kv)]]=>some kv
 | _=>none
def iY(kv:List D):List (List D):=[[.iface 0 (.tuple kv)]]
def yh(h:H):D->Option (List D)
 | .mp r=>(h r).bind qy
 | .fmap kv=>some kv
 | _=>none
end Go.DL
namespace Go.DL
open Go.RowKit
structure Mem where
 M:Nat->Option (Option Nat×Nat×Nat)
 U:Nat->Prop
 I:Nat->Prop
theorem block_add(a:Addr)(n:Nat):(a.add n).block=a.block:=by unfold Addr.add;split<;>rfl
theorem add_add'(a:Addr)(i j:Nat):(a.add i).add j=a.add (i+j):=by
 unfold Addr.add
 by_cases hi:i=0<;>by_cases hj:j=0<;>simp[hi,hj,Nat.add_assoc]
theorem pO(b o n:Nat):(⟨b,o,none⟩:Addr).add n=⟨b,o+n,none⟩:=by
 unfold Addr.add;split<;>simp_all
def qx(es:Array MapEntry):List Value:=es.toList.flatMap λe=>[e.key,e.val]
def uZ(o:Option Obj)(ty:TypeId)(cur:Array Value)(c:Nat):Prop :=
 (c<=maxLen/\o=some (.cells cur ty (0,0)))\/(c=maxLen+1 /\ ∃es gP,o=some (.map es gP)/\cur = #[.iface 0 (.tuple (qx es).toArray)])
theorem uZ.cells{o:Option Obj}{ty:TypeId}{cur:Array Value}{c:Nat}(h:uZ o ty cur c)(hc:c<=maxLen):o=some (.cells cur ty (0,0)):=by
 rcases h with h|⟨h,_⟩
 . exact h.2
 omega
theorem uZ.map{o:Option Obj}{ty:TypeId}{cur:Array Value}{c:Nat}(h:uZ o ty cur c)(hc:c=maxLen+1):∃es gP,o=some (.map es gP)/\cur = #[.iface 0 (.tuple (qx es).toArray)]:=by
 rcases h with h|⟨_,h⟩
 . omega
 exact h
theorem uZ.some{o:Option Obj}{ty:TypeId}{cur:Array Value}{c:Nat}(h:uZ o ty cur c):∃x,o=some x/\((∃e f g,x = .cells e f g) \/ ∃e f,x = .map e f):=by
 rcases h with h|⟨_,es,gP,h,_⟩
 . exact⟨_,h.2,.inl ⟨_,_,_,rfl⟩⟩
 exact⟨_,h,.inr ⟨_,_,rfl⟩⟩
def uZ.uniq{o:Option Obj}{ty:TypeId}{cur cur':Array Value}{c:Nat}(h:uZ o ty cur c)(k:uZ o ty cur' c):cur=cur':=by
 by_cases hc:c<=maxLen
 .
  have h1:=h.cells hc;have h2:=k.cells hc;rw[h1]at h2
  cases h2
  rfl
 have e:c=maxLen+1:=by
  rcases h with h|h
  . exact absurd h.1 hc
  exact h.1
 obtain⟨es,gP,h1,h2⟩:=h.map e
 obtain⟨es',clk',k1,k2⟩:=k.map e
 rw[h1]at k1
 cases k1
 rw[h2,k2]
inductive ag (w:World) (g:Mem):D->Value->Prop
 | v (x:Value):ag w g (.v x) x
 | agg (ds:List D) (vs:Array Value) (hn:ds.length=vs.size) (h : ∀(i:Nat)d x,ds[i]? = some d->vs[i]? = some x->ag w g d x):ag w g (.agg ds) (.agg vs)
 | tuple (ds:List D) (vs:Array Value) (hn:ds.length=vs.size) (h : ∀(i:Nat)d x,ds[i]? = some d->vs[i]? = some x->ag w g d x):ag w g (.tuple ds) (.tuple vs)
 | iface (t:TypeId) (d:D) (x:Value) (h:ag w g d x):ag w g (.iface t d) (.iface t x)
 | empty (full:Bool) (a:Option Addr) (cap:Nat) (hf:full=true->cap=0) (hm:cap<=maxLen):ag w g (.list full []) (.slice a 0 cap)
 | list (full:Bool) (rows:List (List D)) (ad:Addr) (cap size:Nat) (cv:Nat->Nat->Value) (hI:g.I ad.block) (hl:rows.length<=cap) (hf:full=true->cap=rows.length) (hm:cap<=maxLen)
   (hs : ∀r∈rows,r.length=size) (hc : ∀(i j:Nat)r d,rows[i]? = some r->r[j]? = some d->w.cell? (ad.add (i*size+j))=some (cv i j)/\(cv i j).oneCell'=true)
   (hr : ∀(i j:Nat)r d,rows[i]? = some r->r[j]? = some d->ag w g d (cv i j)):ag w g (.list full rows) (.slice (some ad) rows.length cap)
 | eptr (cs:List D) (p:Addr) (cv:Nat->Value) (hI:g.I p.block) (hc : ∀(j:Nat)d,cs[j]? = some d->w.cell? (p.add j)=some (cv j)) (hr : ∀(j:Nat)d,cs[j]? = some d->ag w g d (cv j)):ag w g (.eptr cs) (.pointer (some p))
 | mrow (r off len:Nat) (x:Value) (hx : ∃a c,x = .slice a len c/\len<=c/\(0<len -> ∃p,a=some p)) (hU:g.U r) (h : ∀blk c sz,g.M r=some (blk,c,sz)->(off+len<=c/\c<=maxLen)/\((c=off /\ ∃a,x = .slice a 0 0)\/(c≠off /\ ∃b,blk=some b/\x = .slice (some ⟨b,off*sz,Option.none⟩) len (c-off)))):ag w g (.mrow r off len) x
 | mptr (r i off:Nat) (x:Value) (hx : ∃p,x = .pointer (some p)) (hU:g.U r) (h : ∀blk c sz,g.M r=some (blk,c,sz)->c<=maxLen /\ ∃b,blk=some b/\x = .pointer (some ⟨b,i*sz+off,Option.none⟩)):ag w g (.mptr r i off) x
 | mp (r:Nat) (x:Value) (hx : ∃p,x = .map (some p)) (hU:g.U r) (h : ∀blk c sz,g.M r=some (blk,c,sz)->c=maxLen+1 /\ ∃b,blk=some b/\x = .map (some b)):ag w g (.mp r) x
 | fmap (kv:List D) (b:Nat) (es:Array MapEntry) (gP:Nat) (hI:g.I b) (hb:w.heap[b]? = some (.map es gP)) (hn:kv.length=(qx es).length) (h : ∀(i:Nat)d x,kv[i]? = some d->(qx es)[i]? = some x->ag w g d x):ag w g (.fmap kv) (.map (some b))
 | fn (f:Fn) (first aD:List D) (fs cs:Array Value) (hf:first.length=fs.size) (hc:aD.length=cs.size) (h1 : ∀(i:Nat)d x,first[i]? = some d->fs[i]? = some x->ag w g d x)
   (h2 : ∀(i:Nat)d x,aD[i]? = some d->cs[i]? = some x->ag w g d x):ag w g (.fn f first aD) (.func f fs cs)
 | cond (b:Bool) (d:D) (x:Value) (ht:b=true->ag w g d x) (hf:b=false->x=undef):ag w g (.cond b d) x
 | junk (x:Value):ag w g .junk x
theorem ag.mono{w w':World}{g g':Mem}(hI : ∀b,g.I b->g'.I b/\w'.heap[b]? = w.heap[b]?)(hU : ∀r,g.U r->g'.U r)(hM : ∀r,g.U r->g'.M r=g.M r\/g'.M r=Option.none)
  {d:D}{x:Value}(h:ag w g d x):ag w' g' d x:=by
 induction h with
 | v x=>exact .v x
 | agg ds vs hn _ ih=>exact .agg ds vs hn ih
 | tuple ds vs hn _ ih=>exact .tuple ds vs hn ih
 | iface t d x _ ih=>exact .iface t d x ih
 | empty full a cap hf hm=>exact .empty full a cap hf hm
 | list full rows ad cap size cv hi hl hf hm hs hc _ ih =>
  refine .list full rows ad cap size cv (hI _ hi).1 hl hf hm hs (λi j r d h1 h2=>?_) ih
  obtain⟨h3,h4⟩:=hc i j r d h1 h2;refine⟨?_,h4⟩;rw[<-h3];exact World.cell?_of_block (by rw[block_add];exact(hI _ hi).2)
 | eptr cs p cv hi hc _ ih =>
  refine .eptr cs p cv (hI _ hi).1 (λj d h1=>?_) ih
  rw[<-hc j d h1];exact World.cell?_of_block (by rw[block_add];exact(hI _ hi).2)
 | mrow r off len x hx hu h =>
  refine .mrow r off len x hx (hU r hu) λblk c sz he=>?_
  rcases hM r hu with e|e
  . exact h blk c sz (e▸he)
  rw[e]at he;cases he
 | mptr r i off x hx hu h =>
  refine .mptr r i off x hx (hU r hu) λblk c sz he=>?_
  rcases hM r hu with e|e
  . exact h blk c sz (e▸he)
  rw[e]at he;cases he
 | mp r x hx hu h =>
  refine .mp r x hx (hU r hu) λblk c sz he=>?_
  rcases hM r hu with e|e
  . exact h blk c sz (e▸he)
  rw[e]at he;cases he
 | fmap kv b es gP hi hb hn _ ih=>exact .fmap kv b es gP (hI b hi).1 ((hI b hi).2.trans hb) hn ih
 | fn f first aD fs cs hf hc _ _ ih1 ih2=>exact .fn f first aD fs cs hf hc ih1 ih2
 | cond b d x _ hf ih=>exact .cond b d x ih hf
 | junk x=>exact .junk x
def aB(w:World)(g:Mem)(ds:List D)(vs:List Value):Prop:=ds.length=vs.length /\ ∀(i:Nat)d x,ds[i]? = some d->vs[i]? = some x->ag w g d x
theorem aB.nil{w:World}{g:Mem}:aB w g [] []:=⟨rfl,λi d x h=>by simp at h⟩
theorem aB.cons{w:World}{g:Mem}{d:D}{x:Value}{ds:List D}{vs:List Value}(h:ag w g d x)(hs:aB w g ds vs):aB w g (d::ds) (x::vs):=by
 refine⟨by simp[hs.1],λi d' x' h1 h2=>?_⟩
 cases i with
 | zero=>simp at h1 h2;subst h1;subst h2;exact h
 | succ i=>simp at h1 h2;exact hs.2 i d' x' h1 h2
def aB.head{w:World}{g:Mem}{d:D}{x:Value}{ds:List D}{vs:List Value}(hs:aB w g (d::ds) (x::vs)):ag w g d x:=hs.2 0 d x rfl rfl
def aB.tail{w:World}{g:Mem}{d:D}{x:Value}{ds:List D}{vs:List Value}(hs:aB w g (d::ds) (x::vs)):aB w g ds vs :=
 ⟨by simpa using hs.1,λi d' x' h1 h2=>hs.2 (i+1) d' x' (by simpa using h1) (by simpa using h2)⟩
def aB.of_nil{w:World}{g:Mem}{vs:List Value}(hs:aB w g [] vs):vs=[]:=Ya hs.1.symm
theorem aB.of_cons{w:World}{g:Mem}{d:D}{ds:List D}{vs:List Value}(hs:aB w g (d::ds) vs):∃x xs,vs=x::xs/\ag w g d x/\aB w g ds xs:=by
 cases vs with
 | nil=>simp[aB]at hs
 | cons x xs=>exact⟨x,xs,rfl,hs.head,hs.tail⟩
theorem aB.append{w:World}{g:Mem}{ds es:List D}{vs us:List Value}(h:aB w g ds vs)(k:aB w g es us):aB w g (ds++es) (vs++us):=by
 induction ds generalizing vs with
 | nil=>rw[h.of_nil];exact k
 | cons d ds ih=>obtain⟨x,xs,rfl,h1,h2⟩:=h.of_cons;exact .cons h1 (ih h2)
theorem aB.take{w:World}{g:Mem}{ds:List D}{vs:List Value}(h:aB w g ds vs)(n:Nat):aB w g (ds.take n) (vs.take n):=by
 refine⟨by simp[h.1],λi d x h1 h2=>?_⟩
 rw[Y6]at h1 h2
 split at h1
 . rename_i hi;rw[X3 hi]at h2;exact h.2 i d x h1 h2
 cases h1
theorem aB.drop{w:World}{g:Mem}{ds:List D}{vs:List Value}(h:aB w g ds vs)(n:Nat):aB w g (ds.drop n) (vs.drop n):=by
 refine⟨by simp[h.1],λi d x h1 h2=>?_⟩
 rw[Y2]at h1 h2
 exact h.2 _ d x h1 h2
def aB.mono{w w':World}{g g':Mem}(hI : ∀b,g.I b->g'.I b/\w'.heap[b]? = w.heap[b]?)(hU : ∀r,g.U r->g'.U r)(hM : ∀r,g.U r->g'.M r=g.M r\/g'.M r=Option.none)
  {ds:List D}{vs:List Value}(h:aB w g ds vs):aB w' g' ds vs:=⟨h.1,λi d x h1 h2=>(h.2 i d x h1 h2).mono hI hU hM⟩
def Holds(P:Program)[Glob P](w:World)(g:Mem)(bl:eZ)(cur:Array Value):Prop :=
 ∀(i:Nat)row,bl.rows[i]? = some row->row.length=P.cellsOf bl.ty /\ ∀(j:Nat)d,row[j]? = some d -> ∃u,cur[i*P.cellsOf bl.ty+j]? = some u/\u.oneCell'=true/\ag w g d u
def Gr(P:Program)[Glob P](I:Nat->Prop)(w:World):Prop:=∀x cs,Glob.tab P x=some cs->I x /\ ∀(j:Nat)v,cs[j]? = some v->w.cell? ⟨x,j,Option.none⟩=some v
theorem Gr.later{P:Program}[Glob P]{I I':Nat->Prop}{w w':World}(h:Gr P I w)(k : ∀b,I b->I' b/\w'.heap[b]? = w.heap[b]?):Gr P I' w':=by
 intro x cs hx
 obtain⟨h1,h2⟩:=h x cs hx
 refine⟨(k x h1).1,λj v hj=>?_⟩
 rw[<-h2 j v hj]
 exact World.cell?_of_block (k x h1).2
structure HM(P:Program)[Glob P](h:H)(g:Mem)(w:World):Prop where
 dead : ∀r,h r=Option.none->g.M r=Option.none
 blk : ∀r bl,h r=some bl -> ∃blk c,g.M r=some (blk,c,P.cellsOf bl.ty)/\0<P.cellsOf bl.ty/\bl.rows.length<=c/\c<=maxLen+1 /\
  ((blk=Option.none/\c=0) \/ ∃b cur,blk=some b/\uZ w.heap[b]? bl.ty cur c/\(c<=maxLen->cur.size=c*P.cellsOf bl.ty) /\ ¬g.I b/\Holds P w g bl cur)
 inj : ∀r r' b c c' s s',g.M r=some (some b,c,s)->g.M r'=some (some b,c',s')->r=r'
 used : ∀r,g.M r≠Option.none->g.U r
 imm : ∀b,g.I b->b<w.heap.size
 gr:Gr P g.I w
structure ax(g g':Mem)(w w':World):Prop where
 os:w'.os=w.os
 tape:w'.tape=w.tape
 output:w'.output=w.output
 size:w.heap.size<=w'.heap.size
 drawn:w.drawn<=w'.drawn
 U : ∀r,g.U r->g'.U r
 M : ∀r,g.U r->g'.M r=g.M r\/g'.M r=Option.none
 new : ∀r b c s,g'.M r=some (some b,c,s)->(∃r' c' s',g.M r'=some (some b,c',s'))\/w.heap.size<=b
 I : ∀b,g.I b->g'.I b
 inew : ∀b,g'.I b->g.I b\/w.heap.size<=b \/ ∃r c s,g.M r=some (some b,c,s)
 same : ∀b,b<w.heap.size->(∀r c s,g.M r≠some (some b,c,s))->w'.heap[b]? = w.heap[b]?
def ax.refl(g:Mem)(w:World):ax g g w w :=
 ⟨rfl,rfl,rfl,XX _,XX _,λ_ h=>h,λ_ _=>.inl rfl,λr _ c s h=>.inl ⟨r,c,s,h⟩,λ_ h=>h,λ_ h=>.inl h,λ_ _ _=>rfl⟩
theorem ax.trans{g g' g'':Mem}{w w' w'':World}(h:ax g g' w w')(k:ax g' g'' w' w''):ax g g'' w w'':=by
 refine⟨k.os.trans h.os,k.tape.trans h.tape,k.output.trans h.output,Yh h.size k.size,Yh h.drawn k.drawn,λr hr=>k.U r (h.U r hr),λr hr=>?_,λr b c s hr=>?_,λb hb=>k.I b (h.I b hb),λb hb=>?_,λb hb hn=>?_⟩
 .
  rcases k.M r (h.U r hr)with e|e
  . rw[e];exact h.M r hr
  exact .inr e
 .
  rcases k.new r b c s hr with⟨r',c',s',e⟩|e
  . exact h.new r' b c' s' e
  exact .inr (Yh h.size e)
 .
  rcases k.inew b hb with e|e|⟨r,c,s,e⟩
  . exact h.inew b e
  . exact .inr (.inl (Yh h.size e))
  rcases h.new r b c s e with⟨r',c',s',e'⟩|e'
  . exact .inr (.inr ⟨r',c',s',e'⟩)
  exact .inr (.inl e')
 refine(k.same b (YD hb h.size) λr c s e=>?_).trans (h.same b hb hn)
 rcases h.new r b c s e with⟨r',c',s',e'⟩|e'
 . exact hn r' c' s' e'
 omega
theorem HM.kept{P:Program}[Glob P]{h:H}{g g':Mem}{w w':World}(hm:HM P h g w)(k:ax g g' w w'):∀b,g.I b->g'.I b/\w'.heap[b]? = w.heap[b]? := by
 refine λb hb=>⟨k.I b hb,k.same b (hm.imm b hb) λr c s e=>?_⟩
 cases hr:h r with
 | none=>rw[hm.dead r hr]at e;cases e
 | some bl =>
  obtain⟨blk,c',e1,_,_,_,h5⟩:=hm.blk r bl hr;rw[e]at e1;simp only[Yf,YK]at e1
  rcases h5 with⟨h6,_⟩|⟨b',cur,h6,_,_,h7,_⟩
  . rw[<-e1.1]at h6;cases h6
  rw[<-e1.1]at h6;cases h6;exact h7 hb
theorem ag.later{P:Program}[Glob P]{h:H}{g g':Mem}{w w':World}(hm:HM P h g w)(k:ax g g' w w'){d:D}{x:Value}(hr:ag w g d x):ag w' g' d x:=hr.mono (hm.kept k) k.U k.M
theorem aB.later{P:Program}[Glob P]{h:H}{g g':Mem}{w w':World}(hm:HM P h g w)(k:ax g g' w w'){d:List D}{x:List Value}(hr:aB w g d x):aB w' g' d x:=hr.mono (hm.kept k) k.U k.M
mutual
def wk:D->D
 | .agg cs=>.agg (eB cs)
 | .list _ rows=>.list false (eG rows)
 | .eptr cs=>.eptr (eB cs)
 | .tuple ds=>.tuple (eB ds)
 | .iface t d=>.iface t (wk d)
 | .fmap kv=>.fmap (eB kv)
 | d=>d
def eB:List D->List D
 | []=>[]
 | d::ds=>wk d::eB ds
def eG:List (List D)->List (List D)
 | []=>[]
 | r::rs=>eB r::eG rs
end
theorem u6 : ∀ds:List D,eB ds=ds.map wk
 | []=>rfl
 | d::ds=>by simp only[eB,u6 ds,X8]
theorem KM : ∀ds:List (List D),eG ds=ds.map eB
 | []=>rfl
 | d::ds=>by simp only[eG,KM ds,X8]
theorem kX{α β:Type}{f:α->β}{l:List α}{i:Nat}{y:β}(h:(l.map f)[i]? = some y):∃x,l[i]? = some x/\f x=y:=by
 rw[YU]at h
 cases hi:l[i]? with
 | none=>rw[hi]at h;cases h
 | some x=>rw[hi]at h;exact⟨x,rfl,by simpa using h⟩
theorem ag.wk{w:World}{g:Mem}{d:D}{v:Value}(h:ag w g d v):ag w g (wk d) v:=by
 induction h with
 | v x=>exact .v x
 | agg ds vs hl _ ih =>
  simp only[DL.wk,u6];exact .agg _ vs (by simpa using hl) λi d x h1 h2=>by obtain⟨y,h3,rfl⟩:=kX h1;exact ih i y x h3 h2
 | tuple ds vs hl _ ih =>
  simp only[DL.wk,u6];exact .tuple _ vs (by simpa using hl) λi d x h1 h2=>by obtain⟨y,h3,rfl⟩:=kX h1;exact ih i y x h3 h2
 | iface t d x _ ih=>exact .iface t _ x ih
 | empty full a cap hf hm=>exact .empty false a cap (λh=>by cases h) hm
 | list full rows ad cap size cv hi hl hf hm hs hc _ ih =>
  simp only[DL.wk,KM];have e:rows.length=(rows.map eB).length:=by simp
  rw[e];refine .list false _ ad cap size cv hi (by simpa using hl) (λh=>by cases h) hm (λr hr=>?_) (λi j r d h1 h2=>?_) (λi j r d h1 h2=>?_)
  . obtain⟨r',h1,rfl⟩:=Yt.1 hr;rw[u6];simpa using hs r' h1
  . obtain⟨r',h3,rfl⟩:=kX h1;rw[u6]at h2;obtain⟨d',h4,rfl⟩:=kX h2;exact hc i j r' d' h3 h4
  obtain⟨r',h3,rfl⟩:=kX h1;rw[u6]at h2;obtain⟨d',h4,rfl⟩:=kX h2;exact ih i j r' d' h3 h4
 | eptr cs p cv hi hc _ ih =>
  simp only[DL.wk,u6];refine .eptr _ p cv hi (λj d h1=>?_) (λj d h1=>?_)
  . obtain⟨d',h3,rfl⟩:=kX h1;exact hc j d' h3
  obtain⟨d',h3,rfl⟩:=kX h1;exact ih j d' h3
 | mrow r off len x hx hu h=>exact .mrow r off len x hx hu h
 | mptr r i off x hx hu h=>exact .mptr r i off x hx hu h
 | mp r x hx hu h=>exact .mp r x hx hu h
 | fmap kv b es gP hi hb hn _ ih =>
  simp only[DL.wk,u6];exact .fmap _ b es gP hi hb (by simpa using hn) λi d x h1 h2=>by obtain⟨y,h3,rfl⟩:=kX h1;exact ih i y x h3 h2
 | fn f first aD fs cs hf hc h1 h2 _ _=>exact .fn f first aD fs cs hf hc h1 h2
 | cond b d x ht hf _=>exact .cond b d x ht hf
 | junk x=>exact .junk x
structure Env where
 p:Mem->World->Prop
 x:Option Nat
 st : ∀(P:Program)[Glob P](h:H)(g g':Mem)(w w':World),HM P h g w->ax g g' w w'->p g w->p g' w'
def Env.tt:Env:=⟨λ_ _=>True,Option.none,λ_ _ _ _ _ _ _ _ _ _=>trivial⟩
theorem Env.later{P:Program}[Glob P]{E:Env}{h:H}{g g':Mem}{w w':World}(hm:HM P h g w)(k:ax g g' w w')(hr:E.p g w):E.p g' w':=E.st P h g g' w w' hm k hr
structure gJ(x:Option Nat)(g g':Mem)(w w':World):Prop where
 os:w'.os=w.os
 tape:w'.tape=w.tape
 output:w'.output=w.output
 size:w.heap.size<=w'.heap.size
 drawn:w.drawn<=w'.drawn
 U : ∀r,g.U r->g'.U r
 M : ∀r,g.U r->g'.M r=g.M r\/g'.M r=Option.none
 new : ∀r b c s,g'.M r=some (some b,c,s)->(∃r' c' s',g.M r'=some (some b,c',s'))\/w.heap.size<=b
 I : ∀b,g.I b->g'.I b
 inew : ∀b,g'.I b->g.I b\/w.heap.size<=b \/ ∃r c s,g.M r=some (some b,c,s)
 same : ∀b,b<w.heap.size->(∀r c s,g.M r≠some (some b,c,s))->x≠some b->w'.heap[b]? = w.heap[b]?
def ax.toX{x:Option Nat}{g g':Mem}{w w':World}(h:ax g g' w w'):gJ x g g' w w':=⟨h.os,h.tape,h.output,h.size,h.drawn,h.U,h.M,h.new,h.I,h.inew,λb h1 h2 _=>h.same b h1 h2⟩
theorem gJ.out{g g':Mem}{w w':World}(h:gJ Option.none g g' w w'):ax g g' w w':=⟨h.os,h.tape,h.output,h.size,h.drawn,h.U,h.M,h.new,h.I,h.inew,λb h1 h2=>h.same b h1 h2 (by simp)⟩
def gJ.refl(x:Option Nat)(g:Mem)(w:World):gJ x g g w w:=(ax.refl g w).toX
theorem gJ.trans{x:Option Nat}{g g' g'':Mem}{w w' w'':World}(h:gJ x g g' w w')(k:gJ x g' g'' w' w''):gJ x g g'' w w'':=by
 refine⟨k.os.trans h.os,k.tape.trans h.tape,k.output.trans h.output,Yh h.size k.size,Yh h.drawn k.drawn,λr hr=>k.U r (h.U r hr),λr hr=>?_,λr b c s e=>?_,λb hb=>k.I b (h.I b hb),λb hb=>?_,λb hb hn hx=>?_⟩
 .
  rcases k.M r (h.U r hr)with e|e
  .
   rcases h.M r hr with e'|e'
   . exact .inl (e.trans e')
   exact .inr (e.trans e')
  exact .inr e
 .
  rcases k.new r b c s e with⟨r',c',s',e'⟩|e'
  . exact h.new r' b c' s' e'
  exact .inr (Yh h.size e')
 .
  rcases k.inew b hb with e|e|⟨r,c,s,e⟩
  . exact h.inew b e
  . exact .inr (.inl (Yh h.size e))
  rcases h.new r b c s e with⟨r',c',s',e'⟩|e'
  . exact .inr (.inr ⟨r',c',s',e'⟩)
  exact .inr (.inl e')
 refine(k.same b (YD hb h.size) (λr c s e=>?_) hx).trans (h.same b hb hn hx)
 rcases h.new r b c s e with⟨r',c',s',e'⟩|e'
 . exact hn r' c' s' e'
 omega
end Go.DL
namespace Go.DL
structure aS where
 pure:FuncId->Bool:=λ_=>false
 pf:FuncId->List D->D:=λ_ _=>.junk
 im:FuncId->List D->H->Nat->D×H:=λ_ _ h _=>(.junk,h)
 bs:Bool:=false
 cf:Bool:=false
 dp:Bool:=false
structure S where
 n:Nat
 t:Nat->D
 h:H
 nx:Nat
 ok:Prop:=True
 e:Env:=Env.tt
def S.ev(s:S):Operand->D
 | .tmp i=>s.t i
 | .const x=>qm x
 | .global g=>.v (.pointer (some ⟨g,0,none⟩))
 | .func f=>.fn (.func f) [] []
def aV:Op->List Operand
 | .move x | .assign x | .box _ x | .load _ x | .nilCheck x | .unOp _ _ x | .convert _ _ x | .makeInterface _ x | .fieldAddr _ x _ | .field _ x _ | .extract x _=>[x]
 | .pick c a b=>[c,a,b]
 | .build _ ps | .buildSlice _ _ ps=>ps.toList.map (·.2)
 | .store _ a x | .binOp _ _ a x _ | .indexAddr _ a x | .index _ a x | .makeSlice _ a x=>[a,x]
 | .makeFunc _ first captured=>first.toList++captured.toList
 | .slice _ x l h m=>x::(l.toList++h.toList++m.toList)
 | .makeMap _ r=>r.toList
 | .lookup _ m k _=>[m,k]
 | .mapUpdate _ m k x | .insert _ m k x=>[m,k,x]
 | .call { callee:=.value f,args,.. }=>f::args.toList
 | .call { callee:=.builtin _,args,.. }=>args.toList
 | _=>[]
def lI:D->Bool->Bool
 | .v (.bool b),want=>b==want
 | .cond g (.v (.bool b)),want=>g&&(b==want)
 | _,_=>false
def uL:D->Bool
 | .v (.bool _) | .cond _ (.v (.bool _))=>true
 | _=>false
def sd:D->D
 | .cond _ d=>d
 | d=>d
def sg:D->Bool
 | .cond g _=>g
 | _=>true
def bv:D->Bool
 | .v (.bool b)=>b
 | _=>false
def yn:D->Bool
 | .v (.bool _)=>true
 | _=>false
def II(g:Bool):List D->D×Prop
 | [c,a,b]=>(.v (.bool (bif bv (sd c)then bv (sd a)else bv (sd b))),(g=true->(sg c=true/\yn (sd c)=true)/\(bv (sd c)=true->sg a=true/\yn (sd a)=true)/\(bv (sd c)=false->sg b=true/\yn (sd b)=true)))
 | _=>(.junk,False)
section
variable (P : Program) [Glob P] (C : aS)
def yF(s:TypeId):List (Nat×Operand)->List D->List D->List D
 | (f,_)::ps,x::xs,cs=>match bH P s f with
  | some (off,_)=>yF s ps xs (splice cs off x.cells)
  | none=>match rf P s with
   | some (_,e)=>yF s ps xs (splice cs (f*P.cellsOf e) x.cells)
   | none=>cs
 | _,_,cs=>cs
def Ac(s:TypeId)(n:Nat):List (Nat×Operand)->List D->Prop
 | (f,_)::ps,x::xs=>(match bH P s f with
  | some (off,t)=>x.cells.length=P.cellsOf t/\off+x.cells.length<=n
  | none=>match rf P s with
   | some (_,e)=>x.cells.length=P.cellsOf e/\f*P.cellsOf e+x.cells.length<=n
   | none=>False)/\x.cells.all D.one=true/\Ac s n ps xs
 | [],_=>True
 | _,_=>False
def jd(t:TypeId):Bool:=match P.underlying t with
 | some (.struct fs)=>fs.toList.all λf=>(P.info? f.type).isSome
 | some (.array _ e)=>(P.info? e).isSome
 | _=>false
def D8(t:TypeId)(ps:List (Nat×Operand))(xs:List D):D×Prop :=
 (.agg (yF P t ps xs (zeroCells P t)),Ac P t (zeroCells P t).length ps xs/\(zeroCells P t).all D.one=true/\0<(zeroCells P t).length/\jd P t=true)
def AX(n i:Nat):List (Nat×Operand)->List D->Prop
 | (j,_)::ps,x::xs=>j=i/\x.cells.length=n/\x.cells.all D.one=true/\AX n (i+1) ps xs
 | [],[]=>True
 | _,_=>False
def Cn(t:TypeId)(len:Nat)(ps:List (Nat×Operand))(xs:List D):D×Prop:=match bQ P t with
 | some e=>(.list true (xs.map D.cells),ps.length=len/\AX (P.cellsOf e) 0 ps xs/\0<P.cellsOf e/\len*P.cellsOf e<=16777216/\eQ P e=true)
 | none=>(.junk,False)
def uT(t:TypeId)(len:Nat)(ps:List (Nat×Operand))(xs:List D)(h:H)(b:Nat):D×H×Prop:=match bQ P t with
 | some e=>(.mrow b 0 len,upd h b (some ⟨e,xs.map D.cells⟩),0<len/\ps.length=len/\AX (P.cellsOf e) 0 ps xs/\0<P.cellsOf e/\len*P.cellsOf e<=16777216/\eQ P e=true)
 | none=>(.junk,h,False)
def iA(u:TypeId)(h:H):D->Bool
 | .list _ _=>(bQ P u).isSome
 | .mrow r _ _=>(bQ P u).isSome&&(h r).isSome
 | .v (.string _)=>match P.underlying u with|some .string=>true|_=>false
 | _=>false
def jh(t u:TypeId)(x y:D)(h:H)(b:Nat):D×H×Prop:=match bQ P t with
 | none=>(.junk,h,False)
 | some e =>
  let news:=aC y h
  let size:=0<P.cellsOf e/\(bO x+news.length)*P.bytesOf e<=140737488355328/\bO x+news.length<=9223372036854775807
  let src:=news.length=bO y/\iA P u h y=true/\eQ P e=true /\ ∀r∈news,r.length=P.cellsOf e
  match x with
  | .list true rows=>(.mrow b 0 (rows.length+news.length),upd h b (some ⟨e,rows++news⟩),size/\src/\(news=[]->rows=[]) /\ ∀r∈rows,r.length=P.cellsOf e)
  | .mrow r 0 n=>match h r with
   | some bl=>(.mrow b 0 (n+news.length),upd (upd h r none) b (some ⟨e,bl.rows++news⟩),size/\src/\bl.ty=e/\bl.rows.length=n/\r≠b)
   | none=>(.junk,h,False)
  | _=>(.junk,h,False)
def bnd(o:Option D)(d:Nat):Int:=match o with
 | some (.v (.int _ n))=>n
 | _=>d
def Cq:Option D->Bool
 | none|some (.v (.int _ _))=>true
 | _=>false
def pX(t:TypeId)(x:D)(l hh m:Option D)(h:H):D×Prop :=
 let len:=bO x
 let lo:=bnd l 0
 let hi:=bnd hh len
 let ok:=Cq l=true/\Cq hh=true/\Cq m=true/\0<=lo/\lo<=hi/\hi<=len
 match x with
 | .v (.string s)=>(.v (.string (s.extract lo.toNat hi.toNat)),ok/\m=none/\P.underlying t=some .string)
 | .list full rows=>match bQ P t with
  | none=>(.junk,False)
  | some e=>match m with
   | none=>(.list (full&&hi==len) ((rows.take hi.toNat).drop lo.toNat),ok/\0<P.cellsOf e /\ ∀r∈rows,r.length=P.cellsOf e)
   | some _=>(.list true ((rows.take hi.toNat).drop lo.toNat),ok/\hh.isSome=true/\bnd m 0=hi/\0<P.cellsOf e /\ ∀r∈rows,r.length=P.cellsOf e)
 | .mrow r off _=>match bQ P t with
  | none=>(.junk,False)
  | some e=>(.mrow r (off+lo.toNat) (hi-lo).toNat,ok/\m=none/\0<P.cellsOf e/\match h r with|some bl=>bl.ty=e|none=>False)
 | _=>(.junk,False)
def kH(o:Option Operand)(xs:List D):Option D×List D:=match o,xs with
 | some _,x::xs=>(some x,xs)
 | some _,[]=>(none,[])
 | none,xs=>(none,xs)
def BF(t:TypeId)(x ix:D):D×Prop:=match x,ix with
 | .v (.string s),.v (.int _ n)=>(.v (.int .u8 (s.data.toList.getD n.toNat 0).toNat),0<=n/\n<s.size/\P.underlying t=some .string)
 | _,_=>(.junk,False)
def AC(op:UnOp)(x:D):D×Prop:=match op,x with
 | .not,.v (.bool b)=>(.v (.bool !b),True)
 | .neg,.v (.int k n)=>(.v (.int k (-n)),qz k (-n))
 | _,_=>(.junk,False)
def byteOf:List D->UInt8
 | [.v (.int .u8 n)]=>UInt8.ofNat n.toNat
 | _=>0
def isByte:List D->Bool
 | [.v (.int .u8 _)]=>true
 | _=>false
def OG(P:Program)(t:TypeId):Bool:=match P.underlying t with
 | some (.slice e)=>match P.underlying e with
  | some (.int .u8)=>true
  | _=>false
 | _=>false
def Ci(src dst:TypeId)(x:D):D×Prop:=match P.underlying dst,x with
 | some (.int k),.v (.int _ n)=>(.v (.int k (k.wrap n)),(P.underlying src).isSome=true)
 | some .string,.v (.string s)=>(.v (.string s),match P.underlying src with|some .string=>True|_=>False)
 | some .string,.list _ rows=>(.v (.string ⟨(rows.map byteOf).toArray⟩),OG P src=true/\rows.all isByte=true)
 | _,_=>(.junk,False)
def qo(t:TypeId)(h:H)(b:Nat):D->D->D×H×Prop
 | .v (.int _ n),.v (.int _ m)=>match bQ P t with
  | some e=>(.mrow b 0 n.toNat,upd h b (some ⟨e,List.replicate n.toNat (zeroCells P e)⟩),n=m/\0<=n/\P.bytesOf e*n<=281474976710656/\n<=9223372036854775807/\eQ P e=true/\(zeroCells P e).length=P.cellsOf e/\(zeroCells P e).all D.one=true/\0<P.cellsOf e)
  | none=>(.junk,h,False)
 | _,_=>(.junk,h,False)
def Jo:List D->Bool
 | []|[.v (.int _ _)]=>true
 | _=>false
def Bl(t:TypeId)(xs:List D)(h:H)(b:Nat):D×H×Prop:=(.mp b,upd h b (some ⟨t,iY []⟩),(rR P t).isSome=true/\P.cellsOf t=1/\Jo xs=true)
def ul(t:TypeId)(m k x:D)(h:H):H×Prop:=match rR P t,m with
 | some (kt,_),.mp r=>match h r with
  | some bl=>match qy bl with
   | some kv=>(upd h r (some ⟨bl.ty,iY (jq kv k x)⟩),l5 P kt k=true/\kL P kt kv=true/\rU P kt=true)
   | none=>(h,False)
  | none=>(h,False)
 | _,_=>(h,False)
def rT(t:TypeId)(ok:Bool)(m k:D)(h:H):D×Prop:=match rR P t,yh h m with
 | some (kt,e),some kv=>(if ok then .tuple [(kK kv k).getD (yX P e),.b (kK kv k).isSome]else(kK kv k).getD (yX P e),
   l5 P kt k=true/\kL P kt kv=true/\rU P kt=true/\Jy P e=true)
 | _,_=>(.junk,False)
def D5(h:H)(d:D):D:=match d with
 | .mrow _ _ _=>.list false (aC d h)
 | d=>d
def Al(h:H)(d:D):D:=match d with
 | .mrow _ _ _=>.list false (aC d h)
 | .mptr _ _ _=>.eptr ((jL d h).map (D5 h))
 | d=>d
def deref(h:H)(d:D):D:=match d with
 | .mrow _ _ _=>.list false (aC d h)
 | .mptr _ _ _=>.eptr ((jL d h).map (D5 h))
 | .fn f a b=>.fn f (a.map (Al h)) (b.map (Al h))
 | d=>d
def qW(h:H)(d:D):D:=wk (deref h d)
def Gu(h:H)(d:D):Prop:=match d with
 | .mrow r _ len=>(h r).isSome=true/\(aC d h).length=len
 | _=>True
def DZ(h:H)(d:D):Prop:=match d with
 | .mrow r _ len=>(h r).isSome=true/\(aC d h).length=len
 | .mptr r _ _=>(h r).isSome=true /\ ∀c∈jL d h,Gu h c
 | _=>True
def qX(h:H)(d:D):Prop:=match d with
 | .mrow r _ len=>(h r).isSome=true/\(aC d h).length=len
 | .mptr r _ _=>(h r).isSome=true /\ ∀c∈jL d h,Gu h c
 | .fn _ a b=>(∀c∈a,DZ h c) /\ ∀c∈b,DZ h c
 | _=>True
mutual
def D.nr:D->Bool
 | .v _=>true
 | .agg cs=>bC cs
 | .list _ rows=>bq rows
 | .eptr cs=>bC cs
 | .mrow _ _ _=>false
 | .mptr _ _ _=>false
 | .mp _=>false
 | .fmap kv=>bC kv
 | .fn _ a b=>bC a&&bC b
 | .tuple ds=>bC ds
 | .iface _ d=>d.nr
 | .cond _ d=>d.nr
 | .junk=>true
def bC:List D->Bool
 | []=>true
 | d::ds=>d.nr&&bC ds
def bq:List (List D)->Bool
 | []=>true
 | r::rs=>bC r&&bq rs
end
def snap(h:H):Nat->D->D
 | 0,d=>d
 | k+1,d=>match d with
  | .mrow r off len=>.list false ((aC (.mrow r off len) h).map λrow=>row.map (snap h k))
  | .agg cs=>.agg (cs.map (snap h k))
  | .tuple cs=>.tuple (cs.map (snap h k))
  | .iface t d=>.iface t (snap h k d)
  | .mptr r i off=>.eptr ((jL (.mptr r i off) h).map (snap h k))
  | .fn f a b=>.fn f (a.map (snap h k)) (b.map (snap h k))
  | d=>d
def dP(h:H):Nat->D->Prop
 | 0,d=>d.nr=true
 | k+1,d=>match d with
  | .mrow r off len=>qX h (.mrow r off len) /\ ∀row∈aC (.mrow r off len) h,∀c∈row,dP h k c
  | .agg cs=>∀c∈cs,dP h k c
  | .tuple cs=>∀c∈cs,dP h k c
  | .iface _ d=>dP h k d
  | .mptr r i off=>(h r).isSome=true /\ ∀c∈jL (.mptr r i off) h,dP h k c
  | .fn _ a b=>(∀c∈a,dP h k c) /\ ∀c∈b,dP h k c
  | d=>d.nr=true
def ji(h:H)(d:D):D:=wk (snap h 5 d)
def BA:D->Bool
 | .mrow _ _ _ | .mptr _ _ _=>true
 | _=>false
def lc:D->Bool
 | .mrow _ _ _ | .mptr _ _ _=>true
 | .fn _ a b=>a.any BA||b.any BA
 | _=>false
def NL:D->Bool
 | .v _=>true
 | _=>false
def flat:D->Bool
 | .v _=>true
 | .agg cs | .tuple cs=>cs.all NL
 | _=>false
def I7:List D->D×Prop
 | [.v (.int k a),.v (.int k' b)]=>(.v (.int k (min a b)),k=k')
 | _=>(.junk,False)
def I8:List D->D×Prop
 | [.v (.int k a),.v (.int k' b)]=>(.v (.int k (max a b)),k=k')
 | _=>(.junk,False)
def Br(t:TypeId):D->Bool
 | .list _ _ | .mrow _ _ _=>(bQ P t).isSome
 | .v (.string _)=>match P.underlying t with|some .string=>true|_=>false
 | _=>false
end
structure cu where
 pureCt:FuncId->List D->D->Prop
 ct:FuncId->List D->H->Nat->D->H->Prop
section
variable (P : Program) [Glob P] (W : cu) (C : aS)
def Fs(_:Operand):Bool:=true
def kQ(f:Operand)(xs:List D)(h:H)(_:Nat):D×H×Prop:=match f,xs with
 | .func k,_::ys=>if C.pure k then
   (if C.cf then
    let ys':=ys.map wk
    (C.pf k ys',h,W.pureCt k ys' (C.pf k ys')/\ys.any lc=false)
   else if C.dp then
    let ys':=ys.map (ji h)
    (C.pf k ys',h,W.pureCt k ys' (C.pf k ys')/\flat (C.pf k ys')=true /\ ∀y∈ys,dP h 5 y)
   else
    let ys':=ys.map (qW h)
    (C.pf k ys',h,W.pureCt k ys' (C.pf k ys')/\(ys.any lc=true->flat (C.pf k ys')=true /\ ∀y∈ys,qX h y)))
  else(.junk,h,False)
 | _,.fn (.func k) first aD::ys=>if C.pure k then
   (if C.cf then
    let zs':=(first++ys++aD).map wk
    (C.pf k zs',h,W.pureCt k zs' (C.pf k zs')/\(first++ys++aD).any lc=false)
   else if C.dp then
    let zs':=(first++ys++aD).map (ji h)
    (C.pf k zs',h,W.pureCt k zs' (C.pf k zs')/\flat (C.pf k zs')=true /\ ∀y∈first++ys++aD,dP h 5 y)
   else
    let zs':=(first++ys++aD).map (qW h)
    (C.pf k zs',h,W.pureCt k zs' (C.pf k zs')/\((first++ys++aD).any lc=true->flat (C.pf k zs')=true /\ ∀y∈first++ys++aD,qX h y)))
  else(.junk,h,False)
 | _,_=>(.junk,h,False)
def still(h:H)(r:D×Prop):D×H×Prop:=(r.1,h,r.2)
def bg(op:Op)(xs:List D)(h:H)(b:Nat):D×H×Prop :=
 match op,xs with
 | .move _,[x] | .assign _,[x]=>(x,h,True)
 | .alloc e,[]=>(.mptr b 0 0,upd h b (some ⟨e,[zeroCells P e]⟩),(zeroCells P e).length=P.cellsOf e/\(zeroCells P e).all D.one=true/\0<P.cellsOf e)
 | .box e _,[x]=>(.mptr b 0 0,upd h b (some ⟨e,[x.cells]⟩),x.cells.length=P.cellsOf e/\x.cells.all D.one=true/\0<P.cellsOf e)
 | .build t ps,xs=>still h (D8 P t ps.toList xs)
 | .buildSlice t n ps,xs=>if C.bs then uT P t n ps.toList xs h b else still h (Cn P t n ps.toList xs)
 | .load t _,[a]=>still h (mP P t a h)
 | .store t _ _,[a,x]=>(.v undef,lu P t a x h)
 | .nilCheck _,[x]=>(x,h,ym x=true)
 | .binOp op t _ _ _,[x,y]=>still h (yQ P t op x y)
 | .unOp op _ _,[x]=>still h (AC op x)
 | .convert src dst _,[x]=>still h (Ci P src dst x)
 | .makeFunc f first _,xs=>(.fn f (xs.take first.size) (xs.drop first.size),h,True)
 | .slice t _ l hi m,x::xs =>
  still h (pX P t x (kH l xs).1 (kH hi (kH l xs).2).1 (kH m (kH hi (kH l xs).2).2).1 h)
 | .fieldAddr s _ f,[a]=>still h (Ca P s f a)
 | .field s _ f,[a]=>still h (Gf P s f a)
 | .indexAddr t _ _,[x,ix]=>still h (jr P t x ix h)
 | .index t _ _,[x,ix]=>still h (BF P t x ix)
 | .makeSlice t _ _,[x,y]=>qo P t h b x y
 | .makeMap t _,xs=>Bl P t xs h b
 | .mapUpdate t _ _ _,[m,k,x] | .insert t _ _ _,[m,k,x]=>(.v undef,ul P t m k x h)
 | .lookup t _ _ ok,[m,k]=>still h (rT P t ok m k h)
 | .extract _ i,[.tuple ds]=>(ds.getD i .junk,h,i<ds.length)
 | .call { callee:=.builtin .len,argTypes,.. },[x]=>(.v (.int .i64 (bO x)),h,match argTypes.toList with|[t]=>Br P t x=true|_=>False)
 | .call { callee:=.builtin .append,argTypes,.. },[x,y]=>(match argTypes.toList with|[t,u]=>jh P t u x y h b|_=>(.junk,h,False))
 | .call { callee:=.builtin .min,.. },xs=>still h (I7 xs)
 | .call { callee:=.builtin .max,.. },xs=>still h (I8 xs)
 | .call { callee:=.value f,.. },xs=>kQ W C f xs h b
 | _,_=>(.junk,h,False)
inductive Ef where
 | none|reads|writes
 deriving DecidableEq
def bW(op:Op):Ef:=match op with
 | .load .. | .indexAddr .. | .slice .. => .reads
 | .alloc _ | .box .. | .store .. | .makeSlice .. | .makeMap .. | .mapUpdate .. | .insert .. => .writes
 | .lookup .. => .reads
 | .buildSlice .. => if C.bs then .writes else .none
 | .call { callee:=.builtin .append,.. }=>.writes
 | .call { callee:=.value f,.. }=>if C.cf then .none else if Fs f then .reads else .writes
 | _=>.none
def fE:Op->Bool
 | .pick .. => true
 | _=>false
def aY(g:Bool)(op:Op)(xs:List D)(h:H)(b:Nat):D×H×Prop :=
 if fE op then still h (II g xs)
 else let r:=bg P W C op (xs.map sd) h b;(r.1,r.2.1,(g=true->xs.all sg=true)/\r.2.2)
def S.put(s:S)(d:Option Tmp)(x:D):Nat->D:=match d with
 | some d=>upd s.t d x
 | none=>s.t
def dK(n:Nat):Option Tmp->Bool
 | some d=>decide (d<n)
 | none=>true
def dJ(L:List Oper)(b:Nat)(i:Nat)(o:Oper)(s:S):S :=
 match o.guard with
 | none =>
  let r:=aY P W C true o.op ((aV o.op).map s.ev) s.h (b+i)
  { s with t:=s.put o.dst r.1,h:=r.2.1,ok:=s.ok/\dK s.n o.dst=true/\r.2.2 }
 | some (j,want) =>
  let gd:=((L[j]?).bind (·.dst)).elim .junk s.t
  let r:=aY P W C (lI gd want) o.op ((aV o.op).map s.ev) s.h (b+i)
  { s with t:=s.put o.dst (.cond (lI gd want) r.1),ok:=s.ok/\dK s.n o.dst=true/\uL gd=true/\bW C o.op ≠ .writes/\(lI gd want=true->r.2.2) }
def aZ(L:List Oper)(b:Nat):Nat->List Oper->S->S
 | _,[],s=>s
 | i,o::os,s=>aZ L b (i+1) os (dJ P W C L b i o s)
def S.begin(s:S)(k:Nat):S:={ s with nx:=s.nx+k }
def exec(L:List Oper)(s:S):S:=aZ P W C L s.nx 0 L (s.begin L.length)
end
end Go.DL
namespace Go.DL
open Go.RowKit
theorem El{k:IntKind}{n:Int}(h:qz k n):k.wrap n=n:=by
 cases k<;>simp[qz,IntKind.min,IntKind.max,IntKind.signed,IntKind.bits]at h
 . exact IntWalk.i8_in n h
 . exact IntWalk.i16_in n h
 . exact IntWalk.i32_in n h
 . exact IntWalk.i64_in n h
 . exact IntWalk.u8_in n ⟨h.1,om⟩
 . exact IntWalk.u16_in n ⟨h.1,om⟩
 . exact IntWalk.u32_in n ⟨h.1,om⟩
 exact IntWalk.u64_in n ⟨h.1,om⟩
theorem Zhl{k:IntKind}{a b:Int}(h:qz k a)(h0:0<=a)(h1:1<=b):qz k (a / b):=by
 have h2:0<=a / b:=Int.ediv_nonneg h0 om
 have h3:a / b<=a:=Int.ediv_le_self _ h0
 exact⟨by have:=h.1;cases k<;>simp[IntKind.min,IntKind.signed,IntKind.bits]at * <;> omega,Int.le_trans h3 h.2⟩
variable {P : Program}
def XA [Glob P]{t:TypeId}{op:BinOp}{x y:Value}(h:(gT P t op x y).2)(a b:Operand)(w:World) :
  (do eqGuard op t a b x y;binOp op t x y:Sem Value).run P w = .ok (gT P t op x y).1 w:=by
 unfold gT at h ⊢
 split at h
 case h_1 k a' k' b' =>
  by_cases hs:k.signed=true
  .
   simp only[hs,Zn]at h ⊢;obtain⟨rfl,h2⟩:=h
   simp[eqGuard,binOp,Op.intArith,El h2]
  simp only[hs,Za,Yp]at h ⊢;subst h
  simp[eqGuard,binOp,Op.intArith]
 case h_2 k a' k' b' =>
  by_cases hs:k.signed=true
  .
   simp only[hs,Zn]at h ⊢;obtain⟨rfl,h2⟩:=h
   simp[eqGuard,binOp,Op.intArith,El h2]
  simp only[hs,Za,Yp]at h ⊢;subst h
  simp[eqGuard,binOp,Op.intArith]
 case h_3 k a' k' b' =>
  by_cases hs:k.signed=true
  .
   simp only[hs,Zn]at h ⊢;obtain⟨rfl,h2⟩:=h
   simp[eqGuard,binOp,Op.intArith,El h2]
  simp only[hs,Za,Yp]at h ⊢;subst h
  simp[eqGuard,binOp,Op.intArith]
 case h_4 k a' k' b' =>
  obtain⟨rfl,h2,h3,h4⟩:=h;have e:k.wrap (a'.tdiv b')=a' / b':=by
   rw[Int.tdiv_eq_ediv_of_nonneg h2,El (Zhl h4 h2 h3)]
  simp[eqGuard,binOp,Op.intDiv,show b'≠0 by omega,e]
 case h_5 k a' k' b' =>
  obtain⟨rfl,h2,h3⟩:=h
  simp[eqGuard,binOp,Op.intDiv,show b'≠0 by omega,Int.tmod_eq_emod_of_nonneg h2]
 case h_17 a' b' =>
  simp only[eqGuard,binOp]
  simp[Op.stringOp,ByteArray.toList_eq]
 case h_18 a' b' =>
  simp only[eqGuard,binOp]
  simp[Op.stringOp,ByteArray.toList_eq]
 case h_19 a' b' =>
  simp only[eqGuard,binOp]
  simp[Op.stringOp,ByteArray.toList_eq]
 case h_20 a' b' =>
  simp only[eqGuard,binOp]
  simp[Op.stringOp,ByteArray.toList_eq]
 case h_21 k a' k' b' =>
  have h' : ¬b'<0:=by omega
  simp[eqGuard,binOp,Op.shift,h']
 case h_22 k a' k' b' =>
  have h' : ¬b'<0:=by omega
  simp[eqGuard,binOp,Op.shift,h']
 case h_23 k a' k' b' =>
  subst h
  simp[eqGuard,binOp,Op.intBits]
 case h_24 k a' k' b' =>
  subst h
  simp[eqGuard,binOp,Op.intBits]
 case h_25=>exact h.elim
 case h_16 a' b' =>
  have:=run_string_add_sum (P:=P) w a' b' h
  simp[eqGuard,binOp,this]
 case h_12 a' b' =>
  have e:(Op.equalIn 10000 t (.bool a') (.bool b')).run P w = .ok (a'==b') w:=run_equalIn_bool w 9999 t a' b' h;simp only[eqGuard,binOp]
  simp[Op.equal,Op.maxDepth,e]
 case h_13 a' b' =>
  have e:(Op.equalIn 10000 t (.bool a') (.bool b')).run P w = .ok (a'==b') w:=run_equalIn_bool w 9999 t a' b' h;simp only[eqGuard,binOp]
  simp[Op.equal,Op.maxDepth,e,bne]
 case h_14 a' b' =>
  simp only[eqGuard,binOp]
  simp[Op.stringOp,ByteArray.toList_eq]
 case h_15 a' b' =>
  simp only[eqGuard,binOp]
  simp[Op.stringOp,ByteArray.toList_eq,bne]
 all_goals
  subst h;simp only[eqGuard,binOp]
  simp[Op.intCmp]
def ag.v_inv{w:World}{g:Mem}{x y:Value}(h:ag w g (.v x) y):y=x:=by cases h;rfl
def ZeE{k:Kd}{a b:D}(h:A7 k a b=true) :
  (k = .i /\ ∃kk x y,a = .v (.int kk x)/\b = .v (.int kk y))\/(k = .b /\ ∃x y,a = .v (.bool x)/\b = .v (.bool y))\/(k = .s /\ ∃x y,a = .v (.string x)/\b = .v (.string y)):=by
 unfold A7 at h
 split at h
 . simp only[YB]at h;subst h;exact .inl ⟨rfl,_,_,_,rfl,rfl⟩
 . exact .inr (.inl ⟨rfl,_,_,rfl,rfl⟩)
 . exact .inr (.inr ⟨rfl,_,_,rfl,rfl⟩)
 cases h
theorem VS [Glob P]:∀(fs:List Field)(i:Nat)(ks:List Kd)(xs ys:List Value)(dx dy:List D)(w:World)(g:Mem)(n:Nat),Ae P i fs=some ks->su ks (dx.drop i) (dy.drop i)=true ->
  aB w g dx xs->aB w g dy ys->(Op.eqFields (n+1) xs.toArray ys.toArray fs).run P w = .ok (pI (dx.drop i) (dy.drop i)) w:=by
 intro fs
 induction fs with
 | nil =>
  intro i ks xs ys dx dy w g n hk hp hx hy;simp only[Ae,Yf]at hk;subst hk
  cases h1:dx.drop i with
  | nil=>simp[Op.eqFields,pI]
  | cons a l=>rw[h1]at hp;simp[su]at hp
 | cons f fs ih =>
  intro i ks xs ys dx dy w g n hf hp hx hy;simp only[Ae]at hf
  split at hf
  case isFalse=>cases hf
  rename_i hno
  simp only[XU,ZC,YB]at hno;obtain⟨hn,ho⟩:=hno
  split at hf
  case h_2=>cases hf
  rename_i k ks' hk hr
  simp only[Yf]at hf;subst hf;have hlt:i<dx.length:=by
   rcases YG i dx.length with h|h
   . exact h
   rw[Y3 h]at hp;simp[su]at hp
  have hxi:dx.drop i=dx[i]::dx.drop (i+1):=YC hlt;have UZ:i<dy.length:=by
   rcases YG i dy.length with h|h
   . exact h
   rw[hxi,Y3 h]at hp;simp[su]at hp
  have hyi:dy.drop i=dy[i]::dy.drop (i+1):=YC UZ;rw[hxi,hyi]at hp ⊢;simp only[su,XU]at hp;have hlx:i<xs.length:=by rw[<-hx.1];exact hlt
  have hly:i<ys.length:=by rw[<-hy.1];exact UZ
  have rx:=hx.2 i dx[i] xs[i] (by simp) (by simp)
  have ry:=hy.2 i dy[i] ys[i] (by simp) (by simp)
  have ih':=ih (i+1) ks' xs ys dx dy w g n hr hp.2 hx hy;have hu : ∃d,P.underlying f.type=some d/\((k = .b/\d = .bool)\/(k = .s/\d = .string)\/(k = .i /\ ∃kk,d = .int kk)):=by
   unfold kindOf at hk
   split at hk<;>simp at hk<;>subst hk<;>simp_all
  obtain⟨d,hu,hd⟩:=hu;have hagg:(isAgg f.type).run P w = .ok false w:=by
   unfold isAgg;rw[Sem.run_bind,run_underlying hu w]
   rcases hd with⟨_,rfl⟩|⟨_,rfl⟩|⟨_,kk,rfl⟩<;>simp
  have px:(part f.type xs.toArray f.offset).run P w = .ok xs[i] w:=by
   unfold part;simp[hagg,ho,hlx]
  have py:(part f.type ys.toArray f.offset).run P w = .ok ys[i] w:=by
   unfold part;simp[hagg,ho,hly]
  have heq:(Op.equalIn (n+1) f.type xs[i] ys[i]).run P w = .ok (nU dx[i] dy[i]) w:=by
   rcases ZeE hp.1 with⟨rfl,kk,x,y,e1,e2⟩|⟨rfl,x,y,e1,e2⟩|⟨rfl,x,y,e1,e2⟩<;>rw[e1]at rx ⊢ <;> rw[e2]at ry ⊢ <;> rw[rx.v_inv,ry.v_inv]
   .
    rcases hd with⟨h,_⟩|⟨h,_⟩|⟨_,k2,rfl⟩
    . cases h
    . cases h
    exact run_equalIn_int w n f.type kk k2 x y hu
   .
    rcases hd with⟨_,rfl⟩|⟨h,_⟩|⟨h,_⟩
    . exact run_equalIn_bool w n f.type x y hu
    . cases h
    cases h
   rcases hd with⟨h,_⟩|⟨_,rfl⟩|⟨h,_⟩
   . cases h
   . rw[run_equalIn_string w n f.type x y hu,ByteArray.toList_eq,ByteArray.toList_eq];rfl
   cases h
  simp only[Op.eqFields,X3 hn,Sem.run_bind,px,py,heq,Result.andThen_ok,pI]
  cases hc:nU dx[i] dy[i]with
  | false=>simp
  | true=>simp[ih']
def Zkc [Glob P]{t:TypeId}{op:BinOp}{x y:D}{vx vy:Value}{w:World}{g:Mem}(hx:ag w g x vx)(hy:ag w g y vy)(h:(yQ P t op x y).2)(a b:Operand) :
  ∃v,(do eqGuard op t a b vx vy;binOp op t vx vy:Sem Value).run P w = .ok v w/\ag w g (yQ P t op x y).1 v:=by
 unfold yQ at h ⊢
 split at h
 .
  rename_i x y
  rw[hx.v_inv,hy.v_inv];exact⟨_,XA h a b w,.v _⟩
 .
  rename_i xs ys
  cases hx with|agg _ vs hn hv =>
  cases hy with|agg _ us hm hu =>
  have key : ∀ks,vW P t=some ks->su ks xs ys=true->(Op.equalIn 10000 t (.agg vs) (.agg us)).run P w = .ok (pI xs ys) w/\P.eqGuardType P.depth t=false:=by
   intro ks hks hp;unfold vW at hks
   split at hks
   case h_2=>cases hks
   rename_i fs hfs
   split at hks
   case isFalse=>cases hks
   rename_i hc
   simp only[XU,Yb]at hc;have hF:P.fieldsOf t=fs:=by simp[Program.fieldsOf,hfs]
   have h1:=run_equalIn_agg (P:=P) w 9999 t vs us (by rw[hF];exact hfs) hc.1
   have h2:=VS (P:=P) fs.toList 0 ks vs.toList us.toList xs ys w g 9998 hks (by simpa using hp) ⟨by simpa using hn,λi d x h1 h2=>hv i d x h1 (by simpa using h2)⟩ ⟨by simpa using hm,λi d x h1 h2=>hu i d x h1 (by simpa using h2)⟩
   rw[hF]at h1;simp only[Array.toArray_toList,X6]at h2;exact⟨h1.trans h2,hc.2⟩
  split at h
  .
   split at h
   .
    rename_i ks hks
    obtain⟨k1,k2⟩:=key ks hks h;refine⟨.bool (pI xs ys),?_,.v _⟩;simp only[Sem.run_bind,run_eqGuard_agg w .eql t a b vs us k2,Result.andThen_ok,run_eql_struct,k1]
   exact h.elim
  .
   split at h
   .
    rename_i ks hks
    obtain⟨k1,k2⟩:=key ks hks h;refine⟨.bool (!pI xs ys),?_,.v _⟩;simp only[Sem.run_bind,run_eqGuard_agg w .neq t a b vs us k2,Result.andThen_ok,run_neq_struct,k1]
   exact h.elim
  exact h.elim
 exact h.elim
end Go.DL
namespace Go.DL
open Go.RowKit
variable {P : Program}
theorem pU [Glob P]{h:H}{g:Mem}{w:World}(hm:HM P h g w){r b c s:Nat}(e:g.M r=some (some b,c,s)):b<w.heap.size /\ ¬g.I b /\ ∃bl,h r=some bl:=by
 cases hr:h r with
 | none=>rw[hm.dead r hr]at e;cases e
 | some bl =>
  obtain⟨blk,c',e1,_,_,_,h5⟩:=hm.blk r bl hr;rw[e]at e1;simp only[Yf,YK]at e1
  rcases h5 with⟨h6,_⟩|⟨b',cur,h6,h7,_,h8,_⟩
  . rw[<-e1.1]at h6;cases h6
  rw[<-e1.1]at h6;cases h6
  obtain⟨x,hx,_⟩:=h7.some;exact⟨(Yk.1 hx).1,h8,_,rfl⟩
def HM.putB [Glob P]{h h':H}{g:Mem}{w w':World}(hm:HM P h g w)(b nb c:Nat)(bl:eZ)(cur:Array Value)
  (hb : ¬g.U b\/g.M b=some (some nb,c,P.cellsOf bl.ty))(hb':h' b=some bl)(hr : ∀r,r≠b->h' r=h r\/h' r=none)
  (hnb:w.heap.size<=nb \/ ∃r c' s',g.M r=some (some nb,c',s')/\(r=b\/h' r=none))
  (Nl:uZ w'.heap[nb]? bl.ty cur c)(hsz:c<=maxLen->cur.size=c*P.cellsOf bl.ty)(hpos:0<P.cellsOf bl.ty)(hle:bl.rows.length<=c)(hmax:c<=maxLen+1)
  (hold:Holds P w g bl cur)(gb:w.grownBy w' (some nb))(hdr:w.drawn<=w'.drawn:=by first|exact XX _|exact Nat.le_succ _) :
  ∃g':Mem,g'.M b=some (some nb,c,P.cellsOf bl.ty)/\(∀r,g'.U r↔g.U r\/r=b)/\(∀b,g'.I b↔g.I b)/\HM P h' g' w'/\ax g g' w w':=by
 let g':Mem:={ M:=λr=>if r=b then some (some nb,c,P.cellsOf bl.ty)else if(h' r).isSome then g.M r else none,U:=λr=>g.U r\/r=b,I:=g.I }
 have e_b:g'.M b=some (some nb,c,P.cellsOf bl.ty):=by simp[g']
 have e_r : ∀r,r≠b->g'.M r=if(h' r).isSome then g.M r else none:=λr hr=>by simp[g',hr]
 have hne : ∀r c' s',r≠b->g'.M r≠some (some nb,c',s'):=by
  intro r c' s' hrb he;rw[e_r r hrb]at he
  split at he
  .
   rename_i hs
   rcases hnb with h1|⟨r2,c2,s2,h2,h3⟩
   . have:=(pU hm he).1;omega
   have:r=r2:=hm.inj _ _ _ _ _ _ _ he h2;subst this
   rcases h3 with h3|h3
   . exact hrb h3
   rw[h3]at hs;cases hs
  cases he
 have hnI : ¬g.I nb:=by
  intro hi
  rcases hnb with h1|⟨r2,c2,s2,h2,_⟩
  . have:=hm.imm nb hi;omega
  exact(pU hm h2).2.1 hi
 have mono:ax g g' w w':=by
  refine⟨gb.os,gb.tape,gb.output,gb.size,hdr,λr h=>.inl h,λr hu=>?_,λr b' c' s' he=>?_,λ_ h=>h,λ_ h=>.inl h,λk hk hn=>?_⟩
  .
   by_cases e:r=b
   .
    subst e
    rcases hb with h1|h1
    . exact absurd hu h1
    rw[e_b,h1];exact .inl rfl
   rw[e_r r e];split
   . exact .inl rfl
   exact .inr rfl
  .
   by_cases e:r=b
   .
    subst e;rw[e_b]at he;simp only[Yf,YK]at he;obtain⟨rfl,_,_⟩:=he
    rcases hnb with h1|⟨r2,c2,s2,h2,_⟩
    . exact .inr h1
    exact .inl ⟨r2,c2,s2,h2⟩
   rw[e_r r e]at he
   split at he
   . exact .inl ⟨r,c',s',he⟩
   cases he
  refine gb.block k hk λe=>?_
  cases e
  rcases hnb with h1|⟨r2,c2,s2,h2,_⟩
  . omega
  exact hn _ _ _ h2
 refine⟨g',e_b,λ_=>Iff.rfl,λ_=>Iff.rfl,⟨λr hn=>?_,λr bl' hrl=>?_,λr r' b' c1 c2 s1 s2 e1 e2=>?_,λr hn=>?_,λk hk=>YD (hm.imm k hk) gb.size,hm.gr.later (hm.kept mono)⟩,mono⟩
 .
  have e:r≠b:=λe=>by rw[e,hb']at hn;cases hn
  rw[e_r r e,hn];rfl
 .
  by_cases e:r=b
  .
   subst e;rw[hb']at hrl;cases hrl
   refine⟨some nb,c,e_b,hpos,hle,hmax,.inr ⟨nb,cur,rfl,Nl,hsz,hnI,λi row hi=>?_⟩⟩
   obtain⟨h1,h2⟩:=hold i row hi;refine⟨h1,λj d hd=>?_⟩
   obtain⟨u,h3,h4,h5⟩:=h2 j d hd;exact⟨u,h3,h4,h5.later hm mono⟩
  rcases hr r e with e1|e1
  .
   rw[e1]at hrl;obtain⟨blk,c',h1,h2,h3,h4,h5⟩:=hm.blk r bl' hrl;refine⟨blk,c',by rw[e_r r e,e1,hrl];exact h1,h2,h3,h4,?_⟩
   rcases h5 with h5|⟨b',cur',rfl,h6,h7,h8,h9⟩
   . exact .inl h5
   refine .inr ⟨b',cur',rfl,?_,h7,h8,λi row hi=>?_⟩
   .
    have hb':b'≠nb:=λe2=>by
     subst e2;exact hne r c' _ e (by rw[e_r r e,e1,hrl];exact h1)
    rw[gb.block b' (pU hm h1).1 (by simpa using hb')];exact h6
   obtain⟨k1,k2⟩:=h9 i row hi;refine⟨k1,λj d hd=>?_⟩
   obtain⟨u,k3,k4,k5⟩:=k2 j d hd;exact⟨u,k3,k4,k5.later hm mono⟩
  rw[e1]at hrl;cases hrl
 .
  by_cases e:r=b<;>by_cases e':r'=b
  . rw[e,e']
  . subst e;rw[e_b]at e1;simp only[Yf,YK]at e1;obtain⟨rfl,_,_⟩:=e1;exact absurd e2 (hne r' _ _ e')
  . subst e';rw[e_b]at e2;simp only[Yf,YK]at e2;obtain⟨rfl,_,_⟩:=e2;exact absurd e1 (hne r _ _ e)
  rw[e_r r e]at e1;rw[e_r r' e']at e2
  split at e1
  .
   split at e2
   . exact hm.inj _ _ _ _ _ _ _ e1 e2
   cases e2
  cases e1
 by_cases e:r=b
 . exact .inr e
 rw[e_r r e]at hn
 split at hn
 . exact .inl (hm.used r hn)
 exact absurd rfl hn
def HM.put [Glob P]{h h':H}{g:Mem}{w w':World}(hm:HM P h g w)(b nb c:Nat)(bl:eZ)(cur:Array Value)
  (hb : ¬g.U b\/g.M b=some (some nb,c,P.cellsOf bl.ty))(hb':h' b=some bl)(hr : ∀r,r≠b->h' r=h r\/h' r=none)
  (hnb:w.heap.size<=nb \/ ∃r c' s',g.M r=some (some nb,c',s')/\(r=b\/h' r=none))
  (Nl:w'.heap[nb]? = some (.cells cur bl.ty (0,0)))(hsz:cur.size=c*P.cellsOf bl.ty)(hpos:0<P.cellsOf bl.ty)(hle:bl.rows.length<=c)(hmax:c<=maxLen)
  (hold:Holds P w g bl cur)(gb:w.grownBy w' (some nb))(hdr:w.drawn<=w'.drawn:=by first|exact XX _|exact Nat.le_succ _) :
  ∃g':Mem,g'.M b=some (some nb,c,P.cellsOf bl.ty)/\(∀r,g'.U r↔g.U r\/r=b)/\(∀b,g'.I b↔g.I b)/\HM P h' g' w'/\ax g g' w w' :=
 hm.putB b nb c bl cur hb hb' hr hnb (.inl ⟨hmax,Nl⟩) (λ_=>hsz) hpos hle (Nat.le_succ_of_le hmax) hold gb hdr
def HM.putNone [Glob P]{h h':H}{g:Mem}{w:World}(hm:HM P h g w)(b:Nat)(bl:eZ)(hb : ¬g.U b)(hb':h' b=some bl)(hr : ∀r,r≠b->h' r=h r\/h' r=none)(hpos:0<P.cellsOf bl.ty)(hle:bl.rows=[]) :
  ∃g':Mem,g'.M b=some (none,0,P.cellsOf bl.ty)/\(∀r,g'.U r↔g.U r\/r=b)/\(∀b,g'.I b↔g.I b)/\HM P h' g' w/\ax g g' w w:=by
 let g':Mem:={ M:=λr=>if r=b then some (none,0,P.cellsOf bl.ty)else if(h' r).isSome then g.M r else none,U:=λr=>g.U r\/r=b,I:=g.I }
 have e_b:g'.M b=some (none,0,P.cellsOf bl.ty):=by simp[g']
 have e_r : ∀r,r≠b->g'.M r=if(h' r).isSome then g.M r else none:=λr hr=>by simp[g',hr]
 have mono:ax g g' w w:=by
  refine⟨rfl,rfl,rfl,XX _,XX _,λr h=>.inl h,λr hu=>?_,λr b' c' s' he=>?_,λ_ h=>h,λ_ h=>.inl h,λk hk hn=>rfl⟩
  .
   have e:r≠b:=λe=>hb (e▸hu)
   rw[e_r r e];split
   . exact .inl rfl
   exact .inr rfl
  by_cases e:r=b
  . subst e;rw[e_b]at he;cases he
  rw[e_r r e]at he
  split at he
  . exact .inl ⟨r,c',s',he⟩
  cases he
 refine⟨g',e_b,λ_=>Iff.rfl,λ_=>Iff.rfl,⟨λr hn=>?_,λr bl' hrl=>?_,λr r' b' c1 c2 s1 s2 e1 e2=>?_,λr hn=>?_,λk hk=>hm.imm k hk,hm.gr.later (hm.kept mono)⟩,mono⟩
 .
  have e:r≠b:=λe=>by rw[e,hb']at hn;cases hn
  rw[e_r r e,hn];rfl
 .
  by_cases e:r=b
  .
   subst e;rw[hb']at hrl;cases hrl
   exact⟨none,0,e_b,hpos,by rw[hle];exact XX _,Yi _,.inl ⟨rfl,rfl⟩⟩
  rcases hr r e with e1|e1
  .
   rw[e1]at hrl;obtain⟨blk,c',h1,h2,h3,h4,h5⟩:=hm.blk r bl' hrl;refine⟨blk,c',by rw[e_r r e,e1,hrl];exact h1,h2,h3,h4,?_⟩
   rcases h5 with h5|⟨b',cur',rfl,h6,h7,h8,h9⟩
   . exact .inl h5
   refine .inr ⟨b',cur',rfl,h6,h7,h8,λi row hi=>?_⟩
   obtain⟨k1,k2⟩:=h9 i row hi;refine⟨k1,λj d hd=>?_⟩
   obtain⟨u,k3,k4,k5⟩:=k2 j d hd;exact⟨u,k3,k4,k5.later hm mono⟩
  rw[e1]at hrl;cases hrl
 .
  by_cases e:r=b
  . subst e;rw[e_b]at e1;cases e1
  by_cases e':r'=b
  . subst e';rw[e_b]at e2;cases e2
  rw[e_r r e]at e1;rw[e_r r' e']at e2
  split at e1
  .
   split at e2
   . exact hm.inj _ _ _ _ _ _ _ e1 e2
   cases e2
  cases e1
 by_cases e:r=b
 . exact .inr e
 rw[e_r r e]at hn
 split at hn
 . exact .inl (hm.used r hn)
 exact absurd rfl hn
def Does(P:Program)[Glob P](g:Mem)(w:World)(b:Nat)(r:Result Next)(d:D)(h':H):Prop :=
 ∃v g' w',(r = .ok (.value v) w'\/(r = .ok .skip w'/\v=undef))/\ag w' g' d v/\HM P h' g' w'/\ax g g' w w' /\ ∀r,g'.U r->g.U r\/r=b
theorem Does.still [Glob P]{g:Mem}{w:World}{b:Nat}{s:Sem Value}{d:D}{h:H}{v:Value}(hm:HM P h g w)(hr:s.run P w = .ok v w)(hv:ag w g d v) :
  Does P g w b ((do pure (.value (<-s)):Sem Next).run P w) d h :=
 ⟨v,g,w,.inl (by simp[hr]),hv,hm,ax.refl _ _,λ_ h=>.inl h⟩
theorem ag.one{w:World}{g:Mem}{d:D}{v:Value}(h:ag w g d v)(h1:d.one=true):v.oneCell'=true/\v.cells = #[v]:=by
 cases h with
 | v=>cases v<;>simp_all [D.one,Value.oneCell',Value.cells]
 | agg=>simp[D.one]at h1
 | tuple=>simp[D.one]at h1
 | iface=>simp[Value.oneCell',Value.cells]
 | empty=>simp[Value.oneCell',Value.cells]
 | list=>simp[Value.oneCell',Value.cells]
 | eptr=>simp[Value.oneCell',Value.cells]
 | mrow r off len x hx=>obtain⟨a,c,rfl,_⟩:=hx;simp[Value.oneCell',Value.cells]
 | mptr r i off x hx=>obtain⟨p,rfl⟩:=hx;simp[Value.oneCell',Value.cells]
 | mp r x hx=>obtain⟨p,rfl⟩:=hx;simp[Value.oneCell',Value.cells]
 | fmap=>simp[Value.oneCell',Value.cells]
 | fn=>simp[Value.oneCell',Value.cells]
 | cond=>simp[D.one]at h1
 | junk=>simp[D.one]at h1
theorem ag.cells{w:World}{g:Mem}{d:D}{v:Value}(h:ag w g d v)(h1:d.cells.all D.one=true) :
  aB w g d.cells v.cells.toList/\(∀u∈v.cells.toList,u.oneCell'=true)/\v.cells.size=d.cells.length:=by
 by_cases ha : ∃cs,d = .agg cs
 .
  obtain⟨cs,rfl⟩:=ha
  cases h with|agg _ vs hn hv =>
  simp only[D.cells]at h1 ⊢;refine⟨⟨by simpa[Value.cells]using hn,λi d x h2 h3=>hv i d x h2 (by simpa[Value.cells]using h3)⟩,λu hu=>?_,by simp[Value.cells,hn]⟩
  simp only[Value.cells,Array.mem_toList_iff]at hu;obtain⟨i,hi,rfl⟩:=Array.mem_iff_getElem.1 hu;have hd:i<cs.length:=by omega
  exact((hv i cs[i] vs[i] (by simp) (by simp)).one (YJ.1 h1 _ (YI hd))).1
 have e:d.cells=[d]:=by cases d<;>simp_all [D.cells]
 rw[e]at h1 ⊢
 have h2:=h.one (by simpa using h1)
 rw[h2.2]
 exact⟨.cons h .nil,by simpa using h2.1,by simp⟩
theorem wY [Glob P]{t:TypeId}(h:0<P.cellsOf t):∃i,P.info? t=some i/\i.size=P.cellsOf t:=by
 unfold Program.cellsOf at h ⊢
 cases hi:P.info? t with
 | none=>simp[hi]at h
 | some i=>exact⟨i,rfl,by simp⟩
theorem rG [Glob P]{t:TypeId}(h:0<P.cellsOf t)(w:World):(sizeOf t).run P w = .ok (P.cellsOf t) w:=by
 obtain⟨i,hi,hs⟩:=wY h
 simp[sizeOf,typeInfo,hi,hs]
theorem UQ [Glob P]{t:TypeId}(h:(P.underlying t).isSome=true)(w:World):(isAgg t).run P w = .ok (dN P t) w:=by
 obtain⟨d,hd⟩:=YQ.1 h
 unfold isAgg dN
 rw[Sem.run_bind,run_underlying hd w,hd]
 cases d<;>simp
theorem ldc_m [Glob P]{r i off:Nat}{h:H}:jo P (.mptr r i off) h=match h r with|some b=>(b.rows.getD i []).drop off|none=>[]:=rfl
theorem ldc_p [Glob P]{x o:Nat}{h:H}:jo P (.v (.pointer (some ⟨x,o,none⟩))) h=match Glob.tab P x with|some cs=>(cs.drop o).map D.v|none=>[]:=rfl
theorem Sd [Glob P]{h:H}{g:Mem}{w:World}(hm:HM P h g w){a:D}{va:Value}(ha:ag w g a va)(hne:jo P a h≠[]) :
  ∃p,va = .pointer (some p) /\ ∀(j:Nat)d,(jo P a h)[j]? = some d -> ∃u,w.cell? (p.add j)=some u/\ag w g d u:=by
 cases ha with
 | eptr cs p cv hI hc hr=>exact⟨p,rfl,λj d hj=>⟨cv j,hc j d hj,hr j d hj⟩⟩
 | mptr r i off x hx hU hv =>
  simp only[ldc_m]at hne ⊢
  cases hr:h r with
  | none=>rw[hr]at hne;exact absurd rfl hne
  | some bl =>
   rw[hr]at hne;simp only at hne ⊢;obtain⟨blk,c,h1,h2,h3,h4,h5⟩:=hm.blk r bl hr;have hi:i<bl.rows.length:=by
    rcases YG i bl.rows.length with h|h
    . exact h
    simp[List.getD,Z0 h]at hne
   rcases h5 with⟨_,rfl⟩|⟨b,cur,rfl,h6,h7,h8,h9⟩
   . omega
   obtain⟨hcm,b',he,rfl⟩:=hv _ _ _ h1
   cases he
   refine⟨_,rfl,λj d hj=>?_⟩
   rw[Y2]at hj;obtain⟨_,k2⟩:=h9 i (bl.rows.getD i []) (by simp[List.getD,Yg hi])
   obtain⟨u,k3,_,k5⟩:=k2 (off+j) d hj;refine⟨u,?_,k5⟩;rw[pO,cell_of_row w b _ cur bl.ty (0,0) (h6.cells hcm),<-k3]
   congr 1
   omega
 | v =>
  by_cases hp : ∃b o,va=Value.pointer (some ⟨b,o,none⟩)
  .
   obtain⟨b,o,rfl⟩:=hp;refine⟨_,rfl,λj d hj=>?_⟩
   rw[ldc_p]at hj
   cases ht:Glob.tab P b with
   | none=>rw[ht]at hj;simp at hj
   | some cs =>
    rw[ht]at hj;simp only[YU,Y2,Option.map_eq_some_iff]at hj;obtain⟨u,h1,rfl⟩:=hj;exact⟨u,by rw[pO];exact(hm.gr b cs ht).2 _ u h1,.v _⟩
  refine absurd ?_ hne;unfold jo
  split
  .
   rename_i x' o e
   first|(cases e;exact absurd ⟨_,_,rfl⟩ hp)|exact absurd ⟨_,_,rfl⟩ hp
  rfl
 | _=>exact absurd rfl hne
theorem Rb [Glob P]{t:TypeId}{p:Addr}{w:World}{g:Mem}{ds:List D}(hc : ∀(j:Nat)d,ds[j]? = some d -> ∃u,w.cell? (p.add j)=some u/\ag w g d u)
  (hn:P.cellsOf t<=ds.length)(hp:0<P.cellsOf t)(hu:(P.underlying t).isSome=true):∃v,(loadVar t p).run P w = .ok v w/\ag w g (xZ P t ds) v:=by
 unfold loadVar xZ
 rw[Sem.run_bind,UQ hu w]
 cases hg:dN P t with
 | false =>
  have h0:0<ds.length:=by omega
  obtain⟨u,h1,h2⟩:=hc 0 ds[0] (by simp)
  refine⟨u,?_,?_⟩
  .
   simp only[Addr.add,Zn]at h1
   simp[h1]
  have:ds.headD .junk=ds[0]:=by cases ds<;>simp_all
  simp only[Yp,Za];rw[this];exact h2
 | true =>
  have hex : ∀j,∃u,j<P.cellsOf t->w.cell? (p.add j)=some u /\ ∀d,ds[j]? = some d->ag w g d u:=by
   intro j
   by_cases hj:j<P.cellsOf t
   .
    obtain⟨u,h1,h2⟩:=hc j (ds[j]'(by omega)) (by simp)
    refine⟨u,λ_=>⟨h1,λd hd=>?_⟩⟩
    rw[Yg (by omega)]at hd
    cases hd;exact h2
   exact⟨undef,λh=>absurd h hj⟩
  let f:=λj=>Classical.choose (hex j)
  have hf:=λj=>ZO (hex j)
  refine⟨.agg ((List.range (P.cellsOf t)).map f).toArray,?_,?_⟩
  .
   have:=run_loadCells (P:=P) w p (P.cellsOf t) f (λj hj=>(hf j hj).1)
   simp[rG hp,this]
  simp only[Zn];refine .agg _ _ (by simp;omega) λi d x h1 h2=>?_
  rw[Y6]at h1
  split at h1
  .
   rename_i hi
   simp[hi]at h2
   subst h2;exact(hf i hi).2 d h1
  cases h1
def Zgb [Glob P]{h:H}{g:Mem}{w:World}(hm:HM P h g w){t:TypeId}{a:D}{va:Value}(ha:ag w g a va)(hc:(mP P t a h).2) :
  ∃v,(Instr.loadAt t va).run P w = .ok v w/\ag w g (mP P t a h).1 v:=by
 obtain⟨h1,h2,h3⟩:=hc
 obtain⟨p,rfl,hp⟩:=Sd hm ha (by intro e;rw[e]at h1;simp at h1;omega)
 obtain⟨v,h4,h5⟩:=Rb hp h1 h2 h3
 exact⟨v,by simp[Instr.loadAt,Instr.sureAddr,h4],h5⟩
theorem ZeO [Glob P]{g:Mem}{w:World}{t:TypeId}{off:Nat}{ds:List D}{vs:Array Value}(hv:aB w g ds vs.toList)(hn:off+P.cellsOf t<=ds.length)(hp:0<P.cellsOf t)(hu:(P.underlying t).isSome=true) :
  ∃v,(part t vs off).run P w = .ok v w/\ag w g (xZ P t (ds.drop off)) v:=by
 have hl:ds.length=vs.size:=by simpa using hv.1
 unfold part xZ
 rw[Sem.run_bind,UQ hu w]
 cases hg:dN P t with
 | false =>
  refine⟨vs[off]'(by omega),?_,?_⟩
  . simp[show off<vs.size by omega]
  have h1:=hv.2 off (ds[off]'(by omega)) (vs[off]'(by omega)) (by simp) (by simp)
  have:(ds.drop off).headD .junk=ds[off]'(by omega):=by rw[YC (by omega)];rfl
  simp only[Yp,Za];rw[this];exact h1
 | true =>
  refine⟨.agg (vs.extract off (off+P.cellsOf t)),by simp[rG hp],?_⟩
  simp only[Zn];refine .agg _ _ (by simp;omega) λi d x h1 h2=>?_
  rw[Y6]at h1
  split at h1
  .
   rename_i hi
   rw[Y2]at h1;rw[Array.getElem?_extract]at h2
   split at h2
   . exact hv.2 _ d x h1 (by simpa using h2)
   cases h2
  cases h1
theorem S9(w:World)(g:Mem)(x:Value):ag w g (E8 x) x:=by
 cases x with
 | slice a n c =>
  simp only[E8]
  split
  .
   rename_i h
   simp only[XU,Zb,YB]at h;obtain⟨⟨rfl,rfl⟩,rfl⟩:=h;exact .empty true none 0 (λ_=>rfl) (by simp[maxLen])
  exact .v _
 | func f fs cs =>
  simp only[E8]
  split
  .
   rename_i h
   simp only[XU,YB]at h;exact .fn f [] [] fs cs (by simp[h.1]) (by simp[h.2]) (by simp) (by simp)
  exact .v _
 | _=>exact .v _
def IW(w:World)(g:Mem)(x:Value):ag w g (qm x) x:=by
 unfold qm
 split
 .
  refine .agg _ _ (by simp) λi d y h1 h2=>?_
  simp only[YU,Zc]at h1;rw[h2]at h1
  simp at h1
  subst h1;exact S9 w g y
 exact S9 w g x
def Av [Glob P]{t:TypeId}{i:TypeInfo}{z:Value}(hi:P.info? t=some i)(hz:i.zero=some z)(w:World)(g:Mem)(h1:(zeroCells P t).all D.one=true) :
  aB w g (zeroCells P t) z.cells.toList/\(∀u∈z.cells.toList,u.oneCell'=true)/\z.cells.size=(zeroCells P t).length:=by
 have e:zeroCells P t=(qm z).cells:=by simp[zeroCells,hi,hz]
 rw[e]at h1 ⊢
 exact(IW w g z).cells h1
theorem G7 [Glob P]{t:TypeId}(h:0<(zeroCells P t).length):∃i z,P.info? t=some i/\i.zero=some z:=by
 unfold zeroCells at h
 cases hi:P.info? t with
 | none=>simp[hi]at h
 | some i =>
  cases hz:i.zero with
  | none=>simp[hi,hz]at h
  | some z=>exact⟨i,z,rfl,hz⟩
theorem holds_one [Glob P]{w:World}{g:Mem}{e:TypeId}{ds:List D}{vs:Array Value}(h:aB w g ds vs.toList)(h1 : ∀u∈vs.toList,u.oneCell'=true)(hl:ds.length=P.cellsOf e):Holds P w g ⟨e,[ds]⟩ vs:=by
 intro i row hi
 cases i with
 | succ i=>simp at hi
 | zero =>
  simp at hi;subst hi
  refine⟨hl,λj d hd=>?_⟩
  have hj:j<vs.size:=by have:=h.1;simp at this;rw[<-this];exact(X7.1 hd).1
  exact⟨vs[j],by simp[hj],h1 _ (by simp),h.2 j d _ hd (by simp[hj])⟩
def Tt [Glob P]{h:H}{g:Mem}{w:World}(hm:HM P h g w){b:Nat}(hb : ¬g.U b){e:TypeId}{ds:List D}{vs:Array Value}(hr:aB w g ds vs.toList)(h1 : ∀u∈vs.toList,u.oneCell'=true)(hl:ds.length=P.cellsOf e)(hp:0<P.cellsOf e) :
  ∃g',ag (w.alloc (.cells vs e)) g' (.mptr b 0 0) (.pointer (some ⟨w.heap.size,0,none⟩))/\HM P (upd h b (some ⟨e,[ds]⟩)) g' (w.alloc (.cells vs e))/\ax g g' w (w.alloc (.cells vs e)) /\ ∀r,g'.U r->g.U r\/r=b:=by
 have hs:vs.size=P.cellsOf e:=by have:=hr.1;simp at this;omega
 obtain⟨g',h2,h3,h4,h5,h6⟩:=hm.put (h':=upd h b (some ⟨e,[ds]⟩)) (w':=w.alloc (.cells vs e)) b w.heap.size 1 ⟨e,[ds]⟩ vs (.inl hb) (bN _ _ _)
  (λr hr=>.inl (aK _ _ _ _ hr)) (.inl (XX _)) (heap_alloc_new w _) (by simp[hs]) hp (by simp) (by simp[maxLen]) (holds_one hr h1 hl) (World.grownBy_alloc w _ _)
 refine⟨g',?_,h5,h6,λr hr=>(h3 r).1 hr⟩
 refine .mptr b 0 0 _ ⟨_,rfl⟩ ((h3 b).2 (.inr rfl)) λblk c sz he=>?_
 rw[h2]at he
 simp only[Yf,YK]at he
 exact⟨by rw[<-he.2.1];simp[maxLen],w.heap.size,he.1.symm,by simp⟩
def Zcn{w:World}{g:Mem}{row xs:List D}{cs us:List Value}(h:aB w g row cs)(k:aB w g xs us)(off:Nat) :
  aB w g (splice row off xs) (cs.take off++us++cs.drop (off+us.length)):=by
 unfold splice
 rw[k.1]
 exact((h.take off).append k).append (h.drop _)
theorem Lh(row xs:List D)(off:Nat)(h:off+xs.length<=row.length):(splice row off xs).length=row.length:=by
 simp[splice];omega
theorem Qf [Glob P]{h:H}{g:Mem}{w:World}(hm:HM P h g w){t:TypeId}{a x:D}{va vx:Value}(ha:ag w g a va)(hx:ag w g x vx)(hc:(lu P t a x h).2) :
  ∃g' w',(Instr.storeAt t va vx).run P w = .ok () w'/\HM P (lu P t a x h).1 g' w'/\ax g g' w w' /\ ∀r,g'.U r->g.U r:=by
 unfold lu at hc ⊢
 split at hc
 case h_2=>exact hc.elim
 rename_i r i off
 cases hr:h r with
 | none=>rw[hr]at hc;exact hc.elim
 | some bl =>
  rw[hr]at hc;simp only at hc ⊢;obtain⟨c1,c0,c2,c3,c4⟩:=hc;obtain⟨blk,c,h1,h2,h3,h4,h5⟩:=hm.blk r bl hr
  rcases h5 with⟨_,rfl⟩|⟨b,cur,rfl,h6,h7,h8,h9⟩
  . omega
  cases ha with|mptr _ _ _ _ fM hU hv =>
  obtain⟨hcm,b',he,rfl⟩:=hv _ _ _ h1
  cases he
  have h6:=h6.cells hcm;have h7:=h7 hcm;have h4:=hcm;obtain⟨q1,q2,q3⟩:=hx.cells c4;have hrow:bl.rows[i]? = some (bl.rows.getD i []):=by simp[List.getD,Yg c2]
  generalize hR:bl.rows.getD i []=row at *;obtain⟨m1,m2⟩:=h9 i _ hrow;have q4:vx.cells.toList.length=x.cells.length:=by simp[q3]
  have hin:i*P.cellsOf bl.ty+P.cellsOf bl.ty<=cur.size:=by
   have e1:(i+1)*P.cellsOf bl.ty<=c*P.cellsOf bl.ty:=YY _ om;rw[Zk,Nat.one_mul]at e1;omega
  have hfit:i*P.cellsOf bl.ty+off+vx.cells.toList.length<=cur.size:=by omega
  have hst:=run_storeCells_at P b (i*P.cellsOf bl.ty+off) bl.ty vx.cells.toList 0 cur w h6 (by simpa using hfit) q2
  simp only[Zu]at hst;generalize hnew:(List.take (i*P.cellsOf bl.ty+off) cur.toList++vx.cells.toList++List.drop (i*P.cellsOf bl.ty+off+vx.cells.toList.length) cur.toList)=new at hst;have hnl:new.length=cur.size:=by rw[<-hnew];simp;omega
  have hget : ∀k,new[k]? = if i*P.cellsOf bl.ty+off<=k/\k<i*P.cellsOf bl.ty+off+x.cells.length then vx.cells.toList[k-(i*P.cellsOf bl.ty+off)]? else cur[k]? := by
   intro k;rw[<-hnew];have l1:(List.take (i*P.cellsOf bl.ty+off) cur.toList).length=i*P.cellsOf bl.ty+off:=by simp;omega
   rw[Yu]
   by_cases hk:k<i*P.cellsOf bl.ty+off
   . rw[Y5 (by omega),XV (by omega),Y6,X3 hk];simp
   rw[YM (by omega),l1]
   by_cases hk2:k<i*P.cellsOf bl.ty+off+x.cells.length
   . rw[Y5 (by omega),X3 (by omega)]
   rw[YM (by omega),XV (by omega),Y2]
   rw[q4,Zc]
   congr 1;omega
  obtain⟨g',g1,g2,g3,g4,g5⟩:=hm.put (h':=upd h r (some { bl with rows:=bl.rows.set i (splice row off x.cells) })) (w':=w.setRow b new.toArray) r b c
   { bl with rows:=bl.rows.set i (splice row off x.cells) } new.toArray (.inr h1) (bN _ _ _) (λr' hr'=>.inl (aK _ _ _ _ hr')) (.inr ⟨r,c,_,h1,.inl rfl⟩)
   (setRow_heap w b cur _ bl.ty _ h6) (by simp[hnl,h7]) h2 (by simpa using h3) h4
   (by
    intro i' row' hi';simp only[List.getElem?_set]at hi'
    by_cases e:i=i'
    .
     subst e;rw[X3 rfl,X3 c2]at hi'
     cases hi'
     refine⟨by rw[Lh _ _ _ c3];exact m1,λj d hj=>?_⟩
     have hjl:j<row.length:=by
      have:=(X7.1 hj).1;rwa [Lh _ _ _ c3]at this
     unfold splice at hj;rw[Yu]at hj;have l1:(List.take off row).length=off:=by simp;omega
     simp only[List.getElem?_toArray];rw[hget]
     by_cases hk:j<off
     .
      rw[Y5 (by omega),Y6,X3 hk]at hj
      rw[XV (by omega)]
      exact m2 j d hj
     rw[YM (by omega),l1]at hj
     by_cases hk2:j<off+x.cells.length
     .
      rw[Y5 (by omega)]at hj
      rw[X3 (by omega)]
      have hjj:i*P.cellsOf bl.ty+j-(i*P.cellsOf bl.ty+off)=j-off:=by omega
      rw[hjj];have hlt:j-off<vx.cells.toList.length:=by omega
      exact⟨vx.cells.toList[j-off],by simp,q2 _ (YI hlt),q1.2 (j-off) d _ hj (by simp)⟩
     rw[YM (by omega),Y2]at hj
     rw[XV (by omega)]
     have:off+x.cells.length+(j-off-x.cells.length)=j:=by omega
     rw[this]at hj;exact m2 j d hj
    rw[XV e]at hi';obtain⟨k1,k2⟩:=h9 i' row' hi';refine⟨k1,λj d hj=>?_⟩
    have hjl:j<P.cellsOf bl.ty:=by have:=(X7.1 hj).1;omega
    simp only[List.getElem?_toArray];rw[hget,XV]
    . exact k2 j d hj
    intro ⟨u1,u2⟩;have v1:i*P.cellsOf bl.ty<i'*P.cellsOf bl.ty+P.cellsOf bl.ty:=by omega
    have v2:i'*P.cellsOf bl.ty<i*P.cellsOf bl.ty+P.cellsOf bl.ty:=by omega
    have e1:i<i'+1:=Nat.lt_of_mul_lt_mul_right (a:=P.cellsOf bl.ty) (by rw[Zk,Nat.one_mul];exact v1)
    have e2:i'<i+1:=Nat.lt_of_mul_lt_mul_right (a:=P.cellsOf bl.ty) (by rw[Zk,Nat.one_mul];exact v2)
    omega)
   ⟨rfl,rfl,rfl,by simp,λk _ hk=>setRow_other w b k _ (λe=>hk (by rw[e]))⟩
  refine⟨g',_,?_,g4,g5,λr' hr'=>?_⟩
  . simp[Instr.storeAt,Instr.sureAddr,storeVar,rG c0,q3,c1,hst]
  rcases(g2 r').1 hr' with h|rfl
  . exact h
  exact hU
end Go.DL
namespace Go.DL
open Go.RowKit
variable {P : Program}
def RowsIn(w:World)(g:Mem)(size:Nat)(rows:List (List D))(cs:List Value):Prop :=
 cs.length=rows.length*size /\ ∀(i:Nat)row,rows[i]? = some row->row.length=size /\ ∀(j:Nat)d,row[j]? = some d -> ∃u,cs[i*size+j]? = some u/\u.oneCell'=true/\ag w g d u
theorem zT{i j n size:Nat}(hi:i<n)(hj:j<size):i*size+j<n*size:=by
 have e1:(i+1)*size<=n*size:=YY _ om
 rw[Zk,Nat.one_mul]at e1
 omega
theorem RowsIn.nil{w:World}{g:Mem}{size:Nat}:RowsIn w g size [] []:=⟨by simp,λi row h=>by simp at h⟩
def RowsIn.append{w:World}{g:Mem}{size:Nat}{r s:List (List D)}{a b:List Value}(h:RowsIn w g size r a)(k:RowsIn w g size s b):RowsIn w g size (r++s) (a++b):=by
 refine⟨by simp[h.1,k.1,Zk],λi row hi=>?_⟩
 by_cases hlt:i<r.length
 .
  rw[Y5 hlt]at hi;obtain⟨h1,h2⟩:=h.2 i row hi;refine⟨h1,λj d hj=>?_⟩
  have hjl:j<size:=by have:=(X7.1 hj).1;omega
  have:=zT hlt hjl;rw[Y5 (by rw[h.1];exact this)]
  exact h2 j d hj
 rw[YM (by omega)]at hi
 obtain⟨h1,h2⟩:=k.2 _ row hi
 refine⟨h1,λj d hj=>?_⟩
 have e:i*size=r.length*size+(i-r.length)*size:=by rw[<-Zk];congr 1;omega
 rw[YM (by rw[h.1];omega),h.1]
 have e2:i*size+j-r.length*size=(i-r.length)*size+j:=by omega
 rw[e2]
 exact h2 j d hj
def RowsIn.one{w:World}{g:Mem}{size:Nat}{rows:List (List D)}{cs:List Value}(h:RowsIn w g size rows cs):∀u∈cs,u.oneCell'=true:=by
 intro u hu
 obtain⟨k,hk,rfl⟩:=Zj hu
 rcases Nat.eq_zero_or_pos size with h0|h0
 . rw[h.1,h0]at hk;omega
 have hi:k / size<rows.length:=by rw[Nat.div_lt_iff_lt_mul h0,<-h.1];exact hk
 obtain⟨h1,h2⟩:=h.2 (k / size) rows[k / size] (by simp)
 have hj:k % size<rows[k / size].length:=by rw[h1];exact Nat.mod_lt _ h0
 obtain⟨u,h3,h4,_⟩:=h2 (k % size) (rows[k / size][k % size]) (by simp)
 have e:k / size*size+k % size=k:=by rw[ZE];exact Nat.div_add_mod k size
 rw[e,Yg hk]at h3
 cases h3;exact h4
def RowsIn.holds [Glob P]{w:World}{g:Mem}{e:TypeId}{rows:List (List D)}{cs:List Value}{cur:Array Value}(h:RowsIn w g (P.cellsOf e) rows cs)(hc:cur.toList.take cs.length=cs):Holds P w g ⟨e,rows⟩ cur:=by
 intro i row hi
 obtain⟨h1,h2⟩:=h.2 i row hi
 refine⟨h1,λj d hj=>?_⟩
 obtain⟨u,h3,h4,h5⟩:=h2 j d hj
 refine⟨u,?_,h4,h5⟩
 rw[<-hc,Y6]at h3
 split at h3
 . simpa using h3
 cases h3
def Holds.rowsIn [Glob P]{w:World}{g:Mem}{bl:eZ}{cur:Array Value}(h:Holds P w g bl cur)(off len:Nat)(hl:off+len<=bl.rows.length)(hc:bl.rows.length*P.cellsOf bl.ty<=cur.size) :
  RowsIn w g (P.cellsOf bl.ty) ((bl.rows.drop off).take len) ((cur.toList.drop (off*P.cellsOf bl.ty)).take (len*P.cellsOf bl.ty)):=by
 have e1:(off+len)*P.cellsOf bl.ty<=bl.rows.length*P.cellsOf bl.ty:=YY _ hl
 rw[Zk]at e1
 refine⟨?_,λi row hi=>?_⟩
 . simp only[YA,Yw,Array.length_toList];rw[ZK (by omega),ZK (by omega)]
 rw[Y6]at hi
 split at hi
 .
  rename_i hil
  rw[Y2]at hi;obtain⟨h1,h2⟩:=h (off+i) row hi;refine⟨h1,λj d hj=>?_⟩
  obtain⟨u,h3,h4,h5⟩:=h2 j d hj;have hjl:j<P.cellsOf bl.ty:=by have:=(X7.1 hj).1;omega
  refine⟨u,?_,h4,h5⟩;rw[Y6,X3 (zT hil hjl),Y2,Zc,<-h3]
  congr 1
  rw[Zk];omega
 cases hi
theorem CR [Glob P]{h:H}{g:Mem}{w:World}(hm:HM P h g w){y:D}{vy:Value}(hy:ag w g y vy){size:Nat}(hp:0<size)(hl:(aC y h).length=bO y)(hs : ∀r∈aC y h,r.length=size){u:TypeId}(ho:iA P u h y=true) :
  ∃cs,RowsIn w g size (aC y h) cs/\(∀w',(Builtin.lenOf vy).run P w' = .ok (bO y) w')/\(∀w',w'.heap=w.heap->(Builtin.firstCells size (bO y) vy).run P w' = .ok cs.toArray w') /\
   (∀w',∃d,(underlying u).run P w' = .ok d w'/\(d = .string \/ ∃e',d = .slice e')):=by
 cases hy with
 | empty full a cap hf hmx =>
  obtain⟨e,he⟩:=YQ.1 (show(bQ P u).isSome=true from ho)
  have hu:P.underlying u=some (.slice e):=by unfold bQ at he;split at he<;>simp_all
  refine⟨[],.nil,λw'=>by simp[Builtin.lenOf,bO],λw' _=>?_,λw'=>⟨_,run_underlying hu w',by simp⟩⟩
  cases a<;>simp[Builtin.firstCells,bO,loadCells,loadCellsFrom]
 | list full rows ad cap sz cv hI hlc hf hmx hsz hc hr =>
  obtain⟨e,he⟩:=YQ.1 (show(bQ P u).isSome=true from ho)
  have hu:P.underlying u=some (.slice e):=by unfold bQ at he;split at he<;>simp_all
  simp only[aC]at hs hl ⊢
  by_cases hz:rows=[]
  .
   subst hz;refine⟨[],.nil,λw'=>by simp[Builtin.lenOf,bO],λw' _=>?_,λw'=>⟨_,run_underlying hu w',by simp⟩⟩
   simp[Builtin.firstCells,bO,loadCells,loadCellsFrom]
  have hse:sz=size:=by
   cases rows with
   | nil=>exact absurd rfl hz
   | cons a l=>rw[<-hsz a (by simp),hs a (by simp)]
  subst hse;refine⟨(List.range (rows.length*sz)).map λk=>cv (k / sz) (k % sz),⟨by simp,λi row hi=>⟨hs row (Yj hi),λj d hj=>?_⟩⟩,λw'=>by simp[Builtin.lenOf,bO],λw' hw=>?_,λw'=>⟨_,run_underlying hu w',by simp⟩⟩
  .
   have hil:i<rows.length:=(X7.1 hi).1;have hjl:j<sz:=by have:=(X7.1 hj).1;have:=hs row (Yj hi);omega
   refine⟨cv i j,?_,(hc i j row d hi hj).2,hr i j row d hi hj⟩;rw[YU,List.getElem?_range (zT hil hjl)];have e1:(i*sz+j) / sz=i:=by rw[ZE,Nat.mul_add_div hp,Nat.div_eq_of_lt hjl];rfl
   have e2:(i*sz+j) % sz=j:=by rw[ZE,Z4,ZB hjl]
   simp[e1,e2]
  have:=run_loadCells (P:=P) w' ad (rows.length*sz) (λk=>cv (k / sz) (k % sz)) (λk hk=>by
   have hil:k / sz<rows.length:=by rw[Nat.div_lt_iff_lt_mul hp];exact hk
   have hjl:k % sz<(rows[k / sz]).length:=by rw[hs _ (by simp)];exact Nat.mod_lt _ hp
   have h1:=(hc (k / sz) (k % sz) rows[k / sz] (rows[k / sz][k % sz]) (by simp) (by simp)).1
   have e:k / sz*sz+k % sz=k:=by rw[ZE];exact Nat.div_add_mod k sz
   rw[e]at h1;rw[<-h1];exact World.cell?_of_block (by rw[hw]))
  simpa[Builtin.firstCells,bO]using this
 | mrow r off len x hx hU hv =>
  simp only[iA,XU]at ho;obtain⟨e,he⟩:=YQ.1 ho.1;have hu:P.underlying u=some (.slice e):=by unfold bQ at he;split at he<;>simp_all
  simp only[aC,bO]at hs hl ⊢
  cases hr:h r with
  | none =>
   rw[hr]at ho;simp at ho
  | some bl =>
   rw[hr]at hl hs;simp only at hl hs ⊢;obtain⟨blk,c,h1,h2,h3,h4,h5⟩:=hm.blk r bl hr;obtain⟨h6,h7⟩:=hv _ _ _ h1
   rcases h7 with⟨rfl,a,rfl⟩|⟨hne,b,rfl,rfl⟩
   .
    have:len=0:=by omega
    subst this;refine⟨[],by simpa using RowsIn.nil,λw'=>by simp[Builtin.lenOf],λw' _=>?_,λw'=>⟨_,run_underlying hu w',by simp⟩⟩
    cases a<;>simp[Builtin.firstCells,loadCells,loadCellsFrom]
   rcases h5 with⟨h5,_⟩|⟨b',cur,h5,k1,k2,k3,k4⟩
   . cases h5
   cases h5
   have k1:=k1.cells h6.2;have k2:=k2 h6.2;have hle:off+len<=bl.rows.length\/len=0:=by
    simp only[YA,Yw]at hl;omega
   rcases hle with hle|hle
   .
    have hR:=k4.rowsIn off len hle o5t
    by_cases hz:len=0
    . subst hz;refine⟨[],by simpa using RowsIn.nil,λw'=>by simp[Builtin.lenOf],λw' _=>by simp[Builtin.firstCells,loadCells,loadCellsFrom],λw'=>⟨_,run_underlying hu w',by simp⟩⟩
    have hse:P.cellsOf bl.ty=size:=by
     have hlt:0<((bl.rows.drop off).take len).length:=by omega
     have m1:=hs _ (YI hlt);have m2:=(hR.2 0 _ (Yg hlt)).1;omega
    rw[hse]at hR k2;refine⟨_,hR,λw'=>by simp[Builtin.lenOf],λw' hw=>?_,λw'=>⟨_,run_underlying hu w',by simp⟩⟩
    rw[hse];have hlen:=hR.1;rw[hl]at hlen;refine run_firstCells_some (P:=P) w' size len _ len _ _ hlen λj v hj=>?_
    rw[pO,cell_of_row w' b _ cur bl.ty (0,0) (by rw[hw];exact k1)]
    rw[Y6]at hj
    split at hj
    . rw[Y2]at hj;simpa using hj
    cases hj
   subst hle;refine⟨[],by simpa using RowsIn.nil,λw'=>by simp[Builtin.lenOf],λw' _=>by simp[Builtin.firstCells,loadCells,loadCellsFrom],λw'=>⟨_,run_underlying hu w',by simp⟩⟩
 | v =>
  cases vy<;>simp only[iA]at ho<;>try (cases ho;done)
  rename_i s
  have hu:P.underlying u=some .string:=by split at ho<;>simp_all
  simp only[aC,bO]at hs hl ⊢
  by_cases hz:s.size=0
  .
   have e:s.data.toList=[]:=Ya (by simpa using hz)
   refine⟨[],by rw[e];exact RowsIn.nil,λw'=>by simp[Builtin.lenOf],λw' _=>?_,λw'=>⟨_,run_underlying hu w',by simp⟩⟩
   simp[Builtin.firstCells,hz]
  have hse:size=1:=by
   have hlt:0<s.data.toList.length:=by simp;exact Nat.pos_of_ne_zero hz
   rw[<-hs [.v (.int .u8 (s.data.toList[0].toNat))] (by simp only[Yt];exact⟨_,YI hlt,rfl⟩)];rfl
  subst hse;refine⟨s.data.toList.map λb=>.int .u8 b.toNat,⟨by simp,λi row hi=>?_⟩,λw'=>by simp[Builtin.lenOf],λw' _=>?_,λw'=>⟨_,run_underlying hu w',by simp⟩⟩
  .
   rw[YU]at hi
   cases hb:s.data.toList[i]? with
   | none=>rw[hb]at hi;cases hi
   | some b =>
    rw[hb]at hi;simp at hi;subst hi;refine⟨rfl,λj d hj=>?_⟩
    cases j with
    | succ j=>simp at hj
    | zero=>simp at hj;subst hj;exact⟨.int .u8 b.toNat,by rw[YU];simp[hb],rfl,.v _⟩
  simp[Builtin.firstCells]
  apply Zq
  simp
 | _=>simp[iA]at ho
section
variable {t u e : TypeId} {i : TypeInfo} {x : Value} {n : Nat} {w : World}
def XK [Glob P](ht:P.underlying t=some (.slice e))(hi:P.info? e=some i)(hu : ∃d,(underlying u).run P w = .ok d w/\(d = .string \/ ∃e',d = .slice e'))(ty:TypeId)(b o sLen sCap:Nat)
  (hl:(Builtin.lenOf x).run P w = .ok n w)(hroom:sLen+n<=sCap){news:List Value}(hn:(Builtin.firstCells i.size n x).run P w = .ok news.toArray w)(h1 : ∀v∈news,v.oneCell'=true)
  {cur:Array Value}(hg:w.heap[b]? = some (.cells cur e (0,0)))(hfit:o+sLen*i.size+news.length<=cur.size) :
  (Builtin.append_ #[t,u] ty #[.slice (some ⟨b,o,none⟩) sLen sCap,x]).run P w = .ok (.slice (some ⟨b,o,none⟩) (sLen+n) sCap)
   (w.setRow b (cur.toList.take (o+sLen*i.size)++news++cur.toList.drop (o+sLen*i.size+news.length)).toArray):=by
 obtain⟨d,hu,hd⟩:=hu
 have hst:=run_storeCells_at P b (o+sLen*i.size) e news 0 cur w hg (by simpa using hfit) h1
 simp only[Zu]at hst
 rcases hd with rfl|⟨e',rfl⟩<;>simp[Builtin.append_,run_underlying ht,hu,sizeOf,typeInfo,hi,hl,hroom,hn,pO,hst]
def XL [Glob P](ht:P.underlying t=some (.slice e))(hi:P.info? e=some i)(hu : ∃d,(underlying u).run P w = .ok d w/\(d = .string \/ ∃e',d = .slice e'))(ty:TypeId)(a:Option Addr)(sLen sCap:Nat)(hle:sLen<=sCap)
  (hl:(Builtin.lenOf x).run P w = .ok 0 w)(hn:(Builtin.firstCells i.size 0 x).run P w = .ok #[] w) :
  (Builtin.append_ #[t,u] ty #[.slice a sLen sCap,x]).run P w = .ok (.slice a sLen sCap) w:=by
 obtain⟨d,hu,hd⟩:=hu
 rcases hd with rfl|⟨e',rfl⟩<;>cases a<;>simp[Builtin.append_,run_underlying ht,hu,sizeOf,typeInfo,hi,hl,hle,hn,storeCells]
def XM [Glob P](ht:P.underlying t=some (.slice e))(hi:P.info? e=some i){z:Value}(hz:i.zero=some z)(hu : ∃d,(underlying u).run P w = .ok d w/\(d = .string \/ ∃e',d = .slice e'))(ty:TypeId)(a:Option Addr)(sLen sCap:Nat)
  (hl:(Builtin.lenOf x).run P w = .ok n w)(hgr:sCap<sLen+n){olds news:List Value}(ho:(Builtin.firstCells i.size sLen (.slice a sLen sCap)).run P w.drew = .ok olds.toArray w.drew)
  (hn:(Builtin.firstCells i.size n x).run P w.drew = .ok news.toArray w.drew)(h63:sLen+n<=9223372036854775807)(hby:(sLen+n)*i.bytes<=140737488355328) :
  (Builtin.append_ #[t,u] ty #[.slice a sLen sCap,x]).run P w = .ok (.slice (some ⟨w.heap.size,0,none⟩) (sLen+n) (grownCap w (sLen+n) sCap e))
   (w.drew.alloc (.cells ((olds++news).toArray++Builtin.zeroCells z.cells (grownCap w (sLen+n) sCap e-(sLen+n))) e)):=by
 obtain⟨d,hu',hd⟩:=hu
 have h1 : ¬(sLen+n<=sCap):=by omega
 have h63' : ¬(9223372036854775807<(sLen:Int)+(n:Int)):=by omega
 have h48 : ¬(281474976710656<Builtin.nextslicecap (sLen+n) sCap*i.bytes):=by have:=growslice_fits (bytes:=i.bytes) hgr hby;omega
 have e0 : ∀Z:Array Value,(olds++news).toArray++Z=olds.toArray++(news.toArray++Z):=λZ=>by apply Zq;simp
 rw[e0]
 rcases hd with rfl|⟨e',rfl⟩<;>simp[Builtin.append_,run_underlying ht,hu',sizeOf,typeInfo,zeroValue,hi,hz,hl,h1,h63',h48,Question.forced,ho,hn,newRow,grownCap]
end
theorem xu [Glob P]{t e:TypeId}(h:bQ P t=some e):P.underlying t=some (.slice e):=by unfold bQ at h;split at h<;>simp_all
def Jz [Glob P]{h h':H}{g:Mem}{w:World}(hm:HM P h g w){b:Nat}(hb : ¬g.U b){e:TypeId}{rows:List (List D)}{cs:List Value}(hr:RowsIn w g (P.cellsOf e) rows cs)(hp:0<P.cellsOf e){z:Value}(hz:z.cells.size=P.cellsOf e)
  (hb':h' b=some ⟨e,rows⟩)(hrr : ∀r,r≠b->h' r=h r\/h' r=none)(c:Nat)(hc:rows.length<=c)(hc0:0<c)(hmx:c<=maxLen) :
  ∃g',ag (w.drew.alloc (.cells (cs.toArray++Builtin.zeroCells z.cells (c-rows.length)) e)) g' (.mrow b 0 rows.length) (.slice (some ⟨w.heap.size,0,none⟩) rows.length c) /\
   HM P h' g' (w.drew.alloc (.cells (cs.toArray++Builtin.zeroCells z.cells (c-rows.length)) e))/\ax g g' w (w.drew.alloc (.cells (cs.toArray++Builtin.zeroCells z.cells (c-rows.length)) e)) /\ ∀r,g'.U r->g.U r\/r=b:=by
 obtain⟨g',h2,h3,h4,h5,h6⟩:=hm.put (h':=h') (w':=w.drew.alloc (.cells (cs.toArray++Builtin.zeroCells z.cells (c-rows.length)) e)) b w.heap.size c ⟨e,rows⟩ (cs.toArray++Builtin.zeroCells z.cells (c-rows.length)) (.inl hb) hb' hrr (.inl (XX _))
  (heap_alloc_new w.drew _) (by simp only[Array.size_append,List.size_toArray,size_zeroCells,hz,hr.1,<-Zk];congr 1;omega) hp hc hmx
  (hr.holds (by simp)) ⟨rfl,rfl,rfl,by simp,λk hk _=>Below.heap_alloc w.drew _ k hk⟩
 refine⟨g',.mrow b 0 rows.length _ ⟨_,_,rfl,hc,λ_=>⟨_,rfl⟩⟩ ((h3 b).2 (.inr rfl)) λblk c' sz he=>?_,h5,h6,λr hr=>(h3 r).1 hr⟩
 rw[h2]at he
 simp only[Yf,YK]at he
 obtain⟨rfl,rfl,rfl⟩:=he
 exact⟨om,.inr ⟨om,w.heap.size,rfl,by simp⟩⟩
def Rt{w:World}{g:Mem}{b sz:Nat}(hM:g.M b=some (none,0,sz))(hU:g.U b)(a:Option Addr):ag w g (.mrow b 0 0) (.slice a 0 0) :=
 .mrow b 0 0 _ ⟨_,_,rfl,XX _,λh=>absurd h om⟩ hU λblk c s he=>by
  rw[hM]at he;simp only[Yf,YK]at he;obtain⟨rfl,rfl,rfl⟩:=he;exact⟨⟨XX _,Yi _⟩,.inl ⟨rfl,a,rfl⟩⟩
theorem XJ [Glob P]{h:H}{g:Mem}{w:World}(hm:HM P h g w){t u:TypeId}{x y:D}{vx vy:Value}{b:Nat}(hb : ¬g.U b)(hx:ag w g x vx)(hy:ag w g y vy)(hc:(jh P t u x y h b).2.2)(ty:TypeId) :
  ∃v g' w',(Builtin.append_ #[t,u] ty #[vx,vy]).run P w = .ok v w'/\ag w' g' (jh P t u x y h b).1 v/\HM P (jh P t u x y h b).2.1 g' w'/\ax g g' w w' /\ ∀r,g'.U r->g.U r\/r=b:=by
 unfold jh at hc ⊢
 cases he:bQ P t with
 | none=>rw[he]at hc;exact hc.elim
 | some e =>
  rw[he]at hc;simp only at hc ⊢;have ht:=xu he;have common:(0<P.cellsOf e/\(bO x+(aC y h).length)*P.bytesOf e<=140737488355328/\bO x+(aC y h).length<=9223372036854775807) ->
    ((aC y h).length=bO y/\iA P u h y=true/\eQ P e=true /\ ∀r∈aC y h,r.length=P.cellsOf e) ->
    ∃i z news,P.info? e=some i/\i.size=P.cellsOf e/\i.bytes=P.bytesOf e/\i.zero=some z/\z.cells.size=P.cellsOf e/\RowsIn w g (P.cellsOf e) (aC y h) news/\(Builtin.lenOf vy).run P w = .ok (aC y h).length w /\
     (∀w',w'.heap=w.heap->(Builtin.firstCells i.size (aC y h).length vy).run P w' = .ok news.toArray w')/\(∃d,(underlying u).run P w = .ok d w/\(d = .string \/ ∃e',d = .slice e')):=by
   rintro⟨a1,a2,a3⟩ ⟨b1,b2,b3,b4⟩;obtain⟨i,hi,hs⟩:=wY a1;unfold eQ at b3
   cases hz:i.zero with
   | none=>simp[hi,hz]at b3
   | some z =>
    simp only[hi,hz,Option.bind_some,YB]at b3;obtain⟨news,r1,r2,r3,r4⟩:=CR hm hy a1 b1 b4 b2;exact⟨i,z,news,hi,hs,by simp[Program.bytesOf,hi],hz,b3,r1,by rw[b1];exact r2 w,by rw[b1,hs];exact r3,r4 w⟩
  split at hc
  case h_3=>exact hc.elim
  case h_1 rows =>
   obtain⟨hsz,hsrc,hne,hrl⟩:=hc;simp only[bO]at hsz common;obtain⟨i,z,news,hi,hs,hby,hz,hzs,hR,hlen,hfc,hu⟩:=common hsz hsrc
   by_cases hn:aC y h=[]
   .
    have hr0:=hne hn;subst hr0;rw[hn]at hlen hfc hR ⊢;have:news=[]:=Ya (by simpa using hR.1)
    subst this;obtain⟨g',g1,g2,g3,g4,g5⟩:=hm.putNone (h':=upd h b (some ⟨e,[]⟩)) b ⟨e,[]⟩ hb (bN _ _ _) (λr hr=>.inl (aK _ _ _ _ hr)) hsz.1 rfl
    have hv : ∃a,vx = .slice a 0 0:=by
     cases hx with
     | empty full a cap hf hmx=>rw[hf rfl];exact⟨a,rfl⟩
     | list full rows ad cap size cv hI hl hf hmx hs' hc' hr'=>rw[hf rfl];exact⟨_,rfl⟩
    obtain⟨a,rfl⟩:=hv;exact⟨.slice a 0 0,g',w,XL ht hi hu ty a 0 0 (XX _) hlen (hfc w rfl),Rt g1 ((g2 b).2 (.inr rfl)) a,g4,g5,λr hr=>(g2 r).1 hr⟩
   have hpos:0<(aC y h).length:=Zy.2 hn;obtain⟨olds,o1,o2,o3,_⟩:=CR hm hx (u:=t) hsz.1 (by simp[aC,bO]) hrl (by simp[iA,he])
   simp only[aC,bO]at o1 o2 o3;have hv : ∃a,vx = .slice a rows.length rows.length:=by
    cases hx with
    | empty full a cap hf hmx=>rw[hf rfl];exact⟨a,rfl⟩
    | list full rows ad cap size cv hI hl hf hmx hs' hc' hr'=>rw[hf rfl];exact⟨_,rfl⟩
   obtain⟨a,rfl⟩:=hv;have hap:=XM (P:=P) ht hi hz hu ty a rows.length rows.length hlen (by omega) (by rw[hs];exact o3 w.drew rfl) (hfc w.drew rfl) hsz.2.2 (by rw[hby];exact hsz.2.1)
   have hge:=grownCap_ge w (rows.length+(aC y h).length) rows.length e;obtain⟨g',k1,k2,k3,k4⟩:=Jz (h':=upd h b (some ⟨e,rows++aC y h⟩)) hm hb (o1.append hR) hsz.1 hzs (bN _ _ _) (λr hr=>.inl (aK _ _ _ _ hr)) (grownCap w (rows.length+(aC y h).length) rows.length e) (by simpa using hge) om
    (grownCap_le_maxLen _ _ _ _ (by simp only[maxLen];exact hsz.2.2))
   simp only[XZ]at k1 k2 k3;exact⟨_,g',_,hap,k1,k2,k3,k4⟩
  case h_2 r n =>
   cases hr:h r with
   | none=>rw[hr]at hc;exact hc.elim
   | some bl =>
    rw[hr]at hc;simp only at hc ⊢;obtain⟨hsz,hsrc,rfl,rfl,hrb⟩:=hc;simp only[bO]at hsz common;obtain⟨i,z,news,hi,hs,hby,hz,hzs,hR,hlen,hfc,hu⟩:=common hsz hsrc;have hh' : ∀r',r'≠b->upd (upd h r none) b (some ⟨bl.ty,bl.rows++aC y h⟩) r'=h r'\/upd (upd h r none) b (some ⟨bl.ty,bl.rows++aC y h⟩) r'=none:=by
     intro r' hr';rw[aK _ _ _ _ hr']
     by_cases e1:r'=r
     . subst e1;exact .inr (bN _ _ _)
     exact .inl (aK _ _ _ _ e1)
    obtain⟨blk,c,q1,q2,q3,q4,q5⟩:=hm.blk r bl hr
    cases hx with|mrow _ _ _ _ fM hU hv =>
    obtain⟨q6,q7⟩:=hv _ _ _ q1;have grow : ∀a cap,vx = .slice a bl.rows.length cap->cap<bl.rows.length+(aC y h).length -> ∃v g' w',(Builtin.append_ #[t,u] ty #[vx,vy]).run P w = .ok v w'/\ag w' g' (.mrow b 0 (bl.rows.length+(aC y h).length)) v /\
      HM P (upd (upd h r none) b (some ⟨bl.ty,bl.rows++aC y h⟩)) g' w'/\ax g g' w w' /\ ∀r,g'.U r->g.U r\/r=b:=by
     rintro a cap rfl hcap;have hrx:aC (.mrow r 0 bl.rows.length) h=bl.rows:=by simp[aC,hr]
     obtain⟨olds,o1,o2,o3,_⟩:=CR hm (.mrow r 0 bl.rows.length _ fM hU hv) (u:=t) hsz.1 (by simp[hrx,bO]) (by
      rw[hrx];intro row hrow;obtain⟨k,hk,rfl⟩:=Zj hrow
      rcases q5 with⟨_,rfl⟩|⟨b',cur,_,_,_,_,k9⟩
      . omega
      exact(k9 k _ (Yg hk)).1) (by simp[iA,he,hr])
     rw[hrx]at o1;simp only[bO]at o2 o3;have hap:=XM (P:=P) ht hi hz hu ty a bl.rows.length cap hlen hcap (by rw[hs];exact o3 w.drew rfl) (hfc w.drew rfl) hsz.2.2 (by rw[hby];exact hsz.2.1)
     have hge:=grownCap_ge w (bl.rows.length+(aC y h).length) cap bl.ty;obtain⟨g',k1,k2,k3,k4⟩:=Jz (h':=upd (upd h r none) b (some ⟨bl.ty,bl.rows++aC y h⟩)) hm hb (o1.append hR) hsz.1 hzs (bN _ _ _) hh' (grownCap w (bl.rows.length+(aC y h).length) cap bl.ty) (by simpa using hge) om
      (grownCap_le_maxLen _ _ _ _ (by simp only[maxLen];exact hsz.2.2))
     simp only[XZ]at k1 k2 k3;exact⟨_,g',_,hap,k1,k2,k3,k4⟩
    rcases q7 with⟨hc0,a,rfl⟩|⟨hc0,b0,rfl,rfl⟩
    .
     have hl0:bl.rows.length=0:=by omega
     by_cases hn:aC y h=[]
     .
      rw[hn]at hlen hfc hR ⊢;have:news=[]:=Ya (by simpa using hR.1)
      subst this;rw[Ya hl0];obtain⟨g',g1,g2,g3,g4,g5⟩:=hm.putNone (h':=upd (upd h r none) b (some ⟨bl.ty,[]++[]⟩)) b ⟨bl.ty,[]⟩ hb (bN _ _ _) (by rw[hn,Ya hl0]at hh';exact hh') hsz.1 rfl
      exact⟨.slice a 0 0,g',w,XL ht hi hu ty a 0 0 (XX _) hlen (hfc w rfl),Rt g1 ((g2 b).2 (.inr rfl)) a,g4,g5,λr hr=>(g2 r).1 hr⟩
     have hpos:0<(aC y h).length:=Zy.2 hn;exact grow a 0 (by rw[hl0]) (by omega)
    rcases q5 with⟨q5,_⟩|⟨b',cur,q5,k1,k2,k3,k4⟩
    . cases q5
    cases q5
    have k1:=k1.cells q6.2;have k2:=k2 q6.2;have q4:=q6.2;simp only[Nat.zero_mul,Nat.sub_zero]at *
    by_cases hroom:bl.rows.length+(aC y h).length<=c
    .
     have hnl:news.length=(aC y h).length*P.cellsOf bl.ty:=hR.1;have hfit:bl.rows.length*P.cellsOf bl.ty+news.length<=cur.size:=by
      rw[hnl,k2,<-Zk];exact YY _ hroom
     have hap:=XK (P:=P) ht hi hu ty b0 0 bl.rows.length c hlen hroom (hfc w rfl) hR.one k1 (by rw[hs];simpa using hfit)
     rw[hs]at hap;simp only[Nat.zero_add]at hap;have hO:=k4.rowsIn 0 bl.rows.length (by omega) (by rw[k2];exact YY _ q3)
     simp only[X6,Yn,Nat.zero_mul]at hO;have hA:=hO.append hR;generalize hnew:(List.take (bl.rows.length*P.cellsOf bl.ty) cur.toList++news++List.drop (bl.rows.length*P.cellsOf bl.ty+news.length) cur.toList)=new at hap;have hsize:new.length=cur.size:=by rw[<-hnew];simp;omega
     obtain⟨g',g1,g2,g3,g4,g5⟩:=hm.put (h':=upd (upd h r none) b (some ⟨bl.ty,bl.rows++aC y h⟩)) (w':=w.setRow b0 new.toArray) b b0 c ⟨bl.ty,bl.rows++aC y h⟩ new.toArray (.inl hb) (bN _ _ _) hh'
      (.inr ⟨r,c,_,q1,.inr (by rw[aK _ _ _ _ hrb];exact bN _ _ _)⟩) (setRow_heap w b0 cur _ bl.ty _ k1) (by simp[hsize,k2]) hsz.1 (by simpa using hroom) q4
      (hA.holds (by rw[<-hnew];simp only[Yu];rw[<-Yu];exact List.take_left))
      ⟨rfl,rfl,rfl,by simp,λk _ hk=>setRow_other w b0 k _ (λe=>hk (by rw[e]))⟩
     refine⟨_,g',_,hap,.mrow b 0 _ _ ⟨_,_,rfl,hroom,λ_=>⟨_,rfl⟩⟩ ((g2 b).2 (.inr rfl)) λblk c' sz he=>?_,g4,g5,λr hr=>(g2 r).1 hr⟩
     rw[g1]at he;simp only[Yf,YK]at he;obtain⟨rfl,rfl,rfl⟩:=he;exact⟨om,.inr ⟨hc0,b0,rfl,by simp⟩⟩
    exact grow _ c rfl om
end Go.DL
namespace Go.DL
open Go.RowKit
variable {P : Program}
def ag.agg_inv{w:World}{g:Mem}{ds:List D}{v:Value}(h:ag w g (.agg ds) v):∃vs,v = .agg vs/\aB w g ds vs.toList:=by
 cases h with|agg _ vs hn hv=>exact⟨vs,rfl,by simpa using hn,λi d x h1 h2=>hv i d x h1 (by simpa using h2)⟩
def ag.tuple_inv{w:World}{g:Mem}{ds:List D}{v:Value}(h:ag w g (.tuple ds) v):∃vs,v = .tuple vs/\aB w g ds vs.toList:=by
 cases h with|tuple _ vs hn hv=>exact⟨vs,rfl,by simpa using hn,λi d x h1 h2=>hv i d x h1 (by simpa using h2)⟩
def ag.mk_agg{w:World}{g:Mem}{ds:List D}{vs:Array Value}(h:aB w g ds vs.toList):ag w g (.agg ds) (.agg vs) :=
 .agg ds vs (by simpa using h.1) λi d x h1 h2=>h.2 i d x h1 (by simpa using h2)
def ag.mk_tuple{w:World}{g:Mem}{ds:List D}{vs:Array Value}(h:aB w g ds vs.toList):ag w g (.tuple ds) (.tuple vs) :=
 .tuple ds vs (by simpa using h.1) λi d x h1 h2=>h.2 i d x h1 (by simpa using h2)
theorem L6{w:World}{g:Mem}{a:D}{va:Value}(ha:ag w g a va)(hp:ym a=true)(n:Nat):∃p,va = .pointer (some p)/\ag w g (zu n a) (.pointer (some (p.add n))):=by
 cases ha with
 | eptr cs p cv hI hc hr =>
  refine⟨p,rfl,.eptr _ _ (λj=>cv (n+j)) (by rw[block_add];exact hI) (λj d hj=>?_) (λj d hj=>?_)⟩
  . rw[Y2]at hj;rw[add_add'];exact hc _ d hj
  rw[Y2]at hj;exact hr _ d hj
 | mptr r i off x hx hU hv =>
  obtain⟨p,rfl⟩:=hx;refine⟨p,rfl,.mptr r i (off+n) _ ⟨_,rfl⟩ hU λblk c sz he=>?_⟩
  obtain⟨h0,b,h1,h2⟩:=hv blk c sz he;refine⟨h0,b,h1,?_⟩;simp only[Value.pointer.injEq,Yf]at h2;rw[h2,pO,Nat.add_assoc]
 | v =>
  unfold ym at hp
  split at hp
  . rename_i e;cases e
  . rename_i e;cases e
  . rename_i p e;cases e;exact⟨_,rfl,.v _⟩
  cases hp
 | _=>simp[ym]at hp
def Zhc{a:D}(h:zP a=true):ym a=true:=by
 unfold zP at h
 split at h
 . rfl
 . rfl
 . rfl
 cases h
theorem Zie [Glob P]{w:World}{g:Mem}{s:TypeId}{f:Nat}{a:D}{va:Value}(ha:ag w g a va)(hc:(Ca P s f a).2):∃v,(Instr.fieldAt s va f).run P w = .ok v w/\ag w g (Ca P s f a).1 v:=by
 unfold Ca at hc ⊢
 cases hf:bH P s f with
 | none=>rw[hf]at hc;exact hc.elim
 | some ot =>
  obtain⟨off,t⟩:=ot;rw[hf]at hc;obtain⟨h1,h2⟩:=hc;obtain⟨p,rfl,h3⟩:=L6 ha h1 off;refine⟨_,?_,h3⟩;unfold bH at hf
  split at hf
  case h_2=>cases hf
  rename_i fs hfs
  cases pE:fs[f]? with
  | none=>rw[pE]at hf;cases hf
  | some fd =>
   rw[pE]at hf;simp only[YX,Yf,YK]at hf;obtain⟨rfl,rfl⟩:=hf;have h4:=rG (P:=P) (t:=fd.type) (by omega) w
   simp[Instr.fieldAt,run_underlying hfs,pE,Instr.sureAddr,fieldPlace,h4,h2]
theorem Zid [Glob P]{w:World}{g:Mem}{s:TypeId}{f:Nat}{a:D}{va:Value}(ha:ag w g a va)(hc:(Gf P s f a).2):∃v,(Instr.field s va f).run P w = .ok v w/\ag w g (Gf P s f a).1 v:=by
 unfold Gf at hc ⊢
 split at hc
 case h_2=>exact hc.elim
 rename_i off t cs hf
 obtain⟨h1,h2,h3⟩:=hc
 obtain⟨vs,rfl,hv⟩:=ha.agg_inv
 obtain⟨v,h4,h5⟩:=ZeO (P:=P) hv h1 h2 h3
 refine⟨v,?_,h5⟩
 unfold bH at hf
 split at hf
 case h_2=>cases hf
 rename_i fs hfs
 cases pE:fs[f]? with
 | none=>rw[pE]at hf;cases hf
 | some fd =>
  rw[pE]at hf;simp only[YX,Yf,YK]at hf;obtain⟨rfl,rfl⟩:=hf
  simp[Instr.field,run_underlying hfs,pE,asAgg,h4]
theorem Zhn [Glob P]{h:H}{g:Mem}{w:World}(hm:HM P h g w){t:TypeId}{x ix:D}{vx vi:Value}(hx:ag w g x vx)(hi:ag w g ix vi)(hc:(jr P t x ix h).2):∃v,(Instr.indexAt t vx vi).run P w = .ok v w/\ag w g (jr P t x ix h).1 v:=by
 unfold jr at hc ⊢
 cases he:bQ P t with
 | none =>
  rw[he]at hc;simp only at hc ⊢;unfold wZ at hc ⊢
  split at hc
  case h_2=>exact hc.elim
  rename_i n e k kk ha
  obtain⟨c1,c2,c3,c4⟩:=hc;obtain⟨p,rfl,h3⟩:=L6 hx (Zhc c1) (kk.toNat*P.cellsOf e);rw[hi.v_inv];refine⟨_,?_,h3⟩;unfold rf at ha
  split at ha
  case h_2=>cases ha
  rename_i n' e' hu
  cases ha
  simp[Instr.indexAt,asIntOf,run_underlying hu,Instr.sureAddr,c2,c3,rG c4]
 | some e =>
 rw[he]at hc
 simp only at hc ⊢
 have hu:=xu he
 split at hc
 case h_3=>exact hc.elim
 case h_1 full rows k n =>
  rw[hi.v_inv];obtain⟨c1,c2,c3,c4⟩:=hc;have hlt:n.toNat<rows.length:=by omega
  cases hx with
  | empty=>simp at hlt
  | list full rows ad cap size cv hI hl hf hmx hs hcc hr =>
   have hsz:size=P.cellsOf e:=by
    rw[<-c4,<-hs (rows.getD n.toNat []) (by simp[List.getD,Yg hlt])]
   subst hsz;refine⟨.pointer (some (ad.add (n.toNat*P.cellsOf e))),?_,?_⟩
   .
    have h2:n<(rows.length:Int):=c2
    simp[Instr.indexAt,asIntOf,run_underlying hu,c1,h2,rG c3]
   have hrow:rows[n.toNat]? = some (rows.getD n.toNat []):=by simp[List.getD,Yg hlt]
   refine .eptr _ _ (λj=>cv n.toNat j) (by rw[block_add];exact hI) (λj d hj=>?_) (λj d hj=>hr _ _ _ _ hrow hj)
   rw[add_add'];exact(hcc _ _ _ _ hrow hj).1
 case h_2 r off len k n =>
  rw[hi.v_inv];obtain⟨c1,c2,c3,c4⟩:=hc
  cases hr:h r with
  | none=>rw[hr]at c4;exact c4.elim
  | some bl =>
   rw[hr]at c4;simp only at c4;subst c4
   cases hx with|mrow _ _ _ _ fM hU hv =>
   obtain⟨a,c,rfl,h1,h2⟩:=fM;obtain⟨p,rfl⟩:=h2 om;refine⟨.pointer (some (p.add (n.toNat*P.cellsOf bl.ty))),?_,.mptr _ _ _ _ ⟨_,rfl⟩ hU λblk c' sz hM=>?_⟩
   . simp[Instr.indexAt,asIntOf,run_underlying hu,c1,c2,rG c3]
   obtain⟨blk',c'',q1,_⟩:=hm.blk r bl hr;rw[hM]at q1;simp only[Yf,YK]at q1;obtain⟨q0,q2⟩:=hv _ _ _ hM
   rcases q2 with⟨rfl,a,q2⟩|⟨_,b,q3,q4⟩
   . omega
   refine⟨q0.2,b,q3,?_⟩;simp only[Value.slice.injEq,Yf]at q4;rw[q4.1,pO,q1.2.2,<-Zk];rfl
def Zhm [Glob P]{g:Mem}{w:World}{t:TypeId}{x ix:D}{vx vi:Value}(hx:ag w g x vx)(hi:ag w g ix vi)(hc:(BF P t x ix).2):∃v,(Instr.index t vx vi).run P w = .ok v w/\ag w g (BF P t x ix).1 v:=by
 unfold BF at hc ⊢
 split at hc
 case h_2=>exact hc.elim
 rename_i s k n
 obtain⟨c1,c2,c3⟩:=hc
 rw[hx.v_inv,hi.v_inv]
 refine⟨_,?_,.v _⟩
 have hlt:n.toNat<s.size:=by omega
 have e:s[n.toNat]? = some (s.data.toList.getD n.toNat 0):=by
  rw[ByteArray.getElem?_lt' s n.toNat hlt];have hlt':n.toNat<s.data.size:=hlt;simp only[List.getD,Zc,ZN hlt',YR];rfl
 simp[Instr.index,asIntOf,run_underlying c3,c1,e]
def ZaZ{g:Mem}{w:World}{op:UnOp}{x:D}{vx:Value}(hx:ag w g x vx)(hc:(AC op x).2):∃v,(Op.unary op vx).run P w = .ok v w/\ag w g (AC op x).1 v:=by
 unfold AC at hc ⊢
 split at hc
 . rw[hx.v_inv];exact⟨_,by simp[Op.unary],.v _⟩
 . rw[hx.v_inv];exact⟨_,by simp[Op.unary,Op.intArith,El hc],.v _⟩
 exact hc.elim
theorem ZjO [Glob P]{g:Mem}{w:World}{src dst:TypeId}{x:D}{vx:Value}(hx:ag w g x vx)(hc:(Ci P src dst x).2):∃v,(convert src dst vx).run P w = .ok v w/\ag w g (Ci P src dst x).1 v:=by
 unfold Ci at hc ⊢
 split at hc
 .
  rename_i k k' n hd
  obtain⟨d,hs⟩:=YQ.1 hc;rw[hx.v_inv];exact⟨.int k (k.wrap n),by simp[convert,run_underlying hs,run_underlying hd,Conv.intToInt],.v _⟩
 .
  rename_i s hd
  rw[hx.v_inv]
  split at hc
  .
   rename_i hs
   exact⟨_,by simp[convert,run_underlying hs,run_underlying hd],.v _⟩
  exact hc.elim
 .
  rename_i full rows hd
  obtain⟨h1,h2⟩:=hc;unfold OG at h1
  split at h1
  case h_2=>cases h1
  rename_i e hs
  split at h1
  case h_2=>cases h1
  rename_i he
  have key : ∀(a:Option Addr)(n c:Nat),vx = .slice a n c->(convert src dst vx).run P w=(Conv.bytesToString (.slice a n c)).run P w:=by
   intro a n c e;subst e;exact run_convert_bytes_string w src dst _ a n c hs he hd
  cases hx with
  | empty full a cap hf hm =>
   refine⟨_,?_,.v _⟩;rw[key _ _ _ rfl]
   cases a with
   | none=>simp[Conv.bytesToString];rfl
   | some a =>
    rw[run_bytesToString w a 0 cap [] (by have:=run_loadCells (P:=P) w a 0 (λ_=>undef) (λj hj=>by omega);simpa using this)]
    rfl
  | list full rows ad cap size cv hi hl hf hm hs' hcc hr =>
   have hrow : ∀i(hi:i<rows.length),∃n,rows[i]=[.v (.int .u8 n)]:=by
    intro i hi;have h3:=YJ.1 h2 rows[i] (YI hi);unfold isByte at h3
    split at h3
    . exact⟨_,by assumption⟩
    cases h3
   have hex : ∀i,∃n,i<rows.length->rows[i]? = some [.v (.int .u8 n)]:=by
    intro i
    by_cases hi:i<rows.length
    . obtain⟨n,h⟩:=hrow i hi;exact⟨n,λ_=>by rw[Yg hi,h]⟩
    exact⟨0,λh=>absurd h hi⟩
   obtain⟨f,hf'⟩:∃f:Nat->Int,∀i,i<rows.length->rows[i]? = some [.v (.int .u8 (f i))]:=⟨λi=>Classical.choose (hex i),λi=>ZO (hex i)⟩
   refine⟨_,?_,.v _⟩;rw[key _ _ _ rfl];have hcell : ∀j,j<rows.length->w.cell? (ad.add j)=some (.int .u8 (f j)):=by
    intro j hj;have h4:=hf' j hj;have hsz:size=1:=by rw[<-hs' _ (Yj h4)];rfl
    obtain⟨h5,_⟩:=hcc j 0 _ _ h4 rfl;have h6:=(hr j 0 _ _ h4 rfl).v_inv;rw[hsz,Nat.mul_one,Zu,h6]at h5;exact h5
   have hload:=run_loadCells (P:=P) w ad rows.length (λj=>.int .u8 (f j)) hcell
   rw[run_bytesToString w ad rows.length cap ((List.range rows.length).map f) (by rw[hload,List.map_map];rfl)]
   congr 2
   have BO : ∀(l:List Int)(r:ByteArray),l.foldl (λr n=>r.push (UInt8.ofNat n.toNat)) r=⟨r.data++(l.map λn=>UInt8.ofNat n.toNat).toArray⟩:=by
    intro l
    induction l with
    | nil=>intro r;simp
    | cons n l ih =>
     intro r;rw[YH,ih]
     congr 1
     apply Zq
     simp[ByteArray.push]
   rw[BO]
   congr 1
   apply Zq
   have he2:ByteArray.empty.data = #[]:=rfl;rw[he2];simp only[Array.toList_append,X0]
   apply List.ext_getElem?
   intro i
   by_cases hi:i<rows.length
   . have h4:=hf' i hi;have h5:(List.range rows.length)[i]? = some i:=List.getElem?_range hi;simp only[YU,h4,h5,YX];rfl
   rw[Z0 (by simp only[Zm,List.length_range];omega),Z0 (by simp only[Zm];omega)]
 exact hc.elim
def ZfS{g:Mem}{w:World}{xs:List D}{vs:List Value}(hx:aB w g xs vs)(hc:(I7 xs).2)(a:Array TypeId)(t:TypeId):∃v,(Builtin.min_ a t vs.toArray).run P w = .ok v w/\ag w g (I7 xs).1 v:=by
 unfold I7 at hc ⊢
 split at hc
 .
  obtain⟨x,l,rfl,h1,h2⟩:=hx.of_cons;obtain⟨y,l,rfl,h3,h4⟩:=h2.of_cons;rw[h4.of_nil,h1.v_inv,h3.v_inv];subst hc
  rename_i k a b
  refine⟨.int k (min a b),?_,.v _⟩;have e:(if b<a then b else a)=min a b:=by omega
  simp[Builtin.min_,Builtin.min2,e]
 exact hc.elim
def ZfY{g:Mem}{w:World}{xs:List D}{vs:List Value}(hx:aB w g xs vs)(hc:(I8 xs).2)(a:Array TypeId)(t:TypeId):∃v,(Builtin.max_ a t vs.toArray).run P w = .ok v w/\ag w g (I8 xs).1 v:=by
 unfold I8 at hc ⊢
 split at hc
 .
  obtain⟨x,l,rfl,h1,h2⟩:=hx.of_cons;obtain⟨y,l,rfl,h3,h4⟩:=h2.of_cons;rw[h4.of_nil,h1.v_inv,h3.v_inv];subst hc
  rename_i k a b
  refine⟨.int k (max a b),?_,.v _⟩;have e:(if a<b then b else a)=max a b:=by omega
  simp[Builtin.max_,Builtin.max2,e]
 exact hc.elim
theorem Zgl [Glob P]{g:Mem}{w:World}{t ty:TypeId}{x:D}{vx:Value}(hx:ag w g x vx)(hc:Br P t x=true):(Builtin.len_ #[t] ty #[vx]).run P w = .ok (.int .i64 (bO x)) w:=by
 unfold Br at hc
 split at hc
 .
  obtain⟨e,he⟩:=YQ.1 hc
  cases hx with
  | empty=>simp[Builtin.len_,run_underlying (xu he),goInt,bO]
  | list=>simp[Builtin.len_,run_underlying (xu he),goInt,bO]
 .
  obtain⟨e,he⟩:=YQ.1 hc
  cases hx with|mrow _ _ _ _ fM hU hv =>
  obtain⟨a,c,rfl,_⟩:=fM
  simp[Builtin.len_,run_underlying (xu he),goInt,bO]
 .
  rename_i s
  have hu:P.underlying t=some .string:=by split at hc<;>simp_all
  rw[hx.v_inv]
  simp[Builtin.len_,run_underlying hu,goInt,bO]
 cases hc
def Ee(w:World)(g:Mem)(o:Option D)(vo:Option Value):Prop:=match o,vo with|some x,some v=>ag w g x v|none,none=>True|_,_=>False
def zB(vo:Option Value)(d y:Nat)(code:BoundsCode):Sem Nat:=match vo with|some v=>Instr.sliceBound v y code|none=>pure d
def ng [Glob P]{o:Option D}{vo:Option Value}{d:Nat}{y:Nat}{w:World}{g:Mem}(hr:Ee w g o vo)(hk:Cq o=true)(h0:0<=bnd o d)(hle:bnd o d<=y)(code:BoundsCode) :
  (zB vo d y code).run P w = .ok (bnd o d).toNat w:=by
 unfold Ee at hr
 split at hr
 .
  rename_i x v
  unfold Cq at hk
  split at hk
  . rename_i e;cases e
  .
   rename_i k n e
   cases e
   rw[hr.v_inv];simp only[bnd]at h0 hle ⊢
   simp[zB,Instr.sliceBound,asIntOf,h0,hle]
  cases hk
 . simp[zB,bnd]
 exact hr.elim
theorem D9 [Glob P]{b:Bool}{len cap l h:Nat}{vl vh:Option Value}{w:World}(c1:(zB vh len cap (if b then .sliceAcap else .sliceAlen)).run P w = .ok h w)(c2:(zB vl 0 h .sliceB).run P w = .ok l w) :
  (Instr.sliceBounds b len cap vl vh none).run P w = .ok (l,h,cap) w:=by
 cases vh<;>cases vl<;>simp_all [Instr.sliceBounds,zB]
def Xt [Glob P]{b:Bool}{len cap l h m:Nat}{vl:Option Value}{vh vm:Value}{w:World}(c0:(Instr.sliceBound vm cap (if b then .slice3Acap else .slice3Alen)).run P w = .ok m w)(c1:(Instr.sliceBound vh m .slice3B).run P w = .ok h w)(c2:(zB vl 0 h .slice3C).run P w = .ok l w) :
  (Instr.sliceBounds b len cap vl (some vh) (some vm)).run P w = .ok (l,h,m) w:=by
 cases vl<;>simp_all [Instr.sliceBounds,zB]
def AL [Glob P]{t e:TypeId}(hu:P.underlying t=some (.slice e))(he:0<P.cellsOf e){a:Option Addr}{len cap l h m:Nat}{vl vh vm:Option Value}{w:World}(hb:(Instr.sliceBounds true len cap vl vh vm).run P w = .ok (l,h,m) w) :
  (Instr.sliceAt t (.slice a len cap) vl vh vm).run P w = .ok (.slice (if m=l then a else a.map (·.add (l*P.cellsOf e))) (h-l) (m-l)) w:=by
 simp[Instr.sliceAt,Instr.slice,run_underlying hu,hb,rG he]
theorem TT{w:World}{g:Mem}{full:Bool}{rows:List (List D)}{ao:Option Addr}{len cap e:Nat}(hx:ag w g (.list full rows) (.slice ao len cap))(he:0<e)(hs : ∀r∈rows,r.length=e)(lo hi m:Nat)(h1:lo<=hi)(h2:hi<=rows.length)(h3:hi<=m)(h4:m<=cap)(f:Bool)(hf:f=true->m=hi) :
  ag w g (.list f ((rows.take hi).drop lo)) (.slice (if m=lo then ao else ao.map (·.add (lo*e))) (hi-lo) (m-lo)):=by
 by_cases hz:(rows.take hi).drop lo=[]
 .
  rw[hz];have hlen:hi-lo=0:=by
   have:=congrArg List.length hz;simp at this;omega
  have hm:cap<=maxLen:=by cases hx<;>assumption
  rw[hlen];exact .empty f _ _ (λh=>by have:=hf h;omega) om
 cases hx with
 | empty=>simp at hz
 | list full rows ad cap size cv hI hl pE hmx hss hcc hr =>
  have hlt:lo<hi:=by
   rcases YG lo hi with h|h
   . exact h
   exfalso;apply hz;apply Y3;simp;omega
  rw[XV (by omega)]
  have hse:size=e:=by
   have h0:0<rows.length:=by omega
   rw[<-hss rows[0] (by simp),hs rows[0] (by simp)]
  subst hse;have hlen:hi-lo=((rows.take hi).drop lo).length:=by simp;omega
  rw[hlen];have hg : ∀(i:Nat)r,((rows.take hi).drop lo)[i]? = some r->rows[lo+i]? = some r:=by
   intro i r hir;rw[Y2,Y6]at hir
   split at hir
   . exact hir
   cases hir
  refine .list f _ _ _ size (λi j=>cv (lo+i) j) (by rw[block_add];exact hI) (by omega) (λh=>by have:=hf h;omega) (by omega) (λr hr=>hs r (List.mem_of_mem_take (List.mem_of_mem_drop hr))) (λi j r d h5 h6=>?_) (λi j r d h5 h6=>hr _ _ _ _ (hg i r h5) h6)
  have:=hcc _ _ _ _ (hg i r h5) h6;rw[add_add'];have e2:lo*size+(i*size+j)=(lo+i)*size+j:=by rw[Zk];omega
  rw[e2];exact this
theorem Zcy [Glob P]{h:H}{g:Mem}{w:World}(hm:HM P h g w){t:TypeId}{x:D}{l hh m:Option D}{vx:Value}{vl vh vm:Option Value}(hx:ag w g x vx)(hl:Ee w g l vl)(hh':Ee w g hh vh)(hmm:Ee w g m vm)(hc:(pX P t x l hh m h).2) :
  ∃v,(Instr.sliceAt t vx vl vh vm).run P w = .ok v w/\ag w g (pX P t x l hh m h).1 v:=by
 unfold pX at hc ⊢
 split at hc
 case h_4=>exact hc.elim
 case h_1 s =>
  obtain⟨⟨b1,b2,b3,b4,b5,b6⟩,rfl,hu⟩:=hc;rw[hx.v_inv]
  cases vm with
  | some v=>exact hmm.elim
  | none =>
  simp only[bO]at b4 b5 b6 ⊢;have r2:=ng (P:=P) (d:=s.size) (y:=s.size) hh' b2 (by omega) (by omega) (if false then .sliceAcap else .sliceAlen)
  have r1:=ng (P:=P) (d:=0) (y:=(bnd hh s.size).toNat) hl b1 b4 (by omega) .sliceB
  exact⟨_,by simp[Instr.sliceAt,Instr.slice,run_underlying hu,D9 r2 r1],.v _⟩
 case h_2 full rows =>
  cases he:bQ P t with
  | none=>rw[he]at hc;exact hc.elim
  | some e =>
  rw[he]at hc;simp only at hc ⊢;have hu:=xu he;simp only[bO]at hc ⊢;have hv : ∃a cap,vx = .slice a rows.length cap/\rows.length<=cap/\cap<=maxLen/\(full=true->cap=rows.length):=by
   cases hx with
   | empty full a cap hf hmx=>exact⟨a,cap,rfl,Yi _,hmx,hf⟩
   | list full rows ad cap size cv hI hll hf hmx hs' hc' hr'=>exact⟨_,cap,rfl,hll,hmx,hf⟩
  obtain⟨a,cap,rfl,v1,v2,v3⟩:=hv
  cases m with
  | none =>
   simp only at hc ⊢;obtain⟨⟨b1,b2,b3,b4,b5,b6⟩,c2,c3⟩:=hc
   cases vm with
   | some v=>exact hmm.elim
   | none =>
   have r2:=ng (P:=P) (d:=rows.length) (y:=cap) hh' b2 (by omega) (by omega) (if true then .sliceAcap else .sliceAlen)
   have r1:=ng (P:=P) (d:=0) (y:=(bnd hh rows.length).toNat) hl b1 b4 (by omega) .sliceB
   refine⟨_,AL hu c2 (D9 r2 r1),?_⟩;refine TT hx c2 c3 _ _ cap om om om (XX _) _ λhf=>?_
   simp only[XU,YB]at hf;have:=v3 hf.1;omega
  | some dm =>
   simp only at hc ⊢;obtain⟨⟨b1,b2,b3,b4,b5,b6⟩,c0,c1,c2,c3⟩:=hc
   cases vm with
   | none=>exact hmm.elim
   | some vm =>
   obtain⟨dh,rfl⟩:=YQ.1 c0
   cases vh with
   | none=>exact hh'.elim
   | some vh =>
   have r3:=ng (P:=P) (d:=0) (y:=cap) hmm b3 (by omega) (by omega) (if true then .slice3Acap else .slice3Alen)
   have r2:=ng (P:=P) (d:=rows.length) (y:=(bnd (some dm) 0).toNat) hh' b2 (by omega) (by omega) .slice3B
   have r1:=ng (P:=P) (d:=0) (y:=(bnd (some dh) rows.length).toNat) hl b1 b4 (by omega) .slice3C
   refine⟨_,AL hu c2 (Xt r3 r2 r1),?_⟩;exact TT hx c2 c3 _ _ _ om om om om _ λhf=>by omega
 case h_3 r off len =>
  cases he:bQ P t with
  | none=>rw[he]at hc;exact hc.elim
  | some e =>
  rw[he]at hc;simp only at hc ⊢;have hu:=xu he;simp only[bO]at hc ⊢;obtain⟨⟨b1,b2,b3,b4,b5,b6⟩,rfl,c2,c3⟩:=hc
  cases hr:h r with
  | none=>rw[hr]at c3;exact c3.elim
  | some bl =>
  rw[hr]at c3;simp only at c3;subst c3
  cases vm with
  | some v=>exact hmm.elim
  | none =>
  cases hx with|mrow _ _ _ _ fM hU hv =>
  obtain⟨a,c,rfl,h1,h2⟩:=fM;have r2:=ng (P:=P) (d:=len) (y:=c) hh' b2 (by omega) (by omega) (if true then .sliceAcap else .sliceAlen)
  have r1:=ng (P:=P) (d:=0) (y:=(bnd hh len).toNat) hl b1 b4 (by omega) .sliceB
  refine⟨_,AL hu c2 (D9 r2 r1),?_⟩;have e1:(bnd hh len).toNat-(bnd l 0).toNat=(bnd hh len-bnd l 0).toNat:=by omega
  rw[e1];refine .mrow r _ _ _ ⟨_,_,rfl,om,λhlt=>?_⟩ hU λblk c' sz hM=>?_
  .
   obtain⟨p,rfl⟩:=h2 om
   split
   . exact⟨p,rfl⟩
   exact⟨_,rfl⟩
  obtain⟨q1,q2⟩:=hv _ _ _ hM;obtain⟨blk',c'',q5, -⟩:=hm.blk r bl hr;rw[hM]at q5;simp only[Yf,YK]at q5
  rcases q2 with⟨rfl,a',q2⟩|⟨q2,b,rfl,q3⟩
  .
   simp only[Value.slice.injEq]at q2;obtain⟨rfl,rfl,rfl⟩:=q2;have z1:(bnd l 0).toNat=0:=by omega
   have z2:(bnd hh 0-bnd l 0).toNat=0:=by omega
   exact⟨om,.inl ⟨om,_,by rw[z1,z2]⟩⟩
  simp only[Value.slice.injEq]at q3;obtain⟨rfl,_,rfl⟩:=q3;refine⟨om,?_⟩
  by_cases hcl:c'-off=(bnd l 0).toNat
  .
   refine .inl ⟨om,some ⟨b,off*sz,none⟩,?_⟩;rw[X3 hcl];have z2:(bnd hh len-bnd l 0).toNat=0:=by omega
   rw[z2,hcl,Yq]
  refine .inr ⟨om,b,rfl,?_⟩;rw[XV hcl,q5.2.2];simp only[YX,pO,<-Zk];rw[Nat.sub_sub]
theorem HM.still [Glob P]{h:H}{g:Mem}{w:World}(hm:HM P h g w)(o:Obj) :
  HM P h { g with I:=λb=>g.I b\/b=w.heap.size } (w.alloc o)/\ax g { g with I:=λb=>g.I b\/b=w.heap.size } w (w.alloc o):=by
 have mono:ax g { g with I:=λb=>g.I b\/b=w.heap.size } w (w.alloc o) :=
  ⟨rfl,rfl,rfl,by simp,XX _,λ_ h=>h,λ_ _=>.inl rfl,λr b c s h=>.inl ⟨r,c,s,h⟩,λ_ h=>.inl h,λb h=>by rcases h with h|rfl;exact .inl h;exact .inr (.inl (XX _)),λb hb _=>Below.heap_alloc w o b hb⟩
 refine⟨⟨hm.dead,λr bl hr=>?_,hm.inj,hm.used,λb hb=>?_,hm.gr.later (hm.kept mono)⟩,mono⟩
 .
  obtain⟨blk,c,h1,h2,h3,h4,h5⟩:=hm.blk r bl hr;refine⟨blk,c,h1,h2,h3,h4,?_⟩
  rcases h5 with h5|⟨b,cur,rfl,h6,h7,h8,h9⟩
  . exact .inl h5
  have hlt:=(pU hm h1).1;refine .inr ⟨b,cur,rfl,by rw[Below.heap_alloc w o b hlt];exact h6,h7,λhI=>?_,λi row hi=>?_⟩
  .
   rcases hI with hI|hI
   . exact h8 hI
   omega
  obtain⟨k1,k2⟩:=h9 i row hi;refine⟨k1,λj d hd=>?_⟩
  obtain⟨u,k3,k4,k5⟩:=k2 j d hd;exact⟨u,k3,k4,k5.later hm mono⟩
 rcases hb with hb|rfl
 . have:=hm.imm b hb;simp;omega
 simp
theorem Rj{n:Nat}:∀{ps:List (Nat×Operand)}{xs:List D}{i:Nat},AX n i ps xs->ps.map (·.1)=List.range' i ps.length/\xs.length=ps.length /\ ∀x∈xs,x.cells.length=n/\x.cells.all D.one=true:=by
 intro ps
 induction ps with
 | nil=>intro xs i h;cases xs<;>simp_all [AX]
 | cons p ps ih =>
  intro xs i h
  cases xs with
  | nil=>simp[AX]at h
  | cons x xs =>
   obtain⟨h1,h2,h3,h4⟩:=h;obtain⟨k1,k2,k3⟩:=ih h4;refine⟨by simp[h1,k1,Y9],by simp[k2],λy hy=>?_⟩
   rcases Ym.1 hy with rfl|hy
   . exact⟨h2,h3⟩
   exact k3 y hy
theorem Zj8 [Glob P]{h:H}{g:Mem}{w:World}(hm:HM P h g w){t:TypeId}{len:Nat}{ps:Array (Nat×Operand)}{xs:List D}{vs:List Value}(hr:aB w g xs vs)(hc:(Cn P t len ps.toList xs).2)(ρ:Operand->Value)(hρ:ps.toList.map (λp=>ρ p.2)=vs) :
  ∃v g' w',(Instr.buildSlice t len (ps.map λ(i,x)=>(i,ρ x))).run P w = .ok v w'/\ag w' g' (Cn P t len ps.toList xs).1 v/\HM P h g' w'/\ax g g' w w' /\ ∀r,g'.U r->g.U r:=by
 unfold Cn at hc ⊢
 cases he:bQ P t with
 | none=>rw[he]at hc;exact hc.elim
 | some e =>
 rw[he]at hc
 simp only at hc ⊢
 have hu:=xu he
 obtain⟨c1,c2,c3,c4,c5⟩:=hc
 obtain⟨ie,hie,hs⟩:=wY c3
 obtain⟨k1,k2,k3⟩:=Rj c2
 have hvl:vs.length=len:=by rw[<-hr.1,k2,c1]
 have hparts:(ps.map λ(i,x)=>(i,ρ x)).toList=(vs.zipIdx 0).map λx=>(x.2,x.1):=by
  apply List.ext_getElem?
  intro i;simp only[Array.toList_map,YU,List.getElem?_zipIdx,<-hρ]
  cases hp:ps.toList[i]? with
  | none=>simp
  | some p =>
   have:(ps.toList.map (·.1))[i]? = some p.1:=by simp only[YU,hp,YX]
   rw[k1]at this;have hil:i<ps.toList.length:=(X7.1 hp).1;rw[List.getElem?_range' (by omega)]at this
   simp at this
   simp[this]
 obtain⟨z,hz⟩:∃z,ie.zero=some z:=by
  unfold eQ at c5
  cases hz:ie.zero with
  | none=>simp[hie,hz]at c5
  | some z=>exact⟨z,rfl⟩
 obtain⟨hm',mono⟩:=hm.still (.cells #[] e)
 by_cases h0:len=0
 .
  subst h0;have hx0:xs=[]:=Ya om;subst hx0;have hp0:ps = #[]:=by
   have:ps.toList=[]:=Ya c1
   simpa using this
  subst hp0;refine⟨.slice (some ⟨w.heap.size,0,none⟩) 0 0,_,_,?_,.empty true _ 0 (λ_=>rfl) (by simp[maxLen]),hm',mono,λ_ h=>h⟩
  have e0:(Array.range 0).map (λ_=>(default:Value)) = #[]:=by apply Zq;simp
  simp[Instr.buildSlice,run_underlying hu,rG c3,Instr.fill,newRow,e0]
 obtain⟨r,f1,f2,f3⟩:=Go.Great.fill_dense (s:=ie.size) om vs 0 ((Array.range (len*ie.size)).map (z.cells[· % z.cells.size]!)) (λv hv=>by
  obtain⟨i,hi,rfl⟩:=Zj hv;have hxi:i<xs.length:=by omega
  obtain⟨q1,q2⟩:=k3 xs[i] (YI hxi);rw[((hr.2 i xs[i] vs[i] (by simp) (by simp)).cells q2).2.2,q1,hs]) (by simp[hvl])
 have hrun:=run_buildSlice (P:=P) w t e len (ps.map λ(i,x)=>(i,ρ x)) r ie z hu hie hz (by rw[hs];omega) (by rw[hs];exact Nat.mul_ne_zero h0 (by omega)) (by rw[hparts];exact f1)
 obtain⟨hm',mono⟩:=hm.still (.cells r e)
 have hlen:len=(xs.map D.cells).length:=by simp;omega
 refine⟨_,_,_,hrun,?_,hm',mono,λ_ h=>h⟩
 have key : ∀(i j:Nat)row d,(xs.map D.cells)[i]? = some row->row[j]? = some d -> ∃u,r[i*P.cellsOf e+j]? = some u/\u.oneCell'=true/\ag w g d u:=by
  intro i j row d hi hj;rw[YU]at hi
  cases hxi:xs[i]? with
  | none=>rw[hxi]at hi;cases hi
  | some x =>
   rw[hxi]at hi;simp only[YX,Yf]at hi;subst hi;have hil:i<xs.length:=(X7.1 hxi).1;have FN:i<vs.length:=by omega
   obtain⟨q1,q2⟩:=k3 x (Yj hxi);obtain⟨q3,q4,q5⟩:=(hr.2 i x vs[i] hxi (by simp)).cells q2
   have hjl:j<P.cellsOf e:=by have:=(X7.1 hj).1;omega
   have hjv:j<vs[i].cells.toList.length:=by simp;omega
   refine⟨vs[i].cells.toList[j],?_,q4 _ (YI hjv),q3.2 j d _ hj (by simp)⟩
   rw[f3,X3 ⟨om,by rw[Nat.zero_add,hs];exact zT FN hjl⟩,hs]
   have e1:(i*P.cellsOf e+j) / P.cellsOf e=i:=by rw[ZE,Nat.mul_add_div c3,Nat.div_eq_of_lt hjl];rfl
   have e2:(i*P.cellsOf e+j) % P.cellsOf e=j:=by rw[ZE,Z4,ZB hjl]
   rw[e1,e2,Nat.sub_zero,Yg FN]
   simp
 have hex : ∀i j,∃u,∀row d,(xs.map D.cells)[i]? = some row->row[j]? = some d->r[i*P.cellsOf e+j]? = some u/\u.oneCell'=true/\ag w g d u:=by
  intro i j
  by_cases hh : ∃row d,(xs.map D.cells)[i]? = some row/\row[j]? = some d
  .
   obtain⟨row,d,h1,h2⟩:=hh;obtain⟨u,h3,h4,h5⟩:=key i j row d h1 h2;refine⟨u,λrow' d' h1' h2'=>?_⟩
   rw[h1]at h1';cases h1'
   rw[h2]at h2';cases h2'
   exact⟨h3,h4,h5⟩
  exact⟨undef,λrow d h1 h2=>absurd ⟨row,d,h1,h2⟩ hh⟩
 generalize hf:(λi j=>Classical.choose (hex i j))=cf
 have hcf : ∀i j row d,(xs.map D.cells)[i]? = some row->row[j]? = some d->r[i*P.cellsOf e+j]? = some (cf i j)/\(cf i j).oneCell'=true/\ag w g d (cf i j):=by
  intro i j;rw[<-hf];exact ZO (hex i j)
 rw[hlen]
 refine .list true _ ⟨w.heap.size,0,none⟩ _ (P.cellsOf e) cf (.inr rfl) (XX _) (λ_=>rfl) ?_ (λrow hrow=>?_) (λi j row d h1 h2=>?_) (λi j row d h1 h2=>?_)
 . rw[<-hlen];simp only[maxLen];have:len<=len*P.cellsOf e:=Nat.le_mul_of_pos_right _ c3;omega
 . simp only[Yt]at hrow;obtain⟨x,hx,rfl⟩:=hrow;exact(k3 x hx).1
 . obtain⟨h3,h4,_⟩:=hcf i j row d h1 h2;refine⟨?_,h4⟩;rw[pO,Nat.zero_add,cell_of_row _ _ _ r e (0,0) (heap_alloc_new w _)];exact h3
 exact(hcf i j row d h1 h2).2.2.later hm mono
theorem Zj9 [Glob P]{h:H}{g:Mem}{w:World}(hm:HM P h g w){b:Nat}(hb : ¬g.U b){t:TypeId}{len:Nat}{ps:Array (Nat×Operand)}{xs:List D}{vs:List Value}(hr:aB w g xs vs)(hc:(uT P t len ps.toList xs h b).2.2)(ρ:Operand->Value)(hρ:ps.toList.map (λp=>ρ p.2)=vs) :
  ∃v g' w',(Instr.buildSlice t len (ps.map λ(i,x)=>(i,ρ x))).run P w = .ok v w'/\ag w' g' (uT P t len ps.toList xs h b).1 v/\HM P (uT P t len ps.toList xs h b).2.1 g' w'/\ax g g' w w' /\ ∀r,g'.U r->g.U r\/r=b:=by
 unfold uT at hc ⊢
 cases he:bQ P t with
 | none=>rw[he]at hc;exact hc.elim
 | some e =>
 rw[he]at hc
 simp only at hc ⊢
 have hu:=xu he
 obtain⟨c0,c1,c2,c3,c4,c5⟩:=hc
 have h0 : ¬len=0:=by omega
 obtain⟨ie,hie,hs⟩:=wY c3
 obtain⟨k1,k2,k3⟩:=Rj c2
 have hvl:vs.length=len:=by rw[<-hr.1,k2,c1]
 have hparts:(ps.map λ(i,x)=>(i,ρ x)).toList=(vs.zipIdx 0).map λx=>(x.2,x.1):=by
  apply List.ext_getElem?
  intro i;simp only[Array.toList_map,YU,List.getElem?_zipIdx,<-hρ]
  cases hp:ps.toList[i]? with
  | none=>simp
  | some p =>
   have:(ps.toList.map (·.1))[i]? = some p.1:=by simp only[YU,hp,YX]
   rw[k1]at this;have hil:i<ps.toList.length:=(X7.1 hp).1;rw[List.getElem?_range' (by omega)]at this
   simp at this
   simp[this]
 obtain⟨z,hz⟩:∃z,ie.zero=some z:=by
  unfold eQ at c5
  cases hz:ie.zero with
  | none=>simp[hie,hz]at c5
  | some z=>exact⟨z,rfl⟩
 obtain⟨r,f1,f2,f3⟩:=Go.Great.fill_dense (s:=ie.size) om vs 0 ((Array.range (len*ie.size)).map (z.cells[· % z.cells.size]!)) (λv hv=>by
  obtain⟨i,hi,rfl⟩:=Zj hv;have hxi:i<xs.length:=by omega
  obtain⟨q1,q2⟩:=k3 xs[i] (YI hxi);rw[((hr.2 i xs[i] vs[i] (by simp) (by simp)).cells q2).2.2,q1,hs]) (by simp[hvl])
 have hrun:=run_buildSlice (P:=P) w t e len (ps.map λ(i,x)=>(i,ρ x)) r ie z hu hie hz (by rw[hs];omega) (by rw[hs];exact Nat.mul_ne_zero h0 (by omega)) (by rw[hparts];exact f1)
 have key : ∀(i j:Nat)row d,(xs.map D.cells)[i]? = some row->row[j]? = some d -> ∃u,r[i*P.cellsOf e+j]? = some u/\u.oneCell'=true/\ag w g d u:=by
  intro i j row d hi hj;rw[YU]at hi
  cases hxi:xs[i]? with
  | none=>rw[hxi]at hi;cases hi
  | some x =>
   rw[hxi]at hi;simp only[YX,Yf]at hi;subst hi;have hil:i<xs.length:=(X7.1 hxi).1;have FN:i<vs.length:=by omega
   obtain⟨q1,q2⟩:=k3 x (Yj hxi);obtain⟨q3,q4,q5⟩:=(hr.2 i x vs[i] hxi (by simp)).cells q2
   have hjl:j<P.cellsOf e:=by have:=(X7.1 hj).1;omega
   have hjv:j<vs[i].cells.toList.length:=by simp;omega
   refine⟨vs[i].cells.toList[j],?_,q4 _ (YI hjv),q3.2 j d _ hj (by simp)⟩
   rw[f3,X3 ⟨om,by rw[Nat.zero_add,hs];exact zT FN hjl⟩,hs]
   have e1:(i*P.cellsOf e+j) / P.cellsOf e=i:=by rw[ZE,Nat.mul_add_div c3,Nat.div_eq_of_lt hjl];rfl
   have e2:(i*P.cellsOf e+j) % P.cellsOf e=j:=by rw[ZE,Z4,ZB hjl]
   rw[e1,e2,Nat.sub_zero,Yg FN]
   simp
 have hlen:len=(xs.map D.cells).length:=by simp;omega
 have hmx:len<=maxLen:=by
  simp only[maxLen];have:len<=len*P.cellsOf e:=Nat.le_mul_of_pos_right _ c3;omega
 obtain⟨g',h2,h3,h4,h5,h6⟩:=hm.put (h':=upd h b (some ⟨e,xs.map D.cells⟩)) (w':=w.alloc (.cells r e)) b w.heap.size len ⟨e,xs.map D.cells⟩ r (.inl hb) (bN _ _ _)
  (λr hr=>.inl (aK _ _ _ _ hr)) (.inl (XX _)) (heap_alloc_new w _) (by simp only[<-hs];simpa using f2) c3 (by simp only;omega) hmx (λi row hi=>by
   have hi':=hi;simp only[YU]at hi'
   cases hxi:xs[i]? with
   | none=>rw[hxi]at hi';cases hi'
   | some x =>
    rw[hxi]at hi';simp only[YX,Yf]at hi';subst hi';exact⟨(k3 x (Yj hxi)).1,λj d hj=>key i j _ d hi hj⟩) (World.grownBy_alloc w _ _)
 refine⟨_,g',_,hrun,?_,h5,h6,λr hr=>(h3 r).1 hr⟩
 refine .mrow b 0 len _ ⟨some ⟨w.heap.size,0,none⟩,len,rfl,XX _,λ_=>⟨_,rfl⟩⟩ ((h3 b).2 (.inr rfl)) λblk c sz he=>?_
 rw[h2]at he
 simp only[Yf,YK]at he
 obtain⟨rfl,rfl,rfl⟩:=he
 exact⟨om,.inr ⟨om,w.heap.size,rfl,by simp⟩⟩
def partAt(P:Program)[Glob P](s:TypeId)(f:Nat):Option (Nat×Nat):=match bH P s f with
 | some (off,t)=>some (off,P.cellsOf t)
 | none=>match rf P s with
  | some (_,e)=>some (f*P.cellsOf e,P.cellsOf e)
  | none=>none
theorem Zic [Glob P]{s:TypeId}{f:Nat}{o:Operand}{ps:List (Nat×Operand)}{x:D}{xs cs:List D}:yF P s ((f,o)::ps) (x::xs) cs=match partAt P s f with
  | some (off,_)=>yF P s ps xs (splice cs off x.cells)
  | none=>cs:=by
 conv=>lhs;unfold yF
 unfold partAt
 cases bH P s f with
 | some q=>rfl
 | none=>cases rf P s<;>rfl
theorem Zib [Glob P]{s:TypeId}{n f:Nat}{o:Operand}{ps:List (Nat×Operand)}{x:D}{xs:List D}(h:Ac P s n ((f,o)::ps) (x::xs)):(∃off m,partAt P s f=some (off,m)/\x.cells.length=m/\off+x.cells.length<=n)/\x.cells.all D.one=true/\Ac P s n ps xs:=by
 unfold Ac at h
 obtain⟨h1,h2,h3⟩:=h
 refine⟨?_,h2,h3⟩
 unfold partAt
 cases hf:bH P s f with
 | some q=>rw[hf]at h1;exact⟨_,_,rfl,h1.1,h1.2⟩
 | none =>
  rw[hf]at h1
  cases ha:rf P s with
  | some q=>rw[ha]at h1;exact⟨_,_,rfl,h1.1,h1.2⟩
  | none=>rw[ha]at h1;exact h1.elim
theorem VJ [Glob P]{s:TypeId}{pl:Nat->Option (Nat×Nat)}(hpl : ∀f q,partAt P s f=some q->pl f=some q){w:World}{g:Mem}:∀(ps:List (Nat×Operand))(xs:List D)(vs:List Value)(cs:List D)(cells:Array Value)(ρ:Operand->Value),aB w g xs vs->ps.map (λp=>ρ p.2)=vs->aB w g cs cells.toList ->
  Ac P s cs.length ps xs -> ∃r,Instr.fill pl cells (ps.map λ(i,x)=>(i,ρ x))=some r/\aB w g (yF P s ps xs cs) r.toList:=by
 intro ps
 induction ps with
 | nil=>intro xs vs cs cells ρ hx hρ hc hok;exact⟨cells,by simp[Instr.fill],by simpa[yF]using hc⟩
 | cons p ps ih =>
  intro xs vs cs cells ρ hx hρ hc hok;obtain⟨f,o⟩:=p;simp only[X8]at hρ;subst hρ
  cases xs with
  | nil=>simp[Ac]at hok
  | cons x xs =>
   obtain⟨⟨off,m,hf,h4,h5⟩,h2,h3⟩:=Zib hok;obtain⟨q1,q2,q3⟩:=hx.head.cells h2;have hfp:=hpl _ _ hf;have hcl:cs.length=cells.size:=by simpa using hc.1
   obtain⟨g1,g2⟩:=Go.Great.foldl_set off (ρ o).cells.toList 0 cells;generalize hnew:((ρ o).cells.toList.zipIdx 0).foldl (λcs(x:Value×Nat)=>cs.setIfInBounds (off+x.2) x.1) cells=new at g1 g2
   have hnl:new.toList=cells.toList.take off++(ρ o).cells.toList++cells.toList.drop (off+(ρ o).cells.toList.length):=by
    apply List.ext_getElem?
    intro k;rw[Zc,g2];simp only[Zu,Yu,Array.length_toList,q3];have l1:(cells.toList.take off).length=off:=by simp;omega
    have l2:(ρ o).cells.toList.length=x.cells.length:=by simp[q3]
    by_cases hk:k<off
    . rw[XV (by omega),Y5 (by omega),Y6,X3 hk];simp
    rw[YM (by omega),l1]
    by_cases hk2:k<off+x.cells.length
    . rw[X3 (by omega),Y5 (by omega)]
    rw[XV (by omega),YM (by omega),Y2,Zc,l2]
    congr 1;omega
   obtain⟨r,k1,k2⟩:=ih xs (ps.map λp=>ρ p.2) (splice cs off x.cells) new ρ hx.tail rfl (by rw[hnl];exact Zcn hc q1 off) (by rw[Lh _ _ _ h5];exact h3)
   refine⟨r,?_,by rw[Zic,hf];exact k2⟩
   simp only[X8];unfold Instr.fill;simp only[hfp];rw[XV (by simp;omega),<-k1]
   congr 1
   rw[<-hnew,<-Array.foldl_toList,Array.toList_zipIdx]
theorem Zj7 [Glob P]{w:World}{g:Mem}{t:TypeId}{ps:Array (Nat×Operand)}{xs:List D}{vs:List Value}(hr:aB w g xs vs)(hc:(D8 P t ps.toList xs).2)(ρ:Operand->Value)(hρ:ps.toList.map (λp=>ρ p.2)=vs) :
  ∃v,(Instr.build t (ps.map λ(i,x)=>(i,ρ x))).run P w = .ok v w/\ag w g (D8 P t ps.toList xs).1 v:=by
 obtain⟨c1,c2,c3,c4⟩:=hc
 unfold jd at c4
 obtain⟨i,z,hi,hz⟩:=G7 c3
 obtain⟨z1,_,_⟩:=Av hi hz w g c2
 split at c4
 case h_3=>cases c4
 case h_1 =>
  rename_i fs hfs
  obtain⟨r,f1,f2⟩:=VJ (pl:=λx=>(fs.toList.map λf=>(f.offset,P.cellsOf f.type)).toArray[x]?) (λf q hq=>by
   unfold partAt at hq;have ha:rf P t=none:=by unfold rf;rw[hfs]
   unfold bH at hq;rw[hfs,ha]at hq;simp only at hq
   cases pE:fs[f]? with
   | none=>rw[pE]at hq;cases hq
   | some fd=>rw[pE]at hq;simp only[YX,Yf]at hq;rw[<-hq];simp[pE]) ps.toList xs vs (zeroCells P t) z.cells ρ hr hρ z1 c1
  refine⟨.agg r,run_build (P:=P) w t _ r ?_,.mk_agg f2⟩;unfold Program.built;have hp:fs.toList.mapM (λf=>(P.info? f.type).map λi=>(f.offset,i.size))=some (fs.toList.map λf=>(f.offset,P.cellsOf f.type)):=by
   have : ∀l:List Field,(l.all λf=>(P.info? f.type).isSome)=true->l.mapM (λf=>(P.info? f.type).map λi=>(f.offset,i.size))=some (l.map λf=>(f.offset,P.cellsOf f.type)):=by
    intro l
    induction l with
    | nil=>intro _;rfl
    | cons a l ih =>
     intro h;simp only[List.all_cons,XU]at h;obtain⟨ia,hia⟩:=YQ.1 h.1
     simp[List.mapM_cons,hia,ih h.2,Program.cellsOf]
   exact this _ c4
  simp only[hi,hfs,hz,hp];rw[<-f1]
  simp
 case h_2 =>
  rename_i m e hfs
  obtain⟨ie,hie⟩:=YQ.1 c4;have hce:P.cellsOf e=ie.size:=by simp[Program.cellsOf,hie]
  obtain⟨r,f1,f2⟩:=VJ (pl:=λi=>some (i*ie.size,ie.size)) (λf q hq=>by
   unfold partAt at hq;have ha:rf P t=some (m,e):=by unfold rf;rw[hfs]
   unfold bH at hq;rw[hfs,ha]at hq;simp only[Yf]at hq;rw[<-hq,hce]) ps.toList xs vs (zeroCells P t) z.cells ρ hr hρ z1 c1
  refine⟨.agg r,run_build (P:=P) w t _ r ?_,.mk_agg f2⟩;unfold Program.built;simp only[hi,hfs,hz,hie];rw[<-f1]
  simp
open Go.MapKept
theorem Fp(e:MapEntry)(l:List MapEntry):(e::l).flatMap (λe=>[e.key,e.val])=e.key::e.val::l.flatMap λe=>[e.key,e.val]:=rfl
theorem Ur : ∀(l:List MapEntry)(j:Nat)(e:MapEntry),l[j]? = some e->(l.flatMap λe=>[e.key,e.val])[2*j]? = some e.key/\(l.flatMap λe=>[e.key,e.val])[2*j+1]? = some e.val
 | [],j,e,h=>by simp at h
 | e0::l,j,e,h=>by
  rw[Fp]
  cases j with
  | zero=>simp at h;subst h;exact⟨rfl,rfl⟩
  | succ j =>
   have:=Ur l j e (by simpa using h)
   have e1:2*(j+1)=2*j+1+1:=by omega
   rw[e1]
   simpa using this
theorem Uq(f:MapEntry->MapEntry):∀(l:List MapEntry)(j:Nat)(e:MapEntry),l[j]? = some e->((l.modify j f).flatMap λe=>[e.key,e.val])=((l.flatMap λe=>[e.key,e.val]).set (2*j) (f e).key).set (2*j+1) (f e).val
 | [],j,e,h=>by simp at h
 | e0::l,j,e,h=>by
  cases j with
  | zero=>simp at h;subst h;simp
  | succ j =>
   have:=Uq f l j e (by simpa using h)
   have e1:2*(j+1)=2*j+1+1:=by omega
   rw[e1,List.modify_succ_cons,Fp,Fp,this]
   simp
def MI{t kt e:TypeId}(h:rR P t=some (kt,e)):P.underlying t=some (.map kt e):=by
 unfold rR at h
 split at h
 . rename_i k e' hu;simp at h;rw[hu,h.1,h.2]
 cases h
def uu{t:TypeId}{d:D}(h:mJ P t d=true):(∃k n,P.underlying t=some (.int k)/\d = .v (.int k n))\/(∃b,P.underlying t=some .bool/\d = .v (.bool b)) \/ ∃s,P.underlying t=some .string/\d = .v (.string s):=by
 unfold mJ at h
 split at h
 . rename_i hu;exact .inr (.inr ⟨_,hu,rfl⟩)
 . rename_i hu;simp at h;subst h;exact .inl ⟨_,_,hu,rfl⟩
 . rename_i hu;exact .inr (.inl ⟨_,hu,rfl⟩)
 cases h
theorem Xo{a b:ByteArray}(h:a.data.toList=b.data.toList):a=b:=by
 cases a;cases b
 simp at h
 rw[h]
theorem VT{t:TypeId}{a b:D}(ha:mJ P t a=true)(hb:mJ P t b=true)(h:nU a b=true):a=b:=by
 rcases uu ha with⟨k,n,u1,rfl⟩|⟨x,u1,rfl⟩|⟨x,u1,rfl⟩<;>rcases uu hb with⟨k',n',u2,rfl⟩|⟨x',u2,rfl⟩|⟨x',u2,rfl⟩<;>rw[u1]at u2<;>simp at u2
 . subst u2;simp[nU]at h;rw[h]
 . simp[nU]at h;rw[h]
 simp only[nU,YB]at h;rw[Xo h]
def ZeD [Glob P]{t:TypeId}{k:Kd}{a b:D}(hk:kindOf P t=some k)(ha:mJ P t a=true)(hb:mJ P t b=true):A7 k a b=true:=by
 rcases uu ha with⟨k1,n,u1,rfl⟩|⟨x,u1,rfl⟩|⟨x,u1,rfl⟩<;>rcases uu hb with⟨k2,n',u2,rfl⟩|⟨x',u2,rfl⟩|⟨x',u2,rfl⟩<;>rw[u1]at u2<;>simp at u2<;>simp[kindOf,u1]at hk<;>subst hk
 . subst u2;simp[A7]
 . rfl
 rfl
theorem VR [Glob P]:∀(fs:List Field)(i:Nat)(ks:List Kd)(xs ys:List D),Ae P i fs=some ks->lX P i fs xs=true->lX P i fs ys=true->su ks xs ys=true/\(pI xs ys=true->xs=ys):=by
 intro fs
 induction fs with
 | nil =>
  intro i ks xs ys hk hx hy
  cases xs<;>cases ys<;>simp[lX]at hx hy
  simp[Ae]at hk
  subst hk;exact⟨rfl,λ_=>rfl⟩
 | cons f fs ih =>
  intro i ks xs ys hk hx hy
  cases xs with
  | nil=>simp[lX]at hx
  | cons x xs =>
  cases ys with
  | nil=>simp[lX]at hy
  | cons y ys =>
  simp only[lX,XU]at hx hy;simp only[Ae]at hk
  split at hk
  case isFalse=>cases hk
  split at hk
  case h_2=>cases hk
  rename_i k ks' h1 h2
  simp only[Yf]at hk;subst hk;obtain⟨i1,i2⟩:=ih (i+1) ks' xs ys h2 hx.2 hy.2;refine⟨by simp only[su,XU];exact⟨ZeD h1 hx.1.2 hy.1.2,i1⟩,λh=>?_⟩
  simp only[pI,XU]at h;rw[VT hx.1.2 hy.1.2 h.1,i2 h.2]
def yj{t:TypeId}{d:D}(h:l5 P t d=true):(∃fs cs,P.underlying t=some (.struct fs)/\d = .agg cs/\lX P 0 fs.toList cs=true)\/mJ P t d=true:=by
 unfold l5 at h
 split at h
 . rename_i hu;exact .inl ⟨_,_,hu,rfl,h⟩
 exact .inr h
theorem IG{t:TypeId}{d:D}{fs:Array Field}(hu:P.underlying t=some (.struct fs)):mJ P t d=false:=by
 unfold mJ;rw[hu]
def UA{t:TypeId}[Glob P]{a b:D}(hty:rU P t=true)(ha:l5 P t a=true)(hb:l5 P t b=true)(h:mW a b=true):a=b:=by
 rcases yj ha with⟨fs,xs,u1,rfl,p1⟩|p1
 .
  rcases yj hb with⟨fs',ys,u2,rfl,p2⟩|p2
  .
   rw[u1]at u2
   simp at u2
   subst u2;simp only[rU,u1]at hty;obtain⟨ks,hks⟩:=YQ.1 hty;unfold vW at hks;rw[u1]at hks;simp only at hks
   split at hks
   case isFalse=>cases hks
   rw[(VR fs.toList 0 ks xs ys hks p1 p2).2 h]
  rw[IG u1]at p2;cases p2
 rcases yj hb with⟨fs',ys,u2,rfl,p2⟩|p2
 . rw[IG u2]at p1;cases p1
 refine VT p1 p2 ?_
 rcases uu p1 with⟨k,n,_,rfl⟩|⟨x,_,rfl⟩|⟨x,_,rfl⟩<;>rcases uu p2 with⟨k',n',_,rfl⟩|⟨x',_,rfl⟩|⟨x',_,rfl⟩<;>exact h
def Iq{t:TypeId}{w:World}{g:Mem}{d:D}{v:Value}(h:mJ P t d=true)(hr:ag w g d v):d = .v v:=by
 rcases uu h with⟨k,n,_,rfl⟩|⟨x,_,rfl⟩|⟨x,_,rfl⟩<;>rw[hr.v_inv]
theorem Rq : ∀{fs:List Field}{i:Nat}{ds:List D}{w w':World}{g g':Mem}{vs us:List Value},lX P i fs ds=true->aB w g ds vs->aB w' g' ds us->vs=us
 | fs,i,[],w,w',g,g',vs,us,_,h1,h2=>by rw[h1.of_nil,h2.of_nil]
 | [],i,d::ds,_,_,_,_,_,_,h,_,_=>by simp[lX]at h
 | f::fs,i,d::ds,w,w',g,g',vs,us,h,h1,h2=>by
  obtain⟨x,xs,rfl,a1,a2⟩:=h1.of_cons;obtain⟨y,ys,rfl,b1,b2⟩:=h2.of_cons;simp only[lX,XU]at h;have e1:=Iq h.1.2 a1;have e2:=Iq h.1.2 b1;rw[e1]at e2
  cases e2
  rw[Rq h.2 a2 b2]
def Uz{t:TypeId}{w w':World}{g g':Mem}{d:D}{v u:Value}(h:l5 P t d=true)(hv:ag w g d v)(hu:ag w' g' d u):v=u:=by
 rcases yj h with⟨fs,xs,_,rfl,p⟩|p
 .
  cases hv with|agg _ vs n1 r1 =>
  cases hu with|agg _ us n2 r2 =>
  have:=Rq p (vs:=vs.toList) (us:=us.toList) ⟨by simpa using n1,λi d x h1 h2=>r1 i d x h1 (by simpa using h2)⟩ ⟨by simpa using n2,λi d x h1 h2=>r2 i d x h1 (by simpa using h2)⟩
  rw[Array.toList_inj.1 this]
 have e1:=Iq p hv
 have e2:=Iq p hu
 rw[e1]at e2
 cases e2
 rfl
def Si{t:TypeId}{w:World}{g:Mem}{d:D}{v:Value}(h:mJ P t d=true)(hr:ag w g d v)(n:Nat):Instr.sameBits n v v=true:=by
 rcases uu h with⟨k,m,_,rfl⟩|⟨x,_,rfl⟩|⟨x,_,rfl⟩<;>rw[hr.v_inv]<;>simp[Instr.sameBits,bytes_beq]
theorem ZgH{t:TypeId}{w:World}{g:Mem}{d:D}{v:Value}(h:l5 P t d=true)(hr:ag w g d v)(n:Nat):Instr.sameBits (n+1) v v=true:=by
 rcases yj h with⟨fs,xs,_,rfl,p⟩|p
 .
  cases hr with|agg _ vs n1 r1 =>
  have key : ∀(fs:List Field)(i:Nat)(ds:List D)(vs:List Value),lX P i fs ds=true->aB w g ds vs -> ∀q∈vs.zip vs,Instr.sameBits n q.1 q.2=true:=by
   intro fs
   induction fs with
   | nil=>intro i ds vs h hr q hq;cases ds with
    | nil=>rw[hr.of_nil]at hq;simp at hq
    | cons=>simp[lX]at h
   | cons f fs ih =>
    intro i ds vs h hr q hq
    cases ds with
    | nil=>simp[lX]at h
    | cons d ds =>
    obtain⟨x,xs,rfl,a1,a2⟩:=hr.of_cons;simp only[lX,XU]at h
    rcases Ym.1 hq with rfl|hq
    . exact Si h.1.2 a1 n
    exact ih (i+1) ds xs h.2 a2 q hq
  have:=key fs.toList 0 xs vs.toList p ⟨by simpa using n1,λi d x h1 h2=>r1 i d x h1 (by simpa using h2)⟩
  simp only[Instr.sameBits,beq_self_eq_true,ZG,YJ];exact λq hq=>this q hq
 exact Si p hr _
def Xj{t:TypeId}{w:World}{g:Mem}{d:D}{v:Value}(h:mJ P t d=true)(hr:ag w g d v)(em:Bool)(n:Nat):(Instr.checkKey em (n+1) t v).run P w = .ok () w:=by
 rcases uu h with⟨k,m,u,rfl⟩|⟨x,u,rfl⟩|⟨x,u,rfl⟩<;>rw[hr.v_inv]<;>simp[Instr.checkKey,run_underlying u]
def ZeP{t:TypeId}{w:World}{d:D}(h:mJ P t d=true){vs:Array Value}{v:Value}{i:Nat}(hv:vs[i]? = some v):(part t vs i).run P w = .ok v w:=by
 have hu : ∃q,P.underlying t=some q/\(q = .bool\/q = .string \/ ∃k,q = .int k):=by
  rcases uu h with⟨k,m,u,rfl⟩|⟨x,u,rfl⟩|⟨x,u,rfl⟩
  . exact⟨_,u,.inr (.inr ⟨_,rfl⟩)⟩
  . exact⟨_,u,.inl rfl⟩
  exact⟨_,u,.inr (.inl rfl)⟩
 obtain⟨q,u,hq⟩:=hu
 have hagg:(isAgg t).run P w = .ok false w:=by
  unfold isAgg;rw[Sem.run_bind,run_underlying u w]
  rcases hq with rfl|rfl|⟨k,rfl⟩<;>simp
 have hlt:=(Yk.1 hv).1
 have e:=(Yk.1 hv).2
 unfold part
 simp[hagg,hlt,e]
theorem Xk{t:TypeId}{w:World}{g:Mem}{d:D}{v:Value}(h:l5 P t d=true)(hr:ag w g d v)(em:Bool)(n:Nat):(Instr.checkKey em (n+2) t v).run P w = .ok () w:=by
 rcases yj h with⟨fs,xs,u,rfl,p⟩|p
 .
  cases hr with|agg _ vs n1 r1 =>
  rw[Instr.checkKey];simp only[Sem.run_bind,run_underlying u,Result.andThen_ok];rw[<-Array.forIn_toList];have key : ∀(L:List Field)(i:Nat)(ds:List D),lX P i L ds=true->(∀(j:Nat)d,ds[j]? = some d -> ∃v,vs[i+j]? = some v/\ag w g d v) ->
    (forIn L PUnit.unit λf _=>do
     if f.name ≠ "_" then
      let q <-part f.type vs f.offset
      Instr.checkKey em (n+1) f.type q
      pure (ForInStep.yield PUnit.unit)
     else pure (ForInStep.yield PUnit.unit):Sem PUnit).run P w = .ok PUnit.unit w:=by
   intro L
   induction L with
   | nil=>intro i ds _ _;simp
   | cons f L ih =>
    intro i ds h hd
    cases ds with
    | nil=>simp[lX]at h
    | cons d ds =>
    simp only[lX,XU,ZC,YB]at h;obtain⟨⟨⟨h1,h2⟩,h3⟩,h4⟩:=h;obtain⟨v,hv,hr⟩:=hd 0 d rfl;have p1:=ZeP (w:=w) h3 (by simpa using hv)
    have p2:=Xj h3 hr em n;rw[<-h2]at p1;simp only[List.forIn_cons,Sem.run_bind,h1,ne_eq,not_false_eq_true,Zn,Result.andThen_ok,p1,p2,Sem.run_pure];exact ih (i+1) ds h4 λj d hj=>by
     obtain⟨v,hv⟩:=hd (j+1) d (by simpa using hj)
     exact⟨v,by rw[Nat.add_assoc,Nat.add_comm 1 j];exact hv.1,hv.2⟩
  have:=key fs.toList 0 xs p λj d hj=>by
   have hlt:j<xs.length:=(X7.1 hj).1;have hlt':j<vs.size:=by omega
   exact⟨vs[j],by simp[hlt'],r1 j d _ hj (by simp[hlt'])⟩
  simp at this ⊢
  rw[this];rfl
 exact Xj p hr em _
def Zim [Glob P]{t:TypeId}{w:World}{g:Mem}{a b:D}{va vb:Value}(hty:rU P t=true)(ha:l5 P t a=true)(hb:l5 P t b=true)(ra:ag w g a va)(rb:ag w g b vb)(hst : ∃fs,P.underlying t=some (.struct fs)):(Op.equal t va vb).run P w = .ok (mW a b) w:=by
 obtain⟨fs,u⟩:=hst
 rcases yj ha with⟨fs1,xs,u1,rfl,p1⟩|p1
 .
  rcases yj hb with⟨fs2,ys,u2,rfl,p2⟩|p2
  .
   rw[u1]at u2
   simp at u2
   subst u2;simp only[rU,u1]at hty;obtain⟨ks,hks⟩:=YQ.1 hty;have hks0:=hks;unfold vW at hks;rw[u1]at hks;simp only at hks
   split at hks
   case isFalse=>cases hks
   rename_i hc
   simp only[XU,Yb]at hc;have hp:=(VR fs1.toList 0 ks xs ys hks p1 p2).1
   cases ra with|agg _ vs hn hv =>
   cases rb with|agg _ us hm hu =>
   have hF:P.fieldsOf t=fs1:=by simp[Program.fieldsOf,u1]
   have h1:=run_equalIn_agg (P:=P) w 9999 t vs us (by rw[hF];exact u1) hc.1
   have h2:=VS (P:=P) fs1.toList 0 ks vs.toList us.toList xs ys w g 9998 hks (by simpa using hp) ⟨by simpa using hn,λi d x h1 h2=>hv i d x h1 (by simpa using h2)⟩ ⟨by simpa using hm,λi d x h1 h2=>hu i d x h1 (by simpa using h2)⟩
   rw[hF]at h1;simp only[Array.toArray_toList,X6]at h2;exact h1.trans h2
  rw[IG u]at p2;cases p2
 rw[IG u]at p1;cases p1
def Zdr{t:TypeId}{w:World}{g:Mem}{a b:D}{va vb:Value}{q:TypeDesc}(hu:P.underlying t=some q)(ha:mJ P t a=true)(hb:mJ P t b=true)(ra:ag w g a va)(rb:ag w g b vb):Instr.sameNow q va vb=some (mW a b):=by
 rcases uu ha with⟨k,n,u1,rfl⟩|⟨x,u1,rfl⟩|⟨x,u1,rfl⟩<;>rcases uu hb with⟨k',n',u2,rfl⟩|⟨x',u2,rfl⟩|⟨x',u2,rfl⟩<;>rw[u1]at u2 hu<;>simp at u2 hu<;>rw[ra.v_inv,rb.v_inv]<;>subst hu
 . subst u2;simp[Instr.sameNow,mW,nU]
 . simp[Instr.sameNow,mW,nU]
 simp only[Instr.sameNow,mW,nU,Yf]
 rw[YL,bytes_beq,YB]
 exact⟨λh=>by rw[h],Xo⟩
def Found(kv:List D)(l:List MapEntry)(q:D)(i0:Nat)(vq:Value)(r:Option (Nat×Value)):Prop :=
 (r=none/\kK kv q=none /\ ∀x,jq kv q x=kv++[q,x]) \/
 ∃j e d,r=some (i0+j,e.val)/\l[j]? = some e/\kK kv q=some d/\kv[2*j+1]? = some d/\e.key=vq /\ ∀x,jq kv q x=(kv.set (2*j) q).set (2*j+1) x
def Vx{k d q:D}{kv:List D}{e:MapEntry}{l:List MapEntry}{i0:Nat}{vq:Value}{r:Option (Nat×Value)}(hne:mW q k=false)(h:Found kv l q (i0+1) vq r):Found (k::d::kv) (e::l) q i0 vq r:=by
 rcases h with⟨h1,h2,h3⟩|⟨j,e',d',h1,h2,h3,h4,h5,h6⟩
 . exact .inl ⟨h1,by simp[kK,hne,h2],λx=>by simp[jq,hne,h3]⟩
 refine .inr ⟨j+1,e',d',by rw[h1];congr 2;omega,by simpa using h2,by simp[kK,hne,h3],?_,h5,λx=>?_⟩
 .
  have:2*(j+1)+1=(2*j+1)+2:=by omega
  rw[this];simpa using h4
 have e1:2*(j+1)=2*j+1+1:=by omega
 simp only[jq,hne,h6,e1,YW]
 simp
def Vw{k d q:D}{kv:List D}{e:MapEntry}{l:List MapEntry}{i0:Nat}{vq:Value}(he:mW q k=true)(hk:e.key=vq):Found (k::d::kv) (e::l) q i0 vq (some (i0,e.val)) :=
 .inr ⟨0,e,d,rfl,rfl,by simp[kK,he],rfl,hk,λx=>by simp[jq,he]⟩
theorem VG [Glob P]{t:TypeId}{w:World}{g:Mem}{q:D}{vq:Value}{q0:TypeDesc}(hu:P.underlying t=some q0)(hty:rU P t=true)(hq:l5 P t q=true)(rq:ag w g q vq){kv:List D}{es:Array MapEntry}(hr:aB w g kv (qx es))(hks:kL P t kv=true) :
  ∃r,(Instr.findKey t vq es.toList).run P w = .ok r w/\Found kv es.toList q 0 vq r:=by
 unfold qx at hr
 by_cases hst : ∃fs,P.underlying t=some (.struct fs)
 .
  rw[run_findKey_eq w (by obtain⟨fs,h⟩:=hst;rw[h])]
  have key : ∀(l:List MapEntry)(kv:List D)(i0:Nat),aB w g kv (l.flatMap λe=>[e.key,e.val])->kL P t kv=true -> ∃r,(Instr.findAsking t vq l i0).run P w = .ok r w/\Found kv l q i0 vq r:=by
   intro l
   induction l with
   | nil =>
    intro kv i0 hr hks;have:kv=[]:=Ya (by simpa using hr.1)
    subst this;exact⟨none,by simp[Instr.findAsking],.inl ⟨rfl,rfl,λx=>rfl⟩⟩
   | cons e l ih =>
    intro kv i0 hr hks;rw[Fp]at hr
    match kv,hr,hks with
    | [],hr,_=>exact absurd hr.1 (by simp)
    | [_],hr,_=>exact absurd hr.1 (by simp)
    | k::d::kv,hr,hks =>
     simp only[kL,XU]at hks;have he:=Zim hty hq hks.1 rq hr.head hst
     cases hc:mW q k with
     | true =>
      rw[hc]at he;have hqk:=UA hty hq hks.1 hc;subst hqk;exact⟨some (i0,e.val),by simp[Instr.findAsking,he],Vw hc (Uz hq hr.head rq)⟩
     | false =>
      rw[hc]at he;obtain⟨r,h1,h2⟩:=ih kv (i0+1) hr.tail.tail hks.2;exact⟨r,by simp[Instr.findAsking,he,h1],Vx hc h2⟩
  exact key es.toList kv 0 hr hks
 have hp : ∀{d:D},l5 P t d=true->mJ P t d=true:=by
  intro d hd
  rcases yj hd with⟨fs,_,u,_⟩|h
  . exact absurd ⟨fs,u⟩ hst
  exact h
 have key : ∀(l:List MapEntry)(kv:List D)(i0:Nat),aB w g kv (l.flatMap λe=>[e.key,e.val])->kL P t kv=true -> ∃r,Instr.findNow q0 vq l i0=some r/\Found kv l q i0 vq r:=by
  intro l
  induction l with
  | nil =>
   intro kv i0 hr hks;have:kv=[]:=Ya (by simpa using hr.1)
   subst this;exact⟨none,by simp[Instr.findNow],.inl ⟨rfl,rfl,λx=>rfl⟩⟩
  | cons e l ih =>
   intro kv i0 hr hks;rw[Fp]at hr
   match kv,hr,hks with
   | [],hr,_=>exact absurd hr.1 (by simp)
   | [_],hr,_=>exact absurd hr.1 (by simp)
   | k::d::kv,hr,hks =>
    simp only[kL,XU]at hks;have he:=Zdr hu (hp hq) (hp hks.1) rq hr.head
    cases hc:mW q k with
    | true =>
     rw[hc]at he;have hqk:=UA hty hq hks.1 hc;subst hqk;exact⟨some (i0,e.val),by simp[Instr.findNow,he],Vw hc (Uz hq hr.head rq)⟩
    | false =>
     rw[hc]at he;obtain⟨r,h1,h2⟩:=ih kv (i0+1) hr.tail.tail hks.2;exact⟨r,by simp[Instr.findNow,he,h1],Vx hc h2⟩
 obtain⟨r,h1,h2⟩:=key es.toList kv 0 hr hks
 exact⟨r,run_findKey hu h1,h2⟩
theorem ZgF{bl:eZ}{kv:List D}(h:qy bl=some kv):bl.rows=iY kv:=by
 unfold qy at h
 split at h
 . rename_i e;cases h;exact e
 cases h
def MH [Glob P]{h:H}{g:Mem}{w:World}(hm:HM P h g w){r:Nat}{v:Value}(hv:ag w g (.mp r) v){bl:eZ}(hr:h r=some bl){kv:List D}(hk:qy bl=some kv) :
  ∃b es gP,v = .map (some b)/\w.heap[b]? = some (.map es gP)/\aB w g kv (qx es)/\g.M r=some (some b,maxLen+1,P.cellsOf bl.ty) /\ ¬g.I b/\P.cellsOf bl.ty=1:=by
 obtain⟨blk,c,h1,h2,h3,h4,h5⟩:=hm.blk r bl hr
 cases hv with|mp _ _ hx hU hv =>
 obtain⟨hc,b,rfl,rfl⟩:=hv _ _ _ h1
 rcases h5 with⟨h5,_⟩|⟨b',cur,h5,k1,k2,k3,k4⟩
 . cases h5
 cases h5
 obtain⟨es,gP,e1,rfl⟩:=k1.map hc
 rw[Holds,ZgF hk]at k4
 obtain⟨q0,q⟩:=k4 0 _ rfl
 refine⟨b,es,gP,rfl,e1,?_,hc▸h1,k3,q0.symm⟩
 obtain⟨u,u1,_,u3⟩:=q 0 _ rfl
 simp at u1
 subst u1
 cases u3 with|iface _ _ _ u3 =>
 obtain⟨vs,e2,e3⟩:=u3.tuple_inv
 simp at e2
 rw[<-e2]at e3
 simpa using e3
def Zf0{g:Mem}{w:World}{kv:List D}{v:Value}(hv:ag w g (.fmap kv) v):∃b es gP,v = .map (some b)/\w.heap[b]? = some (.map es gP)/\aB w g kv (qx es):=by
 cases hv with|fmap _ b es gP hI hb hn hr=>exact⟨b,es,gP,rfl,hb,hn,hr⟩
theorem Zf6 [Glob P]{h:H}{g:Mem}{w:World}(hm:HM P h g w){t:TypeId}{ok:Bool}{m k:D}{vm vk:Value}(rm:ag w g m vm)(rk:ag w g k vk)(hc:(rT P t ok m k h).2) :
  ∃v,(Instr.lookup t vm vk ok).run P w = .ok v w/\ag w g (rT P t ok m k h).1 v:=by
 unfold rT at hc ⊢
 split at hc
 case h_2=>exact hc.elim
 rename_i kt e kv ht hk
 obtain⟨c1,c2,c3,c4⟩:=hc
 have hu:=MI ht
 have lies : ∃b es gP,vm = .map (some b)/\w.heap[b]? = some (.map es gP)/\aB w g kv (qx es):=by
  unfold yh at hk
  split at hk
  .
   rename_i r
   cases hr:h r with
   | none=>rw[hr]at hk;cases hk
   | some bl =>
    rw[hr]at hk;obtain⟨b,es,gP,q1,q2,q3,_⟩:=MH hm rm hr hk;exact⟨b,es,gP,q1,q2,q3⟩
  .
   cases hk
   exact Zf0 rm
  cases hk
 obtain⟨b,es,gP,rfl,hb,hr⟩:=lies
 have hkt : ∃q0,P.underlying kt=some q0:=by
  unfold rU at c3
  cases hq:P.underlying kt with
  | none=>rw[hq]at c3;cases c3
  | some q=>exact⟨q,rfl⟩
 obtain⟨q0,hkt⟩:=hkt
 obtain⟨r,h1,h2⟩:=VG hkt c3 c1 rk hr c2
 have hck:=Xk c1 rk es.isEmpty 9998 (w:=w)
 obtain⟨z,hz⟩:=YQ.1 c4
 rcases h2 with⟨rfl,g1,_⟩|⟨j,e',d,rfl,g0,g1,g2,_,_⟩
 .
  have eU:(zeroValue e).run P w = .ok z w:=by
   cases hi:P.info? e with
   | none=>rw[hi]at hz;cases hz
   | some i =>
    rw[hi]at hz
    simp at hz
    simp[zeroValue,typeInfo,hi,hz]
  have hzd:yX P e=qm z:=by unfold yX;rw[hz]
  refine⟨if ok then .tuple #[z,.bool false]else z,?_,?_⟩
  . cases ok<;>simp[Instr.lookup,run_underlying hu,MapKept.run_getObj_map hb,hck,h1,eU]
  rw[g1,hzd]
  cases ok with
  | false=>exact IW w g z
  | true=>exact .mk_tuple (.cons (IW w g z) (.cons (.v _) .nil))
 have hev:ag w g d e'.val:=by
  refine hr.2 (2*j+1) d e'.val g2 ?_;unfold qx;exact Ur es.toList j e' g0 |>.2
 refine⟨if ok then .tuple #[e'.val,.bool true]else e'.val,?_,?_⟩
 . cases ok<;>simp[Instr.lookup,run_underlying hu,MapKept.run_getObj_map hb,hck,h1]
 rw[g1]
 cases ok with
 | false=>exact hev
 | true=>exact .mk_tuple (.cons hev (.cons (.v _) .nil))
theorem PG [Glob P]{h:H}{g:Mem}{w:World}(hm:HM P h g w){t:TypeId}{m k x:D}{vm vk vx:Value}(rm:ag w g m vm)(rk:ag w g k vk)(rx:ag w g x vx)(hc:(ul P t m k x h).2) :
  ∃g' w',(Instr.mapUpdate t vm vk vx).run P w = .ok () w'/\HM P (ul P t m k x h).1 g' w'/\ax g g' w w' /\ ∀r,g'.U r->g.U r:=by
 unfold ul at hc ⊢
 split at hc
 case h_2=>exact hc.elim
 rename_i kt e r ht
 cases hr:h r with
 | none=>rw[hr]at hc;exact hc.elim
 | some bl =>
 rw[hr]at hc
 simp only at hc ⊢
 cases hk:qy bl with
 | none=>rw[hk]at hc;exact hc.elim
 | some kv =>
 rw[hk]at hc
 simp only at hc ⊢
 obtain⟨c1,c2,c3⟩:=hc
 have hu:=MI ht
 have hU:g.U r:=by cases rm with|mp _ _ _ hU _=>exact hU
 obtain⟨b,es,gP,rfl,hb,hrep,hM,hnI,hsz⟩:=MH hm rm hr hk
 have hkt : ∃q0,P.underlying kt=some q0:=by
  unfold rU at c3
  cases hq:P.underlying kt with
  | none=>rw[hq]at c3;cases c3
  | some q=>exact⟨q,rfl⟩
 obtain⟨q0,hkt⟩:=hkt
 obtain⟨f,h1,h2⟩:=VG hkt c3 c1 rk hrep c2
 have hck:=Xk c1 rk false 9998 (w:=w)
 have fin : ∀(es':Array MapEntry)(clk':Nat),aB w g (jq kv k x) (qx es') -> ∃g',HM P (upd h r (some ⟨bl.ty,iY (jq kv k x)⟩)) g' { w with heap:=w.heap.setIfInBounds b (.map es' clk') }/\ax g g' w { w with heap:=w.heap.setIfInBounds b (.map es' clk') } /\ ∀r,g'.U r->g.U r:=by
  intro es' clk' hreps;have hh:=heap_set (o':=.map es' clk') hb;obtain⟨g',q1,q2,q3,q4,q5⟩:=hm.putB (h':=upd h r (some ⟨bl.ty,iY (jq kv k x)⟩)) (w':={ w with heap:=w.heap.setIfInBounds b (.map es' clk') }) r b (maxLen+1) ⟨bl.ty,iY (jq kv k x)⟩ #[.iface 0 (.tuple (qx es').toArray)]
   (.inr hM) (bN _ _ _) (λr' hr'=>.inl (aK _ _ _ _ hr')) (.inr ⟨r,_,_,hM,.inl rfl⟩) (.inr ⟨rfl,es',clk',hh.1,rfl⟩) (λh=>by omega) (by rw[hsz];omega) (by simp[iY]) (XX _)
   (by
    intro i row hi
    cases i with
    | succ i=>simp[iY]at hi
    | zero =>
     simp only[iY,List.getElem?_cons_zero,Yf]at hi;subst hi;refine⟨hsz.symm,λj d hd=>?_⟩
     cases j with
     | succ j=>simp at hd
     | zero =>
      simp only[List.getElem?_cons_zero,Yf]at hd;subst hd;exact⟨.iface 0 (.tuple (qx es').toArray),by simp,by simp[Value.oneCell',Value.cells],.iface 0 _ _ (.mk_tuple (by simpa using hreps))⟩)
   ⟨rfl,rfl,rfl,by simp,λk' _ hk'=>hh.2 k' (λe=>hk' (by rw[e]))⟩
  refine⟨g',q4,q5,λr' hr'=>?_⟩
  rcases(q2 r').1 hr' with h|h
  . exact h
  exact h▸hU
 rcases h2 with⟨rfl,g1,g2⟩|⟨j,e',d,rfl,g0,g1,g2,g3,g4⟩
 .
  obtain⟨g',f1,f2,f3⟩:=fin (es.push { key:=vk,val:=vx,born:=gP }) (gP+1) (by
   rw[g2];unfold qx;rw[Array.toList_push,List.flatMap_append];exact hrep.append (.cons rk (.cons rx .nil)))
  refine⟨g',_,?_,f1,f2,f3⟩
  simp[Instr.mapUpdate,run_underlying hu,MapKept.run_getObj_map hb,hck,h1,run_setObj_map _ hb]
 obtain⟨g',f1,f2,f3⟩:=fin (es.modify j λe=>{ e with key:=vk,val:=vx }) gP (by
  rw[g4];unfold qx;rw[Array.toList_modify,Uq _ _ _ _ g0];refine⟨by rw[Z8,Z8,Z8,Z8];exact hrep.1,λi d' y h3 h4=>?_⟩
  by_cases e1:i=2*j+1
  .
   subst e1;rw[ZX (by have:=(X7.1 h3).1;simpa using this)]at h3
   rw[ZX (by have:=(X7.1 h4).1;simpa using this)]at h4
   cases h3;cases h4;exact rx
  rw[List.getElem?_set_ne (Ne.symm e1)]at h3 h4
  by_cases e2:i=2*j
  .
   subst e2;rw[ZX (by have:=(X7.1 h3).1;simpa using this)]at h3
   rw[ZX (by have:=(X7.1 h4).1;simpa using this)]at h4
   cases h3;cases h4;exact rk
  rw[List.getElem?_set_ne (Ne.symm e2)]at h3 h4;exact hrep.2 i d' y h3 h4)
 refine⟨g',_,?_,f1,f2,f3⟩
 have hj:es[j]? = some e':=by simpa using g0
 have hst:(Instr.keyThatStays vk vk).run P w = .ok vk w:=by simp[Instr.keyThatStays,ZgH c1 rk 9999]
 simp[Instr.mapUpdate,run_underlying hu,MapKept.run_getObj_map hb,hck,h1,hj,g3,hst,run_setObj_map _ hb]
def TN{z:Array Value}{n i j:Nat}(hi:i<n)(hj:j<z.size):(madeCells z (n*z.size))[i*z.size+j]? = some z[j]:=by
 unfold madeCells
 have hlt:i*z.size+j<n*z.size:=by
  have:(i+1)*z.size<=n*z.size:=YY _ hi;rw[Zk,Nat.one_mul]at this;omega
 have e:(i*z.size+j) % z.size=j:=by rw[ZE,Z4,ZB hj]
 simp[hlt,e,hj]
theorem ZfQ [Glob P]{h:H}{g:Mem}{w:World}(hm:HM P h g w){b:Nat}(hb : ¬g.U b){t:TypeId}{x y:D}{vx vy:Value}(rx:ag w g x vx)(ry:ag w g y vy)(hc:(qo P t h b x y).2.2) :
  ∃v g' w',(Instr.makeSlice t vx vy).run P w = .ok v w'/\ag w' g' (qo P t h b x y).1 v/\HM P (qo P t h b x y).2.1 g' w'/\ax g g' w w' /\ ∀r,g'.U r->g.U r\/r=b:=by
 unfold qo at hc ⊢
 split at hc
 case h_2=>exact hc.elim
 rename_i k n k' m
 cases he:bQ P t with
 | none=>rw[he]at hc;exact hc.elim
 | some e =>
 rw[he]at hc
 simp only at hc ⊢
 obtain⟨rfl,c1,c2,c3,c4,c5,c6,c7⟩:=hc
 have ht:=xu he
 obtain⟨i,hi,hs⟩:=wY c7
 obtain⟨i',z,hi',hz⟩:=G7 (P:=P) (t:=e) om
 rw[hi]at hi'
 cases hi'
 obtain⟨z1,z2,z3⟩:=Av hi hz w g c6
 have hby:(i.bytes:Int)*n<=281474976710656:=by
  have:P.bytesOf e=i.bytes:=by simp[Program.bytesOf,hi]
  rw[<-this];exact c2
 have hrun:=run_make (P:=P) w t e i z ht hi hz k k' n n c1 (Int.le_refl _) hby c3
 rw[rx.v_inv,ry.v_inv]
 have hzs:z.cells.size=P.cellsOf e:=by omega
 rw[hs,<-hzs]at hrun
 obtain⟨g',h2,h3,h4,h5,h6⟩:=hm.put (h':=upd h b (some ⟨e,List.replicate n.toNat (zeroCells P e)⟩)) (w':=w.alloc (.cells (madeCells z.cells (n.toNat*z.cells.size)) e)) b w.heap.size n.toNat ⟨e,List.replicate n.toNat (zeroCells P e)⟩ (madeCells z.cells (n.toNat*z.cells.size)) (.inl hb) (bN _ _ _)
  (λr hr=>.inl (aK _ _ _ _ hr)) (.inl (XX _)) (heap_alloc_new w _) (by rw[size_madeCells,hzs]) c7 (by simp) o5q
  (by
   intro p row hp;have hpl:p<n.toNat:=by have:=(X7.1 hp).1;simpa using this
   rw[List.getElem?_replicate,X3 hpl]at hp
   cases hp
   refine⟨c5,λj d hj=>?_⟩
   have hjl:j<z.cells.size:=by have:=(X7.1 hj).1;omega
   refine⟨z.cells[j],?_,z2 _ (by simp),z1.2 j d _ hj (by simp[hjl])⟩
   show(madeCells z.cells (n.toNat*z.cells.size))[p*P.cellsOf e+j]? = _
   rw[<-hzs];exact TN hpl hjl)
  (World.grownBy_alloc w _ _)
 refine⟨_,g',_,hrun,?_,h5,h6,λr hr=>(h3 r).1 hr⟩
 refine .mrow b 0 n.toNat _ ⟨_,_,rfl,XX _,λ_=>⟨_,rfl⟩⟩ ((h3 b).2 (.inr rfl)) λblk c sz he=>?_
 rw[h2]at he
 simp only[Yf,YK]at he
 obtain⟨rfl,rfl,rfl⟩:=he
 refine⟨⟨om,by simp only[maxLen];omega⟩,?_⟩
 by_cases hz0:n.toNat=0
 . rw[hz0];exact .inl ⟨rfl,_,rfl⟩
 exact .inr ⟨hz0,w.heap.size,rfl,by simp⟩
theorem Zf4 [Glob P]{h:H}{g:Mem}{w:World}(hm:HM P h g w){b:Nat}(hb : ¬g.U b){t:TypeId}{xs:List D}{ro:Option Operand}{ρ:Operand->Value}(hr:aB w g xs (ro.toList.map ρ))(hc:(Bl P t xs h b).2.2) :
  ∃v g' w',(Instr.makeMap t (ro.map ρ)).run P w = .ok v w'/\ag w' g' (Bl P t xs h b).1 v/\HM P (Bl P t xs h b).2.1 g' w'/\ax g g' w w' /\ ∀r,g'.U r->g.U r\/r=b:=by
 unfold Bl at hc ⊢
 obtain⟨c1,c2,c3⟩:=hc
 obtain⟨⟨kt,e⟩,ht⟩:=YQ.1 c1
 have hu:=MI ht
 obtain⟨g',q1,q2,q3,q4,q5⟩:=hm.putB (h':=upd h b (some ⟨t,iY []⟩)) (w':=w.alloc (.map #[] 0)) b w.heap.size (maxLen+1) ⟨t,iY []⟩ #[.iface 0 (.tuple #[])]
  (.inl hb) (bN _ _ _) (λr hr=>.inl (aK _ _ _ _ hr)) (.inl (XX _)) (.inr ⟨rfl,#[],0,(heap_alloc w _).1,rfl⟩) (λh=>by omega) (by show 0<P.cellsOf t;omega) (by simp[iY]) (XX _)
  (by
   intro i row hi
   cases i with
   | succ i=>simp[iY]at hi
   | zero =>
    simp only[iY,List.getElem?_cons_zero,Yf]at hi;subst hi;refine⟨c2.symm,λj d hd=>?_⟩
    cases j with
    | succ j=>simp at hd
    | zero =>
     simp only[List.getElem?_cons_zero,Yf]at hd;subst hd;exact⟨.iface 0 (.tuple #[]),by simp,by simp[Value.oneCell',Value.cells],.iface 0 _ _ (.mk_tuple (vs:=#[]) .nil)⟩)
  (World.grownBy_alloc w _ _)
 refine⟨.map (some w.heap.size),g',w.alloc (.map #[] 0),?_,?_,q4,q5,λr hr=>(q2 r).1 hr⟩
 .
  cases ro with
  | none=>simp[Instr.makeMap]
  | some o =>
   simp only[Option.toList_some,X8,Yz]at hr
   match xs,hr,c3 with
   | [],hr,_=>exact absurd hr.1 (by simp)
   | [.v (.int k n)],hr,_ =>
    rw[YX,hr.head.v_inv]
    simp[Instr.makeMap,run_underlying hu,asInt,asIntOf]
 refine .mp b _ ⟨_,rfl⟩ ((q2 b).2 (.inr rfl)) λblk c sz he=>?_
 rw[q1]at he
 simp only[Yf,YK]at he
 exact⟨he.2.1.symm,_,he.1.symm,rfl⟩
end Go.DL
namespace Go.DL
open Go.RowKit
variable {P : Program} {W : cu} {C : aS}
def BC:Op->Bool
 | .call { callee:=.value _,.. }=>true
 | _=>false
theorem Mh{w:World}{g:Mem}{xs:List D}{ρ:Operand->Value}{l:Option Operand}{rest:List Operand}(h:aB w g xs ((l.toList++rest).map ρ)) :
  Ee w g (kH l xs).1 (l.map ρ)/\aB w g (kH l xs).2 (rest.map ρ):=by
 cases l with
 | none=>exact⟨trivial,by simpa[kH]using h⟩
 | some x =>
  simp only[Option.toList_some,List.singleton_append,X8]at h
  cases xs with
  | nil=>exact absurd h.1 (by simp)
  | cons d ds=>exact⟨h.head,h.tail⟩
theorem Zip [Glob P]{h:H}{g:Mem}{w:World}(hm:HM P h g w){b:Nat}(hb : ¬g.U b){xs:List D}{o:Oper}{ρ:Operand->Value}(hr:aB w g xs ((aV o.op).map ρ))(hcall:BC o.op=false)(hc:(bg P W C o.op xs h b).2.2) :
  Does P g w b ((execOp ρ o).run P w) (bg P W C o.op xs h b).1 (bg P W C o.op xs h b).2.1:=by
 obtain⟨dst,op,ty,pos,after,guard⟩:=o
 simp only at hr hcall hc ⊢
 unfold bg at hc ⊢
 split at hc
 . obtain⟨v,l,e,h1,h2⟩:=hr.of_cons;simp only[aV,X8,Yz,Y0]at e;obtain⟨rfl,_⟩:=e;exact Does.still (s:=pure _) hm (by simp) h1
 . obtain⟨v,l,e,h1,h2⟩:=hr.of_cons;simp only[aV,X8,Yz,Y0]at e;obtain⟨rfl,_⟩:=e;exact Does.still (s:=pure _) hm (by simp) h1
 .
  rename_i e
  obtain⟨c1,c2,c3⟩:=hc;obtain⟨i,z,hi,hz⟩:=G7 (P:=P) (t:=e) om;obtain⟨z1,z2,z3⟩:=Av hi hz w g c2;obtain⟨g',k1,k2,k3,k4⟩:=Tt hm hb (e:=e) z1 z2 c1 om;refine⟨_,g',_,.inl ?_,k1,k2,k3,k4⟩
  simp[execOp,Instr.alloc,zeroValue,typeInfo,hi,hz,newVar,newRow]
 .
  rename_i e x d
  obtain⟨v,l,e1,h1,h2⟩:=hr.of_cons;simp only[aV,X8,Yz,Y0]at e1;obtain⟨rfl,_⟩:=e1;obtain⟨c1,c2,c3⟩:=hc;obtain⟨z1,z2,z3⟩:=h1.cells c2;obtain⟨g',k1,k2,k3,k4⟩:=Tt hm hb (e:=e) z1 z2 c1 c3;refine⟨_,g',_,.inl ?_,k1,k2,k3,k4⟩
  simp[execOp,Instr.box,newVar,newRow]
 .
  rename_i t ps
  obtain⟨v,h1,h2⟩:=Zj7 (P:=P) (ps:=ps) hr hc ρ (by simp[aV])
  exact Does.still hm h1 h2
 .
  rename_i t n ps
  cases hbs:C.bs with
  | false =>
   simp only[hbs,Yp,Za]at hc ⊢;obtain⟨v,g',w',h1,h2,h3,h4,h5⟩:=Zj8 (P:=P) hm (ps:=ps) hr hc ρ (by simp[aV])
   exact⟨v,g',w',.inl (by simp[execOp,h1]),h2,h3,h4,λr hr=>.inl (h5 r hr)⟩
  | true =>
   simp only[hbs,Zn]at hc ⊢;obtain⟨v,g',w',h1,h2,h3,h4,h5⟩:=Zj9 (P:=P) hm hb (ps:=ps) hr hc ρ (by simp[aV])
   exact⟨v,g',w',.inl (by simp[execOp,h1]),h2,h3,h4,h5⟩
 . obtain⟨v,l,e1,h1,h2⟩:=hr.of_cons;simp only[aV,X8,Yz,Y0]at e1;obtain⟨rfl,_⟩:=e1;obtain⟨v,k1,k2⟩:=Zgb hm h1 hc;exact Does.still hm k1 k2
 . obtain⟨v,l,e1,h1,h2⟩:=hr.of_cons;simp only[aV,X8,Yz,Y0]at e1;obtain⟨rfl,rfl⟩:=e1;obtain⟨g',w',k1,k2,k3,k4⟩:=Qf hm h1 h2.head hc;exact⟨undef,g',w',.inr ⟨by simp[execOp,k1],rfl⟩,.v _,k2,k3,λr hr=>.inl (k4 r hr)⟩
 .
  obtain⟨v,l,e1,h1,h2⟩:=hr.of_cons;simp only[aV,X8,Yz,Y0]at e1;obtain⟨e1,_⟩:=e1;obtain⟨p,e2,_⟩:=L6 h1 hc 0;refine⟨v,g,w,.inl ?_,h1,hm,ax.refl _ _,λ_ h=>.inl h⟩
  simp[execOp,e1,e2]
 . obtain⟨v,l,e1,h1,h2⟩:=hr.of_cons;simp only[aV,X8,Yz,Y0]at e1;obtain⟨rfl,rfl⟩:=e1;obtain⟨v,k1,k2⟩:=Zkc h1 h2.head hc _ _;exact Does.still hm k1 k2
 . obtain⟨v,l,e1,h1,h2⟩:=hr.of_cons;simp only[aV,X8,Yz,Y0]at e1;obtain⟨rfl,_⟩:=e1;obtain⟨v,k1,k2⟩:=ZaZ h1 hc;exact Does.still hm k1 k2
 . obtain⟨v,l,e1,h1,h2⟩:=hr.of_cons;simp only[aV,X8,Yz,Y0]at e1;obtain⟨rfl,_⟩:=e1;obtain⟨v,k1,k2⟩:=ZjO h1 hc;exact Does.still hm k1 k2
 .
  rename_i f first captured
  simp only[aV,YT]at hr;have q1:=hr.take first.size
  have q2:=hr.drop first.size
  have l1:(first.toList.map ρ).length=first.size:=by simp
  rw[List.take_left' l1]at q1;rw[List.drop_left' l1]at q2;refine Does.still (s:=Instr.makeFunc f (first.map ρ) (captured.map ρ)) hm (v:=.func f (first.map ρ) (captured.map ρ)) (by simp[Instr.makeFunc]) ?_
  exact .fn f _ _ _ _ (by have:=q1.1;simp at this ⊢;exact this) (by have:=q2.1;simp at this ⊢;exact this) (λi d x h1 h2=>q1.2 i d x h1 (by simpa using h2)) (λi d x h1 h2=>q2.2 i d x h1 (by simpa using h2))
 .
  rename_i t x l hi m d ds
  obtain⟨v,l',e1,h1,h2⟩:=hr.of_cons;simp only[aV,X8,Y0]at e1;obtain⟨rfl,rfl⟩:=e1;rw[Yu]at h2;obtain⟨k1,h3⟩:=Mh h2;obtain⟨k2,h4⟩:=Mh h3;rw[<-Yv m.toList]at h4;obtain⟨k3,_⟩:=Mh h4;obtain⟨v,q1,q2⟩:=Zcy hm h1 k1 k2 k3 hc;exact Does.still hm q1 q2
 . obtain⟨v,l,e1,h1,h2⟩:=hr.of_cons;simp only[aV,X8,Yz,Y0]at e1;obtain⟨rfl,_⟩:=e1;obtain⟨v,k1,k2⟩:=Zie h1 hc;exact Does.still hm k1 k2
 . obtain⟨v,l,e1,h1,h2⟩:=hr.of_cons;simp only[aV,X8,Yz,Y0]at e1;obtain⟨rfl,_⟩:=e1;obtain⟨v,k1,k2⟩:=Zid h1 hc;exact Does.still hm k1 k2
 . obtain⟨v,l,e1,h1,h2⟩:=hr.of_cons;simp only[aV,X8,Yz,Y0]at e1;obtain⟨rfl,rfl⟩:=e1;obtain⟨v,k1,k2⟩:=Zhn hm h1 h2.head hc;exact Does.still hm k1 k2
 . obtain⟨v,l,e1,h1,h2⟩:=hr.of_cons;simp only[aV,X8,Yz,Y0]at e1;obtain⟨rfl,rfl⟩:=e1;obtain⟨v,k1,k2⟩:=Zhm (P:=P) h1 h2.head hc;exact Does.still hm k1 k2
 . obtain⟨v,l,e1,h1,h2⟩:=hr.of_cons;simp only[aV,X8,Yz,Y0]at e1;obtain⟨rfl,rfl⟩:=e1;obtain⟨v,g',w',k1,k2,k3,k4,k5⟩:=ZfQ (P:=P) hm hb h1 h2.head hc;exact⟨v,g',w',.inl (by simp[execOp,k1]),k2,k3,k4,k5⟩
 .
  rename_i t r
  obtain⟨v,g',w',h1,h2,h3,h4,h5⟩:=Zf4 (P:=P) hm hb (ro:=r) hr hc;exact⟨v,g',w',.inl (by simp[execOp,h1]),h2,h3,h4,h5⟩
 . obtain⟨v,l,e1,h1,h2⟩:=hr.of_cons;obtain⟨v2,l2,e2,h3,h4⟩:=h2.of_cons;simp only[aV,X8,Yz,Y0]at e1;obtain⟨rfl,e1⟩:=e1;rw[e2]at e1;simp only[Y0]at e1;obtain⟨rfl,rfl⟩:=e1;obtain⟨g',w',k1,k2,k3,k4⟩:=PG hm h1 h3 h4.head hc;exact⟨undef,g',w',.inr ⟨by simp[execOp,k1],rfl⟩,.v _,k2,k3,λr hr=>.inl (k4 r hr)⟩
 . obtain⟨v,l,e1,h1,h2⟩:=hr.of_cons;obtain⟨v2,l2,e2,h3,h4⟩:=h2.of_cons;simp only[aV,X8,Yz,Y0]at e1;obtain⟨rfl,e1⟩:=e1;rw[e2]at e1;simp only[Y0]at e1;obtain⟨rfl,rfl⟩:=e1;obtain⟨g',w',k1,k2,k3,k4⟩:=PG hm h1 h3 h4.head hc;exact⟨undef,g',w',.inr ⟨by simp[execOp,k1],rfl⟩,.v _,k2,k3,λr hr=>.inl (k4 r hr)⟩
 . obtain⟨v,l,e1,h1,h2⟩:=hr.of_cons;simp only[aV,X8,Yz,Y0]at e1;obtain⟨rfl,rfl⟩:=e1;obtain⟨v,k1,k2⟩:=Zf6 hm h1 h2.head hc;exact Does.still hm k1 k2
 .
  rename_i i ds
  obtain⟨v,l,e1,h1,h2⟩:=hr.of_cons;simp only[aV,X8,Yz,Y0]at e1;obtain⟨e1,_⟩:=e1;obtain⟨vs,rfl,h3⟩:=h1.tuple_inv;have hl:i<vs.size:=by have:=h3.1;simp at this;omega
  refine⟨vs[i],g,w,.inl ?_,?_,hm,ax.refl _ _,λ_ h=>.inl h⟩
  . simp[execOp,e1,Instr.extract,hl]
  exact h3.2 i _ _ (by simp[List.getD,Yg hc]) (by simp[hl])
 .
  rename_i args argTypes d
  obtain⟨v,l,e1,h1,h2⟩:=hr.of_cons;simp only[aV]at e1;rw[h2.of_nil]at e1
  split at hc
  case h_2=>exact hc.elim
  rename_i t ht
  have ht':argTypes = #[t]:=by apply Zq;simpa using ht
  have ea:args.map ρ = #[v]:=by apply Zq;simpa using e1
  subst ht';refine⟨_,g,w,.inl ?_,.v _,hm,ax.refl _ _,λ_ h=>.inl h⟩
  have:=Zgl (ty:=ty) h1 hc
  simp[execOp,resolve,invoke,builtin,ea,this]
 .
  rename_i args argTypes d d'
  obtain⟨v,l,e1,h1,h2⟩:=hr.of_cons;obtain⟨v',l',e2,h3,h4⟩:=h2.of_cons;simp only[aV]at e1;rw[e2,h4.of_nil]at e1
  split at hc
  case h_2=>exact hc.elim
  rename_i t u ht
  have ht':argTypes = #[t,u]:=by apply Zq;simpa using ht
  have ea:args.map ρ = #[v,v']:=by apply Zq;simpa using e1
  subst ht';obtain⟨x,g',w',k1,k2,k3,k4,k5⟩:=XJ hm hb h1 h3 hc ty;refine⟨x,g',w',.inl ?_,k2,k3,k4,k5⟩
  simp[execOp,resolve,invoke,builtin,ea,k1]
 .
  rename_i args argTypes
  simp only[aV]at hr;obtain⟨v,k1,k2⟩:=ZfS (P:=P) hr hc argTypes ty;refine⟨v,g,w,.inl ?_,k2,hm,ax.refl _ _,λ_ h=>.inl h⟩
  have ea:(args.toList.map ρ).toArray=args.map ρ:=by apply Zq;simp
  rw[ea]at k1
  simp[execOp,resolve,invoke,builtin,k1]
 .
  rename_i args argTypes
  simp only[aV]at hr;obtain⟨v,k1,k2⟩:=ZfY (P:=P) hr hc argTypes ty;refine⟨v,g,w,.inl ?_,k2,hm,ax.refl _ _,λ_ h=>.inl h⟩
  have ea:(args.toList.map ρ).toArray=args.map ρ:=by apply Zq;simp
  rw[ea]at k1
  simp[execOp,resolve,invoke,builtin,k1]
 . simp[BC]at hcall
 exact hc.elim
theorem ZeI [Glob P]{h:H}{g:Mem}{w:World}(hm:HM P h g w){b:Nat}{xs:List D}{o:Oper}{ρ:Operand->Value}(hr:aB w g xs ((aV o.op).map ρ))(hp:fE o.op=true){gd:Bool}(hg:gd=true)(hc:(II gd xs).2) :
  Does P g w b ((execOp ρ o).run P w) (II gd xs).1 h:=by
 obtain⟨dst,op,ty,pos,after,guard⟩:=o
 simp only at hr hp ⊢
 cases op<;>simp only[fE]at hp<;>try (cases hp;done)
 rename_i c x y
 unfold II at hc ⊢
 split at hc
 case h_2=>exact hc.elim
 rename_i dc dx dy
 obtain⟨q1,q2,q3⟩:=hc hg
 have r1:=hr.head
 have r2:=hr.tail.head
 have r3:=hr.tail.tail.head
 have strip : ∀{d:D}{v:Value},ag w g d v->sg d=true/\yn (sd d)=true->v = .bool (bv (sd d)):=by
  intro d v hd ⟨hs,he⟩;have key : ∀{d:D},ag w g d v->yn d=true->v = .bool (bv d):=by
   intro d hd he
   cases hd with
   | v=>cases v<;>first|rfl|cases he
   | _=>cases he
  cases hd with
  | cond b d x ht hf=>exact key (ht hs) he
  | v=>exact key (.v _) he
  | _=>cases he
 have s1:=strip r1 q1
 refine⟨.bool (bif bv (sd dc)then bv (sd dx)else bv (sd dy)),g,w,.inl ?_,.v _,hm,ax.refl _ _,λ_ h=>.inl h⟩
 cases hcc:bv (sd dc)with
 | true=>have s2:=strip r2 (q2 hcc);simp[execOp,s1,s2,asBool,hcc]
 | false=>have s3:=strip r3 (q3 hcc);simp[execOp,s1,s3,asBool,hcc]
end Go.DL
namespace Go.DL
open Go.RowKit
variable {P : Program}
theorem tH{d:D}:∀{ds:List D},bC ds=true->d∈ds->d.nr=true
 | [],_,h=>by cases h
 | e::ds,h,hm=>by
  simp only[bC,XU]at h
  rcases Ym.1 hm with rfl|hm
  . exact h.1
  exact tH h.2 hm
theorem Fa{d:List D}:∀{ds:List (List D)},bq ds=true->d∈ds->bC d=true
 | [],_,h=>by cases h
 | e::ds,h,hm=>by
  simp only[bq,XU]at h
  rcases Ym.1 hm with rfl|hm
  . exact h.1
  exact Fa h.2 hm
theorem Ti : ∀(a b:List (List D)),bq (a++b)=(bq a&&bq b)
 | [],b=>by simp[bq]
 | x::a,b=>by simp[bq,Ti a b,ZZ]
theorem ag.clean{w:World}{g g':Mem}{d:D}{v:Value}(h:ag w g d v)(hn:d.nr=true)(hI : ∀b,g.I b->g'.I b):ag w g' d v:=by
 induction h with
 | v x=>exact .v x
 | agg ds vs hl _ ih=>exact .agg ds vs hl λi d x h1 h2=>ih i d x h1 h2 (tH hn (Yj h1))
 | tuple ds vs hl _ ih=>exact .tuple ds vs hl λi d x h1 h2=>ih i d x h1 h2 (tH hn (Yj h1))
 | iface t d x _ ih=>exact .iface t d x (ih hn)
 | empty full a cap hf hm=>exact .empty full a cap hf hm
 | list full rows ad cap size cv hi hl hf hm hs hc _ ih=>exact .list full rows ad cap size cv (hI _ hi) hl hf hm hs hc λi j r d h1 h2=>ih i j r d h1 h2 (tH (Fa hn (Yj h1)) (Yj h2))
 | eptr cs p cv hi hc _ ih=>exact .eptr cs p cv (hI _ hi) hc λj d h1=>ih j d h1 (tH hn (Yj h1))
 | mrow=>simp[D.nr]at hn
 | mptr=>simp[D.nr]at hn
 | mp=>simp[D.nr]at hn
 | fmap kv b es gP hi hb hl _ ih=>exact .fmap kv b es gP (hI _ hi) hb hl λi d x h1 h2=>ih i d x h1 h2 (tH hn (Yj h1))
 | fn f first aD fs cs hf hc _ _ ih1 ih2 =>
  simp only[D.nr,XU]at hn;exact .fn f first aD fs cs hf hc (λi d x h1 h2=>ih1 i d x h1 h2 (tH hn.1 (Yj h1))) (λi d x h1 h2=>ih2 i d x h1 h2 (tH hn.2 (Yj h1)))
 | cond b d x _ hf ih=>exact .cond b d x (λhb=>ih hb hn) hf
 | junk x=>exact .junk x
mutual
theorem Ha : ∀d:D,d.nr=true->(wk d).nr=true
 | .agg cs,h=>CE cs h
 | .list _ rows,h=>Pj rows h
 | .eptr cs,h=>CE cs h
 | .tuple ds,h=>CE ds h
 | .iface _ d,h=>Ha d h
 | .v _,h=>h
 | .mrow _ _ _,h=>h
 | .mptr _ _ _,h=>h
 | .mp _,h=>h
 | .fmap kv,h=>CE kv h
 | .fn _ _ _,h=>h
 | .cond _ _,h=>h
 | .junk,h=>h
theorem CE : ∀ds:List D,bC ds=true->bC (eB ds)=true
 | [],_=>rfl
 | d::ds,h=>by
  simp only[bC,eB,XU]at h ⊢;exact⟨Ha d h.1,CE ds h.2⟩
theorem Pj : ∀ds:List (List D),bq ds=true->bq (eG ds)=true
 | [],_=>rfl
 | d::ds,h=>by
  simp only[bq,eG,XU]at h ⊢;exact⟨CE d h.1,Pj ds h.2⟩
end
mutual
def D.rin(U:Nat->Prop):D->Prop
 | .v _=>True
 | .agg cs=>zi U cs
 | .list _ rows=>Rm U rows
 | .eptr cs=>zi U cs
 | .mrow r _ _=>U r
 | .mptr r _ _=>U r
 | .mp r=>U r
 | .fmap kv=>zi U kv
 | .fn _ a b=>zi U a/\zi U b
 | .tuple ds=>zi U ds
 | .iface _ d=>d.rin U
 | .cond b d=>b=true->d.rin U
 | .junk=>True
def zi(U:Nat->Prop):List D->Prop
 | []=>True
 | d::ds=>d.rin U/\zi U ds
def Rm(U:Nat->Prop):List (List D)->Prop
 | []=>True
 | r::rs=>zi U r/\Rm U rs
end
def aB.clean{w:World}{g g':Mem}{ds:List D}{vs:List Value}(h:aB w g ds vs)(hn:ds.all D.nr=true)(hI : ∀b,g.I b->g'.I b):aB w g' ds vs :=
 ⟨h.1,λi d x h1 h2=>(h.2 i d x h1 h2).clean (YJ.1 hn d (Yj h1)) hI⟩
def VF{w w':World}{g g':Mem}{d:D}{v:Value}(h:ag w g d v)(hf:NL d=true):ag w' g' d v:=by
 cases h<;>simp[NL]at hf
 exact .v _
def NK{w w':World}{g g':Mem}{d:D}{v:Value}(h:ag w g d v)(hf:flat d=true):ag w' g' d v:=by
 cases h<;>simp only[flat]at hf<;>try (cases hf;done)
 . exact .v _
 .
  rename_i ds vs hl hv
  exact .agg ds vs hl λi d x h1 h2=>VF (hv i d x h1 h2) (YJ.1 hf d (Yj h1))
 rename_i ds vs hl hv
 exact .tuple ds vs hl λi d x h1 h2=>VF (hv i d x h1 h2) (YJ.1 hf d (Yj h1))
def dY(P:Program)[Glob P](f:FuncId):Bool:=match P.funcs[f]? with
 | some fn => fn.body.isSome && fn.name != "runtime.NumGoroutine"
 | none=>false
def jJ(I:Nat->Prop):Mem:=⟨λ_=>none,λ_=>False,I⟩
structure G6(w w':World):Prop where
 os:w'.os=w.os
 tape:w'.tape=w.tape
 output:w'.output=w.output
 size:w.heap.size<=w'.heap.size
 drawn:w.drawn<=w'.drawn
 block : ∀k,k<w.heap.size->w'.heap[k]? = w.heap[k]?
def PureCt(P:Program)[Glob P](f:FuncId)(args:List D)(res:D):Prop :=
 dY P f=true/\args.all D.nr=true /\ ∀(w:World)(I:Nat->Prop)(vs:List Value),(∀b,I b->b<w.heap.size)->Gr P I w->aB w (jJ I) args vs ->
  CallsIn Fence.wide 0 P f vs.toArray w λe w'=>∃v,e = .returned v/\G6 w w'/\ag w' (jJ λb=>I b\/(w.heap.size<=b/\b<w'.heap.size)) res v
def Ct(P:Program)[Glob P](f:FuncId)(args:List D)(h:H)(b:Nat)(res:D)(h':H):Prop :=
 dY P f=true /\ ∀(w:World)(g:Mem)(vs:List Value)(n:Nat),HM P h g w->(∀r,g.U r->r<n) -> ¬g.U b->aB w g args vs ->
  CallsIn Fence.wide 0 P f vs.toArray w λe w'=>∃v g',e = .returned v/\ag w' g' res v/\HM P h' g' w'/\ax g g' w w' /\ ∀r,g'.U r->g.U r\/r=b
def words(P:Program)[Glob P]:cu:={ pureCt:=PureCt P,ct:=Ct P }
theorem vY [Glob P]{f:FuncId}(h:dY P f=true)(args:Array Value)(w:World):(callFunc f args).run P w = .ok (.enter f args) w:=by
 unfold dY at h
 split at h
 .
  rename_i fn hf
  simp only[XU,ZC]at h;obtain⟨h1,h2⟩:=h;have h3:fn.body≠none:=by intro e;rw[e]at h1;cases h1
  simp[callFunc,hf,h2,h3]
 cases h
def qj(g:Mem):Mem:={ g with I:=λb=>g.I b \/ ∃r c s,g.M r=some (some b,c,s) }
def vC{g:Mem}{w:World}{d:D}{v:Value}(h:ag w g d v):ag w (qj g) d v:=by
 refine ag.mono ?_ ?_ ?_ h
 . exact λb hb=>⟨Or.inl hb,rfl⟩
 . exact λ_ h=>h
 exact λ_ _=>Or.inl rfl
theorem Kc [Glob P]{h:H}{g:Mem}{w:World}(hm:HM P h g w){r off len:Nat}{x:Value}(hr:ag w (qj g) (.mrow r off len) x)(ho:(h r).isSome=true/\(aC (.mrow r off len) h).length=len) :
  ag w (qj g) (.list false (aC (.mrow r off len) h)) x:=by
 have hmono : ∀{d:D}{v:Value},ag w g d v->ag w (qj g) d v:=λh=>vC h
 cases hr with
 | mrow r off len x hx hU hv =>
  obtain⟨o1,o2⟩:=ho;obtain⟨bl,hbl⟩:=YQ.1 o1;simp only[aC,hbl]at o2 ⊢;obtain⟨blk,c,h1,h2,h3,h4,h5⟩:=hm.blk r bl hbl;obtain⟨h6,h7⟩:=hv _ _ _ h1
  rcases h7 with⟨rfl,a,rfl⟩|⟨hne,b,rfl,rfl⟩
  .
   have:len=0:=by omega
   subst this;have:(bl.rows.drop c).take 0=[]:=by simp
   rw[this];exact .empty false a 0 (λh=>by cases h) (by simp[maxLen])
  rcases h5 with⟨h5,_⟩|⟨b',cur,h5,k1,k2,k3,k4⟩
  . cases h5
  cases h5
  by_cases hz:len=0
  .
   subst hz;have:(bl.rows.drop off).take 0=[]:=by simp
   rw[this];exact .empty false _ _ (λh=>by cases h) om
  have hle:off+len<=bl.rows.length:=by simp at o2;omega
  have hget : ∀(i:Nat)row,((bl.rows.drop off).take len)[i]? = some row->bl.rows[off+i]? = some row:=by
   intro i row hi;rw[Y6]at hi
   split at hi
   . rwa [Y2]at hi
   cases hi
  have hex : ∀i j,∃u,∀row d,bl.rows[off+i]? = some row->row[j]? = some d->cur[(off+i)*P.cellsOf bl.ty+j]? = some u/\u.oneCell'=true/\ag w g d u:=by
   intro i j
   by_cases hh : ∃row d,bl.rows[off+i]? = some row/\row[j]? = some d
   .
    obtain⟨row,d,q1,q2⟩:=hh;obtain⟨u,q3⟩:=(k4 _ row q1).2 j d q2;refine⟨u,λrow' d' q1' q2'=>?_⟩
    rw[q1]at q1';cases q1'
    rw[q2]at q2';cases q2'
    exact q3
   exact⟨undef,λrow d q1 q2=>absurd ⟨row,d,q1,q2⟩ hh⟩
  generalize hcv:(λi j=>Classical.choose (hex i j))=cv
  have U7 : ∀i j row d,bl.rows[off+i]? = some row->row[j]? = some d->cur[(off+i)*P.cellsOf bl.ty+j]? = some (cv i j)/\(cv i j).oneCell'=true/\ag w g d (cv i j):=by
   intro i j;rw[<-hcv];exact ZO (hex i j)
  have hlen:len=((bl.rows.drop off).take len).length:=o2.symm;generalize hrows:(bl.rows.drop off).take len=rows at *;subst hlen;refine .list false rows ⟨b,off*P.cellsOf bl.ty,none⟩ _ (P.cellsOf bl.ty) cv (.inr ⟨r,_,_,h1⟩) om (λh=>by cases h) om (λrow hrow=>?_) (λi j row d q1 q2=>?_) (λi j row d q1 q2=>hmono (U7 i j row d (hget i row q1) q2).2.2)
  . obtain⟨i,hi,rfl⟩:=Zj hrow;exact(k4 _ _ (hget i _ (Yg hi))).1
  obtain⟨q3,q4,_⟩:=U7 i j row d (hget i row q1) q2;refine⟨?_,q4⟩;rw[pO,cell_of_row w b _ cur bl.ty (0,0) (k1.cells h6.2),<-q3,Zk]
  congr 1;omega
theorem Zjg [Glob P]{h:H}{g:Mem}{w:World}(hm:HM P h g w){d:D}{v:Value}(hr:ag w (qj g) d v)(ho:Gu h d):ag w (qj g) (D5 h d) v:=by
 cases d with
 | mrow r off len=>exact Kc hm hr ho
 | _=>exact hr
theorem Oi [Glob P]{h:H}{g:Mem}{w:World}(hm:HM P h g w){r i off:Nat}{x:Value}(hr:ag w (qj g) (.mptr r i off) x)(ho:(h r).isSome=true /\ ∀c∈jL (.mptr r i off) h,Gu h c) :
  ag w (qj g) (.eptr ((jL (.mptr r i off) h).map (D5 h))) x:=by
 obtain⟨o1,o2⟩:=ho
 obtain⟨bl,hbl⟩:=YQ.1 o1
 simp only[jL,hbl]at o2 ⊢
 cases hr with|mptr _ _ _ x hx hU hv =>
 obtain⟨blk,c,h1,h2,h3,h4,h5⟩:=hm.blk r bl hbl
 obtain⟨hcm,b,rfl,rfl⟩:=hv _ _ _ h1
 rcases h5 with⟨h5,_⟩|⟨b',cur,h5,k1,k2,k3,k4⟩
 . cases h5
 cases h5
 have key : ∀j d,((bl.rows.getD i []).drop off)[j]? = some d -> ∃u,cur[i*P.cellsOf bl.ty+off+j]? = some u/\ag w g d u:=by
  intro j d hd;rw[Y2]at hd
  cases o9:bl.rows[i]? with
  | none=>rw[List.getD,o9]at hd;simp at hd
  | some row =>
   rw[List.getD,o9,YR]at hd;obtain⟨u,p1,_,p3⟩:=(k4 i row o9).2 (off+j) d hd;exact⟨u,by rw[Nat.add_assoc];exact p1,p3⟩
 refine .eptr _ _ (λj=>cur.getD (i*P.cellsOf bl.ty+off+j) undef) (.inr ⟨r,_,_,h1⟩) (λj d hd=>?_) (λj d hd=>?_)
 .
  obtain⟨d',e1,rfl⟩:=kX hd;obtain⟨u,p1,p2⟩:=key j d' e1;rw[pO,cell_of_row w b _ cur bl.ty (0,0) (k1.cells hcm),p1]
  simp[Zx,p1]
 obtain⟨d',e1,rfl⟩:=kX hd
 obtain⟨u,p1,p2⟩:=key j d' e1
 have e2:cur.getD (i*P.cellsOf bl.ty+off+j) undef=u:=by simp[Zx,p1]
 rw[e2]
 exact Zjg hm (vC p2) (o2 d' (Yj e1))
theorem Wt [Glob P]{h:H}{g:Mem}{w:World}(hm:HM P h g w){d:D}{v:Value}(hr:ag w (qj g) d v)(ho:DZ h d):ag w (qj g) (Al h d) v:=by
 cases d with
 | mrow r off len=>exact Kc hm hr ho
 | mptr r i off=>exact Oi hm hr ho
 | _=>exact hr
theorem Wq [Glob P]{h:H}{g:Mem}{w:World}(hm:HM P h g w){d:D}{v:Value}(hr:ag w (qj g) d v)(ho:qX h d) :
  ag w (qj g) (deref h d) v:=by
 cases d with
 | mrow r off len=>exact Kc hm hr ho
 | mptr r i off=>exact Oi hm hr ho
 | fn f a b =>
  cases hr with
  | fn _ _ _ fs cs hf hc h1 h2 =>
   refine .fn f _ _ fs cs (by simpa using hf) (by simpa using hc) (λi d x e1 e2=>?_) (λi d x e1 e2=>?_)
   . obtain⟨d',e3,rfl⟩:=kX e1;exact Wt hm (h1 i d' x e3 e2) (ho.1 d' (Yj e3))
   obtain⟨d',e3,rfl⟩:=kX e1;exact Wt hm (h2 i d' x e3 e2) (ho.2 d' (Yj e3))
 | _=>exact hr
def Zje [Glob P]{h:H}{g:Mem}{w:World}(hm:HM P h g w){d:D}{v:Value}(hr:ag w g d v)(ho:qX h d):ag w (qj g) (deref h d) v:=Wq hm (vC hr) ho
def Zjf{h:H}{d:D}(hd:BA d=false):Al h d=d:=by cases d<;>first|rfl|cases hd
theorem Ws{h:H}{ds:List D}(hd:ds.any BA=false):ds.map (Al h)=ds:=by
 rw[List.any_eq_false]at hd
 conv=>rhs;rw[<-List.map_id ds]
 exact Zd λd hm=>Zjf (by have:=hd d hm;simpa using this)
theorem Wp{h:H}{d:D}(hd:lc d=false):deref h d=d:=by
 cases d<;>first|rfl|(cases hd;done)|skip
 rename_i f a b
 simp only[lc,Yd]at hd
 simp only[deref,Ws hd.1,Ws hd.2]
theorem Sa [Glob P]{h:H}{g:Mem}{w:World}(hm:HM P h g w){k:FuncId}{zs:List D}{vs:List Value}{res:D}(hzs:aB w g zs vs)(hct:PureCt P k (zs.map (qW h)) res)(hfl:zs.any lc=true->flat res=true /\ ∀y∈zs,qX h y) :
  CallsIn Fence.wide 0 P k vs.toArray w λe w'=>∃v g',e = .returned v/\ag w' g' res v/\HM P h g' w'/\ax g g' w w' /\ ∀r,g'.U r->g.U r:=by
 obtain⟨hbd,hnr,hct⟩:=hct
 by_cases hmr:zs.any lc=true
 .
  obtain⟨f1,f2⟩:=hfl hmr;have hds:aB w (qj g) (zs.map (qW h)) vs:=by
   refine⟨by simpa using hzs.1,λi d x h1 h2=>?_⟩
   rw[YU]at h1
   cases hi:zs[i]? with
   | none=>rw[hi]at h1;cases h1
   | some y =>
    rw[hi]at h1;simp at h1;subst h1;exact(Zje hm (hzs.2 i y x hi h2) (f2 y (Yj hi))).wk
  refine(hct w (λb=>g.I b \/ ∃r c s,g.M r=some (some b,c,s)) _ (λb hb=>?_) (hm.gr.later λb hb=>⟨.inl hb,rfl⟩) (hds.clean hnr λ_ h=>h)).mono ?_
  .
   rcases hb with hb|⟨r,c,s,hb⟩
   . exact hm.imm b hb
   exact(pU hm hb).1
  rintro e w' ⟨v,rfl,hbel,hv⟩;have mono:ax g g w w':=⟨hbel.os,hbel.tape,hbel.output,hbel.size,hbel.drawn,λ_ h=>h,λ_ _=>.inl rfl,λr b c s h=>.inl ⟨r,c,s,h⟩,λ_ h=>h,λ_ h=>.inl h,λb hb _=>hbel.block b hb⟩
  refine⟨v,g,rfl,NK hv f1,⟨hm.dead,λr bl hr=>?_,hm.inj,hm.used,λb hb=>YD (hm.imm b hb) hbel.size,hm.gr.later (hm.kept mono)⟩,mono,λ_ h=>h⟩
  obtain⟨blk,c,h1,h2,h3,h4,h5⟩:=hm.blk r bl hr;refine⟨blk,c,h1,h2,h3,h4,?_⟩
  rcases h5 with h5|⟨b,cur,rfl,h6,h7,h8,h9⟩
  . exact .inl h5
  refine .inr ⟨b,cur,rfl,by rw[hbel.block b (pU hm h1).1];exact h6,h7,h8,λi row hi=>⟨(h9 i row hi).1,λj d hd=>?_⟩⟩
  obtain⟨u,k3,k4,k5⟩:=(h9 i row hi).2 j d hd;exact⟨u,k3,k4,k5.later hm mono⟩
 have hzs:aB w g (zs.map (qW h)) vs:=by
  refine⟨by simpa using hzs.1,λi d x h1 h2=>?_⟩
  obtain⟨y,h3,rfl⟩:=kX h1;have hy:lc y=false:=by
   cases hq:lc y with
   | false=>rfl
   | true=>exact absurd (ZY.2 ⟨y,Yj h3,hq⟩) hmr
  have:deref h y=y:=Wp hy
  show ag w g (wk (deref h y)) x
  rw[this];exact(hzs.2 i y x h3 h2).wk
 refine(hct w g.I _ hm.imm hm.gr (hzs.clean hnr λ_ h=>h)).mono ?_
 rintro e w' ⟨v,rfl,hbel,hv⟩
 let g':Mem:={ g with I:=λb=>g.I b\/(w.heap.size<=b/\b<w'.heap.size) }
 have mono:ax g g' w w':=⟨hbel.os,hbel.tape,hbel.output,hbel.size,hbel.drawn,λ_ h=>h,λ_ _=>.inl rfl,λr b c s h=>.inl ⟨r,c,s,h⟩,λ_ h=>.inl h,λb h=>by rcases h with h|h;exact .inl h;exact .inr (.inl h.1),λb hb _=>hbel.block b hb⟩
 refine⟨v,g',rfl,by refine ag.mono ?_ ?_ ?_ hv;exact λb hb=>⟨hb,rfl⟩;exact λ_ h=>False.elim h;exact λ_ h=>False.elim h,⟨hm.dead,λr bl hr=>?_,hm.inj,hm.used,λb hb=>?_,hm.gr.later (hm.kept mono)⟩,mono,λ_ h=>h⟩
 .
  obtain⟨blk,c,h1,h2,h3,h4,h5⟩:=hm.blk r bl hr;refine⟨blk,c,h1,h2,h3,h4,?_⟩
  rcases h5 with h5|⟨b,cur,rfl,h6,h7,h8,h9⟩
  . exact .inl h5
  have hlt:=(pU hm h1).1;refine .inr ⟨b,cur,rfl,by rw[hbel.block b hlt];exact h6,h7,λhI=>?_,λi row hi=>⟨(h9 i row hi).1,λj d hd=>?_⟩⟩
  .
   rcases hI with hI|hI
   . exact h8 hI
   omega
  obtain⟨u,k3,k4,k5⟩:=(h9 i row hi).2 j d hd;exact⟨u,k3,k4,k5.later hm mono⟩
 rcases hb with hb|hb
 . exact YD (hm.imm b hb) hbel.size
 exact hb.2
theorem UO{ys:List D}{h:H}(hn:ys.any lc=false):ys.map (qW h)=ys.map wk:=by
 rw[List.any_eq_false]at hn
 exact Zd λd hd=>by
  have:=hn d hd;simp only[Bool.not_eq_true]at this
  show wk (deref h d)=wk d
  rw[Wp this]
def ML(g:Mem):Mem:=jJ λb=>g.I b \/ ∃r c s,g.M r=some (some b,c,s)
theorem Bg{ds:List D}(h : ∀d∈ds,d.nr=true):bC ds=true:=by
 induction ds with
 | nil=>rfl
 | cons d ds ih=>simp[bC,h d (by simp),ih λd hd=>h d (by simp[hd])]
theorem Mr{ds:List (List D)}(h : ∀d∈ds,bC d=true):bq ds=true:=by
 induction ds with
 | nil=>rfl
 | cons d ds ih=>simp[bq,h d (by simp),ih λd hd=>h d (by simp[hd])]
theorem H6 [Glob P]{h:H}{g:Mem}{w:World}(hm:HM P h g w):∀(k:Nat)(d:D)(v:Value),ag w (qj g) d v->dP h k d->ag w (ML g) (snap h k d) v/\(snap h k d).nr=true:=by
 intro k
 induction k with
 | zero=>exact λd v hr ho=>⟨hr.clean ho λb hb=>hb,ho⟩
 | succ k ih =>
  intro d v hr ho
  cases d with
  | mrow r off len =>
   obtain⟨o1,o2⟩:=ho;have hd:=Wq hm hr o1;simp only[deref]at hd;simp only[snap];generalize aC (.mrow r off len) h=rows at hd o2 ⊢;refine⟨?_,?_⟩
   .
    cases hd with
    | empty _ a cap hf hmx=>exact .empty false a cap hf hmx
    | list _ _ ad cap size cv hI hl hf hmx hs hc hrr =>
     have e:rows.length=(rows.map λrow=>row.map (snap h k)).length:=by simp
     rw[e];refine .list false _ ad cap size cv hI (by simpa using hl) (λh=>by cases h) hmx (λrow hrow=>?_) (λi j row d h1 h2=>?_) (λi j row d h1 h2=>?_)
     .
      simp only[Yt]at hrow;obtain⟨row',h1,rfl⟩:=hrow
      simpa using hs row' h1
     .
      rw[YU]at h1
      cases o9:rows[i]? with
      | none=>rw[o9]at h1;cases h1
      | some row' =>
       rw[o9]at h1;simp at h1;subst h1;rw[YU]at h2
       cases BH:row'[j]? with
       | none=>rw[BH]at h2;cases h2
       | some d'=>exact hc i j row' d' o9 BH
     rw[YU]at h1
     cases o9:rows[i]? with
     | none=>rw[o9]at h1;cases h1
     | some row' =>
      rw[o9]at h1;simp at h1;subst h1;rw[YU]at h2
      cases BH:row'[j]? with
      | none=>rw[BH]at h2;cases h2
      | some d' =>
       rw[BH]at h2;simp at h2;subst h2;exact(ih d' _ (hrr i j row' d' o9 BH) (o2 row' (Yj o9) d' (Yj BH))).1
   refine Mr λrow hrow=>Bg λd hd'=>?_
   simp only[Yt]at hrow;obtain⟨row',h1,rfl⟩:=hrow;simp only[Yt]at hd';obtain⟨d',h2,rfl⟩:=hd'
   cases hd with
   | empty=>cases h1
   | list _ _ ad cap size cv hI hl hf hmx hs hc hrr =>
    obtain⟨i,hi⟩:=Zv h1;obtain⟨j,hj⟩:=Zv h2;exact(ih d' _ (hrr i j row' d' hi hj) (o2 row' h1 d' h2)).2
  | agg cs =>
   obtain⟨vs,rfl,hv⟩:=hr.agg_inv;simp only[snap];refine⟨.mk_agg ⟨by simpa using hv.1,λi d x h1 h2=>?_⟩,Bg λd hd=>?_⟩
   .
    rw[YU]at h1
    cases hci:cs[i]? with
    | none=>rw[hci]at h1;cases h1
    | some c =>
     rw[hci]at h1;simp at h1;subst h1;exact(ih c x (hv.2 i c x hci h2) (ho c (Yj hci))).1
   simp only[Yt]at hd;obtain⟨c,h1,rfl⟩:=hd;obtain⟨i,hi⟩:=Zv h1;have hlt:i<vs.toList.length:=by rw[<-hv.1];exact(X7.1 hi).1
   exact(ih c _ (hv.2 i c _ hi (Yg hlt)) (ho c h1)).2
  | tuple cs =>
   obtain⟨vs,rfl,hv⟩:=hr.tuple_inv;simp only[snap];refine⟨.mk_tuple ⟨by simpa using hv.1,λi d x h1 h2=>?_⟩,Bg λd hd=>?_⟩
   .
    rw[YU]at h1
    cases hci:cs[i]? with
    | none=>rw[hci]at h1;cases h1
    | some c =>
     rw[hci]at h1;simp at h1;subst h1;exact(ih c x (hv.2 i c x hci h2) (ho c (Yj hci))).1
   simp only[Yt]at hd;obtain⟨c,h1,rfl⟩:=hd;obtain⟨i,hi⟩:=Zv h1;have hlt:i<vs.toList.length:=by rw[<-hv.1];exact(X7.1 hi).1
   exact(ih c _ (hv.2 i c _ hi (Yg hlt)) (ho c h1)).2
  | iface t d =>
   cases hr with
   | iface _ _ x h1 =>
    obtain⟨q1,q2⟩:=ih d x h1 ho;exact⟨.iface t _ x q1,q2⟩
  | mptr r i off =>
   obtain⟨o1,o2⟩:=ho;obtain⟨bl,hbl⟩:=YQ.1 o1;simp only[snap];have ecs:jL (.mptr r i off) h=(bl.rows.getD i []).drop off:=by simp only[jL,hbl]
   rw[ecs]at o2 ⊢
   cases hr with|mptr _ _ _ x hx hU hv =>
   obtain⟨blk,c,h1,h2,h3,h4,h5⟩:=hm.blk r bl hbl;obtain⟨hcm,b,rfl,rfl⟩:=hv _ _ _ h1
   rcases h5 with⟨h5,_⟩|⟨b',cur,h5,k1,k2,k3,k4⟩
   . cases h5
   cases h5
   have key : ∀j d,((bl.rows.getD i []).drop off)[j]? = some d -> ∃u,cur[i*P.cellsOf bl.ty+off+j]? = some u/\ag w g d u:=by
    intro j d hd;rw[Y2]at hd
    cases o9:bl.rows[i]? with
    | none=>rw[List.getD,o9]at hd;simp at hd
    | some row =>
     rw[List.getD,o9,YR]at hd;obtain⟨u,p1,_,p3⟩:=(k4 i row o9).2 (off+j) d hd;exact⟨u,by rw[Nat.add_assoc];exact p1,p3⟩
   refine⟨.eptr _ _ (λj=>cur.getD (i*P.cellsOf bl.ty+off+j) undef) (.inr ⟨r,_,_,h1⟩) (λj d hd=>?_) (λj d hd=>?_),Bg λd hd=>?_⟩
   .
    obtain⟨d',e1,rfl⟩:=kX hd;obtain⟨u,p1,p2⟩:=key j d' e1;rw[pO,cell_of_row w b _ cur bl.ty (0,0) (k1.cells hcm),p1]
    simp[Zx,p1]
   .
    obtain⟨d',e1,rfl⟩:=kX hd;obtain⟨u,p1,p2⟩:=key j d' e1;have e2:cur.getD (i*P.cellsOf bl.ty+off+j) undef=u:=by simp[Zx,p1]
    rw[e2];exact(ih d' u (vC p2) (o2 d' (Yj e1))).1
   obtain⟨d',e1,rfl⟩:=Yt.1 hd;obtain⟨j,hj⟩:=Zv e1;obtain⟨u,p1,p2⟩:=key j d' hj;exact(ih d' u (vC p2) (o2 d' e1)).2
  | fn f a b =>
   cases hr with
   | fn _ _ _ fs cs hf hc h1 h2 =>
    simp only[snap];refine⟨.fn f _ _ fs cs (by simpa using hf) (by simpa using hc) (λi d x e1 e2=>?_) (λi d x e1 e2=>?_),?_⟩
    . obtain⟨d',e3,rfl⟩:=kX e1;exact(ih d' x (h1 i d' x e3 e2) (ho.1 d' (Yj e3))).1
    . obtain⟨d',e3,rfl⟩:=kX e1;exact(ih d' x (h2 i d' x e3 e2) (ho.2 d' (Yj e3))).1
    simp only[D.nr,XU];refine⟨Bg λd hd=>?_,Bg λd hd=>?_⟩
    .
     obtain⟨d',e1,rfl⟩:=Yt.1 hd;obtain⟨i,hi⟩:=Zv e1;have hlt:i<fs.size:=by rw[<-hf];exact(X7.1 hi).1
     exact(ih d' _ (h1 i d' _ hi (ZN hlt)) (ho.1 d' e1)).2
    obtain⟨d',e1,rfl⟩:=Yt.1 hd;obtain⟨i,hi⟩:=Zv e1;have hlt:i<cs.size:=by rw[<-hc];exact(X7.1 hi).1
    exact(ih d' _ (h2 i d' _ hi (ZN hlt)) (ho.2 d' e1)).2
  | _=>exact⟨hr.clean ho λb hb=>hb,ho⟩
def Qu [Glob P]{h:H}{g:Mem}{w:World}(hm:HM P h g w){k:FuncId}{ys:List D}{vs:List Value}{res:D}(hys:aB w g ys vs)(hct:PureCt P k (ys.map (ji h)) res)(hfl:flat res=true)(hso : ∀y∈ys,dP h 5 y) :
  CallsIn Fence.wide 0 P k vs.toArray w λe w'=>∃v g',e = .returned v/\ag w' g' res v/\HM P h g' w'/\ax g g' w w' /\ ∀r,g'.U r->g.U r:=by
 obtain⟨hbd,hnr,hct⟩:=hct
 have hds:aB w (ML g) (ys.map (ji h)) vs:=by
  refine⟨by simpa using hys.1,λi d x h1 h2=>?_⟩
  obtain⟨y,h3,rfl⟩:=kX h1;exact(H6 hm 5 y x (vC (hys.2 i y x h3 h2)) (hso y (Yj h3))).1.wk
 refine(hct w (λb=>g.I b \/ ∃r c s,g.M r=some (some b,c,s)) _ (λb hb=>?_) (hm.gr.later λb hb=>⟨.inl hb,rfl⟩) hds).mono ?_
 .
  rcases hb with hb|⟨r,c,s,hb⟩
  . exact hm.imm b hb
  exact(pU hm hb).1
 rintro e w' ⟨v,rfl,hbel,hv⟩
 have mono:ax g g w w':=⟨hbel.os,hbel.tape,hbel.output,hbel.size,hbel.drawn,λ_ h=>h,λ_ _=>.inl rfl,λr b c s h=>.inl ⟨r,c,s,h⟩,λ_ h=>h,λ_ h=>.inl h,λb hb _=>hbel.block b hb⟩
 refine⟨v,g,rfl,NK hv hfl,⟨hm.dead,λr bl hr=>?_,hm.inj,hm.used,λb hb=>YD (hm.imm b hb) hbel.size,hm.gr.later (hm.kept mono)⟩,mono,λ_ h=>h⟩
 obtain⟨blk,c,h1,h2,h3,h4,h5⟩:=hm.blk r bl hr
 refine⟨blk,c,h1,h2,h3,h4,?_⟩
 rcases h5 with h5|⟨b,cur,rfl,h6,h7,h8,h9⟩
 . exact .inl h5
 refine .inr ⟨b,cur,rfl,by rw[hbel.block b (pU hm h1).1];exact h6,h7,h8,λi row hi=>⟨(h9 i row hi).1,λj d hd=>?_⟩⟩
 obtain⟨u,k3,k4,k5⟩:=(h9 i row hi).2 j d hd
 exact⟨u,k3,k4,k5.later hm mono⟩
theorem Zj3 [Glob P]{C:aS}{f:Operand}{xs:List D}{h:H}{b:Nat}(hcf:C.cf=true)(hc:(kQ (words P) C f xs h b).2.2):kQ (words P) C f xs h b=((kQ (words P) { C with cf:=false,dp:=false } f xs h b).1,(kQ (words P) { C with cf:=false,dp:=false } f xs h b).2.1,(kQ (words P) C f xs h b).2.2)/\(kQ (words P) { C with cf:=false,dp:=false } f xs h b).2.2:=by
 unfold kQ at hc ⊢
 split at hc
 .
  rename_i k d ys
  by_cases hp:C.pure k=true
  . simp only[hp,hcf,Zn,Yp,Za]at hc ⊢;rw[UO hc.2];exact⟨rfl,hc.1,λh=>by rw[hc.2]at h;cases h⟩
  simp only[hp,Za]at hc;exact hc.elim
 .
  rename_i k first aD ys hnf
  by_cases hp:C.pure k=true
  .
   cases f<;>simp only[hp,hcf,Zn,Yp,Za]at hc ⊢ <;> first
    | (rw[UO hc.2];exact⟨rfl,hc.1,λh=>by rw[hc.2]at h;cases h⟩)
    | exact absurd rfl (hnf _)
  simp only[hp,Za]at hc;exact hc.elim
 exact hc.elim
theorem Xn [Glob P]{C:aS}(hcf:C.cf=false){h:H}{g:Mem}{w:World}(hm:HM P h g w){b n:Nat}(hb : ¬g.U b)(hn : ∀r,g.U r->r<n){f:Operand}{xs:List D}{args:Array Operand}{argTypes:Array TypeId}{o:Oper}(ho:o.op = .call { callee:=.value f,args,argTypes }){ρ:Operand->Value}(hρ : ∀k,ρ (.func k) = .func (.func k) #[] #[])
  (hr:aB w g xs (ρ f::args.toList.map ρ))(hc:(kQ (words P) C f xs h b).2.2) :
  ∃k vs,(execOp ρ o).run P w = .ok (.enter k vs) w/\CallsIn Fence.wide 0 P k vs w λe w'=>∃v g',e = .returned v/\ag w' g' (kQ (words P) C f xs h b).1 v/\HM P (kQ (words P) C f xs h b).2.1 g' w'/\ax g g' w w' /\ ∀r,g'.U r->g.U r\/r=b:=by
 have hex : ∀k fs cs,ρ f = .func (.func k) fs cs->dY P k=true->(execOp ρ o).run P w = .ok (.enter k (fs++args.map ρ++cs)) w:=by
  intro k fs cs hf hbd
  simp[execOp,ho,resolve,Deferred.ofValue,hf,invoke,vY hbd]
 unfold kQ at hc ⊢
 split at hc
 .
  rename_i k d ys
  have hys:aB w g ys (args.toList.map ρ):=hr.tail
  by_cases hp:C.pure k=true
  .
   cases hdp:C.dp with
   | true =>
    simp only[hp,hcf,hdp,Zn,Yp,Za]at hc ⊢;obtain⟨⟨hbd,hnr,hct⟩,hfl,hso⟩:=hc;have e:=hex k #[] #[] (hρ k) hbd;simp only[Array.empty_append,Array.append_empty]at e;refine⟨k,_,e,?_⟩;have ea:args.map ρ=(args.toList.map ρ).toArray:=by apply Zq;simp
    rw[ea];exact(Qu hm hys ⟨hbd,hnr,hct⟩ hfl hso).mono λe w'⟨v,g',q1,q2,q3,q4,q5⟩=>⟨v,g',q1,q2,q3,q4,λr hr=>.inl (q5 r hr)⟩
   | false =>
   simp only[hp,hcf,hdp,Zn,Yp,Za]at hc ⊢;obtain⟨⟨hbd,hnr,hct⟩,hfl⟩:=hc;have e:=hex k #[] #[] (hρ k) hbd;simp only[Array.empty_append,Array.append_empty]at e;refine⟨k,_,e,?_⟩;have ea:args.map ρ=(args.toList.map ρ).toArray:=by apply Zq;simp
   rw[ea];exact(Sa hm hys ⟨hbd,hnr,hct⟩ hfl).mono λe w'⟨v,g',q1,q2,q3,q4,q5⟩=>⟨v,g',q1,q2,q3,q4,λr hr=>.inl (q5 r hr)⟩
  simp only[hp,Za,Yp]at hc
 .
  rename_i k first aD ys _
  have hf:=hr.head;generalize hv:ρ f=vf at hf hr
  cases hf with|fn _ _ _ fs cs l1 l2 r1 r2 =>
  have e:fs++args.map ρ++cs=(fs.toList++args.toList.map ρ++cs.toList).toArray:=by apply Zq;simp
  have hzs:aB w g (first++ys++aD) (fs.toList++args.toList.map ρ++cs.toList):=aB.append (aB.append ⟨by simpa using l1,λi d x h1 h2=>r1 i d x h1 (by simpa using h2)⟩ hr.tail) ⟨by simpa using l2,λi d x h1 h2=>r2 i d x h1 (by simpa using h2)⟩
  by_cases hp:C.pure k=true
  .
   cases hdp:C.dp with
   | true =>
    simp only[hp,hcf,hdp,Zn,Yp,Za]at hc ⊢;refine⟨k,_,hex k fs cs hv hc.1.1,?_⟩;rw[e];exact(Qu hm hzs hc.1 hc.2.1 hc.2.2).mono λe w'⟨v,g',q1,q2,q3,q4,q5⟩=>⟨v,g',q1,q2,q3,q4,λr hr=>.inl (q5 r hr)⟩
   | false =>
   simp only[hp,hcf,hdp,Zn,Yp,Za]at hc ⊢;refine⟨k,_,hex k fs cs hv hc.1.1,?_⟩;rw[e];exact(Sa hm hzs hc.1 hc.2).mono λe w'⟨v,g',q1,q2,q3,q4,q5⟩=>⟨v,g',q1,q2,q3,q4,λr hr=>.inl (q5 r hr)⟩
  simp only[hp,Za,Yp]at hc
 exact hc.elim
theorem Zj2 [Glob P]{C:aS}{h:H}{g:Mem}{w:World}(hm:HM P h g w){b n:Nat}(hb : ¬g.U b)(hn : ∀r,g.U r->r<n){f:Operand}{xs:List D}{args:Array Operand}{argTypes:Array TypeId}{o:Oper}(ho:o.op = .call { callee:=.value f,args,argTypes }){ρ:Operand->Value}(hρ : ∀k,ρ (.func k) = .func (.func k) #[] #[])
  (hr:aB w g xs (ρ f::args.toList.map ρ))(hc:(kQ (words P) C f xs h b).2.2) :
  ∃k vs,(execOp ρ o).run P w = .ok (.enter k vs) w/\CallsIn Fence.wide 0 P k vs w λe w'=>∃v g',e = .returned v/\ag w' g' (kQ (words P) C f xs h b).1 v/\HM P (kQ (words P) C f xs h b).2.1 g' w'/\ax g g' w w' /\ ∀r,g'.U r->g.U r\/r=b:=by
 cases hcf:C.cf with
 | false=>exact Xn hcf hm hb hn ho hρ hr hc
 | true =>
  obtain⟨e,h2⟩:=Zj3 hcf hc;rw[e];exact Xn (C:={ C with cf:=false,dp:=false }) rfl hm hb hn ho hρ hr h2
end Go.DL
namespace Go.DL
open Go.RowKit
variable {P : Program} {C : aS}
def Marks(B:Nat)(g:Mem):List Deferred->World->Prop
 | [],_=>True
 | d::ds,w=>(∃D,d.target = .collected D/\w.heap[D]? = some (.deferred (some []))/\(∀d'∈ds,d'.target ≠ .collected D)/\B<=D /\ ¬g.I D)/\Marks B g ds w
theorem xY [Glob P]{h:H}{g:Mem}{w:World}(hm:HM P h g w){D:Nat}{o:Obj}(hD:w.heap[D]? = some o)(ho : ∀c e f,o ≠ .cells c e f)(ho2 : ∀c e,o ≠ .map c e:=by intro c e;simp):∀r c s,g.M r≠some (some D,c,s):=by
 intro r c s e
 cases hr:h r with
 | none=>rw[hm.dead r hr]at e;cases e
 | some bl =>
  obtain⟨blk,c',h1,_,_,_,h5⟩:=hm.blk r bl hr;rw[e]at h1;simp only[Yf,YK]at h1
  rcases h5 with⟨h6,_⟩|⟨b',cur,h6,h7,_⟩
  . rw[<-h1.1]at h6;cases h6
  rw[<-h1.1]at h6;cases h6
  obtain⟨x,hx,hy⟩:=h7.some;rw[hD]at hx;cases hx
  rcases hy with⟨_,_,_,hy⟩|⟨_,_,hy⟩
  . exact ho _ _ _ hy
  exact ho2 _ _ hy
def Fb [Glob P]{h:H}{g g':Mem}{w w':World}(hm:HM P h g w)(k:ax g g' w w'){D:Nat}{o:Obj}(hD:w.heap[D]? = some o)(ho : ∀c e f,o ≠ .cells c e f)(ho2 : ∀c e,o ≠ .map c e:=by intro c e;simp):w'.heap[D]? = some o:=by
 rw[k.same D (Yk.1 hD).1 (xY hm hD ho ho2)];exact hD
theorem Marks.later [Glob P]{h:H}{g g':Mem}{w w':World}(hm:HM P h g w)(k:ax g g' w w'){B:Nat}:∀{ds:List Deferred},Marks B g ds w->Marks B g' ds w'
 | [],_=>trivial
 | d::ds,⟨⟨D,h1,h2,h3,h4,h5⟩,h6⟩=>⟨⟨D,h1,Fb hm k h2 (λc e f=>by simp),h3,h4,λhI=>by
   rcases k.inew D hI with e|e|⟨r,c,s,e⟩
   . exact h5 e
   . have:=(Yk.1 h2).1;omega
   exact xY hm h2 (λc e f=>by simp) (λc e=>by simp) r c s e⟩,h6.later hm k⟩
structure dn where
 n:Nat
 ds:List Deferred
 fn : ∀d∈ds,∀D,d.target ≠ .collected D
def dn.of(n:Nat):dn:=⟨n,[],λ_ h=>by simp at h⟩
def ky(B:dn)(g:Mem)(ds:List Deferred)(w:World):Prop:=∃ms,ds=ms++B.ds/\Marks B.n g ms w
theorem ky.map{B:dn}{g g':Mem}{ds:List Deferred}{w w':World}(h:ky B g ds w)(k : ∀ms,Marks B.n g ms w->Marks B.n g' ms w'):ky B g' ds w' :=
 let⟨ms,h1,h2⟩:=h;⟨ms,h1,k ms h2⟩
def ky.start{B:dn}{g:Mem}{w:World}:ky B g B.ds w:=⟨[],rfl,trivial⟩
theorem ky.later [Glob P]{h:H}{g g':Mem}{w w':World}(hm:HM P h g w)(k:ax g g' w w'){B:dn}{ds:List Deferred}(hd:ky B g ds w):ky B g' ds w':=hd.map λ_ h=>h.later hm k
def ky.marks{n:Nat}{g:Mem}{ds:List Deferred}{w:World}(h:ky (dn.of n) g ds w):Marks n g ds w:=by
 obtain⟨ms,h1,h2⟩:=h
 rw[h1]
 show Marks n g (ms++[]) w
 rw[Yv]
 exact h2
variable {B : dn}
structure St(P:Program)[Glob P](B:dn)(s:S)(g:Mem)(a:Act)(w:World):Prop where
 sz:a.tmps.size=s.n
 tm : ∀i,ag w g (s.t i) (a.tmps.getD i undef)
 mem:HM P s.h g w
 df:ky B g a.defers w
 en:s.e.p g w
 bd:B.n<=w.heap.size
def Fw(ro:Option Nat):Fence:={ Fence.wide with round:=ro }
def yO [Glob P]{ro:Option Nat}{f:FuncId}{args:Array Value}{w:World}{R:Ending->World->Prop}{n m:Nat}(h:CallsIn Fence.wide n P f args w R):CallsIn (Fw ro) m P f args w R :=
 ⟨trivial,λcs _=>h.2 cs (room_wide _)⟩
theorem bX [Glob P]{s:S}{g:Mem}{a:Act}{w:World}(hs:St P B s g a w)(x:Operand):ag w g (s.ev x) (a.eval x):=by
 cases x with
 | tmp t=>exact hs.tm t
 | const v=>exact IW w g v
 | global i=>exact .v _
 | func f=>exact .fn (.func f) [] [] #[] #[] rfl rfl (by simp) (by simp)
theorem vV [Glob P]{s:S}{g:Mem}{a:Act}{w:World}(hs:St P B s g a w):∀xs:List Operand,aB w g (xs.map s.ev) (xs.map a.eval)
 | []=>.nil
 | x::xs=>.cons (bX hs x) (vV hs xs)
theorem ZbP{w:World}{g:Mem}{d:D}{v:Value}(h:ag w g d v)(hs:sg d=true):ag w g (sd d) v:=by
 cases d<;>first|exact h|skip
 cases h with
 | cond _ _ _ ht hf=>exact ht hs
theorem wC{w:World}{g:Mem}:∀{ds:List D}{vs:List Value},aB w g ds vs->ds.all sg=true->aB w g (ds.map sd) vs
 | [],vs,h,_=>by rw[h.of_nil];exact .nil
 | d::ds,vs,h,hs=>by
  obtain⟨x,xs,rfl,h1,h2⟩:=h.of_cons;simp only[List.all_cons,XU]at hs;exact .cons (ZbP h1 hs.1) (wC h2 hs.2)
theorem mI [Glob P]{s:S}{g g':Mem}{a:Act}{w w':World}(hs:St P B s g a w)(k:ax g g' w w'){h':H}(hm:HM P h' g' w'){dst:Option Tmp}(hd:dK s.n dst=true){d:D}{v:Value}(hv:ag w' g' d v)(ok:Prop) :
  St P B { s with t:=s.put dst d,h:=h',ok:=ok } g' (a.put dst v) w':=by
 refine⟨?_,λi=>?_,hm,?_,Env.later hs.mem k hs.en,Yh hs.bd k.size⟩
 . cases dst<;>simp[Act.put,hs.sz]
 .
  cases dst with
  | none=>exact(hs.tm i).later hs.mem k
  | some j =>
   simp only[dK,XW]at hd;simp only[S.put,Act.put]
   by_cases e:i=j
   .
    subst e;rw[bN];have:(a.tmps.setIfInBounds i v).getD i undef=v:=by
     have:i<a.tmps.size:=by rw[hs.sz];exact hd
     simp[this]
    rw[this];exact hv
   rw[aK _ _ _ _ e];have:(a.tmps.setIfInBounds j v).getD i undef=a.tmps.getD i undef:=by
    simp[Ne.symm e]
   rw[this];exact(hs.tm i).later hs.mem k
 have:(a.put dst v).defers=a.defers:=by cases dst<;>rfl
 rw[this];exact hs.df.later hs.mem k
theorem N8 [Glob P]{W:cu}{op:Op}{xs:List D}{h:H}{b:Nat}(hc:bW C op ≠ .writes):(bg P W C op xs h b).2.1=h:=by
 unfold bg
 split<;>first
  | rfl
  | (exfalso;exact hc rfl)
  | skip
 .
  have hb:C.bs=false:=by
   cases hb:C.bs with
   | false=>rfl
   | true=>exact absurd (by simp[bW,hb]) hc
  simp only[hb,Yp,Za];rfl
 rename_i f args argTypes
 unfold kQ
 split
 . split<;>first|rfl|(split<;>first|rfl|(split<;>rfl))
 . split<;>first|rfl|(split<;>first|rfl|(split<;>rfl))
 rfl
def Zhg{op:Op}(h:BC op=true):∃f args argTypes,op = .call { callee:=.value f,args,argTypes }:=by
 unfold BC at h
 split at h
 . exact⟨_,_,_,rfl⟩
 cases h
def N9 [Glob P]{s:S}{g:Mem}{a:Act}{w:World}(hs:St P B s g a w){b N:Nat}(hb : ¬g.U b)(hN : ∀r,g.U r->r<N){o:Oper}(hc:(aY P (words P) C true o.op ((aV o.op).map s.ev) s.h b).2.2)
  {ro:Option Nat}{n:Nat}{K:Act->World->Prop}{Q:Exit->Act->World->Prop}
  (hK : ∀v g' w',ag w' g' (aY P (words P) C true o.op ((aV o.op).map s.ev) s.h b).1 v->HM P (aY P (words P) C true o.op ((aV o.op).map s.ev) s.h b).2.1 g' w'->ax g g' w w'->(∀r,g'.U r->g.U r\/r=b)->K (a.put o.dst v) w') :
  o.wpIn (Fw ro) n P a w K Q:=by
 have hdef : ∀c,o.op ≠ .defer c:=by
  intro c e;rw[e]at hc
  simp[aY,fE,bg]at hc
 have j6:o.semAt (Fw ro).round a.eval=execOp a.eval o:=Oper.semAt_eq _ _ _ hdef
 refine⟨λ_ _=>trivial,?_⟩
 rw[j6]
 have done:Does P g w b ((execOp a.eval o).run P w) (aY P (words P) C true o.op ((aV o.op).map s.ev) s.h b).1 (aY P (words P) C true o.op ((aV o.op).map s.ev) s.h b).2.1->o.uponIn (Fw ro) n P a K Q ((execOp a.eval o).run P w):=by
  rintro⟨v,g',w',hr,h1,h2,h3,h4⟩
  rcases hr with hr|⟨hr,rfl⟩
  . rw[hr,Oper.uponIn_value];exact hK v g' w' h1 h2 h3 h4
  rw[hr,Oper.uponIn_skip];exact hK undef g' w' h1 h2 h3 h4
 by_cases hp:fE o.op=true
 . simp only[aY,hp,Zn]at hc hK done ⊢;exact done (ZeI hs.mem (vV hs _) hp rfl hc)
 simp only[aY,hp,Za,Yp]at hc hK done
 obtain⟨h1,h2⟩:=hc
 have hx:=wC (vV hs (aV o.op)) (h1 trivial)
 by_cases hcall:BC o.op=true
 .
  obtain⟨f,args,argTypes,ho⟩:=Zhg hcall;rw[ho]at h2 hx hK;simp only[bg,aV]at h2 hx hK;obtain⟨k,vs,hrun,Zhu⟩:=Zj2 hs.mem hb hN ho (λk=>rfl) hx h2
  rw[hrun,Oper.uponIn_enter];refine⟨λh=>by simp[Fw,Fence.wide]at h,yO (Zhu.mono ?_)⟩
  rintro e w' ⟨v,g',rfl,q1,q2,q3,q4⟩;exact hK v g' w' q1 q2 q3 q4
 exact done (Zip hs.mem hb hx (by simpa using hcall) h2)
def ZaW [Glob P]{s:S}{g:Mem}{a:Act}{w:World}(hs:St P B s g a w){dst:Option Tmp}(hd:dK s.n dst=true)(d:D)(ok:Prop) :
  St P B { s with t:=s.put dst (.cond false d),ok:=ok } g (a.put dst undef) w :=
 mI hs (ax.refl g w) hs.mem hd (.cond false d undef (λh=>by cases h) (λ_=>rfl)) ok
theorem Zhz [Glob P]{s:S}{g:Mem}{a:Act}{w:World}(hs:St P B s g a w){ops:Array Oper}{j:Nat}{want:Bool}(hk:uL (((ops.toList[j]?).bind (·.dst)).elim .junk s.t)=true) :
  (yielded ops a.tmps j==some want)=lI (((ops.toList[j]?).bind (·.dst)).elim .junk s.t) want:=by
 rw[Zc]at hk ⊢
 unfold yielded
 cases hd:(ops[j]?).bind (·.dst)with
 | none=>rw[hd]at hk;simp[uL]at hk
 | some d =>
  rw[hd]at hk;simp only[Option.elim,Option.bind_some]at hk ⊢;have hr:=hs.tm d;have hv : ∀v,a.tmps.getD d undef=v->v≠undef->a.tmps[d]? = some v:=by
   intro v e hne
   cases hq:a.tmps[d]? with
   | none =>
    have hq':=Array.getElem?_eq_none_iff.1 hq;simp only[Array.getD]at e;rw[dif_neg (by omega)]at e
    exact absurd e.symm hne
   | some x=>simp[hq]at e;rw[e]
  generalize hv0:a.tmps.getD d undef=v0 at hr hv;generalize hd0:s.t d=d0 at hr hk
  cases hr with
  | v x =>
   cases v0<;>simp only[uL]at hk<;>try (cases hk;done)
   rename_i bv
   rw[hv _ rfl (by simp[undef])]
   simp[lI]
  | cond g0 d1 _ ht hf =>
   cases g0 with
   | true =>
    have h1:=ht rfl
    cases h1 with
    | v x =>
     cases v0<;>simp only[uL]at hk<;>try (cases hk;done)
     rename_i bv
     rw[hv _ rfl (by simp[undef])]
     simp[lI]
    | _=>simp[uL]at hk
   | false =>
    have h1:=hf rfl;subst h1
    split
    .
     rename_i b e
     have hlt:=(Yk.1 e).1;rw[ZN hlt]at e;simp only[Array.getD,dif_pos hlt]at hv0;simp only[Yf]at e;have:=hv0.symm.trans e
     simp[undef]at this
    have hz:lI (.cond false d1) want=false:=by
     unfold lI
     split
     . rename_i e;cases e
     . rename_i e;cases e;simp
     rfl
    rw[hz];rfl
  | _=>simp[uL]at hk
theorem Gj [Glob P]{s:S}{g:Mem}{a:Act}{w:World}(hs:St P B s g a w){b i N:Nat}(hb : ¬g.U (b+i))(hN : ∀r,g.U r->r<N){ops:Array Oper}{o:Oper}(hi:ops[i]? = some o)(hok:(dJ P (words P) C ops.toList b i o s).ok)
  {ro:Option Nat}{n:Nat}{K:Act->World->Prop}{Q:Exit->Act->World->Prop}
  (hK : ∀g' a' w',St P B (dJ P (words P) C ops.toList b i o s) g' a' w'->ax g g' w w'->(∀r,g'.U r->g.U r\/r=b+i)->K a' w'):wpOpIn (Fw ro) n P ops Q i K a w:=by
 unfold wpOpIn
 rw[hi]
 simp only
 unfold dJ at hok hK
 cases hg:o.guard with
 | none =>
  rw[hg]at hok hK;simp only at hok hK;obtain⟨_,h2,h3⟩:=hok;have hw:Region.wanted o (yielded ops a.tmps)=true:=by simp[Region.wanted,hg]
  rw[X3 hw];exact N9 hs hb hN h3 λv g' w' h4 h5 h6 h7=>hK g' _ w' (mI hs h6 h5 h2 h4 _) h6 h7
 | some jw =>
  obtain⟨j,want⟩:=jw;rw[hg]at hok hK;simp only at hok hK;obtain⟨_,h2,h3,h4,h5⟩:=hok;have hgv:=Zhz hs (want:=want) h3;have hwt:Region.wanted o (yielded ops a.tmps)=lI (((ops.toList[j]?).bind (·.dst)).elim .junk s.t) want:=by simp only[Region.wanted,hg];exact hgv
  rw[hwt];generalize lI (((ops.toList[j]?).bind (·.dst)).elim .junk s.t) want=gv at *
  cases gv with
  | false =>
   rw[XV (by simp)]
   exact⟨λ_ _=>trivial,hK g _ w (ZaW hs h2 _ _) (ax.refl g w) λ_ h=>.inl h⟩
  | true =>
   rw[X3 rfl];have he:(aY P (words P) C true o.op ((aV o.op).map s.ev) s.h (b+i)).2.1=s.h:=by
    unfold aY
    split
    . rfl
    exact N8 h4
   refine N9 hs hb hN (h5 rfl) λv g' w' q1 q2 q3 q4=>?_
   rw[he]at q2;exact hK g' _ w' (mI hs q3 q2 h2 (.cond true _ v (λ_=>q1) (λh=>by cases h)) _) q3 q4
def NY [Glob P]{W:cu}{L:List Oper}{b i:Nat}{o:Oper}{s:S}(h:(dJ P W C L b i o s).ok):s.ok:=by
 unfold dJ at h
 split at h
 . exact h.1
 exact h.1
def Cb [Glob P]{W:cu}{L:List Oper}{b i:Nat}{o:Oper}{s:S}:(dJ P W C L b i o s).n=s.n/\(dJ P W C L b i o s).nx=s.nx:=by
 unfold dJ
 split<;>exact⟨rfl,rfl⟩
theorem J2 [Glob P]{W:cu}{L:List Oper}{b:Nat}:∀{os:List Oper}{i:Nat}{s:S},(aZ P W C L b i os s).ok->s.ok
 | [],_,_,h=>h
 | _::_,_,_,h=>NY (J2 (by exact h))
theorem Zih [Glob P]{ops:Array Oper}{b:Nat}{ro:Option Nat}{n:Nat}{Q:Exit->Act->World->Prop}{w0:World}{g0:Mem}:∀(k i:Nat)(s:S)(g:Mem)(a:Act)(w:World),St P B s g a w->ax g0 g w0 w->(∀r,g.U r->r<b+i) ->
  i+k=ops.size->(aZ P (words P) C ops.toList b i (ops.toList.drop i) s).ok ->
  (∀g' a' w',St P B (aZ P (words P) C ops.toList b i (ops.toList.drop i) s) g' a' w'->ax g0 g' w0 w'->(∀r,g'.U r->r<b+ops.size)->Q .normal a' w') ->
  wpOpsIn (Fw ro) n P ops Q (List.range' i k) a w:=by
 intro k
 induction k with
 | zero =>
  intro i s g a w hs hm hU hk hok hQ;have:ops.toList.drop i=[]:=Y3 (by simp;omega)
  rw[this]at hQ;exact hQ g a w hs hm (λr hr=>by have:=hU r hr;omega)
 | succ k ih =>
  intro i s g a w hs hm hU hk hok hQ;have hlt:i<ops.size:=by omega
  have hd:ops.toList.drop i=ops[i]::ops.toList.drop (i+1):=by rw[YC (by simpa using hlt)];simp
  rw[hd]at hok hQ;simp only[aZ]at hok hQ;rw[Y9,wpOpsIn_cons];refine Gj hs (b:=b) (N:=b+i) (λh=>by have:=hU _ h;omega) hU (by simp[hlt]) (J2 hok) λg' a' w' h1 h2 h3=>?_
  exact ih (i+1) _ g' a' w' h1 (hm.trans h2) (λr hr=>by
                                 rcases h3 r hr with h|h;· have:=hU r h;omega
                                 omega) om hok hQ
end Go.DL
namespace Go.DL
open Go.RowKit
variable {P : Program} {C : aS} {B : dn}
def tmpOf:Operand->Option Tmp
 | .tmp t=>some t
 | _=>none
def looks(L:List Oper)(o:Oper):List Tmp :=
 (aV o.op).filterMap tmpOf++(match o.guard with|some (j,_)=>((L[j]?).bind (·.dst)).toList|none=>[])
def meets:Ef->Ef->Bool
 | .none,_|_,.none=>false
 | .reads,.reads=>false
 | _,_=>true
def Aq(C:aS)(L:List Oper)(x y:Oper):Bool :=
 (match x.dst with|some d=>!(looks L y).contains d&&y.dst != some d|none=>true) &&
 (match y.dst with|some d=>!(looks L x).contains d|none=>true) && !meets (bW C x.op) (bW C y.op)
def maker(o:Oper):Bool:=(match o.op with | .alloc _ | .box _ _ | .makeSlice .. | .buildSlice .. => true|_=>false)&&o.guard.isNone
def zl(op:Op):Bool:=match op with
 | .load .. | .indexAddr .. | .slice .. | .lookup .. => true
 | _=>false
def reader(o:Oper):Bool:=zl o.op&&o.guard.isNone
def xA(C:aS)(o:Oper):Bool:=match o.op with
 | .call { callee:=.value f,.. }=>Fs f
 | _=>true
def iK(L:List Oper)(x y:Oper):Bool :=
 (match x.dst with|some d=>!(looks L y).contains d&&y.dst != some d|none=>true) &&
 (match y.dst with|some d=>!(looks L x).contains d|none=>true)
def mo(C:aS)(L:List Oper)(x y:Oper):Bool :=
 Aq C L x y||(iK L x y&&L.all (xA C)&&((maker x&&reader y)||(reader x&&maker y)||(maker x&&maker y)))
def KA(acc:List Nat)(o:Oper):Nat:=o.after.toList.foldl (λs e=>if Region.binds .any e then s ||| 2^e.on ||| acc.getD e.on 0 else s) 0
def ed:List Oper->List Nat->List Nat
 | [],acc=>acc
 | o::os,acc=>ed os (acc++[KA acc o])
def qZ(C:aS)(L:List Oper):Bool :=
 let B:=ed L []
 (List.range L.length).all λi=>(List.range i).all λj=>(B.getD i 0).testBit j||mo C L (L.getD j default) (L.getD i default)
theorem XE : ∀(os:List Oper)(acc:List Nat),∃B,ed os acc=acc++B/\B.length=os.length /\ ∀(k:Nat)o,os[k]? = some o->B[k]? = some (KA (acc++B.take k) o)
 | [],acc=>⟨[],by simp[ed],rfl,λk o h=>by simp at h⟩
 | o::os,acc=>by
  obtain⟨B,h1,h2,h3⟩:=XE os (acc++[KA acc o]);refine⟨KA acc o::B,by simp[ed,h1],by simp[h2],λk o' hk=>?_⟩
  cases k with
  | zero=>simp at hk;subst hk;simp
  | succ k =>
   simp at hk
   have:=h3 k o' hk
   simpa using this
theorem Vy(acc:List Nat)(j:Nat):∀(es:List Edge)(s:Nat),(es.foldl (λs e=>if Region.binds .any e then s ||| 2^e.on ||| acc.getD e.on 0 else s) s).testBit j=true ->
  s.testBit j=true \/ ∃e∈es,Region.binds .any e=true/\(e.on=j\/(acc.getD e.on 0).testBit j=true)
 | [],s,h=>.inl h
 | e::es,s,h=>by
  simp only[YH]at h
  rcases Vy acc j es _ h with h|⟨e',h1,h2,h3⟩
  .
   split at h
   .
    rename_i hb
    simp only[Nat.testBit_or,Yc]at h
    rcases h with(h|h)|h
    . exact .inl h
    . rw[Nat.testBit_two_pow]at h;exact .inr ⟨e,by simp,hb,.inl (by simpa using h)⟩
    exact .inr ⟨e,by simp,hb,.inr h⟩
   exact .inl h
  exact .inr ⟨e',by simp[h1],h2,h3⟩
theorem yS{L:List Oper}{X:Nat->Prop}(hX : ∀(i:Nat)o,L[i]? = some o->X i -> ∀e∈o.after.toList,Region.binds .any e=true->X e.on) :
  ∀(i:Nat)o,L[i]? = some o->(∀e∈o.after.toList,Region.binds .any e=true->X e.on) -> ∀j,((ed L []).getD i 0).testBit j=true->X j:=by
 obtain⟨BB,h1,h2,h3⟩:=XE L []
 simp only[X0]at h1 h3
 rw[h1]
 intro i
 induction i using Nat.strongRecOn with
 | _ i ih =>
  intro o hi hp j hj;have hBi:=h3 i o hi;rw[List.getD,hBi,YR]at hj
  rcases Vy _ j _ _ hj with h|⟨e,he,hb,h⟩
  . simp at h
  rcases h with rfl|h
  . exact hp e he hb
  rw[List.getD,Y6]at h
  split at h
  .
   rename_i hlt
   have hlB:i<BB.length:=by have:=(X7.1 hBi).1;exact this
   have hlL:e.on<L.length:=by omega
   exact ih e.on hlt L[e.on] (by simp) (hX e.on _ (by simp) (hp e he hb)) j h
  simp at h
def aN(P:Program)[Glob P](W:cu)(C:aS)(L:List Oper)(b i:Nat)(o:Oper)(n:Nat)(ev:Operand->D)(t:Nat->D)(h:H):D×H×Prop :=
 match o.guard with
 | none=>let r:=aY P W C true o.op ((aV o.op).map ev) h (b+i);(r.1,r.2.1,dK n o.dst=true/\r.2.2)
 | some (j,want) =>
  let gd:=((L[j]?).bind (·.dst)).elim .junk t
  let r:=aY P W C (lI gd want) o.op ((aV o.op).map ev) h (b+i)
  (.cond (lI gd want) r.1,h,dK n o.dst=true/\uL gd=true/\bW C o.op ≠ .writes/\(lI gd want=true->r.2.2))
theorem mf [Glob P]{W:cu}{L:List Oper}{b i:Nat}{o:Oper}{s:S}:dJ P W C L b i o s =
  { s with t:=s.put o.dst (aN P W C L b i o s.n s.ev s.t s.h).1,h:=(aN P W C L b i o s.n s.ev s.t s.h).2.1,ok:=s.ok/\(aN P W C L b i o s.n s.ev s.t s.h).2.2 }:=by
 unfold dJ aN
 cases o.guard<;>rfl
theorem C8 [Glob P]{W:cu}{L:List Oper}{b i:Nat}{o:Oper}{s s':S}{n:Nat}{h:H}(he : ∀x∈looks L o,s.t x=s'.t x):aN P W C L b i o n s.ev s.t h=aN P W C L b i o n s'.ev s'.t h:=by
 have h1:(aV o.op).map s.ev=(aV o.op).map s'.ev:=by
  refine Zd λx hx=>?_
  cases x with
  | tmp t=>exact he t (Yx.2 (.inl (Zw.2 ⟨.tmp t,hx,rfl⟩)))
  | _=>rfl
 unfold aN
 cases hg:o.guard with
 | none=>simp only[h1]
 | some jw =>
  obtain⟨j,want⟩:=jw;have h2:((L[j]?).bind (·.dst)).elim D.junk s.t=((L[j]?).bind (·.dst)).elim D.junk s'.t:=by
   cases hd:(L[j]?).bind (·.dst)with
   | none=>rfl
   | some d=>exact he d (Yx.2 (.inr (by rw[hg];simp[hd])))
  simp only[h1,h2]
theorem N7 [Glob P]{W:cu}{op:Op}{xs:List D}{h h':H}{b:Nat}(hc:bW C op = .none):bg P W C op xs h b=((bg P W C op xs h' b).1,h,(bg P W C op xs h' b).2.2):=by
 unfold bg
 split<;>first
  | rfl
  | (exfalso;exact Ef.noConfusion hc)
  | skip
 .
  rename_i t n ps
  have hb:C.bs=false:=by
   cases hb:C.bs with
   | false=>rfl
   | true=>simp[bW,hb]at hc
  simp only[hb,Yp,Za];rfl
 rename_i f args argTypes
 have hcf:C.cf=true:=by
  cases hcf:C.cf with
  | true=>rfl
  | false=>simp[bW,hcf,Fs]at hc
 unfold kQ
 split
 .
  simp only[hcf,Zn]
  split<;>rfl
 .
  simp only[hcf,Zn]
  split<;>rfl
 rfl
theorem VU [Glob P]{W:cu}{g:Bool}{op:Op}{xs:List D}{h h':H}{b:Nat}(hc:bW C op = .none):aY P W C g op xs h b=((aY P W C g op xs h' b).1,h,(aY P W C g op xs h' b).2.2):=by
 unfold aY
 split
 . rfl
 simp only
 rw[N7 (h:=h) (h':=h') hc]
theorem Md [Glob P]{W:cu}{L:List Oper}{b i:Nat}{o:Oper}{ev:Operand->D}{t:Nat->D}{n:Nat}{h h':H}(hc:bW C o.op = .none) :
  aN P W C L b i o n ev t h=((aN P W C L b i o n ev t h').1,h,(aN P W C L b i o n ev t h').2.2):=by
 unfold aN
 cases o.guard with
 | none=>simp only;rw[VU (h:=h) (h':=h') hc]
 | some jw=>simp only;rw[VU (h:=h) (h':=h') hc]
theorem CZ [Glob P]{W:cu}{L:List Oper}{b i:Nat}{o:Oper}{ev:Operand->D}{t:Nat->D}{n:Nat}{h:H}(hc:bW C o.op ≠ .writes):(aN P W C L b i o n ev t h).2.1=h:=by
 unfold aN
 cases o.guard with
 | none =>
  simp only;unfold aY
  split
  . rfl
  exact N8 hc
 | some jw=>rfl
def ZfX{y:Ef}(h:meets .writes y=false):y = .none:=by cases y<;>simp[meets]at h ⊢
def ZfW{x:Ef}(h:meets x .writes=false):x = .none:=by cases x<;>simp[meets]at h ⊢
theorem J3 [Glob P]{W:cu}{L:List Oper}{b i j:Nat}{x y:Oper}{s:S}(hs:iK L x y=true)
  (key : ∀(rx ry:D)(hx hy:H)(px py:Prop),(aN P W C L b i x s.n s.ev s.t s.h)=(rx,hx,px)->(aN P W C L b j y s.n s.ev s.t s.h)=(ry,hy,py) ->
   ∃hz,aN P W C L b j y s.n s.ev s.t hx=(ry,hz,py)/\aN P W C L b i x s.n s.ev s.t hy=(rx,hz,px)):dJ P W C L b j y (dJ P W C L b i x s)=dJ P W C L b i x (dJ P W C L b j y s):=by
 simp only[iK,XU]at hs
 obtain⟨h1,h2⟩:=hs
 have nx : ∀d,x.dst=some d->d ∉ looks L y/\y.dst≠some d:=by
  intro d hd;rw[hd]at h1;simp only[XU,Yb,ZC]at h1;exact⟨by simpa using h1.1,h1.2⟩
 have ny : ∀d,y.dst=some d->d ∉ looks L x:=by
  intro d hd;rw[hd]at h2
  simpa using h2
 have look : ∀{u:Oper}{s:S}{dst:Option Tmp}{r:D},(∀d,dst=some d->d ∉ looks L u) -> ∀z∈looks L u,s.t z=(S.put s dst r) z:=by
  intro u s dst r hd z hz
  cases dst with
  | none=>rfl
  | some d=>exact(aK _ _ _ _ (λe=>hd d rfl (by rw[<-e];exact hz))).symm
 have ly : ∀{h':H}{ok':Prop}{r:D}{n:Nat}{h:H},aN P W C L b j y n (S.ev { s with t:=s.put x.dst r,h:=h',ok:=ok' }) (s.put x.dst r) h=aN P W C L b j y n s.ev s.t h :=
  λ{h' ok' r n h}=>(C8 (s:=s) (s':={ s with t:=s.put x.dst r,h:=h',ok:=ok' }) (look λd hd=>(nx d hd).1)).symm
 have lx : ∀{h':H}{ok':Prop}{r:D}{n:Nat}{h:H},aN P W C L b i x n (S.ev { s with t:=s.put y.dst r,h:=h',ok:=ok' }) (s.put y.dst r) h=aN P W C L b i x n s.ev s.t h :=
  λ{h' ok' r n h}=>(C8 (s:=s) (s':={ s with t:=s.put y.dst r,h:=h',ok:=ok' }) (look λd hd=>ny d hd)).symm
 rw[mf (s:=s) (o:=x),mf (s:=s) (o:=y),mf (o:=y),mf (o:=x)]
 simp only[ly,lx]
 have hput : ∀r q,S.put { s with t:=s.put x.dst r } y.dst q=S.put { s with t:=s.put y.dst q } x.dst r:=by
  intro r q
  cases hx:x.dst with
  | none=>rfl
  | some d =>
   cases hy:y.dst with
   | none=>rfl
   | some d' =>
    have hne:d≠d':=λe=>(nx d hx).2 (by rw[hy,e])
    funext z
    simp only[S.put,upd]
    by_cases e1:z=d
    .
     have:z≠d':=λe=>hne (e1▸e)
     simp[e1,hne]
    simp[e1]
 have hput' : ∀r q h1 ok1 h2 ok2,S.put { s with t:=s.put x.dst r,h:=h1,ok:=ok1 } y.dst q=S.put { s with t:=s.put y.dst q,h:=h2,ok:=ok2 } x.dst r:=λr q _ _ _ _=>hput r q
 rcases hox:aN P W C L b i x s.n s.ev s.t s.h with⟨rx,hx,px⟩
 rcases hoy:aN P W C L b j y s.n s.ev s.t s.h with⟨ry,hy,py⟩
 obtain⟨hz,k1,k2⟩:=key rx ry hx hy px py hox hoy
 simp only[k1,k2]
 congr 1
 . exact hput' _ _ _ _ _ _
 exact propext ⟨λ⟨⟨a,b⟩,c⟩=>⟨⟨a,c⟩,b⟩,λ⟨⟨a,b⟩,c⟩=>⟨⟨a,c⟩,b⟩⟩
def VN [Glob P]{W:cu}{L:List Oper}{b i j:Nat}{x y:Oper}{s:S}(ha:Aq C L x y=true):dJ P W C L b j y (dJ P W C L b i x s)=dJ P W C L b i x (dJ P W C L b j y s):=by
 simp only[Aq,XU,Yb]at ha
 obtain⟨⟨h1,h2⟩,h3⟩:=ha
 refine J3 (by simp only[iK,XU];exact⟨h1,h2⟩) ?_
 generalize hX:bW C x.op=cx at h3
 generalize hY:bW C y.op=cy at h3
 intro rx ry hx hy px py e1 e2
 have ex:hx=(aN P W C L b i x s.n s.ev s.t s.h).2.1:=by rw[e1]
 have ey:hy=(aN P W C L b j y s.n s.ev s.t s.h).2.1:=by rw[e2]
 by_cases c1:cx = .writes
 .
  have c2:cy = .none:=ZfX (c1▸h3);subst c2;rw[CZ (by rw[hY];simp)]at ey
  subst ey;refine⟨hx,?_,e1⟩;rw[Md (h:=hx) (h':=s.h) hY,e2]
 rw[CZ (by rw[hX];exact c1)]at ex
 subst ex
 by_cases c2:cy = .writes
 . have c3:cx = .none:=ZfW (c2▸h3);refine⟨hy,e2,?_⟩;rw[Md (h:=hy) (h':=s.h) (by rw[hX,c3]),e1]
 rw[CZ (by rw[hY];exact c2)]at ey
 subst ey
 exact⟨s.h,e2,e1⟩
def bB(P:Program)[Glob P](W:cu)(C:aS)(L:List Oper)(b:Nat)(s:S)(i:Nat):S:=match L[i]? with
 | some o=>dJ P W C L b i o s
 | none=>s
theorem EK [Glob P]{W:cu}{L:List Oper}{b:Nat}:∀{l:List Nat}{s:S},(l.foldl (bB P W C L b) s).ok->s.ok
 | [],_,h=>h
 | i::l,s,h=>by
  have h1:=EK (l:=l) h;unfold bB at h1
  split at h1
  . exact NY h1
  exact h1
theorem VL [Glob P]{W:cu}{L:List Oper}{b:Nat}:∀(k i:Nat)(s:S),i+k=L.length->aZ P W C L b i (L.drop i) s=(List.range' i k).foldl (bB P W C L b) s:=by
 intro k
 induction k with
 | zero =>
  intro i s hk;rw[Y3 (by omega)]
  simp[aZ]
 | succ k ih =>
  intro i s hk;have hlt:i<L.length:=by omega
  rw[YC hlt,Y9];simp only[aZ,YH];rw[ih (i+1) _ (by omega)]
  congr 1
  simp[bB,hlt]
def named(n:Nat):D->Bool
 | .mrow r _ _=>r==n
 | .mptr r _ _=>r==n
 | .mp r=>r==n
 | _=>false
theorem ZgC{a:D}{h:H}{n:Nat}{bl:eZ}(hn:named n a=false):yh (upd h n (some bl)) a=yh h a:=by
 cases a with
 | mp r =>
  have:r≠n:=by simpa[named]using hn
  show(upd h n (some bl) r).bind qy=(h r).bind qy
  rw[aK _ _ _ _ this]
 | _=>rfl
theorem TS [Glob P]{t:TypeId}{ok:Bool}{m k:D}{h:H}{n:Nat}{bl:eZ}(hn:named n m=false):rT P t ok m k (upd h n (some bl))=rT P t ok m k h:=by
 unfold rT
 rw[ZgC hn]
theorem Zgn{a:D}{h:H}{n:Nat}{bl:eZ}(hn:named n a=false):jL a (upd h n (some bl))=jL a h:=by
 cases a with
 | mptr r i off =>
  have:r≠n:=by simpa[named]using hn
  simp only[jL,aK _ _ _ _ this]
 | _=>rfl
theorem Uh [Glob P]{a:D}{h:H}{n:Nat}{bl:eZ}(hn:named n a=false):jo P a (upd h n (some bl))=jo P a h:=by
 unfold jo
 split
 . rfl
 exact Zgn hn
theorem UU [Glob P]{t:TypeId}{x ix:D}{h:H}{n:Nat}{bl:eZ}(hn:named n x=false):jr P t x ix (upd h n (some bl))=jr P t x ix h:=by
 unfold jr
 cases bQ P t with
 | none=>rfl
 | some e =>
  cases x with
  | mrow r off len =>
   have:r≠n:=by simpa[named]using hn
   cases ix with
   | v y=>cases y<;>first|rfl|simp only[aK _ _ _ _ this]
   | _=>rfl
  | list f rows =>
   cases ix with
   | v y=>cases y<;>rfl
   | _=>rfl
  | _=>cases ix<;>rfl
theorem QB [Glob P]{t:TypeId}{x:D}{l hh m:Option D}{h:H}{n:Nat}{bl:eZ}(hn:named n x=false):pX P t x l hh m (upd h n (some bl))=pX P t x l hh m h:=by
 cases x with
 | mrow r off len =>
  have:r≠n:=by simpa[named]using hn
  simp only[pX,aK _ _ _ _ this]
 | v y=>cases y<;>rfl
 | list f rows=>simp only[pX]
 | _=>rfl
theorem Iw{op:Op}(hc:zl op=true):(∃t x,op = .load t x)\/(∃t x y,op = .indexAddr t x y)\/(∃t x l hh m,op = .slice t x l hh m)\/(∃t m k ok,op = .lookup t m k ok):=by
 unfold zl at hc
 split at hc<;>first
  | cases hc
  | skip
 . exact .inl ⟨_,_,rfl⟩
 . exact .inr (.inl ⟨_,_,_,rfl⟩)
 . exact .inr (.inr (.inl ⟨_,_,_,_,_,rfl⟩))
 exact .inr (.inr (.inr ⟨_,_,_,_,rfl⟩))
theorem Zd4 [Glob P]{W:cu}{op:Op}{xs:List D}{h:H}{n b:Nat}{bl:eZ}(hc:zl op=true)(hn : ∀d∈xs,named n d=false) :
  bg P W C op xs (upd h n (some bl)) b=((bg P W C op xs h b).1,upd h n (some bl),(bg P W C op xs h b).2.2):=by
 rcases Iw hc with⟨t,x,rfl⟩|⟨t,x,y,rfl⟩|⟨t,x,l,hh,m,rfl⟩|⟨t,m,k,ok,rfl⟩
 .
  match xs,hn with
  | [],_=>rfl
  | [a],hn=>simp only[bg,still,mP,Uh (hn a (by simp))]
  | _::_::_,_=>rfl
 .
  match xs,hn with
  | [],_=>rfl
  | [_],_=>rfl
  | [a,c],hn=>simp only[bg,still,UU (hn a (by simp))]
  | _::_::_::_,_=>rfl
 .
  match xs,hn with
  | [],_=>rfl
  | a::al9,hn=>simp only[bg,still,QB (hn a (by simp))]
 match xs,hn with
 | [],_=>rfl
 | [_],_=>rfl
 | [a,c],hn=>simp only[bg,still,TS (hn a (by simp))]
 | _::_::_::_,_=>rfl
theorem I4{a:D}{n:Nat}(hn:named n a=true):(∃off len,a = .mrow n off len)\/(∃i off,a = .mptr n i off)\/a = .mp n:=by
 cases a with
 | mrow r off len =>
           have:r=n:=by simpa[named]using hn
           subst this;exact .inl ⟨_,_,rfl⟩
 | mptr r i off =>
          have:r=n:=by simpa[named]using hn
          subst this;exact .inr (.inl ⟨_,_,rfl⟩)
 | mp r =>
      have:r=n:=by simpa[named]using hn
      subst this;exact .inr (.inr rfl)
 | _=>cases hn
theorem Zd3 [Glob P]{W:cu}{op:Op}{xs:List D}{h:H}{n b:Nat}{bl:eZ}(hc:zl op=true)(hno:h n=none)(hok:(bg P W C op xs h b).2.2) :
  bg P W C op xs (upd h n (some bl)) b=((bg P W C op xs h b).1,upd h n (some bl),(bg P W C op xs h b).2.2):=by
 rcases Iw hc with⟨t,x,rfl⟩|⟨t,x,y,rfl⟩|⟨t,x,l,hh,m,rfl⟩|⟨t,m,k,ok,rfl⟩
 .
  match xs,hok with
  | [a],hok =>
   cases hna:named n a with
   | false=>simp only[bg,still,mP,Uh hna]
   | true =>
    exfalso
    simp only[bg,still,mP]at hok;obtain⟨q1,q2,_⟩:=hok
    rcases I4 hna with⟨off,len,rfl⟩|⟨i,off,rfl⟩|rfl<;>simp[jo,jL,hno]at q1<;>omega
 .
  match xs,hok with
  | [a,c],hok =>
   cases hna:named n a with
   | false=>simp only[bg,still,UU hna]
   | true =>
    rcases I4 hna with⟨off,len,rfl⟩|⟨i,off,rfl⟩|rfl
    .
     exfalso
     simp only[bg,still]at hok;unfold jr at hok
     split at hok
     .
      unfold wZ at hok
      split at hok
      . exact absurd hok.1 (by simp[zP])
      exact hok
     split at hok
     . rename_i e;cases e
     .
      rename_i e;cases e
      rw[hno]at hok;exact hok.2.2.2
     exact hok
    .
     have e : ∀h',jr P t (.mptr n i off) c h'=jr P t (.mptr n i off) c h:=by
      intro h';unfold jr
      cases bQ P t<;>rfl
     simp only[bg,still,e]
    exfalso
    simp only[bg,still]at hok;unfold jr at hok
    split at hok
    .
     unfold wZ at hok
     split at hok
     . exact absurd hok.1 (by simp[zP])
     exact hok
    exact hok
 .
  match xs,hok with
  | a::al9,hok =>
   cases hna:named n a with
   | false=>simp only[bg,still,QB hna]
   | true =>
    exfalso
    simp only[bg,still]at hok
    rcases I4 hna with⟨off,len,rfl⟩|⟨i,off,rfl⟩|rfl
    .
     simp only[pX]at hok
     split at hok
     . exact hok
     simp only[hno]at hok;exact hok.2.2.2
    . exact hok
    exact hok
 match xs,hok with
 | [a,c],hok =>
  cases hna:named n a with
  | false=>simp only[bg,still,TS hna]
  | true =>
   exfalso
   simp only[bg,still]at hok
   rcases I4 hna with⟨off,len,rfl⟩|⟨i,off,rfl⟩|rfl
   .
    unfold rT at hok
    split at hok
    . rename_i e;cases e
    exact hok
   .
    unfold rT at hok
    split at hok
    . rename_i e;cases e
    exact hok
   unfold rT at hok
   split at hok
   .
    rename_i e
    simp only[yh,hno]at e
    cases e
   exact hok
theorem Zf3 [Glob P]{W:cu}{op:Op}(hm:(match op with | .alloc _ | .box _ _ | .makeSlice .. | .buildSlice .. => true|_=>false)=true)(xs:List D)(b:Nat) :
  ∃r p,(∃bl,∀h,bg P W C op xs h b=(r,upd h b (some bl),p)) \/ ∀h,bg P W C op xs h b=(r,h,p):=by
 cases op with
 | alloc e =>
  match xs with
  | []=>exact⟨_,_,.inl ⟨_,λh=>rfl⟩⟩
  | _::_=>exact⟨_,_,.inr λh=>rfl⟩
 | box e x =>
  match xs with
  | []=>exact⟨_,_,.inr λh=>rfl⟩
  | [a]=>exact⟨_,_,.inl ⟨_,λh=>rfl⟩⟩
  | _::_::_=>exact⟨_,_,.inr λh=>rfl⟩
 | buildSlice t n ps =>
  cases hb:C.bs with
  | false=>exact⟨_,_,.inr λh=>by simp only[bg,hb,Yp,Za,still];rfl⟩
  | true =>
   cases he:bQ P t with
   | none=>exact⟨_,_,.inr λh=>by simp only[bg,hb,Zn,uT,he];rfl⟩
   | some e=>exact⟨_,_,.inl ⟨_,λh=>by simp only[bg,hb,Zn,uT,he];rfl⟩⟩
 | makeSlice t x y =>
  match xs with
  | []=>exact⟨_,_,.inr λh=>rfl⟩
  | [_]=>exact⟨_,_,.inr λh=>rfl⟩
  | _::_::_::_=>exact⟨_,_,.inr λh=>rfl⟩
  | [a,c] =>
   have key : ∃r p,(∃bl,∀h,qo P t h b a c=(r,upd h b (some bl),p)) \/ ∀h,qo P t h b a c=(r,h,p):=by
    by_cases hm : ∃k n k' m,a = .v (.int k n)/\c = .v (.int k' m)
    .
     obtain⟨k,n,k',m,rfl,rfl⟩:=hm
     cases he:bQ P t with
     | none=>exact⟨_,_,.inr λh=>by simp only[qo,he];rfl⟩
     | some e=>exact⟨_,_,.inl ⟨_,λh=>by simp only[qo,he];rfl⟩⟩
    refine⟨.junk,False,.inr λh=>?_⟩
    unfold qo
    split
    . exact absurd ⟨_,_,_,_,rfl,rfl⟩ hm
    rfl
   exact key
 | _=>cases hm
theorem Vz [Glob P]{W:cu}{L:List Oper}{b i:Nat}:∀(pre:List Nat)(s:S),(∀j∈pre,∀x y,L[j]? = some x->L[i]? = some y->Aq C L x y=true) ->
  bB P W C L b (pre.foldl (bB P W C L b) s) i=pre.foldl (bB P W C L b) (bB P W C L b s i)
 | [],s,_=>rfl
 | j::pre,s,h=>by
  simp only[YH];rw[Vz pre _ (λj' hj'=>h j' (by simp[hj']))]
  congr 1
  unfold bB
  cases hj:L[j]? with
  | none=>rfl
  | some x =>
   cases hi:L[i]? with
   | none=>rfl
   | some y=>exact VN (h j (by simp) x y hj hi)
def I9 [Glob P]{W:cu}{L:List Oper}{b i:Nat}{o:Oper}{ev:Operand->D}{t:Nat->D}{n:Nat}(hm:maker o=true) :
  ∃r p,(∃bl,∀h,aN P W C L b i o n ev t h=(r,upd h (b+i) (some bl),p)) \/ ∀h,aN P W C L b i o n ev t h=(r,h,p):=by
 simp only[maker,XU,Zb]at hm
 obtain⟨h1,h2⟩:=hm
 have hp:fE o.op=false:=by cases ho:o.op<;>rw[ho]at h1<;>first|rfl|cases h1
 obtain⟨r,p,h⟩:=Zf3 (P:=P) (C:=C) (W:=W) h1 (((aV o.op).map ev).map sd) (b+i)
 refine⟨r,dK n o.dst=true/\((true:Bool)=true->((aV o.op).map ev).all sg=true)/\p,?_⟩
 rcases h with⟨bl,h⟩|h
 .
  refine .inl ⟨bl,λhh=>?_⟩
  unfold aN;simp only[h2];unfold aY;simp only[hp,Yp,Za,h]
 refine .inr λhh=>?_
 unfold aN
 simp only[h2]
 unfold aY
 simp only[hp,Yp,Za,h]
theorem LQ{op:Op}(hc:zl op=true):fE op=false:=by
 rcases Iw hc with⟨t,x,rfl⟩|⟨t,x,y,rfl⟩|⟨t,x,l,hh,m,rfl⟩|⟨t,m,k,ok,rfl⟩<;>rfl
def EQ{o:Oper}(hr:reader o=true):zl o.op=true/\o.guard=none:=by
 simp only[reader,XU,Zb]at hr
 exact hr
def RB{o:Oper}(hr:reader o=true):bW C o.op ≠ .writes:=by
 rcases Iw (EQ hr).1 with⟨t,x,e⟩|⟨t,x,y,e⟩|⟨t,x,l,hh,m,e⟩|⟨t,m,k,ok,e⟩<;>simp[e,bW]
def RA [Glob P]{W:cu}{L:List Oper}{b i m:Nat}{o:Oper}{ev:Operand->D}{t:Nat->D}{n:Nat}{h:H}{bl:eZ}(hr:reader o=true)
  (hn:(∀d∈(aV o.op).map ev,named m (sd d)=false)\/(h m=none/\(aN P W C L b i o n ev t h).2.2)) :
  aN P W C L b i o n ev t (upd h m (some bl))=((aN P W C L b i o n ev t h).1,upd h m (some bl),(aN P W C L b i o n ev t h).2.2):=by
 obtain⟨hc,hg⟩:=EQ hr
 have hp:=LQ hc
 have key:bg P W C o.op (((aV o.op).map ev).map sd) (upd h m (some bl)) (b+i)=((bg P W C o.op (((aV o.op).map ev).map sd) h (b+i)).1,upd h m (some bl),(bg P W C o.op (((aV o.op).map ev).map sd) h (b+i)).2.2):=by
  rcases hn with hn|⟨h1,h2⟩
  .
   refine Zd4 hc λd hd=>?_
   obtain⟨d',h1,rfl⟩:=Yt.1 hd;exact hn d' h1
  refine Zd3 hc h1 ?_;simp only[aN,hg,aY,hp,Yp,Za]at h2;exact h2.2.2
 simp only[aN,hg,aY,hp,Yp,Za,key]
def PI [Glob P]{t:TypeId}{m k x:D}{h:H}{r:Nat}(hn:h r=none):(ul P t m k x h).1 r=none:=by
 unfold ul
 split
 .
  split
  .
   rename_i q bl hq
   split
   . exact(aK _ _ _ _ (λe=>by subst e;rw[hn]at hq;cases hq)).trans hn
   exact hn
  exact hn
 exact hn
theorem Zis [Glob P]{W:cu}{op:Op}{xs:List D}{h:H}{b r:Nat}(hc:(match op with | .call { callee:=.value f,.. }=>Fs f|_=>true)=true)(hr:r≠b)(hn:h r=none):(bg P W C op xs h b).2.1 r=none:=by
 by_cases hw:bW C op ≠ .writes
 . rw[N8 hw];exact hn
 have hw:bW C op = .writes:=by simpa using hw
 cases op with
 | alloc e =>
  match xs with
  | []=>simp only[bg,aK _ _ _ _ hr];exact hn
  | _::_=>exact hn
 | box e x =>
  match xs with
  | []=>exact hn
  | [a]=>simp only[bg,aK _ _ _ _ hr];exact hn
  | _::_::_=>exact hn
 | buildSlice t n ps =>
  have hb:C.bs=true:=by
   cases hb:C.bs with
   | true=>rfl
   | false=>simp[bW,hb]at hw
  simp only[bg,hb,Zn,uT]
  split
  . simp only[aK _ _ _ _ hr];exact hn
  exact hn
 | store t x y =>
  match xs with
  | []=>exact hn
  | [_]=>exact hn
  | _::_::_::_=>exact hn
  | [a,x] =>
   simp only[bg,lu]
   cases a with
   | mptr r' i off =>
    simp only
    cases hq:h r' with
    | none=>exact hn
    | some bl =>
     have:r≠r':=λe=>by subst e;rw[hn]at hq;cases hq
     simp only[aK _ _ _ _ this];exact hn
   | _=>exact hn
 | makeMap t ro=>simp only[bg,Bl,aK _ _ _ _ hr];exact hn
 | makeSlice t x y =>
  match xs with
  | []|[_]|_::_::_::_=>exact hn
  | [a,c] =>
   simp only[bg];unfold qo
   split
   .
    split
    . simp only[aK _ _ _ _ hr];exact hn
    exact hn
   exact hn
 | mapUpdate t m k x =>
  match xs with
  | []|[_]|[_,_]|_::_::_::_::_=>exact hn
  | [a,c,d]=>exact PI hn
 | insert t m k x =>
  match xs with
  | []|[_]|[_,_]|_::_::_::_::_=>exact hn
  | [a,c,d]=>exact PI hn
 | call c =>
  obtain⟨callee,args,ts⟩:=c
  cases callee with
  | value f =>
   simp only at hc
   cases hcf:C.cf<;>simp[bW,hc,hcf]at hw
  | builtin bi =>
   cases bi with
   | append =>
    match xs with
    | []=>exact hn
    | [_]=>exact hn
    | _::_::_::_=>exact hn
    | [x,y] =>
     simp only[bg]
     split
     .
      simp only[jh]
      split
      . exact hn
      split
      . simp only[aK _ _ _ _ hr];exact hn
      .
       rename_i r' n'
       cases hq:h r' with
       | none=>exact hn
       | some bl =>
        simp only[aK _ _ _ _ hr]
        by_cases e:r=r'
        . subst e;exact bN _ _ _
        rw[aK _ _ _ _ e];exact hn
      exact hn
     exact hn
   | _=>simp[bW]at hw
  | _=>simp[bW]at hw
 | _=>simp[bW]at hw
theorem NZ [Glob P]{W:cu}{L:List Oper}{b i r:Nat}{o:Oper}{s:S}(hc:xA C o=true)(hr:r≠b+i)(hn:s.h r=none):(dJ P W C L b i o s).h r=none:=by
 rw[mf]
 show(aN P W C L b i o s.n s.ev s.t s.h).2.1 r=none
 unfold aN
 cases o.guard with
 | some jw=>exact hn
 | none =>
  simp only[aY]
  split
  . exact hn
  exact Zis hc hr hn
theorem QA [Glob P]{W:cu}{L:List Oper}{b i:Nat}{x y:Oper}{s:S}(hs:iK L x y=true):(aV y.op).map (dJ P W C L b i x s).ev=(aV y.op).map s.ev:=by
 simp only[iK,XU]at hs
 refine Zd λz hz=>?_
 cases z with
 | tmp t =>
  rw[mf]
  show S.put s x.dst _ t=s.t t
  cases hd:x.dst with
  | none=>rfl
  | some d =>
   have h1:=hs.1;rw[hd]at h1;simp only[XU,Yb,ZC]at h1;have h2:d ∉ looks L y:=by simpa using h1.1
   refine aK _ _ _ _ λe=>h2 ?_
   subst e;exact Yx.2 (.inl (Zw.2 ⟨.tmp t,hz,rfl⟩))
 | _=>rfl
theorem GQ{L:List Oper}{x y:Oper}(h:mo C L x y=true):iK L x y=true:=by
 unfold mo at h
 simp only[Yc,XU]at h
 rcases h with h|h
 . simp only[Aq,XU]at h;simp only[iK,XU];exact h.1
 exact h.1.1
def VM [Glob P]{W:cu}{L:List Oper}{b i j:Nat}{x y:Oper}{s:S}(hij:j≠i)(ha:mo C L x y=true)
  (h1:maker x=true->reader y=true -> ∀d∈(aV y.op).map s.ev,named (b+j) (sd d)=false)
  (h2:reader x=true->maker y=true->s.h (b+i)=none/\(aN P W C L b j x s.n s.ev s.t s.h).2.2) :
  dJ P W C L b i y (dJ P W C L b j x s)=dJ P W C L b j x (dJ P W C L b i y s):=by
 have hs:=GQ ha
 unfold mo at ha
 simp only[Yc,XU]at ha
 rcases ha with ha|⟨_,(⟨hm,hr⟩|⟨hr,hm⟩)|⟨hm,hm2⟩⟩
 . exact VN ha
 .
  refine J3 hs λrx ry hx hy px py e1 e2=>?_
  obtain⟨r,p,⟨bl,h⟩|h⟩:=I9 (P:=P) (C:=C) (W:=W) (L:=L) (b:=b) (i:=j) (ev:=s.ev) (t:=s.t) (n:=s.n) hm
  .
   have e3:=RA (P:=P) (C:=C) (W:=W) (L:=L) (b:=b) (i:=i) (t:=s.t) (n:=s.n) (h:=s.h) (bl:=bl) hr (.inl (h1 hm hr));have e4:=h s.h;rw[e1]at e4
   cases e4
   refine⟨upd s.h (b+j) (some bl),by rw[e3,e2],?_⟩
   have:hy=s.h:=by
    have:=CZ (P:=P) (W:=W) (L:=L) (b:=b) (i:=i) (ev:=s.ev) (t:=s.t) (n:=s.n) (h:=s.h) (C:=C) (o:=y) (RB hr);rw[e2]at this;exact this
   rw[h hy,this]
  have e4:=h s.h;rw[e1]at e4
  cases e4
  exact⟨hy,e2,h hy⟩
 .
  refine J3 hs λrx ry hx hy px py e1 e2=>?_
  have hxs:hx=s.h:=by
   have:=CZ (P:=P) (W:=W) (L:=L) (b:=b) (i:=j) (ev:=s.ev) (t:=s.t) (n:=s.n) (h:=s.h) (C:=C) (o:=x) (RB hr);rw[e1]at this;exact this
  subst hxs;obtain⟨r,p,⟨bl,h⟩|h⟩:=I9 (P:=P) (C:=C) (W:=W) (L:=L) (b:=b) (i:=i) (ev:=s.ev) (t:=s.t) (n:=s.n) hm
  .
   have e3:=RA (P:=P) (C:=C) (W:=W) (L:=L) (b:=b) (i:=j) (t:=s.t) (n:=s.n) (h:=s.h) (bl:=bl) hr (.inr (h2 hr hm));have e4:=h s.h;rw[e2]at e4
   cases e4
   exact⟨_,e2,by rw[e3,e1]⟩
  have e4:=h s.h;rw[e2]at e4
  cases e4
  exact⟨_,e2,e1⟩
 refine J3 hs λrx ry hx hy px py e1 e2=>?_
 obtain⟨r1,p1,k1⟩:=I9 (P:=P) (C:=C) (W:=W) (L:=L) (b:=b) (i:=j) (ev:=s.ev) (t:=s.t) (n:=s.n) hm
 obtain⟨r2,p2,k2⟩:=I9 (P:=P) (C:=C) (W:=W) (L:=L) (b:=b) (i:=i) (ev:=s.ev) (t:=s.t) (n:=s.n) hm2
 rcases k1 with⟨bl1,k1⟩|k1<;>rcases k2 with⟨bl2,k2⟩|k2<;>rw[k1]at e1<;>rw[k2]at e2<;>cases e1<;>cases e2
 .
  refine⟨_,k2 _,?_⟩;rw[k1]
  congr 2
  funext q
  by_cases q1:q=b+j<;>by_cases q2:q=b+i<;>simp[upd,q1,q2]<;>omega
 . exact⟨_,k2 _,k1 _⟩
 . exact⟨_,k2 _,k1 _⟩
 exact⟨_,k2 _,k1 _⟩
theorem ZdA [Glob P]{W:cu}{L:List Oper}{b j:Nat}{y:Oper}{s:S}(h : ∀x,L[j]? = some x->iK L x y=true):(aV y.op).map (bB P W C L b s j).ev=(aV y.op).map s.ev:=by
 unfold bB
 cases hj:L[j]? with
 | none=>rfl
 | some x=>exact QA (h x hj)
theorem JK [Glob P]{W:cu}{L:List Oper}{b:Nat}{y:Oper}:∀(pre:List Nat)(s:S),(∀j∈pre,∀x,L[j]? = some x->iK L x y=true)->(aV y.op).map (pre.foldl (bB P W C L b) s).ev=(aV y.op).map s.ev
 | [],s,_=>rfl
 | j::pre,s,h=>by
  simp only[YH];rw[JK pre _ λk hk=>h k (by simp[hk]),ZdA (h j (by simp))]
theorem NI [Glob P]{W:cu}{L:List Oper}{b i:Nat}{y:Oper}(hi:L[i]? = some y):∀(pre:List Nat)(s:S),(∀j∈pre,j≠i /\ ∀x,L[j]? = some x->mo C L x y=true) ->
  (reader y=true -> ∀j∈pre,∀d∈(aV y.op).map s.ev,named (b+j) (sd d)=false)->s.h (b+i)=none->(pre.foldl (bB P W C L b) s).ok ->
  bB P W C L b (pre.foldl (bB P W C L b) s) i=pre.foldl (bB P W C L b) (bB P W C L b s i)
 | [],s,_,_,_,_=>rfl
 | j::pre,s,h,hr,hh,hok=>by
  simp only[YH]at hok ⊢;have hji:=(h j (by simp)).1
  have hok1:=EK hok
  cases hj:L[j]? with
  | none =>
   have e : ∀u,bB P W C L b u j=u:=λu=>by simp only[bB,hj]
   rw[e s,e]at *;exact NI hi pre s (λk hk=>h k (by simp[hk])) (λnM k hk=>hr nM k (by simp[hk])) hh hok
  | some x =>
   have hap:=(h j (by simp)).2 x hj
   have e : ∀u,bB P W C L b u j=dJ P W C L b j x u:=λu=>by simp only[bB,hj]
   have e' : ∀u,bB P W C L b u i=dJ P W C L b i y u:=λu=>by simp only[bB,hi]
   have hstep:bB P W C L b (bB P W C L b s j) i=bB P W C L b (bB P W C L b s i) j:=by
    rw[e,e,e',e'];refine VM hji hap (λ_ nM=>hr nM j (by simp)) λ_ _=>⟨hh,?_⟩
    rw[e,mf]at hok1;exact hok1.2
   rw[<-hstep];unfold mo at hap
   by_cases hcp:L.all (xA C)=true
   .
    refine NI hi pre _ (λk hk=>h k (by simp[hk])) (λnM k hk=>?_) ?_ hok
    .
     rw[e,QA (GQ ((h j (by simp)).2 x hj))]
     exact hr nM k (by simp[hk])
    rw[e];refine NZ (YJ.1 hcp x (Yj hj)) om hh
   have hall : ∀k∈pre,∀x y',L[k]? = some x->L[i]? = some y'->Aq C L x y'=true:=by
    intro k hk x' y' hx' hy';rw[hi]at hy';cases hy'
    have:=(h k (by simp[hk])).2 x' hx'
    unfold mo at this;have hcp':L.all (xA C)=false:=by simpa using hcp
    simpa[hcp']using this
   exact Vz pre _ hall
theorem Ru{w:World}{g:Mem}{d:D}{v:Value}{n:Nat}(hr:ag w g d v)(hg:sg d=true)(hn:named n (sd d)=true):g.U n:=by
 have key : ∀{d:D},ag w g d v->named n d=true->g.U n:=by
  intro d hr hn
  cases hr with
  | mrow r off len x hx hU h=>exact(show r=n by simpa[named]using hn)▸hU
  | mptr r i off x hx hU h=>exact(show r=n by simpa[named]using hn)▸hU
  | mp r x hx hU h=>exact(show r=n by simpa[named]using hn)▸hU
  | _=>cases hn
 cases d with
 | cond g d =>
  cases hr with
  | cond _ _ _ ht hf=>exact key (ht hg) hn
 | _=>exact key hr hn
def J5 [Glob P]{s:S}{g:Mem}{a:Act}{w:World}(hs:St P B s g a w):St P B s g a { w with drawn:=w.drawn+1 }/\ax g g w { w with drawn:=w.drawn+1 }:=by
 have m:ax g g w { w with drawn:=w.drawn+1 }:=⟨rfl,rfl,rfl,XX _,Nat.le_succ _,λ_ h=>h,λ_ _=>.inl rfl,λr _ c s h=>.inl ⟨r,c,s,h⟩,λ_ h=>h,λ_ h=>.inl h,λ_ _ _=>rfl⟩
 refine⟨⟨hs.sz,λi=>(hs.tm i).later hs.mem m,⟨hs.mem.dead,λr bl hr=>?_,hs.mem.inj,hs.mem.used,hs.mem.imm,hs.mem.gr.later (hs.mem.kept m)⟩,hs.df.later hs.mem m,Env.later hs.mem m hs.en,hs.bd⟩,m⟩
 obtain⟨blk,c,h1,h2,h3,h4,h5⟩:=hs.mem.blk r bl hr
 refine⟨blk,c,h1,h2,h3,h4,?_⟩
 rcases h5 with h5|⟨b,cur,rfl,h6,h7,h8,h9⟩
 . exact .inl h5
 exact .inr ⟨b,cur,rfl,h6,h7,h8,λi row hi=>⟨(h9 i row hi).1,λj d hd=>by
  obtain⟨u,k3,k4,k5⟩:=(h9 i row hi).2 j d hd;exact⟨u,k3,k4,k5.later hs.mem m⟩⟩⟩
def todo(n:Nat)(listed:Array Bool):List Nat:=(List.range n).filter λi=>!listed.getD i false
def MV(L:List Oper)(k:Nat)(z:Tmp):Bool:=(List.range L.length).all λm=>decide (m<k)||(L.getD m default).dst != some z
theorem keep1 [Glob P]{W:cu}{L:List Oper}{b:Nat}{z:Tmp}{s:S}{k:Nat}(h : ∀o,L[k]? = some o->o.dst≠some z):(bB P W C L b s k).t z=s.t z:=by
 unfold bB
 cases hk:L[k]? with
 | none=>rfl
 | some o =>
  have:=h o hk;simp only;rw[mf]
  show S.put s o.dst _ z=s.t z
  cases hd:o.dst with
  | none=>rfl
  | some d=>exact aK _ _ _ _ λe=>this (by rw[hd,e])
theorem keeps [Glob P]{W:cu}{L:List Oper}{b:Nat}{z:Tmp}:∀(l:List Nat)(s:S),(∀k∈l,∀o,L[k]? = some o->o.dst≠some z)->(l.foldl (bB P W C L b) s).t z=s.t z
 | [],s,_=>rfl
 | k::l,s,h=>by
  simp only[YH];rw[keeps l _ λm hm=>h m (by simp[hm]),keep1 (h k (by simp))]
def UC{L:List Oper}{k:Nat}{z:Tmp}(h:MV L k z=true){m:Nat}(hm:k<=m):∀o,L[m]? = some o->o.dst≠some z:=by
 intro o ho
 have hl:m<L.length:=(X7.1 ho).1
 simp only[MV,YJ,Zp,Yc,XW,ZC]at h
 rcases h m hl with h|h
 . omega
 simpa only[List.getD,ho,YR]using h
theorem JZ [Glob P]{W:cu}{L:List Oper}{b:Nat}:∀(k i:Nat)(s:S),i+k<=L.length->aZ P W C L b i ((L.drop i).take k) s=(List.range' i k).foldl (bB P W C L b) s:=by
 intro k
 induction k with
 | zero=>intro i s _;simp[aZ]
 | succ k ih =>
  intro i s hk;have hlt:i<L.length:=by omega
  rw[YC hlt,X5,Y9];simp only[aZ,YH];rw[ih (i+1) _ (by omega)]
  congr 1
  simp[bB,hlt]
theorem Zgo{a:D}{h h':H}(hn : ∀r,named r a=true->h' r=h r):jL a h'=jL a h:=by
 cases a with
 | mptr r i off =>
  have:=hn r (by simp[named])
  simp only[jL,this]
 | _=>rfl
theorem Ui [Glob P]{a:D}{h h':H}(hn : ∀r,named r a=true->h' r=h r):jo P a h'=jo P a h:=by
 unfold jo
 split
 . rfl
 exact Zgo hn
def Mem.only(g:Mem)(h':H):Mem:={ M:=λr=>if(h' r).isSome then g.M r else none,U:=g.U,I:=g.I }
def SN{g:Mem}{h':H}(r:Nat)(_:g.U r):(g.only h').M r=g.M r\/(g.only h').M r=none:=by
 show(if(h' r).isSome then g.M r else none)=g.M r\/(if(h' r).isSome then g.M r else none)=none
 split
 . exact .inl rfl
 exact .inr rfl
def vD{g:Mem}{h':H}{w:World}:ax g (g.only h') w w:=by
 refine⟨rfl,rfl,rfl,XX _,XX _,λ_ h=>h,SN,λr b c s h=>.inl ⟨r,c,s,?_⟩,λ_ h=>h,λ_ h=>.inl h,λ_ _ _=>rfl⟩
 have h':(if(h' r).isSome then g.M r else none)=some (some b,c,s):=h
 split at h'
 . exact h'
 cases h'
theorem ag.only{g:Mem}{h':H}{w:World}{d:D}{v:Value}(h:ag w g d v):ag w (g.only h') d v :=
 ag.mono (g:=g) (g':=g.only h') (λ_ hb=>⟨hb,rfl⟩) (λ_ h=>h) SN h
theorem HM.only[Glob P]{h h':H}{g:Mem}{w:World}(hm:HM P h g w)(hh : ∀r,h' r=h r\/h' r=none):HM P h' (g.only h') w:=by
 have inv : ∀{r x},(g.only h').M r=some x->g.M r=some x:=by
  intro r x e;have e:(if(h' r).isSome then g.M r else none)=some x:=e
  split at e
  . exact e
  cases e
 refine⟨λr hr=>?_,λr bl hr=>?_,λr r' b c c' s s' q1 q2=>hm.inj _ _ _ _ _ _ _ (inv q1) (inv q2),λr hr=>?_,hm.imm,hm.gr⟩
 .
  show(if(h' r).isSome then g.M r else none)=none
  rw[hr];rfl
 .
  have e:h r=some bl:=by
   rcases hh r with e|e
   . rw[<-e];exact hr
   rw[e]at hr;cases hr
  obtain⟨blk,c,h1,h2,h3,h4,h5⟩:=hm.blk r bl e;refine⟨blk,c,by show(if(h' r).isSome then g.M r else none)=_;rw[hr];exact h1,h2,h3,h4,?_⟩
  rcases h5 with h5|⟨b,cur,rfl,h6,h7,h8,h9⟩
  . exact .inl h5
  refine .inr ⟨b,cur,rfl,h6,h7,h8,λi row hi=>⟨(h9 i row hi).1,λj d hd=>?_⟩⟩
  obtain⟨u,k3,k4,k5⟩:=(h9 i row hi).2 j d hd;exact⟨u,k3,k4,k5.only⟩
 cases e:(g.only h').M r with
 | none=>exact absurd e hr
 | some x=>exact hm.used r (by rw[inv e];simp)
def nT(g:Mem)(r:Nat):Mem:={ M:=λx=>if x=r then none else g.M x,U:=g.U,I:=λb=>g.I b \/ ∃c s,g.M r=some (some b,c,s) }
theorem JJ{g:Mem}{r x:Nat}{y}(e:(nT g r).M x=some y):x≠r/\g.M x=some y:=by
 have e:(if x=r then none else g.M x)=some y:=e
 split at e
 . cases e
 exact⟨‹_›,e⟩
def DK(g:Mem)(r:Nat)(w:World):ax g (nT g r) w w:=by
 refine⟨rfl,rfl,rfl,XX _,XX _,λ_ h=>h,λx _=>?_,λx b c s e=>.inl ⟨x,c,s,(JJ e).2⟩,λ_ h=>.inl h,λb hb=>?_,λ_ _ _=>rfl⟩
 .
  show(if x=r then none else g.M x)=g.M x\/(if x=r then none else g.M x)=none
  split
  . exact .inr rfl
  exact .inl rfl
 rcases hb with hb|⟨c,s,hb⟩
 . exact .inl hb
 exact .inr (.inr ⟨r,c,s,hb⟩)
theorem F8 [Glob P]{h:H}{g:Mem}{w:World}(hm:HM P h g w)(r:Nat):HM P (upd h r none) (nT g r) w:=by
 have mono:=DK g r w
 refine⟨λx hx=>?_,λx bl hx=>?_,λx x' b c c' s s' q1 q2=>hm.inj _ _ _ _ _ _ _ (JJ q1).2 (JJ q2).2,λx hx=>?_,λb hb=>?_,hm.gr.later (hm.kept mono)⟩
 .
  show(if x=r then none else g.M x)=none
  split
  . rfl
  rename_i e;rw[aK _ _ _ _ e]at hx;exact hm.dead x hx
 .
  by_cases e:x=r
  . subst e;rw[bN]at hx;cases hx
  rw[aK _ _ _ _ e]at hx;obtain⟨blk,c,h1,h2,h3,h4,h5⟩:=hm.blk x bl hx;refine⟨blk,c,by show(if x=r then none else g.M x)=_;rw[XV e];exact h1,h2,h3,h4,?_⟩
  rcases h5 with h5|⟨b,cur,rfl,h6,h7,h8,h9⟩
  . exact .inl h5
  refine .inr ⟨b,cur,rfl,h6,h7,λhI=>?_,λi row hi=>⟨(h9 i row hi).1,λj d hd=>?_⟩⟩
  .
   rcases hI with hI|⟨c',s',hI⟩
   . exact h8 hI
   exact e (hm.inj _ _ _ _ _ _ _ h1 hI)
  obtain⟨u,k3,k4,k5⟩:=(h9 i row hi).2 j d hd;exact⟨u,k3,k4,k5.later hm mono⟩
 .
  cases e:(nT g r).M x with
  | none=>exact absurd e hx
  | some y=>exact hm.used x (by rw[(JJ e).2];simp)
 rcases hb with hb|⟨c,s,hb⟩
 . exact hm.imm b hb
 exact(pU hm hb).1
def Zfq : ∀{rows rows':List (List D)},bq rows=true->(∀r∈rows',r∈rows)->bq rows'=true:=by
 intro rows rows' h hs
 exact Mr λr hr=>Fa h (hs r hr)
def NE [Glob P]{h:H}{g:Mem}{w:World}(hm:HM P h g w){r:Nat}{ty:TypeId}{rows:List (List D)}(hr:h r=some ⟨ty,rows⟩)(hn:bq rows=true){off k:Nat}(hk:off+k<=rows.length){v:Value}(hv:ag w g (.mrow r off k) v):ag w (nT g r) (.list false ((rows.drop off).take k)) v:=by
 let h1:H:=λx=>if x=r then h r else none
 have hsub : ∀x,h1 x=h x\/h1 x=none:=λx=>by
  by_cases e:x=r
  . subst e;exact .inl (X3 rfl)
  exact .inr (XV e)
 have hm1:=hm.only hsub
 have e1:h1 r=some ⟨ty,rows⟩:=by show(if r=r then h r else none)=_;rw[X3 rfl];exact hr
 have e2:aC (.mrow r off k) h1=(rows.drop off).take k:=by simp only[aC,e1]
 have:=Kc hm1 (vC hv.only) ⟨by rw[e1];rfl,by rw[e2];simp;omega⟩
 rw[e2]at this
 refine this.clean (Zfq hn λx hx=>List.mem_of_mem_drop (List.mem_of_mem_take hx)) λb hb=>?_
 rcases hb with hb|⟨x,c,sz,hb⟩
 . exact .inl hb
 have hb2:(if(h1 x).isSome then g.M x else none)=some (some b,c,sz):=hb
 split at hb2
 .
  rename_i hx
  have:x=r:=by
   refine YV λe=>?_
   have:h1 x=none:=XV e;rw[this]at hx;cases hx
  subst this;exact .inr ⟨c,sz,hb2⟩
 cases hb2
def tK:D->List Nat
 | .mrow r _ _ | .mptr r _ _ | .mp r=>[r]
 | _=>[]
def foot(op:Op)(xs:List D)(b:Nat):List Nat:=match op,xs with
 | .load ..,[a]=>tK a
 | .alloc _,_=>[b]
 | .call { callee:=.builtin .append,.. },[x,y]=>b::(tK x++tK y)
 | .store ..,[a,_]=>tK a
 | _,_=>[]
def yD(C:aS)(o:Oper):Bool:=o.guard.isNone&&(match o.op with
 | .load .. | .alloc _ | .store .. => true
 | .call { callee:=.builtin .append,.. }=>true
 | op=>bW C op == .none)
structure Loc(f:H->D×H×Prop)(F:List Nat):Prop where
 out : ∀h r,r ∉ F->(f h).2.1 r=h r
 same : ∀h h',(∀r∈F,h r=h' r)->(f h).1=(f h').1/\(f h).2.2=(f h').2.2 /\ ∀r∈F,(f h).2.1 r=(f h').2.1 r
def Loc.comm{f g:H->D×H×Prop}{F G:List Nat}(hf:Loc f F)(hg:Loc g G)(hd : ∀r∈F,r ∉ G)(h:H) :
  (g (f h).2.1).1=(g h).1/\(g (f h).2.1).2.2=(g h).2.2/\(f (g h).2.1).1=(f h).1/\(f (g h).2.1).2.2=(f h).2.2/\(g (f h).2.1).2.1=(f (g h).2.1).2.1:=by
 have a:=hg.same (f h).2.1 h λr hr=>hf.out h r λq=>hd r q hr
 have c:=hf.same (g h).2.1 h λr hr=>hg.out h r (hd r hr)
 refine⟨a.1,a.2.1,c.1,c.2.1,?_⟩
 funext r
 by_cases q1:r∈F
 . rw[c.2.2 r q1,hg.out _ r (hd r q1)]
 by_cases q2:r∈G
 . rw[a.2.2 r q2,hf.out _ r q1]
 rw[hg.out _ r q2,hf.out _ r q1,hf.out _ r q1,hg.out _ r q2]
def wW{f:H->D×H×Prop}(h1 : ∀h,(f h).2.1=h)(h2 : ∀h h',(f h).1=(f h').1/\(f h).2.2=(f h').2.2):Loc f [] :=
 ⟨λh r _=>by rw[h1],λh h' _=>⟨(h2 h h').1,(h2 h h').2,λr hr=>by cases hr⟩⟩
theorem Zf8 [Glob P]{t:TypeId}{x:Operand}{W:cu}{xs:List D}{b:Nat}:Loc (λh=>bg P W C (.load t x) xs h b) (foot (.load t x) xs b):=by
 match xs with
 | []=>exact wW (λ_=>rfl) λ_ _=>⟨rfl,rfl⟩
 | a::c::l=>exact wW (λ_=>rfl) λ_ _=>⟨rfl,rfl⟩
 | [a] =>
  refine⟨λh r _=>rfl,λh h' hh=>?_⟩
  have key:mP P t a h=mP P t a h':=by
   have:jo P a h=jo P a h':=Ui λr hr=>hh r (by
    cases a<;>first|(simp only[named,YB]at hr;subst hr;exact Yo.2 rfl)|(cases hr))
   unfold mP;simp only[this]
  refine⟨?_,?_,λr hr=>hh r hr⟩
  .
   show(mP P t a h).1=(mP P t a h').1
   rw[key]
  show(mP P t a h).2=(mP P t a h').2
  rw[key]
theorem Zga [Glob P]{t:TypeId}{W:cu}{xs:List D}{b:Nat}:Loc (λh=>bg P W C (.alloc t) xs h b) (foot (.alloc t) xs b):=by
 match xs with
 | a::l=>exact⟨λh r _=>rfl,λh h' hh=>⟨rfl,rfl,λr hr=>hh r hr⟩⟩
 | [] =>
  refine⟨λh r hr=>?_,λh h' hh=>⟨rfl,rfl,λr hr=>?_⟩⟩
  . exact aK _ _ _ _ λe=>hr (by rw[e];exact Yo.2 rfl)
  have:r=b:=Yo.1 hr;subst this
  show upd h r _ r=upd h' r _ r
  rw[bN,bN]
theorem Zf7 [Glob P]{t:TypeId}{x y:Operand}{W:cu}{xs:List D}{b:Nat}:Loc (λh=>bg P W C (.store t x y) xs h b) (foot (.store t x y) xs b):=by
 match xs with
 | []=>exact wW (λ_=>rfl) λ_ _=>⟨rfl,rfl⟩
 | [a]=>exact wW (λ_=>rfl) λ_ _=>⟨rfl,rfl⟩
 | a::c::d::l=>exact wW (λ_=>rfl) λ_ _=>⟨rfl,rfl⟩
 | [a,c] =>
  cases a with
  | mptr r k off =>
   refine⟨λh q hq=>?_,λh h' hh=>?_⟩
   .
    show(lu P t (.mptr r k off) c h).1 q=h q
    have:q≠r:=λe=>hq (by rw[e];exact Yo.2 rfl)
    cases hr:h r with
    | none=>simp only[lu,hr]
    | some bl=>simp only[lu,hr];exact aK _ _ _ _ this
   have hr:=hh r (Yo.2 rfl);refine⟨rfl,?_,λq hq=>?_⟩
   .
    show(lu P t (.mptr r k off) c h).2=(lu P t (.mptr r k off) c h').2
    simp only[lu,hr]
    cases h' r<;>rfl
   have:q=r:=Yo.1 hq;subst this
   show(lu P t (.mptr q k off) c h).1 q=(lu P t (.mptr q k off) c h').1 q
   simp only[lu,hr]
   cases h' q with
   | none=>exact hr
   | some bl=>simp only[bN]
  | _=>exact⟨λh q _=>rfl,λh h' hh=>⟨rfl,rfl,λq hq=>hh q hq⟩⟩
theorem ZdT{y:D}{h h':H}(hh : ∀r∈tK y,h r=h' r):aC y h=aC y h':=by
 cases y with
 | mrow r off len=>simp only[aC,hh r (Yo.2 rfl)]
 | v x=>cases x<;>rfl
 | _=>rfl
theorem Zci [Glob P]{u:TypeId}{y:D}{h h':H}(hh : ∀r∈tK y,h r=h' r):iA P u h y=iA P u h' y:=by
 cases y with
 | mrow r off len=>simp only[iA,hh r (Yo.2 rfl)]
 | v x=>cases x<;>rfl
 | _=>rfl
theorem Zf9 [Glob P]{t u:TypeId}{x y:D}{b:Nat}:Loc (λh=>jh P t u x y h b) (b::(tK x++tK y)):=by
 refine⟨λh r hr=>?_,λh h' hh=>?_⟩
 .
  have hb:r≠b:=λe=>hr (by rw[e];simp)
  have hx:r ∉ tK x:=λe=>hr (by simp[e])
  show(jh P t u x y h b).2.1 r=h r
  unfold jh
  cases bQ P t with
  | none=>rfl
  | some e =>
   simp only
   split
   . exact aK _ _ _ _ hb
   .
    rename_i q n
    split
    .
     have:r≠q:=λe=>hx (by rw[e];exact Yo.2 rfl)
     show upd (upd h q none) b _ r=h r
     rw[aK _ _ _ _ hb,aK _ _ _ _ this]
    rfl
   rfl
 have e1:aC y h=aC y h':=ZdT λr hr=>hh r (by simp[hr])
 have e2:iA P u h y=iA P u h' y:=Zci λr hr=>hh r (by simp[hr])
 show(jh P t u x y h b).1=(jh P t u x y h' b).1/\(jh P t u x y h b).2.2=(jh P t u x y h' b).2.2 /\ ∀r∈_,(jh P t u x y h b).2.1 r=(jh P t u x y h' b).2.1 r
 unfold jh
 cases bQ P t with
 | none=>exact⟨rfl,rfl,λr hr=>hh r hr⟩
 | some e =>
  simp only[e1,e2]
  split
  .
   refine⟨rfl,rfl,λr hr=>?_⟩
   show upd h b _ r=upd h' b _ r
   by_cases q:r=b
   . subst q;rw[bN,bN]
   rw[aK _ _ _ _ q,aK _ _ _ _ q];exact hh r hr
  .
   rename_i q n
   have e3:h q=h' q:=hh q (by simp[tK])
   rw[e3]
   cases h' q with
   | none=>exact⟨rfl,rfl,λr hr=>hh r hr⟩
   | some bl =>
    refine⟨rfl,rfl,λr hr=>?_⟩
    show upd (upd h q none) b _ r=upd (upd h' q none) b _ r
    by_cases q1:r=b
    . subst q1;rw[bN,bN]
    rw[aK _ _ _ _ q1,aK _ _ _ _ q1]
    by_cases q2:r=q
    . subst q2;rw[bN,bN]
    rw[aK _ _ _ _ q2,aK _ _ _ _ q2];exact hh r hr
  exact⟨rfl,rfl,λr hr=>hh r hr⟩
theorem Zir [Glob P]{W:cu}{o:Oper}{xs:List D}{b:Nat}(ho:yD C o=true):Loc (λh=>bg P W C o.op xs h b) (foot o.op xs b):=by
 have hnone:bW C o.op = .none->foot o.op xs b=[]->Loc (λh=>bg P W C o.op xs h b) (foot o.op xs b):=by
  intro hc hf;rw[hf];refine wW (λh=>?_) λh h'=>?_
  . rw[N7 (h':=h) hc]
  rw[N7 (h:=h) (h':=h') hc];exact⟨rfl,rfl⟩
 unfold yD at ho
 rw[XU]at ho
 obtain⟨_,ho⟩:=ho
 generalize o.op=op at ho hnone
 split at ho
 . exact Zf8
 . exact Zga
 . exact Zf7
 .
  rename_i args ts
  match xs with
  | []=>exact wW (λ_=>rfl) λ_ _=>⟨rfl,rfl⟩
  | [a]=>exact wW (λ_=>rfl) λ_ _=>⟨rfl,rfl⟩
  | a::c::d::l=>exact wW (λ_=>rfl) λ_ _=>⟨rfl,rfl⟩
  | [x,y] =>
   show Loc (λh=>match ts.toList with|[t,u]=>jh P t u x y h b|_=>(.junk,h,False)) (b::(tK x++tK y))
   split
   . exact Zf9
   exact⟨λh r _=>rfl,λh h' hh=>⟨rfl,rfl,hh⟩⟩
 refine hnone (by simpa using ho) ?_
 unfold foot
 split<;>first|rfl|(exfalso;simp_all)
def jO(b:Nat)(r:D×H×Prop):D×H×Prop:=match r.1 with
 | .mrow q 0 m=>if q=b then(match r.2.1 b with
  | some bl=>(.list false (bl.rows.take m),upd r.2.1 b none,r.2.2/\m<=bl.rows.length/\bq bl.rows=true)
  | none=>(.junk,r.2.1,False))else(.junk,r.2.1,False)
 | _=>(.junk,r.2.1,False)
theorem NF{b m:Nat}{h:H}{p:Prop}{bl:eZ}(hb:h b=some bl):jO b (.mrow b 0 m,h,p)=(.list false (bl.rows.take m),upd h b none,p/\m<=bl.rows.length/\bq bl.rows=true):=by
 simp only[jO,Zn,hb]
theorem ZhU{b:Nat}{r:D×H×Prop}(h:(jO b r).2.2):∃m bl,r.1 = .mrow b 0 m/\r.2.1 b=some bl/\r.2.2/\m<=bl.rows.length/\bq bl.rows=true/\jO b r=(.list false (bl.rows.take m),upd r.2.1 b none,r.2.2/\m<=bl.rows.length/\bq bl.rows=true):=by
 obtain⟨d,h',p⟩:=r
 cases d with
 | mrow q off m =>
  cases off with
  | zero =>
   by_cases e:q=b
   .
    subst e
    cases hb:h' q with
    | none=>simp only[jO,Zn,hb]at h
    | some bl =>
     rw[NF hb]at h;exact⟨m,bl,rfl,hb,h.1,h.2.1,h.2.2,NF hb⟩
   simp only[jO,XV e]at h
  | succ k=>exact h.elim
 | _=>exact h.elim
theorem Loc.frz{f:H->D×H×Prop}{F:List Nat}{b:Nat}(hf:Loc f F)(hb:b∈F):Loc (λh=>jO b (f h)) F:=by
 have key : ∀h,(∃m bl,(f h).1 = .mrow b 0 m/\(f h).2.1 b=some bl/\jO b (f h)=(.list false (bl.rows.take m),upd (f h).2.1 b none,(f h).2.2/\m<=bl.rows.length/\bq bl.rows=true))\/(jO b (f h)=(.junk,(f h).2.1,False) /\ ∀m bl,(f h).1 = .mrow b 0 m->(f h).2.1 b≠some bl):=by
  intro h
  rcases hr:f h with⟨d,h',p⟩
  cases d with
  | mrow q off m =>
   cases off with
   | zero =>
    by_cases e:q=b
    .
     subst e
     cases hb:h' q with
     | none=>exact .inr ⟨by simp only[jO,Zn,hb],λm bl _ q=>by simp only[hb]at q;cases q⟩
     | some bl=>exact .inl ⟨m,bl,rfl,hb,NF hb⟩
    exact .inr ⟨by simp only[jO,XV e],λm bl q=>absurd (by cases q;rfl) e⟩
   | succ k=>exact .inr ⟨rfl,λm bl q=>by cases q⟩
  | _=>exact .inr ⟨rfl,λm bl q=>by cases q⟩
 refine⟨λh r hr=>?_,λh h' hh=>?_⟩
 .
  show(jO b (f h)).2.1 r=h r
  have hne:r≠b:=λe=>hr (by rw[e];exact hb)
  rcases key h with⟨m,bl,_,_,e⟩|⟨e,_⟩
  . rw[e];show upd _ b none r=h r;rw[aK _ _ _ _ hne];exact hf.out h r hr
  rw[e];exact hf.out h r hr
 show(jO b (f h)).1=(jO b (f h')).1/\(jO b (f h)).2.2=(jO b (f h')).2.2 /\ ∀r∈F,(jO b (f h)).2.1 r=(jO b (f h')).2.1 r
 obtain⟨s1,s2,s3⟩:=hf.same h h' hh
 rcases key h with⟨m,bl,k1,k2,e⟩|⟨e,k⟩<;>rcases key h' with⟨m',bl',k1',k2',e'⟩|⟨e',k'⟩
 .
  have hm:m=m':=by rw[k1,k1']at s1;cases s1;rfl
  have hbl:bl=bl':=by have:=s3 b hb;rw[k2,k2']at this;exact Zt this
  subst hm;subst hbl;rw[e,e'];refine⟨rfl,by show(_/\_)=(_/\_);rw[s2],λr hr=>?_⟩
  show upd _ b none r=upd _ b none r
  by_cases q:r=b
  . subst q;rw[bN,bN]
  rw[aK _ _ _ _ q,aK _ _ _ _ q];exact s3 r hr
 . exact absurd (by rw[<-s3 b hb];exact k2) (k' m bl (by rw[<-s1];exact k1))
 . exact absurd (by rw[s3 b hb];exact k2') (k m' bl' (by rw[s1];exact k1'))
 rw[e,e'];exact⟨rfl,rfl,s3⟩
def outG(P:Program)[Glob P](W:cu)(C:aS)(L:List Oper)(b:Nat)(fz:Option Nat)(i:Nat)(o:Oper)(n:Nat)(ev:Operand->D)(t:Nat->D)(h:H):D×H×Prop :=
 if fz=some i then jO (b+i) (aN P W C L b i o n ev t h)else aN P W C L b i o n ev t h
def stepG(P:Program)[Glob P](W:cu)(C:aS)(L:List Oper)(b:Nat)(fz:Option Nat)(s:S)(i:Nat):S:=match L[i]? with
 | none=>s
 | some o=>{ s with t:=s.put o.dst (outG P W C L b fz i o s.n s.ev s.t s.h).1,h:=(outG P W C L b fz i o s.n s.ev s.t s.h).2.1,ok:=s.ok/\(outG P W C L b fz i o s.n s.ev s.t s.h).2.2 }
theorem xL [Glob P]{W:cu}{L:List Oper}{b i:Nat}{fz:Option Nat}{s:S}(h:fz≠some i):stepG P W C L b fz s i=bB P W C L b s i:=by
 unfold stepG bB
 cases L[i]? with
 | none=>rfl
 | some o=>simp only[outG,XV h,mf]
def Sz [Glob P]{W:cu}{L:List Oper}{b i:Nat}{fz:Option Nat}{o:Oper}{s s':S}{n:Nat}{h:H}(he : ∀x∈looks L o,s.t x=s'.t x):outG P W C L b fz i o n s.ev s.t h=outG P W C L b fz i o n s'.ev s'.t h:=by
 unfold outG
 rw[C8 he]
theorem Sy [Glob P]{W:cu}{L:List Oper}{b i:Nat}{o:Oper}{n:Nat}{ev:Operand->D}{t:Nat->D}(ho:yD C o=true):Loc (λh=>aN P W C L b i o n ev t h) (foot o.op (((aV o.op).map ev).map sd) (b+i)):=by
 have hg:o.guard=none:=by
  unfold yD at ho;rw[XU]at ho;exact Zb.1 ho.1
 have he:=Zir (P:=P) (W:=W) (xs:=((aV o.op).map ev).map sd) (b:=b+i) ho
 cases hp:fE o.op with
 | true =>
  have hf:foot o.op (((aV o.op).map ev).map sd) (b+i)=[]:=by
   cases hop:o.op<;>simp only[hop,fE,Yp]at hp
   rfl
  rw[hf];refine wW (λh=>?_) λh h'=>?_
  . simp only[aN,hg,aY,hp,Zn];rfl
  simp only[aN,hg,aY,hp,Zn];exact⟨rfl,rfl⟩
 | false =>
  refine⟨λh r hr=>?_,λh h' hh=>?_⟩
  .
   show(aN P W C L b i o n ev t h).2.1 r=h r
   simp only[aN,hg,aY,hp,Yp,Za];exact he.out h r hr
  show(aN P W C L b i o n ev t h).1=(aN P W C L b i o n ev t h').1/\(aN P W C L b i o n ev t h).2.2=(aN P W C L b i o n ev t h').2.2 /\ ∀r∈_,(aN P W C L b i o n ev t h).2.1 r=(aN P W C L b i o n ev t h').2.1 r
  obtain⟨q1,q2,q3⟩:=he.same h h' hh;simp only[aN,hg,aY,hp,Yp,Za];exact⟨q1,by rw[q2],q3⟩
def yT(o:Oper):Bool:=match o.op with
 | .call { callee:=.builtin .append,args,.. }=>args.toList.length==2
 | _=>false
def ZkB{o:Oper}(h:yT o=true)(hr:zl o.op=true):False:=by
 unfold yT at h
 split at h
 .
  rename_i e
  rw[e]at hr
  cases hr
 cases h
theorem ZkC{o:Oper}{ev:Operand->D}{b:Nat}(h:yT o=true):b∈foot o.op (((aV o.op).map ev).map sd) b:=by
 unfold yT at h
 split at h
 .
  rename_i args ts e
  have h2:args.toList.length=2:=by simpa using h
  rw[e]
  match hq:args.toList,h2 with
  | [x,y],_ =>
   show b∈foot _ ((args.toList.map ev).map sd) b
   rw[hq];exact List.mem_cons_self
 cases h
def SA [Glob P]{W:cu}{L:List Oper}{b i:Nat}{fz:Option Nat}{o:Oper}{n:Nat}{ev:Operand->D}{t:Nat->D}(ho:yD C o=true)(hz:fz=some i->yT o=true):Loc (λh=>outG P W C L b fz i o n ev t h) (foot o.op (((aV o.op).map ev).map sd) (b+i)):=by
 by_cases e:fz=some i
 .
  have:(λh=>outG P W C L b fz i o n ev t h)=λh=>jO (b+i) (aN P W C L b i o n ev t h):=by funext h;simp only[outG,X3 e]
  rw[this];exact(Sy ho).frz (ZkC (hz e))
 have:(λh=>outG P W C L b fz i o n ev t h)=λh=>aN P W C L b i o n ev t h:=by funext h;simp only[outG,XV e]
 rw[this]
 exact Sy ho
theorem Zes{x y:Option Tmp}{t:Nat->D}{n n':Nat}{h h':H}{nx nx':Nat}{ok ok':Prop}{e e':Env}{r q:D}(hne : ∀d,x=some d->y≠some d):S.put { n:=n,t:=S.put { n:=n,t:=t,h:=h,nx:=nx,ok:=ok,e:=e } x r,h:=h,nx:=nx,ok:=ok,e:=e } y q=S.put { n:=n',t:=S.put { n:=n',t:=t,h:=h',nx:=nx',ok:=ok',e:=e' } y q,h:=h',nx:=nx',ok:=ok',e:=e' } x r:=by
 cases x with
 | none=>rfl
 | some d =>
  cases y with
  | none=>rfl
  | some d' =>
   have hne:d≠d':=λe=>hne d rfl (by rw[e])
   funext z
   simp only[S.put,upd]
   by_cases e1:z=d
   .
    have:z≠d':=λe=>hne (e1▸e)
    simp[e1,hne]
   simp[e1]
theorem ZbW [Glob P]{W:cu}{L:List Oper}{b i j:Nat}{fz:Option Nat}{x y:Oper}{s:S}(hi:L[i]? = some x)(hj:L[j]? = some y)(hs:iK L x y=true)(fx:yD C x=true)(fy:yD C y=true)(zx:fz=some i->yT x=true)(zy:fz=some j->yT y=true)
  (hd : ∀r∈foot x.op (((aV x.op).map s.ev).map sd) (b+i),r ∉ foot y.op (((aV y.op).map s.ev).map sd) (b+j)):stepG P W C L b fz (stepG P W C L b fz s i) j=stepG P W C L b fz (stepG P W C L b fz s j) i:=by
 simp only[iK,XU]at hs
 obtain⟨h1,h2⟩:=hs
 have nx : ∀d,x.dst=some d->d ∉ looks L y/\y.dst≠some d:=by
  intro d hd;rw[hd]at h1;simp only[XU,Yb,ZC]at h1;exact⟨by simpa using h1.1,h1.2⟩
 have ny : ∀d,y.dst=some d->d ∉ looks L x:=by
  intro d hd;rw[hd]at h2
  simpa using h2
 have look : ∀{u:Oper}{s:S}{dst:Option Tmp}{r:D},(∀d,dst=some d->d ∉ looks L u) -> ∀z∈looks L u,s.t z=(S.put s dst r) z:=by
  intro u s dst r hd z hz
  cases dst with
  | none=>rfl
  | some d=>exact(aK _ _ _ _ (λe=>hd d rfl (by rw[<-e];exact hz))).symm
 have hc:=(SA (P:=P) (W:=W) (L:=L) (b:=b) (i:=i) (n:=s.n) (ev:=s.ev) (t:=s.t) fx zx).comm (SA (P:=P) (W:=W) (L:=L) (b:=b) (i:=j) (n:=s.n) (ev:=s.ev) (t:=s.t) fy zy) hd s.h
 obtain⟨c1,c2,c3,c4,c5⟩:=hc
 have e1 : ∀u,stepG P W C L b fz u i={ u with t:=u.put x.dst (outG P W C L b fz i x u.n u.ev u.t u.h).1,h:=(outG P W C L b fz i x u.n u.ev u.t u.h).2.1,ok:=u.ok/\(outG P W C L b fz i x u.n u.ev u.t u.h).2.2 }:=λu=>by simp only[stepG,hi]
 have e2 : ∀u,stepG P W C L b fz u j={ u with t:=u.put y.dst (outG P W C L b fz j y u.n u.ev u.t u.h).1,h:=(outG P W C L b fz j y u.n u.ev u.t u.h).2.1,ok:=u.ok/\(outG P W C L b fz j y u.n u.ev u.t u.h).2.2 }:=λu=>by simp only[stepG,hj]
 have ly : ∀h',outG P W C L b fz j y s.n (S.ev (stepG P W C L b fz s i)) (stepG P W C L b fz s i).t h'=outG P W C L b fz j y s.n s.ev s.t h':=λh'=>by
  refine(Sz (s:=s) (s':=stepG P W C L b fz s i) λz hz=>?_).symm
  rw[e1];exact look (λd hd=>(nx d hd).1) z hz
 have lx : ∀h',outG P W C L b fz i x s.n (S.ev (stepG P W C L b fz s j)) (stepG P W C L b fz s j).t h'=outG P W C L b fz i x s.n s.ev s.t h':=λh'=>by
  refine(Sz (s:=s) (s':=stepG P W C L b fz s j) λz hz=>?_).symm
  rw[e2];exact look (λd hd=>ny d hd) z hz
 have hi':(stepG P W C L b fz s i).h=(outG P W C L b fz i x s.n s.ev s.t s.h).2.1:=by rw[e1]
 have hj':(stepG P W C L b fz s j).h=(outG P W C L b fz j y s.n s.ev s.t s.h).2.1:=by rw[e2]
 have ni:(stepG P W C L b fz s i).n=s.n:=by rw[e1]
 have nj:(stepG P W C L b fz s j).n=s.n:=by rw[e2]
 rw[e2 (stepG P W C L b fz s i),e1 (stepG P W C L b fz s j),ni,nj,ly,lx,hi',hj',c1,c2,c3,c4,c5,e1 s,e2 s]
 congr 1
 . exact Zes λd hd=>(nx d hd).2
 exact propext ⟨λ⟨⟨a,b⟩,c⟩=>⟨⟨a,c⟩,b⟩,λ⟨⟨a,b⟩,c⟩=>⟨⟨a,c⟩,b⟩⟩
structure Pr where
 (j i:Nat)
def MW(L:List Oper)(k:Nat):Bool:=(looks L (L.getD k default)).all λz=>MV L k z
def AZ(C:aS)(L:List Oper)(p:Pr):Bool:=yD C (L.getD p.j default)&&yD C (L.getD p.i default)&&iK L (L.getD p.j default) (L.getD p.i default)&&MW L p.j&&MW L p.i
def Dm(ps:List Pr)(j i:Nat):Bool:=ps.any λp=>p.j==j&&p.i==i
def JG(fz:Option Nat)(i:Nat):Bool:=match fz with
 | some k=>k==i
 | none=>false
def JF(L:List Oper)(fz:Option Nat):Bool:=match fz with
 | some k=>yT (L.getD k default)
 | none=>true
def xy(C:aS)(L:List Oper)(fz:Option Nat)(ps:List Pr):Bool :=
 let B:=ed L []
 L.all (xA C)&&ps.all (AZ C L)&&JF L fz&&(List.range L.length).all λi=>(List.range i).all λj=>(B.getD i 0).testBit j||Dm ps j i||(!JG fz i && !JG fz j&&mo C L (L.getD j default) (L.getD i default))
def ma(L:List Oper)(b i:Nat)(s:S):List Nat:=foot (L.getD i default).op (((aV (L.getD i default).op).map s.ev).map sd) (b+i)
def Vl{fz:Option Nat}{i:Nat}(h:JG fz i=false):fz≠some i:=by
 rintro rfl
 simp[JG]at h
def NC{L:List Oper}{fz:Option Nat}(h:JF L fz=true){i:Nat}(e:fz=some i):yT (L.getD i default)=true:=by subst e;exact h
theorem NH{L:List Oper}{b i:Nat}{s s':S}(h : ∀z∈looks L (L.getD i default),s.t z=s'.t z):ma L b i s=ma L b i s':=by
 unfold ma
 congr 2
 refine Zd λx hx=>?_
 cases x with
 | tmp t=>exact h t (Yx.2 (.inl (Zw.2 ⟨.tmp t,hx,rfl⟩)))
 | _=>rfl
theorem Qj [Glob P]{W:cu}{L:List Oper}{b k z:Nat}{fz:Option Nat}{s:S}(h : ∀o,L[k]? = some o->o.dst≠some z):(stepG P W C L b fz s k).t z=s.t z:=by
 unfold stepG
 cases hk:L[k]? with
 | none=>rfl
 | some o =>
  have:=h o hk
  show S.put s o.dst _ z=s.t z
  cases hd:o.dst with
  | none=>rfl
  | some d=>exact aK _ _ _ _ λe=>this (by rw[hd,e])
theorem JM [Glob P]{W:cu}{L:List Oper}{b z:Nat}{fz:Option Nat}:∀(l:List Nat)(s:S),(∀k∈l,∀o,L[k]? = some o->o.dst≠some z)->(l.foldl (stepG P W C L b fz) s).t z=s.t z
 | [],s,_=>rfl
 | k::l,s,h=>by
  simp only[YH];rw[JM l _ λm hm=>h m (by simp[hm]),Qj (h k (by simp))]
theorem Qk [Glob P]{W:cu}{L:List Oper}{b i:Nat}{fz:Option Nat}{s:S}(h:(stepG P W C L b fz s i).ok):s.ok:=by
 unfold stepG at h
 cases hk:L[i]? with
 | none=>rw[hk]at h;exact h
 | some o=>rw[hk]at h;exact h.1
theorem JN [Glob P]{W:cu}{L:List Oper}{b:Nat}{fz:Option Nat}:∀{l:List Nat}{s:S},(l.foldl (stepG P W C L b fz) s).ok->s.ok
 | [],_,h=>h
 | _::l,_,h=>Qk (JN (l:=l) h)
theorem ZbY [Glob P]{W:cu}{L:List Oper}{b i r:Nat}{fz:Option Nat}{s:S}(hc:L.all (xA C)=true)(hr:r≠b+i)(hn:s.h r=none):(stepG P W C L b fz s i).h r=none:=by
 by_cases e:fz=some i
 .
  unfold stepG
  cases hk:L[i]? with
  | none=>exact hn
  | some o =>
   show(outG P W C L b fz i o s.n s.ev s.t s.h).2.1 r=none
   have h1:=NZ (P:=P) (W:=W) (C:=C) (L:=L) (b:=b) (i:=i) (o:=o) (s:=s) (YJ.1 hc o (Yj hk)) hr hn;rw[mf]at h1;have h1:(aN P W C L b i o s.n s.ev s.t s.h).2.1 r=none:=h1;simp only[outG,X3 e];generalize aN P W C L b i o s.n s.ev s.t s.h=x at h1;unfold jO
   split
   .
    split
    .
     split
     .
      show upd x.2.1 (b+i) none r=none
      rw[aK _ _ _ _ hr];exact h1
     exact h1
    exact h1
   exact h1
 rw[xL e]
 unfold bB
 cases hk:L[i]? with
 | none=>exact hn
 | some o=>exact NZ (YJ.1 hc o (Yj hk)) hr hn
def TR{L:List Oper}{x y:Oper}(h:iK L x y=true):∀z∈looks L y,x.dst≠some z:=by
 intro z hz e
 simp only[iK,e,XU]at h
 simp[hz]at h
theorem NJ [Glob P]{W:cu}{L:List Oper}{b i:Nat}{y:Oper}{fz:Option Nat}{ps:List Pr}(hcp:L.all (xA C)=true)(hz:JF L fz=true)(hps : ∀p∈ps,AZ C L p=true)(hi:L[i]? = some y):∀(pre:List Nat)(s:S),(∀j∈pre,j≠i /\ ∀x,L[j]? = some x->(Dm ps j i=true\/(fz≠some i/\fz≠some j/\mo C L x y=true))) ->
  (∀p∈ps,p.i=i -> ∀vw zw,pre=vw++p.j::zw -> ∀r∈ma L b p.j (vw.foldl (stepG P W C L b fz) s),r ∉ ma L b p.i s) ->
  (reader y=true -> ∀j∈pre,∀d∈(aV y.op).map s.ev,named (b+j) (sd d)=false)->s.h (b+i)=none->(pre.foldl (stepG P W C L b fz) s).ok ->
  stepG P W C L b fz (pre.foldl (stepG P W C L b fz) s) i=pre.foldl (stepG P W C L b fz) (stepG P W C L b fz s i)
 | [],s,_,_,_,_,_=>rfl
 | j::pre,s,h,hf,hr,hh,hok=>by
  simp only[YH]at hok ⊢;have hji:=(h j (by simp)).1
  have hok1:=JN hok;have FP:L.getD i default=y:=by simp only[List.getD,hi,YR]
  cases hj:L[j]? with
  | none =>
   have e : ∀u,stepG P W C L b fz u j=u:=λu=>by simp only[stepG,hj]
   rw[e s,e]at *;refine NJ hcp hz hps hi pre s (λk hk=>h k (by simp[hk])) (λp hp hpi vw zw hsp=>?_) (λnM k hk=>hr nM k (by simp[hk])) hh hok
   have:=hf p hp hpi (j::vw) zw (by simp[hsp])
   simp only[YH,e]at this;exact this
  | some x =>
   have hap:=(h j (by simp)).2 x hj
   have Jw:L.getD j default=x:=by simp only[List.getD,hj,YR]
   have hsl:iK L x y=true:=by
    rcases hap with hap|hap
    . simp only[Dm,ZY,XU,YB]at hap;obtain⟨p,hp,h1,h2⟩:=hap;have:=hps p hp;simp only[AZ,XU,h1,h2,Jw,FP]at this;exact this.1.1.2
    exact GQ hap.2.2
   have hstep:stepG P W C L b fz (stepG P W C L b fz s j) i=stepG P W C L b fz (stepG P W C L b fz s i) j:=by
    rcases hap with hap|⟨z1,z2,hap⟩
    .
     simp only[Dm,ZY,XU,YB]at hap;obtain⟨p,hp,h1,h2⟩:=hap;have hk:=hps p hp;simp only[AZ,XU,h1,h2,Jw,FP]at hk;have hd:=hf p hp h2 [] pre (by simp[h1])
     simp only[ZA,ma,h1,h2,Jw,FP]at hd;exact ZbW hj hi hsl hk.1.1.1.1 hk.1.1.1.2 (λe=>by have:=NC hz e;rwa [Jw]at this) (λe=>by have:=NC hz e;rwa [FP]at this) hd
    rw[xL z2,xL z1,xL z1,xL z2];have e : ∀u,bB P W C L b u j=dJ P W C L b j x u:=λu=>by simp only[bB,hj]
    have e' : ∀u,bB P W C L b u i=dJ P W C L b i y u:=λu=>by simp only[bB,hi]
    rw[e,e,e',e'];refine VM hji hap (λ_ nM=>hr nM j (by simp)) λ_ _=>⟨hh,?_⟩
    rw[xL z2,e,mf]at hok1;exact hok1.2
   have hty : ∀z∈looks L y,(stepG P W C L b fz s j).t z=s.t z:=λz hz=>Qj λo ho=>by
    rw[hj]at ho;cases ho
    exact TR hsl z hz
   rw[<-hstep];refine NJ hcp hz hps hi pre _ (λk hk=>h k (by simp[hk])) (λp hp hpi vw zw hsp=>?_) (λnM k hk=>?_) ?_ hok
   .
    have h1:=hf p hp hpi (j::vw) zw (by simp[hsp])
    simp only[YH]at h1;rw[show ma L b p.i (stepG P W C L b fz s j)=ma L b p.i s from NH (by rw[hpi,FP];exact hty)]
    exact h1
   .
    have:(aV y.op).map (stepG P W C L b fz s j).ev=(aV y.op).map s.ev:=Zd λx hx=>by
     cases x with
     | tmp t=>exact hty t (Yx.2 (.inl (Zw.2 ⟨.tmp t,hx,rfl⟩)))
     | _=>rfl
    rw[this];exact hr nM k (by simp[hk])
   exact ZbY hcp om hh
theorem ZbX [Glob P]{s:S}{g:Mem}{a:Act}{w:World}(hs:St P B s g a w){b i N:Nat}{fz:Option Nat}(hb : ¬g.U (b+i))(hN : ∀r,g.U r->r<N){ops:Array Oper}{o:Oper}(hi:ops[i]? = some o)(hok:(stepG P (words P) C ops.toList b fz s i).ok)
  {ro:Option Nat}{n:Nat}{K:Act->World->Prop}{Q:Exit->Act->World->Prop}
  (hK : ∀g' a' w',St P B (stepG P (words P) C ops.toList b fz s i) g' a' w'->ax g g' w w'->(∀r,g'.U r->g.U r\/r=b+i)->K a' w'):wpOpIn (Fw ro) n P ops Q i K a w:=by
 have hi':ops.toList[i]? = some o:=by rw[Zc];exact hi
 by_cases e:fz=some i
 .
  have es:stepG P (words P) C ops.toList b fz s i={ s with t:=s.put o.dst (jO (b+i) (aN P (words P) C ops.toList b i o s.n s.ev s.t s.h)).1,h:=(jO (b+i) (aN P (words P) C ops.toList b i o s.n s.ev s.t s.h)).2.1,ok:=s.ok/\(jO (b+i) (aN P (words P) C ops.toList b i o s.n s.ev s.t s.h)).2.2 }:=by
   simp only[stepG,hi',outG,X3 e]
  rw[es]at hok hK;obtain⟨m,bl,k1,k2,k3,k4,k5,k6⟩:=ZhU hok.2;rw[k6]at hK;refine Gj hs hb hN hi (by rw[mf];exact⟨hok.1,k3⟩) λg' a' w' q1 q2 q3=>?_
  rw[mf]at q1;have mono:=DK g' (b+i) w';refine hK (nT g' (b+i)) a' w' ⟨q1.sz,λj=>?_,F8 q1.mem (b+i),q1.df.later q1.mem mono,Env.later q1.mem mono q1.en,q1.bd⟩ (q2.trans mono) q3
  have hj:=q1.tm j
  show ag w' _ (S.put s o.dst (.list false (bl.rows.take m)) j) _
  have hj:ag w' g' (S.put s o.dst (aN P (words P) C ops.toList b i o s.n s.ev s.t s.h).1 j) (a'.tmps.getD j undef):=hj
  cases hd:o.dst with
  | none=>rw[hd]at hj;exact hj.later q1.mem mono
  | some d =>
   rw[hd]at hj
   by_cases ej:j=d
   .
    subst ej;have hj:ag w' g' (upd s.t j _ j) _:=hj;rw[bN,k1]at hj
    show ag w' _ (upd s.t j _ j) _
    rw[bN];have:=NE (ty:=bl.ty) (rows:=bl.rows) q1.mem k2 k5 (off:=0) (k:=m) om hj
    simpa only[X6]using this
   have hj:ag w' g' (upd s.t d _ j) _:=hj;rw[aK _ _ _ _ ej]at hj
   show ag w' _ (upd s.t d _ j) _
   rw[aK _ _ _ _ ej];exact hj.later q1.mem mono
 have er:stepG P (words P) C ops.toList b fz s i=dJ P (words P) C ops.toList b i o s:=by rw[xL e];simp only[bB,hi']
 rw[er]at hok hK
 exact Gj hs hb hN hi hok hK
theorem ZiP [Glob P]{ops:Array Oper}{b:Nat}{ro:Option Nat}{n:Nat}{Q:Exit->Act->World->Prop}{w0:World}{g0:Mem}{fin:S}{fz:Option Nat}{ps:List Pr}(hcomm:xy C ops.toList fz ps=true)(BP : ∀p∈ps,∀r∈ma ops.toList b p.j fin,r ∉ ma ops.toList b p.i fin) :
  ∀(fuel:Nat)(listed:Array Bool)(s:S)(g:Mem)(a:Act)(w:World),listed.size=ops.size->(todo ops.size listed).length<=fuel->(∀(i:Nat)o,ops.toList[i]? = some o->listed.getD i false=true -> ∀e∈o.after.toList,Region.binds .any e=true->listed.getD e.on false=true) ->
   (∀(i:Nat)o,ops.toList[i]? = some o -> ∀e∈o.after.toList,Region.binds .any e=true->e.on<i) ->
   St P B s g a w->ax g0 g w0 w->(∀r,g.U r->r<b \/ ∃i,listed.getD i false=true/\i<ops.size/\r=b+i)->(todo ops.size listed).foldl (stepG P (words P) C ops.toList b fz) s=fin->fin.ok ->
   (∀g' a' w',St P B fin g' a' w'->ax g0 g' w0 w'->(∀r,g'.U r->r<b+ops.size)->Q .normal a' w') ->
   wpAnyIn (Fw ro) n P .any ops Q fuel listed a w:=by
 have hcp:ops.toList.all (xA C)=true:=by unfold xy at hcomm;simp only[XU]at hcomm;exact hcomm.1.1.1
 have hps : ∀p∈ps,AZ C ops.toList p=true:=by unfold xy at hcomm;simp only[XU,YJ]at hcomm;exact hcomm.1.1.2
 have hz:JF ops.toList fz=true:=by unfold xy at hcomm;simp only[XU]at hcomm;exact hcomm.1.2
 have hcm:=hcomm
 unfold xy at hcm
 simp only[XU]at hcm
 have hcm:=hcm.2
 simp only[YJ,Zp,Yc,XU,Yb]at hcm
 intro fuel
 induction fuel with
 | zero =>
  intro listed s g a w hsz hfu hX hback hs hm hU hfin hok hQ;have hnil:todo ops.size listed=[]:=Ya om;rw[hnil]at hfin;simp only[ZA]at hfin;subst hfin;refine⟨?_,hQ g a w hs hm λr hr=>?_⟩
  .
   unfold Region.ready;rw[List.filter_eq_nil_iff];intro i hi;have h1:i ∉ todo ops.size listed:=by rw[hnil];simp
   simp only[todo,Zr,hi,true_and,Yb,Bool.not_eq_false]at h1;have hil:i<listed.size:=by rw[hsz];simpa using hi
   have h2:listed.getD i true=true:=by simp[Array.getD,hil]at h1 ⊢;exact h1
   simp[h2]
  rcases hU r hr with h|⟨i,_,h,rfl⟩<;>omega
 | succ fuel ih =>
  intro listed s g a w hsz hfu hX hback hs hm hU hfin hok hQ;refine⟨λhrd=>?_,λi hi=>?_⟩
  .
   have hnil:todo ops.size listed=[]:=by
    rw[todo,List.filter_eq_nil_iff];intro i hi;simp only[Yb,Bool.not_eq_false];have hlt:i<ops.size:=by simpa using hi
    have : ∀k,k<ops.size->listed.getD k false=true:=by
     intro k
     induction k using Nat.strongRecOn with
     | _ k ihk =>
      intro hk;have h0:k ∉ Region.ready .any ops listed:=by rw[hrd];simp
      unfold Region.ready at h0;simp only[Zr,Zp,hk,true_and]at h0;have hkl:k<listed.size:=by omega
      cases hq:listed.getD k false with
      | true=>rfl
      | false =>
       exfalso
       apply h0
       have h2:listed.getD k true=false:=by simp[Array.getD,hkl]at hq ⊢;exact hq
       have h3:ops[k]? = some ops[k]:=by simp[hk]
       simp only[h2,Bool.not_false,h3,YX,YR,ZG];rw[Array.all_eq_true];intro q hqq;simp only[Yc,Yb]
       cases hb:Region.binds .any (ops[k].after[q])with
       | false=>exact .inl rfl
       | true =>
        have hmem:ops[k].after[q]∈ops[k].after.toList:=by simp
        have h4:=hback k ops[k] (by simp[hk]) _ hmem hb
        exact .inr (ihk _ h4 om)
    exact this i hlt
   rw[hnil]at hfin;simp only[ZA]at hfin;subst hfin;exact hQ g a w hs hm λr hr=>by rcases hU r hr with h|⟨i,_,h,rfl⟩<;>omega
  unfold Region.ready at hi;simp only[Zr,Zp,XU,Yb]at hi;obtain⟨hlt,h1,h2⟩:=hi;have h3:ops[i]? = some ops[i]:=by simp[hlt]
  have uK:ops.toList[i]? = some ops[i]:=by simp[hlt]
  simp only[h3,YX,YR]at h2;have hil:i<listed.size:=by omega
  have xe:listed.getD i false=false:=by simp[Array.getD,hil]at h1 ⊢;exact h1
  have tN : ∀e∈(ops[i]).after.toList,Region.binds .any e=true->listed.getD e.on false=true:=by
   intro e he hb;rw[Array.all_eq_true]at h2;obtain⟨q,hq,rfl⟩:=Array.mem_iff_getElem.1 (Array.mem_toList_iff.1 he);have:=h2 q hq;simp only[hb,Bool.not_true,Bool.false_or]at this;exact this
  have hmem:i∈todo ops.size listed:=by simp[todo,hlt];simpa using xe
  obtain⟨pre,post,hsplit⟩:=List.append_of_mem hmem;have qK:(todo ops.size listed).Pairwise (· < ·):=Z6 _ ZW;rw[hsplit]at qK;have hpre : ∀j∈pre,j<i:=λj hj=>(Zf.1 qK).2.2 j hj i (by simp)
  have hpost : ∀j∈post,i<j:=λj hj=>(YF.1 (Zf.1 qK).2.1).1 j hj
  have hap : ∀j∈pre,j≠i /\ ∀x,ops.toList[j]? = some x->(Dm ps j i=true\/(fz≠some i/\fz≠some j/\mo C ops.toList x ops[i]=true)):=by
   intro j hj;have hjl:=hpre j hj;refine⟨om,λx hx=>?_⟩
   have hjm:j∈todo ops.size listed:=by rw[hsplit];simp[hj]
   have hjn:listed.getD j false=false:=by simp only[todo,Zr,Yb]at hjm;exact hjm.2
   have e1:ops.toList.getD j default=x:=by simp only[List.getD,hx,YR]
   have e2:ops.toList.getD i default=ops[i]:=by simp only[List.getD,uK,YR]
   rcases hcm i (by simpa using hlt) j hjl with(h|h)|h
   .
    exfalso
    have:=yS (L:=ops.toList) (X:=λk=>listed.getD k false=true) hX i _ uK tN j h
    rw[hjn]at this;cases this
   . exact .inl h
   rw[e1,e2]at h;exact .inr ⟨Vl h.1.1,Vl h.1.2,h.2⟩
  have yu : ∀j∈pre,∀x,ops.toList[j]? = some x->iK ops.toList x ops[i]=true:=by
   intro j hj x hx;have e1:ops.toList.getD j default=x:=by simp only[List.getD,hx,YR]
   have e2:ops.toList.getD i default=ops[i]:=by simp only[List.getD,uK,YR]
   rcases(hap j hj).2 x hx with h|h
   . simp only[Dm,ZY,XU,YB]at h;obtain⟨p,hp,h1,h2⟩:=h;have:=hps p hp;simp only[AZ,XU,h1,h2,e1,e2]at this;exact this.1.1.2
   exact GQ h.2.2
  have FJ : ∀j,j∈todo ops.size listed -> ¬g.U (b+j):=by
   intro j hjm hu;have hjn:listed.getD j false=false:=by simp only[todo,Zr,Yb]at hjm;exact hjm.2
   rcases hU _ hu with h|⟨k,hk,_,e⟩
   . omega
   have:k=j:=by omega
   subst this;rw[hjn]at hk;cases hk
  have hh0:s.h (b+i)=none:=by
   cases hq:s.h (b+i)with
   | none=>rfl
   | some bl =>
    obtain⟨blk,c',q1,_⟩:=hs.mem.blk _ bl hq;exact absurd (hs.mem.used _ (by rw[q1];simp)) (FJ i hmem)
  have hok0:=hok;rw[<-hfin,hsplit,Zh,YH]at hok0;have hok1:=JN hok0;have Na:(pre.foldl (stepG P (words P) C ops.toList b fz) s).ok:=Qk hok1;have hlooks : ∀z∈looks ops.toList ops[i],(pre.foldl (stepG P (words P) C ops.toList b fz) s).t z=s.t z:=λz hz=>JM _ _ λk hk o ho=>TR (yu k hk o ho) z hz
  have Nf:reader ops[i]=true -> ∀j∈pre,∀d∈(aV (ops[i]).op).map s.ev,named (b+j) (sd d)=false:=by
   intro hr j hj d hd;have hsg:sg d=true:=by
    have e:(aV (ops[i]).op).map (pre.foldl (stepG P (words P) C ops.toList b fz) s).ev=(aV (ops[i]).op).map s.ev:=Zd λx hx=>by
     cases x with
     | tmp t=>exact hlooks t (Yx.2 (.inl (Zw.2 ⟨.tmp t,hx,rfl⟩)))
     | _=>rfl
    have hne:fz≠some i:=λe=>by
     have:=NC hz e;simp only[List.getD,uK,YR]at this;obtain⟨r1,r2⟩:=EQ hr;exact ZkB this r1
    have hrun' : ∀u,stepG P (words P) C ops.toList b fz u i=dJ P (words P) C ops.toList b i ops[i] u:=λu=>by rw[xL hne];simp[bB,hlt]
    rw[hrun',mf]at hok1;have h2:=hok1.2;obtain⟨r1,r2⟩:=EQ hr;simp only[aN,r2,aY,LQ r1,Yp,Za]at h2;have h4:=h2.2.1 trivial;rw[e]at h4;exact YJ.1 h4 d hd
   cases hq:named (b+j) (sd d)with
   | false=>rfl
   | true =>
    exfalso
    obtain⟨z,_,rfl⟩:=Yt.1 hd;exact FJ j (by rw[hsplit];simp[hj]) (Ru (bX hs z) hsg hq)
  have hfr : ∀p∈ps,p.i=i -> ∀vw zw,pre=vw++p.j::zw -> ∀r∈ma ops.toList b p.j (vw.foldl (stepG P (words P) C ops.toList b fz) s),r ∉ ma ops.toList b p.i s:=by
   intro p hp hpi vw zw hsp;have hk:=hps p hp;simp only[AZ,MW,XU,YJ]at hk;have f1:=BP p hp;have hpp:=(Zf.1 qK).1;rw[hsp]at hpp;have hpp2:=(YF.1 (Zf.1 hpp).2.1).1;have g1 : ∀z∈looks ops.toList (ops.toList.getD p.j default),fin.t z=(vw.foldl (stepG P (words P) C ops.toList b fz) s).t z:=by
    intro z hz;rw[<-hfin,hsplit,hsp,Yu,Zh];refine JM _ _ λk hkm=>UC (hk.1.2 z hz) ?_
    have hjp:p.j<i:=hpre p.j (by rw[hsp];simp)
    simp only[XY,Ym,Yx]at hkm
    rcases hkm with h|h|h|h
    . omega
    . have:=hpp2 k h;omega
    . omega
    have:=hpost k h;omega
   have e2:ops.toList.getD p.i default=ops[i]:=by rw[hpi];simp only[List.getD,uK,YR]
   have g2 : ∀z∈looks ops.toList (ops.toList.getD p.i default),fin.t z=s.t z:=by
    intro z hz;rw[<-hfin,hsplit,Zh];refine(JM (i::post) _ λk hkm=>UC (hk.2 z hz) ?_).trans (hlooks z (by rw[<-e2];exact hz))
    rcases Ym.1 hkm with h|h
    . omega
    have:=hpost k h;omega
   rw[<-NH g1,<-NH g2];exact f1
  have FR:(pre++post).foldl (stepG P (words P) C ops.toList b fz) (stepG P (words P) C ops.toList b fz s i)=fin:=by
   rw[<-hfin,hsplit,Zh,Zh,YH,NJ hcp hz hps uK pre s hap hfr Nf hh0 Na]
  have hset : ∀k,(listed.setIfInBounds i true).getD k false=(listed.getD k false||k==i):=by
   intro k
   by_cases e:k=i
   . subst e;simp[Array.getD,hil]
   rw[getD_set_ne false (Ne.symm e)];have:(k==i)=false:=by simpa using e
   rw[this,ZR]
  have htodo:todo ops.size (listed.setIfInBounds i true)=pre++post:=by
   have e1:todo ops.size (listed.setIfInBounds i true)=(todo ops.size listed).filter (· != i):=by
    unfold todo;rw[List.filter_filter];refine Z5 λk _=>?_
    rw[hset k]
    by_cases e:k=i
    . simp[e]
    have e2:(k==i)=false:=by simpa using e
    have e3:(k != i)=true:=by simpa using e
    rw[e2,e3,ZR,ZG]
   rw[e1,hsplit,List.filter_append,List.filter_cons];have p1:pre.filter (· != i)=pre:=Y1.2 λj hj=>by have:=hpre j hj;simp;omega
   have p2:post.filter (· != i)=post:=Y1.2 λj hj=>by have:=hpost j hj;simp;omega
   simp[p1,p2]
  refine ZbX hs (b:=b) (N:=b+ops.size) (λh=>?_) (λr hr=>?_) h3 (JN (by rw[FR];exact hok)) λg' a' w' q1 q2 q3=>?_
  .
   rcases hU _ h with h|⟨k,hk,_,e⟩
   . omega
   have:k=i:=by omega
   subst this;rw[xe]at hk;cases hk
  . rcases hU r hr with h|⟨k,_,h,rfl⟩<;>omega
  refine ih (listed.setIfInBounds i true) _ g' a' w' (by simp[hsz]) (by rw[htodo];have:=congrArg List.length hsplit;simp at this;simp;omega) (λk o hk hkl e he hb=>?_) hback q1 (hm.trans q2) (λr hr=>?_) (by rw[htodo];exact FR) hok hQ
  .
   rw[hset]at hkl ⊢;simp only[Yc,YB]at hkl ⊢
   rcases hkl with hkl|rfl
   . exact .inl (hX k o hk hkl e he hb)
   rw[uK]at hk;cases hk
   exact .inl (tN e he hb)
  rcases q3 r hr with h|rfl
  .
   rcases hU r h with h|⟨k,hk,hks,rfl⟩
   . exact .inl h
   exact .inr ⟨k,by rw[hset,hk];rfl,hks,rfl⟩
  exact .inr ⟨i,by rw[hset];simp,hlt,rfl⟩
end Go.DL
namespace Go.DL
open Go.RowKit
variable {P : Program} {C : aS}
def S.clear(s:S):S:={ s with ok:=True }
def St.clear [Glob P]{B:dn}{s:S}{g:Mem}{a:Act}{w:World}(h:St P B s g a w):St P B s.clear g a w:=⟨h.sz,h.tm,h.mem,h.df,h.en,h.bd⟩
def DW(P:Program)[Glob P](ro:Option Nat)(c:Code)(Q:Exit->S->Prop)(s:S):Prop :=
 ∀(B:dn)(g:Mem)(a:Act)(w:World),St P B s g a w->(∀r,g.U r->r<s.nx) ->
  c.wpIn (Fw ro) 0 P (λe a' w'=>∃s' g',Q e s'/\St P B s' g' a' w'/\gJ s.e.x g g' w w'/\(∀r,g'.U r->r<s'.nx)/\s'.e.x=s.e.x) a w
theorem wpIn_loop_ghost [Glob P]{F:Fence}{n:Nat}{Q:Exit->Act->World->Prop}{a:Act}{w:World}{c:Code}(I:Nat->Act->World->Prop)(n0:Nat)(h0:I n0 a w)
  (round : ∀k a w,I k a w->c.wpIn F n P (Exit.then (λa' w'=>∃k',k'<k/\I k' a' w') Q) a w):(Code.loop c).wpIn F n P Q a w:=by
 refine wpIn_loop (λa w=>∃k,I k a w) (λa w=>leastOf λk=>I k a w) ⟨n0,h0⟩ λa w h=>?_
 obtain⟨h1,h2⟩:=leastOf_spec h
 refine wpIn_mono (round _ a w h1) λe a' w' hq=>?_
 cases e with
 | normal =>
  obtain⟨k',hlt,hI⟩:=hq;exact⟨⟨k',hI⟩,Nat.lt_of_le_of_lt ((leastOf_spec ⟨k',hI⟩).2 k' hI) hlt⟩
 | _=>exact hq
section
variable {ro : Option Nat} {Q : Exit -> S -> Prop} {s : S}
def DW.mono [Glob P]{c:Code}{Q':Exit->S->Prop}(h:DW P ro c Q s)(hq : ∀e s,Q e s->Q' e s):DW P ro c Q' s :=
 λB g a w hs hU=>wpIn_mono (h B g a w hs hU) λ_ _ _⟨s',g',q,r⟩=>⟨s',g',hq _ _ q,r⟩
def ah [Glob P](h:Q .normal s):DW P ro .skip Q s:=λ_ g _ _ hs hU=>wpIn_skip ⟨s,g,h,hs,gJ.refl _ _ _,hU,rfl⟩
def aH [Glob P]{id:Nat}(h:Q (.exit id) s):DW P ro (.exit id) Q s:=λ_ g _ _ hs hU=>wpIn_exit ⟨s,g,h,hs,gJ.refl _ _ _,hU,rfl⟩
theorem aL [Glob P](h:Q .ret s):DW P ro .ret Q s:=λ_ g _ _ hs hU=>wpIn_ret ⟨s,g,h,hs,gJ.refl _ _ _,hU,rfl⟩
def thenS(next:S->Prop)(Q:Exit->S->Prop):Exit->S->Prop
 | .normal,s=>next s
 | e,s=>Q e s
theorem ae [Glob P]{x y:Code}(h:DW P ro x (thenS (DW P ro y Q) Q) s):DW P ro (.seq x y) Q s:=by
 intro B g a w hs hU
 refine wpIn_seq (wpIn_mono (h B g a w hs hU) ?_)
 rintro e a' w' ⟨s',g',hq,hs',hm,iZ,hx⟩
 cases e with
 | normal=>exact wpIn_mono (hq B g' a' w' hs' iZ) λe a'' w''⟨s'',g'',q,r,m,u,v⟩=>⟨s'',g'',q,r,hm.trans (hx▸m),u,v.trans hx⟩
 | _=>exact⟨s',g',hq,hs',hm,iZ,hx⟩
def Zit [Glob P]{x y:Code}(M:S->Prop)(h:DW P ro x (thenS M Q) s)(k : ∀s',M s'->DW P ro y Q s'):DW P ro (.seq x y) Q s :=
 ae (h.mono λe s' hq=>by cases e<;>first|exact k s' hq|exact hq)
def ZiJ [Glob P]{c:Operand}{x y:Code}{t:Bool}(hc:s.ev c = .v (.bool t))(ht:t=true->DW P ro x Q s)(hf:t=false->DW P ro y Q s):DW P ro (.cond c x y) Q s:=by
 intro B g a w hs hU
 have h:=bX hs c
 rw[hc]at h
 exact wpIn_cond_split h.v_inv (λe=>ht e B g a w hs hU) (λe=>hf e B g a w hs hU)
def OL(id:Nat)(Q:Exit->S->Prop):Exit->S->Prop
 | .exit id',s=>if id'=id then Q .normal s else Q (.exit id') s
 | e,s=>Q e s
theorem aj [Glob P]{id:Nat}{c:Code}(h:DW P ro c (OL id Q) s):DW P ro (.block id c) Q s:=by
 intro B g a w hs hU
 refine wpIn_block (wpIn_mono (h B g a w hs hU) ?_)
 rintro e a' w' ⟨s',g',hq,r⟩
 cases e with
 | exit id' =>
  simp only[Exit.inBlock,OL]at hq ⊢
  split
  . rename_i e;rw[X3 e]at hq;exact⟨s',g',hq,r⟩
  rename_i e;rw[XV e]at hq;exact⟨s',g',hq,r⟩
 | _=>exact⟨s',g',hq,r⟩
def kr(L:List Oper):Bool:=(List.range L.length).all λi=>(L.getD i default).after.toList.all λe=>!Region.binds .any e||decide (e.on<i)
theorem VC [Glob P]{W:cu}{L:List Oper}{b:Nat}{fz:Option Nat}:∀(l:List Nat)(u:S),(l.foldl (stepG P W C L b fz) u).nx=u.nx/\(l.foldl (stepG P W C L b fz) u).e=u.e:=by
 intro l
 induction l with
 | nil=>intro u;exact⟨rfl,rfl⟩
 | cons k l ih =>
  intro u;simp only[YH];rw[(ih _).1,(ih _).2];unfold stepG
  cases L[k]? <;> exact⟨rfl,rfl⟩
def Ziu [Glob P]{ro:Option Nat}{Q:Exit->S->Prop}{s fin:S}{id:Nat}{ops:Array Oper}(fz:Option Nat)(ps:List Pr)(hd:P.follows .mixedOrders=true/\xy C ops.toList fz ps=true/\kr ops.toList=true)
  (hfin:(List.range' 0 ops.toList.length).foldl (stepG P (words P) C ops.toList s.nx fz) (s.begin ops.toList.length)=fin)
  (BP : ∀p∈ps,∀r∈ma ops.toList s.nx p.j fin,r ∉ ma ops.toList s.nx p.i fin)
  (hok:fin.ok)(hq:Q .normal fin.clear):DW P ro (.region id ops true) Q s:=by
 intro B g a w hs hU
 have hs0:St P B (s.begin ops.toList.length) g a w:=⟨hs.sz,hs.tm,hs.mem,hs.df,hs.en,hs.bd⟩
 have Nb:fin.nx=s.nx+ops.size:=by rw[<-hfin,(VC _ _).1];simp[S.begin]
 have hef:fin.clear.e.x=s.e.x:=by show fin.e.x=s.e.x;rw[<-hfin,(VC _ _).2];rfl
 obtain⟨h1,h2,h3⟩:=hd
 refine wpIn_region_any h1 ?_
 obtain⟨hs1,hm1⟩:=J5 hs0
 have hrep : ∀i,(Array.replicate ops.size false).getD i false=false:=by
  intro i
  by_cases h:i<ops.size<;>simp[Array.getD,h]
 have htodo:todo ops.size (Array.replicate ops.size false)=List.range' 0 ops.toList.length:=by
  unfold todo;rw[Y1.2 (λi _=>by rw[hrep];rfl),Ze]
  simp
 refine ZiP (C:=C) (B:=B) (b:=s.nx) (fin:=fin) h2 BP ops.size _ (s.begin ops.toList.length) g a _ (by simp) (by rw[htodo];simp) (λi o _ hi=>by rw[hrep]at hi;cases hi) (λi o ho e he hb=>?_) hs1 hm1 (λr hr=>.inl (hU r hr)) (by rw[htodo,hfin]) hok
  (λg' a' w' q1 q2 q3=>⟨_,g',hq,q1.clear,q2.toX,λr hr=>by show r<fin.nx;rw[Nb];exact q3 r hr,hef⟩)
 unfold kr at h3
 simp only[YJ,Zp,Yc,Yb,XW]at h3
 have hil:i<ops.toList.length:=(X7.1 ho).1
 have ho':ops.toList.getD i default=o:=by simp only[List.getD,ho,YR]
 have:=h3 i hil e (by rw[ho'];exact he)
 rcases this with h|h
 . rw[hb]at h;cases h
 exact h
theorem VB [Glob P]{W:cu}{L:List Oper}{b:Nat}{fz:Option Nat}:∀(l:List Nat)(u:S),(∀k∈l,fz≠some k)->l.foldl (stepG P W C L b fz) u=l.foldl (bB P W C L b) u
 | [],u,_=>rfl
 | k::l,u,h=>by
  simp only[YH];rw[xL (h k (by simp)),VB l _ λm hm=>h m (by simp[hm])]
def VX [Glob P]{ro:Option Nat}{Q:Exit->S->Prop}{s fin:S}{id:Nat}{ops:Array Oper}(ps:List Pr)(hd:P.follows .mixedOrders=true/\xy C ops.toList none ps=true/\kr ops.toList=true)
  (he:exec P (words P) C ops.toList s=fin)(BP : ∀p∈ps,∀r∈ma ops.toList s.nx p.j fin,r ∉ ma ops.toList s.nx p.i fin)
  (hok:fin.ok)(hq:Q .normal fin.clear):DW P ro (.region id ops true) Q s:=by
 refine Ziu none ps hd ?_ BP hok hq
 rw[VB _ _ (λ_ _ h=>by cases h),<-he]
 have:=VL (P:=P) (W:=words P) (C:=C) (L:=ops.toList) (b:=s.nx) ops.toList.length 0 (s.begin ops.toList.length) om
 rw[X6]at this
 exact this.symm
def Zj0(o:Oper):xA C o=true:=by
 unfold xA
 split<;>rfl
def ZjP{L:List Oper}(h:qZ C L=true):xy C L none []=true:=by
 unfold qZ at h
 unfold xy
 simp only[XU,YJ,Zp,Yc]at h ⊢
 exact⟨⟨⟨λx _=>Zj0 x,λp hp=>by cases hp⟩,rfl⟩,λi hi j hj=>(h i hi j hj).elim (λq=>.inl (.inl q)) λq=>.inr ⟨⟨rfl,rfl⟩,q⟩⟩
theorem Ziv [Glob P]{id:Nat}{ops:Array Oper}{draw:Bool}(hd:draw=true->P.follows .mixedOrders=true/\qZ C ops.toList=true/\kr ops.toList=true)
  (hok:(exec P (words P) C ops.toList s).ok)(hq:Q .normal (exec P (words P) C ops.toList s).clear):DW P ro (.region id ops draw) Q s:=by
 intro B g a w hs hU
 have hs0:St P B (s.begin ops.toList.length) g a w:=⟨hs.sz,hs.tm,hs.mem,hs.df,hs.en,hs.bd⟩
 have hnx : ∀(l:List Nat)(u:S),(l.foldl (bB P (words P) C ops.toList s.nx) u).nx=u.nx:=by
  intro l
  induction l with
  | nil=>intro u;rfl
  | cons i l ih =>
   intro u;simp only[YH];rw[ih];unfold bB
   split
   . exact Cb.2
   rfl
 have BO:=VL (P:=P) (W:=words P) (C:=C) (L:=ops.toList) (b:=s.nx) ops.toList.length 0 (s.begin ops.toList.length) (by omega)
 simp only[X6]at BO
 have hfin:exec P (words P) C ops.toList s=(List.range' 0 ops.toList.length).foldl (bB P (words P) C ops.toList s.nx) (s.begin ops.toList.length):=BO
 have Nb:(exec P (words P) C ops.toList s).nx=s.nx+ops.size:=by rw[hfin,hnx];simp[S.begin]
 have hex : ∀(l:List Nat)(u:S),(l.foldl (bB P (words P) C ops.toList s.nx) u).e=u.e:=by
  intro l
  induction l with
  | nil=>intro u;rfl
  | cons i l ih =>
   intro u;simp only[YH];rw[ih];unfold bB
   split
   . unfold dJ;split<;>rfl
   rfl
 have hef:(exec P (words P) C ops.toList s).clear.e.x=s.e.x:=by show(exec P (words P) C ops.toList s).e.x=s.e.x;rw[hfin,hex];rfl
 have fin : ∀g' a' w',St P B (exec P (words P) C ops.toList s) g' a' w'->ax g g' w w'->(∀r,g'.U r->r<s.nx+ops.size) -> ∃s' g'',Q .normal s'/\St P B s' g'' a' w'/\gJ s.e.x g g'' w w'/\(∀r,g''.U r->r<s'.nx)/\s'.e.x=s.e.x :=
  λg' a' w' h1 h2 h3=>⟨_,g',hq,h1.clear,h2.toX,λr hr=>by show r<(exec P (words P) C ops.toList s).nx;rw[Nb];exact h3 r hr,hef⟩
 cases draw with
 | false =>
  refine wpIn_region ?_;have:=Zih (P:=P) (C:=C) (B:=B) (ops:=ops) (b:=s.nx) (ro:=ro) (n:=0) (Q:=λe a' w'=>∃s' g',Q e s'/\St P B s' g' a' w'/\gJ s.e.x g g' w w'/\(∀r,g'.U r->r<s'.nx)/\s'.e.x=s.e.x) ops.size 0 (s.begin ops.toList.length) g a w hs0 (ax.refl _ _) (λr hr=>by have:=hU r hr;omega) om
   (by simp only[X6];exact hok) (by simp only[X6];exact fin)
  rw[Ze];exact this
 | true =>
  obtain⟨h1,h2,h3⟩:=hd rfl;exact VX [] ⟨h1,ZjP h2,h3⟩ rfl (λp hp=>by cases hp) hok hq B g a w hs hU
end
def S.init(n:Nat)(args:List D):S:={ n,t:=λi=>args.getD i .junk,h:=λ_=>none,nx:=0 }
def EO [Glob P](s:S):ResultVar->D
 | .tmp t=>s.t t
 | .cell a t=>(mP P t (s.t a) s.h).1
def Rp [Glob P](s:S):ResultVar->Prop
 | .tmp _=>True
 | .cell a t=>(mP P t (s.t a) s.h).2
def rO(P:Program)[Glob P](rs:List ResultVar)(s:S):D:=match rs.map (EO (P:=P) s)with
 | [d]=>d
 | ds=>.tuple ds
def qh(P:Program)[Glob P](s:S):List ResultVar->Prop
 | []=>True
 | r::rs=>Rp (P:=P) s r/\qh P s rs
def Ip(tmps:Array Value)(r:ResultVar):Sem Value:=match r with
 | .tmp t=>pure (tmps.getD t undef)
 | .cell a t=>do loadVar t (<-asAddr (tmps.getD a undef))
theorem Ro [Glob P]{B:dn}{s:S}{g:Mem}{a:Act}{w:World}(hs:St P B { s with e:=Env.tt } g a w):∀rs:List ResultVar,qh P s rs -> ∃vs:List Value,(rs.mapM (Ip a.tmps)).run P w = .ok vs w/\aB w g (rs.map (EO (P:=P) s)) vs
 | [],_=>⟨[],by simp,.nil⟩
 | r::rs,h=>by
  obtain⟨vs,h1,h2⟩:=Ro hs rs h.2
  cases r with
  | tmp t=>exact⟨a.tmps.getD t undef::vs,by simp only[List.mapM_cons,Sem.run_bind,Ip,Sem.run_pure,Result.andThen_ok,h1],.cons (hs.tm t) h2⟩
  | cell c t =>
   obtain⟨q1,q2,q3⟩:=h.1;obtain⟨p,hp,hc⟩:=Sd hs.mem (hs.tm c) (by intro e;rw[e]at q1;simp at q1;omega)
   obtain⟨v,h4,h5⟩:=Rb hc q1 q2 q3;refine⟨v::vs,?_,.cons h5 h2⟩;simp only[List.mapM_cons,Sem.run_bind,Ip,hp,asAddr,Sem.run_pure,Result.andThen_ok,h4,h1]
theorem CW [Glob P]{fn:Func}{B:dn}{s:S}{g:Mem}{a:Act}{w:World}(hs:St P B { s with e:=Env.tt } g a w)(hok:qh P s fn.results.toList):∃v,(results fn a.tmps).run P w = .ok v w/\ag w g (rO P fn.results.toList s) v:=by
 obtain⟨vs,h1,h2⟩:=Ro hs _ hok
 have hrun:(results fn a.tmps).run P w = .ok (if h:vs.toArray.size=1 then vs.toArray[0]else .tuple vs.toArray) w:=by
  have e:results fn a.tmps=(do let vs <-fn.results.mapM (Ip a.tmps);pure (if h:vs.size=1 then vs[0]else .tuple vs):Sem Value):=rfl
  rw[e,Array.mapM_eq_mapM_toList]
  simp[h1]
 refine⟨_,hrun,?_⟩
 unfold rO
 split
 .
  rename_i d hd
  rw[hd]at h2;obtain⟨v,l,rfl,h3,h4⟩:=h2.of_cons;rw[h4.of_nil]
  simpa using h3
 rename_i hne
 rw[dif_neg (λh=>?_)]
 . exact .mk_tuple (by simpa using h2)
 have hl:(fn.results.toList.map (EO (P:=P) s)).length=1:=by rw[h2.1];simpa using h
 match hq:fn.results.toList.map (EO (P:=P) s),hl with
 | [d],_=>exact hne d hq
def GX:Obj->Prop
 | .cells .. | .map .. => True
 | _=>False
theorem Ja [Glob P]{fn:Func}{tmps:Array Value}{R:Ending->World->Prop}{n B:Nat}{g:Mem}:∀(ds:List Deferred)(w:World),Marks B g ds w ->
  (∀w',w'.drawn=w.drawn->w'.os=w.os->w'.tape=w.tape->w'.output=w.output->w'.heap.size=w.heap.size->(∀k:Nat,k<B->w'.heap[k]? = w.heap[k]?)->(∀k:Nat,g.I k->w'.heap[k]? = w.heap[k]?)->(∀(k:Nat)o,w.heap[k]? = some o->GX o->w'.heap[k]? = w.heap[k]?) -> ∃v,(results fn tmps).run P w' = .ok v w'/\R (.returned v) w') ->
  LeavesInM Fence.wide n P fn tmps R ds .returning w:=by
 intro ds
 induction ds with
 | nil =>
  intro w _ h;exact h w rfl rfl rfl rfl rfl (λ_ _=>rfl) (λ_ _=>rfl) (λ_ _ _ _=>rfl)
 | cons d ds ih =>
  rintro w ⟨⟨D,h1,h2,h3,h4,h5⟩,h6⟩ h;refine⟨by simp,.inl ⟨D,w.putObj D (.deferred none),h1,run_takeDeferred h2,?_⟩⟩
  have hne : ∀k,k≠D->(w.putObj D (.deferred none)).heap[k]? = w.heap[k]? := λk hk=>World.putObj_heap_other hk
  have hms : ∀ds:List Deferred,(∀d'∈ds,d'.target ≠ .collected D)->Marks B g ds w->Marks B g ds (w.putObj D (.deferred none)):=by
   intro ds
   induction ds with
   | nil=>intro _ _;trivial
   | cons e ds ihd =>
    rintro hds ⟨⟨D',k1,k2,k3,k4,k5⟩,k6⟩;refine⟨⟨D',k1,?_,k3,k4,k5⟩,ihd (λd' hd'=>hds d' (by simp[hd'])) k6⟩
    rw[hne D' (λe'=>by subst e';exact hds e (by simp) k1)]
    exact k2
  refine ih _ (hms ds h3 h6) λw' e0 e1 e2 e3 e4 e5 e6 e7=>?_
  refine h w' (by rw[e0];rfl) (by rw[e1];rfl) (by rw[e2];rfl) (by rw[e3];rfl) (by rw[e4];simp) (λk hk=>?_) (λk hk=>?_) (λk o hk ho=>?_)
  . rw[e5 k hk,hne k (by omega)]
  . rw[e6 k hk,hne k (λe=>by subst e;exact h5 hk)]
  have:k≠D:=λe'=>by subst e';rw[h2]at hk;cases hk;exact ho
  rw[e7 k o (by rw[hne k this];exact hk) ho,hne k this]
def HM.marks [Glob P]{h:H}{g:Mem}{w w':World}(hm:HM P h g w)(e4:w'.heap.size=w.heap.size)(e6 : ∀k:Nat,g.I k->w'.heap[k]? = w.heap[k]?)(e7 : ∀(k:Nat)o,w.heap[k]? = some o->GX o->w'.heap[k]? = w.heap[k]?):HM P h g w':=by
 refine⟨hm.dead,λr bl hr=>?_,hm.inj,hm.used,λb hb=>by rw[e4];exact hm.imm b hb,hm.gr.later λb hb=>⟨hb,e6 b hb⟩⟩
 obtain⟨blk,c,h1,h2,h3,h4,h5⟩:=hm.blk r bl hr
 refine⟨blk,c,h1,h2,h3,h4,?_⟩
 rcases h5 with h5|⟨b,cur,rfl,h6,h7,h8,h9⟩
 . exact .inl h5
 have hst:w'.heap[b]? = w.heap[b]? := by
  obtain⟨x,hx,hy⟩:=h6.some;exact e7 b x hx (by rcases hy with⟨_,_,_,rfl⟩|⟨_,_,rfl⟩<;>trivial)
 exact .inr ⟨b,cur,rfl,by rw[hst];exact h6,h7,h8,λi row hi=>⟨(h9 i row hi).1,λj d hd=>by
  obtain⟨u,k3,k4,k5⟩:=(h9 i row hi).2 j d hd;exact⟨u,k3,k4,k5.mono (λb hb=>⟨hb,e6 b hb⟩) (λ_ h=>h) (λ_ _=>.inl rfl)⟩⟩⟩
def St.marks [Glob P]{B:dn}{s:S}{g:Mem}{a:Act}{w w':World}(hs:St P B s g a w)(e4:w'.heap.size=w.heap.size)(e6 : ∀k:Nat,g.I k->w'.heap[k]? = w.heap[k]?)(e7 : ∀(k:Nat)o,w.heap[k]? = some o->GX o->w'.heap[k]? = w.heap[k]?) :
  St P (dn.of B.n) { s with e:=Env.tt } g { a with defers:=[] } w' :=
 ⟨hs.sz,λi=>(hs.tm i).mono (λb hb=>⟨hb,e6 b hb⟩) (λ_ h=>h) (λ_ _=>.inl rfl),hs.mem.marks e4 e6 e7,ky.start,trivial,by rw[e4];exact hs.bd⟩
def zR [Glob P]{n:Nat}{args:List D}{vs:List Value}{g:Mem}{w:World}(hr:aB w g args vs)(hn:args.length<=n){h:H}(hm:HM P h g w){nx:Nat} :
  St P (dn.of w.heap.size) { S.init n args with h:=h,nx:=nx } g { tmps:=vs.toArray++Array.replicate (n-vs.toArray.size) undef,defers:=[] } w:=by
 have hl:vs.length=args.length:=hr.1.symm
 refine⟨by simp[S.init];omega,λi=>?_,hm,ky.start,trivial,XX _⟩
 simp only[S.init]
 by_cases hi:i<args.length
 .
  have e1:args.getD i .junk=args[i]:=by simp[List.getD,Yg hi]
  have hi':i<vs.length:=by omega
  have e2:(vs.toArray++Array.replicate (n-vs.toArray.size) undef).getD i undef=vs[i]:=by
   simp[Array.getElem?_append,hi']
  rw[e1,e2];exact hr.2 i _ _ (by simp) (by simp)
 have e1:args.getD i .junk = .junk:=by simp[List.getD,Z0 (Nat.le_of_not_lt hi)]
 rw[e1]
 exact .junk _
def xP [Glob P]{f:FuncId}{fn:Func}{c:Code}{args:List D}{res:D}(hf:P.funcs[f]? = some fn)(hb:fn.body=some c)(hbd:dY P f=true)(hnr:args.all D.nr=true)(hn:args.length<=fn.ntmps)
  (h:DW P none c (λe s=>(e = .normal\/e = .ret)/\qh P s fn.results.toList /\ ∃k,dP s.h k (rO P fn.results.toList s)/\wk (snap s.h k (rO P fn.results.toList s))=res) (S.init fn.ntmps args)):PureCt P f args res:=by
 refine⟨hbd,hnr,λw I vs hI hgr hr=>?_⟩
 have hm:HM P (λ_=>none) (jJ I) w:=by
  refine⟨λ_ _=>rfl,?_,?_,?_,hI,hgr⟩
  . intro r bl h;cases h
  . intro r r' b c c' s s' h;cases h
  intro r h;exact absurd rfl h
 have hs:St P (dn.of w.heap.size) (S.init fn.ntmps args) (jJ I) { tmps:=vs.toArray++Array.replicate (fn.ntmps-vs.toArray.size) undef,defers:=[] } w:=zR hr hn hm
 refine callsIn_of_wp_marks (n:=0) hf hb trivial (wpIn_mono (F:=Fence.wide) (h (dn.of w.heap.size) (jJ I) _ w hs (λr h=>False.elim h)) ?_)
 rintro e a' w' ⟨s',g',⟨he,ho,k,hk,hres⟩,hs',hm',_⟩
 have hm':=hm'.out
 have hlast:LeavesInM Fence.wide 0 P fn a'.tmps (λe w'=>∃v,e = .returned v/\G6 w w'/\ag w' (jJ λb=>I b\/(w.heap.size<=b/\b<w'.heap.size)) res v) a'.defers .returning w':=by
  refine Ja (P:=P) a'.defers w' hs'.df.marks λw2 e0 e1 e2 e3 e4 e5 e6 e7=>?_
  have hs2:=hs'.marks e4 e6 e7;obtain⟨v,h1,h2⟩:=CW (fn:=fn) hs2 ho;refine⟨v,h1,v,rfl,⟨by rw[e1,hm'.os],by rw[e2,hm'.tape],by rw[e3,hm'.output],by rw[e4];exact hm'.size,by rw[e0];exact hm'.drawn,λb hb=>?_⟩,?_⟩
  . rw[e5 b hb,hm'.same b hb (λr c s h=>by cases h)]
  obtain⟨q1,q2⟩:=H6 hs2.mem k _ v (vC h2) hk;have q1:=q1.wk;have q2:=Ha _ q2;rw[hres]at q1 q2;refine q1.clean q2 λb hb=>?_
  rcases hb with hb|⟨r,c,s,hb⟩
  .
   rcases hm'.inew b hb with h|h|⟨r,c,s,h⟩
   . exact .inl h
   . exact .inr ⟨h,hs2.mem.imm b hb⟩
   cases h
  rcases hm'.new r b c s hb with⟨r',c',s',h⟩|h
  . cases h
  exact .inr ⟨h,(pU hs2.mem hb).1⟩
 rcases he with rfl|rfl<;>exact hlast
end Go.DL
