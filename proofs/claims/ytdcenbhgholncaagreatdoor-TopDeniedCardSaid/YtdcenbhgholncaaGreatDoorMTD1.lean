/-
  MANY TEXTS OF MINE IN ONE (a claim has a limit of files): DCore, DRep, DExec, DPure, DMem, DOps, DApp, DEff, DBuild, DMap, DEff2, DCall, DRegion, DDraw, DFt. Conditions: none.
-/
import Derived.WalkKit
import Derived.ControlIn
import Derived.CallsIn
import Derived.OrdersIn
import Derived.Laws.StructEq
import Derived.Great.BuildSlice
import Derived.MapKept
import Derived.Laws.MakeOwn
import Derived.WideKeyRuns
import Derived.RangeFuncLeaves
set_option linter.unusedVariables false
set_option linter.unusedSimpArgs false
set_option linter.unusedSectionVars false
set_option linter.defProp false
set_option linter.unnecessarySimpa false
namespace Go
def XT := @Bool.and_eq_true
def XU := @Option.some.injEq
def XV := @decide_eq_true_eq
def XW := @if_neg
def XX := @List.cons_append
def XY := @if_pos
def XZ := @List.nil_append
def X0 := @List.getElem?_eq_some_iff
def X3 := @decide_eq_false_iff_not
def X4 := @Nat.le_refl
def X5 := @Bool.not_eq_true'
def X6 := @List.getElem?_eq_getElem
def X7 := @List.mem_of_getElem?
def X8 := @Bool.or_eq_true
def X9 := @List.map_cons
def Ya := @Bool.or_eq_false_iff
def Yb := @Array.getElem?_eq_some_iff
def Yd := @List.mem_singleton
def Ye := @Bool.false_eq_true
def Yf := @List.eq_nil_of_length_eq_zero
def Yg := @List.all_eq_true
def Yh := @List.take_of_length_le
def Yi := @List.mem_map
def Yj := @List.drop_zero
def Yk := @Bool.not_eq_false'
def Yl := @Nat.zero_le
def Ym := @List.getElem?_map
def Yn := @List.drop_eq_getElem_cons
def Yo := @List.mem_append
def Yp := @List.getElem_mem
def Yq := @Option.isSome_iff_exists
def Yr := @List.length_append
def Yt := @Nat.le_trans
def Yu := @Prod.mk.injEq
def Yv := @List.drop_succ_cons
def Yw := @List.map_nil
def Yx := @beq_iff_eq
def Yy := @List.cons.injEq
def Yz := @List.mem_cons
def YA := @List.length_cons
def YB := @List.foldl_cons
def YC := @List.take_succ_cons
def YD := @Option.getD_some
def YE := @decide_eq_true
def YG := @List.getElem?_of_mem
def YH := @Bool.and_eq_false_iff
def YI := @decide_eq_false
def YJ := @List.mem_filter
def YK := @List.map_congr_left
def YL := @Array.getElem?_toList
def YM := @beq_eq_false_iff_ne
def YN := @List.getElem_of_mem
def YO := @List.getElem?_drop
def YP := @Option.map_some
def YQ := @List.map_append
def YR := @Classical.byContradiction
def YS := @Bool.eq_iff_iff
def YT := @Nat.mul_le_mul_right
def YU := @List.drop_eq_nil_of_le
def YV := @List.length_pos_iff
def YW := @List.append_assoc
def YX := @List.getElem?_append_right
def YY := @List.length_map
def YZ := @List.append_nil
def Y0 := @if_false
def Y1 := @List.take_zero
def Y2 := @List.mem_range
def Y3 := @of_decide_eq_true
def Y4 := @Array.getD_eq_getD_getElem?
def Y5 := @Nat.lt_of_lt_of_le
def Y6 := @List.getElem?_take
def Y7 := @List.length_take
def Y8 := @List.foldl_append
def Y9 := @List.set_cons_zero
def Za := @List.pairwise_iff_getElem
def Zb := @List.getElem?_append_left
def Zc := @Array.eq_empty_of_size_eq_zero
def Zd := @Classical.choose_spec
def Ze := @Nat.add_mul
def Zf := @Option.isNone_iff_eq_none
def Zg := @Array.getElem?_eq_getElem
def Zh := @Array.ext'
def Zi := @List.range'_succ
def Zj := @List.length_drop
def Zk := @List.set_cons_succ
def Zl := @Bool.true_and
def Zm := @List.range_eq_range'
def Zn := @List.pairwise_append
def Zo := @List.pairwise_cons
def Zp := @Bool.and_assoc
def Zq := @List.take_length
def Zr := @List.drop_length
def Zt := @List.getElem?_eq_none
def Zu := @Nat.sub_self
def Zv := @Nat.lt_or_ge
def Zw := @if_true
def Zx := @Nat.mul_comm
def Zy := @Nat.mod_eq_of_lt
def Zz := @List.any_eq_true
def ZA := @Bool.or_false
def ZB := @Nat.add_zero
def ZC := @List.mem_append_left
def ZE := @bne_iff_ne
def ZF := @List.filter_eq_self
def ZG := @List.getElem?_set_self
def ZH := @Nat.le_add_right
def ZI := @List.foldl_nil
def ZJ := @List.length_nil
def ZK := @List.take_add_one
def ZL := @List.range'_append_1
def ZM := @List.pairwise_lt_range
def ZN := @List.mem_filterMap
def ZO := @UInt8.toNat_inj
def ZP := @Nat.mul_add_mod
def ZQ := @Bool.and_self
def ZR := @List.take_append_drop
def ZT := @eq_false
def ZU := @List.Pairwise.filter
def ZV := @decide_eq_decide
def ZW := @bne_eq_false_iff_eq
def ZX := @Option.some.inj
def ZY := @Nat.min_eq_left
def ZZ := @List.pairwise_singleton
def Z0 := @List.filter_congr
def Z4 := @List.not_mem_nil
def Z5 := @List.length_set
def Z6 := @List.flatMap_cons
def Z7 := @List.map_take
def Z8 := @List.drop_drop
end Go
namespace Go.DL
theorem ez9 {p : Prop} (h : p := by first | omega | (intros; omega) | (intro h; cases h) | (intro h; simp at h; done)) : p := h
end Go.DL
namespace Go.DL
theorem om{p:Prop}(h:p:=by omega):p:=h
def oW{p:Prop}(h:p:=by first|omega|(dsimp only;omega)):p:=h
inductive D where
 | v (x:Value)
 | agg (cs:List D)
 | list (full:Bool) (rows:List (List D))
 | eptr (cs:List D)
 | mrow (r off len:Nat)
 | mptr (r i off:Nat)
 | fn (f:Fn) (first aP:List D)
 | tuple (ds:List D)
 | iface (t:TypeId) (d:D)
 | mp (r:Nat)
 | fmap (kv:List D)
 | cond (g:Bool) (d:D)
 | junk
 deriving Inhabited
abbrev D.i(n:Int):D:=.v (.int .i64 n)
abbrev D.b(x:Bool):D:=.v (.bool x)
abbrev D.l(x:List (List D)):D:=.list false x
abbrev D.e:D:=.list true []
def D.cells:D->List D
 | .agg cs=>cs
 | d=>[d]
def D.one:D->Bool
 | .v (.agg _) | .v (.tuple _)=>false
 | .agg _ | .tuple _ | .cond _ _ | .junk=>false
 | _=>true
def Ug(_:Program):Type:=Nat->Option (List Value)
abbrev aa(P:Program):=Inhabited (Ug P)
def aa.tab(P:Program)[aa P]:Nat->Option (List Value):=(default:Ug P)
structure ax where
 ty:TypeId
 rows:List (List D)
abbrev H:=Nat->Option ax
def upd{α:Type}(f:Nat->α)(i:Nat)(x:α):Nat->α:=λj=>if j=i then x else f j
theorem bK{α:Type}(f:Nat->α)(i:Nat)(x:α):upd f i x i=x:=by simp[upd]
theorem aL{α:Type}(f:Nat->α)(i j:Nat)(x:α)(h:j≠i):upd f i x j=f j:=by simp[upd,h]
def Bw:Value->D
 | .slice a n c=>if a.isNone&&n==0&&c==0 then .list true []else .v (.slice a n c)
 | .func f fs cs=>if fs.size==0&&cs.size==0 then .fn f [] []else .v (.func f fs cs)
 | x=>.v x
def kI:Value->D
 | .agg cs=>.agg (cs.toList.map Bw)
 | x=>Bw x
section
variable (P : Program) [aa P]
def bY(t:TypeId):Bool:=match P.underlying t with|some (.struct _)|some (.array _ _)=>true|_=>false
def zeroCells(t:TypeId):List D:=match(P.info? t).bind (·.zero)with|some z=>(kI z).cells|none=>[]
def dJ(t:TypeId):Bool:=match(P.info? t).bind (·.zero)with|some z=>z.cells.size==P.cellsOf t|none=>false
def bM(s:TypeId)(f:Nat):Option (Nat×TypeId):=match P.underlying s with|some (.struct fs)=>(fs[f]?).map λf=>(f.offset,f.type)|_=>none
def aZ(t:TypeId):Option TypeId:=match P.underlying t with|some (.slice e)=>some e|_=>none
def qd(t:TypeId)(cs:List D):D:=if bY P t then .agg (cs.take (P.cellsOf t))else cs.headD .junk
def eD(a:D)(h:H):List D:=match a with
 | .eptr cs=>cs
 | .mptr r i off=>match h r with
  | some b=>(b.rows.getD i []).drop off
  | none=>[]
 | _=>[]
def fU(a:D)(h:H):List D:=match a with
 | .v (.pointer (some ⟨x,o,none⟩))=>match aa.tab P x with
  | some cs=>(cs.drop o).map D.v
  | none=>[]
 | a=>eD a h
def jd(t:TypeId)(a:D)(h:H):D×Prop :=
 (qd P t (fU P a h),P.cellsOf t<=(fU P a h).length/\0<P.cellsOf t/\(P.underlying t).isSome=true)
def splice(row:List D)(off:Nat)(cs:List D):List D:=row.take off++cs++row.drop (off+cs.length)
def fO(t:TypeId)(a x:D)(h:H):H×Prop:=match a with
 | .mptr r i off=>match h r with
  | some b=>(upd h r (some { b with rows:=b.rows.set i (splice (b.rows.getD i []) off x.cells) }),
    x.cells.length=P.cellsOf t/\0<P.cellsOf t/\i<b.rows.length/\off+x.cells.length<=(b.rows.getD i []).length/\x.cells.all D.one=true)
  | none=>(h,False)
 | _=>(h,False)
def sK(n:Nat):D->D
 | .eptr cs=>.eptr (cs.drop n)
 | .mptr r i off=>.mptr r i (off+n)
 | .v (.pointer (some p))=>.v (.pointer (some (p.add n)))
 | _=>.junk
def rH:D->Bool
 | .eptr _ | .mptr _ _ _=>true
 | .v (.pointer (some _))=>true
 | _=>false
def tJ(s:TypeId)(f:Nat)(a:D):D×Prop:=match bM P s f with
 | some (off,t)=>(sK off a,rH a=true/\P.cellsOf t≠0)
 | none=>(.junk,False)
def yV(s:TypeId)(f:Nat)(a:D):D×Prop:=match bM P s f,a with
 | some (off,t),.agg cs=>(qd P t (cs.drop off),off+P.cellsOf t<=cs.length/\0<P.cellsOf t/\(P.underlying t).isSome=true)
 | _,_=>(.junk,False)
def aj(d:D)(h:H):List (List D):=match d with
 | .list _ rows=>rows
 | .mrow r off len=>match h r with
  | some b=>(b.rows.drop off).take len
  | none=>[]
 | .v (.string s)=>s.data.toList.map λb=>[.v (.int .u8 b.toNat)]
 | _=>[]
def bq(d:D):Nat:=match d with
 | .list _ rows=>rows.length
 | .mrow _ _ len=>len
 | .v (.string s)=>s.size
 | _=>0
def lQ(t:TypeId):Option (Nat×TypeId):=match P.underlying t with|some (.array n e)=>some (n,e)|_=>none
def wV:D->Bool
 | .v (.pointer (some _)) | .eptr _ | .mptr _ _ _=>true
 | _=>false
def ql(t:TypeId)(x ix:D):D×Prop:=match lQ P t,ix with
 | some (n,e),.v (.int _ k)=>(sK (k.toNat*P.cellsOf e) x,wV x=true/\0<=k/\k<n/\0<P.cellsOf e)
 | _,_=>(.junk,False)
def eF(t:TypeId)(x ix:D)(h:H):D×Prop:=match aZ P t with
 | none=>ql P t x ix
 | some e=>match x,ix with
  | .list _ rows,.v (.int _ n)=>(.eptr (rows.getD n.toNat []),0<=n/\n<rows.length/\0<P.cellsOf e/\(rows.getD n.toNat []).length=P.cellsOf e)
  | .mrow r off len,.v (.int _ n)=>(.mptr r (off+n.toNat) 0,0<=n/\n<len/\0<P.cellsOf e/\match h r with|some bl=>bl.ty=e|none=>False)
  | _,_=>(.junk,False)
def jT(k:IntKind)(n:Int):Prop:=k.min<=n/\n<=k.max
def lI:D->D->Bool
 | .v (.int _ a),.v (.int _ b)=>a==b
 | .v (.bool a),.v (.bool b)=>a==b
 | .v (.string a),.v (.string b)=>a.data.toList==b.data.toList
 | _,_=>false
def lH:List D->List D->Bool
 | x::xs,y::ys=>lI x y&&lH xs ys
 | _,_=>true
inductive Kd where
 | b|i|s
def xZ:Kd->D->D->Bool
 | .i,.v (.int k _),.v (.int k' _)=>k==k'
 | .b,.v (.bool _),.v (.bool _)=>true
 | .s,.v (.string _),.v (.string _)=>true
 | _,_,_=>false
def nR:List Kd->List D->List D->Bool
 | k::ks,x::xs,y::ys=>xZ k x y&&nR ks xs ys
 | [],[],[]=>true
 | _,_,_=>false
def dP(t:TypeId)(op:BinOp)(x y:Value):Value×Prop:=match op,x,y with
 | .add,.int k a,.int k' b=>if k.signed then(.int k (a+b),k=k'/\jT k (a+b))else(.int k (k.wrap (a+b)),k=k')
 | .sub,.int k a,.int k' b=>if k.signed then(.int k (a-b),k=k'/\jT k (a-b))else(.int k (k.wrap (a-b)),k=k')
 | .mul,.int k a,.int k' b=>if k.signed then(.int k (a*b),k=k'/\jT k (a*b))else(.int k (k.wrap (a*b)),k=k')
 | .quo,.int k a,.int k' b=>(.int k (a / b),k=k'/\0<=a/\1<=b/\jT k a)
 | .rem,.int k a,.int k' b=>(.int k (a % b),k=k'/\0<=a/\1<=b)
 | .lss,.int k a,.int k' b=>(.bool (decide (a<b)),k=k')
 | .leq,.int k a,.int k' b=>(.bool (decide (a<=b)),k=k')
 | .gtr,.int k a,.int k' b=>(.bool (decide (b<a)),k=k')
 | .geq,.int k a,.int k' b=>(.bool (decide (b<=a)),k=k')
 | .eql,.int k a,.int k' b=>(.bool (a==b),k=k')
 | .neq,.int k a,.int k' b=>(.bool (a != b),k=k')
 | .eql,.bool a,.bool b=>(.bool (a==b),P.underlying t=some .bool)
 | .neq,.bool a,.bool b=>(.bool (a != b),P.underlying t=some .bool)
 | .eql,.string a,.string b=>(.bool (a.data.toList==b.data.toList),True)
 | .neq,.string a,.string b=>(.bool (a.data.toList != b.data.toList),True)
 | .add,.string a,.string b=>(.string (a++b),a.size+b.size<=9223372036854775807)
 | .lss,.string a,.string b=>(.bool (Go.Op.bytesLess a.data.toList b.data.toList),True)
 | .leq,.string a,.string b=>(.bool (Go.Op.bytesLess a.data.toList b.data.toList||a.data.toList==b.data.toList),True)
 | .gtr,.string a,.string b=>(.bool !(Go.Op.bytesLess a.data.toList b.data.toList||a.data.toList==b.data.toList),True)
 | .geq,.string a,.string b=>(.bool !(Go.Op.bytesLess a.data.toList b.data.toList),True)
 | .shl,.int k a,.int _ b=>(.int k (k.wrap (a*2^(min b.toNat k.bits))),0<=b)
 | .shr,.int k a,.int _ b=>(.int k (a.fdiv (2^(min b.toNat k.bits))),0<=b)
 | .or,.int k a,.int k' b=>(.int k (k.wrap (BitVec.ofInt k.bits a ||| BitVec.ofInt k.bits b).toNat),k=k')
 | .xor,.int k a,.int k' b=>(.int k (k.wrap (BitVec.ofInt k.bits a ^^^ BitVec.ofInt k.bits b).toNat),k=k')
 | .and,.int k a,.int k' b=>(.int k (k.wrap (BitVec.ofInt k.bits a &&& BitVec.ofInt k.bits b).toNat),k=k')
 | .andNot,.int k a,.int k' b=>(.int k (k.wrap (BitVec.ofInt k.bits a &&& ~~~BitVec.ofInt k.bits b).toNat),k=k')
 | _,_,_=>(undef,False)
def kindOf(P:Program)[aa P](t:TypeId):Option Kd:=match P.underlying t with
 | some .bool=>some .b
 | some (.int _)=>some .i
 | some .string=>some .s
 | _=>none
def xk(P:Program)[aa P]:Nat->List Field->Option (List Kd)
 | _,[]=>some []
 | i, f :: fs => if f.name != "_" && f.offset == i then (match kindOf P f.type, xk P (i + 1) fs with
  | some k,some ks=>some (k::ks)
  | _,_=>none)else none
def rV(P:Program)[aa P](t:TypeId):Option (List Kd):=match P.underlying t with
 | some (.struct fs)=>if !P.stoodInHeld t && !P.eqGuardType P.depth t then xk P 0 fs.toList else none
 | _=>none
def lM(t:TypeId)(op:BinOp)(x y:D):D×Prop:=match x,y with
 | .v a,.v b=>(.v (dP P t op a b).1,(dP P t op a b).2)
 | .agg xs,.agg ys=>match op with
  | .eql=>(.v (.bool (lH xs ys)),match rV P t with|some ks=>nR ks xs ys=true|none=>False)
  | .neq=>(.v (.bool (!lH xs ys)),match rV P t with|some ks=>nR ks xs ys=true|none=>False)
  | _=>(.junk,False)
 | _,_=>(.junk,False)
end
def jS:D->D->Bool
 | .agg xs,.agg ys=>lH xs ys
 | x,y=>lI x y
def jr:List D->D->Option D
 | k::v::l,q=>if jS q k then some v else jr l q
 | _,_=>none
def jq:List D->D->D->List D
 | k::v::l,q,x=>if jS q k then q::x::l else k::v::jq l q x
 | _,q,x=>[q,x]
def plainOf(P:Program)(t:TypeId)(d:D):Bool:=match P.underlying t,d with
 | some .string,.v (.string _)=>true
 | some (.int k),.v (.int k' _)=>k==k'
 | some .bool,.v (.bool _)=>true
 | _,_=>false
def jm(P:Program):Nat->List Field->List D->Bool
 | i, f :: fs, d :: ds => f.name != "_" && f.offset == i && plainOf P f.type d && jm P (i + 1) fs ds
 | _,[],[]=>true
 | _,_,_=>false
def jv(P:Program)(t:TypeId)(d:D):Bool:=match P.underlying t,d with
 | some (.struct fs),.agg cs=>jm P 0 fs.toList cs
 | _,d=>plainOf P t d
def lC(P:Program)(t:TypeId):List D->Bool
 | k::_::l=>jv P t k&&lC P t l
 | []=>true
 | _=>false
def nJ(P:Program)[aa P](t:TypeId):Bool:=match P.underlying t with
 | some (.struct _)=>(rV P t).isSome
 | some .string|some (.int _)|some .bool=>true
 | _=>false
def vM(P:Program)(t:TypeId):D:=match(P.info? t).bind (·.zero)with|some z=>kI z|none=>.junk
def E9(P:Program)(t:TypeId):Bool:=((P.info? t).bind (·.zero)).isSome
def lu(P:Program)(t:TypeId):Option (TypeId×TypeId):=match P.underlying t with|some (.map k e)=>some (k,e)|_=>none
def iF(bl:ax):Option (List D):=match bl.rows with
 | [[.iface 0 (.tuple kv)]]=>some kv
 | _=>none
def iT(kv:List D):List (List D):=[[.iface 0 (.tuple kv)]]
def qj(h:H):D->Option (List D)
 | .mp r=>(h r).bind iF
 | .fmap kv=>some kv
 | _=>none
end Go.DL
namespace Go.DL
open Go.RowKit
structure Mem where
 M:Nat->Option (Option Nat×Nat×Nat)
 U:Nat->Prop
 I:Nat->Prop
theorem block_add(a:Addr)(n:Nat):(a.add n).block=a.block:=by unfold Addr.add;split<;>rfl
theorem add_add'(a:Addr)(i j:Nat):(a.add i).add j=a.add (i+j):=by
 unfold Addr.add
 by_cases hi:i=0<;>by_cases hj:j=0<;>simp[hi,hj,Nat.add_assoc]
theorem kT(b o n:Nat):(⟨b,o,none⟩:Addr).add n=⟨b,o+n,none⟩:=by
 unfold Addr.add;split<;>simp_all
def ik(es:Array MapEntry):List Value:=es.toList.flatMap λe=>[e.key,e.val]
def C8(es:Array MapEntry)(aV:Nat):Prop:=aV=es.size /\ ∀(i:Nat)(e:MapEntry),es.toList[i]? = some e->e.born=i
def nZ(o:Option Obj)(ty:TypeId)(cur:Array Value)(c:Nat):Prop :=
 (c<=maxLen/\o=some (.cells cur ty (0,0)))\/(c=maxLen+1 /\ ∃es aV,o=some (.map es aV)/\cur = #[.iface 0 (.tuple (ik es).toArray)]/\C8 es aV)
theorem nZ.cells{o:Option Obj}{ty:TypeId}{cur:Array Value}{c:Nat}(h:nZ o ty cur c)(hc:c<=maxLen):o=some (.cells cur ty (0,0)):=by
 rcases h with h|⟨h,_⟩
 . exact h.2
 omega
theorem nZ.map{o:Option Obj}{ty:TypeId}{cur:Array Value}{c:Nat}(h:nZ o ty cur c)(hc:c=maxLen+1):∃es aV,o=some (.map es aV)/\cur = #[.iface 0 (.tuple (ik es).toArray)]:=by
 rcases h with h|⟨_,es,aV,h1,h2,_⟩
 . omega
 exact⟨es,aV,h1,h2⟩
def nZ.stamps{o:Option Obj}{ty:TypeId}{cur:Array Value}{c:Nat}(h:nZ o ty cur c){es:Array MapEntry}{aV:Nat}(ho:o = .some (.map es aV)):C8 es aV:=by
 rcases h with h|⟨_,es',clk',h1,_,h3⟩
 . rw[h.2]at ho;cases ho
 rw[h1]at ho;cases ho;exact h3
theorem nZ.some{o:Option Obj}{ty:TypeId}{cur:Array Value}{c:Nat}(h:nZ o ty cur c):∃x,o=some x/\((∃e f g,x = .cells e f g) \/ ∃e f,x = .map e f):=by
 rcases h with h|⟨_,es,aV,h,_⟩
 . exact⟨_,h.2,.inl ⟨_,_,_,rfl⟩⟩
 exact⟨_,h,.inr ⟨_,_,rfl⟩⟩
def nZ.uniq{o:Option Obj}{ty:TypeId}{cur cur':Array Value}{c:Nat}(h:nZ o ty cur c)(k:nZ o ty cur' c):cur=cur':=by
 by_cases hc:c<=maxLen
 .
  have h1:=h.cells hc;have h2:=k.cells hc;rw[h1]at h2
  cases h2
  rfl
 have e:c=maxLen+1:=by
  rcases h with h|h
  . exact absurd h.1 hc
  exact h.1
 obtain⟨es,aV,h1,h2⟩:=h.map e
 obtain⟨es',clk',k1,k2⟩:=k.map e
 rw[h1]at k1
 cases k1
 rw[h2,k2]
inductive ag (w:World) (g:Mem):D->Value->Prop
 | v (x:Value):ag w g (.v x) x
 | agg (ds:List D) (vs:Array Value) (hn:ds.length=vs.size) (h : ∀(i:Nat)d x,ds[i]? = some d->vs[i]? = some x->ag w g d x):ag w g (.agg ds) (.agg vs)
 | tuple (ds:List D) (vs:Array Value) (hn:ds.length=vs.size) (h : ∀(i:Nat)d x,ds[i]? = some d->vs[i]? = some x->ag w g d x):ag w g (.tuple ds) (.tuple vs)
 | iface (t:TypeId) (d:D) (x:Value) (h:ag w g d x):ag w g (.iface t d) (.iface t x)
 | empty (full:Bool) (a:Option Addr) (cap:Nat) (hf:full=true->cap=0) (hm:cap<=maxLen):ag w g (.list full []) (.slice a 0 cap)
 | list (full:Bool) (rows:List (List D)) (ad:Addr) (cap size:Nat) (cv:Nat->Nat->Value) (hI:g.I ad.block) (hl:rows.length<=cap) (hf:full=true->cap=rows.length) (hm:cap<=maxLen)
   (hs : ∀r∈rows,r.length=size) (hc : ∀(i j:Nat)r d,rows[i]? = some r->r[j]? = some d->w.cell? (ad.add (i*size+j))=some (cv i j)/\(cv i j).oneCell'=true)
   (hr : ∀(i j:Nat)r d,rows[i]? = some r->r[j]? = some d->ag w g d (cv i j)):ag w g (.list full rows) (.slice (some ad) rows.length cap)
 | eptr (cs:List D) (p:Addr) (cv:Nat->Value) (hI:g.I p.block) (hc : ∀(j:Nat)d,cs[j]? = some d->w.cell? (p.add j)=some (cv j)) (hr : ∀(j:Nat)d,cs[j]? = some d->ag w g d (cv j)):ag w g (.eptr cs) (.pointer (some p))
 | mrow (r off len:Nat) (x:Value) (hx : ∃a c,x = .slice a len c/\len<=c/\(0<len -> ∃p,a=some p)) (hU:g.U r) (h : ∀blk c sz,g.M r=some (blk,c,sz)->(off+len<=c/\c<=maxLen)/\((c=off /\ ∃a,x = .slice a 0 0)\/(c≠off /\ ∃b,blk=some b/\x = .slice (some ⟨b,off*sz,Option.none⟩) len (c-off)))):ag w g (.mrow r off len) x
 | mptr (r i off:Nat) (x:Value) (hx : ∃p,x = .pointer (some p)) (hU:g.U r) (h : ∀blk c sz,g.M r=some (blk,c,sz)->c<=maxLen /\ ∃b,blk=some b/\x = .pointer (some ⟨b,i*sz+off,Option.none⟩)):ag w g (.mptr r i off) x
 | mp (r:Nat) (x:Value) (hx : ∃p,x = .map (some p)) (hU:g.U r) (h : ∀blk c sz,g.M r=some (blk,c,sz)->c=maxLen+1 /\ ∃b,blk=some b/\x = .map (some b)):ag w g (.mp r) x
 | fmap (kv:List D) (b:Nat) (es:Array MapEntry) (aV:Nat) (hI:g.I b) (hb:w.heap[b]? = some (.map es aV)) (hn:kv.length=(ik es).length) (h : ∀(i:Nat)d x,kv[i]? = some d->(ik es)[i]? = some x->ag w g d x):ag w g (.fmap kv) (.map (some b))
 | fn (f:Fn) (first aP:List D) (fs cs:Array Value) (hf:first.length=fs.size) (hc:aP.length=cs.size) (h1 : ∀(i:Nat)d x,first[i]? = some d->fs[i]? = some x->ag w g d x)
   (h2 : ∀(i:Nat)d x,aP[i]? = some d->cs[i]? = some x->ag w g d x):ag w g (.fn f first aP) (.func f fs cs)
 | cond (b:Bool) (d:D) (x:Value) (ht:b=true->ag w g d x) (hf:b=false->x=undef):ag w g (.cond b d) x
 | junk (x:Value):ag w g .junk x
theorem ag.mono{w w':World}{g g':Mem}(hI : ∀b,g.I b->g'.I b/\w'.heap[b]? = w.heap[b]?)(hU : ∀r,g.U r->g'.U r)(hM : ∀r,g.U r->g'.M r=g.M r\/g'.M r=Option.none)
  {d:D}{x:Value}(h:ag w g d x):ag w' g' d x:=by
 induction h with
 | v x=>exact .v x
 | agg ds vs hn _ ih=>exact .agg ds vs hn ih
 | tuple ds vs hn _ ih=>exact .tuple ds vs hn ih
 | iface t d x _ ih=>exact .iface t d x ih
 | empty full a cap hf hm=>exact .empty full a cap hf hm
 | list full rows ad cap size cv hi hl hf hm hs hc _ ih =>
  refine .list full rows ad cap size cv (hI _ hi).1 hl hf hm hs (λi j r d h1 h2=>?_) ih
  obtain⟨h3,h4⟩:=hc i j r d h1 h2;refine⟨?_,h4⟩;rw[<-h3];exact World.cell?_of_block (by rw[block_add];exact(hI _ hi).2)
 | eptr cs p cv hi hc _ ih =>
  refine .eptr cs p cv (hI _ hi).1 (λj d h1=>?_) ih
  rw[<-hc j d h1];exact World.cell?_of_block (by rw[block_add];exact(hI _ hi).2)
 | mrow r off len x hx hu h =>
  refine .mrow r off len x hx (hU r hu) λblk c sz he=>?_
  rcases hM r hu with e|e
  . exact h blk c sz (e▸he)
  rw[e]at he;cases he
 | mptr r i off x hx hu h =>
  refine .mptr r i off x hx (hU r hu) λblk c sz he=>?_
  rcases hM r hu with e|e
  . exact h blk c sz (e▸he)
  rw[e]at he;cases he
 | mp r x hx hu h =>
  refine .mp r x hx (hU r hu) λblk c sz he=>?_
  rcases hM r hu with e|e
  . exact h blk c sz (e▸he)
  rw[e]at he;cases he
 | fmap kv b es aV hi hb hn _ ih=>exact .fmap kv b es aV (hI b hi).1 ((hI b hi).2.trans hb) hn ih
 | fn f first aP fs cs hf hc _ _ ih1 ih2=>exact .fn f first aP fs cs hf hc ih1 ih2
 | cond b d x _ hf ih=>exact .cond b d x ih hf
 | junk x=>exact .junk x
def aG(w:World)(g:Mem)(ds:List D)(vs:List Value):Prop:=ds.length=vs.length /\ ∀(i:Nat)d x,ds[i]? = some d->vs[i]? = some x->ag w g d x
theorem aG.nil{w:World}{g:Mem}:aG w g [] []:=⟨rfl,λi d x h=>by simp at h⟩
theorem aG.cons{w:World}{g:Mem}{d:D}{x:Value}{ds:List D}{vs:List Value}(h:ag w g d x)(hs:aG w g ds vs):aG w g (d::ds) (x::vs):=by
 refine⟨by simp[hs.1],λi d' x' h1 h2=>?_⟩
 cases i with
 | zero=>simp at h1 h2;subst h1;subst h2;exact h
 | succ i=>simp at h1 h2;exact hs.2 i d' x' h1 h2
theorem aG.head{w:World}{g:Mem}{d:D}{x:Value}{ds:List D}{vs:List Value}(hs:aG w g (d::ds) (x::vs)):ag w g d x:=hs.2 0 d x rfl rfl
def aG.tail{w:World}{g:Mem}{d:D}{x:Value}{ds:List D}{vs:List Value}(hs:aG w g (d::ds) (x::vs)):aG w g ds vs :=
 ⟨by simpa using hs.1,λi d' x' h1 h2=>hs.2 (i+1) d' x' (by simpa using h1) (by simpa using h2)⟩
def aG.of_nil{w:World}{g:Mem}{vs:List Value}(hs:aG w g [] vs):vs=[]:=Yf hs.1.symm
theorem aG.of_cons{w:World}{g:Mem}{d:D}{ds:List D}{vs:List Value}(hs:aG w g (d::ds) vs):∃x xs,vs=x::xs/\ag w g d x/\aG w g ds xs:=by
 cases vs with
 | nil=>simp[aG]at hs
 | cons x xs=>exact⟨x,xs,rfl,hs.head,hs.tail⟩
theorem aG.append{w:World}{g:Mem}{ds es:List D}{vs us:List Value}(h:aG w g ds vs)(k:aG w g es us):aG w g (ds++es) (vs++us):=by
 induction ds generalizing vs with
 | nil=>rw[h.of_nil];exact k
 | cons d ds ih=>obtain⟨x,xs,rfl,h1,h2⟩:=h.of_cons;exact .cons h1 (ih h2)
theorem aG.take{w:World}{g:Mem}{ds:List D}{vs:List Value}(h:aG w g ds vs)(n:Nat):aG w g (ds.take n) (vs.take n):=by
 refine⟨by simp[h.1],λi d x h1 h2=>?_⟩
 rw[Y6]at h1 h2
 split at h1
 . rename_i hi;rw[XY hi]at h2;exact h.2 i d x h1 h2
 cases h1
theorem aG.drop{w:World}{g:Mem}{ds:List D}{vs:List Value}(h:aG w g ds vs)(n:Nat):aG w g (ds.drop n) (vs.drop n):=by
 refine⟨by simp[h.1],λi d x h1 h2=>?_⟩
 rw[YO]at h1 h2
 exact h.2 _ d x h1 h2
def Holds(P:Program)[aa P](w:World)(g:Mem)(bl:ax)(cur:Array Value):Prop :=
 ∀(i:Nat)row,bl.rows[i]? = some row->row.length=P.cellsOf bl.ty /\ ∀(j:Nat)d,row[j]? = some d -> ∃u,cur[i*P.cellsOf bl.ty+j]? = some u/\u.oneCell'=true/\ag w g d u
def Gr(P:Program)[aa P](I:Nat->Prop)(w:World):Prop:=∀x cs,aa.tab P x=some cs->I x /\ ∀(j:Nat)v,cs[j]? = some v->w.cell? ⟨x,j,Option.none⟩=some v
theorem Gr.later{P:Program}[aa P]{I I':Nat->Prop}{w w':World}(h:Gr P I w)(k : ∀b,I b->I' b/\w'.heap[b]? = w.heap[b]?):Gr P I' w':=by
 intro x cs hx
 obtain⟨h1,h2⟩:=h x cs hx
 refine⟨(k x h1).1,λj v hj=>?_⟩
 rw[<-h2 j v hj]
 exact World.cell?_of_block (k x h1).2
structure HM(P:Program)[aa P](h:H)(g:Mem)(w:World):Prop where
 dead : ∀r,h r=Option.none->g.M r=Option.none
 blk : ∀r bl,h r=some bl -> ∃blk c,g.M r=some (blk,c,P.cellsOf bl.ty)/\0<P.cellsOf bl.ty/\bl.rows.length<=c/\c<=maxLen+1 /\
  ((blk=Option.none/\c=0) \/ ∃b cur,blk=some b/\nZ w.heap[b]? bl.ty cur c/\(c<=maxLen->cur.size=c*P.cellsOf bl.ty) /\ ¬g.I b/\Holds P w g bl cur)
 inj : ∀r r' b c c' s s',g.M r=some (some b,c,s)->g.M r'=some (some b,c',s')->r=r'
 used : ∀r,g.M r≠Option.none->g.U r
 imm : ∀b,g.I b->b<w.heap.size
 gr:Gr P g.I w
class Dr where
 dr:Prop
instance drF:Dr:=⟨False⟩
@[reducible]def drT:Dr:=⟨True⟩
section
variable [Dr]
structure aB(g g':Mem)(w w':World):Prop where
 os:w'.os=w.os
 tape:w'.tape=w.tape
 output:w'.output=w.output
 size:w.heap.size<=w'.heap.size
 drawn:Dr.dr->w.drawn<=w'.drawn
 U : ∀r,g.U r->g'.U r
 M : ∀r,g.U r->g'.M r=g.M r\/g'.M r=Option.none
 new : ∀r b c s,g'.M r=some (some b,c,s)->(∃r' c' s',g.M r'=some (some b,c',s'))\/w.heap.size<=b
 I : ∀b,g.I b->g'.I b
 inew : ∀b,g'.I b->g.I b\/w.heap.size<=b \/ ∃r c s,g.M r=some (some b,c,s)
 same : ∀b,b<w.heap.size->(∀r c s,g.M r≠some (some b,c,s))->w'.heap[b]? = w.heap[b]?
def aB.refl(g:Mem)(w:World):aB g g w w :=
 ⟨rfl,rfl,rfl,X4 _,λ_=>X4 _,λ_ h=>h,λ_ _=>.inl rfl,λr _ c s h=>.inl ⟨r,c,s,h⟩,λ_ h=>h,λ_ h=>.inl h,λ_ _ _=>rfl⟩
theorem aB.trans{g g' g'':Mem}{w w' w'':World}(h:aB g g' w w')(k:aB g' g'' w' w''):aB g g'' w w'':=by
 refine⟨k.os.trans h.os,k.tape.trans h.tape,k.output.trans h.output,Yt h.size k.size,λd=>Yt (h.drawn d) (k.drawn d),λr hr=>k.U r (h.U r hr),λr hr=>?_,λr b c s hr=>?_,λb hb=>k.I b (h.I b hb),λb hb=>?_,λb hb hn=>?_⟩
 .
  rcases k.M r (h.U r hr)with e|e
  . rw[e];exact h.M r hr
  exact .inr e
 .
  rcases k.new r b c s hr with⟨r',c',s',e⟩|e
  . exact h.new r' b c' s' e
  exact .inr (Yt h.size e)
 .
  rcases k.inew b hb with e|e|⟨r,c,s,e⟩
  . exact h.inew b e
  . exact .inr (.inl (Yt h.size e))
  rcases h.new r b c s e with⟨r',c',s',e'⟩|e'
  . exact .inr (.inr ⟨r',c',s',e'⟩)
  exact .inr (.inl e')
 refine(k.same b (Y5 hb h.size) λr c s e=>?_).trans (h.same b hb hn)
 rcases h.new r b c s e with⟨r',c',s',e'⟩|e'
 . exact hn r' c' s' e'
 omega
theorem HM.kept{P:Program}[aa P]{h:H}{g g':Mem}{w w':World}(hm:HM P h g w)(k:aB g g' w w'):∀b,g.I b->g'.I b/\w'.heap[b]? = w.heap[b]? := by
 refine λb hb=>⟨k.I b hb,k.same b (hm.imm b hb) λr c s e=>?_⟩
 cases hr:h r with
 | none=>rw[hm.dead r hr]at e;cases e
 | some bl =>
  obtain⟨blk,c',e1,_,_,_,h5⟩:=hm.blk r bl hr;rw[e]at e1;simp only[XU,Yu]at e1
  rcases h5 with⟨h6,_⟩|⟨b',cur,h6,_,_,h7,_⟩
  . rw[<-e1.1]at h6;cases h6
  rw[<-e1.1]at h6;cases h6;exact h7 hb
theorem ag.later{P:Program}[aa P]{h:H}{g g':Mem}{w w':World}(hm:HM P h g w)(k:aB g g' w w'){d:D}{x:Value}(hr:ag w g d x):ag w' g' d x:=hr.mono (hm.kept k) k.U k.M
mutual
def wk:D->D
 | .agg cs=>.agg (dV cs)
 | .list _ rows=>.list false (dK rows)
 | .eptr cs=>.eptr (dV cs)
 | .tuple ds=>.tuple (dV ds)
 | .iface t d=>.iface t (wk d)
 | .fmap kv=>.fmap (dV kv)
 | d=>d
def dV:List D->List D
 | []=>[]
 | d::ds=>wk d::dV ds
def dK:List (List D)->List (List D)
 | []=>[]
 | r::rs=>dV r::dK rs
end
theorem vN : ∀ds:List D,dV ds=ds.map wk
 | []=>rfl
 | d::ds=>by simp only[dV,vN ds,X9]
theorem A7 : ∀ds:List (List D),dK ds=ds.map dV
 | []=>rfl
 | d::ds=>by simp only[dK,A7 ds,X9]
theorem fA{α β:Type}{f:α->β}{l:List α}{i:Nat}{y:β}(h:(l.map f)[i]? = some y):∃x,l[i]? = some x/\f x=y:=by
 rw[Ym]at h
 cases hi:l[i]? with
 | none=>rw[hi]at h;cases h
 | some x=>rw[hi]at h;exact⟨x,rfl,by simpa using h⟩
theorem ag.wk{w:World}{g:Mem}{d:D}{v:Value}(h:ag w g d v):ag w g (wk d) v:=by
 induction h with
 | v x=>exact .v x
 | agg ds vs hl _ ih =>
  simp only[DL.wk,vN];exact .agg _ vs (by simpa using hl) λi d x h1 h2=>by obtain⟨y,h3,rfl⟩:=fA h1;exact ih i y x h3 h2
 | tuple ds vs hl _ ih =>
  simp only[DL.wk,vN];exact .tuple _ vs (by simpa using hl) λi d x h1 h2=>by obtain⟨y,h3,rfl⟩:=fA h1;exact ih i y x h3 h2
 | iface t d x _ ih=>exact .iface t _ x ih
 | empty full a cap hf hm=>exact .empty false a cap (λh=>by cases h) hm
 | list full rows ad cap size cv hi hl hf hm hs hc _ ih =>
  simp only[DL.wk,A7];have e:rows.length=(rows.map dV).length:=by simp
  rw[e];refine .list false _ ad cap size cv hi (by simpa using hl) (λh=>by cases h) hm (λr hr=>?_) (λi j r d h1 h2=>?_) (λi j r d h1 h2=>?_)
  . obtain⟨r',h1,rfl⟩:=Yi.1 hr;rw[vN];simpa using hs r' h1
  . obtain⟨r',h3,rfl⟩:=fA h1;rw[vN]at h2;obtain⟨d',h4,rfl⟩:=fA h2;exact hc i j r' d' h3 h4
  obtain⟨r',h3,rfl⟩:=fA h1;rw[vN]at h2;obtain⟨d',h4,rfl⟩:=fA h2;exact ih i j r' d' h3 h4
 | eptr cs p cv hi hc _ ih =>
  simp only[DL.wk,vN];refine .eptr _ p cv hi (λj d h1=>?_) (λj d h1=>?_)
  . obtain⟨d',h3,rfl⟩:=fA h1;exact hc j d' h3
  obtain⟨d',h3,rfl⟩:=fA h1;exact ih j d' h3
 | mrow r off len x hx hu h=>exact .mrow r off len x hx hu h
 | mptr r i off x hx hu h=>exact .mptr r i off x hx hu h
 | mp r x hx hu h=>exact .mp r x hx hu h
 | fmap kv b es aV hi hb hn _ ih =>
  simp only[DL.wk,vN];exact .fmap _ b es aV hi hb (by simpa using hn) λi d x h1 h2=>by obtain⟨y,h3,rfl⟩:=fA h1;exact ih i y x h3 h2
 | fn f first aP fs cs hf hc h1 h2 _ _=>exact .fn f first aP fs cs hf hc h1 h2
 | cond b d x ht hf _=>exact .cond b d x ht hf
 | junk x=>exact .junk x
end
structure Env where
 p:Mem->World->Prop
 x:Option Nat
 st : ∀(P:Program)[aa P](h:H)(g g':Mem)(w w':World),HM P h g w -> @aB drF g g' w w'->p g w->p g' w'
def Env.tt:Env:=⟨λ_ _=>True,Option.none,λ_ _ _ _ _ _ _ _ _ _=>trivial⟩
variable [Dr]
def aB.weak{g g':Mem}{w w':World}(h:aB g g' w w'):@aB drF g g' w w':=@aB.mk drF g g' w w' h.os h.tape h.output h.size (λq=>q.elim) h.U h.M h.new h.I h.inew h.same
theorem Env.later{P:Program}[aa P]{E:Env}{h:H}{g g':Mem}{w w':World}(hm:HM P h g w)(k:aB g g' w w')(hr:E.p g w):E.p g' w':=E.st P h g g' w w' hm k.weak hr
structure bQ(x:Option Nat)(g g':Mem)(w w':World):Prop where
 os:w'.os=w.os
 tape:w'.tape=w.tape
 output:w'.output=w.output
 size:w.heap.size<=w'.heap.size
 drawn:Dr.dr->w.drawn<=w'.drawn
 U : ∀r,g.U r->g'.U r
 M : ∀r,g.U r->g'.M r=g.M r\/g'.M r=Option.none
 new : ∀r b c s,g'.M r=some (some b,c,s)->(∃r' c' s',g.M r'=some (some b,c',s'))\/w.heap.size<=b
 I : ∀b,g.I b->g'.I b
 inew : ∀b,g'.I b->g.I b\/w.heap.size<=b \/ ∃r c s,g.M r=some (some b,c,s)
 same : ∀b,b<w.heap.size->(∀r c s,g.M r≠some (some b,c,s))->x≠some b->w'.heap[b]? = w.heap[b]?
def aB.toX{x:Option Nat}{g g':Mem}{w w':World}(h:aB g g' w w'):bQ x g g' w w':=⟨h.os,h.tape,h.output,h.size,h.drawn,h.U,h.M,h.new,h.I,h.inew,λb h1 h2 _=>h.same b h1 h2⟩
theorem bQ.out{g g':Mem}{w w':World}(h:bQ Option.none g g' w w'):aB g g' w w':=⟨h.os,h.tape,h.output,h.size,h.drawn,h.U,h.M,h.new,h.I,h.inew,λb h1 h2=>h.same b h1 h2 (by simp)⟩
def bQ.refl(x:Option Nat)(g:Mem)(w:World):bQ x g g w w:=(aB.refl g w).toX
theorem bQ.trans{x:Option Nat}{g g' g'':Mem}{w w' w'':World}(h:bQ x g g' w w')(k:bQ x g' g'' w' w''):bQ x g g'' w w'':=by
 refine⟨k.os.trans h.os,k.tape.trans h.tape,k.output.trans h.output,Yt h.size k.size,λd=>Yt (h.drawn d) (k.drawn d),λr hr=>k.U r (h.U r hr),λr hr=>?_,λr b c s e=>?_,λb hb=>k.I b (h.I b hb),λb hb=>?_,λb hb hn hx=>?_⟩
 .
  rcases k.M r (h.U r hr)with e|e
  .
   rcases h.M r hr with e'|e'
   . exact .inl (e.trans e')
   exact .inr (e.trans e')
  exact .inr e
 .
  rcases k.new r b c s e with⟨r',c',s',e'⟩|e'
  . exact h.new r' b c' s' e'
  exact .inr (Yt h.size e')
 .
  rcases k.inew b hb with e|e|⟨r,c,s,e⟩
  . exact h.inew b e
  . exact .inr (.inl (Yt h.size e))
  rcases h.new r b c s e with⟨r',c',s',e'⟩|e'
  . exact .inr (.inr ⟨r',c',s',e'⟩)
  exact .inr (.inl e')
 refine(k.same b (Y5 hb h.size) (λr c s e=>?_) hx).trans (h.same b hb hn hx)
 rcases h.new r b c s e with⟨r',c',s',e'⟩|e'
 . exact hn r' c' s' e'
 omega
end Go.DL
namespace Go.DL
structure aK where
 pure:FuncId->Bool:=λ_=>false
 pf:FuncId->List D->D:=λ_ _=>.junk
 im:FuncId->List D->H->Nat->D×H:=λ_ _ h _=>(.junk,h)
 bs:Bool:=false
 cf:Bool:=false
 dp:Bool:=false
structure S where
 n:Nat
 t:Nat->D
 h:H
 nx:Nat
 ok:Prop:=True
 e:Env:=Env.tt
def S.ev(s:S):Operand->D
 | .tmp i=>s.t i
 | .const x=>kI x
 | .global g=>.v (.pointer (some ⟨g,0,none⟩))
 | .func f=>.fn (.func f) [] []
def av:Op->List Operand
 | .move x | .assign x | .box _ x | .load _ x | .nilCheck x | .unOp _ _ x | .convert _ _ x | .makeInterface _ x | .fieldAddr _ x _ | .field _ x _ | .extract x _=>[x]
 | .pick c a b=>[c,a,b]
 | .build _ ps | .buildSlice _ _ ps=>ps.toList.map (·.2)
 | .store _ a x | .binOp _ _ a x _ | .indexAddr _ a x | .index _ a x | .makeSlice _ a x=>[a,x]
 | .makeFunc _ first captured=>first.toList++captured.toList
 | .slice _ x l h m=>x::(l.toList++h.toList++m.toList)
 | .makeMap _ r=>r.toList
 | .lookup _ m k _=>[m,k]
 | .mapUpdate _ m k x | .insert _ m k x=>[m,k,x]
 | .call { callee:=.value f,args,.. }=>f::args.toList
 | .call { callee:=.builtin _,args,.. }=>args.toList
 | _=>[]
def gz:D->Bool->Bool
 | .v (.bool b),want=>b==want
 | .cond g (.v (.bool b)),want=>g&&(b==want)
 | _,_=>false
def jW:D->Bool
 | .v (.bool _) | .cond _ (.v (.bool _))=>true
 | _=>false
def sd:D->D
 | .cond _ d=>d
 | d=>d
def sg:D->Bool
 | .cond g _=>g
 | _=>true
def bv:D->Bool
 | .v (.bool b)=>b
 | _=>false
def uI:D->Bool
 | .v (.bool _)=>true
 | _=>false
def wz(g:Bool):List D->D×Prop
 | [c,a,b]=>(.v (.bool (bif bv (sd c)then bv (sd a)else bv (sd b))),(g=true->(sg c=true/\uI (sd c)=true)/\(bv (sd c)=true->sg a=true/\uI (sd a)=true)/\(bv (sd c)=false->sg b=true/\uI (sd b)=true)))
 | _=>(.junk,False)
section
variable (P : Program) [aa P] (C : aK)
def uU(s:TypeId):List (Nat×Operand)->List D->List D->List D
 | (f,_)::ps,x::xs,cs=>match bM P s f with
  | some (off,_)=>uU s ps xs (splice cs off x.cells)
  | none=>match lQ P s with
   | some (_,e)=>uU s ps xs (splice cs (f*P.cellsOf e) x.cells)
   | none=>cs
 | _,_,cs=>cs
def tH(s:TypeId)(n:Nat):List (Nat×Operand)->List D->Prop
 | (f,_)::ps,x::xs=>(match bM P s f with
  | some (off,t)=>x.cells.length=P.cellsOf t/\off+x.cells.length<=n
  | none=>match lQ P s with
   | some (_,e)=>x.cells.length=P.cellsOf e/\f*P.cellsOf e+x.cells.length<=n
   | none=>False)/\x.cells.all D.one=true/\tH s n ps xs
 | [],_=>True
 | _,_=>False
def ol(t:TypeId):Bool:=match P.underlying t with
 | some (.struct fs)=>fs.toList.all λf=>(P.info? f.type).isSome
 | some (.array _ e)=>(P.info? e).isSome
 | _=>false
def y8(t:TypeId)(ps:List (Nat×Operand))(xs:List D):D×Prop :=
 (.agg (uU P t ps xs (zeroCells P t)),tH P t (zeroCells P t).length ps xs/\(zeroCells P t).all D.one=true/\0<(zeroCells P t).length/\ol P t=true)
def uu(n i:Nat):List (Nat×Operand)->List D->Prop
 | (j,_)::ps,x::xs=>j=i/\x.cells.length=n/\x.cells.all D.one=true/\uu n (i+1) ps xs
 | [],[]=>True
 | _,_=>False
def vz(t:TypeId)(len:Nat)(ps:List (Nat×Operand))(xs:List D):D×Prop:=match aZ P t with
 | some e=>(.list true (xs.map D.cells),ps.length=len/\uu (P.cellsOf e) 0 ps xs/\0<P.cellsOf e/\len*P.cellsOf e<=16777216/\dJ P e=true)
 | none=>(.junk,False)
def lL(t:TypeId)(len:Nat)(ps:List (Nat×Operand))(xs:List D)(h:H)(b:Nat):D×H×Prop:=match aZ P t with
 | some e=>(.mrow b 0 len,upd h b (some ⟨e,xs.map D.cells⟩),0<len/\ps.length=len/\uu (P.cellsOf e) 0 ps xs/\0<P.cellsOf e/\len*P.cellsOf e<=16777216/\dJ P e=true)
 | none=>(.junk,h,False)
def fG(u:TypeId)(h:H):D->Bool
 | .list _ _=>(aZ P u).isSome
 | .mrow r _ _=>(aZ P u).isSome&&(h r).isSome
 | .v (.string _)=>match P.underlying u with|some .string=>true|_=>false
 | _=>false
def dR(t u:TypeId)(x y:D)(h:H)(b:Nat):D×H×Prop:=match aZ P t with
 | none=>(.junk,h,False)
 | some e =>
  let news:=aj y h
  let size:=0<P.cellsOf e/\(bq x+news.length)*P.bytesOf e<=140737488355328/\bq x+news.length<=9223372036854775807
  let src:=news.length=bq y/\fG P u h y=true/\dJ P e=true /\ ∀r∈news,r.length=P.cellsOf e
  match x with
  | .list true rows=>(.mrow b 0 (rows.length+news.length),upd h b (some ⟨e,rows++news⟩),size/\src/\(news=[]->rows=[]) /\ ∀r∈rows,r.length=P.cellsOf e)
  | .mrow r 0 n=>match h r with
   | some bl=>(.mrow b 0 (n+news.length),upd (upd h r none) b (some ⟨e,bl.rows++news⟩),size/\src/\bl.ty=e/\bl.rows.length=n/\r≠b)
   | none=>(.junk,h,False)
  | _=>(.junk,h,False)
def bnd(o:Option D)(d:Nat):Int:=match o with
 | some (.v (.int _ n))=>n
 | _=>d
def y9:Option D->Bool
 | none|some (.v (.int _ _))=>true
 | _=>false
def mR(t:TypeId)(x:D)(l hh m:Option D)(h:H):D×Prop :=
 let len:=bq x
 let lo:=bnd l 0
 let hi:=bnd hh len
 let ok:=y9 l=true/\y9 hh=true/\y9 m=true/\0<=lo/\lo<=hi/\hi<=len
 match x with
 | .v (.string s)=>(.v (.string (s.extract lo.toNat hi.toNat)),ok/\m=none/\P.underlying t=some .string)
 | .list full rows=>match aZ P t with
  | none=>(.junk,False)
  | some e=>match m with
   | none=>(.list (full&&hi==len) ((rows.take hi.toNat).drop lo.toNat),ok/\0<P.cellsOf e /\ ∀r∈rows,r.length=P.cellsOf e)
   | some _=>(.list true ((rows.take hi.toNat).drop lo.toNat),ok/\hh.isSome=true/\bnd m 0=hi/\0<P.cellsOf e /\ ∀r∈rows,r.length=P.cellsOf e)
 | .mrow r off _=>match aZ P t with
  | none=>(.junk,False)
  | some e=>(.mrow r (off+lo.toNat) (hi-lo).toNat,ok/\m=none/\0<P.cellsOf e/\match h r with|some bl=>bl.ty=e|none=>False)
 | _=>(.junk,False)
def iE(o:Option Operand)(xs:List D):Option D×List D:=match o,xs with
 | some _,x::xs=>(some x,xs)
 | some _,[]=>(none,[])
 | none,xs=>(none,xs)
def uK(t:TypeId)(x ix:D):D×Prop:=match x,ix with
 | .v (.string s),.v (.int _ n)=>(.v (.int .u8 (s.data.toList.getD n.toNat 0).toNat),0<=n/\n<s.size/\P.underlying t=some .string)
 | _,_=>(.junk,False)
def uj(op:UnOp)(x:D):D×Prop:=match op,x with
 | .not,.v (.bool b)=>(.v (.bool !b),True)
 | .neg,.v (.int k n)=>(.v (.int k (-n)),jT k (-n))
 | _,_=>(.junk,False)
def byteOf:List D->UInt8
 | [.v (.int .u8 n)]=>UInt8.ofNat n.toNat
 | _=>0
def isByte:List D->Bool
 | [.v (.int .u8 _)]=>true
 | _=>false
def TC(P:Program)(t:TypeId):Bool:=match P.underlying t with
 | some (.slice e)=>match P.underlying e with
  | some (.int .u8)=>true
  | _=>false
 | _=>false
def vg(src dst:TypeId)(x:D):D×Prop:=match P.underlying dst,x with
 | some (.int k),.v (.int _ n)=>(.v (.int k (k.wrap n)),(P.underlying src).isSome=true)
 | some .string,.v (.string s)=>(.v (.string s),match P.underlying src with|some .string=>True|_=>False)
 | some .string,.list _ rows=>(.v (.string ⟨(rows.map byteOf).toArray⟩),TC P src=true/\rows.all isByte=true)
 | _,_=>(.junk,False)
def jo(t:TypeId)(h:H)(b:Nat):D->D->D×H×Prop
 | .v (.int _ n),.v (.int _ m)=>match aZ P t with
  | some e=>(.mrow b 0 n.toNat,upd h b (some ⟨e,List.replicate n.toNat (zeroCells P e)⟩),n<=m/\0<=n/\P.bytesOf e*m<=281474976710656/\m<=9223372036854775807/\dJ P e=true/\(zeroCells P e).length=P.cellsOf e/\(zeroCells P e).all D.one=true/\0<P.cellsOf e)
  | none=>(.junk,h,False)
 | _,_=>(.junk,h,False)
def EL:List D->Bool
 | []|[.v (.int _ _)]=>true
 | _=>false
def wR(t:TypeId)(xs:List D)(h:H)(b:Nat):D×H×Prop:=(.mp b,upd h b (some ⟨t,iT []⟩),(lu P t).isSome=true/\P.cellsOf t=1/\EL xs=true)
def kV(t:TypeId)(m k x:D)(h:H):H×Prop:=match lu P t,m with
 | some (kt,_),.mp r=>match h r with
  | some bl=>match iF bl with
   | some kv=>(upd h r (some ⟨bl.ty,iT (jq kv k x)⟩),jv P kt k=true/\lC P kt kv=true/\nJ P kt=true)
   | none=>(h,False)
  | none=>(h,False)
 | _,_=>(h,False)
def lv(t:TypeId)(ok:Bool)(m k:D)(h:H):D×Prop:=match lu P t,qj h m with
 | some (kt,e),some kv=>(if ok then .tuple [(jr kv k).getD (vM P e),.b (jr kv k).isSome]else(jr kv k).getD (vM P e),
   jv P kt k=true/\lC P kt kv=true/\nJ P kt=true/\E9 P e=true)
 | _,_=>(.junk,False)
def qz(h:H)(d:D):D:=match d with
 | .mrow _ _ _=>.list false (aj d h)
 | d=>d
def uZ(h:H)(d:D):D:=match d with
 | .mrow _ _ _=>.list false (aj d h)
 | .mptr _ _ _=>.eptr ((eD d h).map (qz h))
 | d=>d
def deref(h:H)(d:D):D:=match d with
 | .mrow _ _ _=>.list false (aj d h)
 | .mptr _ _ _=>.eptr ((eD d h).map (qz h))
 | .fn f a b=>.fn f (a.map (uZ h)) (b.map (uZ h))
 | d=>d
def jC(h:H)(d:D):D:=wk (deref h d)
def pE(h:H)(d:D):Prop:=match d with
 | .mrow r _ len=>(h r).isSome=true/\(aj d h).length=len
 | _=>True
def uY(h:H)(d:D):Prop:=match d with
 | .mrow r _ len=>(h r).isSome=true/\(aj d h).length=len
 | .mptr r _ _=>(h r).isSome=true /\ ∀c∈eD d h,pE h c
 | _=>True
def jD(h:H)(d:D):Prop:=match d with
 | .mrow r _ len=>(h r).isSome=true/\(aj d h).length=len
 | .mptr r _ _=>(h r).isSome=true /\ ∀c∈eD d h,pE h c
 | .fn _ a b=>(∀c∈a,uY h c) /\ ∀c∈b,uY h c
 | _=>True
mutual
def D.nr:D->Bool
 | .v _=>true
 | .agg cs=>bV cs
 | .list _ rows=>bg rows
 | .eptr cs=>bV cs
 | .mrow _ _ _=>false
 | .mptr _ _ _=>false
 | .mp _=>false
 | .fmap kv=>bV kv
 | .fn _ a b=>bV a&&bV b
 | .tuple ds=>bV ds
 | .iface _ d=>d.nr
 | .cond _ d=>d.nr
 | .junk=>true
def bV:List D->Bool
 | []=>true
 | d::ds=>d.nr&&bV ds
def bg:List (List D)->Bool
 | []=>true
 | r::rs=>bV r&&bg rs
end
def ed(h:H):Nat->D->D
 | 0,d=>d
 | k+1,d=>match d with
  | .mrow r off len=>.list false ((aj (.mrow r off len) h).map λrow=>row.map (ed h k))
  | .agg cs=>.agg (cs.map (ed h k))
  | .tuple cs=>.tuple (cs.map (ed h k))
  | .iface t d=>.iface t (ed h k d)
  | .mptr r i off=>.eptr ((eD (.mptr r i off) h).map (ed h k))
  | .fn f a b=>.fn f (a.map (ed h k)) (b.map (ed h k))
  | d=>d
def d9(h:H):Nat->D->Prop
 | 0,d=>d.nr=true
 | k+1,d=>match d with
  | .mrow r off len=>jD h (.mrow r off len) /\ ∀row∈aj (.mrow r off len) h,∀c∈row,d9 h k c
  | .agg cs=>∀c∈cs,d9 h k c
  | .tuple cs=>∀c∈cs,d9 h k c
  | .iface _ d=>d9 h k d
  | .mptr r i off=>(h r).isSome=true /\ ∀c∈eD (.mptr r i off) h,d9 h k c
  | .fn _ a b=>(∀c∈a,d9 h k c) /\ ∀c∈b,d9 h k c
  | d=>d.nr=true
def pR(h:H)(d:D):D:=wk (ed h 5 d)
def wU:D->Bool
 | .mrow _ _ _ | .mptr _ _ _=>true
 | _=>false
def iG:D->Bool
 | .mrow _ _ _ | .mptr _ _ _=>true
 | .fn _ a b=>a.any wU||b.any wU
 | _=>false
def JU:D->Bool
 | .v _=>true
 | _=>false
def flat:D->Bool
 | .v _=>true
 | .agg cs | .tuple cs=>cs.all JU
 | _=>false
def zR:List D->D×Prop
 | [.v (.int k a),.v (.int k' b)]=>(.v (.int k (min a b)),k=k')
 | _=>(.junk,False)
def zS:List D->D×Prop
 | [.v (.int k a),.v (.int k' b)]=>(.v (.int k (max a b)),k=k')
 | _=>(.junk,False)
def sQ(t:TypeId):D->Bool
 | .list _ _ | .mrow _ _ _=>(aZ P t).isSome
 | .v (.string _)=>match P.underlying t with|some .string=>true|_=>false
 | _=>false
end
structure bf where
 pureCt:FuncId->List D->D->Prop
 ct:FuncId->List D->H->Nat->D->H->Prop
section
variable (P : Program) [aa P] (W : bf) (C : aK)
def BU(_:Operand):Bool:=true
def eT(f:Operand)(xs:List D)(h:H)(_:Nat):D×H×Prop:=match f,xs with
 | .func k,_::ys=>if C.pure k then
   (if C.cf then
    let ys':=ys.map wk
    (C.pf k ys',h,W.pureCt k ys' (C.pf k ys')/\ys.any iG=false)
   else if C.dp then
    let ys':=ys.map (pR h)
    (C.pf k ys',h,W.pureCt k ys' (C.pf k ys')/\flat (C.pf k ys')=true /\ ∀y∈ys,d9 h 5 y)
   else
    let ys':=ys.map (jC h)
    (C.pf k ys',h,W.pureCt k ys' (C.pf k ys')/\(ys.any iG=true->flat (C.pf k ys')=true /\ ∀y∈ys,jD h y)))
  else if C.cf then(.junk,h,False)else(C.pf k (ys.map (jC h)),h,∀b,W.ct k (ys.map wk) h b (C.pf k (ys.map (jC h))) h)
 | _,.fn (.func k) first aP::ys=>if C.pure k then
   (if C.cf then
    let zs':=(first++ys++aP).map wk
    (C.pf k zs',h,W.pureCt k zs' (C.pf k zs')/\(first++ys++aP).any iG=false)
   else if C.dp then
    let zs':=(first++ys++aP).map (pR h)
    (C.pf k zs',h,W.pureCt k zs' (C.pf k zs')/\flat (C.pf k zs')=true /\ ∀y∈first++ys++aP,d9 h 5 y)
   else
    let zs':=(first++ys++aP).map (jC h)
    (C.pf k zs',h,W.pureCt k zs' (C.pf k zs')/\((first++ys++aP).any iG=true->flat (C.pf k zs')=true /\ ∀y∈first++ys++aP,jD h y)))
  else(.junk,h,False)
 | _,_=>(.junk,h,False)
def still(h:H)(r:D×Prop):D×H×Prop:=(r.1,h,r.2)
def aH(op:Op)(xs:List D)(h:H)(b:Nat):D×H×Prop :=
 match op,xs with
 | .move _,[x] | .assign _,[x]=>(x,h,True)
 | .alloc e,[]=>(.mptr b 0 0,upd h b (some ⟨e,[zeroCells P e]⟩),(zeroCells P e).length=P.cellsOf e/\(zeroCells P e).all D.one=true/\0<P.cellsOf e)
 | .box e _,[x]=>(.mptr b 0 0,upd h b (some ⟨e,[x.cells]⟩),x.cells.length=P.cellsOf e/\x.cells.all D.one=true/\0<P.cellsOf e)
 | .build t ps,xs=>still h (y8 P t ps.toList xs)
 | .buildSlice t n ps,xs=>if C.bs then lL P t n ps.toList xs h b else still h (vz P t n ps.toList xs)
 | .load t _,[a]=>still h (jd P t a h)
 | .store t _ _,[a,x]=>(.v undef,fO P t a x h)
 | .nilCheck _,[x]=>(x,h,rH x=true)
 | .binOp op t _ _ _,[x,y]=>still h (lM P t op x y)
 | .unOp op _ _,[x]=>still h (uj op x)
 | .convert src dst _,[x]=>still h (vg P src dst x)
 | .makeFunc f first _,xs=>(.fn f (xs.take first.size) (xs.drop first.size),h,True)
 | .slice t _ l hi m,x::xs =>
  still h (mR P t x (iE l xs).1 (iE hi (iE l xs).2).1 (iE m (iE hi (iE l xs).2).2).1 h)
 | .fieldAddr s _ f,[a]=>still h (tJ P s f a)
 | .field s _ f,[a]=>still h (yV P s f a)
 | .indexAddr t _ _,[x,ix]=>still h (eF P t x ix h)
 | .index t _ _,[x,ix]=>still h (uK P t x ix)
 | .makeSlice t _ _,[x,y]=>jo P t h b x y
 | .makeMap t _,xs=>wR P t xs h b
 | .mapUpdate t _ _ _,[m,k,x] | .insert t _ _ _,[m,k,x]=>(.v undef,kV P t m k x h)
 | .lookup t _ _ ok,[m,k]=>still h (lv P t ok m k h)
 | .extract _ i,[.tuple ds]=>(ds.getD i .junk,h,i<ds.length)
 | .call { callee:=.builtin .len,argTypes,.. },[x]=>(.v (.int .i64 (bq x)),h,match argTypes.toList with|[t]=>sQ P t x=true|_=>False)
 | .call { callee:=.builtin .append,argTypes,.. },[x,y]=>(match argTypes.toList with|[t,u]=>dR P t u x y h b|_=>(.junk,h,False))
 | .call { callee:=.builtin .min,.. },xs=>still h (zR xs)
 | .call { callee:=.builtin .max,.. },xs=>still h (zS xs)
 | .call { callee:=.value f,.. },xs=>eT W C f xs h b
 | _,_=>(.junk,h,False)
inductive AY where
 | none|reads|writes
 deriving DecidableEq
def bA(op:Op):AY:=match op with
 | .load .. | .indexAddr .. | .slice .. => .reads
 | .alloc _ | .box .. | .store .. | .makeSlice .. | .makeMap .. | .mapUpdate .. | .insert .. => .writes
 | .lookup .. => .reads
 | .buildSlice .. => if C.bs then .writes else .none
 | .call { callee:=.builtin .append,.. }=>.writes
 | .call { callee:=.value f,.. }=>if C.cf then .none else if BU f then .reads else .writes
 | _=>.none
def dG:Op->Bool
 | .pick .. => true
 | _=>false
def au(g:Bool)(op:Op)(xs:List D)(h:H)(b:Nat):D×H×Prop :=
 if dG op then still h (wz g xs)
 else let r:=aH P W C op (xs.map sd) h b;(r.1,r.2.1,(g=true->xs.all sg=true)/\r.2.2)
def S.put(s:S)(d:Option Tmp)(x:D):Nat->D:=match d with
 | some d=>upd s.t d x
 | none=>s.t
def cu(n:Nat):Option Tmp->Bool
 | some d=>decide (d<n)
 | none=>true
def bT(L:List Oper)(b:Nat)(i:Nat)(o:Oper)(s:S):S :=
 match o.guard with
 | none =>
  let r:=au P W C true o.op ((av o.op).map s.ev) s.h (b+i)
  { s with t:=s.put o.dst r.1,h:=r.2.1,ok:=s.ok/\cu s.n o.dst=true/\r.2.2 }
 | some (j,want) =>
  let gd:=((L[j]?).bind (·.dst)).elim .junk s.t
  let r:=au P W C (gz gd want) o.op ((av o.op).map s.ev) s.h (b+i)
  { s with t:=s.put o.dst (.cond (gz gd want) r.1),ok:=s.ok/\cu s.n o.dst=true/\jW gd=true/\bA C o.op ≠ .writes/\(gz gd want=true->r.2.2) }
def bN(L:List Oper)(b:Nat):Nat->List Oper->S->S
 | _,[],s=>s
 | i,o::os,s=>bN L b (i+1) os (bT P W C L b i o s)
def S.begin(s:S)(k:Nat):S:={ s with nx:=s.nx+k }
def exec(L:List Oper)(s:S):S:=bN P W C L s.nx 0 L (s.begin L.length)
end
end Go.DL
namespace Go.DL
open Go.RowKit
theorem AZ{k:IntKind}{n:Int}(h:jT k n):k.wrap n=n:=by
 cases k<;>simp[jT,IntKind.min,IntKind.max,IntKind.signed,IntKind.bits]at h
 . exact IntWalk.i8_in n h
 . exact IntWalk.i16_in n h
 . exact IntWalk.i32_in n h
 . exact IntWalk.i64_in n h
 . exact IntWalk.u8_in n ⟨h.1,om⟩
 . exact IntWalk.u16_in n ⟨h.1,om⟩
 . exact IntWalk.u32_in n ⟨h.1,om⟩
 exact IntWalk.u64_in n ⟨h.1,om⟩
theorem ZcB{k:IntKind}{a b:Int}(h:jT k a)(h0:0<=a)(h1:1<=b):jT k (a / b):=by
 have h2:0<=a / b:=Int.ediv_nonneg h0 om
 have h3:a / b<=a:=Int.ediv_le_self _ h0
 exact⟨by have:=h.1;cases k<;>simp[IntKind.min,IntKind.signed,IntKind.bits]at * <;> omega,Int.le_trans h3 h.2⟩
variable {P : Program}
def Zf4 [aa P]{t:TypeId}{op:BinOp}{x y:Value}(h:(dP P t op x y).2)(a b:Operand)(w:World) :
  (do eqGuard op t a b x y;binOp op t x y:Sem Value).run P w = .ok (dP P t op x y).1 w:=by
 unfold dP at h ⊢
 split at h
 case h_1 k a' k' b' =>
  by_cases hs:k.signed=true
  .
   simp only[hs,Zw]at h ⊢;obtain⟨rfl,h2⟩:=h
   simp[eqGuard,binOp,Op.intArith,AZ h2]
  simp only[hs,Y0,Ye]at h ⊢;subst h
  simp[eqGuard,binOp,Op.intArith]
 case h_2 k a' k' b' =>
  by_cases hs:k.signed=true
  .
   simp only[hs,Zw]at h ⊢;obtain⟨rfl,h2⟩:=h
   simp[eqGuard,binOp,Op.intArith,AZ h2]
  simp only[hs,Y0,Ye]at h ⊢;subst h
  simp[eqGuard,binOp,Op.intArith]
 case h_3 k a' k' b' =>
  by_cases hs:k.signed=true
  .
   simp only[hs,Zw]at h ⊢;obtain⟨rfl,h2⟩:=h
   simp[eqGuard,binOp,Op.intArith,AZ h2]
  simp only[hs,Y0,Ye]at h ⊢;subst h
  simp[eqGuard,binOp,Op.intArith]
 case h_4 k a' k' b' =>
  obtain⟨rfl,h2,h3,h4⟩:=h;have e:k.wrap (a'.tdiv b')=a' / b':=by
   rw[Int.tdiv_eq_ediv_of_nonneg h2,AZ (ZcB h4 h2 h3)]
  simp[eqGuard,binOp,Op.intDiv,show b'≠0 by omega,e]
 case h_5 k a' k' b' =>
  obtain⟨rfl,h2,h3⟩:=h
  simp[eqGuard,binOp,Op.intDiv,show b'≠0 by omega,Int.tmod_eq_emod_of_nonneg h2]
 case h_17 a' b' =>
  simp only[eqGuard,binOp]
  simp[Op.stringOp,ByteArray.toList_eq]
 case h_18 a' b' =>
  simp only[eqGuard,binOp]
  simp[Op.stringOp,ByteArray.toList_eq]
 case h_19 a' b' =>
  simp only[eqGuard,binOp]
  simp[Op.stringOp,ByteArray.toList_eq]
 case h_20 a' b' =>
  simp only[eqGuard,binOp]
  simp[Op.stringOp,ByteArray.toList_eq]
 case h_21 k a' k' b' =>
  have h' : ¬b'<0:=by omega
  simp[eqGuard,binOp,Op.shift,h']
 case h_22 k a' k' b' =>
  have h' : ¬b'<0:=by omega
  simp[eqGuard,binOp,Op.shift,h']
 case h_23 k a' k' b' =>
  subst h
  simp[eqGuard,binOp,Op.intBits]
 case h_24 k a' k' b' =>
  subst h
  simp[eqGuard,binOp,Op.intBits]
 case h_25 k a' k' b' =>
  subst h
  simp[eqGuard,binOp,Op.intBits]
 case h_26 k a' k' b' =>
  subst h
  simp[eqGuard,binOp,Op.intBits]
 case h_27=>exact h.elim
 case h_16 a' b' =>
  have:=run_string_add_sum (P:=P) w a' b' h
  simp[eqGuard,binOp,this]
 case h_12 a' b' =>
  have e:(Op.equalIn 10000 t (.bool a') (.bool b')).run P w = .ok (a'==b') w:=run_equalIn_bool w 9999 t a' b' h;simp only[eqGuard,binOp]
  simp[Op.equal,Op.maxDepth,e]
 case h_13 a' b' =>
  have e:(Op.equalIn 10000 t (.bool a') (.bool b')).run P w = .ok (a'==b') w:=run_equalIn_bool w 9999 t a' b' h;simp only[eqGuard,binOp]
  simp[Op.equal,Op.maxDepth,e,bne]
 case h_14 a' b' =>
  simp only[eqGuard,binOp]
  simp[Op.stringOp,ByteArray.toList_eq]
 case h_15 a' b' =>
  simp only[eqGuard,binOp]
  simp[Op.stringOp,ByteArray.toList_eq,bne]
 all_goals
  subst h;simp only[eqGuard,binOp]
  simp[Op.intCmp]
theorem ag.v_inv{w:World}{g:Mem}{x y:Value}(h:ag w g (.v x) y):y=x:=by cases h;rfl
def ZaN{k:Kd}{a b:D}(h:xZ k a b=true) :
  (k = .i /\ ∃kk x y,a = .v (.int kk x)/\b = .v (.int kk y))\/(k = .b /\ ∃x y,a = .v (.bool x)/\b = .v (.bool y))\/(k = .s /\ ∃x y,a = .v (.string x)/\b = .v (.string y)):=by
 unfold xZ at h
 split at h
 . simp only[Yx]at h;subst h;exact .inl ⟨rfl,_,_,_,rfl,rfl⟩
 . exact .inr (.inl ⟨rfl,_,_,rfl,rfl⟩)
 . exact .inr (.inr ⟨rfl,_,_,rfl,rfl⟩)
 cases h
theorem Q0 [aa P]:∀(fs:List Field)(i:Nat)(ks:List Kd)(xs ys:List Value)(dx dy:List D)(w:World)(g:Mem)(n:Nat),xk P i fs=some ks->nR ks (dx.drop i) (dy.drop i)=true ->
  aG w g dx xs->aG w g dy ys->(Op.eqFields (n+1) xs.toArray ys.toArray fs).run P w = .ok (lH (dx.drop i) (dy.drop i)) w:=by
 intro fs
 induction fs with
 | nil =>
  intro i ks xs ys dx dy w g n hk hp hx hy;simp only[xk,XU]at hk;subst hk
  cases h1:dx.drop i with
  | nil=>simp[Op.eqFields,lH]
  | cons a l=>rw[h1]at hp;simp[nR]at hp
 | cons f fs ih =>
  intro i ks xs ys dx dy w g n hf hp hx hy;simp only[xk]at hf
  split at hf
  case isFalse=>cases hf
  rename_i hno
  simp only[XT,ZE,Yx]at hno;obtain⟨hn,ho⟩:=hno
  split at hf
  case h_2=>cases hf
  rename_i k ks' hk hr
  simp only[XU]at hf;subst hf;have hlt:i<dx.length:=by
   rcases Zv i dx.length with h|h
   . exact h
   rw[YU h]at hp;simp[nR]at hp
  have hxi:dx.drop i=dx[i]::dx.drop (i+1):=Yn hlt;have P8:i<dy.length:=by
   rcases Zv i dy.length with h|h
   . exact h
   rw[hxi,YU h]at hp;simp[nR]at hp
  have hyi:dy.drop i=dy[i]::dy.drop (i+1):=Yn P8;rw[hxi,hyi]at hp ⊢;simp only[nR,XT]at hp;have hlx:i<xs.length:=by rw[<-hx.1];exact hlt
  have hly:i<ys.length:=by rw[<-hy.1];exact P8
  have rx:=hx.2 i dx[i] xs[i] (by simp) (by simp)
  have ry:=hy.2 i dy[i] ys[i] (by simp) (by simp)
  have ih':=ih (i+1) ks' xs ys dx dy w g n hr hp.2 hx hy;have hu : ∃d,P.underlying f.type=some d/\((k = .b/\d = .bool)\/(k = .s/\d = .string)\/(k = .i /\ ∃kk,d = .int kk)):=by
   unfold kindOf at hk
   split at hk<;>simp at hk<;>subst hk<;>simp_all
  obtain⟨d,hu,hd⟩:=hu;have hagg:(isAgg f.type).run P w = .ok false w:=by
   unfold isAgg;rw[Sem.run_bind,run_underlying hu w]
   rcases hd with⟨_,rfl⟩|⟨_,rfl⟩|⟨_,kk,rfl⟩<;>simp
  have px:(part f.type xs.toArray f.offset).run P w = .ok xs[i] w:=by
   unfold part;simp[hagg,ho,hlx]
  have py:(part f.type ys.toArray f.offset).run P w = .ok ys[i] w:=by
   unfold part;simp[hagg,ho,hly]
  have heq:(Op.equalIn (n+1) f.type xs[i] ys[i]).run P w = .ok (lI dx[i] dy[i]) w:=by
   rcases ZaN hp.1 with⟨rfl,kk,x,y,e1,e2⟩|⟨rfl,x,y,e1,e2⟩|⟨rfl,x,y,e1,e2⟩<;>rw[e1]at rx ⊢ <;> rw[e2]at ry ⊢ <;> rw[rx.v_inv,ry.v_inv]
   .
    rcases hd with⟨h,_⟩|⟨h,_⟩|⟨_,k2,rfl⟩
    . cases h
    . cases h
    exact run_equalIn_int w n f.type kk k2 x y hu
   .
    rcases hd with⟨_,rfl⟩|⟨h,_⟩|⟨h,_⟩
    . exact run_equalIn_bool w n f.type x y hu
    . cases h
    cases h
   rcases hd with⟨h,_⟩|⟨_,rfl⟩|⟨h,_⟩
   . cases h
   . rw[run_equalIn_string w n f.type x y hu,ByteArray.toList_eq,ByteArray.toList_eq];rfl
   cases h
  simp only[Op.eqFields,XY hn,Sem.run_bind,px,py,heq,Result.andThen_ok,lH]
  cases hc:lI dx[i] dy[i]with
  | false=>simp
  | true=>simp[ih']
def Zf5 [aa P]{t:TypeId}{op:BinOp}{x y:D}{vx vy:Value}{w:World}{g:Mem}(hx:ag w g x vx)(hy:ag w g y vy)(h:(lM P t op x y).2)(a b:Operand) :
  ∃v,(do eqGuard op t a b vx vy;binOp op t vx vy:Sem Value).run P w = .ok v w/\ag w g (lM P t op x y).1 v:=by
 unfold lM at h ⊢
 split at h
 .
  rename_i x y
  rw[hx.v_inv,hy.v_inv];exact⟨_,Zf4 h a b w,.v _⟩
 .
  rename_i xs ys
  cases hx with|agg _ vs hn hv =>
  cases hy with|agg _ us hm hu =>
  have key : ∀ks,rV P t=some ks->nR ks xs ys=true->(Op.equalIn 10000 t (.agg vs) (.agg us)).run P w = .ok (lH xs ys) w/\P.eqGuardType P.depth t=false:=by
   intro ks hks hp;unfold rV at hks
   split at hks
   case h_2=>cases hks
   rename_i fs hfs
   split at hks
   case isFalse=>cases hks
   rename_i hc
   simp only[XT,X5]at hc;have hF:P.fieldsOf t=fs:=by simp[Program.fieldsOf,hfs]
   have h1:=run_equalIn_agg (P:=P) w 9999 t vs us (by rw[hF];exact hfs) hc.1
   have h2:=Q0 (P:=P) fs.toList 0 ks vs.toList us.toList xs ys w g 9998 hks (by simpa using hp) ⟨by simpa using hn,λi d x h1 h2=>hv i d x h1 (by simpa using h2)⟩ ⟨by simpa using hm,λi d x h1 h2=>hu i d x h1 (by simpa using h2)⟩
   rw[hF]at h1;simp only[Array.toArray_toList,Yj]at h2;exact⟨h1.trans h2,hc.2⟩
  split at h
  .
   split at h
   .
    rename_i ks hks
    obtain⟨k1,k2⟩:=key ks hks h;refine⟨.bool (lH xs ys),?_,.v _⟩;simp only[Sem.run_bind,run_eqGuard_agg w .eql t a b vs us k2,Result.andThen_ok,run_eql_struct,k1]
   exact h.elim
  .
   split at h
   .
    rename_i ks hks
    obtain⟨k1,k2⟩:=key ks hks h;refine⟨.bool (!lH xs ys),?_,.v _⟩;simp only[Sem.run_bind,run_eqGuard_agg w .neq t a b vs us k2,Result.andThen_ok,run_neq_struct,k1]
   exact h.elim
  exact h.elim
 exact h.elim
end Go.DL
namespace Go.DL
variable [Dr]
open Go.RowKit
variable {P : Program}
theorem lT [aa P]{h:H}{g:Mem}{w:World}(hm:HM P h g w){r b c s:Nat}(e:g.M r=some (some b,c,s)):b<w.heap.size /\ ¬g.I b /\ ∃bl,h r=some bl:=by
 cases hr:h r with
 | none=>rw[hm.dead r hr]at e;cases e
 | some bl =>
  obtain⟨blk,c',e1,_,_,_,h5⟩:=hm.blk r bl hr;rw[e]at e1;simp only[XU,Yu]at e1
  rcases h5 with⟨h6,_⟩|⟨b',cur,h6,h7,_,h8,_⟩
  . rw[<-e1.1]at h6;cases h6
  rw[<-e1.1]at h6;cases h6
  obtain⟨x,hx,_⟩:=h7.some;exact⟨(Yb.1 hx).1,h8,_,rfl⟩
def HM.putB [aa P]{h h':H}{g:Mem}{w w':World}(hm:HM P h g w)(b nb c:Nat)(bl:ax)(cur:Array Value)
  (hb : ¬g.U b\/g.M b=some (some nb,c,P.cellsOf bl.ty))(hb':h' b=some bl)(hr : ∀r,r≠b->h' r=h r\/h' r=none)
  (hnb:w.heap.size<=nb \/ ∃r c' s',g.M r=some (some nb,c',s')/\(r=b\/h' r=none))
  (Jt:nZ w'.heap[nb]? bl.ty cur c)(hsz:c<=maxLen->cur.size=c*P.cellsOf bl.ty)(hpos:0<P.cellsOf bl.ty)(hle:bl.rows.length<=c)(hmax:c<=maxLen+1)
  (hold:Holds P w g bl cur)(gb:w.grownBy w' (some nb))(hdr:w.drawn<=w'.drawn:=by first|exact X4 _|exact Nat.le_succ _) :
  ∃g':Mem,g'.M b=some (some nb,c,P.cellsOf bl.ty)/\(∀r,g'.U r↔g.U r\/r=b)/\(∀b,g'.I b↔g.I b)/\HM P h' g' w'/\aB g g' w w':=by
 let g':Mem:={ M:=λr=>if r=b then some (some nb,c,P.cellsOf bl.ty)else if(h' r).isSome then g.M r else none,U:=λr=>g.U r\/r=b,I:=g.I }
 have e_b:g'.M b=some (some nb,c,P.cellsOf bl.ty):=by simp[g']
 have e_r : ∀r,r≠b->g'.M r=if(h' r).isSome then g.M r else none:=λr hr=>by simp[g',hr]
 have hne : ∀r c' s',r≠b->g'.M r≠some (some nb,c',s'):=by
  intro r c' s' hrb he;rw[e_r r hrb]at he
  split at he
  .
   rename_i hs
   rcases hnb with h1|⟨r2,c2,s2,h2,h3⟩
   . have:=(lT hm he).1;omega
   have:r=r2:=hm.inj _ _ _ _ _ _ _ he h2;subst this
   rcases h3 with h3|h3
   . exact hrb h3
   rw[h3]at hs;cases hs
  cases he
 have hnI : ¬g.I nb:=by
  intro hi
  rcases hnb with h1|⟨r2,c2,s2,h2,_⟩
  . have:=hm.imm nb hi;omega
  exact(lT hm h2).2.1 hi
 have mono:aB g g' w w':=by
  refine⟨gb.os,gb.tape,gb.output,gb.size,λ_=>hdr,λr h=>.inl h,λr hu=>?_,λr b' c' s' he=>?_,λ_ h=>h,λ_ h=>.inl h,λk hk hn=>?_⟩
  .
   by_cases e:r=b
   .
    subst e
    rcases hb with h1|h1
    . exact absurd hu h1
    rw[e_b,h1];exact .inl rfl
   rw[e_r r e];split
   . exact .inl rfl
   exact .inr rfl
  .
   by_cases e:r=b
   .
    subst e;rw[e_b]at he;simp only[XU,Yu]at he;obtain⟨rfl,_,_⟩:=he
    rcases hnb with h1|⟨r2,c2,s2,h2,_⟩
    . exact .inr h1
    exact .inl ⟨r2,c2,s2,h2⟩
   rw[e_r r e]at he
   split at he
   . exact .inl ⟨r,c',s',he⟩
   cases he
  refine gb.block k hk λe=>?_
  cases e
  rcases hnb with h1|⟨r2,c2,s2,h2,_⟩
  . omega
  exact hn _ _ _ h2
 refine⟨g',e_b,λ_=>Iff.rfl,λ_=>Iff.rfl,⟨λr hn=>?_,λr bl' hrl=>?_,λr r' b' c1 c2 s1 s2 e1 e2=>?_,λr hn=>?_,λk hk=>Y5 (hm.imm k hk) gb.size,hm.gr.later (hm.kept mono)⟩,mono⟩
 .
  have e:r≠b:=λe=>by rw[e,hb']at hn;cases hn
  rw[e_r r e,hn];rfl
 .
  by_cases e:r=b
  .
   subst e;rw[hb']at hrl;cases hrl
   refine⟨some nb,c,e_b,hpos,hle,hmax,.inr ⟨nb,cur,rfl,Jt,hsz,hnI,λi row hi=>?_⟩⟩
   obtain⟨h1,h2⟩:=hold i row hi;refine⟨h1,λj d hd=>?_⟩
   obtain⟨u,h3,h4,h5⟩:=h2 j d hd;exact⟨u,h3,h4,h5.later hm mono⟩
  rcases hr r e with e1|e1
  .
   rw[e1]at hrl;obtain⟨blk,c',h1,h2,h3,h4,h5⟩:=hm.blk r bl' hrl;refine⟨blk,c',by rw[e_r r e,e1,hrl];exact h1,h2,h3,h4,?_⟩
   rcases h5 with h5|⟨b',cur',rfl,h6,h7,h8,h9⟩
   . exact .inl h5
   refine .inr ⟨b',cur',rfl,?_,h7,h8,λi row hi=>?_⟩
   .
    have hb':b'≠nb:=λe2=>by
     subst e2;exact hne r c' _ e (by rw[e_r r e,e1,hrl];exact h1)
    rw[gb.block b' (lT hm h1).1 (by simpa using hb')];exact h6
   obtain⟨k1,k2⟩:=h9 i row hi;refine⟨k1,λj d hd=>?_⟩
   obtain⟨u,k3,k4,k5⟩:=k2 j d hd;exact⟨u,k3,k4,k5.later hm mono⟩
  rw[e1]at hrl;cases hrl
 .
  by_cases e:r=b<;>by_cases e':r'=b
  . rw[e,e']
  . subst e;rw[e_b]at e1;simp only[XU,Yu]at e1;obtain⟨rfl,_,_⟩:=e1;exact absurd e2 (hne r' _ _ e')
  . subst e';rw[e_b]at e2;simp only[XU,Yu]at e2;obtain⟨rfl,_,_⟩:=e2;exact absurd e1 (hne r _ _ e)
  rw[e_r r e]at e1;rw[e_r r' e']at e2
  split at e1
  .
   split at e2
   . exact hm.inj _ _ _ _ _ _ _ e1 e2
   cases e2
  cases e1
 by_cases e:r=b
 . exact .inr e
 rw[e_r r e]at hn
 split at hn
 . exact .inl (hm.used r hn)
 exact absurd rfl hn
def HM.put [aa P]{h h':H}{g:Mem}{w w':World}(hm:HM P h g w)(b nb c:Nat)(bl:ax)(cur:Array Value)
  (hb : ¬g.U b\/g.M b=some (some nb,c,P.cellsOf bl.ty))(hb':h' b=some bl)(hr : ∀r,r≠b->h' r=h r\/h' r=none)
  (hnb:w.heap.size<=nb \/ ∃r c' s',g.M r=some (some nb,c',s')/\(r=b\/h' r=none))
  (Jt:w'.heap[nb]? = some (.cells cur bl.ty (0,0)))(hsz:cur.size=c*P.cellsOf bl.ty)(hpos:0<P.cellsOf bl.ty)(hle:bl.rows.length<=c)(hmax:c<=maxLen)
  (hold:Holds P w g bl cur)(gb:w.grownBy w' (some nb))(hdr:w.drawn<=w'.drawn:=by first|exact X4 _|exact Nat.le_succ _) :
  ∃g':Mem,g'.M b=some (some nb,c,P.cellsOf bl.ty)/\(∀r,g'.U r↔g.U r\/r=b)/\(∀b,g'.I b↔g.I b)/\HM P h' g' w'/\aB g g' w w' :=
 hm.putB b nb c bl cur hb hb' hr hnb (.inl ⟨hmax,Jt⟩) (λ_=>hsz) hpos hle (Nat.le_succ_of_le hmax) hold gb hdr
def HM.putNone [aa P]{h h':H}{g:Mem}{w:World}(hm:HM P h g w)(b:Nat)(bl:ax)(hb : ¬g.U b)(hb':h' b=some bl)(hr : ∀r,r≠b->h' r=h r\/h' r=none)(hpos:0<P.cellsOf bl.ty)(hle:bl.rows=[]) :
  ∃g':Mem,g'.M b=some (none,0,P.cellsOf bl.ty)/\(∀r,g'.U r↔g.U r\/r=b)/\(∀b,g'.I b↔g.I b)/\HM P h' g' w/\aB g g' w w:=by
 let g':Mem:={ M:=λr=>if r=b then some (none,0,P.cellsOf bl.ty)else if(h' r).isSome then g.M r else none,U:=λr=>g.U r\/r=b,I:=g.I }
 have e_b:g'.M b=some (none,0,P.cellsOf bl.ty):=by simp[g']
 have e_r : ∀r,r≠b->g'.M r=if(h' r).isSome then g.M r else none:=λr hr=>by simp[g',hr]
 have mono:aB g g' w w:=by
  refine⟨rfl,rfl,rfl,X4 _,λ_=>X4 _,λr h=>.inl h,λr hu=>?_,λr b' c' s' he=>?_,λ_ h=>h,λ_ h=>.inl h,λk hk hn=>rfl⟩
  .
   have e:r≠b:=λe=>hb (e▸hu)
   rw[e_r r e];split
   . exact .inl rfl
   exact .inr rfl
  by_cases e:r=b
  . subst e;rw[e_b]at he;cases he
  rw[e_r r e]at he
  split at he
  . exact .inl ⟨r,c',s',he⟩
  cases he
 refine⟨g',e_b,λ_=>Iff.rfl,λ_=>Iff.rfl,⟨λr hn=>?_,λr bl' hrl=>?_,λr r' b' c1 c2 s1 s2 e1 e2=>?_,λr hn=>?_,λk hk=>hm.imm k hk,hm.gr.later (hm.kept mono)⟩,mono⟩
 .
  have e:r≠b:=λe=>by rw[e,hb']at hn;cases hn
  rw[e_r r e,hn];rfl
 .
  by_cases e:r=b
  .
   subst e;rw[hb']at hrl;cases hrl
   exact⟨none,0,e_b,hpos,by rw[hle];exact X4 _,Yl _,.inl ⟨rfl,rfl⟩⟩
  rcases hr r e with e1|e1
  .
   rw[e1]at hrl;obtain⟨blk,c',h1,h2,h3,h4,h5⟩:=hm.blk r bl' hrl;refine⟨blk,c',by rw[e_r r e,e1,hrl];exact h1,h2,h3,h4,?_⟩
   rcases h5 with h5|⟨b',cur',rfl,h6,h7,h8,h9⟩
   . exact .inl h5
   refine .inr ⟨b',cur',rfl,h6,h7,h8,λi row hi=>?_⟩
   obtain⟨k1,k2⟩:=h9 i row hi;refine⟨k1,λj d hd=>?_⟩
   obtain⟨u,k3,k4,k5⟩:=k2 j d hd;exact⟨u,k3,k4,k5.later hm mono⟩
  rw[e1]at hrl;cases hrl
 .
  by_cases e:r=b
  . subst e;rw[e_b]at e1;cases e1
  by_cases e':r'=b
  . subst e';rw[e_b]at e2;cases e2
  rw[e_r r e]at e1;rw[e_r r' e']at e2
  split at e1
  .
   split at e2
   . exact hm.inj _ _ _ _ _ _ _ e1 e2
   cases e2
  cases e1
 by_cases e:r=b
 . exact .inr e
 rw[e_r r e]at hn
 split at hn
 . exact .inl (hm.used r hn)
 exact absurd rfl hn
def Does(P:Program)[aa P](g:Mem)(w:World)(b:Nat)(r:Result Next)(d:D)(h':H):Prop :=
 ∃v g' w',(r = .ok (.value v) w'\/(r = .ok .skip w'/\v=undef))/\ag w' g' d v/\HM P h' g' w'/\aB g g' w w' /\ ∀r,g'.U r->g.U r\/r=b
theorem Does.still [aa P]{g:Mem}{w:World}{b:Nat}{s:Sem Value}{d:D}{h:H}{v:Value}(hm:HM P h g w)(hr:s.run P w = .ok v w)(hv:ag w g d v) :
  Does P g w b ((do pure (.value (<-s)):Sem Next).run P w) d h :=
 ⟨v,g,w,.inl (by simp[hr]),hv,hm,aB.refl _ _,λ_ h=>.inl h⟩
theorem ag.one{w:World}{g:Mem}{d:D}{v:Value}(h:ag w g d v)(h1:d.one=true):v.oneCell'=true/\v.cells = #[v]:=by
 cases h with
 | v=>cases v<;>simp_all [D.one,Value.oneCell',Value.cells]
 | agg=>simp[D.one]at h1
 | tuple=>simp[D.one]at h1
 | iface=>simp[Value.oneCell',Value.cells]
 | empty=>simp[Value.oneCell',Value.cells]
 | list=>simp[Value.oneCell',Value.cells]
 | eptr=>simp[Value.oneCell',Value.cells]
 | mrow r off len x hx=>obtain⟨a,c,rfl,_⟩:=hx;simp[Value.oneCell',Value.cells]
 | mptr r i off x hx=>obtain⟨p,rfl⟩:=hx;simp[Value.oneCell',Value.cells]
 | mp r x hx=>obtain⟨p,rfl⟩:=hx;simp[Value.oneCell',Value.cells]
 | fmap=>simp[Value.oneCell',Value.cells]
 | fn=>simp[Value.oneCell',Value.cells]
 | cond=>simp[D.one]at h1
 | junk=>simp[D.one]at h1
theorem ag.cells{w:World}{g:Mem}{d:D}{v:Value}(h:ag w g d v)(h1:d.cells.all D.one=true) :
  aG w g d.cells v.cells.toList/\(∀u∈v.cells.toList,u.oneCell'=true)/\v.cells.size=d.cells.length:=by
 by_cases ha : ∃cs,d = .agg cs
 .
  obtain⟨cs,rfl⟩:=ha
  cases h with|agg _ vs hn hv =>
  simp only[D.cells]at h1 ⊢;refine⟨⟨by simpa[Value.cells]using hn,λi d x h2 h3=>hv i d x h2 (by simpa[Value.cells]using h3)⟩,λu hu=>?_,by simp[Value.cells,hn]⟩
  simp only[Value.cells,Array.mem_toList_iff]at hu;obtain⟨i,hi,rfl⟩:=Array.mem_iff_getElem.1 hu;have hd:i<cs.length:=by omega
  exact((hv i cs[i] vs[i] (by simp) (by simp)).one (Yg.1 h1 _ (Yp hd))).1
 have e:d.cells=[d]:=by cases d<;>simp_all [D.cells]
 rw[e]at h1 ⊢
 have h2:=h.one (by simpa using h1)
 rw[h2.2]
 exact⟨.cons h .nil,by simpa using h2.1,by simp⟩
theorem wW [aa P]{t:TypeId}(h:0<P.cellsOf t):∃i,P.info? t=some i/\i.size=P.cellsOf t:=by
 unfold Program.cellsOf at h ⊢
 cases hi:P.info? t with
 | none=>simp[hi]at h
 | some i=>exact⟨i,rfl,by simp⟩
theorem mU [aa P]{t:TypeId}(h:0<P.cellsOf t)(w:World):(sizeOf t).run P w = .ok (P.cellsOf t) w:=by
 obtain⟨i,hi,hs⟩:=wW h
 simp[sizeOf,typeInfo,hi,hs]
theorem PS [aa P]{t:TypeId}(h:(P.underlying t).isSome=true)(w:World):(isAgg t).run P w = .ok (bY P t) w:=by
 obtain⟨d,hd⟩:=Yq.1 h
 unfold isAgg bY
 rw[Sem.run_bind,run_underlying hd w,hd]
 cases d<;>simp
theorem ldc_m [aa P]{r i off:Nat}{h:H}:fU P (.mptr r i off) h=match h r with|some b=>(b.rows.getD i []).drop off|none=>[]:=rfl
theorem ldc_p [aa P]{x o:Nat}{h:H}:fU P (.v (.pointer (some ⟨x,o,none⟩))) h=match aa.tab P x with|some cs=>(cs.drop o).map D.v|none=>[]:=rfl
theorem Nu [aa P]{h:H}{g:Mem}{w:World}(hm:HM P h g w){a:D}{va:Value}(ha:ag w g a va)(hne:fU P a h≠[]) :
  ∃p,va = .pointer (some p) /\ ∀(j:Nat)d,(fU P a h)[j]? = some d -> ∃u,w.cell? (p.add j)=some u/\ag w g d u:=by
 cases ha with
 | eptr cs p cv hI hc hr=>exact⟨p,rfl,λj d hj=>⟨cv j,hc j d hj,hr j d hj⟩⟩
 | mptr r i off x hx hU hv =>
  simp only[ldc_m]at hne ⊢
  cases hr:h r with
  | none=>rw[hr]at hne;exact absurd rfl hne
  | some bl =>
   rw[hr]at hne;simp only at hne ⊢;obtain⟨blk,c,h1,h2,h3,h4,h5⟩:=hm.blk r bl hr;have hi:i<bl.rows.length:=by
    rcases Zv i bl.rows.length with h|h
    . exact h
    simp[List.getD,Zt h]at hne
   rcases h5 with⟨_,rfl⟩|⟨b,cur,rfl,h6,h7,h8,h9⟩
   . omega
   obtain⟨hcm,b',he,rfl⟩:=hv _ _ _ h1
   cases he
   refine⟨_,rfl,λj d hj=>?_⟩
   rw[YO]at hj;obtain⟨_,k2⟩:=h9 i (bl.rows.getD i []) (by simp[List.getD,X6 hi])
   obtain⟨u,k3,_,k5⟩:=k2 (off+j) d hj;refine⟨u,?_,k5⟩;rw[kT,cell_of_row w b _ cur bl.ty (0,0) (h6.cells hcm),<-k3]
   congr 1
   omega
 | v =>
  by_cases hp : ∃b o,va=Value.pointer (some ⟨b,o,none⟩)
  .
   obtain⟨b,o,rfl⟩:=hp;refine⟨_,rfl,λj d hj=>?_⟩
   rw[ldc_p]at hj
   cases ht:aa.tab P b with
   | none=>rw[ht]at hj;simp at hj
   | some cs =>
    rw[ht]at hj;simp only[Ym,YO,Option.map_eq_some_iff]at hj;obtain⟨u,h1,rfl⟩:=hj;exact⟨u,by rw[kT];exact(hm.gr b cs ht).2 _ u h1,.v _⟩
  refine absurd ?_ hne;unfold fU
  split
  .
   rename_i x' o e
   first|(cases e;exact absurd ⟨_,_,rfl⟩ hp)|exact absurd ⟨_,_,rfl⟩ hp
  rfl
 | _=>exact absurd rfl hne
theorem MP [aa P]{t:TypeId}{p:Addr}{w:World}{g:Mem}{ds:List D}(hc : ∀(j:Nat)d,ds[j]? = some d -> ∃u,w.cell? (p.add j)=some u/\ag w g d u)
  (hn:P.cellsOf t<=ds.length)(hp:0<P.cellsOf t)(hu:(P.underlying t).isSome=true):∃v,(loadVar t p).run P w = .ok v w/\ag w g (qd P t ds) v:=by
 unfold loadVar qd
 rw[Sem.run_bind,PS hu w]
 cases hg:bY P t with
 | false =>
  have h0:0<ds.length:=by omega
  obtain⟨u,h1,h2⟩:=hc 0 ds[0] (by simp)
  refine⟨u,?_,?_⟩
  .
   simp only[Addr.add,Zw]at h1
   simp[h1]
  have:ds.headD .junk=ds[0]:=by cases ds<;>simp_all
  simp only[Ye,Y0];rw[this];exact h2
 | true =>
  have hex : ∀j,∃u,j<P.cellsOf t->w.cell? (p.add j)=some u /\ ∀d,ds[j]? = some d->ag w g d u:=by
   intro j
   by_cases hj:j<P.cellsOf t
   .
    obtain⟨u,h1,h2⟩:=hc j (ds[j]'(by omega)) (by simp)
    refine⟨u,λ_=>⟨h1,λd hd=>?_⟩⟩
    rw[X6 (by omega)]at hd
    cases hd;exact h2
   exact⟨undef,λh=>absurd h hj⟩
  let f:=λj=>Classical.choose (hex j)
  have hf:=λj=>Zd (hex j)
  refine⟨.agg ((List.range (P.cellsOf t)).map f).toArray,?_,?_⟩
  .
   have:=run_loadCells (P:=P) w p (P.cellsOf t) f (λj hj=>(hf j hj).1)
   simp[mU hp,this]
  simp only[Zw];refine .agg _ _ (by simp;omega) λi d x h1 h2=>?_
  rw[Y6]at h1
  split at h1
  .
   rename_i hi
   simp[hi]at h2
   subst h2;exact(hf i hi).2 d h1
  cases h1
def ZbY [aa P]{h:H}{g:Mem}{w:World}(hm:HM P h g w){t:TypeId}{a:D}{va:Value}(ha:ag w g a va)(hc:(jd P t a h).2) :
  ∃v,(Instr.loadAt t va).run P w = .ok v w/\ag w g (jd P t a h).1 v:=by
 obtain⟨h1,h2,h3⟩:=hc
 obtain⟨p,rfl,hp⟩:=Nu hm ha (by intro e;rw[e]at h1;simp at h1;omega)
 obtain⟨v,h4,h5⟩:=MP hp h1 h2 h3
 exact⟨v,by simp[Instr.loadAt,Instr.sureAddr,h4],h5⟩
theorem ZaT [aa P]{g:Mem}{w:World}{t:TypeId}{off:Nat}{ds:List D}{vs:Array Value}(hv:aG w g ds vs.toList)(hn:off+P.cellsOf t<=ds.length)(hp:0<P.cellsOf t)(hu:(P.underlying t).isSome=true) :
  ∃v,(part t vs off).run P w = .ok v w/\ag w g (qd P t (ds.drop off)) v:=by
 have hl:ds.length=vs.size:=by simpa using hv.1
 unfold part qd
 rw[Sem.run_bind,PS hu w]
 cases hg:bY P t with
 | false =>
  refine⟨vs[off]'(by omega),?_,?_⟩
  . simp[show off<vs.size by omega]
  have h1:=hv.2 off (ds[off]'(by omega)) (vs[off]'(by omega)) (by simp) (by simp)
  have:(ds.drop off).headD .junk=ds[off]'(by omega):=by rw[Yn (by omega)];rfl
  simp only[Ye,Y0];rw[this];exact h1
 | true =>
  refine⟨.agg (vs.extract off (off+P.cellsOf t)),by simp[mU hp],?_⟩
  simp only[Zw];refine .agg _ _ (by simp;omega) λi d x h1 h2=>?_
  rw[Y6]at h1
  split at h1
  .
   rename_i hi
   rw[YO]at h1;rw[Array.getElem?_extract]at h2
   split at h2
   . exact hv.2 _ d x h1 (by simpa using h2)
   cases h2
  cases h1
theorem Oo(w:World)(g:Mem)(x:Value):ag w g (Bw x) x:=by
 cases x with
 | slice a n c =>
  simp only[Bw]
  split
  .
   rename_i h
   simp only[XT,Zf,Yx]at h;obtain⟨⟨rfl,rfl⟩,rfl⟩:=h;exact .empty true none 0 (λ_=>rfl) (by simp[maxLen])
  exact .v _
 | func f fs cs =>
  simp only[Bw]
  split
  .
   rename_i h
   simp only[XT,Yx]at h;exact .fn f [] [] fs cs (by simp[h.1]) (by simp[h.2]) (by simp) (by simp)
  exact .v _
 | _=>exact .v _
def Ei(w:World)(g:Mem)(x:Value):ag w g (kI x) x:=by
 unfold kI
 split
 .
  refine .agg _ _ (by simp) λi d y h1 h2=>?_
  simp only[Ym,YL]at h1;rw[h2]at h1
  simp at h1
  subst h1;exact Oo w g y
 exact Oo w g x
def Df [aa P]{t:TypeId}{i:TypeInfo}{z:Value}(hi:P.info? t=some i)(hz:i.zero=some z)(w:World)(g:Mem)(h1:(zeroCells P t).all D.one=true) :
  aG w g (zeroCells P t) z.cells.toList/\(∀u∈z.cells.toList,u.oneCell'=true)/\z.cells.size=(zeroCells P t).length:=by
 have e:zeroCells P t=(kI z).cells:=by simp[zeroCells,hi,hz]
 rw[e]at h1 ⊢
 exact(Ei w g z).cells h1
theorem Gu [aa P]{t:TypeId}(h:0<(zeroCells P t).length):∃i z,P.info? t=some i/\i.zero=some z:=by
 unfold zeroCells at h
 cases hi:P.info? t with
 | none=>simp[hi]at h
 | some i =>
  cases hz:i.zero with
  | none=>simp[hi,hz]at h
  | some z=>exact⟨i,z,rfl,hz⟩
theorem holds_one [aa P]{w:World}{g:Mem}{e:TypeId}{ds:List D}{vs:Array Value}(h:aG w g ds vs.toList)(h1 : ∀u∈vs.toList,u.oneCell'=true)(hl:ds.length=P.cellsOf e):Holds P w g ⟨e,[ds]⟩ vs:=by
 intro i row hi
 cases i with
 | succ i=>simp at hi
 | zero =>
  simp at hi;subst hi
  refine⟨hl,λj d hd=>?_⟩
  have hj:j<vs.size:=by have:=h.1;simp at this;rw[<-this];exact(X0.1 hd).1
  exact⟨vs[j],by simp[hj],h1 _ (by simp),h.2 j d _ hd (by simp[hj])⟩
def OV [aa P]{h:H}{g:Mem}{w:World}(hm:HM P h g w){b:Nat}(hb : ¬g.U b){e:TypeId}{ds:List D}{vs:Array Value}(hr:aG w g ds vs.toList)(h1 : ∀u∈vs.toList,u.oneCell'=true)(hl:ds.length=P.cellsOf e)(hp:0<P.cellsOf e) :
  ∃g',ag (w.alloc (.cells vs e)) g' (.mptr b 0 0) (.pointer (some ⟨w.heap.size,0,none⟩))/\HM P (upd h b (some ⟨e,[ds]⟩)) g' (w.alloc (.cells vs e))/\aB g g' w (w.alloc (.cells vs e)) /\ ∀r,g'.U r->g.U r\/r=b:=by
 have hs:vs.size=P.cellsOf e:=by have:=hr.1;simp at this;omega
 obtain⟨g',h2,h3,h4,h5,h6⟩:=hm.put (h':=upd h b (some ⟨e,[ds]⟩)) (w':=w.alloc (.cells vs e)) b w.heap.size 1 ⟨e,[ds]⟩ vs (.inl hb) (bK _ _ _)
  (λr hr=>.inl (aL _ _ _ _ hr)) (.inl (X4 _)) (heap_alloc_new w _) (by simp[hs]) hp (by simp) (by simp[maxLen]) (holds_one hr h1 hl) (World.grownBy_alloc w _ _)
 refine⟨g',?_,h5,h6,λr hr=>(h3 r).1 hr⟩
 refine .mptr b 0 0 _ ⟨_,rfl⟩ ((h3 b).2 (.inr rfl)) λblk c sz he=>?_
 rw[h2]at he
 simp only[XU,Yu]at he
 exact⟨by rw[<-he.2.1];simp[maxLen],w.heap.size,he.1.symm,by simp⟩
def VR{w:World}{g:Mem}{row xs:List D}{cs us:List Value}(h:aG w g row cs)(k:aG w g xs us)(off:Nat) :
  aG w g (splice row off xs) (cs.take off++us++cs.drop (off+us.length)):=by
 unfold splice
 rw[k.1]
 exact((h.take off).append k).append (h.drop _)
theorem G5(row xs:List D)(off:Nat)(h:off+xs.length<=row.length):(splice row off xs).length=row.length:=by
 simp[splice];omega
theorem Md [aa P]{h:H}{g:Mem}{w:World}(hm:HM P h g w){t:TypeId}{a x:D}{va vx:Value}(ha:ag w g a va)(hx:ag w g x vx)(hc:(fO P t a x h).2) :
  ∃g' w',(Instr.storeAt t va vx).run P w = .ok () w'/\HM P (fO P t a x h).1 g' w'/\aB g g' w w' /\ ∀r,g'.U r->g.U r:=by
 unfold fO at hc ⊢
 split at hc
 case h_2=>exact hc.elim
 rename_i r i off
 cases hr:h r with
 | none=>rw[hr]at hc;exact hc.elim
 | some bl =>
  rw[hr]at hc;simp only at hc ⊢;obtain⟨c1,c0,c2,c3,c4⟩:=hc;obtain⟨blk,c,h1,h2,h3,h4,h5⟩:=hm.blk r bl hr
  rcases h5 with⟨_,rfl⟩|⟨b,cur,rfl,h6,h7,h8,h9⟩
  . omega
  cases ha with|mptr _ _ _ _ fV hU hv =>
  obtain⟨hcm,b',he,rfl⟩:=hv _ _ _ h1
  cases he
  have h6:=h6.cells hcm;have h7:=h7 hcm;have h4:=hcm;obtain⟨q1,q2,q3⟩:=hx.cells c4;have hrow:bl.rows[i]? = some (bl.rows.getD i []):=by simp[List.getD,X6 c2]
  generalize hR:bl.rows.getD i []=row at *;obtain⟨m1,m2⟩:=h9 i _ hrow;have q4:vx.cells.toList.length=x.cells.length:=by simp[q3]
  have hin:i*P.cellsOf bl.ty+P.cellsOf bl.ty<=cur.size:=by
   have e1:(i+1)*P.cellsOf bl.ty<=c*P.cellsOf bl.ty:=YT _ om;rw[Ze,Nat.one_mul]at e1;omega
  have hfit:i*P.cellsOf bl.ty+off+vx.cells.toList.length<=cur.size:=by omega
  have hst:=run_storeCells_at P b (i*P.cellsOf bl.ty+off) bl.ty vx.cells.toList 0 cur w h6 (by simpa using hfit) q2
  simp only[ZB]at hst;generalize hnew:(List.take (i*P.cellsOf bl.ty+off) cur.toList++vx.cells.toList++List.drop (i*P.cellsOf bl.ty+off+vx.cells.toList.length) cur.toList)=new at hst;have hnl:new.length=cur.size:=by rw[<-hnew];simp;omega
  have hget : ∀k,new[k]? = if i*P.cellsOf bl.ty+off<=k/\k<i*P.cellsOf bl.ty+off+x.cells.length then vx.cells.toList[k-(i*P.cellsOf bl.ty+off)]? else cur[k]? := by
   intro k;rw[<-hnew];have l1:(List.take (i*P.cellsOf bl.ty+off) cur.toList).length=i*P.cellsOf bl.ty+off:=by simp;omega
   rw[YW]
   by_cases hk:k<i*P.cellsOf bl.ty+off
   . rw[Zb (by omega),XW (by omega),Y6,XY hk];simp
   rw[YX (by omega),l1]
   by_cases hk2:k<i*P.cellsOf bl.ty+off+x.cells.length
   . rw[Zb (by omega),XY (by omega)]
   rw[YX (by omega),XW (by omega),YO]
   rw[q4,YL]
   congr 1;omega
  obtain⟨g',g1,g2,g3,g4,g5⟩:=hm.put (h':=upd h r (some { bl with rows:=bl.rows.set i (splice row off x.cells) })) (w':=w.setRow b new.toArray) r b c
   { bl with rows:=bl.rows.set i (splice row off x.cells) } new.toArray (.inr h1) (bK _ _ _) (λr' hr'=>.inl (aL _ _ _ _ hr')) (.inr ⟨r,c,_,h1,.inl rfl⟩)
   (setRow_heap w b cur _ bl.ty _ h6) (by simp[hnl,h7]) h2 (by simpa using h3) h4
   (by
    intro i' row' hi';simp only[List.getElem?_set]at hi'
    by_cases e:i=i'
    .
     subst e;rw[XY rfl,XY c2]at hi'
     cases hi'
     refine⟨by rw[G5 _ _ _ c3];exact m1,λj d hj=>?_⟩
     have hjl:j<row.length:=by
      have:=(X0.1 hj).1;rwa [G5 _ _ _ c3]at this
     unfold splice at hj;rw[YW]at hj;have l1:(List.take off row).length=off:=by simp;omega
     simp only[List.getElem?_toArray];rw[hget]
     by_cases hk:j<off
     .
      rw[Zb (by omega),Y6,XY hk]at hj
      rw[XW (by omega)]
      exact m2 j d hj
     rw[YX (by omega),l1]at hj
     by_cases hk2:j<off+x.cells.length
     .
      rw[Zb (by omega)]at hj
      rw[XY (by omega)]
      have hjj:i*P.cellsOf bl.ty+j-(i*P.cellsOf bl.ty+off)=j-off:=by omega
      rw[hjj];have hlt:j-off<vx.cells.toList.length:=by omega
      exact⟨vx.cells.toList[j-off],by simp,q2 _ (Yp hlt),q1.2 (j-off) d _ hj (by simp)⟩
     rw[YX (by omega),YO]at hj
     rw[XW (by omega)]
     have:off+x.cells.length+(j-off-x.cells.length)=j:=by omega
     rw[this]at hj;exact m2 j d hj
    rw[XW e]at hi';obtain⟨k1,k2⟩:=h9 i' row' hi';refine⟨k1,λj d hj=>?_⟩
    have hjl:j<P.cellsOf bl.ty:=by have:=(X0.1 hj).1;omega
    simp only[List.getElem?_toArray];rw[hget,XW]
    . exact k2 j d hj
    intro ⟨u1,u2⟩;have v1:i*P.cellsOf bl.ty<i'*P.cellsOf bl.ty+P.cellsOf bl.ty:=by omega
    have v2:i'*P.cellsOf bl.ty<i*P.cellsOf bl.ty+P.cellsOf bl.ty:=by omega
    have e1:i<i'+1:=Nat.lt_of_mul_lt_mul_right (a:=P.cellsOf bl.ty) (by rw[Ze,Nat.one_mul];exact v1)
    have e2:i'<i+1:=Nat.lt_of_mul_lt_mul_right (a:=P.cellsOf bl.ty) (by rw[Ze,Nat.one_mul];exact v2)
    omega)
   ⟨rfl,rfl,rfl,by simp,λk _ hk=>setRow_other w b k _ (λe=>hk (by rw[e]))⟩
  refine⟨g',_,?_,g4,g5,λr' hr'=>?_⟩
  . simp[Instr.storeAt,Instr.sureAddr,storeVar,mU c0,q3,c1,hst]
  rcases(g2 r').1 hr' with h|rfl
  . exact h
  exact hU
end Go.DL
namespace Go.DL
variable [Dr]
open Go.RowKit
variable {P : Program}
def RowsIn(w:World)(g:Mem)(size:Nat)(rows:List (List D))(cs:List Value):Prop :=
 cs.length=rows.length*size /\ ∀(i:Nat)row,rows[i]? = some row->row.length=size /\ ∀(j:Nat)d,row[j]? = some d -> ∃u,cs[i*size+j]? = some u/\u.oneCell'=true/\ag w g d u
theorem Ab{i j n size:Nat}(hi:i<n)(hj:j<size):i*size+j<n*size:=by
 have e1:(i+1)*size<=n*size:=YT _ om
 rw[Ze,Nat.one_mul]at e1
 omega
theorem RowsIn.nil{w:World}{g:Mem}{size:Nat}:RowsIn w g size [] []:=⟨by simp,λi row h=>by simp at h⟩
def RowsIn.append{w:World}{g:Mem}{size:Nat}{r s:List (List D)}{a b:List Value}(h:RowsIn w g size r a)(k:RowsIn w g size s b):RowsIn w g size (r++s) (a++b):=by
 refine⟨by simp[h.1,k.1,Ze],λi row hi=>?_⟩
 by_cases hlt:i<r.length
 .
  rw[Zb hlt]at hi;obtain⟨h1,h2⟩:=h.2 i row hi;refine⟨h1,λj d hj=>?_⟩
  have hjl:j<size:=by have:=(X0.1 hj).1;omega
  have:=Ab hlt hjl;rw[Zb (by rw[h.1];exact this)]
  exact h2 j d hj
 rw[YX (by omega)]at hi
 obtain⟨h1,h2⟩:=k.2 _ row hi
 refine⟨h1,λj d hj=>?_⟩
 have e:i*size=r.length*size+(i-r.length)*size:=by rw[<-Ze];congr 1;omega
 rw[YX (by rw[h.1];omega),h.1]
 have e2:i*size+j-r.length*size=(i-r.length)*size+j:=by omega
 rw[e2]
 exact h2 j d hj
def RowsIn.one{w:World}{g:Mem}{size:Nat}{rows:List (List D)}{cs:List Value}(h:RowsIn w g size rows cs):∀u∈cs,u.oneCell'=true:=by
 intro u hu
 obtain⟨k,hk,rfl⟩:=YN hu
 rcases Nat.eq_zero_or_pos size with h0|h0
 . rw[h.1,h0]at hk;omega
 have hi:k / size<rows.length:=by rw[Nat.div_lt_iff_lt_mul h0,<-h.1];exact hk
 obtain⟨h1,h2⟩:=h.2 (k / size) rows[k / size] (by simp)
 have hj:k % size<rows[k / size].length:=by rw[h1];exact Nat.mod_lt _ h0
 obtain⟨u,h3,h4,_⟩:=h2 (k % size) (rows[k / size][k % size]) (by simp)
 have e:k / size*size+k % size=k:=by rw[Zx];exact Nat.div_add_mod k size
 rw[e,X6 hk]at h3
 cases h3;exact h4
theorem RowsIn.holds [aa P]{w:World}{g:Mem}{e:TypeId}{rows:List (List D)}{cs:List Value}{cur:Array Value}(h:RowsIn w g (P.cellsOf e) rows cs)(hc:cur.toList.take cs.length=cs):Holds P w g ⟨e,rows⟩ cur:=by
 intro i row hi
 obtain⟨h1,h2⟩:=h.2 i row hi
 refine⟨h1,λj d hj=>?_⟩
 obtain⟨u,h3,h4,h5⟩:=h2 j d hj
 refine⟨u,?_,h4,h5⟩
 rw[<-hc,Y6]at h3
 split at h3
 . simpa using h3
 cases h3
def Holds.rowsIn [aa P]{w:World}{g:Mem}{bl:ax}{cur:Array Value}(h:Holds P w g bl cur)(off len:Nat)(hl:off+len<=bl.rows.length)(hc:bl.rows.length*P.cellsOf bl.ty<=cur.size) :
  RowsIn w g (P.cellsOf bl.ty) ((bl.rows.drop off).take len) ((cur.toList.drop (off*P.cellsOf bl.ty)).take (len*P.cellsOf bl.ty)):=by
 have e1:(off+len)*P.cellsOf bl.ty<=bl.rows.length*P.cellsOf bl.ty:=YT _ hl
 rw[Ze]at e1
 refine⟨?_,λi row hi=>?_⟩
 . simp only[Y7,Zj,Array.length_toList];rw[ZY (by omega),ZY (by omega)]
 rw[Y6]at hi
 split at hi
 .
  rename_i hil
  rw[YO]at hi;obtain⟨h1,h2⟩:=h (off+i) row hi;refine⟨h1,λj d hj=>?_⟩
  obtain⟨u,h3,h4,h5⟩:=h2 j d hj;have hjl:j<P.cellsOf bl.ty:=by have:=(X0.1 hj).1;omega
  refine⟨u,?_,h4,h5⟩;rw[Y6,XY (Ab hil hjl),YO,YL,<-h3]
  congr 1
  rw[Ze];omega
 cases hi
theorem vZ [aa P]{h:H}{g:Mem}{w:World}(hm:HM P h g w){y:D}{vy:Value}(hy:ag w g y vy){size:Nat}(hp:0<size)(hl:(aj y h).length=bq y)(hs : ∀r∈aj y h,r.length=size){u:TypeId}(ho:fG P u h y=true) :
  ∃cs,RowsIn w g size (aj y h) cs/\(∀w',(Builtin.lenOf vy).run P w' = .ok (bq y) w')/\(∀w',w'.heap=w.heap->(Builtin.firstCells size (bq y) vy).run P w' = .ok cs.toArray w') /\
   (∀w',∃d,(underlying u).run P w' = .ok d w'/\(d = .string \/ ∃e',d = .slice e')):=by
 cases hy with
 | empty full a cap hf hmx =>
  obtain⟨e,he⟩:=Yq.1 (show(aZ P u).isSome=true from ho)
  have hu:P.underlying u=some (.slice e):=by unfold aZ at he;split at he<;>simp_all
  refine⟨[],.nil,λw'=>by simp[Builtin.lenOf,bq],λw' _=>?_,λw'=>⟨_,run_underlying hu w',by simp⟩⟩
  cases a<;>simp[Builtin.firstCells,bq,loadCells,loadCellsFrom]
 | list full rows ad cap sz cv hI hlc hf hmx hsz hc hr =>
  obtain⟨e,he⟩:=Yq.1 (show(aZ P u).isSome=true from ho)
  have hu:P.underlying u=some (.slice e):=by unfold aZ at he;split at he<;>simp_all
  simp only[aj]at hs hl ⊢
  by_cases hz:rows=[]
  .
   subst hz;refine⟨[],.nil,λw'=>by simp[Builtin.lenOf,bq],λw' _=>?_,λw'=>⟨_,run_underlying hu w',by simp⟩⟩
   simp[Builtin.firstCells,bq,loadCells,loadCellsFrom]
  have hse:sz=size:=by
   cases rows with
   | nil=>exact absurd rfl hz
   | cons a l=>rw[<-hsz a (by simp),hs a (by simp)]
  subst hse;refine⟨(List.range (rows.length*sz)).map λk=>cv (k / sz) (k % sz),⟨by simp,λi row hi=>⟨hs row (X7 hi),λj d hj=>?_⟩⟩,λw'=>by simp[Builtin.lenOf,bq],λw' hw=>?_,λw'=>⟨_,run_underlying hu w',by simp⟩⟩
  .
   have hil:i<rows.length:=(X0.1 hi).1;have hjl:j<sz:=by have:=(X0.1 hj).1;have:=hs row (X7 hi);omega
   refine⟨cv i j,?_,(hc i j row d hi hj).2,hr i j row d hi hj⟩;rw[Ym,List.getElem?_range (Ab hil hjl)];have e1:(i*sz+j) / sz=i:=by rw[Zx,Nat.mul_add_div hp,Nat.div_eq_of_lt hjl];rfl
   have e2:(i*sz+j) % sz=j:=by rw[Zx,ZP,Zy hjl]
   simp[e1,e2]
  have:=run_loadCells (P:=P) w' ad (rows.length*sz) (λk=>cv (k / sz) (k % sz)) (λk hk=>by
   have hil:k / sz<rows.length:=by rw[Nat.div_lt_iff_lt_mul hp];exact hk
   have hjl:k % sz<(rows[k / sz]).length:=by rw[hs _ (by simp)];exact Nat.mod_lt _ hp
   have h1:=(hc (k / sz) (k % sz) rows[k / sz] (rows[k / sz][k % sz]) (by simp) (by simp)).1
   have e:k / sz*sz+k % sz=k:=by rw[Zx];exact Nat.div_add_mod k sz
   rw[e]at h1;rw[<-h1];exact World.cell?_of_block (by rw[hw]))
  simpa[Builtin.firstCells,bq]using this
 | mrow r off len x hx hU hv =>
  simp only[fG,XT]at ho;obtain⟨e,he⟩:=Yq.1 ho.1;have hu:P.underlying u=some (.slice e):=by unfold aZ at he;split at he<;>simp_all
  simp only[aj,bq]at hs hl ⊢
  cases hr:h r with
  | none =>
   rw[hr]at ho;simp at ho
  | some bl =>
   rw[hr]at hl hs;simp only at hl hs ⊢;obtain⟨blk,c,h1,h2,h3,h4,h5⟩:=hm.blk r bl hr;obtain⟨h6,h7⟩:=hv _ _ _ h1
   rcases h7 with⟨rfl,a,rfl⟩|⟨hne,b,rfl,rfl⟩
   .
    have:len=0:=by omega
    subst this;refine⟨[],by simpa using RowsIn.nil,λw'=>by simp[Builtin.lenOf],λw' _=>?_,λw'=>⟨_,run_underlying hu w',by simp⟩⟩
    cases a<;>simp[Builtin.firstCells,loadCells,loadCellsFrom]
   rcases h5 with⟨h5,_⟩|⟨b',cur,h5,k1,k2,k3,k4⟩
   . cases h5
   cases h5
   have k1:=k1.cells h6.2;have k2:=k2 h6.2;have hle:off+len<=bl.rows.length\/len=0:=by
    simp only[Y7,Zj]at hl;omega
   rcases hle with hle|hle
   .
    have hR:=k4.rowsIn off len hle (by rw[k2];exact YT _ h3)
    by_cases hz:len=0
    . subst hz;refine⟨[],by simpa using RowsIn.nil,λw'=>by simp[Builtin.lenOf],λw' _=>by simp[Builtin.firstCells,loadCells,loadCellsFrom],λw'=>⟨_,run_underlying hu w',by simp⟩⟩
    have hse:P.cellsOf bl.ty=size:=by
     have hlt:0<((bl.rows.drop off).take len).length:=by omega
     have m1:=hs _ (Yp hlt);have m2:=(hR.2 0 _ (X6 hlt)).1;omega
    rw[hse]at hR k2;refine⟨_,hR,λw'=>by simp[Builtin.lenOf],λw' hw=>?_,λw'=>⟨_,run_underlying hu w',by simp⟩⟩
    rw[hse];have hlen:=hR.1;rw[hl]at hlen;refine run_firstCells_some (P:=P) w' size len _ len _ _ hlen λj v hj=>?_
    rw[kT,cell_of_row w' b _ cur bl.ty (0,0) (by rw[hw];exact k1)]
    rw[Y6]at hj
    split at hj
    . rw[YO]at hj;simpa using hj
    cases hj
   subst hle;refine⟨[],by simpa using RowsIn.nil,λw'=>by simp[Builtin.lenOf],λw' _=>by simp[Builtin.firstCells,loadCells,loadCellsFrom],λw'=>⟨_,run_underlying hu w',by simp⟩⟩
 | v =>
  cases vy<;>simp only[fG]at ho<;>try (cases ho;done)
  rename_i s
  have hu:P.underlying u=some .string:=by split at ho<;>simp_all
  simp only[aj,bq]at hs hl ⊢
  by_cases hz:s.size=0
  .
   have e:s.data.toList=[]:=Yf (by simpa using hz)
   refine⟨[],by rw[e];exact RowsIn.nil,λw'=>by simp[Builtin.lenOf],λw' _=>?_,λw'=>⟨_,run_underlying hu w',by simp⟩⟩
   simp[Builtin.firstCells,hz]
  have hse:size=1:=by
   have hlt:0<s.data.toList.length:=by simp;exact Nat.pos_of_ne_zero hz
   rw[<-hs [.v (.int .u8 (s.data.toList[0].toNat))] (by simp only[Yi];exact⟨_,Yp hlt,rfl⟩)];rfl
  subst hse;refine⟨s.data.toList.map λb=>.int .u8 b.toNat,⟨by simp,λi row hi=>?_⟩,λw'=>by simp[Builtin.lenOf],λw' _=>?_,λw'=>⟨_,run_underlying hu w',by simp⟩⟩
  .
   rw[Ym]at hi
   cases hb:s.data.toList[i]? with
   | none=>rw[hb]at hi;cases hi
   | some b =>
    rw[hb]at hi;simp at hi;subst hi;refine⟨rfl,λj d hj=>?_⟩
    cases j with
    | succ j=>simp at hj
    | zero=>simp at hj;subst hj;exact⟨.int .u8 b.toNat,by rw[Ym];simp[hb],rfl,.v _⟩
  simp[Builtin.firstCells]
  apply Zh
  simp
 | _=>simp[fG]at ho
section
variable {t u e : TypeId} {i : TypeInfo} {x : Value} {n : Nat} {w : World}
def TS [aa P](ht:P.underlying t=some (.slice e))(hi:P.info? e=some i)(hu : ∃d,(underlying u).run P w = .ok d w/\(d = .string \/ ∃e',d = .slice e'))(ty:TypeId)(b o sLen sCap:Nat)
  (hl:(Builtin.lenOf x).run P w = .ok n w)(hroom:sLen+n<=sCap){news:List Value}(hn:(Builtin.firstCells i.size n x).run P w = .ok news.toArray w)(h1 : ∀v∈news,v.oneCell'=true)
  {cur:Array Value}(hg:w.heap[b]? = some (.cells cur e (0,0)))(hfit:o+sLen*i.size+news.length<=cur.size) :
  (Builtin.append_ #[t,u] ty #[.slice (some ⟨b,o,none⟩) sLen sCap,x]).run P w = .ok (.slice (some ⟨b,o,none⟩) (sLen+n) sCap)
   (w.setRow b (cur.toList.take (o+sLen*i.size)++news++cur.toList.drop (o+sLen*i.size+news.length)).toArray):=by
 obtain⟨d,hu,hd⟩:=hu
 have hst:=run_storeCells_at P b (o+sLen*i.size) e news 0 cur w hg (by simpa using hfit) h1
 simp only[ZB]at hst
 rcases hd with rfl|⟨e',rfl⟩<;>simp[Builtin.append_,run_underlying ht,hu,sizeOf,typeInfo,hi,hl,hroom,hn,kT,hst]
def KX [aa P](ht:P.underlying t=some (.slice e))(hi:P.info? e=some i)(hu : ∃d,(underlying u).run P w = .ok d w/\(d = .string \/ ∃e',d = .slice e'))(ty:TypeId)(a:Option Addr)(sLen sCap:Nat)(hle:sLen<=sCap)
  (hl:(Builtin.lenOf x).run P w = .ok 0 w)(hn:(Builtin.firstCells i.size 0 x).run P w = .ok #[] w) :
  (Builtin.append_ #[t,u] ty #[.slice a sLen sCap,x]).run P w = .ok (.slice a sLen sCap) w:=by
 obtain⟨d,hu,hd⟩:=hu
 rcases hd with rfl|⟨e',rfl⟩<;>cases a<;>simp[Builtin.append_,run_underlying ht,hu,sizeOf,typeInfo,hi,hl,hle,hn,storeCells]
def KY [aa P](ht:P.underlying t=some (.slice e))(hi:P.info? e=some i){z:Value}(hz:i.zero=some z)(hu : ∃d,(underlying u).run P w = .ok d w/\(d = .string \/ ∃e',d = .slice e'))(ty:TypeId)(a:Option Addr)(sLen sCap:Nat)
  (hl:(Builtin.lenOf x).run P w = .ok n w)(hgr:sCap<sLen+n){olds news:List Value}(ho:(Builtin.firstCells i.size sLen (.slice a sLen sCap)).run P w.drew = .ok olds.toArray w.drew)
  (hn:(Builtin.firstCells i.size n x).run P w.drew = .ok news.toArray w.drew)(h63:sLen+n<=9223372036854775807)(hby:(sLen+n)*i.bytes<=140737488355328) :
  (Builtin.append_ #[t,u] ty #[.slice a sLen sCap,x]).run P w = .ok (.slice (some ⟨w.heap.size,0,none⟩) (sLen+n) (grownCap w (sLen+n) sCap e))
   (w.drew.alloc (.cells ((olds++news).toArray++Builtin.zeroCells z.cells (grownCap w (sLen+n) sCap e-(sLen+n))) e)):=by
 obtain⟨d,hu',hd⟩:=hu
 have h1 : ¬(sLen+n<=sCap):=by omega
 have h63' : ¬(9223372036854775807<(sLen:Int)+(n:Int)):=by omega
 have h48 : ¬(281474976710656<Builtin.nextslicecap (sLen+n) sCap*i.bytes):=by have:=growslice_fits (bytes:=i.bytes) hgr hby;omega
 have e0 : ∀Z:Array Value,(olds++news).toArray++Z=olds.toArray++(news.toArray++Z):=λZ=>by apply Zh;simp
 rw[e0]
 rcases hd with rfl|⟨e',rfl⟩<;>simp[Builtin.append_,run_underlying ht,hu',sizeOf,typeInfo,zeroValue,hi,hz,hl,h1,h63',h48,Question.forced,ho,hn,newRow,grownCap]
end
theorem nS [aa P]{t e:TypeId}(h:aZ P t=some e):P.underlying t=some (.slice e):=by unfold aZ at h;split at h<;>simp_all
def Fa [aa P]{h h':H}{g:Mem}{w:World}(hm:HM P h g w){b:Nat}(hb : ¬g.U b){e:TypeId}{rows:List (List D)}{cs:List Value}(hr:RowsIn w g (P.cellsOf e) rows cs)(hp:0<P.cellsOf e){z:Value}(hz:z.cells.size=P.cellsOf e)
  (hb':h' b=some ⟨e,rows⟩)(hrr : ∀r,r≠b->h' r=h r\/h' r=none)(c:Nat)(hc:rows.length<=c)(hc0:0<c)(hmx:c<=maxLen) :
  ∃g',ag (w.drew.alloc (.cells (cs.toArray++Builtin.zeroCells z.cells (c-rows.length)) e)) g' (.mrow b 0 rows.length) (.slice (some ⟨w.heap.size,0,none⟩) rows.length c) /\
   HM P h' g' (w.drew.alloc (.cells (cs.toArray++Builtin.zeroCells z.cells (c-rows.length)) e))/\aB g g' w (w.drew.alloc (.cells (cs.toArray++Builtin.zeroCells z.cells (c-rows.length)) e)) /\ ∀r,g'.U r->g.U r\/r=b:=by
 obtain⟨g',h2,h3,h4,h5,h6⟩:=hm.put (h':=h') (w':=w.drew.alloc (.cells (cs.toArray++Builtin.zeroCells z.cells (c-rows.length)) e)) b w.heap.size c ⟨e,rows⟩ (cs.toArray++Builtin.zeroCells z.cells (c-rows.length)) (.inl hb) hb' hrr (.inl (X4 _))
  (heap_alloc_new w.drew _) (by simp only[Array.size_append,List.size_toArray,size_zeroCells,hz,hr.1,<-Ze];congr 1;omega) hp hc hmx
  (hr.holds (by simp)) ⟨rfl,rfl,rfl,by simp,λk hk _=>Below.heap_alloc w.drew _ k hk⟩
 refine⟨g',.mrow b 0 rows.length _ ⟨_,_,rfl,hc,λ_=>⟨_,rfl⟩⟩ ((h3 b).2 (.inr rfl)) λblk c' sz he=>?_,h5,h6,λr hr=>(h3 r).1 hr⟩
 rw[h2]at he
 simp only[XU,Yu]at he
 obtain⟨rfl,rfl,rfl⟩:=he
 exact⟨om,.inr ⟨om,w.heap.size,rfl,by simp⟩⟩
def M8{w:World}{g:Mem}{b sz:Nat}(hM:g.M b=some (none,0,sz))(hU:g.U b)(a:Option Addr):ag w g (.mrow b 0 0) (.slice a 0 0) :=
 .mrow b 0 0 _ ⟨_,_,rfl,X4 _,λh=>absurd h om⟩ hU λblk c s he=>by
  rw[hM]at he;simp only[XU,Yu]at he;obtain⟨rfl,rfl,rfl⟩:=he;exact⟨⟨X4 _,Yl _⟩,.inl ⟨rfl,a,rfl⟩⟩
theorem KW [aa P]{h:H}{g:Mem}{w:World}(hm:HM P h g w){t u:TypeId}{x y:D}{vx vy:Value}{b:Nat}(hb : ¬g.U b)(hx:ag w g x vx)(hy:ag w g y vy)(hc:(dR P t u x y h b).2.2)(ty:TypeId) :
  ∃v g' w',(Builtin.append_ #[t,u] ty #[vx,vy]).run P w = .ok v w'/\ag w' g' (dR P t u x y h b).1 v/\HM P (dR P t u x y h b).2.1 g' w'/\aB g g' w w' /\ ∀r,g'.U r->g.U r\/r=b:=by
 unfold dR at hc ⊢
 cases he:aZ P t with
 | none=>rw[he]at hc;exact hc.elim
 | some e =>
  rw[he]at hc;simp only at hc ⊢;have ht:=nS he;have common:(0<P.cellsOf e/\(bq x+(aj y h).length)*P.bytesOf e<=140737488355328/\bq x+(aj y h).length<=9223372036854775807) ->
    ((aj y h).length=bq y/\fG P u h y=true/\dJ P e=true /\ ∀r∈aj y h,r.length=P.cellsOf e) ->
    ∃i z news,P.info? e=some i/\i.size=P.cellsOf e/\i.bytes=P.bytesOf e/\i.zero=some z/\z.cells.size=P.cellsOf e/\RowsIn w g (P.cellsOf e) (aj y h) news/\(Builtin.lenOf vy).run P w = .ok (aj y h).length w /\
     (∀w',w'.heap=w.heap->(Builtin.firstCells i.size (aj y h).length vy).run P w' = .ok news.toArray w')/\(∃d,(underlying u).run P w = .ok d w/\(d = .string \/ ∃e',d = .slice e')):=by
   rintro⟨a1,a2,a3⟩ ⟨b1,b2,b3,b4⟩;obtain⟨i,hi,hs⟩:=wW a1;unfold dJ at b3
   cases hz:i.zero with
   | none=>simp[hi,hz]at b3
   | some z =>
    simp only[hi,hz,Option.bind_some,Yx]at b3;obtain⟨news,r1,r2,r3,r4⟩:=vZ hm hy a1 b1 b4 b2;exact⟨i,z,news,hi,hs,by simp[Program.bytesOf,hi],hz,b3,r1,by rw[b1];exact r2 w,by rw[b1,hs];exact r3,r4 w⟩
  split at hc
  case h_3=>exact hc.elim
  case h_1 rows =>
   obtain⟨hsz,hsrc,hne,hrl⟩:=hc;simp only[bq]at hsz common;obtain⟨i,z,news,hi,hs,hby,hz,hzs,hR,hlen,hfc,hu⟩:=common hsz hsrc
   by_cases hn:aj y h=[]
   .
    have hr0:=hne hn;subst hr0;rw[hn]at hlen hfc hR ⊢;have:news=[]:=Yf (by simpa using hR.1)
    subst this;obtain⟨g',g1,g2,g3,g4,g5⟩:=hm.putNone (h':=upd h b (some ⟨e,[]⟩)) b ⟨e,[]⟩ hb (bK _ _ _) (λr hr=>.inl (aL _ _ _ _ hr)) hsz.1 rfl
    have hv : ∃a,vx = .slice a 0 0:=by
     cases hx with
     | empty full a cap hf hmx=>rw[hf rfl];exact⟨a,rfl⟩
     | list full rows ad cap size cv hI hl hf hmx hs' hc' hr'=>rw[hf rfl];exact⟨_,rfl⟩
    obtain⟨a,rfl⟩:=hv;exact⟨.slice a 0 0,g',w,KX ht hi hu ty a 0 0 (X4 _) hlen (hfc w rfl),M8 g1 ((g2 b).2 (.inr rfl)) a,g4,g5,λr hr=>(g2 r).1 hr⟩
   have hpos:0<(aj y h).length:=YV.2 hn;obtain⟨olds,o1,o2,o3,_⟩:=vZ hm hx (u:=t) hsz.1 (by simp[aj,bq]) hrl (by simp[fG,he])
   simp only[aj,bq]at o1 o2 o3;have hv : ∃a,vx = .slice a rows.length rows.length:=by
    cases hx with
    | empty full a cap hf hmx=>rw[hf rfl];exact⟨a,rfl⟩
    | list full rows ad cap size cv hI hl hf hmx hs' hc' hr'=>rw[hf rfl];exact⟨_,rfl⟩
   obtain⟨a,rfl⟩:=hv;have hap:=KY (P:=P) ht hi hz hu ty a rows.length rows.length hlen (by omega) (by rw[hs];exact o3 w.drew rfl) (hfc w.drew rfl) hsz.2.2 (by rw[hby];exact hsz.2.1)
   have hge:=grownCap_ge w (rows.length+(aj y h).length) rows.length e;obtain⟨g',k1,k2,k3,k4⟩:=Fa (h':=upd h b (some ⟨e,rows++aj y h⟩)) hm hb (o1.append hR) hsz.1 hzs (bK _ _ _) (λr hr=>.inl (aL _ _ _ _ hr)) (grownCap w (rows.length+(aj y h).length) rows.length e) (by simpa using hge) om
    (grownCap_le_maxLen _ _ _ _ (by simp only[maxLen];exact hsz.2.2))
   simp only[Yr]at k1 k2 k3;exact⟨_,g',_,hap,k1,k2,k3,k4⟩
  case h_2 r n =>
   cases hr:h r with
   | none=>rw[hr]at hc;exact hc.elim
   | some bl =>
    rw[hr]at hc;simp only at hc ⊢;obtain⟨hsz,hsrc,rfl,rfl,hrb⟩:=hc;simp only[bq]at hsz common;obtain⟨i,z,news,hi,hs,hby,hz,hzs,hR,hlen,hfc,hu⟩:=common hsz hsrc;have hh' : ∀r',r'≠b->upd (upd h r none) b (some ⟨bl.ty,bl.rows++aj y h⟩) r'=h r'\/upd (upd h r none) b (some ⟨bl.ty,bl.rows++aj y h⟩) r'=none:=by
     intro r' hr';rw[aL _ _ _ _ hr']
     by_cases e1:r'=r
     . subst e1;exact .inr (bK _ _ _)
     exact .inl (aL _ _ _ _ e1)
    obtain⟨blk,c,q1,q2,q3,q4,q5⟩:=hm.blk r bl hr
    cases hx with|mrow _ _ _ _ fV hU hv =>
    obtain⟨q6,q7⟩:=hv _ _ _ q1;have grow : ∀a cap,vx = .slice a bl.rows.length cap->cap<bl.rows.length+(aj y h).length -> ∃v g' w',(Builtin.append_ #[t,u] ty #[vx,vy]).run P w = .ok v w'/\ag w' g' (.mrow b 0 (bl.rows.length+(aj y h).length)) v /\
      HM P (upd (upd h r none) b (some ⟨bl.ty,bl.rows++aj y h⟩)) g' w'/\aB g g' w w' /\ ∀r,g'.U r->g.U r\/r=b:=by
     rintro a cap rfl hcap;have hrx:aj (.mrow r 0 bl.rows.length) h=bl.rows:=by simp[aj,hr]
     obtain⟨olds,o1,o2,o3,_⟩:=vZ hm (.mrow r 0 bl.rows.length _ fV hU hv) (u:=t) hsz.1 (by simp[hrx,bq]) (by
      rw[hrx];intro row hrow;obtain⟨k,hk,rfl⟩:=YN hrow
      rcases q5 with⟨_,rfl⟩|⟨b',cur,_,_,_,_,k9⟩
      . omega
      exact(k9 k _ (X6 hk)).1) (by simp[fG,he,hr])
     rw[hrx]at o1;simp only[bq]at o2 o3;have hap:=KY (P:=P) ht hi hz hu ty a bl.rows.length cap hlen hcap (by rw[hs];exact o3 w.drew rfl) (hfc w.drew rfl) hsz.2.2 (by rw[hby];exact hsz.2.1)
     have hge:=grownCap_ge w (bl.rows.length+(aj y h).length) cap bl.ty;obtain⟨g',k1,k2,k3,k4⟩:=Fa (h':=upd (upd h r none) b (some ⟨bl.ty,bl.rows++aj y h⟩)) hm hb (o1.append hR) hsz.1 hzs (bK _ _ _) hh' (grownCap w (bl.rows.length+(aj y h).length) cap bl.ty) (by simpa using hge) om
      (grownCap_le_maxLen _ _ _ _ (by simp only[maxLen];exact hsz.2.2))
     simp only[Yr]at k1 k2 k3;exact⟨_,g',_,hap,k1,k2,k3,k4⟩
    rcases q7 with⟨hc0,a,rfl⟩|⟨hc0,b0,rfl,rfl⟩
    .
     have hl0:bl.rows.length=0:=by omega
     by_cases hn:aj y h=[]
     .
      rw[hn]at hlen hfc hR ⊢;have:news=[]:=Yf (by simpa using hR.1)
      subst this;rw[Yf hl0];obtain⟨g',g1,g2,g3,g4,g5⟩:=hm.putNone (h':=upd (upd h r none) b (some ⟨bl.ty,[]++[]⟩)) b ⟨bl.ty,[]⟩ hb (bK _ _ _) (by rw[hn,Yf hl0]at hh';exact hh') hsz.1 rfl
      exact⟨.slice a 0 0,g',w,KX ht hi hu ty a 0 0 (X4 _) hlen (hfc w rfl),M8 g1 ((g2 b).2 (.inr rfl)) a,g4,g5,λr hr=>(g2 r).1 hr⟩
     have hpos:0<(aj y h).length:=YV.2 hn;exact grow a 0 (by rw[hl0]) (by omega)
    rcases q5 with⟨q5,_⟩|⟨b',cur,q5,k1,k2,k3,k4⟩
    . cases q5
    cases q5
    have k1:=k1.cells q6.2;have k2:=k2 q6.2;have q4:=q6.2;simp only[Nat.zero_mul,Nat.sub_zero]at *
    by_cases hroom:bl.rows.length+(aj y h).length<=c
    .
     have hnl:news.length=(aj y h).length*P.cellsOf bl.ty:=hR.1;have hfit:bl.rows.length*P.cellsOf bl.ty+news.length<=cur.size:=by
      rw[hnl,k2,<-Ze];exact YT _ hroom
     have hap:=TS (P:=P) ht hi hu ty b0 0 bl.rows.length c hlen hroom (hfc w rfl) hR.one k1 (by rw[hs];simpa using hfit)
     rw[hs]at hap;simp only[Nat.zero_add]at hap;have hO:=k4.rowsIn 0 bl.rows.length (by omega) (by rw[k2];exact YT _ q3)
     simp only[Yj,Zq,Nat.zero_mul]at hO;have hA:=hO.append hR;generalize hnew:(List.take (bl.rows.length*P.cellsOf bl.ty) cur.toList++news++List.drop (bl.rows.length*P.cellsOf bl.ty+news.length) cur.toList)=new at hap;have hsize:new.length=cur.size:=by rw[<-hnew];simp;omega
     obtain⟨g',g1,g2,g3,g4,g5⟩:=hm.put (h':=upd (upd h r none) b (some ⟨bl.ty,bl.rows++aj y h⟩)) (w':=w.setRow b0 new.toArray) b b0 c ⟨bl.ty,bl.rows++aj y h⟩ new.toArray (.inl hb) (bK _ _ _) hh'
      (.inr ⟨r,c,_,q1,.inr (by rw[aL _ _ _ _ hrb];exact bK _ _ _)⟩) (setRow_heap w b0 cur _ bl.ty _ k1) (by simp[hsize,k2]) hsz.1 (by simpa using hroom) q4
      (hA.holds (by rw[<-hnew];simp only[YW];rw[<-YW];exact List.take_left))
      ⟨rfl,rfl,rfl,by simp,λk _ hk=>setRow_other w b0 k _ (λe=>hk (by rw[e]))⟩
     refine⟨_,g',_,hap,.mrow b 0 _ _ ⟨_,_,rfl,hroom,λ_=>⟨_,rfl⟩⟩ ((g2 b).2 (.inr rfl)) λblk c' sz he=>?_,g4,g5,λr hr=>(g2 r).1 hr⟩
     rw[g1]at he;simp only[XU,Yu]at he;obtain⟨rfl,rfl,rfl⟩:=he;exact⟨om,.inr ⟨hc0,b0,rfl,by simp⟩⟩
    exact grow _ c rfl om
end Go.DL
namespace Go.DL
open Go.RowKit
variable {P : Program}
def ag.agg_inv{w:World}{g:Mem}{ds:List D}{v:Value}(h:ag w g (.agg ds) v):∃vs,v = .agg vs/\aG w g ds vs.toList:=by
 cases h with|agg _ vs hn hv=>exact⟨vs,rfl,by simpa using hn,λi d x h1 h2=>hv i d x h1 (by simpa using h2)⟩
def ag.tuple_inv{w:World}{g:Mem}{ds:List D}{v:Value}(h:ag w g (.tuple ds) v):∃vs,v = .tuple vs/\aG w g ds vs.toList:=by
 cases h with|tuple _ vs hn hv=>exact⟨vs,rfl,by simpa using hn,λi d x h1 h2=>hv i d x h1 (by simpa using h2)⟩
def ag.mk_agg{w:World}{g:Mem}{ds:List D}{vs:Array Value}(h:aG w g ds vs.toList):ag w g (.agg ds) (.agg vs) :=
 .agg ds vs (by simpa using h.1) λi d x h1 h2=>h.2 i d x h1 (by simpa using h2)
def ag.mk_tuple{w:World}{g:Mem}{ds:List D}{vs:Array Value}(h:aG w g ds vs.toList):ag w g (.tuple ds) (.tuple vs) :=
 .tuple ds vs (by simpa using h.1) λi d x h1 h2=>h.2 i d x h1 (by simpa using h2)
theorem H6{w:World}{g:Mem}{a:D}{va:Value}(ha:ag w g a va)(hp:rH a=true)(n:Nat):∃p,va = .pointer (some p)/\ag w g (sK n a) (.pointer (some (p.add n))):=by
 cases ha with
 | eptr cs p cv hI hc hr =>
  refine⟨p,rfl,.eptr _ _ (λj=>cv (n+j)) (by rw[block_add];exact hI) (λj d hj=>?_) (λj d hj=>?_)⟩
  . rw[YO]at hj;rw[add_add'];exact hc _ d hj
  rw[YO]at hj;exact hr _ d hj
 | mptr r i off x hx hU hv =>
  obtain⟨p,rfl⟩:=hx;refine⟨p,rfl,.mptr r i (off+n) _ ⟨_,rfl⟩ hU λblk c sz he=>?_⟩
  obtain⟨h0,b,h1,h2⟩:=hv blk c sz he;refine⟨h0,b,h1,?_⟩;simp only[Value.pointer.injEq,XU]at h2;rw[h2,kT,Nat.add_assoc]
 | v =>
  unfold rH at hp
  split at hp
  . rename_i e;cases e
  . rename_i e;cases e
  . rename_i p e;cases e;exact⟨_,rfl,.v _⟩
  cases hp
 | _=>simp[rH]at hp
def Zcv{a:D}(h:wV a=true):rH a=true:=by
 unfold wV at h
 split at h
 . rfl
 . rfl
 . rfl
 cases h
theorem Zdp [aa P]{w:World}{g:Mem}{s:TypeId}{f:Nat}{a:D}{va:Value}(ha:ag w g a va)(hc:(tJ P s f a).2):∃v,(Instr.fieldAt s va f).run P w = .ok v w/\ag w g (tJ P s f a).1 v:=by
 unfold tJ at hc ⊢
 cases hf:bM P s f with
 | none=>rw[hf]at hc;exact hc.elim
 | some ot =>
  obtain⟨off,t⟩:=ot;rw[hf]at hc;obtain⟨h1,h2⟩:=hc;obtain⟨p,rfl,h3⟩:=H6 ha h1 off;refine⟨_,?_,h3⟩;unfold bM at hf
  split at hf
  case h_2=>cases hf
  rename_i fs hfs
  cases nO:fs[f]? with
  | none=>rw[nO]at hf;cases hf
  | some fd =>
   rw[nO]at hf;simp only[YP,XU,Yu]at hf;obtain⟨rfl,rfl⟩:=hf;have h4:=mU (P:=P) (t:=fd.type) (by omega) w
   simp[Instr.fieldAt,run_underlying hfs,nO,Instr.sureAddr,fieldPlace,h4,h2]
theorem Zdo [aa P]{w:World}{g:Mem}{s:TypeId}{f:Nat}{a:D}{va:Value}(ha:ag w g a va)(hc:(yV P s f a).2):∃v,(Instr.field s va f).run P w = .ok v w/\ag w g (yV P s f a).1 v:=by
 unfold yV at hc ⊢
 split at hc
 case h_2=>exact hc.elim
 rename_i off t cs hf
 obtain⟨h1,h2,h3⟩:=hc
 obtain⟨vs,rfl,hv⟩:=ha.agg_inv
 obtain⟨v,h4,h5⟩:=ZaT (P:=P) hv h1 h2 h3
 refine⟨v,?_,h5⟩
 unfold bM at hf
 split at hf
 case h_2=>cases hf
 rename_i fs hfs
 cases nO:fs[f]? with
 | none=>rw[nO]at hf;cases hf
 | some fd =>
  rw[nO]at hf;simp only[YP,XU,Yu]at hf;obtain⟨rfl,rfl⟩:=hf
  simp[Instr.field,run_underlying hfs,nO,asAgg,h4]
theorem ZcF [aa P]{h:H}{g:Mem}{w:World}(hm:HM P h g w){t:TypeId}{x ix:D}{vx vi:Value}(hx:ag w g x vx)(hi:ag w g ix vi)(hc:(eF P t x ix h).2):∃v,(Instr.indexAt t vx vi).run P w = .ok v w/\ag w g (eF P t x ix h).1 v:=by
 unfold eF at hc ⊢
 cases he:aZ P t with
 | none =>
  rw[he]at hc;simp only at hc ⊢;unfold ql at hc ⊢
  split at hc
  case h_2=>exact hc.elim
  rename_i n e k kk ha
  obtain⟨c1,c2,c3,c4⟩:=hc;obtain⟨p,rfl,h3⟩:=H6 hx (Zcv c1) (kk.toNat*P.cellsOf e);rw[hi.v_inv];refine⟨_,?_,h3⟩;unfold lQ at ha
  split at ha
  case h_2=>cases ha
  rename_i n' e' hu
  cases ha
  simp[Instr.indexAt,asIntOf,run_underlying hu,Instr.sureAddr,c2,c3,mU c4]
 | some e =>
 rw[he]at hc
 simp only at hc ⊢
 have hu:=nS he
 split at hc
 case h_3=>exact hc.elim
 case h_1 full rows k n =>
  rw[hi.v_inv];obtain⟨c1,c2,c3,c4⟩:=hc;have hlt:n.toNat<rows.length:=by omega
  cases hx with
  | empty=>simp at hlt
  | list full rows ad cap size cv hI hl hf hmx hs hcc hr =>
   have hsz:size=P.cellsOf e:=by
    rw[<-c4,<-hs (rows.getD n.toNat []) (by simp[List.getD,X6 hlt])]
   subst hsz;refine⟨.pointer (some (ad.add (n.toNat*P.cellsOf e))),?_,?_⟩
   .
    have h2:n<(rows.length:Int):=c2
    simp[Instr.indexAt,asIntOf,run_underlying hu,c1,h2,mU c3]
   have hrow:rows[n.toNat]? = some (rows.getD n.toNat []):=by simp[List.getD,X6 hlt]
   refine .eptr _ _ (λj=>cv n.toNat j) (by rw[block_add];exact hI) (λj d hj=>?_) (λj d hj=>hr _ _ _ _ hrow hj)
   rw[add_add'];exact(hcc _ _ _ _ hrow hj).1
 case h_2 r off len k n =>
  rw[hi.v_inv];obtain⟨c1,c2,c3,c4⟩:=hc
  cases hr:h r with
  | none=>rw[hr]at c4;exact c4.elim
  | some bl =>
   rw[hr]at c4;simp only at c4;subst c4
   cases hx with|mrow _ _ _ _ fV hU hv =>
   obtain⟨a,c,rfl,h1,h2⟩:=fV;obtain⟨p,rfl⟩:=h2 om;refine⟨.pointer (some (p.add (n.toNat*P.cellsOf bl.ty))),?_,.mptr _ _ _ _ ⟨_,rfl⟩ hU λblk c' sz hM=>?_⟩
   . simp[Instr.indexAt,asIntOf,run_underlying hu,c1,c2,mU c3]
   obtain⟨blk',c'',q1,_⟩:=hm.blk r bl hr;rw[hM]at q1;simp only[XU,Yu]at q1;obtain⟨q0,q2⟩:=hv _ _ _ hM
   rcases q2 with⟨rfl,a,q2⟩|⟨_,b,q3,q4⟩
   . omega
   refine⟨q0.2,b,q3,?_⟩;simp only[Value.slice.injEq,XU]at q4;rw[q4.1,kT,q1.2.2,<-Ze];rfl
def ZcE [aa P]{g:Mem}{w:World}{t:TypeId}{x ix:D}{vx vi:Value}(hx:ag w g x vx)(hi:ag w g ix vi)(hc:(uK P t x ix).2):∃v,(Instr.index t vx vi).run P w = .ok v w/\ag w g (uK P t x ix).1 v:=by
 unfold uK at hc ⊢
 split at hc
 case h_2=>exact hc.elim
 rename_i s k n
 obtain⟨c1,c2,c3⟩:=hc
 rw[hx.v_inv,hi.v_inv]
 refine⟨_,?_,.v _⟩
 have hlt:n.toNat<s.size:=by omega
 have e:s[n.toNat]? = some (s.data.toList.getD n.toNat 0):=by
  rw[ByteArray.getElem?_lt' s n.toNat hlt];have hlt':n.toNat<s.data.size:=hlt;simp only[List.getD,YL,Zg hlt',YD];rfl
 simp[Instr.index,asIntOf,run_underlying c3,c1,e]
def UZ{g:Mem}{w:World}{op:UnOp}{x:D}{vx:Value}(hx:ag w g x vx)(hc:(uj op x).2):∃v,(Op.unary op vx).run P w = .ok v w/\ag w g (uj op x).1 v:=by
 unfold uj at hc ⊢
 split at hc
 . rw[hx.v_inv];exact⟨_,by simp[Op.unary],.v _⟩
 . rw[hx.v_inv];exact⟨_,by simp[Op.unary,Op.intArith,AZ hc],.v _⟩
 exact hc.elim
theorem Zfm [aa P]{g:Mem}{w:World}{src dst:TypeId}{x:D}{vx:Value}(hx:ag w g x vx)(hc:(vg P src dst x).2):∃v,(convert src dst vx).run P w = .ok v w/\ag w g (vg P src dst x).1 v:=by
 unfold vg at hc ⊢
 split at hc
 .
  rename_i k k' n hd
  obtain⟨d,hs⟩:=Yq.1 hc;rw[hx.v_inv];exact⟨.int k (k.wrap n),by simp[convert,run_underlying hs,run_underlying hd,Conv.intToInt],.v _⟩
 .
  rename_i s hd
  rw[hx.v_inv]
  split at hc
  .
   rename_i hs
   exact⟨_,by simp[convert,run_underlying hs,run_underlying hd],.v _⟩
  exact hc.elim
 .
  rename_i full rows hd
  obtain⟨h1,h2⟩:=hc;unfold TC at h1
  split at h1
  case h_2=>cases h1
  rename_i e hs
  split at h1
  case h_2=>cases h1
  rename_i he
  have key : ∀(a:Option Addr)(n c:Nat),vx = .slice a n c->(convert src dst vx).run P w=(Conv.bytesToString (.slice a n c)).run P w:=by
   intro a n c e;subst e;exact run_convert_bytes_string w src dst _ a n c hs he hd
  cases hx with
  | empty full a cap hf hm =>
   refine⟨_,?_,.v _⟩;rw[key _ _ _ rfl]
   cases a with
   | none=>simp[Conv.bytesToString];rfl
   | some a =>
    rw[run_bytesToString w a 0 cap [] (by have:=run_loadCells (P:=P) w a 0 (λ_=>undef) (λj hj=>by omega);simpa using this)]
    rfl
  | list full rows ad cap size cv hi hl hf hm hs' hcc hr =>
   have hrow : ∀i(hi:i<rows.length),∃n,rows[i]=[.v (.int .u8 n)]:=by
    intro i hi;have h3:=Yg.1 h2 rows[i] (Yp hi);unfold isByte at h3
    split at h3
    . exact⟨_,by assumption⟩
    cases h3
   have hex : ∀i,∃n,i<rows.length->rows[i]? = some [.v (.int .u8 n)]:=by
    intro i
    by_cases hi:i<rows.length
    . obtain⟨n,h⟩:=hrow i hi;exact⟨n,λ_=>by rw[X6 hi,h]⟩
    exact⟨0,λh=>absurd h hi⟩
   obtain⟨f,hf'⟩:∃f:Nat->Int,∀i,i<rows.length->rows[i]? = some [.v (.int .u8 (f i))]:=⟨λi=>Classical.choose (hex i),λi=>Zd (hex i)⟩
   refine⟨_,?_,.v _⟩;rw[key _ _ _ rfl];have hcell : ∀j,j<rows.length->w.cell? (ad.add j)=some (.int .u8 (f j)):=by
    intro j hj;have h4:=hf' j hj;have hsz:size=1:=by rw[<-hs' _ (X7 h4)];rfl
    obtain⟨h5,_⟩:=hcc j 0 _ _ h4 rfl;have h6:=(hr j 0 _ _ h4 rfl).v_inv;rw[hsz,Nat.mul_one,ZB,h6]at h5;exact h5
   have hload:=run_loadCells (P:=P) w ad rows.length (λj=>.int .u8 (f j)) hcell
   rw[run_bytesToString w ad rows.length cap ((List.range rows.length).map f) (by rw[hload,List.map_map];rfl)]
   congr 2
   have yN : ∀(l:List Int)(r:ByteArray),l.foldl (λr n=>r.push (UInt8.ofNat n.toNat)) r=⟨r.data++(l.map λn=>UInt8.ofNat n.toNat).toArray⟩:=by
    intro l
    induction l with
    | nil=>intro r;simp
    | cons n l ih =>
     intro r;rw[YB,ih]
     congr 1
     apply Zh
     simp[ByteArray.push]
   rw[yN]
   congr 1
   apply Zh
   have he2:ByteArray.empty.data = #[]:=rfl;rw[he2];simp only[Array.toList_append,XZ]
   apply List.ext_getElem?
   intro i
   by_cases hi:i<rows.length
   . have h4:=hf' i hi;have h5:(List.range rows.length)[i]? = some i:=List.getElem?_range hi;simp only[Ym,h4,h5,YP];rfl
   rw[Zt (by simp only[YY,List.length_range];omega),Zt (by simp only[YY];omega)]
 exact hc.elim
def ZbE{g:Mem}{w:World}{xs:List D}{vs:List Value}(hx:aG w g xs vs)(hc:(zR xs).2)(a:Array TypeId)(t:TypeId):∃v,(Builtin.min_ a t vs.toArray).run P w = .ok v w/\ag w g (zR xs).1 v:=by
 unfold zR at hc ⊢
 split at hc
 .
  obtain⟨x,l,rfl,h1,h2⟩:=hx.of_cons;obtain⟨y,l,rfl,h3,h4⟩:=h2.of_cons;rw[h4.of_nil,h1.v_inv,h3.v_inv];subst hc
  rename_i k a b
  refine⟨.int k (min a b),?_,.v _⟩;have e:(if b<a then b else a)=min a b:=by omega
  simp[Builtin.min_,Builtin.min2,e]
 exact hc.elim
def ZbJ{g:Mem}{w:World}{xs:List D}{vs:List Value}(hx:aG w g xs vs)(hc:(zS xs).2)(a:Array TypeId)(t:TypeId):∃v,(Builtin.max_ a t vs.toArray).run P w = .ok v w/\ag w g (zS xs).1 v:=by
 unfold zS at hc ⊢
 split at hc
 .
  obtain⟨x,l,rfl,h1,h2⟩:=hx.of_cons;obtain⟨y,l,rfl,h3,h4⟩:=h2.of_cons;rw[h4.of_nil,h1.v_inv,h3.v_inv];subst hc
  rename_i k a b
  refine⟨.int k (max a b),?_,.v _⟩;have e:(if a<b then b else a)=max a b:=by omega
  simp[Builtin.max_,Builtin.max2,e]
 exact hc.elim
theorem Zb3 [aa P]{g:Mem}{w:World}{t ty:TypeId}{x:D}{vx:Value}(hx:ag w g x vx)(hc:sQ P t x=true):(Builtin.len_ #[t] ty #[vx]).run P w = .ok (.int .i64 (bq x)) w:=by
 unfold sQ at hc
 split at hc
 .
  obtain⟨e,he⟩:=Yq.1 hc
  cases hx with
  | empty=>simp[Builtin.len_,run_underlying (nS he),goInt,bq]
  | list=>simp[Builtin.len_,run_underlying (nS he),goInt,bq]
 .
  obtain⟨e,he⟩:=Yq.1 hc
  cases hx with|mrow _ _ _ _ fV hU hv =>
  obtain⟨a,c,rfl,_⟩:=fV
  simp[Builtin.len_,run_underlying (nS he),goInt,bq]
 .
  rename_i s
  have hu:P.underlying t=some .string:=by split at hc<;>simp_all
  rw[hx.v_inv]
  simp[Builtin.len_,run_underlying hu,goInt,bq]
 cases hc
def AU(w:World)(g:Mem)(o:Option D)(vo:Option Value):Prop:=match o,vo with|some x,some v=>ag w g x v|none,none=>True|_,_=>False
def wM(vo:Option Value)(d y:Nat)(code:BoundsCode):Sem Nat:=match vo with|some v=>Instr.sliceBound v y code|none=>pure d
def r9 [aa P]{o:Option D}{vo:Option Value}{d:Nat}{y:Nat}{w:World}{g:Mem}(hr:AU w g o vo)(hk:y9 o=true)(h0:0<=bnd o d)(hle:bnd o d<=y)(code:BoundsCode) :
  (wM vo d y code).run P w = .ok (bnd o d).toNat w:=by
 unfold AU at hr
 split at hr
 .
  rename_i x v
  unfold y9 at hk
  split at hk
  . rename_i e;cases e
  .
   rename_i k n e
   cases e
   rw[hr.v_inv];simp only[bnd]at h0 hle ⊢
   simp[wM,Instr.sliceBound,asIntOf,h0,hle]
  cases hk
 . simp[wM,bnd]
 exact hr.elim
theorem Gf [aa P]{b:Bool}{len cap l h:Nat}{vl vh:Option Value}{w:World}(c1:(wM vh len cap (if b then .sliceAcap else .sliceAlen)).run P w = .ok h w)(c2:(wM vl 0 h .sliceB).run P w = .ok l w) :
  (Instr.sliceBounds b len cap vl vh none).run P w = .ok (l,h,cap) w:=by
 cases vh<;>cases vl<;>simp_all [Instr.sliceBounds,wM]
def Zf1 [aa P]{b:Bool}{len cap l h m:Nat}{vl:Option Value}{vh vm:Value}{w:World}(c0:(Instr.sliceBound vm cap (if b then .slice3Acap else .slice3Alen)).run P w = .ok m w)(c1:(Instr.sliceBound vh m .slice3B).run P w = .ok h w)(c2:(wM vl 0 h .slice3C).run P w = .ok l w) :
  (Instr.sliceBounds b len cap vl (some vh) (some vm)).run P w = .ok (l,h,m) w:=by
 cases vl<;>simp_all [Instr.sliceBounds,wM]
def Dy [aa P]{t e:TypeId}(hu:P.underlying t=some (.slice e))(he:0<P.cellsOf e){a:Option Addr}{len cap l h m:Nat}{vl vh vm:Option Value}{w:World}(hb:(Instr.sliceBounds true len cap vl vh vm).run P w = .ok (l,h,m) w) :
  (Instr.sliceAt t (.slice a len cap) vl vh vm).run P w = .ok (.slice (if m=l then a else a.map (·.add (l*P.cellsOf e))) (h-l) (m-l)) w:=by
 simp[Instr.sliceAt,Instr.slice,run_underlying hu,hb,mU he]
theorem O8{w:World}{g:Mem}{full:Bool}{rows:List (List D)}{ao:Option Addr}{len cap e:Nat}(hx:ag w g (.list full rows) (.slice ao len cap))(he:0<e)(hs : ∀r∈rows,r.length=e)(lo hi m:Nat)(h1:lo<=hi)(h2:hi<=rows.length)(h3:hi<=m)(h4:m<=cap)(f:Bool)(hf:f=true->m=hi) :
  ag w g (.list f ((rows.take hi).drop lo)) (.slice (if m=lo then ao else ao.map (·.add (lo*e))) (hi-lo) (m-lo)):=by
 by_cases hz:(rows.take hi).drop lo=[]
 .
  rw[hz];have hlen:hi-lo=0:=by
   have:=congrArg List.length hz;simp at this;omega
  have hm:cap<=maxLen:=by cases hx<;>assumption
  rw[hlen];exact .empty f _ _ (λh=>by have:=hf h;omega) om
 cases hx with
 | empty=>simp at hz
 | list full rows ad cap size cv hI hl nO hmx hss hcc hr =>
  have hlt:lo<hi:=by
   rcases Zv lo hi with h|h
   . exact h
   exfalso;apply hz;apply YU;simp;omega
  rw[XW (by omega)]
  have hse:size=e:=by
   have h0:0<rows.length:=by omega
   rw[<-hss rows[0] (by simp),hs rows[0] (by simp)]
  subst hse;have hlen:hi-lo=((rows.take hi).drop lo).length:=by simp;omega
  rw[hlen];have hg : ∀(i:Nat)r,((rows.take hi).drop lo)[i]? = some r->rows[lo+i]? = some r:=by
   intro i r hir;rw[YO,Y6]at hir
   split at hir
   . exact hir
   cases hir
  refine .list f _ _ _ size (λi j=>cv (lo+i) j) (by rw[block_add];exact hI) (by omega) (λh=>by have:=hf h;omega) (by omega) (λr hr=>hs r (List.mem_of_mem_take (List.mem_of_mem_drop hr))) (λi j r d h5 h6=>?_) (λi j r d h5 h6=>hr _ _ _ _ (hg i r h5) h6)
  have:=hcc _ _ _ _ (hg i r h5) h6;rw[add_add'];have e2:lo*size+(i*size+j)=(lo+i)*size+j:=by rw[Ze];omega
  rw[e2];exact this
theorem V8 [aa P]{h:H}{g:Mem}{w:World}(hm:HM P h g w){t:TypeId}{x:D}{l hh m:Option D}{vx:Value}{vl vh vm:Option Value}(hx:ag w g x vx)(hl:AU w g l vl)(hh':AU w g hh vh)(hmm:AU w g m vm)(hc:(mR P t x l hh m h).2) :
  ∃v,(Instr.sliceAt t vx vl vh vm).run P w = .ok v w/\ag w g (mR P t x l hh m h).1 v:=by
 unfold mR at hc ⊢
 split at hc
 case h_4=>exact hc.elim
 case h_1 s =>
  obtain⟨⟨b1,b2,b3,b4,b5,b6⟩,rfl,hu⟩:=hc;rw[hx.v_inv]
  cases vm with
  | some v=>exact hmm.elim
  | none =>
  simp only[bq]at b4 b5 b6 ⊢;have r2:=r9 (P:=P) (d:=s.size) (y:=s.size) hh' b2 (by omega) (by omega) (if false then .sliceAcap else .sliceAlen)
  have r1:=r9 (P:=P) (d:=0) (y:=(bnd hh s.size).toNat) hl b1 b4 (by omega) .sliceB
  exact⟨_,by simp[Instr.sliceAt,Instr.slice,run_underlying hu,Gf r2 r1],.v _⟩
 case h_2 full rows =>
  cases he:aZ P t with
  | none=>rw[he]at hc;exact hc.elim
  | some e =>
  rw[he]at hc;simp only at hc ⊢;have hu:=nS he;simp only[bq]at hc ⊢;have hv : ∃a cap,vx = .slice a rows.length cap/\rows.length<=cap/\cap<=maxLen/\(full=true->cap=rows.length):=by
   cases hx with
   | empty full a cap hf hmx=>exact⟨a,cap,rfl,Yl _,hmx,hf⟩
   | list full rows ad cap size cv hI hll hf hmx hs' hc' hr'=>exact⟨_,cap,rfl,hll,hmx,hf⟩
  obtain⟨a,cap,rfl,v1,v2,v3⟩:=hv
  cases m with
  | none =>
   simp only at hc ⊢;obtain⟨⟨b1,b2,b3,b4,b5,b6⟩,c2,c3⟩:=hc
   cases vm with
   | some v=>exact hmm.elim
   | none =>
   have r2:=r9 (P:=P) (d:=rows.length) (y:=cap) hh' b2 (by omega) (by omega) (if true then .sliceAcap else .sliceAlen)
   have r1:=r9 (P:=P) (d:=0) (y:=(bnd hh rows.length).toNat) hl b1 b4 (by omega) .sliceB
   refine⟨_,Dy hu c2 (Gf r2 r1),?_⟩;refine O8 hx c2 c3 _ _ cap om om om (X4 _) _ λhf=>?_
   simp only[XT,Yx]at hf;have:=v3 hf.1;omega
  | some dm =>
   simp only at hc ⊢;obtain⟨⟨b1,b2,b3,b4,b5,b6⟩,c0,c1,c2,c3⟩:=hc
   cases vm with
   | none=>exact hmm.elim
   | some vm =>
   obtain⟨dh,rfl⟩:=Yq.1 c0
   cases vh with
   | none=>exact hh'.elim
   | some vh =>
   have r3:=r9 (P:=P) (d:=0) (y:=cap) hmm b3 (by omega) (by omega) (if true then .slice3Acap else .slice3Alen)
   have r2:=r9 (P:=P) (d:=rows.length) (y:=(bnd (some dm) 0).toNat) hh' b2 (by omega) (by omega) .slice3B
   have r1:=r9 (P:=P) (d:=0) (y:=(bnd (some dh) rows.length).toNat) hl b1 b4 (by omega) .slice3C
   refine⟨_,Dy hu c2 (Zf1 r3 r2 r1),?_⟩;exact O8 hx c2 c3 _ _ _ om om om om _ λhf=>by omega
 case h_3 r off len =>
  cases he:aZ P t with
  | none=>rw[he]at hc;exact hc.elim
  | some e =>
  rw[he]at hc;simp only at hc ⊢;have hu:=nS he;simp only[bq]at hc ⊢;obtain⟨⟨b1,b2,b3,b4,b5,b6⟩,rfl,c2,c3⟩:=hc
  cases hr:h r with
  | none=>rw[hr]at c3;exact c3.elim
  | some bl =>
  rw[hr]at c3;simp only at c3;subst c3
  cases vm with
  | some v=>exact hmm.elim
  | none =>
  cases hx with|mrow _ _ _ _ fV hU hv =>
  obtain⟨a,c,rfl,h1,h2⟩:=fV;have r2:=r9 (P:=P) (d:=len) (y:=c) hh' b2 (by omega) (by omega) (if true then .sliceAcap else .sliceAlen)
  have r1:=r9 (P:=P) (d:=0) (y:=(bnd hh len).toNat) hl b1 b4 (by omega) .sliceB
  refine⟨_,Dy hu c2 (Gf r2 r1),?_⟩;have e1:(bnd hh len).toNat-(bnd l 0).toNat=(bnd hh len-bnd l 0).toNat:=by omega
  rw[e1];refine .mrow r _ _ _ ⟨_,_,rfl,om,λhlt=>?_⟩ hU λblk c' sz hM=>?_
  .
   obtain⟨p,rfl⟩:=h2 om
   split
   . exact⟨p,rfl⟩
   exact⟨_,rfl⟩
  obtain⟨q1,q2⟩:=hv _ _ _ hM;obtain⟨blk',c'',q5, -⟩:=hm.blk r bl hr;rw[hM]at q5;simp only[XU,Yu]at q5
  rcases q2 with⟨rfl,a',q2⟩|⟨q2,b,rfl,q3⟩
  .
   simp only[Value.slice.injEq]at q2;obtain⟨rfl,rfl,rfl⟩:=q2;have z1:(bnd l 0).toNat=0:=by omega
   have z2:(bnd hh 0-bnd l 0).toNat=0:=by omega
   exact⟨om,.inl ⟨om,_,by rw[z1,z2]⟩⟩
  simp only[Value.slice.injEq]at q3;obtain⟨rfl,_,rfl⟩:=q3;refine⟨om,?_⟩
  by_cases hcl:c'-off=(bnd l 0).toNat
  .
   refine .inl ⟨om,some ⟨b,off*sz,none⟩,?_⟩;rw[XY hcl];have z2:(bnd hh len-bnd l 0).toNat=0:=by omega
   rw[z2,hcl,Zu]
  refine .inr ⟨om,b,rfl,?_⟩;rw[XW hcl,q5.2.2];simp only[YP,kT,<-Ze];rw[Nat.sub_sub]
variable [Dr]
theorem HM.still [aa P]{h:H}{g:Mem}{w:World}(hm:HM P h g w)(o:Obj) :
  HM P h { g with I:=λb=>g.I b\/b=w.heap.size } (w.alloc o)/\aB g { g with I:=λb=>g.I b\/b=w.heap.size } w (w.alloc o):=by
 have mono:aB g { g with I:=λb=>g.I b\/b=w.heap.size } w (w.alloc o) :=
  ⟨rfl,rfl,rfl,by simp,λ_=>X4 _,λ_ h=>h,λ_ _=>.inl rfl,λr b c s h=>.inl ⟨r,c,s,h⟩,λ_ h=>.inl h,λb h=>by rcases h with h|rfl;exact .inl h;exact .inr (.inl (X4 _)),λb hb _=>Below.heap_alloc w o b hb⟩
 refine⟨⟨hm.dead,λr bl hr=>?_,hm.inj,hm.used,λb hb=>?_,hm.gr.later (hm.kept mono)⟩,mono⟩
 .
  obtain⟨blk,c,h1,h2,h3,h4,h5⟩:=hm.blk r bl hr;refine⟨blk,c,h1,h2,h3,h4,?_⟩
  rcases h5 with h5|⟨b,cur,rfl,h6,h7,h8,h9⟩
  . exact .inl h5
  have hlt:=(lT hm h1).1;refine .inr ⟨b,cur,rfl,by rw[Below.heap_alloc w o b hlt];exact h6,h7,λhI=>?_,λi row hi=>?_⟩
  .
   rcases hI with hI|hI
   . exact h8 hI
   omega
  obtain⟨k1,k2⟩:=h9 i row hi;refine⟨k1,λj d hd=>?_⟩
  obtain⟨u,k3,k4,k5⟩:=k2 j d hd;exact⟨u,k3,k4,k5.later hm mono⟩
 rcases hb with hb|rfl
 . have:=hm.imm b hb;simp;omega
 simp
theorem MR{n:Nat}:∀{ps:List (Nat×Operand)}{xs:List D}{i:Nat},uu n i ps xs->ps.map (·.1)=List.range' i ps.length/\xs.length=ps.length /\ ∀x∈xs,x.cells.length=n/\x.cells.all D.one=true:=by
 intro ps
 induction ps with
 | nil=>intro xs i h;cases xs<;>simp_all [uu]
 | cons p ps ih =>
  intro xs i h
  cases xs with
  | nil=>simp[uu]at h
  | cons x xs =>
   obtain⟨h1,h2,h3,h4⟩:=h;obtain⟨k1,k2,k3⟩:=ih h4;refine⟨by simp[h1,k1,Zi],by simp[k2],λy hy=>?_⟩
   rcases Yz.1 hy with rfl|hy
   . exact⟨h2,h3⟩
   exact k3 y hy
theorem ZfW [aa P]{h:H}{g:Mem}{w:World}(hm:HM P h g w){t:TypeId}{len:Nat}{ps:Array (Nat×Operand)}{xs:List D}{vs:List Value}(hr:aG w g xs vs)(hc:(vz P t len ps.toList xs).2)(ρ:Operand->Value)(hρ:ps.toList.map (λp=>ρ p.2)=vs) :
  ∃v g' w',(Instr.buildSlice t len (ps.map λ(i,x)=>(i,ρ x))).run P w = .ok v w'/\ag w' g' (vz P t len ps.toList xs).1 v/\HM P h g' w'/\aB g g' w w' /\ ∀r,g'.U r->g.U r:=by
 unfold vz at hc ⊢
 cases he:aZ P t with
 | none=>rw[he]at hc;exact hc.elim
 | some e =>
 rw[he]at hc
 simp only at hc ⊢
 have hu:=nS he
 obtain⟨c1,c2,c3,c4,c5⟩:=hc
 obtain⟨ie,hie,hs⟩:=wW c3
 obtain⟨k1,k2,k3⟩:=MR c2
 have hvl:vs.length=len:=by rw[<-hr.1,k2,c1]
 have hparts:(ps.map λ(i,x)=>(i,ρ x)).toList=(vs.zipIdx 0).map λx=>(x.2,x.1):=by
  apply List.ext_getElem?
  intro i;simp only[Array.toList_map,Ym,List.getElem?_zipIdx,<-hρ]
  cases hp:ps.toList[i]? with
  | none=>simp
  | some p =>
   have:(ps.toList.map (·.1))[i]? = some p.1:=by simp only[Ym,hp,YP]
   rw[k1]at this;have hil:i<ps.toList.length:=(X0.1 hp).1;rw[List.getElem?_range' (by omega)]at this
   simp at this
   simp[this]
 obtain⟨z,hz⟩:∃z,ie.zero=some z:=by
  unfold dJ at c5
  cases hz:ie.zero with
  | none=>simp[hie,hz]at c5
  | some z=>exact⟨z,rfl⟩
 obtain⟨hm',mono⟩:=hm.still (.cells #[] e)
 by_cases h0:len=0
 .
  subst h0;have hx0:xs=[]:=Yf om;subst hx0;have hp0:ps = #[]:=by
   have:ps.toList=[]:=Yf c1
   simpa using this
  subst hp0;refine⟨.slice (some ⟨w.heap.size,0,none⟩) 0 0,_,_,?_,.empty true _ 0 (λ_=>rfl) (by simp[maxLen]),hm',mono,λ_ h=>h⟩
  have e0:(Array.range 0).map (λ_=>(default:Value)) = #[]:=by apply Zh;simp
  simp[Instr.buildSlice,run_underlying hu,mU c3,Instr.fill,newRow,e0]
 obtain⟨r,f1,f2,f3⟩:=Go.Great.fill_dense (s:=ie.size) om vs 0 ((Array.range (len*ie.size)).map (z.cells[· % z.cells.size]!)) (λv hv=>by
  obtain⟨i,hi,rfl⟩:=YN hv;have hxi:i<xs.length:=by omega
  obtain⟨q1,q2⟩:=k3 xs[i] (Yp hxi);rw[((hr.2 i xs[i] vs[i] (by simp) (by simp)).cells q2).2.2,q1,hs]) (by simp[hvl])
 have hrun:=run_buildSlice (P:=P) w t e len (ps.map λ(i,x)=>(i,ρ x)) r ie z hu hie hz (by rw[hs];omega) (by rw[hs];exact Nat.mul_ne_zero h0 (by omega)) (by rw[hparts];exact f1)
 obtain⟨hm',mono⟩:=hm.still (.cells r e)
 have hlen:len=(xs.map D.cells).length:=by simp;omega
 refine⟨_,_,_,hrun,?_,hm',mono,λ_ h=>h⟩
 have key : ∀(i j:Nat)row d,(xs.map D.cells)[i]? = some row->row[j]? = some d -> ∃u,r[i*P.cellsOf e+j]? = some u/\u.oneCell'=true/\ag w g d u:=by
  intro i j row d hi hj;rw[Ym]at hi
  cases hxi:xs[i]? with
  | none=>rw[hxi]at hi;cases hi
  | some x =>
   rw[hxi]at hi;simp only[YP,XU]at hi;subst hi;have hil:i<xs.length:=(X0.1 hxi).1;have Cj:i<vs.length:=by omega
   obtain⟨q1,q2⟩:=k3 x (X7 hxi);obtain⟨q3,q4,q5⟩:=(hr.2 i x vs[i] hxi (by simp)).cells q2
   have hjl:j<P.cellsOf e:=by have:=(X0.1 hj).1;omega
   have hjv:j<vs[i].cells.toList.length:=by simp;omega
   refine⟨vs[i].cells.toList[j],?_,q4 _ (Yp hjv),q3.2 j d _ hj (by simp)⟩
   rw[f3,XY ⟨om,by rw[Nat.zero_add,hs];exact Ab Cj hjl⟩,hs]
   have e1:(i*P.cellsOf e+j) / P.cellsOf e=i:=by rw[Zx,Nat.mul_add_div c3,Nat.div_eq_of_lt hjl];rfl
   have e2:(i*P.cellsOf e+j) % P.cellsOf e=j:=by rw[Zx,ZP,Zy hjl]
   rw[e1,e2,Nat.sub_zero,X6 Cj]
   simp
 have hex : ∀i j,∃u,∀row d,(xs.map D.cells)[i]? = some row->row[j]? = some d->r[i*P.cellsOf e+j]? = some u/\u.oneCell'=true/\ag w g d u:=by
  intro i j
  by_cases hh : ∃row d,(xs.map D.cells)[i]? = some row/\row[j]? = some d
  .
   obtain⟨row,d,h1,h2⟩:=hh;obtain⟨u,h3,h4,h5⟩:=key i j row d h1 h2;refine⟨u,λrow' d' h1' h2'=>?_⟩
   rw[h1]at h1';cases h1'
   rw[h2]at h2';cases h2'
   exact⟨h3,h4,h5⟩
  exact⟨undef,λrow d h1 h2=>absurd ⟨row,d,h1,h2⟩ hh⟩
 generalize hf:(λi j=>Classical.choose (hex i j))=cf
 have hcf : ∀i j row d,(xs.map D.cells)[i]? = some row->row[j]? = some d->r[i*P.cellsOf e+j]? = some (cf i j)/\(cf i j).oneCell'=true/\ag w g d (cf i j):=by
  intro i j;rw[<-hf];exact Zd (hex i j)
 rw[hlen]
 refine .list true _ ⟨w.heap.size,0,none⟩ _ (P.cellsOf e) cf (.inr rfl) (X4 _) (λ_=>rfl) ?_ (λrow hrow=>?_) (λi j row d h1 h2=>?_) (λi j row d h1 h2=>?_)
 . rw[<-hlen];simp only[maxLen];have:len<=len*P.cellsOf e:=Nat.le_mul_of_pos_right _ c3;omega
 . simp only[Yi]at hrow;obtain⟨x,hx,rfl⟩:=hrow;exact(k3 x hx).1
 . obtain⟨h3,h4,_⟩:=hcf i j row d h1 h2;refine⟨?_,h4⟩;rw[kT,Nat.zero_add,cell_of_row _ _ _ r e (0,0) (heap_alloc_new w _)];exact h3
 exact(hcf i j row d h1 h2).2.2.later hm mono
theorem ZfY [aa P]{h:H}{g:Mem}{w:World}(hm:HM P h g w){b:Nat}(hb : ¬g.U b){t:TypeId}{len:Nat}{ps:Array (Nat×Operand)}{xs:List D}{vs:List Value}(hr:aG w g xs vs)(hc:(lL P t len ps.toList xs h b).2.2)(ρ:Operand->Value)(hρ:ps.toList.map (λp=>ρ p.2)=vs) :
  ∃v g' w',(Instr.buildSlice t len (ps.map λ(i,x)=>(i,ρ x))).run P w = .ok v w'/\ag w' g' (lL P t len ps.toList xs h b).1 v/\HM P (lL P t len ps.toList xs h b).2.1 g' w'/\aB g g' w w' /\ ∀r,g'.U r->g.U r\/r=b:=by
 unfold lL at hc ⊢
 cases he:aZ P t with
 | none=>rw[he]at hc;exact hc.elim
 | some e =>
 rw[he]at hc
 simp only at hc ⊢
 have hu:=nS he
 obtain⟨c0,c1,c2,c3,c4,c5⟩:=hc
 have h0 : ¬len=0:=by omega
 obtain⟨ie,hie,hs⟩:=wW c3
 obtain⟨k1,k2,k3⟩:=MR c2
 have hvl:vs.length=len:=by rw[<-hr.1,k2,c1]
 have hparts:(ps.map λ(i,x)=>(i,ρ x)).toList=(vs.zipIdx 0).map λx=>(x.2,x.1):=by
  apply List.ext_getElem?
  intro i;simp only[Array.toList_map,Ym,List.getElem?_zipIdx,<-hρ]
  cases hp:ps.toList[i]? with
  | none=>simp
  | some p =>
   have:(ps.toList.map (·.1))[i]? = some p.1:=by simp only[Ym,hp,YP]
   rw[k1]at this;have hil:i<ps.toList.length:=(X0.1 hp).1;rw[List.getElem?_range' (by omega)]at this
   simp at this
   simp[this]
 obtain⟨z,hz⟩:∃z,ie.zero=some z:=by
  unfold dJ at c5
  cases hz:ie.zero with
  | none=>simp[hie,hz]at c5
  | some z=>exact⟨z,rfl⟩
 obtain⟨r,f1,f2,f3⟩:=Go.Great.fill_dense (s:=ie.size) om vs 0 ((Array.range (len*ie.size)).map (z.cells[· % z.cells.size]!)) (λv hv=>by
  obtain⟨i,hi,rfl⟩:=YN hv;have hxi:i<xs.length:=by omega
  obtain⟨q1,q2⟩:=k3 xs[i] (Yp hxi);rw[((hr.2 i xs[i] vs[i] (by simp) (by simp)).cells q2).2.2,q1,hs]) (by simp[hvl])
 have hrun:=run_buildSlice (P:=P) w t e len (ps.map λ(i,x)=>(i,ρ x)) r ie z hu hie hz (by rw[hs];omega) (by rw[hs];exact Nat.mul_ne_zero h0 (by omega)) (by rw[hparts];exact f1)
 have key : ∀(i j:Nat)row d,(xs.map D.cells)[i]? = some row->row[j]? = some d -> ∃u,r[i*P.cellsOf e+j]? = some u/\u.oneCell'=true/\ag w g d u:=by
  intro i j row d hi hj;rw[Ym]at hi
  cases hxi:xs[i]? with
  | none=>rw[hxi]at hi;cases hi
  | some x =>
   rw[hxi]at hi;simp only[YP,XU]at hi;subst hi;have hil:i<xs.length:=(X0.1 hxi).1;have Cj:i<vs.length:=by omega
   obtain⟨q1,q2⟩:=k3 x (X7 hxi);obtain⟨q3,q4,q5⟩:=(hr.2 i x vs[i] hxi (by simp)).cells q2
   have hjl:j<P.cellsOf e:=by have:=(X0.1 hj).1;omega
   have hjv:j<vs[i].cells.toList.length:=by simp;omega
   refine⟨vs[i].cells.toList[j],?_,q4 _ (Yp hjv),q3.2 j d _ hj (by simp)⟩
   rw[f3,XY ⟨om,by rw[Nat.zero_add,hs];exact Ab Cj hjl⟩,hs]
   have e1:(i*P.cellsOf e+j) / P.cellsOf e=i:=by rw[Zx,Nat.mul_add_div c3,Nat.div_eq_of_lt hjl];rfl
   have e2:(i*P.cellsOf e+j) % P.cellsOf e=j:=by rw[Zx,ZP,Zy hjl]
   rw[e1,e2,Nat.sub_zero,X6 Cj]
   simp
 have hlen:len=(xs.map D.cells).length:=by simp;omega
 have hmx:len<=maxLen:=by
  simp only[maxLen];have:len<=len*P.cellsOf e:=Nat.le_mul_of_pos_right _ c3;omega
 obtain⟨g',h2,h3,h4,h5,h6⟩:=hm.put (h':=upd h b (some ⟨e,xs.map D.cells⟩)) (w':=w.alloc (.cells r e)) b w.heap.size len ⟨e,xs.map D.cells⟩ r (.inl hb) (bK _ _ _)
  (λr hr=>.inl (aL _ _ _ _ hr)) (.inl (X4 _)) (heap_alloc_new w _) (by simp only[<-hs];simpa using f2) c3 (by simp only;omega) hmx (λi row hi=>by
   have hi':=hi;simp only[Ym]at hi'
   cases hxi:xs[i]? with
   | none=>rw[hxi]at hi';cases hi'
   | some x =>
    rw[hxi]at hi';simp only[YP,XU]at hi';subst hi';exact⟨(k3 x (X7 hxi)).1,λj d hj=>key i j _ d hi hj⟩) (World.grownBy_alloc w _ _)
 refine⟨_,g',_,hrun,?_,h5,h6,λr hr=>(h3 r).1 hr⟩
 refine .mrow b 0 len _ ⟨some ⟨w.heap.size,0,none⟩,len,rfl,X4 _,λ_=>⟨_,rfl⟩⟩ ((h3 b).2 (.inr rfl)) λblk c sz he=>?_
 rw[h2]at he
 simp only[XU,Yu]at he
 obtain⟨rfl,rfl,rfl⟩:=he
 exact⟨om,.inr ⟨om,w.heap.size,rfl,by simp⟩⟩
def partAt(P:Program)[aa P](s:TypeId)(f:Nat):Option (Nat×Nat):=match bM P s f with
 | some (off,t)=>some (off,P.cellsOf t)
 | none=>match lQ P s with
  | some (_,e)=>some (f*P.cellsOf e,P.cellsOf e)
  | none=>none
theorem Zdn [aa P]{s:TypeId}{f:Nat}{o:Operand}{ps:List (Nat×Operand)}{x:D}{xs cs:List D}:uU P s ((f,o)::ps) (x::xs) cs=match partAt P s f with
  | some (off,_)=>uU P s ps xs (splice cs off x.cells)
  | none=>cs:=by
 conv=>lhs;unfold uU
 unfold partAt
 cases bM P s f with
 | some q=>rfl
 | none=>cases lQ P s<;>rfl
theorem Zdm [aa P]{s:TypeId}{n f:Nat}{o:Operand}{ps:List (Nat×Operand)}{x:D}{xs:List D}(h:tH P s n ((f,o)::ps) (x::xs)):(∃off m,partAt P s f=some (off,m)/\x.cells.length=m/\off+x.cells.length<=n)/\x.cells.all D.one=true/\tH P s n ps xs:=by
 unfold tH at h
 obtain⟨h1,h2,h3⟩:=h
 refine⟨?_,h2,h3⟩
 unfold partAt
 cases hf:bM P s f with
 | some q=>rw[hf]at h1;exact⟨_,_,rfl,h1.1,h1.2⟩
 | none =>
  rw[hf]at h1
  cases ha:lQ P s with
  | some q=>rw[ha]at h1;exact⟨_,_,rfl,h1.1,h1.2⟩
  | none=>rw[ha]at h1;exact h1.elim
theorem QR [aa P]{s:TypeId}{pl:Nat->Option (Nat×Nat)}(hpl : ∀f q,partAt P s f=some q->pl f=some q){w:World}{g:Mem}:∀(ps:List (Nat×Operand))(xs:List D)(vs:List Value)(cs:List D)(cells:Array Value)(ρ:Operand->Value),aG w g xs vs->ps.map (λp=>ρ p.2)=vs->aG w g cs cells.toList ->
  tH P s cs.length ps xs -> ∃r,Instr.fill pl cells (ps.map λ(i,x)=>(i,ρ x))=some r/\aG w g (uU P s ps xs cs) r.toList:=by
 intro ps
 induction ps with
 | nil=>intro xs vs cs cells ρ hx hρ hc hok;exact⟨cells,by simp[Instr.fill],by simpa[uU]using hc⟩
 | cons p ps ih =>
  intro xs vs cs cells ρ hx hρ hc hok;obtain⟨f,o⟩:=p;simp only[X9]at hρ;subst hρ
  cases xs with
  | nil=>simp[tH]at hok
  | cons x xs =>
   obtain⟨⟨off,m,hf,h4,h5⟩,h2,h3⟩:=Zdm hok;obtain⟨q1,q2,q3⟩:=hx.head.cells h2;have hfp:=hpl _ _ hf;have hcl:cs.length=cells.size:=by simpa using hc.1
   obtain⟨g1,g2⟩:=Go.Great.foldl_set off (ρ o).cells.toList 0 cells;generalize hnew:((ρ o).cells.toList.zipIdx 0).foldl (λcs(x:Value×Nat)=>cs.setIfInBounds (off+x.2) x.1) cells=new at g1 g2
   have hnl:new.toList=cells.toList.take off++(ρ o).cells.toList++cells.toList.drop (off+(ρ o).cells.toList.length):=by
    apply List.ext_getElem?
    intro k;rw[YL,g2];simp only[ZB,YW,Array.length_toList,q3];have l1:(cells.toList.take off).length=off:=by simp;omega
    have l2:(ρ o).cells.toList.length=x.cells.length:=by simp[q3]
    by_cases hk:k<off
    . rw[XW (by omega),Zb (by omega),Y6,XY hk];simp
    rw[YX (by omega),l1]
    by_cases hk2:k<off+x.cells.length
    . rw[XY (by omega),Zb (by omega)]
    rw[XW (by omega),YX (by omega),YO,YL,l2]
    congr 1;omega
   obtain⟨r,k1,k2⟩:=ih xs (ps.map λp=>ρ p.2) (splice cs off x.cells) new ρ hx.tail rfl (by rw[hnl];exact VR hc q1 off) (by rw[G5 _ _ _ h5];exact h3)
   refine⟨r,?_,by rw[Zdn,hf];exact k2⟩
   simp only[X9];unfold Instr.fill;simp only[hfp];rw[XW (by simp;omega),<-k1]
   congr 1
   rw[<-hnew,<-Array.foldl_toList,Array.toList_zipIdx]
theorem ZfV [aa P]{w:World}{g:Mem}{t:TypeId}{ps:Array (Nat×Operand)}{xs:List D}{vs:List Value}(hr:aG w g xs vs)(hc:(y8 P t ps.toList xs).2)(ρ:Operand->Value)(hρ:ps.toList.map (λp=>ρ p.2)=vs) :
  ∃v,(Instr.build t (ps.map λ(i,x)=>(i,ρ x))).run P w = .ok v w/\ag w g (y8 P t ps.toList xs).1 v:=by
 obtain⟨c1,c2,c3,c4⟩:=hc
 unfold ol at c4
 obtain⟨i,z,hi,hz⟩:=Gu c3
 obtain⟨z1,_,_⟩:=Df hi hz w g c2
 split at c4
 case h_3=>cases c4
 case h_1 =>
  rename_i fs hfs
  obtain⟨r,f1,f2⟩:=QR (pl:=λx=>(fs.toList.map λf=>(f.offset,P.cellsOf f.type)).toArray[x]?) (λf q hq=>by
   unfold partAt at hq;have ha:lQ P t=none:=by unfold lQ;rw[hfs]
   unfold bM at hq;rw[hfs,ha]at hq;simp only at hq
   cases nO:fs[f]? with
   | none=>rw[nO]at hq;cases hq
   | some fd=>rw[nO]at hq;simp only[YP,XU]at hq;rw[<-hq];simp[nO]) ps.toList xs vs (zeroCells P t) z.cells ρ hr hρ z1 c1
  refine⟨.agg r,run_build (P:=P) w t _ r ?_,.mk_agg f2⟩;unfold Program.built;have hp:fs.toList.mapM (λf=>(P.info? f.type).map λi=>(f.offset,i.size))=some (fs.toList.map λf=>(f.offset,P.cellsOf f.type)):=by
   have : ∀l:List Field,(l.all λf=>(P.info? f.type).isSome)=true->l.mapM (λf=>(P.info? f.type).map λi=>(f.offset,i.size))=some (l.map λf=>(f.offset,P.cellsOf f.type)):=by
    intro l
    induction l with
    | nil=>intro _;rfl
    | cons a l ih =>
     intro h;simp only[List.all_cons,XT]at h;obtain⟨ia,hia⟩:=Yq.1 h.1
     simp[List.mapM_cons,hia,ih h.2,Program.cellsOf]
   exact this _ c4
  simp only[hi,hfs,hz,hp];rw[<-f1]
  simp
 case h_2 =>
  rename_i m e hfs
  obtain⟨ie,hie⟩:=Yq.1 c4;have hce:P.cellsOf e=ie.size:=by simp[Program.cellsOf,hie]
  obtain⟨r,f1,f2⟩:=QR (pl:=λi=>some (i*ie.size,ie.size)) (λf q hq=>by
   unfold partAt at hq;have ha:lQ P t=some (m,e):=by unfold lQ;rw[hfs]
   unfold bM at hq;rw[hfs,ha]at hq;simp only[XU]at hq;rw[<-hq,hce]) ps.toList xs vs (zeroCells P t) z.cells ρ hr hρ z1 c1
  refine⟨.agg r,run_build (P:=P) w t _ r ?_,.mk_agg f2⟩;unfold Program.built;simp only[hi,hfs,hz,hie];rw[<-f1]
  simp
open Go.MapKept
theorem yB(e:MapEntry)(l:List MapEntry):(e::l).flatMap (λe=>[e.key,e.val])=e.key::e.val::l.flatMap λe=>[e.key,e.val]:=rfl
theorem I7 : ∀(l:List MapEntry)(j:Nat)(e:MapEntry),l[j]? = some e->(l.flatMap λe=>[e.key,e.val])[2*j]? = some e.key/\(l.flatMap λe=>[e.key,e.val])[2*j+1]? = some e.val
 | [],j,e,h=>by simp at h
 | e0::l,j,e,h=>by
  rw[yB]
  cases j with
  | zero=>simp at h;subst h;exact⟨rfl,rfl⟩
  | succ j =>
   have:=I7 l j e (by simpa using h)
   have e1:2*(j+1)=2*j+1+1:=by omega
   rw[e1]
   simpa using this
theorem Pp(f:MapEntry->MapEntry):∀(l:List MapEntry)(j:Nat)(e:MapEntry),l[j]? = some e->((l.modify j f).flatMap λe=>[e.key,e.val])=((l.flatMap λe=>[e.key,e.val]).set (2*j) (f e).key).set (2*j+1) (f e).val
 | [],j,e,h=>by simp at h
 | e0::l,j,e,h=>by
  cases j with
  | zero=>simp at h;subst h;simp
  | succ j =>
   have:=Pp f l j e (by simpa using h)
   have e1:2*(j+1)=2*j+1+1:=by omega
   rw[e1,List.modify_succ_cons,yB,yB,this]
   simp
theorem BJ{t kt e:TypeId}(h:lu P t=some (kt,e)):P.underlying t=some (.map kt e):=by
 unfold lu at h
 split at h
 . rename_i k e' hu;simp at h;rw[hu,h.1,h.2]
 cases h
def pY{t:TypeId}{d:D}(h:plainOf P t d=true):(∃k n,P.underlying t=some (.int k)/\d = .v (.int k n))\/(∃b,P.underlying t=some .bool/\d = .v (.bool b)) \/ ∃s,P.underlying t=some .string/\d = .v (.string s):=by
 unfold plainOf at h
 split at h
 . rename_i hu;exact .inr (.inr ⟨_,hu,rfl⟩)
 . rename_i hu;simp at h;subst h;exact .inl ⟨_,_,hu,rfl⟩
 . rename_i hu;exact .inr (.inl ⟨_,hu,rfl⟩)
 cases h
theorem TA{a b:ByteArray}(h:a.data.toList=b.data.toList):a=b:=by
 cases a;cases b
 simp at h
 rw[h]
theorem Q3{t:TypeId}{a b:D}(ha:plainOf P t a=true)(hb:plainOf P t b=true)(h:lI a b=true):a=b:=by
 rcases pY ha with⟨k,n,u1,rfl⟩|⟨x,u1,rfl⟩|⟨x,u1,rfl⟩<;>rcases pY hb with⟨k',n',u2,rfl⟩|⟨x',u2,rfl⟩|⟨x',u2,rfl⟩<;>rw[u1]at u2<;>simp at u2
 . subst u2;simp[lI]at h;rw[h]
 . simp[lI]at h;rw[h]
 simp only[lI,Yx]at h;rw[TA h]
def ZaM [aa P]{t:TypeId}{k:Kd}{a b:D}(hk:kindOf P t=some k)(ha:plainOf P t a=true)(hb:plainOf P t b=true):xZ k a b=true:=by
 rcases pY ha with⟨k1,n,u1,rfl⟩|⟨x,u1,rfl⟩|⟨x,u1,rfl⟩<;>rcases pY hb with⟨k2,n',u2,rfl⟩|⟨x',u2,rfl⟩|⟨x',u2,rfl⟩<;>rw[u1]at u2<;>simp at u2<;>simp[kindOf,u1]at hk<;>subst hk
 . subst u2;simp[xZ]
 . rfl
 rfl
theorem QZ [aa P]:∀(fs:List Field)(i:Nat)(ks:List Kd)(xs ys:List D),xk P i fs=some ks->jm P i fs xs=true->jm P i fs ys=true->nR ks xs ys=true/\(lH xs ys=true->xs=ys):=by
 intro fs
 induction fs with
 | nil =>
  intro i ks xs ys hk hx hy
  cases xs<;>cases ys<;>simp[jm]at hx hy
  simp[xk]at hk
  subst hk;exact⟨rfl,λ_=>rfl⟩
 | cons f fs ih =>
  intro i ks xs ys hk hx hy
  cases xs with
  | nil=>simp[jm]at hx
  | cons x xs =>
  cases ys with
  | nil=>simp[jm]at hy
  | cons y ys =>
  simp only[jm,XT]at hx hy;simp only[xk]at hk
  split at hk
  case isFalse=>cases hk
  split at hk
  case h_2=>cases hk
  rename_i k ks' h1 h2
  simp only[XU]at hk;subst hk;obtain⟨i1,i2⟩:=ih (i+1) ks' xs ys h2 hx.2 hy.2;refine⟨by simp only[nR,XT];exact⟨ZaM h1 hx.1.2 hy.1.2,i1⟩,λh=>?_⟩
  simp only[lH,XT]at h;rw[Q3 hx.1.2 hy.1.2 h.1,i2 h.2]
def uF{t:TypeId}{d:D}(h:jv P t d=true):(∃fs cs,P.underlying t=some (.struct fs)/\d = .agg cs/\jm P 0 fs.toList cs=true)\/plainOf P t d=true:=by
 unfold jv at h
 split at h
 . rename_i hu;exact .inl ⟨_,_,hu,rfl,h⟩
 exact .inr h
theorem D5{t:TypeId}{d:D}{fs:Array Field}(hu:P.underlying t=some (.struct fs)):plainOf P t d=false:=by
 unfold plainOf;rw[hu]
def Pv{t:TypeId}[aa P]{a b:D}(hty:nJ P t=true)(ha:jv P t a=true)(hb:jv P t b=true)(h:jS a b=true):a=b:=by
 rcases uF ha with⟨fs,xs,u1,rfl,p1⟩|p1
 .
  rcases uF hb with⟨fs',ys,u2,rfl,p2⟩|p2
  .
   rw[u1]at u2
   simp at u2
   subst u2;simp only[nJ,u1]at hty;obtain⟨ks,hks⟩:=Yq.1 hty;unfold rV at hks;rw[u1]at hks;simp only at hks
   split at hks
   case isFalse=>cases hks
   rw[(QZ fs.toList 0 ks xs ys hks p1 p2).2 h]
  rw[D5 u1]at p2;cases p2
 rcases uF hb with⟨fs',ys,u2,rfl,p2⟩|p2
 . rw[D5 u2]at p1;cases p1
 refine Q3 p1 p2 ?_
 rcases pY p1 with⟨k,n,_,rfl⟩|⟨x,_,rfl⟩|⟨x,_,rfl⟩<;>rcases pY p2 with⟨k',n',_,rfl⟩|⟨x',_,rfl⟩|⟨x',_,rfl⟩<;>exact h
def DT{t:TypeId}{w:World}{g:Mem}{d:D}{v:Value}(h:plainOf P t d=true)(hr:ag w g d v):d = .v v:=by
 rcases pY h with⟨k,n,_,rfl⟩|⟨x,_,rfl⟩|⟨x,_,rfl⟩<;>rw[hr.v_inv]
theorem M7 : ∀{fs:List Field}{i:Nat}{ds:List D}{w w':World}{g g':Mem}{vs us:List Value},jm P i fs ds=true->aG w g ds vs->aG w' g' ds us->vs=us
 | fs,i,[],w,w',g,g',vs,us,_,h1,h2=>by rw[h1.of_nil,h2.of_nil]
 | [],i,d::ds,_,_,_,_,_,_,h,_,_=>by simp[jm]at h
 | f::fs,i,d::ds,w,w',g,g',vs,us,h,h1,h2=>by
  obtain⟨x,xs,rfl,a1,a2⟩:=h1.of_cons;obtain⟨y,ys,rfl,b1,b2⟩:=h2.of_cons;simp only[jm,XT]at h;have e1:=DT h.1.2 a1;have e2:=DT h.1.2 b1;rw[e1]at e2
  cases e2
  rw[M7 h.2 a2 b2]
def Pt{t:TypeId}{w w':World}{g g':Mem}{d:D}{v u:Value}(h:jv P t d=true)(hv:ag w g d v)(hu:ag w' g' d u):v=u:=by
 rcases uF h with⟨fs,xs,_,rfl,p⟩|p
 .
  cases hv with|agg _ vs n1 r1 =>
  cases hu with|agg _ us n2 r2 =>
  have:=M7 p (vs:=vs.toList) (us:=us.toList) ⟨by simpa using n1,λi d x h1 h2=>r1 i d x h1 (by simpa using h2)⟩ ⟨by simpa using n2,λi d x h1 h2=>r2 i d x h1 (by simpa using h2)⟩
  rw[Array.toList_inj.1 this]
 have e1:=DT p hv
 have e2:=DT p hu
 rw[e1]at e2
 cases e2
 rfl
def Nv{t:TypeId}{w:World}{g:Mem}{d:D}{v:Value}(h:plainOf P t d=true)(hr:ag w g d v)(n:Nat):Instr.sameBits n v v=true:=by
 rcases pY h with⟨k,m,_,rfl⟩|⟨x,_,rfl⟩|⟨x,_,rfl⟩<;>rw[hr.v_inv]<;>simp[Instr.sameBits,bytes_beq]
theorem Zck{t:TypeId}{w:World}{g:Mem}{d:D}{v:Value}(h:jv P t d=true)(hr:ag w g d v)(n:Nat):Instr.sameBits (n+1) v v=true:=by
 rcases uF h with⟨fs,xs,_,rfl,p⟩|p
 .
  cases hr with|agg _ vs n1 r1 =>
  have key : ∀(fs:List Field)(i:Nat)(ds:List D)(vs:List Value),jm P i fs ds=true->aG w g ds vs -> ∀q∈vs.zip vs,Instr.sameBits n q.1 q.2=true:=by
   intro fs
   induction fs with
   | nil=>intro i ds vs h hr q hq;cases ds with
    | nil=>rw[hr.of_nil]at hq;simp at hq
    | cons=>simp[jm]at h
   | cons f fs ih =>
    intro i ds vs h hr q hq
    cases ds with
    | nil=>simp[jm]at h
    | cons d ds =>
    obtain⟨x,xs,rfl,a1,a2⟩:=hr.of_cons;simp only[jm,XT]at h
    rcases Yz.1 hq with rfl|hq
    . exact Nv h.1.2 a1 n
    exact ih (i+1) ds xs h.2 a2 q hq
  have:=key fs.toList 0 xs vs.toList p ⟨by simpa using n1,λi d x h1 h2=>r1 i d x h1 (by simpa using h2)⟩
  simp only[Instr.sameBits,beq_self_eq_true,Zl,Yg];exact λq hq=>this q hq
 exact Nv p hr _
def Tt{t:TypeId}{w:World}{g:Mem}{d:D}{v:Value}(h:plainOf P t d=true)(hr:ag w g d v)(em:Bool)(n:Nat):(Instr.checkKey em (n+1) t v).run P w = .ok () w:=by
 rcases pY h with⟨k,m,u,rfl⟩|⟨x,u,rfl⟩|⟨x,u,rfl⟩<;>rw[hr.v_inv]<;>simp[Instr.checkKey,run_underlying u]
def ZaU{t:TypeId}{w:World}{d:D}(h:plainOf P t d=true){vs:Array Value}{v:Value}{i:Nat}(hv:vs[i]? = some v):(part t vs i).run P w = .ok v w:=by
 have hu : ∃q,P.underlying t=some q/\(q = .bool\/q = .string \/ ∃k,q = .int k):=by
  rcases pY h with⟨k,m,u,rfl⟩|⟨x,u,rfl⟩|⟨x,u,rfl⟩
  . exact⟨_,u,.inr (.inr ⟨_,rfl⟩)⟩
  . exact⟨_,u,.inl rfl⟩
  exact⟨_,u,.inr (.inl rfl)⟩
 obtain⟨q,u,hq⟩:=hu
 have hagg:(isAgg t).run P w = .ok false w:=by
  unfold isAgg;rw[Sem.run_bind,run_underlying u w]
  rcases hq with rfl|rfl|⟨k,rfl⟩<;>simp
 have hlt:=(Yb.1 hv).1
 have e:=(Yb.1 hv).2
 unfold part
 simp[hagg,hlt,e]
theorem Tu{t:TypeId}{w:World}{g:Mem}{d:D}{v:Value}(h:jv P t d=true)(hr:ag w g d v)(em:Bool)(n:Nat):(Instr.checkKey em (n+2) t v).run P w = .ok () w:=by
 rcases uF h with⟨fs,xs,u,rfl,p⟩|p
 .
  cases hr with|agg _ vs n1 r1 =>
  rw[Instr.checkKey];simp only[Sem.run_bind,run_underlying u,Result.andThen_ok];rw[<-Array.forIn_toList];have key : ∀(L:List Field)(i:Nat)(ds:List D),jm P i L ds=true->(∀(j:Nat)d,ds[j]? = some d -> ∃v,vs[i+j]? = some v/\ag w g d v) ->
    (forIn L PUnit.unit λf _=>do
     if f.name ≠ "_" then
      let q <-part f.type vs f.offset
      Instr.checkKey em (n+1) f.type q
      pure (ForInStep.yield PUnit.unit)
     else pure (ForInStep.yield PUnit.unit):Sem PUnit).run P w = .ok PUnit.unit w:=by
   intro L
   induction L with
   | nil=>intro i ds _ _;simp
   | cons f L ih =>
    intro i ds h hd
    cases ds with
    | nil=>simp[jm]at h
    | cons d ds =>
    simp only[jm,XT,ZE,Yx]at h;obtain⟨⟨⟨h1,h2⟩,h3⟩,h4⟩:=h;obtain⟨v,hv,hr⟩:=hd 0 d rfl;have p1:=ZaU (w:=w) h3 (by simpa using hv)
    have p2:=Tt h3 hr em n;rw[<-h2]at p1;simp only[List.forIn_cons,Sem.run_bind,h1,ne_eq,not_false_eq_true,Zw,Result.andThen_ok,p1,p2,Sem.run_pure];exact ih (i+1) ds h4 λj d hj=>by
     obtain⟨v,hv⟩:=hd (j+1) d (by simpa using hj)
     exact⟨v,by rw[Nat.add_assoc,Nat.add_comm 1 j];exact hv.1,hv.2⟩
  have:=key fs.toList 0 xs p λj d hj=>by
   have hlt:j<xs.length:=(X0.1 hj).1;have hlt':j<vs.size:=by omega
   exact⟨vs[j],by simp[hlt'],r1 j d _ hj (by simp[hlt'])⟩
  simp at this ⊢
  rw[this];rfl
 exact Tt p hr em _
def Zdw [aa P]{t:TypeId}{w:World}{g:Mem}{a b:D}{va vb:Value}(hty:nJ P t=true)(ha:jv P t a=true)(hb:jv P t b=true)(ra:ag w g a va)(rb:ag w g b vb)(hst : ∃fs,P.underlying t=some (.struct fs)):(Op.equal t va vb).run P w = .ok (jS a b) w:=by
 obtain⟨fs,u⟩:=hst
 rcases uF ha with⟨fs1,xs,u1,rfl,p1⟩|p1
 .
  rcases uF hb with⟨fs2,ys,u2,rfl,p2⟩|p2
  .
   rw[u1]at u2
   simp at u2
   subst u2;simp only[nJ,u1]at hty;obtain⟨ks,hks⟩:=Yq.1 hty;have hks0:=hks;unfold rV at hks;rw[u1]at hks;simp only at hks
   split at hks
   case isFalse=>cases hks
   rename_i hc
   simp only[XT,X5]at hc;have hp:=(QZ fs1.toList 0 ks xs ys hks p1 p2).1
   cases ra with|agg _ vs hn hv =>
   cases rb with|agg _ us hm hu =>
   have hF:P.fieldsOf t=fs1:=by simp[Program.fieldsOf,u1]
   have h1:=run_equalIn_agg (P:=P) w 9999 t vs us (by rw[hF];exact u1) hc.1
   have h2:=Q0 (P:=P) fs1.toList 0 ks vs.toList us.toList xs ys w g 9998 hks (by simpa using hp) ⟨by simpa using hn,λi d x h1 h2=>hv i d x h1 (by simpa using h2)⟩ ⟨by simpa using hm,λi d x h1 h2=>hu i d x h1 (by simpa using h2)⟩
   rw[hF]at h1;simp only[Array.toArray_toList,Yj]at h2;exact h1.trans h2
  rw[D5 u]at p2;cases p2
 rw[D5 u]at p1;cases p1
def Xi{t:TypeId}{w:World}{g:Mem}{a b:D}{va vb:Value}{q:TypeDesc}(hu:P.underlying t=some q)(ha:plainOf P t a=true)(hb:plainOf P t b=true)(ra:ag w g a va)(rb:ag w g b vb):Instr.sameNow q va vb=some (jS a b):=by
 rcases pY ha with⟨k,n,u1,rfl⟩|⟨x,u1,rfl⟩|⟨x,u1,rfl⟩<;>rcases pY hb with⟨k',n',u2,rfl⟩|⟨x',u2,rfl⟩|⟨x',u2,rfl⟩<;>rw[u1]at u2 hu<;>simp at u2 hu<;>rw[ra.v_inv,rb.v_inv]<;>subst hu
 . subst u2;simp[Instr.sameNow,jS,lI]
 . simp[Instr.sameNow,jS,lI]
 simp only[Instr.sameNow,jS,lI,XU]
 rw[YS,bytes_beq,Yx]
 exact⟨λh=>by rw[h],TA⟩
def Found(kv:List D)(l:List MapEntry)(q:D)(i0:Nat)(vq:Value)(r:Option (Nat×Value)):Prop :=
 (r=none/\jr kv q=none /\ ∀x,jq kv q x=kv++[q,x]) \/
 ∃j e d,r=some (i0+j,e.val)/\l[j]? = some e/\jr kv q=some d/\kv[2*j+1]? = some d/\e.key=vq /\ ∀x,jq kv q x=(kv.set (2*j) q).set (2*j+1) x
def QA{k d q:D}{kv:List D}{e:MapEntry}{l:List MapEntry}{i0:Nat}{vq:Value}{r:Option (Nat×Value)}(hne:jS q k=false)(h:Found kv l q (i0+1) vq r):Found (k::d::kv) (e::l) q i0 vq r:=by
 rcases h with⟨h1,h2,h3⟩|⟨j,e',d',h1,h2,h3,h4,h5,h6⟩
 . exact .inl ⟨h1,by simp[jr,hne,h2],λx=>by simp[jq,hne,h3]⟩
 refine .inr ⟨j+1,e',d',by rw[h1];congr 2;omega,by simpa using h2,by simp[jr,hne,h3],?_,h5,λx=>?_⟩
 .
  have:2*(j+1)+1=(2*j+1)+2:=by omega
  rw[this];simpa using h4
 have e1:2*(j+1)=2*j+1+1:=by omega
 simp only[jq,hne,h6,e1,Zk]
 simp
def Qz{k d q:D}{kv:List D}{e:MapEntry}{l:List MapEntry}{i0:Nat}{vq:Value}(he:jS q k=true)(hk:e.key=vq):Found (k::d::kv) (e::l) q i0 vq (some (i0,e.val)) :=
 .inr ⟨0,e,d,rfl,rfl,by simp[jr,he],rfl,hk,λx=>by simp[jq,he]⟩
theorem QP [aa P]{t:TypeId}{w:World}{g:Mem}{q:D}{vq:Value}{q0:TypeDesc}(hu:P.underlying t=some q0)(hty:nJ P t=true)(hq:jv P t q=true)(rq:ag w g q vq){kv:List D}{es:Array MapEntry}(hr:aG w g kv (ik es))(hks:lC P t kv=true) :
  ∃r,(Instr.findKey t vq es.toList).run P w = .ok r w/\Found kv es.toList q 0 vq r:=by
 unfold ik at hr
 by_cases hst : ∃fs,P.underlying t=some (.struct fs)
 .
  rw[run_findKey_eq w (by obtain⟨fs,h⟩:=hst;rw[h])]
  have key : ∀(l:List MapEntry)(kv:List D)(i0:Nat),aG w g kv (l.flatMap λe=>[e.key,e.val])->lC P t kv=true -> ∃r,(Instr.findAsking t vq l i0).run P w = .ok r w/\Found kv l q i0 vq r:=by
   intro l
   induction l with
   | nil =>
    intro kv i0 hr hks;have:kv=[]:=Yf (by simpa using hr.1)
    subst this;exact⟨none,by simp[Instr.findAsking],.inl ⟨rfl,rfl,λx=>rfl⟩⟩
   | cons e l ih =>
    intro kv i0 hr hks;rw[yB]at hr
    match kv,hr,hks with
    | [],hr,_=>exact absurd hr.1 (by simp)
    | [_],hr,_=>exact absurd hr.1 (by simp)
    | k::d::kv,hr,hks =>
     simp only[lC,XT]at hks;have he:=Zdw hty hq hks.1 rq hr.head hst
     cases hc:jS q k with
     | true =>
      rw[hc]at he;have hqk:=Pv hty hq hks.1 hc;subst hqk;exact⟨some (i0,e.val),by simp[Instr.findAsking,he],Qz hc (Pt hq hr.head rq)⟩
     | false =>
      rw[hc]at he;obtain⟨r,h1,h2⟩:=ih kv (i0+1) hr.tail.tail hks.2;exact⟨r,by simp[Instr.findAsking,he,h1],QA hc h2⟩
  exact key es.toList kv 0 hr hks
 have hp : ∀{d:D},jv P t d=true->plainOf P t d=true:=by
  intro d hd
  rcases uF hd with⟨fs,_,u,_⟩|h
  . exact absurd ⟨fs,u⟩ hst
  exact h
 have key : ∀(l:List MapEntry)(kv:List D)(i0:Nat),aG w g kv (l.flatMap λe=>[e.key,e.val])->lC P t kv=true -> ∃r,Instr.findNow q0 vq l i0=some r/\Found kv l q i0 vq r:=by
  intro l
  induction l with
  | nil =>
   intro kv i0 hr hks;have:kv=[]:=Yf (by simpa using hr.1)
   subst this;exact⟨none,by simp[Instr.findNow],.inl ⟨rfl,rfl,λx=>rfl⟩⟩
  | cons e l ih =>
   intro kv i0 hr hks;rw[yB]at hr
   match kv,hr,hks with
   | [],hr,_=>exact absurd hr.1 (by simp)
   | [_],hr,_=>exact absurd hr.1 (by simp)
   | k::d::kv,hr,hks =>
    simp only[lC,XT]at hks;have he:=Xi hu (hp hq) (hp hks.1) rq hr.head
    cases hc:jS q k with
    | true =>
     rw[hc]at he;have hqk:=Pv hty hq hks.1 hc;subst hqk;exact⟨some (i0,e.val),by simp[Instr.findNow,he],Qz hc (Pt hq hr.head rq)⟩
    | false =>
     rw[hc]at he;obtain⟨r,h1,h2⟩:=ih kv (i0+1) hr.tail.tail hks.2;exact⟨r,by simp[Instr.findNow,he,h1],QA hc h2⟩
 obtain⟨r,h1,h2⟩:=key es.toList kv 0 hr hks
 exact⟨r,run_findKey hu h1,h2⟩
theorem Ps{bl:ax}{kv:List D}(h:iF bl=some kv):bl.rows=iT kv:=by
 unfold iF at h
 split at h
 . rename_i e;cases h;exact e
 cases h
def zT [aa P]{h:H}{g:Mem}{w:World}(hm:HM P h g w){r:Nat}{v:Value}(hv:ag w g (.mp r) v){bl:ax}(hr:h r=some bl){kv:List D}(hk:iF bl=some kv) :
  ∃b es aV,v = .map (some b)/\w.heap[b]? = some (.map es aV)/\aG w g kv (ik es)/\g.M r=some (some b,maxLen+1,P.cellsOf bl.ty) /\ ¬g.I b/\P.cellsOf bl.ty=1:=by
 obtain⟨blk,c,h1,h2,h3,h4,h5⟩:=hm.blk r bl hr
 cases hv with|mp _ _ hx hU hv =>
 obtain⟨hc,b,rfl,rfl⟩:=hv _ _ _ h1
 rcases h5 with⟨h5,_⟩|⟨b',cur,h5,k1,k2,k3,k4⟩
 . cases h5
 cases h5
 obtain⟨es,aV,e1,rfl⟩:=k1.map hc
 rw[Holds,Ps hk]at k4
 obtain⟨q0,q⟩:=k4 0 _ rfl
 refine⟨b,es,aV,rfl,e1,?_,hc▸h1,k3,q0.symm⟩
 obtain⟨u,u1,_,u3⟩:=q 0 _ rfl
 simp at u1
 subst u1
 cases u3 with|iface _ _ _ u3 =>
 obtain⟨vs,e2,e3⟩:=u3.tuple_inv
 simp at e2
 rw[<-e2]at e3
 simpa using e3
def O4 [aa P]{h:H}{g:Mem}{w:World}(hm:HM P h g w){r b c sz:Nat}{bl:ax}(hr:h r=some bl)(hM:g.M r=some (some b,c,sz)){es:Array MapEntry}{aV:Nat}(hb:w.heap[b]? = some (.map es aV)):C8 es aV:=by
 obtain⟨blk,c',h1,_,_,_,h5⟩:=hm.blk r bl hr
 rw[hM]at h1
 simp only[XU,Yu]at h1
 obtain⟨rfl,rfl,_⟩:=h1
 rcases h5 with⟨h5,_⟩|⟨b',cur,h5,k1,_⟩
 . cases h5
 cases h5
 exact k1.stamps hb
def O5{g:Mem}{w:World}{kv:List D}{v:Value}(hv:ag w g (.fmap kv) v):∃b es aV,v = .map (some b)/\w.heap[b]? = some (.map es aV)/\aG w g kv (ik es):=by
 cases hv with|fmap _ b es aV hI hb hn hr=>exact⟨b,es,aV,rfl,hb,hn,hr⟩
theorem ZbS [aa P]{h:H}{g:Mem}{w:World}(hm:HM P h g w){t:TypeId}{ok:Bool}{m k:D}{vm vk:Value}(rm:ag w g m vm)(rk:ag w g k vk)(hc:(lv P t ok m k h).2) :
  ∃v,(Instr.lookup t vm vk ok).run P w = .ok v w/\ag w g (lv P t ok m k h).1 v:=by
 unfold lv at hc ⊢
 split at hc
 case h_2=>exact hc.elim
 rename_i kt e kv ht hk
 obtain⟨c1,c2,c3,c4⟩:=hc
 have hu:=BJ ht
 have lies : ∃b es aV,vm = .map (some b)/\w.heap[b]? = some (.map es aV)/\aG w g kv (ik es):=by
  unfold qj at hk
  split at hk
  .
   rename_i r
   cases hr:h r with
   | none=>rw[hr]at hk;cases hk
   | some bl =>
    rw[hr]at hk;obtain⟨b,es,aV,q1,q2,q3,_⟩:=zT hm rm hr hk;exact⟨b,es,aV,q1,q2,q3⟩
  .
   cases hk
   exact O5 rm
  cases hk
 obtain⟨b,es,aV,rfl,hb,hr⟩:=lies
 have hkt : ∃q0,P.underlying kt=some q0:=by
  unfold nJ at c3
  cases hq:P.underlying kt with
  | none=>rw[hq]at c3;cases c3
  | some q=>exact⟨q,rfl⟩
 obtain⟨q0,hkt⟩:=hkt
 obtain⟨r,h1,h2⟩:=QP hkt c3 c1 rk hr c2
 have hck:=Tu c1 rk es.isEmpty 9998 (w:=w)
 obtain⟨z,hz⟩:=Yq.1 c4
 rcases h2 with⟨rfl,g1,_⟩|⟨j,e',d,rfl,g0,g1,g2,_,_⟩
 .
  have hzr:(zeroValue e).run P w = .ok z w:=by
   cases hi:P.info? e with
   | none=>rw[hi]at hz;cases hz
   | some i =>
    rw[hi]at hz
    simp at hz
    simp[zeroValue,typeInfo,hi,hz]
  have hzd:vM P e=kI z:=by unfold vM;rw[hz]
  refine⟨if ok then .tuple #[z,.bool false]else z,?_,?_⟩
  . cases ok<;>simp[Instr.lookup,run_underlying hu,MapKept.run_getObj_map hb,hck,h1,hzr]
  rw[g1,hzd]
  cases ok with
  | false=>exact Ei w g z
  | true=>exact .mk_tuple (.cons (Ei w g z) (.cons (.v _) .nil))
 have hev:ag w g d e'.val:=by
  refine hr.2 (2*j+1) d e'.val g2 ?_;unfold ik;exact I7 es.toList j e' g0 |>.2
 refine⟨if ok then .tuple #[e'.val,.bool true]else e'.val,?_,?_⟩
 . cases ok<;>simp[Instr.lookup,run_underlying hu,MapKept.run_getObj_map hb,hck,h1]
 rw[g1]
 cases ok with
 | false=>exact hev
 | true=>exact .mk_tuple (.cons hev (.cons (.v _) .nil))
theorem LF [aa P]{h:H}{g:Mem}{w:World}(hm:HM P h g w){t:TypeId}{m k x:D}{vm vk vx:Value}(rm:ag w g m vm)(rk:ag w g k vk)(rx:ag w g x vx)(hc:(kV P t m k x h).2) :
  ∃g' w',(Instr.mapUpdate t vm vk vx).run P w = .ok () w'/\HM P (kV P t m k x h).1 g' w'/\aB g g' w w' /\ ∀r,g'.U r->g.U r:=by
 unfold kV at hc ⊢
 split at hc
 case h_2=>exact hc.elim
 rename_i kt e r ht
 cases hr:h r with
 | none=>rw[hr]at hc;exact hc.elim
 | some bl =>
 rw[hr]at hc
 simp only at hc ⊢
 cases hk:iF bl with
 | none=>rw[hk]at hc;exact hc.elim
 | some kv =>
 rw[hk]at hc
 simp only at hc ⊢
 obtain⟨c1,c2,c3⟩:=hc
 have hu:=BJ ht
 have hU:g.U r:=by cases rm with|mp _ _ _ hU _=>exact hU
 obtain⟨b,es,aV,rfl,hb,hrep,hM,hnI,hsz⟩:=zT hm rm hr hk
 have hkt : ∃q0,P.underlying kt=some q0:=by
  unfold nJ at c3
  cases hq:P.underlying kt with
  | none=>rw[hq]at c3;cases c3
  | some q=>exact⟨q,rfl⟩
 obtain⟨q0,hkt⟩:=hkt
 obtain⟨f,h1,h2⟩:=QP hkt c3 c1 rk hrep c2
 have hck:=Tu c1 rk false 9998 (w:=w)
 have Cb:=O4 hm hr hM hb
 have fin : ∀(es':Array MapEntry)(clk':Nat),C8 es' clk'->aG w g (jq kv k x) (ik es') -> ∃g',HM P (upd h r (some ⟨bl.ty,iT (jq kv k x)⟩)) g' { w with heap:=w.heap.setIfInBounds b (.map es' clk') }/\aB g g' w { w with heap:=w.heap.setIfInBounds b (.map es' clk') } /\ ∀r,g'.U r->g.U r:=by
  intro es' clk' hst' hreps;have hh:=heap_set (o':=.map es' clk') hb;obtain⟨g',q1,q2,q3,q4,q5⟩:=hm.putB (h':=upd h r (some ⟨bl.ty,iT (jq kv k x)⟩)) (w':={ w with heap:=w.heap.setIfInBounds b (.map es' clk') }) r b (maxLen+1) ⟨bl.ty,iT (jq kv k x)⟩ #[.iface 0 (.tuple (ik es').toArray)]
   (.inr hM) (bK _ _ _) (λr' hr'=>.inl (aL _ _ _ _ hr')) (.inr ⟨r,_,_,hM,.inl rfl⟩) (.inr ⟨rfl,es',clk',hh.1,rfl,hst'⟩) (λh=>by omega) (by rw[hsz];omega) (by simp[iT]) (X4 _)
   (by
    intro i row hi
    cases i with
    | succ i=>simp[iT]at hi
    | zero =>
     simp only[iT,List.getElem?_cons_zero,XU]at hi;subst hi;refine⟨hsz.symm,λj d hd=>?_⟩
     cases j with
     | succ j=>simp at hd
     | zero =>
      simp only[List.getElem?_cons_zero,XU]at hd;subst hd;exact⟨.iface 0 (.tuple (ik es').toArray),by simp,by simp[Value.oneCell',Value.cells],.iface 0 _ _ (.mk_tuple (by simpa using hreps))⟩)
   ⟨rfl,rfl,rfl,by simp,λk' _ hk'=>hh.2 k' (λe=>hk' (by rw[e]))⟩
  refine⟨g',q4,q5,λr' hr'=>?_⟩
  rcases(q2 r').1 hr' with h|h
  . exact h
  exact h▸hU
 rcases h2 with⟨rfl,g1,g2⟩|⟨j,e',d,rfl,g0,g1,g2,g3,g4⟩
 .
  obtain⟨g',f1,f2,f3⟩:=fin (es.push { key:=vk,val:=vx,born:=aV }) (aV+1) (by
   refine⟨by rw[Array.size_push,Cb.1],λi e he=>?_⟩
   rw[Array.toList_push]at he
   rcases Nat.lt_trichotomy i es.toList.length with q|q|q
   . rw[Zb q]at he;exact Cb.2 i e he
   . rw[q,YX (X4 _),Zu]at he;simp only[List.getElem?_cons_zero,XU]at he;rw[<-he,q,Array.length_toList];exact Cb.1
   .
    rw[Zt (by simp at q ⊢;omega)]at he
    cases he) (by
   rw[g2];unfold ik;rw[Array.toList_push,List.flatMap_append];exact hrep.append (.cons rk (.cons rx .nil)))
  refine⟨g',_,?_,f1,f2,f3⟩
  simp[Instr.mapUpdate,run_underlying hu,MapKept.run_getObj_map hb,hck,h1,run_setObj_map _ hb]
 obtain⟨g',f1,f2,f3⟩:=fin (es.modify j λe=>{ e with key:=vk,val:=vx }) aV (by
  refine⟨by rw[Array.size_modify];exact Cb.1,λi e he=>?_⟩
  rw[Array.toList_modify,List.getElem?_modify]at he
  cases hi:es.toList[i]? with
  | none=>rw[hi]at he;cases he
  | some e0 =>
   rw[hi]at he;have h0:=Cb.2 i e0 hi
   by_cases q:j=i
   .
    simp[q]at he
    rw[<-he];exact h0
   simp[q]at he
   rw[<-he];exact h0) (by
  rw[g4];unfold ik;rw[Array.toList_modify,Pp _ _ _ _ g0];refine⟨by rw[Z5,Z5,Z5,Z5];exact hrep.1,λi d' y h3 h4=>?_⟩
  by_cases e1:i=2*j+1
  .
   subst e1;rw[ZG (by have:=(X0.1 h3).1;simpa using this)]at h3
   rw[ZG (by have:=(X0.1 h4).1;simpa using this)]at h4
   cases h3;cases h4;exact rx
  rw[List.getElem?_set_ne (Ne.symm e1)]at h3 h4
  by_cases e2:i=2*j
  .
   subst e2;rw[ZG (by have:=(X0.1 h3).1;simpa using this)]at h3
   rw[ZG (by have:=(X0.1 h4).1;simpa using this)]at h4
   cases h3;cases h4;exact rk
  rw[List.getElem?_set_ne (Ne.symm e2)]at h3 h4;exact hrep.2 i d' y h3 h4)
 refine⟨g',_,?_,f1,f2,f3⟩
 have hj:es[j]? = some e':=by simpa using g0
 have hst:(Instr.keyThatStays vk vk).run P w = .ok vk w:=by simp[Instr.keyThatStays,Zck c1 rk 9999]
 simp[Instr.mapUpdate,run_underlying hu,MapKept.run_getObj_map hb,hck,h1,hj,g3,hst,run_setObj_map _ hb]
def ZbP{z:Array Value}{n i j:Nat}(hi:i<n)(hj:j<z.size):(madeCells z (n*z.size))[i*z.size+j]? = some z[j]:=by
 unfold madeCells
 have hlt:i*z.size+j<n*z.size:=by
  have:(i+1)*z.size<=n*z.size:=YT _ hi;rw[Ze,Nat.one_mul]at this;omega
 have e:(i*z.size+j) % z.size=j:=by rw[Zx,ZP,Zy hj]
 simp[hlt,e,hj]
theorem ZbC [aa P]{h:H}{g:Mem}{w:World}(hm:HM P h g w){b:Nat}(hb : ¬g.U b){t:TypeId}{x y:D}{vx vy:Value}(rx:ag w g x vx)(ry:ag w g y vy)(hc:(jo P t h b x y).2.2) :
  ∃v g' w',(Instr.makeSlice t vx vy).run P w = .ok v w'/\ag w' g' (jo P t h b x y).1 v/\HM P (jo P t h b x y).2.1 g' w'/\aB g g' w w' /\ ∀r,g'.U r->g.U r\/r=b:=by
 unfold jo at hc ⊢
 split at hc
 case h_2=>exact hc.elim
 rename_i k n k' m
 cases he:aZ P t with
 | none=>rw[he]at hc;exact hc.elim
 | some e =>
 rw[he]at hc
 simp only at hc ⊢
 obtain⟨c0,c1,c2,c3,c4,c5,c6,c7⟩:=hc
 have ht:=nS he
 obtain⟨i,hi,hs⟩:=wW c7
 obtain⟨i',z,hi',hz⟩:=Gu (P:=P) (t:=e) om
 rw[hi]at hi'
 cases hi'
 obtain⟨z1,z2,z3⟩:=Df hi hz w g c6
 have hby:(i.bytes:Int)*m<=281474976710656:=by
  have:P.bytesOf e=i.bytes:=by simp[Program.bytesOf,hi]
  rw[<-this];exact c2
 have hrun:=run_make (P:=P) w t e i z ht hi hz k k' n m c1 c0 hby c3
 rw[rx.v_inv,ry.v_inv]
 have hzs:z.cells.size=P.cellsOf e:=by omega
 rw[hs,<-hzs]at hrun
 obtain⟨g',h2,h3,h4,h5,h6⟩:=hm.put (h':=upd h b (some ⟨e,List.replicate n.toNat (zeroCells P e)⟩)) (w':=w.alloc (.cells (madeCells z.cells (m.toNat*z.cells.size)) e)) b w.heap.size m.toNat ⟨e,List.replicate n.toNat (zeroCells P e)⟩ (madeCells z.cells (m.toNat*z.cells.size)) (.inl hb) (bK _ _ _)
  (λr hr=>.inl (aL _ _ _ _ hr)) (.inl (X4 _)) (heap_alloc_new w _) (by rw[size_madeCells,hzs]) c7 (by simp;omega) (by simp only[maxLen];omega)
  (by
   intro p row hp;have hpl:p<n.toNat:=by have:=(X0.1 hp).1;simpa using this
   rw[List.getElem?_replicate,XY hpl]at hp
   cases hp
   refine⟨c5,λj d hj=>?_⟩
   have hjl:j<z.cells.size:=by have:=(X0.1 hj).1;omega
   refine⟨z.cells[j],?_,z2 _ (by simp),z1.2 j d _ hj (by simp[hjl])⟩
   show(madeCells z.cells (m.toNat*z.cells.size))[p*P.cellsOf e+j]? = _
   rw[<-hzs];exact ZbP om hjl)
  (World.grownBy_alloc w _ _)
 refine⟨_,g',_,hrun,?_,h5,h6,λr hr=>(h3 r).1 hr⟩
 refine .mrow b 0 n.toNat _ ⟨_,_,rfl,om,λ_=>⟨_,rfl⟩⟩ ((h3 b).2 (.inr rfl)) λblk c sz he=>?_
 rw[h2]at he
 simp only[XU,Yu]at he
 obtain⟨rfl,rfl,rfl⟩:=he
 refine⟨⟨om,by simp only[maxLen];omega⟩,?_⟩
 by_cases hz0:m.toNat=0
 .
  have hn0:n.toNat=0:=by omega
  rw[hz0,hn0];exact .inl ⟨rfl,_,rfl⟩
 exact .inr ⟨hz0,w.heap.size,rfl,by simp⟩
theorem ZbO [aa P]{h:H}{g:Mem}{w:World}(hm:HM P h g w){b:Nat}(hb : ¬g.U b){t:TypeId}{xs:List D}{ro:Option Operand}{ρ:Operand->Value}(hr:aG w g xs (ro.toList.map ρ))(hc:(wR P t xs h b).2.2) :
  ∃v g' w',(Instr.makeMap t (ro.map ρ)).run P w = .ok v w'/\ag w' g' (wR P t xs h b).1 v/\HM P (wR P t xs h b).2.1 g' w'/\aB g g' w w' /\ ∀r,g'.U r->g.U r\/r=b:=by
 unfold wR at hc ⊢
 obtain⟨c1,c2,c3⟩:=hc
 obtain⟨⟨kt,e⟩,ht⟩:=Yq.1 c1
 have hu:=BJ ht
 obtain⟨g',q1,q2,q3,q4,q5⟩:=hm.putB (h':=upd h b (some ⟨t,iT []⟩)) (w':=w.alloc (.map #[] 0)) b w.heap.size (maxLen+1) ⟨t,iT []⟩ #[.iface 0 (.tuple #[])]
  (.inl hb) (bK _ _ _) (λr hr=>.inl (aL _ _ _ _ hr)) (.inl (X4 _)) (.inr ⟨rfl,#[],0,(heap_alloc w _).1,rfl,rfl,λi e h=>by simp at h⟩) (λh=>by omega) (by show 0<P.cellsOf t;omega) (by simp[iT]) (X4 _)
  (by
   intro i row hi
   cases i with
   | succ i=>simp[iT]at hi
   | zero =>
    simp only[iT,List.getElem?_cons_zero,XU]at hi;subst hi;refine⟨c2.symm,λj d hd=>?_⟩
    cases j with
    | succ j=>simp at hd
    | zero =>
     simp only[List.getElem?_cons_zero,XU]at hd;subst hd;exact⟨.iface 0 (.tuple #[]),by simp,by simp[Value.oneCell',Value.cells],.iface 0 _ _ (.mk_tuple (vs:=#[]) .nil)⟩)
  (World.grownBy_alloc w _ _)
 refine⟨.map (some w.heap.size),g',w.alloc (.map #[] 0),?_,?_,q4,q5,λr hr=>(q2 r).1 hr⟩
 .
  cases ro with
  | none=>simp[Instr.makeMap]
  | some o =>
   simp only[Option.toList_some,X9,Yw]at hr
   match xs,hr,c3 with
   | [],hr,_=>exact absurd hr.1 (by simp)
   | [.v (.int k n)],hr,_ =>
    rw[YP,hr.head.v_inv]
    simp[Instr.makeMap,run_underlying hu,asInt,asIntOf]
 refine .mp b _ ⟨_,rfl⟩ ((q2 b).2 (.inr rfl)) λblk c sz he=>?_
 rw[q1]at he
 simp only[XU,Yu]at he
 exact⟨he.2.1.symm,_,he.1.symm,rfl⟩
end Go.DL
namespace Go.DL
variable [Dr]
open Go.RowKit
variable {P : Program} {W : bf} {C : aK}
def yF:Op->Bool
 | .call { callee:=.value _,.. }=>true
 | _=>false
theorem Io{w:World}{g:Mem}{xs:List D}{ρ:Operand->Value}{l:Option Operand}{rest:List Operand}(h:aG w g xs ((l.toList++rest).map ρ)) :
  AU w g (iE l xs).1 (l.map ρ)/\aG w g (iE l xs).2 (rest.map ρ):=by
 cases l with
 | none=>exact⟨trivial,by simpa[iE]using h⟩
 | some x =>
  simp only[Option.toList_some,List.singleton_append,X9]at h
  cases xs with
  | nil=>exact absurd h.1 (by simp)
  | cons d ds=>exact⟨h.head,h.tail⟩
theorem Zd2 [aa P]{h:H}{g:Mem}{w:World}(hm:HM P h g w){b:Nat}(hb : ¬g.U b){xs:List D}{o:Oper}{ρ:Operand->Value}(hr:aG w g xs ((av o.op).map ρ))(hcall:yF o.op=false)(hc:(aH P W C o.op xs h b).2.2) :
  Does P g w b ((execOp ρ o).run P w) (aH P W C o.op xs h b).1 (aH P W C o.op xs h b).2.1:=by
 obtain⟨dst,op,ty,pos,after,guard⟩:=o
 simp only at hr hcall hc ⊢
 unfold aH at hc ⊢
 split at hc
 . obtain⟨v,l,e,h1,h2⟩:=hr.of_cons;simp only[av,X9,Yw,Yy]at e;obtain⟨rfl,_⟩:=e;exact Does.still (s:=pure _) hm (by simp) h1
 . obtain⟨v,l,e,h1,h2⟩:=hr.of_cons;simp only[av,X9,Yw,Yy]at e;obtain⟨rfl,_⟩:=e;exact Does.still (s:=pure _) hm (by simp) h1
 .
  rename_i e
  obtain⟨c1,c2,c3⟩:=hc;obtain⟨i,z,hi,hz⟩:=Gu (P:=P) (t:=e) om;obtain⟨z1,z2,z3⟩:=Df hi hz w g c2;obtain⟨g',k1,k2,k3,k4⟩:=OV hm hb (e:=e) z1 z2 c1 om;refine⟨_,g',_,.inl ?_,k1,k2,k3,k4⟩
  simp[execOp,Instr.alloc,zeroValue,typeInfo,hi,hz,newVar,newRow]
 .
  rename_i e x d
  obtain⟨v,l,e1,h1,h2⟩:=hr.of_cons;simp only[av,X9,Yw,Yy]at e1;obtain⟨rfl,_⟩:=e1;obtain⟨c1,c2,c3⟩:=hc;obtain⟨z1,z2,z3⟩:=h1.cells c2;obtain⟨g',k1,k2,k3,k4⟩:=OV hm hb (e:=e) z1 z2 c1 c3;refine⟨_,g',_,.inl ?_,k1,k2,k3,k4⟩
  simp[execOp,Instr.box,newVar,newRow]
 .
  rename_i t ps
  obtain⟨v,h1,h2⟩:=ZfV (P:=P) (ps:=ps) hr hc ρ (by simp[av])
  exact Does.still hm h1 h2
 .
  rename_i t n ps
  cases hbs:C.bs with
  | false =>
   simp only[hbs,Ye,Y0]at hc ⊢;obtain⟨v,g',w',h1,h2,h3,h4,h5⟩:=ZfW (P:=P) hm (ps:=ps) hr hc ρ (by simp[av])
   exact⟨v,g',w',.inl (by simp[execOp,h1]),h2,h3,h4,λr hr=>.inl (h5 r hr)⟩
  | true =>
   simp only[hbs,Zw]at hc ⊢;obtain⟨v,g',w',h1,h2,h3,h4,h5⟩:=ZfY (P:=P) hm hb (ps:=ps) hr hc ρ (by simp[av])
   exact⟨v,g',w',.inl (by simp[execOp,h1]),h2,h3,h4,h5⟩
 . obtain⟨v,l,e1,h1,h2⟩:=hr.of_cons;simp only[av,X9,Yw,Yy]at e1;obtain⟨rfl,_⟩:=e1;obtain⟨v,k1,k2⟩:=ZbY hm h1 hc;exact Does.still hm k1 k2
 . obtain⟨v,l,e1,h1,h2⟩:=hr.of_cons;simp only[av,X9,Yw,Yy]at e1;obtain⟨rfl,rfl⟩:=e1;obtain⟨g',w',k1,k2,k3,k4⟩:=Md hm h1 h2.head hc;exact⟨undef,g',w',.inr ⟨by simp[execOp,k1],rfl⟩,.v _,k2,k3,λr hr=>.inl (k4 r hr)⟩
 .
  obtain⟨v,l,e1,h1,h2⟩:=hr.of_cons;simp only[av,X9,Yw,Yy]at e1;obtain⟨e1,_⟩:=e1;obtain⟨p,e2,_⟩:=H6 h1 hc 0;refine⟨v,g,w,.inl ?_,h1,hm,aB.refl _ _,λ_ h=>.inl h⟩
  simp[execOp,e1,e2]
 . obtain⟨v,l,e1,h1,h2⟩:=hr.of_cons;simp only[av,X9,Yw,Yy]at e1;obtain⟨rfl,rfl⟩:=e1;obtain⟨v,k1,k2⟩:=Zf5 h1 h2.head hc _ _;exact Does.still hm k1 k2
 . obtain⟨v,l,e1,h1,h2⟩:=hr.of_cons;simp only[av,X9,Yw,Yy]at e1;obtain⟨rfl,_⟩:=e1;obtain⟨v,k1,k2⟩:=UZ h1 hc;exact Does.still hm k1 k2
 . obtain⟨v,l,e1,h1,h2⟩:=hr.of_cons;simp only[av,X9,Yw,Yy]at e1;obtain⟨rfl,_⟩:=e1;obtain⟨v,k1,k2⟩:=Zfm h1 hc;exact Does.still hm k1 k2
 .
  rename_i f first captured
  simp only[av,YQ]at hr;have q1:=hr.take first.size
  have q2:=hr.drop first.size
  have l1:(first.toList.map ρ).length=first.size:=by simp
  rw[List.take_left' l1]at q1;rw[List.drop_left' l1]at q2;refine Does.still (s:=Instr.makeFunc f (first.map ρ) (captured.map ρ)) hm (v:=.func f (first.map ρ) (captured.map ρ)) (by simp[Instr.makeFunc]) ?_
  exact .fn f _ _ _ _ (by have:=q1.1;simp at this ⊢;exact this) (by have:=q2.1;simp at this ⊢;exact this) (λi d x h1 h2=>q1.2 i d x h1 (by simpa using h2)) (λi d x h1 h2=>q2.2 i d x h1 (by simpa using h2))
 .
  rename_i t x l hi m d ds
  obtain⟨v,l',e1,h1,h2⟩:=hr.of_cons;simp only[av,X9,Yy]at e1;obtain⟨rfl,rfl⟩:=e1;rw[YW]at h2;obtain⟨k1,h3⟩:=Io h2;obtain⟨k2,h4⟩:=Io h3;rw[<-YZ m.toList]at h4;obtain⟨k3,_⟩:=Io h4;obtain⟨v,q1,q2⟩:=V8 hm h1 k1 k2 k3 hc;exact Does.still hm q1 q2
 . obtain⟨v,l,e1,h1,h2⟩:=hr.of_cons;simp only[av,X9,Yw,Yy]at e1;obtain⟨rfl,_⟩:=e1;obtain⟨v,k1,k2⟩:=Zdp h1 hc;exact Does.still hm k1 k2
 . obtain⟨v,l,e1,h1,h2⟩:=hr.of_cons;simp only[av,X9,Yw,Yy]at e1;obtain⟨rfl,_⟩:=e1;obtain⟨v,k1,k2⟩:=Zdo h1 hc;exact Does.still hm k1 k2
 . obtain⟨v,l,e1,h1,h2⟩:=hr.of_cons;simp only[av,X9,Yw,Yy]at e1;obtain⟨rfl,rfl⟩:=e1;obtain⟨v,k1,k2⟩:=ZcF hm h1 h2.head hc;exact Does.still hm k1 k2
 . obtain⟨v,l,e1,h1,h2⟩:=hr.of_cons;simp only[av,X9,Yw,Yy]at e1;obtain⟨rfl,rfl⟩:=e1;obtain⟨v,k1,k2⟩:=ZcE (P:=P) h1 h2.head hc;exact Does.still hm k1 k2
 . obtain⟨v,l,e1,h1,h2⟩:=hr.of_cons;simp only[av,X9,Yw,Yy]at e1;obtain⟨rfl,rfl⟩:=e1;obtain⟨v,g',w',k1,k2,k3,k4,k5⟩:=ZbC (P:=P) hm hb h1 h2.head hc;exact⟨v,g',w',.inl (by simp[execOp,k1]),k2,k3,k4,k5⟩
 .
  rename_i t r
  obtain⟨v,g',w',h1,h2,h3,h4,h5⟩:=ZbO (P:=P) hm hb (ro:=r) hr hc;exact⟨v,g',w',.inl (by simp[execOp,h1]),h2,h3,h4,h5⟩
 . obtain⟨v,l,e1,h1,h2⟩:=hr.of_cons;obtain⟨v2,l2,e2,h3,h4⟩:=h2.of_cons;simp only[av,X9,Yw,Yy]at e1;obtain⟨rfl,e1⟩:=e1;rw[e2]at e1;simp only[Yy]at e1;obtain⟨rfl,rfl⟩:=e1;obtain⟨g',w',k1,k2,k3,k4⟩:=LF hm h1 h3 h4.head hc;exact⟨undef,g',w',.inr ⟨by simp[execOp,k1],rfl⟩,.v _,k2,k3,λr hr=>.inl (k4 r hr)⟩
 . obtain⟨v,l,e1,h1,h2⟩:=hr.of_cons;obtain⟨v2,l2,e2,h3,h4⟩:=h2.of_cons;simp only[av,X9,Yw,Yy]at e1;obtain⟨rfl,e1⟩:=e1;rw[e2]at e1;simp only[Yy]at e1;obtain⟨rfl,rfl⟩:=e1;obtain⟨g',w',k1,k2,k3,k4⟩:=LF hm h1 h3 h4.head hc;exact⟨undef,g',w',.inr ⟨by simp[execOp,k1],rfl⟩,.v _,k2,k3,λr hr=>.inl (k4 r hr)⟩
 . obtain⟨v,l,e1,h1,h2⟩:=hr.of_cons;simp only[av,X9,Yw,Yy]at e1;obtain⟨rfl,rfl⟩:=e1;obtain⟨v,k1,k2⟩:=ZbS hm h1 h2.head hc;exact Does.still hm k1 k2
 .
  rename_i i ds
  obtain⟨v,l,e1,h1,h2⟩:=hr.of_cons;simp only[av,X9,Yw,Yy]at e1;obtain⟨e1,_⟩:=e1;obtain⟨vs,rfl,h3⟩:=h1.tuple_inv;have hl:i<vs.size:=by have:=h3.1;simp at this;omega
  refine⟨vs[i],g,w,.inl ?_,?_,hm,aB.refl _ _,λ_ h=>.inl h⟩
  . simp[execOp,e1,Instr.extract,hl]
  exact h3.2 i _ _ (by simp[List.getD,X6 hc]) (by simp[hl])
 .
  rename_i args argTypes d
  obtain⟨v,l,e1,h1,h2⟩:=hr.of_cons;simp only[av]at e1;rw[h2.of_nil]at e1
  split at hc
  case h_2=>exact hc.elim
  rename_i t ht
  have ht':argTypes = #[t]:=by apply Zh;simpa using ht
  have ea:args.map ρ = #[v]:=by apply Zh;simpa using e1
  subst ht';refine⟨_,g,w,.inl ?_,.v _,hm,aB.refl _ _,λ_ h=>.inl h⟩
  have:=Zb3 (ty:=ty) h1 hc
  simp[execOp,resolve,invoke,builtin,ea,this]
 .
  rename_i args argTypes d d'
  obtain⟨v,l,e1,h1,h2⟩:=hr.of_cons;obtain⟨v',l',e2,h3,h4⟩:=h2.of_cons;simp only[av]at e1;rw[e2,h4.of_nil]at e1
  split at hc
  case h_2=>exact hc.elim
  rename_i t u ht
  have ht':argTypes = #[t,u]:=by apply Zh;simpa using ht
  have ea:args.map ρ = #[v,v']:=by apply Zh;simpa using e1
  subst ht';obtain⟨x,g',w',k1,k2,k3,k4,k5⟩:=KW hm hb h1 h3 hc ty;refine⟨x,g',w',.inl ?_,k2,k3,k4,k5⟩
  simp[execOp,resolve,invoke,builtin,ea,k1]
 .
  rename_i args argTypes
  simp only[av]at hr;obtain⟨v,k1,k2⟩:=ZbE (P:=P) hr hc argTypes ty;refine⟨v,g,w,.inl ?_,k2,hm,aB.refl _ _,λ_ h=>.inl h⟩
  have ea:(args.toList.map ρ).toArray=args.map ρ:=by apply Zh;simp
  rw[ea]at k1
  simp[execOp,resolve,invoke,builtin,k1]
 .
  rename_i args argTypes
  simp only[av]at hr;obtain⟨v,k1,k2⟩:=ZbJ (P:=P) hr hc argTypes ty;refine⟨v,g,w,.inl ?_,k2,hm,aB.refl _ _,λ_ h=>.inl h⟩
  have ea:(args.toList.map ρ).toArray=args.map ρ:=by apply Zh;simp
  rw[ea]at k1
  simp[execOp,resolve,invoke,builtin,k1]
 . simp[yF]at hcall
 exact hc.elim
theorem ZaS [aa P]{h:H}{g:Mem}{w:World}(hm:HM P h g w){b:Nat}{xs:List D}{o:Oper}{ρ:Operand->Value}(hr:aG w g xs ((av o.op).map ρ))(hp:dG o.op=true){gd:Bool}(hg:gd=true)(hc:(wz gd xs).2) :
  Does P g w b ((execOp ρ o).run P w) (wz gd xs).1 h:=by
 obtain⟨dst,op,ty,pos,after,guard⟩:=o
 simp only at hr hp ⊢
 cases op<;>simp only[dG]at hp<;>try (cases hp;done)
 rename_i c x y
 unfold wz at hc ⊢
 split at hc
 case h_2=>exact hc.elim
 rename_i dc dx dy
 obtain⟨q1,q2,q3⟩:=hc hg
 have r1:=hr.head
 have r2:=hr.tail.head
 have r3:=hr.tail.tail.head
 have strip : ∀{d:D}{v:Value},ag w g d v->sg d=true/\uI (sd d)=true->v = .bool (bv (sd d)):=by
  intro d v hd ⟨hs,he⟩;have key : ∀{d:D},ag w g d v->uI d=true->v = .bool (bv d):=by
   intro d hd he
   cases hd with
   | v=>cases v<;>first|rfl|cases he
   | _=>cases he
  cases hd with
  | cond b d x ht hf=>exact key (ht hs) he
  | v=>exact key (.v _) he
  | _=>cases he
 have s1:=strip r1 q1
 refine⟨.bool (bif bv (sd dc)then bv (sd dx)else bv (sd dy)),g,w,.inl ?_,.v _,hm,aB.refl _ _,λ_ h=>.inl h⟩
 cases hcc:bv (sd dc)with
 | true=>have s2:=strip r2 (q2 hcc);simp[execOp,s1,s2,asBool,hcc]
 | false=>have s3:=strip r3 (q3 hcc);simp[execOp,s1,s3,asBool,hcc]
end Go.DL
namespace Go.DL
variable [Dr]
open Go.RowKit
variable {P : Program}
theorem o6{d:D}:∀{ds:List D},bV ds=true->d∈ds->d.nr=true
 | [],_,h=>by cases h
 | e::ds,h,hm=>by
  simp only[bV,XT]at h
  rcases Yz.1 hm with rfl|hm
  . exact h.1
  exact o6 h.2 hm
theorem BA{d:List D}:∀{ds:List (List D)},bg ds=true->d∈ds->bV d=true
 | [],_,h=>by cases h
 | e::ds,h,hm=>by
  simp only[bg,XT]at h
  rcases Yz.1 hm with rfl|hm
  . exact h.1
  exact BA h.2 hm
theorem OC : ∀(a b:List (List D)),bg (a++b)=(bg a&&bg b)
 | [],b=>by simp[bg]
 | x::a,b=>by simp[bg,OC a b,Zp]
theorem ag.clean{w:World}{g g':Mem}{d:D}{v:Value}(h:ag w g d v)(hn:d.nr=true)(hI : ∀b,g.I b->g'.I b):ag w g' d v:=by
 induction h with
 | v x=>exact .v x
 | agg ds vs hl _ ih=>exact .agg ds vs hl λi d x h1 h2=>ih i d x h1 h2 (o6 hn (X7 h1))
 | tuple ds vs hl _ ih=>exact .tuple ds vs hl λi d x h1 h2=>ih i d x h1 h2 (o6 hn (X7 h1))
 | iface t d x _ ih=>exact .iface t d x (ih hn)
 | empty full a cap hf hm=>exact .empty full a cap hf hm
 | list full rows ad cap size cv hi hl hf hm hs hc _ ih=>exact .list full rows ad cap size cv (hI _ hi) hl hf hm hs hc λi j r d h1 h2=>ih i j r d h1 h2 (o6 (BA hn (X7 h1)) (X7 h2))
 | eptr cs p cv hi hc _ ih=>exact .eptr cs p cv (hI _ hi) hc λj d h1=>ih j d h1 (o6 hn (X7 h1))
 | mrow=>simp[D.nr]at hn
 | mptr=>simp[D.nr]at hn
 | mp=>simp[D.nr]at hn
 | fmap kv b es aV hi hb hl _ ih=>exact .fmap kv b es aV (hI _ hi) hb hl λi d x h1 h2=>ih i d x h1 h2 (o6 hn (X7 h1))
 | fn f first aP fs cs hf hc _ _ ih1 ih2 =>
  simp only[D.nr,XT]at hn;exact .fn f first aP fs cs hf hc (λi d x h1 h2=>ih1 i d x h1 h2 (o6 hn.1 (X7 h1))) (λi d x h1 h2=>ih2 i d x h1 h2 (o6 hn.2 (X7 h1)))
 | cond b d x _ hf ih=>exact .cond b d x (λhb=>ih hb hn) hf
 | junk x=>exact .junk x
mutual
theorem Di : ∀d:D,d.nr=true->(wk d).nr=true
 | .agg cs,h=>zh cs h
 | .list _ rows,h=>Lr rows h
 | .eptr cs,h=>zh cs h
 | .tuple ds,h=>zh ds h
 | .iface _ d,h=>Di d h
 | .v _,h=>h
 | .mrow _ _ _,h=>h
 | .mptr _ _ _,h=>h
 | .mp _,h=>h
 | .fmap kv,h=>zh kv h
 | .fn _ _ _,h=>h
 | .cond _ _,h=>h
 | .junk,h=>h
theorem zh : ∀ds:List D,bV ds=true->bV (dV ds)=true
 | [],_=>rfl
 | d::ds,h=>by
  simp only[bV,dV,XT]at h ⊢;exact⟨Di d h.1,zh ds h.2⟩
theorem Lr : ∀ds:List (List D),bg ds=true->bg (dK ds)=true
 | [],_=>rfl
 | d::ds,h=>by
  simp only[bg,dK,XT]at h ⊢;exact⟨zh d h.1,Lr ds h.2⟩
end
mutual
def D.rin(U:Nat->Prop):D->Prop
 | .v _=>True
 | .agg cs=>wh U cs
 | .list _ rows=>M4 U rows
 | .eptr cs=>wh U cs
 | .mrow r _ _=>U r
 | .mptr r _ _=>U r
 | .mp r=>U r
 | .fmap kv=>wh U kv
 | .fn _ a b=>wh U a/\wh U b
 | .tuple ds=>wh U ds
 | .iface _ d=>d.rin U
 | .cond b d=>b=true->d.rin U
 | .junk=>True
def wh(U:Nat->Prop):List D->Prop
 | []=>True
 | d::ds=>d.rin U/\wh U ds
def M4(U:Nat->Prop):List (List D)->Prop
 | []=>True
 | r::rs=>wh U r/\M4 U rs
end
def aG.clean{w:World}{g g':Mem}{ds:List D}{vs:List Value}(h:aG w g ds vs)(hn:ds.all D.nr=true)(hI : ∀b,g.I b->g'.I b):aG w g' ds vs :=
 ⟨h.1,λi d x h1 h2=>(h.2 i d x h1 h2).clean (Yg.1 hn d (X7 h1)) hI⟩
def QL{w w':World}{g g':Mem}{d:D}{v:Value}(h:ag w g d v)(hf:JU d=true):ag w' g' d v:=by
 cases h<;>simp[JU]at hf
 exact .v _
def QJ{w w':World}{g g':Mem}{d:D}{v:Value}(h:ag w g d v)(hf:flat d=true):ag w' g' d v:=by
 cases h<;>simp only[flat]at hf<;>try (cases hf;done)
 . exact .v _
 .
  rename_i ds vs hl hv
  exact .agg ds vs hl λi d x h1 h2=>QL (hv i d x h1 h2) (Yg.1 hf d (X7 h1))
 rename_i ds vs hl hv
 exact .tuple ds vs hl λi d x h1 h2=>QL (hv i d x h1 h2) (Yg.1 hf d (X7 h1))
def jy(P:Program)[aa P](f:FuncId):Bool:=match P.funcs[f]? with
 | some fn => fn.body.isSome && fn.name != "runtime.NumGoroutine"
 | none=>false
def gq(I:Nat->Prop):Mem:=⟨λ_=>none,λ_=>False,I⟩
structure xI(w w':World):Prop where
 os:w'.os=w.os
 tape:w'.tape=w.tape
 output:w'.output=w.output
 size:w.heap.size<=w'.heap.size
 drawn:Dr.dr->w.drawn<=w'.drawn
 block : ∀k,k<w.heap.size->w'.heap[k]? = w.heap[k]?
def PureCt(P:Program)[aa P](f:FuncId)(args:List D)(res:D):Prop :=
 jy P f=true/\args.all D.nr=true /\ ∀(w:World)(I:Nat->Prop)(vs:List Value),(∀b,I b->b<w.heap.size)->Gr P I w->aG w (gq I) args vs ->
  CallsIn Fence.wide 0 P f vs.toArray w λe w'=>∃v,e = .returned v/\xI w w'/\ag w' (gq λb=>I b\/(w.heap.size<=b/\b<w'.heap.size)) res v
def Ct(P:Program)[aa P](f:FuncId)(args:List D)(h:H)(b:Nat)(res:D)(h':H):Prop :=
 jy P f=true /\ ∀(w:World)(g:Mem)(vs:List Value)(n:Nat),HM P h g w->(∀r,g.U r->r<n) -> ¬g.U b->aG w g args vs ->
  CallsIn Fence.wide 0 P f vs.toArray w λe w'=>∃v g',e = .returned v/\ag w' g' res v/\HM P h' g' w'/\aB g g' w w' /\ ∀r,g'.U r->g.U r\/r=b
def words(P:Program)[aa P]:bf:={ pureCt:=PureCt P,ct:=Ct P }
theorem y7 [aa P]{f:FuncId}(h:jy P f=true)(args:Array Value)(w:World):(callFunc f args).run P w = .ok (.enter f args) w:=by
 unfold jy at h
 split at h
 .
  rename_i fn hf
  simp only[XT,ZE]at h;obtain⟨h1,h2⟩:=h;have h3:fn.body≠none:=by intro e;rw[e]at h1;cases h1
  simp[callFunc,hf,h2,h3]
 cases h
def ll(g:Mem):Mem:={ g with I:=λb=>g.I b \/ ∃r c s,g.M r=some (some b,c,s) }
def nz{g:Mem}{w:World}{d:D}{v:Value}(h:ag w g d v):ag w (ll g) d v:=by
 refine ag.mono ?_ ?_ ?_ h
 . exact λb hb=>⟨Or.inl hb,rfl⟩
 . exact λ_ h=>h
 exact λ_ _=>Or.inl rfl
theorem FO [aa P]{h:H}{g:Mem}{w:World}(hm:HM P h g w){r off len:Nat}{x:Value}(hr:ag w (ll g) (.mrow r off len) x)(ho:(h r).isSome=true/\(aj (.mrow r off len) h).length=len) :
  ag w (ll g) (.list false (aj (.mrow r off len) h)) x:=by
 have hmono : ∀{d:D}{v:Value},ag w g d v->ag w (ll g) d v:=λh=>nz h
 cases hr with
 | mrow r off len x hx hU hv =>
  obtain⟨o1,o2⟩:=ho;obtain⟨bl,hbl⟩:=Yq.1 o1;simp only[aj,hbl]at o2 ⊢;obtain⟨blk,c,h1,h2,h3,h4,h5⟩:=hm.blk r bl hbl;obtain⟨h6,h7⟩:=hv _ _ _ h1
  rcases h7 with⟨rfl,a,rfl⟩|⟨hne,b,rfl,rfl⟩
  .
   have:len=0:=by omega
   subst this;have:(bl.rows.drop c).take 0=[]:=by simp
   rw[this];exact .empty false a 0 (λh=>by cases h) (by simp[maxLen])
  rcases h5 with⟨h5,_⟩|⟨b',cur,h5,k1,k2,k3,k4⟩
  . cases h5
  cases h5
  by_cases hz:len=0
  .
   subst hz;have:(bl.rows.drop off).take 0=[]:=by simp
   rw[this];exact .empty false _ _ (λh=>by cases h) om
  have hle:off+len<=bl.rows.length:=by simp at o2;omega
  have hget : ∀(i:Nat)row,((bl.rows.drop off).take len)[i]? = some row->bl.rows[off+i]? = some row:=by
   intro i row hi;rw[Y6]at hi
   split at hi
   . rwa [YO]at hi
   cases hi
  have hex : ∀i j,∃u,∀row d,bl.rows[off+i]? = some row->row[j]? = some d->cur[(off+i)*P.cellsOf bl.ty+j]? = some u/\u.oneCell'=true/\ag w g d u:=by
   intro i j
   by_cases hh : ∃row d,bl.rows[off+i]? = some row/\row[j]? = some d
   .
    obtain⟨row,d,q1,q2⟩:=hh;obtain⟨u,q3⟩:=(k4 _ row q1).2 j d q2;refine⟨u,λrow' d' q1' q2'=>?_⟩
    rw[q1]at q1';cases q1'
    rw[q2]at q2';cases q2'
    exact q3
   exact⟨undef,λrow d q1 q2=>absurd ⟨row,d,q1,q2⟩ hh⟩
  generalize hcv:(λi j=>Classical.choose (hex i j))=cv
  have Qi : ∀i j row d,bl.rows[off+i]? = some row->row[j]? = some d->cur[(off+i)*P.cellsOf bl.ty+j]? = some (cv i j)/\(cv i j).oneCell'=true/\ag w g d (cv i j):=by
   intro i j;rw[<-hcv];exact Zd (hex i j)
  have hlen:len=((bl.rows.drop off).take len).length:=o2.symm;generalize hrows:(bl.rows.drop off).take len=rows at *;subst hlen;refine .list false rows ⟨b,off*P.cellsOf bl.ty,none⟩ _ (P.cellsOf bl.ty) cv (.inr ⟨r,_,_,h1⟩) om (λh=>by cases h) om (λrow hrow=>?_) (λi j row d q1 q2=>?_) (λi j row d q1 q2=>hmono (Qi i j row d (hget i row q1) q2).2.2)
  . obtain⟨i,hi,rfl⟩:=YN hrow;exact(k4 _ _ (hget i _ (X6 hi))).1
  obtain⟨q3,q4,_⟩:=Qi i j row d (hget i row q1) q2;refine⟨?_,q4⟩;rw[kT,cell_of_row w b _ cur bl.ty (0,0) (k1.cells h6.2),<-q3,Ze]
  congr 1;omega
theorem ZeO [aa P]{h:H}{g:Mem}{w:World}(hm:HM P h g w){d:D}{v:Value}(hr:ag w (ll g) d v)(ho:pE h d):ag w (ll g) (qz h d) v:=by
 cases d with
 | mrow r off len=>exact FO hm hr ho
 | _=>exact hr
theorem Ki [aa P]{h:H}{g:Mem}{w:World}(hm:HM P h g w){r i off:Nat}{x:Value}(hr:ag w (ll g) (.mptr r i off) x)(ho:(h r).isSome=true /\ ∀c∈eD (.mptr r i off) h,pE h c) :
  ag w (ll g) (.eptr ((eD (.mptr r i off) h).map (qz h))) x:=by
 obtain⟨o1,o2⟩:=ho
 obtain⟨bl,hbl⟩:=Yq.1 o1
 simp only[eD,hbl]at o2 ⊢
 cases hr with|mptr _ _ _ x hx hU hv =>
 obtain⟨blk,c,h1,h2,h3,h4,h5⟩:=hm.blk r bl hbl
 obtain⟨hcm,b,rfl,rfl⟩:=hv _ _ _ h1
 rcases h5 with⟨h5,_⟩|⟨b',cur,h5,k1,k2,k3,k4⟩
 . cases h5
 cases h5
 have key : ∀j d,((bl.rows.getD i []).drop off)[j]? = some d -> ∃u,cur[i*P.cellsOf bl.ty+off+j]? = some u/\ag w g d u:=by
  intro j d hd;rw[YO]at hd
  cases fI:bl.rows[i]? with
  | none=>rw[List.getD,fI]at hd;simp at hd
  | some row =>
   rw[List.getD,fI,YD]at hd;obtain⟨u,p1,_,p3⟩:=(k4 i row fI).2 (off+j) d hd;exact⟨u,by rw[Nat.add_assoc];exact p1,p3⟩
 refine .eptr _ _ (λj=>cur.getD (i*P.cellsOf bl.ty+off+j) undef) (.inr ⟨r,_,_,h1⟩) (λj d hd=>?_) (λj d hd=>?_)
 .
  obtain⟨d',e1,rfl⟩:=fA hd;obtain⟨u,p1,p2⟩:=key j d' e1;rw[kT,cell_of_row w b _ cur bl.ty (0,0) (k1.cells hcm),p1]
  simp[Y4,p1]
 obtain⟨d',e1,rfl⟩:=fA hd
 obtain⟨u,p1,p2⟩:=key j d' e1
 have e2:cur.getD (i*P.cellsOf bl.ty+off+j) undef=u:=by simp[Y4,p1]
 rw[e2]
 exact ZeO hm (nz p2) (o2 d' (X7 e1))
theorem R7 [aa P]{h:H}{g:Mem}{w:World}(hm:HM P h g w){d:D}{v:Value}(hr:ag w (ll g) d v)(ho:uY h d):ag w (ll g) (uZ h d) v:=by
 cases d with
 | mrow r off len=>exact FO hm hr ho
 | mptr r i off=>exact Ki hm hr ho
 | _=>exact hr
theorem Kh [aa P]{h:H}{g:Mem}{w:World}(hm:HM P h g w){d:D}{v:Value}(hr:ag w (ll g) d v)(ho:jD h d) :
  ag w (ll g) (deref h d) v:=by
 cases d with
 | mrow r off len=>exact FO hm hr ho
 | mptr r i off=>exact Ki hm hr ho
 | fn f a b =>
  cases hr with
  | fn _ _ _ fs cs hf hc h1 h2 =>
   refine .fn f _ _ fs cs (by simpa using hf) (by simpa using hc) (λi d x e1 e2=>?_) (λi d x e1 e2=>?_)
   . obtain⟨d',e3,rfl⟩:=fA e1;exact R7 hm (h1 i d' x e3 e2) (ho.1 d' (X7 e3))
   obtain⟨d',e3,rfl⟩:=fA e1;exact R7 hm (h2 i d' x e3 e2) (ho.2 d' (X7 e3))
 | _=>exact hr
def ZeM [aa P]{h:H}{g:Mem}{w:World}(hm:HM P h g w){d:D}{v:Value}(hr:ag w g d v)(ho:jD h d):ag w (ll g) (deref h d) v:=Kh hm (nz hr) ho
def ZeN{h:H}{d:D}(hd:wU d=false):uZ h d=d:=by cases d<;>first|rfl|cases hd
theorem R6{h:H}{ds:List D}(hd:ds.any wU=false):ds.map (uZ h)=ds:=by
 rw[List.any_eq_false]at hd
 conv=>rhs;rw[<-List.map_id ds]
 exact YK λd hm=>ZeN (by have:=hd d hm;simpa using this)
theorem R5{h:H}{d:D}(hd:iG d=false):deref h d=d:=by
 cases d<;>first|rfl|(cases hd;done)|skip
 rename_i f a b
 simp only[iG,Ya]at hd
 simp only[deref,R6 hd.1,R6 hd.2]
theorem Np [aa P]{h:H}{g:Mem}{w:World}(hm:HM P h g w){k:FuncId}{zs:List D}{vs:List Value}{res:D}(hzs:aG w g zs vs)(hct:PureCt P k (zs.map (jC h)) res)(hfl:zs.any iG=true->flat res=true /\ ∀y∈zs,jD h y) :
  CallsIn Fence.wide 0 P k vs.toArray w λe w'=>∃v g',e = .returned v/\ag w' g' res v/\HM P h g' w'/\aB g g' w w' /\ ∀r,g'.U r->g.U r:=by
 obtain⟨hbd,hnr,hct⟩:=hct
 by_cases hmr:zs.any iG=true
 .
  obtain⟨f1,f2⟩:=hfl hmr;have hds:aG w (ll g) (zs.map (jC h)) vs:=by
   refine⟨by simpa using hzs.1,λi d x h1 h2=>?_⟩
   rw[Ym]at h1
   cases hi:zs[i]? with
   | none=>rw[hi]at h1;cases h1
   | some y =>
    rw[hi]at h1;simp at h1;subst h1;exact(ZeM hm (hzs.2 i y x hi h2) (f2 y (X7 hi))).wk
  refine(hct w (λb=>g.I b \/ ∃r c s,g.M r=some (some b,c,s)) _ (λb hb=>?_) (hm.gr.later λb hb=>⟨.inl hb,rfl⟩) (hds.clean hnr λ_ h=>h)).mono ?_
  .
   rcases hb with hb|⟨r,c,s,hb⟩
   . exact hm.imm b hb
   exact(lT hm hb).1
  rintro e w' ⟨v,rfl,hbel,hv⟩;have mono:aB g g w w':=⟨hbel.os,hbel.tape,hbel.output,hbel.size,hbel.drawn,λ_ h=>h,λ_ _=>.inl rfl,λr b c s h=>.inl ⟨r,c,s,h⟩,λ_ h=>h,λ_ h=>.inl h,λb hb _=>hbel.block b hb⟩
  refine⟨v,g,rfl,QJ hv f1,⟨hm.dead,λr bl hr=>?_,hm.inj,hm.used,λb hb=>Y5 (hm.imm b hb) hbel.size,hm.gr.later (hm.kept mono)⟩,mono,λ_ h=>h⟩
  obtain⟨blk,c,h1,h2,h3,h4,h5⟩:=hm.blk r bl hr;refine⟨blk,c,h1,h2,h3,h4,?_⟩
  rcases h5 with h5|⟨b,cur,rfl,h6,h7,h8,h9⟩
  . exact .inl h5
  refine .inr ⟨b,cur,rfl,by rw[hbel.block b (lT hm h1).1];exact h6,h7,h8,λi row hi=>⟨(h9 i row hi).1,λj d hd=>?_⟩⟩
  obtain⟨u,k3,k4,k5⟩:=(h9 i row hi).2 j d hd;exact⟨u,k3,k4,k5.later hm mono⟩
 have hzs:aG w g (zs.map (jC h)) vs:=by
  refine⟨by simpa using hzs.1,λi d x h1 h2=>?_⟩
  obtain⟨y,h3,rfl⟩:=fA h1;have hy:iG y=false:=by
   cases hq:iG y with
   | false=>rfl
   | true=>exact absurd (Zz.2 ⟨y,X7 h3,hq⟩) hmr
  have:deref h y=y:=R5 hy
  show ag w g (wk (deref h y)) x
  rw[this];exact(hzs.2 i y x h3 h2).wk
 refine(hct w g.I _ hm.imm hm.gr (hzs.clean hnr λ_ h=>h)).mono ?_
 rintro e w' ⟨v,rfl,hbel,hv⟩
 let g':Mem:={ g with I:=λb=>g.I b\/(w.heap.size<=b/\b<w'.heap.size) }
 have mono:aB g g' w w':=⟨hbel.os,hbel.tape,hbel.output,hbel.size,hbel.drawn,λ_ h=>h,λ_ _=>.inl rfl,λr b c s h=>.inl ⟨r,c,s,h⟩,λ_ h=>.inl h,λb h=>by rcases h with h|h;exact .inl h;exact .inr (.inl h.1),λb hb _=>hbel.block b hb⟩
 refine⟨v,g',rfl,by refine ag.mono ?_ ?_ ?_ hv;exact λb hb=>⟨hb,rfl⟩;exact λ_ h=>False.elim h;exact λ_ h=>False.elim h,⟨hm.dead,λr bl hr=>?_,hm.inj,hm.used,λb hb=>?_,hm.gr.later (hm.kept mono)⟩,mono,λ_ h=>h⟩
 .
  obtain⟨blk,c,h1,h2,h3,h4,h5⟩:=hm.blk r bl hr;refine⟨blk,c,h1,h2,h3,h4,?_⟩
  rcases h5 with h5|⟨b,cur,rfl,h6,h7,h8,h9⟩
  . exact .inl h5
  have hlt:=(lT hm h1).1;refine .inr ⟨b,cur,rfl,by rw[hbel.block b hlt];exact h6,h7,λhI=>?_,λi row hi=>⟨(h9 i row hi).1,λj d hd=>?_⟩⟩
  .
   rcases hI with hI|hI
   . exact h8 hI
   omega
  obtain⟨u,k3,k4,k5⟩:=(h9 i row hi).2 j d hd;exact⟨u,k3,k4,k5.later hm mono⟩
 rcases hb with hb|hb
 . exact Y5 (hm.imm b hb) hbel.size
 exact hb.2
theorem PR{ys:List D}{h:H}(hn:ys.any iG=false):ys.map (jC h)=ys.map wk:=by
 rw[List.any_eq_false]at hn
 exact YK λd hd=>by
  have:=hn d hd;simp only[Bool.not_eq_true]at this
  show wk (deref h d)=wk d
  rw[R5 this]
def IX(g:Mem):Mem:=gq λb=>g.I b \/ ∃r c s,g.M r=some (some b,c,s)
theorem nC{ds:List D}(h : ∀d∈ds,d.nr=true):bV ds=true:=by
 induction ds with
 | nil=>rfl
 | cons d ds ih=>simp[bV,h d (by simp),ih λd hd=>h d (by simp[hd])]
theorem Ep{ds:List (List D)}(h : ∀d∈ds,bV d=true):bg ds=true:=by
 induction ds with
 | nil=>rfl
 | cons d ds ih=>simp[bg,h d (by simp),ih λd hd=>h d (by simp[hd])]
theorem Mt [aa P]{h:H}{g:Mem}{w:World}(hm:HM P h g w):∀(k:Nat)(d:D)(v:Value),ag w (ll g) d v->d9 h k d->ag w (IX g) (ed h k d) v/\(ed h k d).nr=true:=by
 intro k
 induction k with
 | zero=>exact λd v hr ho=>⟨hr.clean ho λb hb=>hb,ho⟩
 | succ k ih =>
  intro d v hr ho
  cases d with
  | mrow r off len =>
   obtain⟨o1,o2⟩:=ho;have hd:=Kh hm hr o1;simp only[deref]at hd;simp only[ed];generalize aj (.mrow r off len) h=rows at hd o2 ⊢;refine⟨?_,?_⟩
   .
    cases hd with
    | empty _ a cap hf hmx=>exact .empty false a cap hf hmx
    | list _ _ ad cap size cv hI hl hf hmx hs hc hrr =>
     have e:rows.length=(rows.map λrow=>row.map (ed h k)).length:=by simp
     rw[e];refine .list false _ ad cap size cv hI (by simpa using hl) (λh=>by cases h) hmx (λrow hrow=>?_) (λi j row d h1 h2=>?_) (λi j row d h1 h2=>?_)
     .
      simp only[Yi]at hrow;obtain⟨row',h1,rfl⟩:=hrow
      simpa using hs row' h1
     .
      rw[Ym]at h1
      cases fI:rows[i]? with
      | none=>rw[fI]at h1;cases h1
      | some row' =>
       rw[fI]at h1;simp at h1;subst h1;rw[Ym]at h2
       cases mo:row'[j]? with
       | none=>rw[mo]at h2;cases h2
       | some d'=>exact hc i j row' d' fI mo
     rw[Ym]at h1
     cases fI:rows[i]? with
     | none=>rw[fI]at h1;cases h1
     | some row' =>
      rw[fI]at h1;simp at h1;subst h1;rw[Ym]at h2
      cases mo:row'[j]? with
      | none=>rw[mo]at h2;cases h2
      | some d' =>
       rw[mo]at h2;simp at h2;subst h2;exact(ih d' _ (hrr i j row' d' fI mo) (o2 row' (X7 fI) d' (X7 mo))).1
   refine Ep λrow hrow=>nC λd hd'=>?_
   simp only[Yi]at hrow;obtain⟨row',h1,rfl⟩:=hrow;simp only[Yi]at hd';obtain⟨d',h2,rfl⟩:=hd'
   cases hd with
   | empty=>cases h1
   | list _ _ ad cap size cv hI hl hf hmx hs hc hrr =>
    obtain⟨i,hi⟩:=YG h1;obtain⟨j,hj⟩:=YG h2;exact(ih d' _ (hrr i j row' d' hi hj) (o2 row' h1 d' h2)).2
  | agg cs =>
   obtain⟨vs,rfl,hv⟩:=hr.agg_inv;simp only[ed];refine⟨.mk_agg ⟨by simpa using hv.1,λi d x h1 h2=>?_⟩,nC λd hd=>?_⟩
   .
    rw[Ym]at h1
    cases hci:cs[i]? with
    | none=>rw[hci]at h1;cases h1
    | some c =>
     rw[hci]at h1;simp at h1;subst h1;exact(ih c x (hv.2 i c x hci h2) (ho c (X7 hci))).1
   simp only[Yi]at hd;obtain⟨c,h1,rfl⟩:=hd;obtain⟨i,hi⟩:=YG h1;have hlt:i<vs.toList.length:=by rw[<-hv.1];exact(X0.1 hi).1
   exact(ih c _ (hv.2 i c _ hi (X6 hlt)) (ho c h1)).2
  | tuple cs =>
   obtain⟨vs,rfl,hv⟩:=hr.tuple_inv;simp only[ed];refine⟨.mk_tuple ⟨by simpa using hv.1,λi d x h1 h2=>?_⟩,nC λd hd=>?_⟩
   .
    rw[Ym]at h1
    cases hci:cs[i]? with
    | none=>rw[hci]at h1;cases h1
    | some c =>
     rw[hci]at h1;simp at h1;subst h1;exact(ih c x (hv.2 i c x hci h2) (ho c (X7 hci))).1
   simp only[Yi]at hd;obtain⟨c,h1,rfl⟩:=hd;obtain⟨i,hi⟩:=YG h1;have hlt:i<vs.toList.length:=by rw[<-hv.1];exact(X0.1 hi).1
   exact(ih c _ (hv.2 i c _ hi (X6 hlt)) (ho c h1)).2
  | iface t d =>
   cases hr with
   | iface _ _ x h1 =>
    obtain⟨q1,q2⟩:=ih d x h1 ho;exact⟨.iface t _ x q1,q2⟩
  | mptr r i off =>
   obtain⟨o1,o2⟩:=ho;obtain⟨bl,hbl⟩:=Yq.1 o1;simp only[ed];have ecs:eD (.mptr r i off) h=(bl.rows.getD i []).drop off:=by simp only[eD,hbl]
   rw[ecs]at o2 ⊢
   cases hr with|mptr _ _ _ x hx hU hv =>
   obtain⟨blk,c,h1,h2,h3,h4,h5⟩:=hm.blk r bl hbl;obtain⟨hcm,b,rfl,rfl⟩:=hv _ _ _ h1
   rcases h5 with⟨h5,_⟩|⟨b',cur,h5,k1,k2,k3,k4⟩
   . cases h5
   cases h5
   have key : ∀j d,((bl.rows.getD i []).drop off)[j]? = some d -> ∃u,cur[i*P.cellsOf bl.ty+off+j]? = some u/\ag w g d u:=by
    intro j d hd;rw[YO]at hd
    cases fI:bl.rows[i]? with
    | none=>rw[List.getD,fI]at hd;simp at hd
    | some row =>
     rw[List.getD,fI,YD]at hd;obtain⟨u,p1,_,p3⟩:=(k4 i row fI).2 (off+j) d hd;exact⟨u,by rw[Nat.add_assoc];exact p1,p3⟩
   refine⟨.eptr _ _ (λj=>cur.getD (i*P.cellsOf bl.ty+off+j) undef) (.inr ⟨r,_,_,h1⟩) (λj d hd=>?_) (λj d hd=>?_),nC λd hd=>?_⟩
   .
    obtain⟨d',e1,rfl⟩:=fA hd;obtain⟨u,p1,p2⟩:=key j d' e1;rw[kT,cell_of_row w b _ cur bl.ty (0,0) (k1.cells hcm),p1]
    simp[Y4,p1]
   .
    obtain⟨d',e1,rfl⟩:=fA hd;obtain⟨u,p1,p2⟩:=key j d' e1;have e2:cur.getD (i*P.cellsOf bl.ty+off+j) undef=u:=by simp[Y4,p1]
    rw[e2];exact(ih d' u (nz p2) (o2 d' (X7 e1))).1
   obtain⟨d',e1,rfl⟩:=Yi.1 hd;obtain⟨j,hj⟩:=YG e1;obtain⟨u,p1,p2⟩:=key j d' hj;exact(ih d' u (nz p2) (o2 d' e1)).2
  | fn f a b =>
   cases hr with
   | fn _ _ _ fs cs hf hc h1 h2 =>
    simp only[ed];refine⟨.fn f _ _ fs cs (by simpa using hf) (by simpa using hc) (λi d x e1 e2=>?_) (λi d x e1 e2=>?_),?_⟩
    . obtain⟨d',e3,rfl⟩:=fA e1;exact(ih d' x (h1 i d' x e3 e2) (ho.1 d' (X7 e3))).1
    . obtain⟨d',e3,rfl⟩:=fA e1;exact(ih d' x (h2 i d' x e3 e2) (ho.2 d' (X7 e3))).1
    simp only[D.nr,XT];refine⟨nC λd hd=>?_,nC λd hd=>?_⟩
    .
     obtain⟨d',e1,rfl⟩:=Yi.1 hd;obtain⟨i,hi⟩:=YG e1;have hlt:i<fs.size:=by rw[<-hf];exact(X0.1 hi).1
     exact(ih d' _ (h1 i d' _ hi (Zg hlt)) (ho.1 d' e1)).2
    obtain⟨d',e1,rfl⟩:=Yi.1 hd;obtain⟨i,hi⟩:=YG e1;have hlt:i<cs.size:=by rw[<-hc];exact(X0.1 hi).1
    exact(ih d' _ (h2 i d' _ hi (Zg hlt)) (ho.2 d' e1)).2
  | _=>exact⟨hr.clean ho λb hb=>hb,ho⟩
def Ms [aa P]{h:H}{g:Mem}{w:World}(hm:HM P h g w){k:FuncId}{ys:List D}{vs:List Value}{res:D}(hys:aG w g ys vs)(hct:PureCt P k (ys.map (pR h)) res)(hfl:flat res=true)(hso : ∀y∈ys,d9 h 5 y) :
  CallsIn Fence.wide 0 P k vs.toArray w λe w'=>∃v g',e = .returned v/\ag w' g' res v/\HM P h g' w'/\aB g g' w w' /\ ∀r,g'.U r->g.U r:=by
 obtain⟨hbd,hnr,hct⟩:=hct
 have hds:aG w (IX g) (ys.map (pR h)) vs:=by
  refine⟨by simpa using hys.1,λi d x h1 h2=>?_⟩
  obtain⟨y,h3,rfl⟩:=fA h1;exact(Mt hm 5 y x (nz (hys.2 i y x h3 h2)) (hso y (X7 h3))).1.wk
 refine(hct w (λb=>g.I b \/ ∃r c s,g.M r=some (some b,c,s)) _ (λb hb=>?_) (hm.gr.later λb hb=>⟨.inl hb,rfl⟩) hds).mono ?_
 .
  rcases hb with hb|⟨r,c,s,hb⟩
  . exact hm.imm b hb
  exact(lT hm hb).1
 rintro e w' ⟨v,rfl,hbel,hv⟩
 have mono:aB g g w w':=⟨hbel.os,hbel.tape,hbel.output,hbel.size,hbel.drawn,λ_ h=>h,λ_ _=>.inl rfl,λr b c s h=>.inl ⟨r,c,s,h⟩,λ_ h=>h,λ_ h=>.inl h,λb hb _=>hbel.block b hb⟩
 refine⟨v,g,rfl,QJ hv hfl,⟨hm.dead,λr bl hr=>?_,hm.inj,hm.used,λb hb=>Y5 (hm.imm b hb) hbel.size,hm.gr.later (hm.kept mono)⟩,mono,λ_ h=>h⟩
 obtain⟨blk,c,h1,h2,h3,h4,h5⟩:=hm.blk r bl hr
 refine⟨blk,c,h1,h2,h3,h4,?_⟩
 rcases h5 with h5|⟨b,cur,rfl,h6,h7,h8,h9⟩
 . exact .inl h5
 refine .inr ⟨b,cur,rfl,by rw[hbel.block b (lT hm h1).1];exact h6,h7,h8,λi row hi=>⟨(h9 i row hi).1,λj d hd=>?_⟩⟩
 obtain⟨u,k3,k4,k5⟩:=(h9 i row hi).2 j d hd
 exact⟨u,k3,k4,k5.later hm mono⟩
theorem ZfR [aa P]{C:aK}{f:Operand}{xs:List D}{h:H}{b:Nat}(hcf:C.cf=true)(hc:(eT (words P) C f xs h b).2.2):eT (words P) C f xs h b=((eT (words P) { C with cf:=false,dp:=false } f xs h b).1,(eT (words P) { C with cf:=false,dp:=false } f xs h b).2.1,(eT (words P) C f xs h b).2.2)/\(eT (words P) { C with cf:=false,dp:=false } f xs h b).2.2:=by
 unfold eT at hc ⊢
 split at hc
 .
  rename_i k d ys
  by_cases hp:C.pure k=true
  . simp only[hp,hcf,Zw,Ye,Y0]at hc ⊢;rw[PR hc.2];exact⟨rfl,hc.1,λh=>by rw[hc.2]at h;cases h⟩
  simp only[hp,hcf,Zw,Y0,Ye]at hc
 .
  rename_i k first aP ys hnf
  by_cases hp:C.pure k=true
  .
   cases f<;>simp only[hp,hcf,Zw,Ye,Y0]at hc ⊢ <;> first
    | (rw[PR hc.2];exact⟨rfl,hc.1,λh=>by rw[hc.2]at h;cases h⟩)
    | exact absurd rfl (hnf _)
  simp only[hp,Y0]at hc;exact hc.elim
 exact hc.elim
theorem Tz [aa P]{C:aK}(hcf:C.cf=false){h:H}{g:Mem}{w:World}(hm:HM P h g w){b n:Nat}(hb : ¬g.U b)(hn : ∀r,g.U r->r<n){f:Operand}{xs:List D}{args:Array Operand}{argTypes:Array TypeId}{o:Oper}(ho:o.op = .call { callee:=.value f,args,argTypes }){ρ:Operand->Value}(hρ : ∀k,ρ (.func k) = .func (.func k) #[] #[])
  (hr:aG w g xs (ρ f::args.toList.map ρ))(hc:(eT (words P) C f xs h b).2.2) :
  ∃k vs,(execOp ρ o).run P w = .ok (.enter k vs) w/\CallsIn Fence.wide 0 P k vs w λe w'=>∃v g',e = .returned v/\ag w' g' (eT (words P) C f xs h b).1 v/\HM P (eT (words P) C f xs h b).2.1 g' w'/\aB g g' w w' /\ ∀r,g'.U r->g.U r\/r=b:=by
 have hex : ∀k fs cs,ρ f = .func (.func k) fs cs->jy P k=true->(execOp ρ o).run P w = .ok (.enter k (fs++args.map ρ++cs)) w:=by
  intro k fs cs hf hbd
  simp[execOp,ho,resolve,Deferred.ofValue,hf,invoke,y7 hbd]
 unfold eT at hc ⊢
 split at hc
 .
  rename_i k d ys
  have hys:aG w g ys (args.toList.map ρ):=hr.tail
  by_cases hp:C.pure k=true
  .
   cases hdp:C.dp with
   | true =>
    simp only[hp,hcf,hdp,Zw,Ye,Y0]at hc ⊢;obtain⟨⟨hbd,hnr,hct⟩,hfl,hso⟩:=hc;have e:=hex k #[] #[] (hρ k) hbd;simp only[Array.empty_append,Array.append_empty]at e;refine⟨k,_,e,?_⟩;have ea:args.map ρ=(args.toList.map ρ).toArray:=by apply Zh;simp
    rw[ea];exact(Ms hm hys ⟨hbd,hnr,hct⟩ hfl hso).mono λe w'⟨v,g',q1,q2,q3,q4,q5⟩=>⟨v,g',q1,q2,q3,q4,λr hr=>.inl (q5 r hr)⟩
   | false =>
   simp only[hp,hcf,hdp,Zw,Ye,Y0]at hc ⊢;obtain⟨⟨hbd,hnr,hct⟩,hfl⟩:=hc;have e:=hex k #[] #[] (hρ k) hbd;simp only[Array.empty_append,Array.append_empty]at e;refine⟨k,_,e,?_⟩;have ea:args.map ρ=(args.toList.map ρ).toArray:=by apply Zh;simp
   rw[ea];exact(Np hm hys ⟨hbd,hnr,hct⟩ hfl).mono λe w'⟨v,g',q1,q2,q3,q4,q5⟩=>⟨v,g',q1,q2,q3,q4,λr hr=>.inl (q5 r hr)⟩
  simp only[hp,hcf,Y0,Ye]at hc ⊢;have hc:=hc b;have e:=hex k #[] #[] (hρ k) hc.1;simp only[Array.empty_append,Array.append_empty]at e;refine⟨k,_,e,?_⟩;have ea:args.map ρ=(args.toList.map ρ).toArray:=by apply Zh;simp
  rw[ea];refine hc.2 w g _ n hm hn hb ⟨by simpa using hys.1,λi d x h1 h2=>?_⟩
  obtain⟨y,h3,rfl⟩:=fA h1;exact(hys.2 i y x h3 h2).wk
 .
  rename_i k first aP ys _
  have hf:=hr.head;generalize hv:ρ f=vf at hf hr
  cases hf with|fn _ _ _ fs cs l1 l2 r1 r2 =>
  have e:fs++args.map ρ++cs=(fs.toList++args.toList.map ρ++cs.toList).toArray:=by apply Zh;simp
  have hzs:aG w g (first++ys++aP) (fs.toList++args.toList.map ρ++cs.toList):=aG.append (aG.append ⟨by simpa using l1,λi d x h1 h2=>r1 i d x h1 (by simpa using h2)⟩ hr.tail) ⟨by simpa using l2,λi d x h1 h2=>r2 i d x h1 (by simpa using h2)⟩
  by_cases hp:C.pure k=true
  .
   cases hdp:C.dp with
   | true =>
    simp only[hp,hcf,hdp,Zw,Ye,Y0]at hc ⊢;refine⟨k,_,hex k fs cs hv hc.1.1,?_⟩;rw[e];exact(Ms hm hzs hc.1 hc.2.1 hc.2.2).mono λe w'⟨v,g',q1,q2,q3,q4,q5⟩=>⟨v,g',q1,q2,q3,q4,λr hr=>.inl (q5 r hr)⟩
   | false =>
   simp only[hp,hcf,hdp,Zw,Ye,Y0]at hc ⊢;refine⟨k,_,hex k fs cs hv hc.1.1,?_⟩;rw[e];exact(Np hm hzs hc.1 hc.2).mono λe w'⟨v,g',q1,q2,q3,q4,q5⟩=>⟨v,g',q1,q2,q3,q4,λr hr=>.inl (q5 r hr)⟩
  simp only[hp,Y0,Ye]at hc
 exact hc.elim
theorem ZfP [aa P]{C:aK}{h:H}{g:Mem}{w:World}(hm:HM P h g w){b n:Nat}(hb : ¬g.U b)(hn : ∀r,g.U r->r<n){f:Operand}{xs:List D}{args:Array Operand}{argTypes:Array TypeId}{o:Oper}(ho:o.op = .call { callee:=.value f,args,argTypes }){ρ:Operand->Value}(hρ : ∀k,ρ (.func k) = .func (.func k) #[] #[])
  (hr:aG w g xs (ρ f::args.toList.map ρ))(hc:(eT (words P) C f xs h b).2.2) :
  ∃k vs,(execOp ρ o).run P w = .ok (.enter k vs) w/\CallsIn Fence.wide 0 P k vs w λe w'=>∃v g',e = .returned v/\ag w' g' (eT (words P) C f xs h b).1 v/\HM P (eT (words P) C f xs h b).2.1 g' w'/\aB g g' w w' /\ ∀r,g'.U r->g.U r\/r=b:=by
 cases hcf:C.cf with
 | false=>exact Tz hcf hm hb hn ho hρ hr hc
 | true =>
  obtain⟨e,h2⟩:=ZfR hcf hc;rw[e];exact Tz (C:={ C with cf:=false,dp:=false }) rfl hm hb hn ho hρ hr h2
end Go.DL
namespace Go.DL
variable [Dr]
open Go.RowKit
variable {P : Program} {C : aK}
def Marks(B:Nat)(g:Mem):List Deferred->World->Prop
 | [],_=>True
 | d::ds,w=>(∃D,d.target = .collected D/\w.heap[D]? = some (.deferred (some []))/\(∀d'∈ds,d'.target ≠ .collected D)/\B<=D /\ ¬g.I D)/\Marks B g ds w
theorem rA [aa P]{h:H}{g:Mem}{w:World}(hm:HM P h g w){D:Nat}{o:Obj}(hD:w.heap[D]? = some o)(ho : ∀c e f,o ≠ .cells c e f)(ho2 : ∀c e,o ≠ .map c e:=by intro c e;simp):∀r c s,g.M r≠some (some D,c,s):=by
 intro r c s e
 cases hr:h r with
 | none=>rw[hm.dead r hr]at e;cases e
 | some bl =>
  obtain⟨blk,c',h1,_,_,_,h5⟩:=hm.blk r bl hr;rw[e]at h1;simp only[XU,Yu]at h1
  rcases h5 with⟨h6,_⟩|⟨b',cur,h6,h7,_⟩
  . rw[<-h1.1]at h6;cases h6
  rw[<-h1.1]at h6;cases h6
  obtain⟨x,hx,hy⟩:=h7.some;rw[hD]at hx;cases hx
  rcases hy with⟨_,_,_,hy⟩|⟨_,_,hy⟩
  . exact ho _ _ _ hy
  exact ho2 _ _ hy
def yt [aa P]{h:H}{g g':Mem}{w w':World}(hm:HM P h g w)(k:aB g g' w w'){D:Nat}{o:Obj}(hD:w.heap[D]? = some o)(ho : ∀c e f,o ≠ .cells c e f)(ho2 : ∀c e,o ≠ .map c e:=by intro c e;simp):w'.heap[D]? = some o:=by
 rw[k.same D (Yb.1 hD).1 (rA hm hD ho ho2)];exact hD
theorem Marks.later [aa P]{h:H}{g g':Mem}{w w':World}(hm:HM P h g w)(k:aB g g' w w'){B:Nat}:∀{ds:List Deferred},Marks B g ds w->Marks B g' ds w'
 | [],_=>trivial
 | d::ds,⟨⟨D,h1,h2,h3,h4,h5⟩,h6⟩=>⟨⟨D,h1,yt hm k h2 (λc e f=>by simp),h3,h4,λhI=>by
   rcases k.inew D hI with e|e|⟨r,c,s,e⟩
   . exact h5 e
   . have:=(Yb.1 h2).1;omega
   exact rA hm h2 (λc e f=>by simp) (λc e=>by simp) r c s e⟩,h6.later hm k⟩
structure bS where
 n:Nat
 ds:List Deferred
 fn : ∀d∈ds,∀D,d.target ≠ .collected D
def bS.of(n:Nat):bS:=⟨n,[],λ_ h=>by simp at h⟩
def iY(B:bS)(g:Mem)(ds:List Deferred)(w:World):Prop:=∃ms,ds=ms++B.ds/\Marks B.n g ms w
theorem iY.map{B:bS}{g g':Mem}{ds:List Deferred}{w w':World}(h:iY B g ds w)(k : ∀ms,Marks B.n g ms w->Marks B.n g' ms w'):iY B g' ds w' :=
 let⟨ms,h1,h2⟩:=h;⟨ms,h1,k ms h2⟩
def iY.start{B:bS}{g:Mem}{w:World}:iY B g B.ds w:=⟨[],rfl,trivial⟩
theorem iY.later [aa P]{h:H}{g g':Mem}{w w':World}(hm:HM P h g w)(k:aB g g' w w'){B:bS}{ds:List Deferred}(hd:iY B g ds w):iY B g' ds w':=hd.map λ_ h=>h.later hm k
def iY.marks{n:Nat}{g:Mem}{ds:List Deferred}{w:World}(h:iY (bS.of n) g ds w):Marks n g ds w:=by
 obtain⟨ms,h1,h2⟩:=h
 rw[h1]
 show Marks n g (ms++[]) w
 rw[YZ]
 exact h2
variable {B : bS}
structure St(P:Program)[aa P](B:bS)(s:S)(g:Mem)(a:Act)(w:World):Prop where
 sz:a.tmps.size=s.n
 tm : ∀i,ag w g (s.t i) (a.tmps.getD i undef)
 mem:HM P s.h g w
 df:iY B g a.defers w
 en:s.e.p g w
 bd:B.n<=w.heap.size
def Fw(ro:Option Nat):Fence:={ Fence.wide with round:=ro }
def AB [aa P]{ro:Option Nat}{f:FuncId}{args:Array Value}{w:World}{R:Ending->World->Prop}{n m:Nat}(h:CallsIn Fence.wide n P f args w R):CallsIn (Fw ro) m P f args w R :=
 ⟨trivial,λcs _=>h.2 cs (room_wide _)⟩
theorem dH [aa P]{s:S}{g:Mem}{a:Act}{w:World}(hs:St P B s g a w)(x:Operand):ag w g (s.ev x) (a.eval x):=by
 cases x with
 | tmp t=>exact hs.tm t
 | const v=>exact Ei w g v
 | global i=>exact .v _
 | func f=>exact .fn (.func f) [] [] #[] #[] rfl rfl (by simp) (by simp)
theorem uV [aa P]{s:S}{g:Mem}{a:Act}{w:World}(hs:St P B s g a w):∀xs:List Operand,aG w g (xs.map s.ev) (xs.map a.eval)
 | []=>.nil
 | x::xs=>.cons (dH hs x) (uV hs xs)
theorem Vk{w:World}{g:Mem}{d:D}{v:Value}(h:ag w g d v)(hs:sg d=true):ag w g (sd d) v:=by
 cases d<;>first|exact h|skip
 cases h with
 | cond _ _ _ ht hf=>exact ht hs
theorem vS{w:World}{g:Mem}:∀{ds:List D}{vs:List Value},aG w g ds vs->ds.all sg=true->aG w g (ds.map sd) vs
 | [],vs,h,_=>by rw[h.of_nil];exact .nil
 | d::ds,vs,h,hs=>by
  obtain⟨x,xs,rfl,h1,h2⟩:=h.of_cons;simp only[List.all_cons,XT]at hs;exact .cons (Vk h1 hs.1) (vS h2 hs.2)
theorem jl [aa P]{s:S}{g g':Mem}{a:Act}{w w':World}(hs:St P B s g a w)(k:aB g g' w w'){h':H}(hm:HM P h' g' w'){dst:Option Tmp}(hd:cu s.n dst=true){d:D}{v:Value}(hv:ag w' g' d v)(ok:Prop) :
  St P B { s with t:=s.put dst d,h:=h',ok:=ok } g' (a.put dst v) w':=by
 refine⟨?_,λi=>?_,hm,?_,Env.later hs.mem k hs.en,Yt hs.bd k.size⟩
 . cases dst<;>simp[Act.put,hs.sz]
 .
  cases dst with
  | none=>exact(hs.tm i).later hs.mem k
  | some j =>
   simp only[cu,XV]at hd;simp only[S.put,Act.put]
   by_cases e:i=j
   .
    subst e;rw[bK];have:(a.tmps.setIfInBounds i v).getD i undef=v:=by
     have:i<a.tmps.size:=by rw[hs.sz];exact hd
     simp[this]
    rw[this];exact hv
   rw[aL _ _ _ _ e];have:(a.tmps.setIfInBounds j v).getD i undef=a.tmps.getD i undef:=by
    simp[Ne.symm e]
   rw[this];exact(hs.tm i).later hs.mem k
 have:(a.put dst v).defers=a.defers:=by cases dst<;>rfl
 rw[this];exact hs.df.later hs.mem k
theorem FE [aa P]{W:bf}{op:Op}{xs:List D}{h:H}{b:Nat}(hc:bA C op ≠ .writes):(aH P W C op xs h b).2.1=h:=by
 unfold aH
 split<;>first
  | rfl
  | (exfalso;exact hc rfl)
  | skip
 .
  have hb:C.bs=false:=by
   cases hb:C.bs with
   | false=>rfl
   | true=>exact absurd (by simp[bA,hb]) hc
  simp only[hb,Ye,Y0];rfl
 rename_i f args argTypes
 unfold eT
 split
 . split<;>first|rfl|(split<;>first|rfl|(split<;>rfl))
 . split<;>first|rfl|(split<;>first|rfl|(split<;>rfl))
 rfl
def Zcw{op:Op}(h:yF op=true):∃f args argTypes,op = .call { callee:=.value f,args,argTypes }:=by
 unfold yF at h
 split at h
 . exact⟨_,_,_,rfl⟩
 cases h
def Ka [aa P]{s:S}{g:Mem}{a:Act}{w:World}(hs:St P B s g a w){b N:Nat}(hb : ¬g.U b)(hN : ∀r,g.U r->r<N){o:Oper}(hc:(au P (words P) C true o.op ((av o.op).map s.ev) s.h b).2.2)
  {ro:Option Nat}{n:Nat}{K:Act->World->Prop}{Q:Exit->Act->World->Prop}
  (hK : ∀v g' w',ag w' g' (au P (words P) C true o.op ((av o.op).map s.ev) s.h b).1 v->HM P (au P (words P) C true o.op ((av o.op).map s.ev) s.h b).2.1 g' w'->aB g g' w w'->(∀r,g'.U r->g.U r\/r=b)->K (a.put o.dst v) w') :
  o.wpIn (Fw ro) n P a w K Q:=by
 have hdef : ∀c,o.op ≠ .defer c:=by
  intro c e;rw[e]at hc
  simp[au,dG,aH]at hc
 have iq:o.semAt (Fw ro).round a.eval=execOp a.eval o:=Oper.semAt_eq _ _ _ hdef
 refine⟨λ_ _=>trivial,?_⟩
 rw[iq]
 have done:Does P g w b ((execOp a.eval o).run P w) (au P (words P) C true o.op ((av o.op).map s.ev) s.h b).1 (au P (words P) C true o.op ((av o.op).map s.ev) s.h b).2.1->o.uponIn (Fw ro) n P a K Q ((execOp a.eval o).run P w):=by
  rintro⟨v,g',w',hr,h1,h2,h3,h4⟩
  rcases hr with hr|⟨hr,rfl⟩
  . rw[hr,Oper.uponIn_value];exact hK v g' w' h1 h2 h3 h4
  rw[hr,Oper.uponIn_skip];exact hK undef g' w' h1 h2 h3 h4
 by_cases hp:dG o.op=true
 . simp only[au,hp,Zw]at hc hK done ⊢;exact done (ZaS hs.mem (uV hs _) hp rfl hc)
 simp only[au,hp,Y0,Ye]at hc hK done
 obtain⟨h1,h2⟩:=hc
 have hx:=vS (uV hs (av o.op)) (h1 trivial)
 by_cases hcall:yF o.op=true
 .
  obtain⟨f,args,argTypes,ho⟩:=Zcw hcall;rw[ho]at h2 hx hK;simp only[aH,av]at h2 hx hK;obtain⟨k,vs,hrun,ZcR⟩:=ZfP hs.mem hb hN ho (λk=>rfl) hx h2
  rw[hrun,Oper.uponIn_enter];refine⟨λh=>by simp[Fw,Fence.wide]at h,AB (ZcR.mono ?_)⟩
  rintro e w' ⟨v,g',rfl,q1,q2,q3,q4⟩;exact hK v g' w' q1 q2 q3 q4
 exact done (Zd2 hs.mem hb hx (by simpa using hcall) h2)
def LH [aa P]{s:S}{g:Mem}{a:Act}{w:World}(hs:St P B s g a w){dst:Option Tmp}(hd:cu s.n dst=true)(d:D)(ok:Prop) :
  St P B { s with t:=s.put dst (.cond false d),ok:=ok } g (a.put dst undef) w :=
 jl hs (aB.refl g w) hs.mem hd (.cond false d undef (λh=>by cases h) (λ_=>rfl)) ok
theorem Qp [aa P]{s:S}{g:Mem}{a:Act}{w:World}(hs:St P B s g a w){ops:Array Oper}{j:Nat}{want:Bool}(hk:jW (((ops.toList[j]?).bind (·.dst)).elim .junk s.t)=true) :
  (yielded ops a.tmps j==some want)=gz (((ops.toList[j]?).bind (·.dst)).elim .junk s.t) want:=by
 rw[YL]at hk ⊢
 unfold yielded
 cases hd:(ops[j]?).bind (·.dst)with
 | none=>rw[hd]at hk;simp[jW]at hk
 | some d =>
  rw[hd]at hk;simp only[Option.elim,Option.bind_some]at hk ⊢;have hr:=hs.tm d;have hv : ∀v,a.tmps.getD d undef=v->v≠undef->a.tmps[d]? = some v:=by
   intro v e hne
   cases hq:a.tmps[d]? with
   | none =>
    have hq':=Array.getElem?_eq_none_iff.1 hq;simp only[Array.getD]at e;rw[dif_neg (by omega)]at e
    exact absurd e.symm hne
   | some x=>simp[hq]at e;rw[e]
  generalize hv0:a.tmps.getD d undef=v0 at hr hv;generalize hd0:s.t d=d0 at hr hk
  cases hr with
  | v x =>
   cases v0<;>simp only[jW]at hk<;>try (cases hk;done)
   rename_i bv
   rw[hv _ rfl (by simp[undef])]
   simp[gz]
  | cond g0 d1 _ ht hf =>
   cases g0 with
   | true =>
    have h1:=ht rfl
    cases h1 with
    | v x =>
     cases v0<;>simp only[jW]at hk<;>try (cases hk;done)
     rename_i bv
     rw[hv _ rfl (by simp[undef])]
     simp[gz]
    | _=>simp[jW]at hk
   | false =>
    have h1:=hf rfl;subst h1
    split
    .
     rename_i b e
     have hlt:=(Yb.1 e).1;rw[Zg hlt]at e;simp only[Array.getD,dif_pos hlt]at hv0;simp only[XU]at e;have:=hv0.symm.trans e
     simp[undef]at this
    have hz:gz (.cond false d1) want=false:=by
     unfold gz
     split
     . rename_i e;cases e
     . rename_i e;cases e;simp
     rfl
    rw[hz];rfl
  | _=>simp[jW]at hk
theorem Cx [aa P]{s:S}{g:Mem}{a:Act}{w:World}(hs:St P B s g a w){b i N:Nat}(hb : ¬g.U (b+i))(hN : ∀r,g.U r->r<N){ops:Array Oper}{o:Oper}(hi:ops[i]? = some o)(hok:(bT P (words P) C ops.toList b i o s).ok)
  {ro:Option Nat}{n:Nat}{K:Act->World->Prop}{Q:Exit->Act->World->Prop}
  (hK : ∀g' a' w',St P B (bT P (words P) C ops.toList b i o s) g' a' w'->aB g g' w w'->(∀r,g'.U r->g.U r\/r=b+i)->K a' w'):wpOpIn (Fw ro) n P ops Q i K a w:=by
 unfold wpOpIn
 rw[hi]
 simp only
 unfold bT at hok hK
 cases hg:o.guard with
 | none =>
  rw[hg]at hok hK;simp only at hok hK;obtain⟨_,h2,h3⟩:=hok;have hw:Region.wanted o (yielded ops a.tmps)=true:=by simp[Region.wanted,hg]
  rw[XY hw];exact Ka hs hb hN h3 λv g' w' h4 h5 h6 h7=>hK g' _ w' (jl hs h6 h5 h2 h4 _) h6 h7
 | some jw =>
  obtain⟨j,want⟩:=jw;rw[hg]at hok hK;simp only at hok hK;obtain⟨_,h2,h3,h4,h5⟩:=hok;have hgv:=Qp hs (want:=want) h3;have hwt:Region.wanted o (yielded ops a.tmps)=gz (((ops.toList[j]?).bind (·.dst)).elim .junk s.t) want:=by simp only[Region.wanted,hg];exact hgv
  rw[hwt];generalize gz (((ops.toList[j]?).bind (·.dst)).elim .junk s.t) want=gv at *
  cases gv with
  | false =>
   rw[XW (by simp)]
   exact⟨λ_ _=>trivial,hK g _ w (LH hs h2 _ _) (aB.refl g w) λ_ h=>.inl h⟩
  | true =>
   rw[XY rfl];have he:(au P (words P) C true o.op ((av o.op).map s.ev) s.h (b+i)).2.1=s.h:=by
    unfold au
    split
    . rfl
    exact FE h4
   refine Ka hs hb hN (h5 rfl) λv g' w' q1 q2 q3 q4=>?_
   rw[he]at q2;exact hK g' _ w' (jl hs q3 q2 h2 (.cond true _ v (λ_=>q1) (λh=>by cases h)) _) q3 q4
def J4 [aa P]{W:bf}{L:List Oper}{b i:Nat}{o:Oper}{s:S}(h:(bT P W C L b i o s).ok):s.ok:=by
 unfold bT at h
 split at h
 . exact h.1
 exact h.1
def xh [aa P]{W:bf}{L:List Oper}{b i:Nat}{o:Oper}{s:S}:(bT P W C L b i o s).n=s.n/\(bT P W C L b i o s).nx=s.nx:=by
 unfold bT
 split<;>exact⟨rfl,rfl⟩
theorem J2 [aa P]{W:bf}{L:List Oper}{b:Nat}:∀{os:List Oper}{i:Nat}{s:S},(bN P W C L b i os s).ok->s.ok
 | [],_,_,h=>h
 | _::_,_,_,h=>J4 (J2 (by exact h))
theorem Zdu [aa P]{ops:Array Oper}{b:Nat}{ro:Option Nat}{n:Nat}{Q:Exit->Act->World->Prop}{w0:World}{g0:Mem}:∀(k i:Nat)(s:S)(g:Mem)(a:Act)(w:World),St P B s g a w->aB g0 g w0 w->(∀r,g.U r->r<b+i) ->
  i+k=ops.size->(bN P (words P) C ops.toList b i (ops.toList.drop i) s).ok ->
  (∀g' a' w',St P B (bN P (words P) C ops.toList b i (ops.toList.drop i) s) g' a' w'->aB g0 g' w0 w'->(∀r,g'.U r->r<b+ops.size)->Q .normal a' w') ->
  wpOpsIn (Fw ro) n P ops Q (List.range' i k) a w:=by
 intro k
 induction k with
 | zero =>
  intro i s g a w hs hm hU hk hok hQ;have:ops.toList.drop i=[]:=YU (by simp;omega)
  rw[this]at hQ;exact hQ g a w hs hm (λr hr=>by have:=hU r hr;omega)
 | succ k ih =>
  intro i s g a w hs hm hU hk hok hQ;have hlt:i<ops.size:=by omega
  have hd:ops.toList.drop i=ops[i]::ops.toList.drop (i+1):=by rw[Yn (by simpa using hlt)];simp
  rw[hd]at hok hQ;simp only[bN]at hok hQ;rw[Zi,wpOpsIn_cons];refine Cx hs (b:=b) (N:=b+i) (λh=>by have:=hU _ h;omega) hU (by simp[hlt]) (J2 hok) λg' a' w' h1 h2 h3=>?_
  exact ih (i+1) _ g' a' w' h1 (hm.trans h2) (λr hr=>by
                                 rcases h3 r hr with h|h;· have:=hU r h;omega
                                 omega) om hok hQ
end Go.DL
namespace Go.DL
variable [Dr]
open Go.RowKit
variable {P : Program} {C : aK} {B : bS}
def U1:Operand->Option Tmp
 | .tmp t=>some t
 | _=>none
def looks(L:List Oper)(o:Oper):List Tmp :=
 (av o.op).filterMap U1++(match o.guard with|some (j,_)=>((L[j]?).bind (·.dst)).toList|none=>[])
def meets:AY->AY->Bool
 | .none,_|_,.none=>false
 | .reads,.reads=>false
 | _,_=>true
def xA(C:aK)(L:List Oper)(x y:Oper):Bool :=
 (match x.dst with|some d=>!(looks L y).contains d&&y.dst != some d|none=>true) &&
 (match y.dst with|some d=>!(looks L x).contains d|none=>true) && !meets (bA C x.op) (bA C y.op)
def maker(o:Oper):Bool:=(match o.op with | .alloc _ | .box _ _ | .makeSlice .. | .buildSlice .. => true|_=>false)&&o.guard.isNone
def wu(op:Op):Bool:=match op with
 | .load .. | .indexAddr .. | .slice .. | .lookup .. => true
 | _=>false
def reader(o:Oper):Bool:=wu o.op&&o.guard.isNone
def tT(C:aK)(o:Oper):Bool:=match o.op with
 | .call { callee:=.value f,.. }=>BU f
 | _=>true
def gK(L:List Oper)(x y:Oper):Bool :=
 (match x.dst with|some d=>!(looks L y).contains d&&y.dst != some d|none=>true) &&
 (match y.dst with|some d=>!(looks L x).contains d|none=>true)
def j5(C:aK)(L:List Oper)(x y:Oper):Bool :=
 xA C L x y||(gK L x y&&L.all (tT C)&&((maker x&&reader y)||(reader x&&maker y)||(maker x&&maker y)))
def Gl(acc:List Nat)(o:Oper):Nat:=o.after.toList.foldl (λs e=>if Region.binds .any e then s ||| 2^e.on ||| acc.getD e.on 0 else s) 0
def dX:List Oper->List Nat->List Nat
 | [],acc=>acc
 | o::os,acc=>dX os (acc++[Gl acc o])
def xm(C:aK)(L:List Oper):Bool :=
 let B:=dX L []
 (List.range L.length).all λi=>(List.range i).all λj=>(B.getD i 0).testBit j||j5 C L (L.getD j default) (L.getD i default)
theorem TL : ∀(os:List Oper)(acc:List Nat),∃B,dX os acc=acc++B/\B.length=os.length /\ ∀(k:Nat)o,os[k]? = some o->B[k]? = some (Gl (acc++B.take k) o)
 | [],acc=>⟨[],by simp[dX],rfl,λk o h=>by simp at h⟩
 | o::os,acc=>by
  obtain⟨B,h1,h2,h3⟩:=TL os (acc++[Gl acc o]);refine⟨Gl acc o::B,by simp[dX,h1],by simp[h2],λk o' hk=>?_⟩
  cases k with
  | zero=>simp at hk;subst hk;simp
  | succ k =>
   simp at hk
   have:=h3 k o' hk
   simpa using this
theorem QE(acc:List Nat)(j:Nat):∀(es:List Edge)(s:Nat),(es.foldl (λs e=>if Region.binds .any e then s ||| 2^e.on ||| acc.getD e.on 0 else s) s).testBit j=true ->
  s.testBit j=true \/ ∃e∈es,Region.binds .any e=true/\(e.on=j\/(acc.getD e.on 0).testBit j=true)
 | [],s,h=>.inl h
 | e::es,s,h=>by
  simp only[YB]at h
  rcases QE acc j es _ h with h|⟨e',h1,h2,h3⟩
  .
   split at h
   .
    rename_i hb
    simp only[Nat.testBit_or,X8]at h
    rcases h with(h|h)|h
    . exact .inl h
    . rw[Nat.testBit_two_pow]at h;exact .inr ⟨e,by simp,hb,.inl (by simpa using h)⟩
    exact .inr ⟨e,by simp,hb,.inr h⟩
   exact .inl h
  exact .inr ⟨e',by simp[h1],h2,h3⟩
theorem AP{L:List Oper}{X:Nat->Prop}(hX : ∀(i:Nat)o,L[i]? = some o->X i -> ∀e∈o.after.toList,Region.binds .any e=true->X e.on) :
  ∀(i:Nat)o,L[i]? = some o->(∀e∈o.after.toList,Region.binds .any e=true->X e.on) -> ∀j,((dX L []).getD i 0).testBit j=true->X j:=by
 obtain⟨BB,h1,h2,h3⟩:=TL L []
 simp only[XZ]at h1 h3
 rw[h1]
 intro i
 induction i using Nat.strongRecOn with
 | _ i ih =>
  intro o hi hp j hj;have hBi:=h3 i o hi;rw[List.getD,hBi,YD]at hj
  rcases QE _ j _ _ hj with h|⟨e,he,hb,h⟩
  . simp at h
  rcases h with rfl|h
  . exact hp e he hb
  rw[List.getD,Y6]at h
  split at h
  .
   rename_i hlt
   have hlB:i<BB.length:=by have:=(X0.1 hBi).1;exact this
   have hlL:e.on<L.length:=by omega
   exact ih e.on hlt L[e.on] (by simp) (hX e.on _ (by simp) (hp e he hb)) j h
  simp at h
def aJ(P:Program)[aa P](W:bf)(C:aK)(L:List Oper)(b i:Nat)(o:Oper)(n:Nat)(ev:Operand->D)(t:Nat->D)(h:H):D×H×Prop :=
 match o.guard with
 | none=>let r:=au P W C true o.op ((av o.op).map ev) h (b+i);(r.1,r.2.1,cu n o.dst=true/\r.2.2)
 | some (j,want) =>
  let gd:=((L[j]?).bind (·.dst)).elim .junk t
  let r:=au P W C (gz gd want) o.op ((av o.op).map ev) h (b+i)
  (.cond (gz gd want) r.1,h,cu n o.dst=true/\jW gd=true/\bA C o.op ≠ .writes/\(gz gd want=true->r.2.2))
theorem jB [aa P]{W:bf}{L:List Oper}{b i:Nat}{o:Oper}{s:S}:bT P W C L b i o s =
  { s with t:=s.put o.dst (aJ P W C L b i o s.n s.ev s.t s.h).1,h:=(aJ P W C L b i o s.n s.ev s.t s.h).2.1,ok:=s.ok/\(aJ P W C L b i o s.n s.ev s.t s.h).2.2 }:=by
 unfold bT aJ
 cases o.guard<;>rfl
theorem zI [aa P]{W:bf}{L:List Oper}{b i:Nat}{o:Oper}{s s':S}{n:Nat}{h:H}(he : ∀x∈looks L o,s.t x=s'.t x):aJ P W C L b i o n s.ev s.t h=aJ P W C L b i o n s'.ev s'.t h:=by
 have h1:(av o.op).map s.ev=(av o.op).map s'.ev:=by
  refine YK λx hx=>?_
  cases x with
  | tmp t=>exact he t (Yo.2 (.inl (ZN.2 ⟨.tmp t,hx,rfl⟩)))
  | _=>rfl
 unfold aJ
 cases hg:o.guard with
 | none=>simp only[h1]
 | some jw =>
  obtain⟨j,want⟩:=jw;have h2:((L[j]?).bind (·.dst)).elim D.junk s.t=((L[j]?).bind (·.dst)).elim D.junk s'.t:=by
   cases hd:(L[j]?).bind (·.dst)with
   | none=>rfl
   | some d=>exact he d (Yo.2 (.inr (by rw[hg];simp[hd])))
  simp only[h1,h2]
theorem J9 [aa P]{W:bf}{op:Op}{xs:List D}{h h':H}{b:Nat}(hc:bA C op = .none):aH P W C op xs h b=((aH P W C op xs h' b).1,h,(aH P W C op xs h' b).2.2):=by
 unfold aH
 split<;>first
  | rfl
  | (exfalso;exact AY.noConfusion hc)
  | skip
 .
  rename_i t n ps
  have hb:C.bs=false:=by
   cases hb:C.bs with
   | false=>rfl
   | true=>simp[bA,hb]at hc
  simp only[hb,Ye,Y0];rfl
 rename_i f args argTypes
 have hcf:C.cf=true:=by
  cases hcf:C.cf with
  | true=>rfl
  | false=>simp[bA,hcf,BU]at hc
 unfold eT
 split
 .
  simp only[hcf,Zw]
  split<;>rfl
 .
  simp only[hcf,Zw]
  split<;>rfl
 rfl
theorem RB [aa P]{W:bf}{g:Bool}{op:Op}{xs:List D}{h h':H}{b:Nat}(hc:bA C op = .none):au P W C g op xs h b=((au P W C g op xs h' b).1,h,(au P W C g op xs h' b).2.2):=by
 unfold au
 split
 . rfl
 simp only
 rw[J9 (h:=h) (h':=h') hc]
theorem Ik [aa P]{W:bf}{L:List Oper}{b i:Nat}{o:Oper}{ev:Operand->D}{t:Nat->D}{n:Nat}{h h':H}(hc:bA C o.op = .none) :
  aJ P W C L b i o n ev t h=((aJ P W C L b i o n ev t h').1,h,(aJ P W C L b i o n ev t h').2.2):=by
 unfold aJ
 cases o.guard with
 | none=>simp only;rw[RB (h:=h) (h':=h') hc]
 | some jw=>simp only;rw[RB (h:=h) (h':=h') hc]
theorem zH [aa P]{W:bf}{L:List Oper}{b i:Nat}{o:Oper}{ev:Operand->D}{t:Nat->D}{n:Nat}{h:H}(hc:bA C o.op ≠ .writes):(aJ P W C L b i o n ev t h).2.1=h:=by
 unfold aJ
 cases o.guard with
 | none =>
  simp only;unfold au
  split
  . rfl
  exact FE hc
 | some jw=>rfl
def ZbI{y:AY}(h:meets .writes y=false):y = .none:=by cases y<;>simp[meets]at h ⊢
def ZbH{x:AY}(h:meets x .writes=false):x = .none:=by cases x<;>simp[meets]at h ⊢
theorem FC [aa P]{W:bf}{L:List Oper}{b i j:Nat}{x y:Oper}{s:S}(hs:gK L x y=true)
  (key : ∀(rx ry:D)(hx hy:H)(px py:Prop),(aJ P W C L b i x s.n s.ev s.t s.h)=(rx,hx,px)->(aJ P W C L b j y s.n s.ev s.t s.h)=(ry,hy,py) ->
   ∃hz,aJ P W C L b j y s.n s.ev s.t hx=(ry,hz,py)/\aJ P W C L b i x s.n s.ev s.t hy=(rx,hz,px)):bT P W C L b j y (bT P W C L b i x s)=bT P W C L b i x (bT P W C L b j y s):=by
 simp only[gK,XT]at hs
 obtain⟨h1,h2⟩:=hs
 have nx : ∀d,x.dst=some d->d ∉ looks L y/\y.dst≠some d:=by
  intro d hd;rw[hd]at h1;simp only[XT,X5,ZE]at h1;exact⟨by simpa using h1.1,h1.2⟩
 have ny : ∀d,y.dst=some d->d ∉ looks L x:=by
  intro d hd;rw[hd]at h2
  simpa using h2
 have look : ∀{u:Oper}{s:S}{dst:Option Tmp}{r:D},(∀d,dst=some d->d ∉ looks L u) -> ∀z∈looks L u,s.t z=(S.put s dst r) z:=by
  intro u s dst r hd z hz
  cases dst with
  | none=>rfl
  | some d=>exact(aL _ _ _ _ (λe=>hd d rfl (by rw[<-e];exact hz))).symm
 have ly : ∀{h':H}{ok':Prop}{r:D}{n:Nat}{h:H},aJ P W C L b j y n (S.ev { s with t:=s.put x.dst r,h:=h',ok:=ok' }) (s.put x.dst r) h=aJ P W C L b j y n s.ev s.t h :=
  λ{h' ok' r n h}=>(zI (s:=s) (s':={ s with t:=s.put x.dst r,h:=h',ok:=ok' }) (look λd hd=>(nx d hd).1)).symm
 have lx : ∀{h':H}{ok':Prop}{r:D}{n:Nat}{h:H},aJ P W C L b i x n (S.ev { s with t:=s.put y.dst r,h:=h',ok:=ok' }) (s.put y.dst r) h=aJ P W C L b i x n s.ev s.t h :=
  λ{h' ok' r n h}=>(zI (s:=s) (s':={ s with t:=s.put y.dst r,h:=h',ok:=ok' }) (look λd hd=>ny d hd)).symm
 rw[jB (s:=s) (o:=x),jB (s:=s) (o:=y),jB (o:=y),jB (o:=x)]
 simp only[ly,lx]
 have hput : ∀r q,S.put { s with t:=s.put x.dst r } y.dst q=S.put { s with t:=s.put y.dst q } x.dst r:=by
  intro r q
  cases hx:x.dst with
  | none=>rfl
  | some d =>
   cases hy:y.dst with
   | none=>rfl
   | some d' =>
    have hne:d≠d':=λe=>(nx d hx).2 (by rw[hy,e])
    funext z
    simp only[S.put,upd]
    by_cases e1:z=d
    .
     have:z≠d':=λe=>hne (e1▸e)
     simp[e1,hne]
    simp[e1]
 have hput' : ∀r q h1 ok1 h2 ok2,S.put { s with t:=s.put x.dst r,h:=h1,ok:=ok1 } y.dst q=S.put { s with t:=s.put y.dst q,h:=h2,ok:=ok2 } x.dst r:=λr q _ _ _ _=>hput r q
 rcases hox:aJ P W C L b i x s.n s.ev s.t s.h with⟨rx,hx,px⟩
 rcases hoy:aJ P W C L b j y s.n s.ev s.t s.h with⟨ry,hy,py⟩
 obtain⟨hz,k1,k2⟩:=key rx ry hx hy px py hox hoy
 simp only[k1,k2]
 congr 1
 . exact hput' _ _ _ _ _ _
 exact propext ⟨λ⟨⟨a,b⟩,c⟩=>⟨⟨a,c⟩,b⟩,λ⟨⟨a,b⟩,c⟩=>⟨⟨a,c⟩,b⟩⟩
def QV [aa P]{W:bf}{L:List Oper}{b i j:Nat}{x y:Oper}{s:S}(ha:xA C L x y=true):bT P W C L b j y (bT P W C L b i x s)=bT P W C L b i x (bT P W C L b j y s):=by
 simp only[xA,XT,X5]at ha
 obtain⟨⟨h1,h2⟩,h3⟩:=ha
 refine FC (by simp only[gK,XT];exact⟨h1,h2⟩) ?_
 generalize hX:bA C x.op=cx at h3
 generalize hY:bA C y.op=cy at h3
 intro rx ry hx hy px py e1 e2
 have ex:hx=(aJ P W C L b i x s.n s.ev s.t s.h).2.1:=by rw[e1]
 have ey:hy=(aJ P W C L b j y s.n s.ev s.t s.h).2.1:=by rw[e2]
 by_cases c1:cx = .writes
 .
  have c2:cy = .none:=ZbI (c1▸h3);subst c2;rw[zH (by rw[hY];simp)]at ey
  subst ey;refine⟨hx,?_,e1⟩;rw[Ik (h:=hx) (h':=s.h) hY,e2]
 rw[zH (by rw[hX];exact c1)]at ex
 subst ex
 by_cases c2:cy = .writes
 . have c3:cx = .none:=ZbH (c2▸h3);refine⟨hy,e2,?_⟩;rw[Ik (h:=hy) (h':=s.h) (by rw[hX,c3]),e1]
 rw[zH (by rw[hY];exact c2)]at ey
 subst ey
 exact⟨s.h,e2,e1⟩
def run1(P:Program)[aa P](W:bf)(C:aK)(L:List Oper)(b:Nat)(s:S)(i:Nat):S:=match L[i]? with
 | some o=>bT P W C L b i o s
 | none=>s
theorem Bj [aa P]{W:bf}{L:List Oper}{b:Nat}:∀{l:List Nat}{s:S},(l.foldl (run1 P W C L b) s).ok->s.ok
 | [],_,h=>h
 | i::l,s,h=>by
  have h1:=Bj (l:=l) h;unfold run1 at h1
  split at h1
  . exact J4 h1
  exact h1
theorem QT [aa P]{W:bf}{L:List Oper}{b:Nat}:∀(k i:Nat)(s:S),i+k=L.length->bN P W C L b i (L.drop i) s=(List.range' i k).foldl (run1 P W C L b) s:=by
 intro k
 induction k with
 | zero =>
  intro i s hk;rw[YU (by omega)]
  simp[bN]
 | succ k ih =>
  intro i s hk;have hlt:i<L.length:=by omega
  rw[Yn hlt,Zi];simp only[bN,YB];rw[ih (i+1) _ (by omega)]
  congr 1
  simp[run1,hlt]
def named(n:Nat):D->Bool
 | .mrow r _ _=>r==n
 | .mptr r _ _=>r==n
 | .mp r=>r==n
 | _=>false
theorem Zci{a:D}{h:H}{n:Nat}{bl:ax}(hn:named n a=false):qj (upd h n (some bl)) a=qj h a:=by
 cases a with
 | mp r =>
  have:r≠n:=by simpa[named]using hn
  show(upd h n (some bl) r).bind iF=(h r).bind iF
  rw[aL _ _ _ _ this]
 | _=>rfl
theorem O7 [aa P]{t:TypeId}{ok:Bool}{m k:D}{h:H}{n:Nat}{bl:ax}(hn:named n m=false):lv P t ok m k (upd h n (some bl))=lv P t ok m k h:=by
 unfold lv
 rw[Zci hn]
theorem Zb7{a:D}{h:H}{n:Nat}{bl:ax}(hn:named n a=false):eD a (upd h n (some bl))=eD a h:=by
 cases a with
 | mptr r i off =>
  have:r≠n:=by simpa[named]using hn
  simp only[eD,aL _ _ _ _ this]
 | _=>rfl
theorem Pg [aa P]{a:D}{h:H}{n:Nat}{bl:ax}(hn:named n a=false):fU P a (upd h n (some bl))=fU P a h:=by
 unfold fU
 split
 . rfl
 exact Zb7 hn
theorem PV [aa P]{t:TypeId}{x ix:D}{h:H}{n:Nat}{bl:ax}(hn:named n x=false):eF P t x ix (upd h n (some bl))=eF P t x ix h:=by
 unfold eF
 cases aZ P t with
 | none=>rfl
 | some e =>
  cases x with
  | mrow r off len =>
   have:r≠n:=by simpa[named]using hn
   cases ix with
   | v y=>cases y<;>first|rfl|simp only[aL _ _ _ _ this]
   | _=>rfl
  | list f rows =>
   cases ix with
   | v y=>cases y<;>rfl
   | _=>rfl
  | _=>cases ix<;>rfl
theorem Mw [aa P]{t:TypeId}{x:D}{l hh m:Option D}{h:H}{n:Nat}{bl:ax}(hn:named n x=false):mR P t x l hh m (upd h n (some bl))=mR P t x l hh m h:=by
 cases x with
 | mrow r off len =>
  have:r≠n:=by simpa[named]using hn
  simp only[mR,aL _ _ _ _ this]
 | v y=>cases y<;>rfl
 | list f rows=>simp only[mR]
 | _=>rfl
theorem DU{op:Op}(hc:wu op=true):(∃t x,op = .load t x)\/(∃t x y,op = .indexAddr t x y)\/(∃t x l hh m,op = .slice t x l hh m)\/(∃t m k ok,op = .lookup t m k ok):=by
 unfold wu at hc
 split at hc<;>first
  | cases hc
  | skip
 . exact .inl ⟨_,_,rfl⟩
 . exact .inr (.inl ⟨_,_,_,rfl⟩)
 . exact .inr (.inr (.inl ⟨_,_,_,_,_,rfl⟩))
 exact .inr (.inr (.inr ⟨_,_,_,_,rfl⟩))
theorem Zam [aa P]{W:bf}{op:Op}{xs:List D}{h:H}{n b:Nat}{bl:ax}(hc:wu op=true)(hn : ∀d∈xs,named n d=false) :
  aH P W C op xs (upd h n (some bl)) b=((aH P W C op xs h b).1,upd h n (some bl),(aH P W C op xs h b).2.2):=by
 rcases DU hc with⟨t,x,rfl⟩|⟨t,x,y,rfl⟩|⟨t,x,l,hh,m,rfl⟩|⟨t,m,k,ok,rfl⟩
 .
  match xs,hn with
  | [],_=>rfl
  | [a],hn=>simp only[aH,still,jd,Pg (hn a (by simp))]
  | _::_::_,_=>rfl
 .
  match xs,hn with
  | [],_=>rfl
  | [_],_=>rfl
  | [a,c],hn=>simp only[aH,still,PV (hn a (by simp))]
  | _::_::_::_,_=>rfl
 .
  match xs,hn with
  | [],_=>rfl
  | a::al9,hn=>simp only[aH,still,Mw (hn a (by simp))]
 match xs,hn with
 | [],_=>rfl
 | [_],_=>rfl
 | [a,c],hn=>simp only[aH,still,O7 (hn a (by simp))]
 | _::_::_::_,_=>rfl
theorem EA{a:D}{n:Nat}(hn:named n a=true):(∃off len,a = .mrow n off len)\/(∃i off,a = .mptr n i off)\/a = .mp n:=by
 cases a with
 | mrow r off len =>
           have:r=n:=by simpa[named]using hn
           subst this;exact .inl ⟨_,_,rfl⟩
 | mptr r i off =>
          have:r=n:=by simpa[named]using hn
          subst this;exact .inr (.inl ⟨_,_,rfl⟩)
 | mp r =>
      have:r=n:=by simpa[named]using hn
      subst this;exact .inr (.inr rfl)
 | _=>cases hn
theorem Zal [aa P]{W:bf}{op:Op}{xs:List D}{h:H}{n b:Nat}{bl:ax}(hc:wu op=true)(hno:h n=none)(hok:(aH P W C op xs h b).2.2) :
  aH P W C op xs (upd h n (some bl)) b=((aH P W C op xs h b).1,upd h n (some bl),(aH P W C op xs h b).2.2):=by
 rcases DU hc with⟨t,x,rfl⟩|⟨t,x,y,rfl⟩|⟨t,x,l,hh,m,rfl⟩|⟨t,m,k,ok,rfl⟩
 .
  match xs,hok with
  | [a],hok =>
   cases hna:named n a with
   | false=>simp only[aH,still,jd,Pg hna]
   | true =>
    exfalso
    simp only[aH,still,jd]at hok;obtain⟨q1,q2,_⟩:=hok
    rcases EA hna with⟨off,len,rfl⟩|⟨i,off,rfl⟩|rfl<;>simp[fU,eD,hno]at q1<;>omega
 .
  match xs,hok with
  | [a,c],hok =>
   cases hna:named n a with
   | false=>simp only[aH,still,PV hna]
   | true =>
    rcases EA hna with⟨off,len,rfl⟩|⟨i,off,rfl⟩|rfl
    .
     exfalso
     simp only[aH,still]at hok;unfold eF at hok
     split at hok
     .
      unfold ql at hok
      split at hok
      . exact absurd hok.1 (by simp[wV])
      exact hok
     split at hok
     . rename_i e;cases e
     .
      rename_i e;cases e
      rw[hno]at hok;exact hok.2.2.2
     exact hok
    .
     have e : ∀h',eF P t (.mptr n i off) c h'=eF P t (.mptr n i off) c h:=by
      intro h';unfold eF
      cases aZ P t<;>rfl
     simp only[aH,still,e]
    exfalso
    simp only[aH,still]at hok;unfold eF at hok
    split at hok
    .
     unfold ql at hok
     split at hok
     . exact absurd hok.1 (by simp[wV])
     exact hok
    exact hok
 .
  match xs,hok with
  | a::al9,hok =>
   cases hna:named n a with
   | false=>simp only[aH,still,Mw hna]
   | true =>
    exfalso
    simp only[aH,still]at hok
    rcases EA hna with⟨off,len,rfl⟩|⟨i,off,rfl⟩|rfl
    .
     simp only[mR]at hok
     split at hok
     . exact hok
     simp only[hno]at hok;exact hok.2.2.2
    . exact hok
    exact hok
 match xs,hok with
 | [a,c],hok =>
  cases hna:named n a with
  | false=>simp only[aH,still,O7 hna]
  | true =>
   exfalso
   simp only[aH,still]at hok
   rcases EA hna with⟨off,len,rfl⟩|⟨i,off,rfl⟩|rfl
   .
    unfold lv at hok
    split at hok
    . rename_i e;cases e
    exact hok
   .
    unfold lv at hok
    split at hok
    . rename_i e;cases e
    exact hok
   unfold lv at hok
   split at hok
   .
    rename_i e
    simp only[qj,hno]at e
    cases e
   exact hok
theorem ZbN [aa P]{W:bf}{op:Op}(hm:(match op with | .alloc _ | .box _ _ | .makeSlice .. | .buildSlice .. => true|_=>false)=true)(xs:List D)(b:Nat) :
  ∃r p,(∃bl,∀h,aH P W C op xs h b=(r,upd h b (some bl),p)) \/ ∀h,aH P W C op xs h b=(r,h,p):=by
 cases op with
 | alloc e =>
  match xs with
  | []=>exact⟨_,_,.inl ⟨_,λh=>rfl⟩⟩
  | _::_=>exact⟨_,_,.inr λh=>rfl⟩
 | box e x =>
  match xs with
  | []=>exact⟨_,_,.inr λh=>rfl⟩
  | [a]=>exact⟨_,_,.inl ⟨_,λh=>rfl⟩⟩
  | _::_::_=>exact⟨_,_,.inr λh=>rfl⟩
 | buildSlice t n ps =>
  cases hb:C.bs with
  | false=>exact⟨_,_,.inr λh=>by simp only[aH,hb,Ye,Y0,still];rfl⟩
  | true =>
   cases he:aZ P t with
   | none=>exact⟨_,_,.inr λh=>by simp only[aH,hb,Zw,lL,he];rfl⟩
   | some e=>exact⟨_,_,.inl ⟨_,λh=>by simp only[aH,hb,Zw,lL,he];rfl⟩⟩
 | makeSlice t x y =>
  match xs with
  | []=>exact⟨_,_,.inr λh=>rfl⟩
  | [_]=>exact⟨_,_,.inr λh=>rfl⟩
  | _::_::_::_=>exact⟨_,_,.inr λh=>rfl⟩
  | [a,c] =>
   have key : ∃r p,(∃bl,∀h,jo P t h b a c=(r,upd h b (some bl),p)) \/ ∀h,jo P t h b a c=(r,h,p):=by
    by_cases hm : ∃k n k' m,a = .v (.int k n)/\c = .v (.int k' m)
    .
     obtain⟨k,n,k',m,rfl,rfl⟩:=hm
     cases he:aZ P t with
     | none=>exact⟨_,_,.inr λh=>by simp only[jo,he];rfl⟩
     | some e=>exact⟨_,_,.inl ⟨_,λh=>by simp only[jo,he];rfl⟩⟩
    refine⟨.junk,False,.inr λh=>?_⟩
    unfold jo
    split
    . exact absurd ⟨_,_,_,_,rfl,rfl⟩ hm
    rfl
   exact key
 | _=>cases hm
theorem QF [aa P]{W:bf}{L:List Oper}{b i:Nat}:∀(pre:List Nat)(s:S),(∀j∈pre,∀x y,L[j]? = some x->L[i]? = some y->xA C L x y=true) ->
  run1 P W C L b (pre.foldl (run1 P W C L b) s) i=pre.foldl (run1 P W C L b) (run1 P W C L b s i)
 | [],s,_=>rfl
 | j::pre,s,h=>by
  simp only[YB];rw[QF pre _ (λj' hj'=>h j' (by simp[hj']))]
  congr 1
  unfold run1
  cases hj:L[j]? with
  | none=>rfl
  | some x =>
   cases hi:L[i]? with
   | none=>rfl
   | some y=>exact QV (h j (by simp) x y hj hi)
def ED [aa P]{W:bf}{L:List Oper}{b i:Nat}{o:Oper}{ev:Operand->D}{t:Nat->D}{n:Nat}(hm:maker o=true) :
  ∃r p,(∃bl,∀h,aJ P W C L b i o n ev t h=(r,upd h (b+i) (some bl),p)) \/ ∀h,aJ P W C L b i o n ev t h=(r,h,p):=by
 simp only[maker,XT,Zf]at hm
 obtain⟨h1,h2⟩:=hm
 have hp:dG o.op=false:=by cases ho:o.op<;>rw[ho]at h1<;>first|rfl|cases h1
 obtain⟨r,p,h⟩:=ZbN (P:=P) (C:=C) (W:=W) h1 (((av o.op).map ev).map sd) (b+i)
 refine⟨r,cu n o.dst=true/\((true:Bool)=true->((av o.op).map ev).all sg=true)/\p,?_⟩
 rcases h with⟨bl,h⟩|h
 .
  refine .inl ⟨bl,λhh=>?_⟩
  unfold aJ;simp only[h2];unfold au;simp only[hp,Ye,Y0,h]
 refine .inr λhh=>?_
 unfold aJ
 simp only[h2]
 unfold au
 simp only[hp,Ye,Y0,h]
theorem Hz{op:Op}(hc:wu op=true):dG op=false:=by
 rcases DU hc with⟨t,x,rfl⟩|⟨t,x,y,rfl⟩|⟨t,x,l,hh,m,rfl⟩|⟨t,m,k,ok,rfl⟩<;>rfl
def Bq{o:Oper}(hr:reader o=true):wu o.op=true/\o.guard=none:=by
 simp only[reader,XT,Zf]at hr
 exact hr
def Nb{o:Oper}(hr:reader o=true):bA C o.op ≠ .writes:=by
 rcases DU (Bq hr).1 with⟨t,x,e⟩|⟨t,x,y,e⟩|⟨t,x,l,hh,m,e⟩|⟨t,m,k,ok,e⟩<;>simp[e,bA]
def Na [aa P]{W:bf}{L:List Oper}{b i m:Nat}{o:Oper}{ev:Operand->D}{t:Nat->D}{n:Nat}{h:H}{bl:ax}(hr:reader o=true)
  (hn:(∀d∈(av o.op).map ev,named m (sd d)=false)\/(h m=none/\(aJ P W C L b i o n ev t h).2.2)) :
  aJ P W C L b i o n ev t (upd h m (some bl))=((aJ P W C L b i o n ev t h).1,upd h m (some bl),(aJ P W C L b i o n ev t h).2.2):=by
 obtain⟨hc,hg⟩:=Bq hr
 have hp:=Hz hc
 have key:aH P W C o.op (((av o.op).map ev).map sd) (upd h m (some bl)) (b+i)=((aH P W C o.op (((av o.op).map ev).map sd) h (b+i)).1,upd h m (some bl),(aH P W C o.op (((av o.op).map ev).map sd) h (b+i)).2.2):=by
  rcases hn with hn|⟨h1,h2⟩
  .
   refine Zam hc λd hd=>?_
   obtain⟨d',h1,rfl⟩:=Yi.1 hd;exact hn d' h1
  refine Zal hc h1 ?_;simp only[aJ,hg,au,hp,Ye,Y0]at h2;exact h2.2.2
 simp only[aJ,hg,au,hp,Ye,Y0,key]
def LG [aa P]{t:TypeId}{m k x:D}{h:H}{r:Nat}(hn:h r=none):(kV P t m k x h).1 r=none:=by
 unfold kV
 split
 .
  split
  .
   rename_i q bl hq
   split
   . exact(aL _ _ _ _ (λe=>by subst e;rw[hn]at hq;cases hq)).trans hn
   exact hn
  exact hn
 exact hn
theorem Zd6 [aa P]{W:bf}{op:Op}{xs:List D}{h:H}{b r:Nat}(hc:(match op with | .call { callee:=.value f,.. }=>BU f|_=>true)=true)(hr:r≠b)(hn:h r=none):(aH P W C op xs h b).2.1 r=none:=by
 by_cases hw:bA C op ≠ .writes
 . rw[FE hw];exact hn
 have hw:bA C op = .writes:=by simpa using hw
 cases op with
 | alloc e =>
  match xs with
  | []=>simp only[aH,aL _ _ _ _ hr];exact hn
  | _::_=>exact hn
 | box e x =>
  match xs with
  | []=>exact hn
  | [a]=>simp only[aH,aL _ _ _ _ hr];exact hn
  | _::_::_=>exact hn
 | buildSlice t n ps =>
  have hb:C.bs=true:=by
   cases hb:C.bs with
   | true=>rfl
   | false=>simp[bA,hb]at hw
  simp only[aH,hb,Zw,lL]
  split
  . simp only[aL _ _ _ _ hr];exact hn
  exact hn
 | store t x y =>
  match xs with
  | []=>exact hn
  | [_]=>exact hn
  | _::_::_::_=>exact hn
  | [a,x] =>
   simp only[aH,fO]
   cases a with
   | mptr r' i off =>
    simp only
    cases hq:h r' with
    | none=>exact hn
    | some bl =>
     have:r≠r':=λe=>by subst e;rw[hn]at hq;cases hq
     simp only[aL _ _ _ _ this];exact hn
   | _=>exact hn
 | makeMap t ro=>simp only[aH,wR,aL _ _ _ _ hr];exact hn
 | makeSlice t x y =>
  match xs with
  | []|[_]|_::_::_::_=>exact hn
  | [a,c] =>
   simp only[aH];unfold jo
   split
   .
    split
    . simp only[aL _ _ _ _ hr];exact hn
    exact hn
   exact hn
 | mapUpdate t m k x =>
  match xs with
  | []|[_]|[_,_]|_::_::_::_::_=>exact hn
  | [a,c,d]=>exact LG hn
 | insert t m k x =>
  match xs with
  | []|[_]|[_,_]|_::_::_::_::_=>exact hn
  | [a,c,d]=>exact LG hn
 | call c =>
  obtain⟨callee,args,ts⟩:=c
  cases callee with
  | value f =>
   simp only at hc
   cases hcf:C.cf<;>simp[bA,hc,hcf]at hw
  | builtin bi =>
   cases bi with
   | append =>
    match xs with
    | []=>exact hn
    | [_]=>exact hn
    | _::_::_::_=>exact hn
    | [x,y] =>
     simp only[aH]
     split
     .
      simp only[dR]
      split
      . exact hn
      split
      . simp only[aL _ _ _ _ hr];exact hn
      .
       rename_i r' n'
       cases hq:h r' with
       | none=>exact hn
       | some bl =>
        simp only[aL _ _ _ _ hr]
        by_cases e:r=r'
        . subst e;exact bK _ _ _
        rw[aL _ _ _ _ e];exact hn
      exact hn
     exact hn
   | _=>simp[bA]at hw
  | _=>simp[bA]at hw
 | _=>simp[bA]at hw
theorem J5 [aa P]{W:bf}{L:List Oper}{b i r:Nat}{o:Oper}{s:S}(hc:tT C o=true)(hr:r≠b+i)(hn:s.h r=none):(bT P W C L b i o s).h r=none:=by
 rw[jB]
 show(aJ P W C L b i o s.n s.ev s.t s.h).2.1 r=none
 unfold aJ
 cases o.guard with
 | some jw=>exact hn
 | none =>
  simp only[au]
  split
  . exact hn
  exact Zd6 hc hr hn
theorem Mv [aa P]{W:bf}{L:List Oper}{b i:Nat}{x y:Oper}{s:S}(hs:gK L x y=true):(av y.op).map (bT P W C L b i x s).ev=(av y.op).map s.ev:=by
 simp only[gK,XT]at hs
 refine YK λz hz=>?_
 cases z with
 | tmp t =>
  rw[jB]
  show S.put s x.dst _ t=s.t t
  cases hd:x.dst with
  | none=>rfl
  | some d =>
   have h1:=hs.1;rw[hd]at h1;simp only[XT,X5,ZE]at h1;have h2:d ∉ looks L y:=by simpa using h1.1
   refine aL _ _ _ _ λe=>h2 ?_
   subst e;exact Yo.2 (.inl (ZN.2 ⟨.tmp t,hz,rfl⟩))
 | _=>rfl
theorem CW{L:List Oper}{x y:Oper}(h:j5 C L x y=true):gK L x y=true:=by
 unfold j5 at h
 simp only[X8,XT]at h
 rcases h with h|h
 . simp only[xA,XT]at h;simp only[gK,XT];exact h.1
 exact h.1.1
def QU [aa P]{W:bf}{L:List Oper}{b i j:Nat}{x y:Oper}{s:S}(hij:j≠i)(ha:j5 C L x y=true)
  (h1:maker x=true->reader y=true -> ∀d∈(av y.op).map s.ev,named (b+j) (sd d)=false)
  (h2:reader x=true->maker y=true->s.h (b+i)=none/\(aJ P W C L b j x s.n s.ev s.t s.h).2.2) :
  bT P W C L b i y (bT P W C L b j x s)=bT P W C L b j x (bT P W C L b i y s):=by
 have hs:=CW ha
 unfold j5 at ha
 simp only[X8,XT]at ha
 rcases ha with ha|⟨_,(⟨hm,hr⟩|⟨hr,hm⟩)|⟨hm,hm2⟩⟩
 . exact QV ha
 .
  refine FC hs λrx ry hx hy px py e1 e2=>?_
  obtain⟨r,p,⟨bl,h⟩|h⟩:=ED (P:=P) (C:=C) (W:=W) (L:=L) (b:=b) (i:=j) (ev:=s.ev) (t:=s.t) (n:=s.n) hm
  .
   have e3:=Na (P:=P) (C:=C) (W:=W) (L:=L) (b:=b) (i:=i) (t:=s.t) (n:=s.n) (h:=s.h) (bl:=bl) hr (.inl (h1 hm hr));have e4:=h s.h;rw[e1]at e4
   cases e4
   refine⟨upd s.h (b+j) (some bl),by rw[e3,e2],?_⟩
   have:hy=s.h:=by
    have:=zH (P:=P) (W:=W) (L:=L) (b:=b) (i:=i) (ev:=s.ev) (t:=s.t) (n:=s.n) (h:=s.h) (C:=C) (o:=y) (Nb hr);rw[e2]at this;exact this
   rw[h hy,this]
  have e4:=h s.h;rw[e1]at e4
  cases e4
  exact⟨hy,e2,h hy⟩
 .
  refine FC hs λrx ry hx hy px py e1 e2=>?_
  have hxs:hx=s.h:=by
   have:=zH (P:=P) (W:=W) (L:=L) (b:=b) (i:=j) (ev:=s.ev) (t:=s.t) (n:=s.n) (h:=s.h) (C:=C) (o:=x) (Nb hr);rw[e1]at this;exact this
  subst hxs;obtain⟨r,p,⟨bl,h⟩|h⟩:=ED (P:=P) (C:=C) (W:=W) (L:=L) (b:=b) (i:=i) (ev:=s.ev) (t:=s.t) (n:=s.n) hm
  .
   have e3:=Na (P:=P) (C:=C) (W:=W) (L:=L) (b:=b) (i:=j) (t:=s.t) (n:=s.n) (h:=s.h) (bl:=bl) hr (.inr (h2 hr hm));have e4:=h s.h;rw[e2]at e4
   cases e4
   exact⟨_,e2,by rw[e3,e1]⟩
  have e4:=h s.h;rw[e2]at e4
  cases e4
  exact⟨_,e2,e1⟩
 refine FC hs λrx ry hx hy px py e1 e2=>?_
 obtain⟨r1,p1,k1⟩:=ED (P:=P) (C:=C) (W:=W) (L:=L) (b:=b) (i:=j) (ev:=s.ev) (t:=s.t) (n:=s.n) hm
 obtain⟨r2,p2,k2⟩:=ED (P:=P) (C:=C) (W:=W) (L:=L) (b:=b) (i:=i) (ev:=s.ev) (t:=s.t) (n:=s.n) hm2
 rcases k1 with⟨bl1,k1⟩|k1<;>rcases k2 with⟨bl2,k2⟩|k2<;>rw[k1]at e1<;>rw[k2]at e2<;>cases e1<;>cases e2
 .
  refine⟨_,k2 _,?_⟩;rw[k1]
  congr 2
  funext q
  by_cases q1:q=b+j<;>by_cases q2:q=b+i<;>simp[upd,q1,q2]<;>omega
 . exact⟨_,k2 _,k1 _⟩
 . exact⟨_,k2 _,k1 _⟩
 exact⟨_,k2 _,k1 _⟩
theorem Xp [aa P]{W:bf}{L:List Oper}{b j:Nat}{y:Oper}{s:S}(h : ∀x,L[j]? = some x->gK L x y=true):(av y.op).map (run1 P W C L b s j).ev=(av y.op).map s.ev:=by
 unfold run1
 cases hj:L[j]? with
 | none=>rfl
 | some x=>exact Mv (h x hj)
theorem JK [aa P]{W:bf}{L:List Oper}{b:Nat}{y:Oper}:∀(pre:List Nat)(s:S),(∀j∈pre,∀x,L[j]? = some x->gK L x y=true)->(av y.op).map (pre.foldl (run1 P W C L b) s).ev=(av y.op).map s.ev
 | [],s,_=>rfl
 | j::pre,s,h=>by
  simp only[YB];rw[JK pre _ λk hk=>h k (by simp[hk]),Xp (h j (by simp))]
theorem JM [aa P]{W:bf}{L:List Oper}{b i:Nat}{y:Oper}(hi:L[i]? = some y):∀(pre:List Nat)(s:S),(∀j∈pre,j≠i /\ ∀x,L[j]? = some x->j5 C L x y=true) ->
  (reader y=true -> ∀j∈pre,∀d∈(av y.op).map s.ev,named (b+j) (sd d)=false)->s.h (b+i)=none->(pre.foldl (run1 P W C L b) s).ok ->
  run1 P W C L b (pre.foldl (run1 P W C L b) s) i=pre.foldl (run1 P W C L b) (run1 P W C L b s i)
 | [],s,_,_,_,_=>rfl
 | j::pre,s,h,hr,hh,hok=>by
  simp only[YB]at hok ⊢;have hji:=(h j (by simp)).1
  have hok1:=Bj hok
  cases hj:L[j]? with
  | none =>
   have e : ∀u,run1 P W C L b u j=u:=λu=>by simp only[run1,hj]
   rw[e s,e]at *;exact JM hi pre s (λk hk=>h k (by simp[hk])) (λrJ k hk=>hr rJ k (by simp[hk])) hh hok
  | some x =>
   have hap:=(h j (by simp)).2 x hj
   have e : ∀u,run1 P W C L b u j=bT P W C L b j x u:=λu=>by simp only[run1,hj]
   have e' : ∀u,run1 P W C L b u i=bT P W C L b i y u:=λu=>by simp only[run1,hi]
   have hstep:run1 P W C L b (run1 P W C L b s j) i=run1 P W C L b (run1 P W C L b s i) j:=by
    rw[e,e,e',e'];refine QU hji hap (λ_ rJ=>hr rJ j (by simp)) λ_ _=>⟨hh,?_⟩
    rw[e,jB]at hok1;exact hok1.2
   rw[<-hstep];unfold j5 at hap
   by_cases hcp:L.all (tT C)=true
   .
    refine JM hi pre _ (λk hk=>h k (by simp[hk])) (λrJ k hk=>?_) ?_ hok
    .
     rw[e,Mv (CW ((h j (by simp)).2 x hj))]
     exact hr rJ k (by simp[hk])
    rw[e];refine J5 (Yg.1 hcp x (X7 hj)) om hh
   have hall : ∀k∈pre,∀x y',L[k]? = some x->L[i]? = some y'->xA C L x y'=true:=by
    intro k hk x' y' hx' hy';rw[hi]at hy';cases hy'
    have:=(h k (by simp[hk])).2 x' hx'
    unfold j5 at this;have hcp':L.all (tT C)=false:=by simpa using hcp
    simpa[hcp']using this
   exact QF pre _ hall
theorem M9{w:World}{g:Mem}{d:D}{v:Value}{n:Nat}(hr:ag w g d v)(hg:sg d=true)(hn:named n (sd d)=true):g.U n:=by
 have key : ∀{d:D},ag w g d v->named n d=true->g.U n:=by
  intro d hr hn
  cases hr with
  | mrow r off len x hx hU h=>exact(show r=n by simpa[named]using hn)▸hU
  | mptr r i off x hx hU h=>exact(show r=n by simpa[named]using hn)▸hU
  | mp r x hx hU h=>exact(show r=n by simpa[named]using hn)▸hU
  | _=>cases hn
 cases d with
 | cond g d =>
  cases hr with
  | cond _ _ _ ht hf=>exact key (ht hg) hn
 | _=>exact key hr hn
def FK [aa P]{s:S}{g:Mem}{a:Act}{w:World}(hs:St P B s g a w):St P B s g a { w with drawn:=w.drawn+1 }/\aB g g w { w with drawn:=w.drawn+1 }:=by
 have m:aB g g w { w with drawn:=w.drawn+1 }:=⟨rfl,rfl,rfl,X4 _,λ_=>Nat.le_succ _,λ_ h=>h,λ_ _=>.inl rfl,λr _ c s h=>.inl ⟨r,c,s,h⟩,λ_ h=>h,λ_ h=>.inl h,λ_ _ _=>rfl⟩
 refine⟨⟨hs.sz,λi=>(hs.tm i).later hs.mem m,⟨hs.mem.dead,λr bl hr=>?_,hs.mem.inj,hs.mem.used,hs.mem.imm,hs.mem.gr.later (hs.mem.kept m)⟩,hs.df.later hs.mem m,Env.later hs.mem m hs.en,hs.bd⟩,m⟩
 obtain⟨blk,c,h1,h2,h3,h4,h5⟩:=hs.mem.blk r bl hr
 refine⟨blk,c,h1,h2,h3,h4,?_⟩
 rcases h5 with h5|⟨b,cur,rfl,h6,h7,h8,h9⟩
 . exact .inl h5
 exact .inr ⟨b,cur,rfl,h6,h7,h8,λi row hi=>⟨(h9 i row hi).1,λj d hd=>by
  obtain⟨u,k3,k4,k5⟩:=(h9 i row hi).2 j d hd;exact⟨u,k3,k4,k5.later hs.mem m⟩⟩⟩
def todo(n:Nat)(listed:Array Bool):List Nat:=(List.range n).filter λi=>!listed.getD i false
def I8(L:List Oper)(k:Nat)(z:Tmp):Bool:=(List.range L.length).all λm=>decide (m<k)||(L.getD m default).dst != some z
theorem keep1 [aa P]{W:bf}{L:List Oper}{b:Nat}{z:Tmp}{s:S}{k:Nat}(h : ∀o,L[k]? = some o->o.dst≠some z):(run1 P W C L b s k).t z=s.t z:=by
 unfold run1
 cases hk:L[k]? with
 | none=>rfl
 | some o =>
  have:=h o hk;simp only;rw[jB]
  show S.put s o.dst _ z=s.t z
  cases hd:o.dst with
  | none=>rfl
  | some d=>exact aL _ _ _ _ λe=>this (by rw[hd,e])
theorem keeps [aa P]{W:bf}{L:List Oper}{b:Nat}{z:Tmp}:∀(l:List Nat)(s:S),(∀k∈l,∀o,L[k]? = some o->o.dst≠some z)->(l.foldl (run1 P W C L b) s).t z=s.t z
 | [],s,_=>rfl
 | k::l,s,h=>by
  simp only[YB];rw[keeps l _ λm hm=>h m (by simp[hm]),keep1 (h k (by simp))]
def Pz{L:List Oper}{k:Nat}{z:Tmp}(h:I8 L k z=true){m:Nat}(hm:k<=m):∀o,L[m]? = some o->o.dst≠some z:=by
 intro o ho
 have hl:m<L.length:=(X0.1 ho).1
 simp only[I8,Yg,Y2,X8,XV,ZE]at h
 rcases h m hl with h|h
 . omega
 simpa only[List.getD,ho,YD]using h
theorem Zdt [aa P]{W:bf}{L:List Oper}{b:Nat}:∀(k i:Nat)(s:S),i+k<=L.length->bN P W C L b i ((L.drop i).take k) s=(List.range' i k).foldl (run1 P W C L b) s:=by
 intro k
 induction k with
 | zero=>intro i s _;simp[bN]
 | succ k ih =>
  intro i s hk;have hlt:i<L.length:=by omega
  rw[Yn hlt,YC,Zi];simp only[bN,YB];rw[ih (i+1) _ (by omega)]
  congr 1
  simp[run1,hlt]
theorem Zb8{a:D}{h h':H}(hn : ∀r,named r a=true->h' r=h r):eD a h'=eD a h:=by
 cases a with
 | mptr r i off =>
  have:=hn r (by simp[named])
  simp only[eD,this]
 | _=>rfl
theorem Ph [aa P]{a:D}{h h':H}(hn : ∀r,named r a=true->h' r=h r):fU P a h'=fU P a h:=by
 unfold fU
 split
 . rfl
 exact Zb8 hn
def Mem.only(g:Mem)(h':H):Mem:={ M:=λr=>if(h' r).isSome then g.M r else none,U:=g.U,I:=g.I }
def Oi{g:Mem}{h':H}(r:Nat)(_:g.U r):(g.only h').M r=g.M r\/(g.only h').M r=none:=by
 show(if(h' r).isSome then g.M r else none)=g.M r\/(if(h' r).isSome then g.M r else none)=none
 split
 . exact .inl rfl
 exact .inr rfl
def Bv{g:Mem}{h':H}{w:World}:aB g (g.only h') w w:=by
 refine⟨rfl,rfl,rfl,X4 _,λ_=>X4 _,λ_ h=>h,Oi,λr b c s h=>.inl ⟨r,c,s,?_⟩,λ_ h=>h,λ_ h=>.inl h,λ_ _ _=>rfl⟩
 have h':(if(h' r).isSome then g.M r else none)=some (some b,c,s):=h
 split at h'
 . exact h'
 cases h'
theorem ag.only{g:Mem}{h':H}{w:World}{d:D}{v:Value}(h:ag w g d v):ag w (g.only h') d v :=
 ag.mono (g:=g) (g':=g.only h') (λ_ hb=>⟨hb,rfl⟩) (λ_ h=>h) Oi h
theorem HM.only[aa P]{h h':H}{g:Mem}{w:World}(hm:HM P h g w)(hh : ∀r,h' r=h r\/h' r=none):HM P h' (g.only h') w:=by
 have inv : ∀{r x},(g.only h').M r=some x->g.M r=some x:=by
  intro r x e;have e:(if(h' r).isSome then g.M r else none)=some x:=e
  split at e
  . exact e
  cases e
 refine⟨λr hr=>?_,λr bl hr=>?_,λr r' b c c' s s' q1 q2=>hm.inj _ _ _ _ _ _ _ (inv q1) (inv q2),λr hr=>?_,hm.imm,hm.gr⟩
 .
  show(if(h' r).isSome then g.M r else none)=none
  rw[hr];rfl
 .
  have e:h r=some bl:=by
   rcases hh r with e|e
   . rw[<-e];exact hr
   rw[e]at hr;cases hr
  obtain⟨blk,c,h1,h2,h3,h4,h5⟩:=hm.blk r bl e;refine⟨blk,c,by show(if(h' r).isSome then g.M r else none)=_;rw[hr];exact h1,h2,h3,h4,?_⟩
  rcases h5 with h5|⟨b,cur,rfl,h6,h7,h8,h9⟩
  . exact .inl h5
  refine .inr ⟨b,cur,rfl,h6,h7,h8,λi row hi=>⟨(h9 i row hi).1,λj d hd=>?_⟩⟩
  obtain⟨u,k3,k4,k5⟩:=(h9 i row hi).2 j d hd;exact⟨u,k3,k4,k5.only⟩
 cases e:(g.only h').M r with
 | none=>exact absurd e hr
 | some x=>exact hm.used r (by rw[inv e];simp)
def jX(g:Mem)(r:Nat):Mem:={ M:=λx=>if x=r then none else g.M x,U:=g.U,I:=λb=>g.I b \/ ∃c s,g.M r=some (some b,c,s) }
theorem Fp{g:Mem}{r x:Nat}{y}(e:(jX g r).M x=some y):x≠r/\g.M x=some y:=by
 have e:(if x=r then none else g.M x)=some y:=e
 split at e
 . cases e
 exact⟨‹_›,e⟩
def yS(g:Mem)(r:Nat)(w:World):aB g (jX g r) w w:=by
 refine⟨rfl,rfl,rfl,X4 _,λ_=>X4 _,λ_ h=>h,λx _=>?_,λx b c s e=>.inl ⟨x,c,s,(Fp e).2⟩,λ_ h=>.inl h,λb hb=>?_,λ_ _ _=>rfl⟩
 .
  show(if x=r then none else g.M x)=g.M x\/(if x=r then none else g.M x)=none
  split
  . exact .inr rfl
  exact .inl rfl
 rcases hb with hb|⟨c,s,hb⟩
 . exact .inl hb
 exact .inr (.inr ⟨r,c,s,hb⟩)
theorem Ah [aa P]{h:H}{g:Mem}{w:World}(hm:HM P h g w)(r:Nat):HM P (upd h r none) (jX g r) w:=by
 have mono:=yS g r w
 refine⟨λx hx=>?_,λx bl hx=>?_,λx x' b c c' s s' q1 q2=>hm.inj _ _ _ _ _ _ _ (Fp q1).2 (Fp q2).2,λx hx=>?_,λb hb=>?_,hm.gr.later (hm.kept mono)⟩
 .
  show(if x=r then none else g.M x)=none
  split
  . rfl
  rename_i e;rw[aL _ _ _ _ e]at hx;exact hm.dead x hx
 .
  by_cases e:x=r
  . subst e;rw[bK]at hx;cases hx
  rw[aL _ _ _ _ e]at hx;obtain⟨blk,c,h1,h2,h3,h4,h5⟩:=hm.blk x bl hx;refine⟨blk,c,by show(if x=r then none else g.M x)=_;rw[XW e];exact h1,h2,h3,h4,?_⟩
  rcases h5 with h5|⟨b,cur,rfl,h6,h7,h8,h9⟩
  . exact .inl h5
  refine .inr ⟨b,cur,rfl,h6,h7,λhI=>?_,λi row hi=>⟨(h9 i row hi).1,λj d hd=>?_⟩⟩
  .
   rcases hI with hI|⟨c',s',hI⟩
   . exact h8 hI
   exact e (hm.inj _ _ _ _ _ _ _ h1 hI)
  obtain⟨u,k3,k4,k5⟩:=(h9 i row hi).2 j d hd;exact⟨u,k3,k4,k5.later hm mono⟩
 .
  cases e:(jX g r).M x with
  | none=>exact absurd e hx
  | some y=>exact hm.used x (by rw[(Fp e).2];simp)
 rcases hb with hb|⟨c,s,hb⟩
 . exact hm.imm b hb
 exact(lT hm hb).1
def Zbi : ∀{rows rows':List (List D)},bg rows=true->(∀r∈rows',r∈rows)->bg rows'=true:=by
 intro rows rows' h hs
 exact Ep λr hr=>BA h (hs r hr)
def JF [aa P]{h:H}{g:Mem}{w:World}(hm:HM P h g w){r:Nat}{ty:TypeId}{rows:List (List D)}(hr:h r=some ⟨ty,rows⟩)(hn:bg rows=true){off k:Nat}(hk:off+k<=rows.length){v:Value}(hv:ag w g (.mrow r off k) v):ag w (jX g r) (.list false ((rows.drop off).take k)) v:=by
 let h1:H:=λx=>if x=r then h r else none
 have hsub : ∀x,h1 x=h x\/h1 x=none:=λx=>by
  by_cases e:x=r
  . subst e;exact .inl (XY rfl)
  exact .inr (XW e)
 have hm1:=hm.only hsub
 have e1:h1 r=some ⟨ty,rows⟩:=by show(if r=r then h r else none)=_;rw[XY rfl];exact hr
 have e2:aj (.mrow r off k) h1=(rows.drop off).take k:=by simp only[aj,e1]
 have:=FO hm1 (nz hv.only) ⟨by rw[e1];rfl,by rw[e2];simp;omega⟩
 rw[e2]at this
 refine this.clean (Zbi hn λx hx=>List.mem_of_mem_drop (List.mem_of_mem_take hx)) λb hb=>?_
 rcases hb with hb|⟨x,c,sz,hb⟩
 . exact .inl hb
 have hb2:(if(h1 x).isSome then g.M x else none)=some (some b,c,sz):=hb
 split at hb2
 .
  rename_i hx
  have:x=r:=by
   refine YR λe=>?_
   have:h1 x=none:=XW e;rw[this]at hx;cases hx
  subst this;exact .inr ⟨c,sz,hb2⟩
 cases hb2
def o7:D->List Nat
 | .mrow r _ _ | .mptr r _ _ | .mp r=>[r]
 | _=>[]
def foot(op:Op)(xs:List D)(b:Nat):List Nat:=match op,xs with
 | .load ..,[a]=>o7 a
 | .alloc _,_=>[b]
 | .makeMap ..,_=>[b]
 | .call { callee:=.builtin .append,.. },[x,y]=>b::(o7 x++o7 y)
 | .store ..,[a,_]=>o7 a
 | _,_=>[]
def xg(C:aK)(o:Oper):Bool:=(match o.op with
 | .load .. | .alloc _ | .store .. => true
 | .makeMap .. => true
 | .call { callee:=.builtin .append,.. }=>true
 | op=>bA C op == .none)
structure Loc(f:H->D×H×Prop)(F:List Nat):Prop where
 out : ∀h r,r ∉ F->(f h).2.1 r=h r
 same : ∀h h',(∀r∈F,h r=h' r)->(f h).1=(f h').1/\(f h).2.2=(f h').2.2 /\ ∀r∈F,(f h).2.1 r=(f h').2.1 r
def Loc.comm{f g:H->D×H×Prop}{F G:List Nat}(hf:Loc f F)(hg:Loc g G)(hd : ∀r∈F,r ∉ G)(h:H) :
  (g (f h).2.1).1=(g h).1/\(g (f h).2.1).2.2=(g h).2.2/\(f (g h).2.1).1=(f h).1/\(f (g h).2.1).2.2=(f h).2.2/\(g (f h).2.1).2.1=(f (g h).2.1).2.1:=by
 have a:=hg.same (f h).2.1 h λr hr=>hf.out h r λq=>hd r q hr
 have c:=hf.same (g h).2.1 h λr hr=>hg.out h r (hd r hr)
 refine⟨a.1,a.2.1,c.1,c.2.1,?_⟩
 funext r
 by_cases q1:r∈F
 . rw[c.2.2 r q1,hg.out _ r (hd r q1)]
 by_cases q2:r∈G
 . rw[a.2.2 r q2,hf.out _ r q1]
 rw[hg.out _ r q2,hf.out _ r q1,hf.out _ r q1,hg.out _ r q2]
def rE{f:H->D×H×Prop}(h1 : ∀h,(f h).2.1=h)(h2 : ∀h h',(f h).1=(f h').1/\(f h).2.2=(f h').2.2):Loc f [] :=
 ⟨λh r _=>by rw[h1],λh h' _=>⟨(h2 h h').1,(h2 h h').2,λr hr=>by cases hr⟩⟩
theorem ZbV [aa P]{t:TypeId}{x:Operand}{W:bf}{xs:List D}{b:Nat}:Loc (λh=>aH P W C (.load t x) xs h b) (foot (.load t x) xs b):=by
 match xs with
 | []=>exact rE (λ_=>rfl) λ_ _=>⟨rfl,rfl⟩
 | a::c::l=>exact rE (λ_=>rfl) λ_ _=>⟨rfl,rfl⟩
 | [a] =>
  refine⟨λh r _=>rfl,λh h' hh=>?_⟩
  have key:jd P t a h=jd P t a h':=by
   have:fU P a h=fU P a h':=Ph λr hr=>hh r (by
    cases a<;>first|(simp only[named,Yx]at hr;subst hr;exact Yd.2 rfl)|(cases hr))
   unfold jd;simp only[this]
  refine⟨?_,?_,λr hr=>hh r hr⟩
  .
   show(jd P t a h).1=(jd P t a h').1
   rw[key]
  show(jd P t a h).2=(jd P t a h').2
  rw[key]
theorem ZbX [aa P]{t:TypeId}{W:bf}{xs:List D}{b:Nat}:Loc (λh=>aH P W C (.alloc t) xs h b) (foot (.alloc t) xs b):=by
 match xs with
 | a::l=>exact⟨λh r _=>rfl,λh h' hh=>⟨rfl,rfl,λr hr=>hh r hr⟩⟩
 | [] =>
  refine⟨λh r hr=>?_,λh h' hh=>⟨rfl,rfl,λr hr=>?_⟩⟩
  . exact aL _ _ _ _ λe=>hr (by rw[e];exact Yd.2 rfl)
  have:r=b:=Yd.1 hr;subst this
  show upd h r _ r=upd h' r _ r
  rw[bK,bK]
def ZbU [aa P]{t:TypeId}{o:Option Operand}{W:bf}{xs:List D}{b:Nat}:Loc (λh=>aH P W C (.makeMap t o) xs h b) (foot (.makeMap t o) xs b):=by
 refine⟨λh r hr=>?_,λh h' hh=>⟨rfl,rfl,λr hr=>?_⟩⟩
 . exact aL _ _ _ _ λe=>hr (by rw[e];exact Yd.2 rfl)
 have:r=b:=Yd.1 hr
 subst this
 show upd h r _ r=upd h' r _ r
 rw[bK,bK]
theorem ZbT [aa P]{t:TypeId}{x y:Operand}{W:bf}{xs:List D}{b:Nat}:Loc (λh=>aH P W C (.store t x y) xs h b) (foot (.store t x y) xs b):=by
 match xs with
 | []=>exact rE (λ_=>rfl) λ_ _=>⟨rfl,rfl⟩
 | [a]=>exact rE (λ_=>rfl) λ_ _=>⟨rfl,rfl⟩
 | a::c::d::l=>exact rE (λ_=>rfl) λ_ _=>⟨rfl,rfl⟩
 | [a,c] =>
  cases a with
  | mptr r k off =>
   refine⟨λh q hq=>?_,λh h' hh=>?_⟩
   .
    show(fO P t (.mptr r k off) c h).1 q=h q
    have:q≠r:=λe=>hq (by rw[e];exact Yd.2 rfl)
    cases hr:h r with
    | none=>simp only[fO,hr]
    | some bl=>simp only[fO,hr];exact aL _ _ _ _ this
   have hr:=hh r (Yd.2 rfl);refine⟨rfl,?_,λq hq=>?_⟩
   .
    show(fO P t (.mptr r k off) c h).2=(fO P t (.mptr r k off) c h').2
    simp only[fO,hr]
    cases h' r<;>rfl
   have:q=r:=Yd.1 hq;subst this
   show(fO P t (.mptr q k off) c h).1 q=(fO P t (.mptr q k off) c h').1 q
   simp only[fO,hr]
   cases h' q with
   | none=>exact hr
   | some bl=>simp only[bK]
  | _=>exact⟨λh q _=>rfl,λh h' hh=>⟨rfl,rfl,λq hq=>hh q hq⟩⟩
theorem XG{y:D}{h h':H}(hh : ∀r∈o7 y,h r=h' r):aj y h=aj y h':=by
 cases y with
 | mrow r off len=>simp only[aj,hh r (Yd.2 rfl)]
 | v x=>cases x<;>rfl
 | _=>rfl
theorem VK [aa P]{u:TypeId}{y:D}{h h':H}(hh : ∀r∈o7 y,h r=h' r):fG P u h y=fG P u h' y:=by
 cases y with
 | mrow r off len=>simp only[fG,hh r (Yd.2 rfl)]
 | v x=>cases x<;>rfl
 | _=>rfl
theorem ZbW [aa P]{t u:TypeId}{x y:D}{b:Nat}:Loc (λh=>dR P t u x y h b) (b::(o7 x++o7 y)):=by
 refine⟨λh r hr=>?_,λh h' hh=>?_⟩
 .
  have hb:r≠b:=λe=>hr (by rw[e];simp)
  have hx:r ∉ o7 x:=λe=>hr (by simp[e])
  show(dR P t u x y h b).2.1 r=h r
  unfold dR
  cases aZ P t with
  | none=>rfl
  | some e =>
   simp only
   split
   . exact aL _ _ _ _ hb
   .
    rename_i q n
    split
    .
     have:r≠q:=λe=>hx (by rw[e];exact Yd.2 rfl)
     show upd (upd h q none) b _ r=h r
     rw[aL _ _ _ _ hb,aL _ _ _ _ this]
    rfl
   rfl
 have e1:aj y h=aj y h':=XG λr hr=>hh r (by simp[hr])
 have e2:fG P u h y=fG P u h' y:=VK λr hr=>hh r (by simp[hr])
 show(dR P t u x y h b).1=(dR P t u x y h' b).1/\(dR P t u x y h b).2.2=(dR P t u x y h' b).2.2 /\ ∀r∈_,(dR P t u x y h b).2.1 r=(dR P t u x y h' b).2.1 r
 unfold dR
 cases aZ P t with
 | none=>exact⟨rfl,rfl,λr hr=>hh r hr⟩
 | some e =>
  simp only[e1,e2]
  split
  .
   refine⟨rfl,rfl,λr hr=>?_⟩
   show upd h b _ r=upd h' b _ r
   by_cases q:r=b
   . subst q;rw[bK,bK]
   rw[aL _ _ _ _ q,aL _ _ _ _ q];exact hh r hr
  .
   rename_i q n
   have e3:h q=h' q:=hh q (by simp[o7])
   rw[e3]
   cases h' q with
   | none=>exact⟨rfl,rfl,λr hr=>hh r hr⟩
   | some bl =>
    refine⟨rfl,rfl,λr hr=>?_⟩
    show upd (upd h q none) b _ r=upd (upd h' q none) b _ r
    by_cases q1:r=b
    . subst q1;rw[bK,bK]
    rw[aL _ _ _ _ q1,aL _ _ _ _ q1]
    by_cases q2:r=q
    . subst q2;rw[bK,bK]
    rw[aL _ _ _ _ q2,aL _ _ _ _ q2];exact hh r hr
  exact⟨rfl,rfl,λr hr=>hh r hr⟩
theorem Zd5 [aa P]{W:bf}{o:Oper}{xs:List D}{b:Nat}(ho:xg C o=true):Loc (λh=>aH P W C o.op xs h b) (foot o.op xs b):=by
 have hnone:bA C o.op = .none->foot o.op xs b=[]->Loc (λh=>aH P W C o.op xs h b) (foot o.op xs b):=by
  intro hc hf;rw[hf];refine rE (λh=>?_) λh h'=>?_
  . rw[J9 (h':=h) hc]
  rw[J9 (h:=h) (h':=h') hc];exact⟨rfl,rfl⟩
 unfold xg at ho
 generalize o.op=op at ho hnone
 split at ho
 . exact ZbV
 . exact ZbX
 . exact ZbT
 . exact ZbU
 .
  rename_i args ts
  match xs with
  | []=>exact rE (λ_=>rfl) λ_ _=>⟨rfl,rfl⟩
  | [a]=>exact rE (λ_=>rfl) λ_ _=>⟨rfl,rfl⟩
  | a::c::d::l=>exact rE (λ_=>rfl) λ_ _=>⟨rfl,rfl⟩
  | [x,y] =>
   show Loc (λh=>match ts.toList with|[t,u]=>dR P t u x y h b|_=>(.junk,h,False)) (b::(o7 x++o7 y))
   split
   . exact ZbW
   exact⟨λh r _=>rfl,λh h' hh=>⟨rfl,rfl,hh⟩⟩
 refine hnone (by simpa using ho) ?_
 unfold foot
 split<;>first|rfl|(exfalso;simp_all)
def gY(b:Nat)(r:D×H×Prop):D×H×Prop:=match r.1 with
 | .mrow q 0 m=>if q=b then(match r.2.1 b with
  | some bl=>(.list false (bl.rows.take m),upd r.2.1 b none,r.2.2/\m<=bl.rows.length/\bg bl.rows=true)
  | none=>(.junk,r.2.1,False))else(.junk,r.2.1,False)
 | _=>(.junk,r.2.1,False)
theorem JG{b m:Nat}{h:H}{p:Prop}{bl:ax}(hb:h b=some bl):gY b (.mrow b 0 m,h,p)=(.list false (bl.rows.take m),upd h b none,p/\m<=bl.rows.length/\bg bl.rows=true):=by
 simp only[gY,Zw,hb]
theorem Zdh{b:Nat}{r:D×H×Prop}(h:(gY b r).2.2):∃m bl,r.1 = .mrow b 0 m/\r.2.1 b=some bl/\r.2.2/\m<=bl.rows.length/\bg bl.rows=true/\gY b r=(.list false (bl.rows.take m),upd r.2.1 b none,r.2.2/\m<=bl.rows.length/\bg bl.rows=true):=by
 obtain⟨d,h',p⟩:=r
 cases d with
 | mrow q off m =>
  cases off with
  | zero =>
   by_cases e:q=b
   .
    subst e
    cases hb:h' q with
    | none=>simp only[gY,Zw,hb]at h
    | some bl =>
     rw[JG hb]at h;exact⟨m,bl,rfl,hb,h.1,h.2.1,h.2.2,JG hb⟩
   simp only[gY,XW e]at h
  | succ k=>exact h.elim
 | _=>exact h.elim
theorem Loc.frz{f:H->D×H×Prop}{F:List Nat}{b:Nat}(hf:Loc f F)(hb:b∈F):Loc (λh=>gY b (f h)) F:=by
 have key : ∀h,(∃m bl,(f h).1 = .mrow b 0 m/\(f h).2.1 b=some bl/\gY b (f h)=(.list false (bl.rows.take m),upd (f h).2.1 b none,(f h).2.2/\m<=bl.rows.length/\bg bl.rows=true))\/(gY b (f h)=(.junk,(f h).2.1,False) /\ ∀m bl,(f h).1 = .mrow b 0 m->(f h).2.1 b≠some bl):=by
  intro h
  rcases hr:f h with⟨d,h',p⟩
  cases d with
  | mrow q off m =>
   cases off with
   | zero =>
    by_cases e:q=b
    .
     subst e
     cases hb:h' q with
     | none=>exact .inr ⟨by simp only[gY,Zw,hb],λm bl _ q=>by simp only[hb]at q;cases q⟩
     | some bl=>exact .inl ⟨m,bl,rfl,hb,JG hb⟩
    exact .inr ⟨by simp only[gY,XW e],λm bl q=>absurd (by cases q;rfl) e⟩
   | succ k=>exact .inr ⟨rfl,λm bl q=>by cases q⟩
  | _=>exact .inr ⟨rfl,λm bl q=>by cases q⟩
 refine⟨λh r hr=>?_,λh h' hh=>?_⟩
 .
  show(gY b (f h)).2.1 r=h r
  have hne:r≠b:=λe=>hr (by rw[e];exact hb)
  rcases key h with⟨m,bl,_,_,e⟩|⟨e,_⟩
  . rw[e];show upd _ b none r=h r;rw[aL _ _ _ _ hne];exact hf.out h r hr
  rw[e];exact hf.out h r hr
 show(gY b (f h)).1=(gY b (f h')).1/\(gY b (f h)).2.2=(gY b (f h')).2.2 /\ ∀r∈F,(gY b (f h)).2.1 r=(gY b (f h')).2.1 r
 obtain⟨s1,s2,s3⟩:=hf.same h h' hh
 rcases key h with⟨m,bl,k1,k2,e⟩|⟨e,k⟩<;>rcases key h' with⟨m',bl',k1',k2',e'⟩|⟨e',k'⟩
 .
  have hm:m=m':=by rw[k1,k1']at s1;cases s1;rfl
  have hbl:bl=bl':=by have:=s3 b hb;rw[k2,k2']at this;exact ZX this
  subst hm;subst hbl;rw[e,e'];refine⟨rfl,by show(_/\_)=(_/\_);rw[s2],λr hr=>?_⟩
  show upd _ b none r=upd _ b none r
  by_cases q:r=b
  . subst q;rw[bK,bK]
  rw[aL _ _ _ _ q,aL _ _ _ _ q];exact s3 r hr
 . exact absurd (by rw[<-s3 b hb];exact k2) (k' m bl (by rw[<-s1];exact k1))
 . exact absurd (by rw[s3 b hb];exact k2') (k m' bl' (by rw[s1];exact k1'))
 rw[e,e'];exact⟨rfl,rfl,s3⟩
def outG(P:Program)[aa P](W:bf)(C:aK)(L:List Oper)(b:Nat)(fz:Option Nat)(i:Nat)(o:Oper)(n:Nat)(ev:Operand->D)(t:Nat->D)(h:H):D×H×Prop :=
 if fz=some i then gY (b+i) (aJ P W C L b i o n ev t h)else aJ P W C L b i o n ev t h
def stepG(P:Program)[aa P](W:bf)(C:aK)(L:List Oper)(b:Nat)(fz:Option Nat)(s:S)(i:Nat):S:=match L[i]? with
 | none=>s
 | some o=>{ s with t:=s.put o.dst (outG P W C L b fz i o s.n s.ev s.t s.h).1,h:=(outG P W C L b fz i o s.n s.ev s.t s.h).2.1,ok:=s.ok/\(outG P W C L b fz i o s.n s.ev s.t s.h).2.2 }
theorem ul [aa P]{W:bf}{L:List Oper}{b i:Nat}{fz:Option Nat}{s:S}(h:fz≠some i):stepG P W C L b fz s i=run1 P W C L b s i:=by
 unfold stepG run1
 cases L[i]? with
 | none=>rfl
 | some o=>simp only[outG,XW h,jB]
def N8 [aa P]{W:bf}{L:List Oper}{b i:Nat}{fz:Option Nat}{o:Oper}{s s':S}{n:Nat}{h:H}(he : ∀x∈looks L o,s.t x=s'.t x):outG P W C L b fz i o n s.ev s.t h=outG P W C L b fz i o n s'.ev s'.t h:=by
 unfold outG
 rw[zI he]
theorem NY [aa P]{W:bf}{L:List Oper}{b i:Nat}{o:Oper}{n:Nat}{ev:Operand->D}{t:Nat->D}(ho:xg C o=true):Loc (λh=>aJ P W C L b i o n ev t h) (foot o.op (((av o.op).map ev).map sd) (b+i)):=by
 have he:=Zd5 (P:=P) (W:=W) (xs:=((av o.op).map ev).map sd) (b:=b+i) ho
 cases hp:dG o.op with
 | true =>
  have hf:foot o.op (((av o.op).map ev).map sd) (b+i)=[]:=by
   cases hop:o.op<;>simp only[hop,dG,Ye]at hp
   rfl
  rw[hf]
  cases hg:o.guard with
  | none =>
   refine rE (λh=>?_) λh h'=>?_
   . simp only[aJ,hg,au,hp,Zw];rfl
   simp only[aJ,hg,au,hp,Zw];exact⟨rfl,rfl⟩
  | some q =>
   refine rE (λh=>?_) λh h'=>?_
   . simp only[aJ,hg]
   simp only[aJ,hg,au,hp,Zw];exact⟨rfl,rfl⟩
 | false =>
  cases hg:o.guard with
  | none =>
   refine⟨λh r hr=>?_,λh h' hh=>?_⟩
   .
    show(aJ P W C L b i o n ev t h).2.1 r=h r
    simp only[aJ,hg,au,hp,Ye,Y0];exact he.out h r hr
   show(aJ P W C L b i o n ev t h).1=(aJ P W C L b i o n ev t h').1/\(aJ P W C L b i o n ev t h).2.2=(aJ P W C L b i o n ev t h').2.2 /\ ∀r∈_,(aJ P W C L b i o n ev t h).2.1 r=(aJ P W C L b i o n ev t h').2.1 r
   obtain⟨q1,q2,q3⟩:=he.same h h' hh;simp only[aJ,hg,au,hp,Ye,Y0];exact⟨q1,by rw[q2],q3⟩
  | some q =>
   refine⟨λh r hr=>?_,λh h' hh=>?_⟩
   .
    show(aJ P W C L b i o n ev t h).2.1 r=h r
    simp only[aJ,hg]
   show(aJ P W C L b i o n ev t h).1=(aJ P W C L b i o n ev t h').1/\(aJ P W C L b i o n ev t h).2.2=(aJ P W C L b i o n ev t h').2.2 /\ ∀r∈_,(aJ P W C L b i o n ev t h).2.1 r=(aJ P W C L b i o n ev t h').2.1 r
   obtain⟨q1,q2,q3⟩:=he.same h h' hh;simp only[aJ,hg,au,hp,Ye,Y0];exact⟨by rw[q1],by rw[q2],λr hr=>hh r hr⟩
def vD(o:Oper):Bool:=match o.op with
 | .call { callee:=.builtin .append,args,.. }=>args.toList.length==2
 | _=>false
def Zgm{o:Oper}(h:vD o=true)(hr:wu o.op=true):False:=by
 unfold vD at h
 split at h
 .
  rename_i e
  rw[e]at hr
  cases hr
 cases h
theorem Zgn{o:Oper}{ev:Operand->D}{b:Nat}(h:vD o=true):b∈foot o.op (((av o.op).map ev).map sd) b:=by
 unfold vD at h
 split at h
 .
  rename_i args ts e
  have h2:args.toList.length=2:=by simpa using h
  rw[e]
  match hq:args.toList,h2 with
  | [x,y],_ =>
   show b∈foot _ ((args.toList.map ev).map sd) b
   rw[hq];exact List.mem_cons_self
 cases h
def N9 [aa P]{W:bf}{L:List Oper}{b i:Nat}{fz:Option Nat}{o:Oper}{n:Nat}{ev:Operand->D}{t:Nat->D}(ho:xg C o=true)(hz:fz=some i->vD o=true):Loc (λh=>outG P W C L b fz i o n ev t h) (foot o.op (((av o.op).map ev).map sd) (b+i)):=by
 by_cases e:fz=some i
 .
  have:(λh=>outG P W C L b fz i o n ev t h)=λh=>gY (b+i) (aJ P W C L b i o n ev t h):=by funext h;simp only[outG,XY e]
  rw[this];exact(NY ho).frz (Zgn (hz e))
 have:(λh=>outG P W C L b fz i o n ev t h)=λh=>aJ P W C L b i o n ev t h:=by funext h;simp only[outG,XW e]
 rw[this]
 exact NY ho
theorem ZaE{x y:Option Tmp}{t:Nat->D}{n n':Nat}{h h':H}{nx nx':Nat}{ok ok':Prop}{e e':Env}{r q:D}(hne : ∀d,x=some d->y≠some d):S.put { n:=n,t:=S.put { n:=n,t:=t,h:=h,nx:=nx,ok:=ok,e:=e } x r,h:=h,nx:=nx,ok:=ok,e:=e } y q=S.put { n:=n',t:=S.put { n:=n',t:=t,h:=h',nx:=nx',ok:=ok',e:=e' } y q,h:=h',nx:=nx',ok:=ok',e:=e' } x r:=by
 cases x with
 | none=>rfl
 | some d =>
  cases y with
  | none=>rfl
  | some d' =>
   have hne:d≠d':=λe=>hne d rfl (by rw[e])
   funext z
   simp only[S.put,upd]
   by_cases e1:z=d
   .
    have:z≠d':=λe=>hne (e1▸e)
    simp[e1,hne]
   simp[e1]
theorem Vo [aa P]{W:bf}{L:List Oper}{b i j:Nat}{fz:Option Nat}{x y:Oper}{s:S}(hi:L[i]? = some x)(hj:L[j]? = some y)(hs:gK L x y=true)(fx:xg C x=true)(fy:xg C y=true)(zx:fz=some i->vD x=true)(zy:fz=some j->vD y=true)
  (hd : ∀r∈foot x.op (((av x.op).map s.ev).map sd) (b+i),r ∉ foot y.op (((av y.op).map s.ev).map sd) (b+j)):stepG P W C L b fz (stepG P W C L b fz s i) j=stepG P W C L b fz (stepG P W C L b fz s j) i:=by
 simp only[gK,XT]at hs
 obtain⟨h1,h2⟩:=hs
 have nx : ∀d,x.dst=some d->d ∉ looks L y/\y.dst≠some d:=by
  intro d hd;rw[hd]at h1;simp only[XT,X5,ZE]at h1;exact⟨by simpa using h1.1,h1.2⟩
 have ny : ∀d,y.dst=some d->d ∉ looks L x:=by
  intro d hd;rw[hd]at h2
  simpa using h2
 have look : ∀{u:Oper}{s:S}{dst:Option Tmp}{r:D},(∀d,dst=some d->d ∉ looks L u) -> ∀z∈looks L u,s.t z=(S.put s dst r) z:=by
  intro u s dst r hd z hz
  cases dst with
  | none=>rfl
  | some d=>exact(aL _ _ _ _ (λe=>hd d rfl (by rw[<-e];exact hz))).symm
 have hc:=(N9 (P:=P) (W:=W) (L:=L) (b:=b) (i:=i) (n:=s.n) (ev:=s.ev) (t:=s.t) fx zx).comm (N9 (P:=P) (W:=W) (L:=L) (b:=b) (i:=j) (n:=s.n) (ev:=s.ev) (t:=s.t) fy zy) hd s.h
 obtain⟨c1,c2,c3,c4,c5⟩:=hc
 have e1 : ∀u,stepG P W C L b fz u i={ u with t:=u.put x.dst (outG P W C L b fz i x u.n u.ev u.t u.h).1,h:=(outG P W C L b fz i x u.n u.ev u.t u.h).2.1,ok:=u.ok/\(outG P W C L b fz i x u.n u.ev u.t u.h).2.2 }:=λu=>by simp only[stepG,hi]
 have e2 : ∀u,stepG P W C L b fz u j={ u with t:=u.put y.dst (outG P W C L b fz j y u.n u.ev u.t u.h).1,h:=(outG P W C L b fz j y u.n u.ev u.t u.h).2.1,ok:=u.ok/\(outG P W C L b fz j y u.n u.ev u.t u.h).2.2 }:=λu=>by simp only[stepG,hj]
 have ly : ∀h',outG P W C L b fz j y s.n (S.ev (stepG P W C L b fz s i)) (stepG P W C L b fz s i).t h'=outG P W C L b fz j y s.n s.ev s.t h':=λh'=>by
  refine(N8 (s:=s) (s':=stepG P W C L b fz s i) λz hz=>?_).symm
  rw[e1];exact look (λd hd=>(nx d hd).1) z hz
 have lx : ∀h',outG P W C L b fz i x s.n (S.ev (stepG P W C L b fz s j)) (stepG P W C L b fz s j).t h'=outG P W C L b fz i x s.n s.ev s.t h':=λh'=>by
  refine(N8 (s:=s) (s':=stepG P W C L b fz s j) λz hz=>?_).symm
  rw[e2];exact look (λd hd=>ny d hd) z hz
 have hi':(stepG P W C L b fz s i).h=(outG P W C L b fz i x s.n s.ev s.t s.h).2.1:=by rw[e1]
 have hj':(stepG P W C L b fz s j).h=(outG P W C L b fz j y s.n s.ev s.t s.h).2.1:=by rw[e2]
 have ni:(stepG P W C L b fz s i).n=s.n:=by rw[e1]
 have nj:(stepG P W C L b fz s j).n=s.n:=by rw[e2]
 rw[e2 (stepG P W C L b fz s i),e1 (stepG P W C L b fz s j),ni,nj,ly,lx,hi',hj',c1,c2,c3,c4,c5,e1 s,e2 s]
 congr 1
 . exact ZaE λd hd=>(nx d hd).2
 exact propext ⟨λ⟨⟨a,b⟩,c⟩=>⟨⟨a,c⟩,b⟩,λ⟨⟨a,b⟩,c⟩=>⟨⟨a,c⟩,b⟩⟩
structure Pr where
 (j i:Nat)
def I9(L:List Oper)(k:Nat):Bool:=(looks L (L.getD k default)).all λz=>I8 L k z
def xY(C:aK)(L:List Oper)(p:Pr):Bool:=xg C (L.getD p.j default)&&xg C (L.getD p.i default)&&gK L (L.getD p.j default) (L.getD p.i default)&&I9 L p.j&&I9 L p.i
def z8(ps:List Pr)(j i:Nat):Bool:=ps.any λp=>p.j==j&&p.i==i
def Fj(fz:Option Nat)(i:Nat):Bool:=match fz with
 | some k=>k==i
 | none=>false
def Fh(L:List Oper)(fz:Option Nat):Bool:=match fz with
 | some k=>vD (L.getD k default)
 | none=>true
def tQ(C:aK)(L:List Oper)(fz:Option Nat)(ps:List Pr):Bool :=
 let B:=dX L []
 L.all (tT C)&&ps.all (xY C L)&&Fh L fz&&(List.range L.length).all λi=>(List.range i).all λj=>(B.getD i 0).testBit j||z8 ps j i||(!Fj fz i && !Fj fz j&&j5 C L (L.getD j default) (L.getD i default))
def jA(L:List Oper)(b i:Nat)(s:S):List Nat:=foot (L.getD i default).op (((av (L.getD i default).op).map s.ev).map sd) (b+i)
def Qv{fz:Option Nat}{i:Nat}(h:Fj fz i=false):fz≠some i:=by
 rintro rfl
 simp[Fj]at h
def JD{L:List Oper}{fz:Option Nat}(h:Fh L fz=true){i:Nat}(e:fz=some i):vD (L.getD i default)=true:=by subst e;exact h
theorem JI{L:List Oper}{b i:Nat}{s s':S}(h : ∀z∈looks L (L.getD i default),s.t z=s'.t z):jA L b i s=jA L b i s':=by
 unfold jA
 congr 2
 refine YK λx hx=>?_
 cases x with
 | tmp t=>exact h t (Yo.2 (.inl (ZN.2 ⟨.tmp t,hx,rfl⟩)))
 | _=>rfl
theorem Mf [aa P]{W:bf}{L:List Oper}{b k z:Nat}{fz:Option Nat}{s:S}(h : ∀o,L[k]? = some o->o.dst≠some z):(stepG P W C L b fz s k).t z=s.t z:=by
 unfold stepG
 cases hk:L[k]? with
 | none=>rfl
 | some o =>
  have:=h o hk
  show S.put s o.dst _ z=s.t z
  cases hd:o.dst with
  | none=>rfl
  | some d=>exact aL _ _ _ _ λe=>this (by rw[hd,e])
theorem Fu [aa P]{W:bf}{L:List Oper}{b z:Nat}{fz:Option Nat}:∀(l:List Nat)(s:S),(∀k∈l,∀o,L[k]? = some o->o.dst≠some z)->(l.foldl (stepG P W C L b fz) s).t z=s.t z
 | [],s,_=>rfl
 | k::l,s,h=>by
  simp only[YB];rw[Fu l _ λm hm=>h m (by simp[hm]),Mf (h k (by simp))]
theorem Mg [aa P]{W:bf}{L:List Oper}{b i:Nat}{fz:Option Nat}{s:S}(h:(stepG P W C L b fz s i).ok):s.ok:=by
 unfold stepG at h
 cases hk:L[i]? with
 | none=>rw[hk]at h;exact h
 | some o=>rw[hk]at h;exact h.1
theorem Fv [aa P]{W:bf}{L:List Oper}{b:Nat}{fz:Option Nat}:∀{l:List Nat}{s:S},(l.foldl (stepG P W C L b fz) s).ok->s.ok
 | [],_,h=>h
 | _::l,_,h=>Mg (Fv (l:=l) h)
theorem Vq [aa P]{W:bf}{L:List Oper}{b i r:Nat}{fz:Option Nat}{s:S}(hc:L.all (tT C)=true)(hr:r≠b+i)(hn:s.h r=none):(stepG P W C L b fz s i).h r=none:=by
 by_cases e:fz=some i
 .
  unfold stepG
  cases hk:L[i]? with
  | none=>exact hn
  | some o =>
   show(outG P W C L b fz i o s.n s.ev s.t s.h).2.1 r=none
   have h1:=J5 (P:=P) (W:=W) (C:=C) (L:=L) (b:=b) (i:=i) (o:=o) (s:=s) (Yg.1 hc o (X7 hk)) hr hn;rw[jB]at h1;have h1:(aJ P W C L b i o s.n s.ev s.t s.h).2.1 r=none:=h1;simp only[outG,XY e];generalize aJ P W C L b i o s.n s.ev s.t s.h=x at h1;unfold gY
   split
   .
    split
    .
     split
     .
      show upd x.2.1 (b+i) none r=none
      rw[aL _ _ _ _ hr];exact h1
     exact h1
    exact h1
   exact h1
 rw[ul e]
 unfold run1
 cases hk:L[i]? with
 | none=>exact hn
 | some o=>exact J5 (Yg.1 hc o (X7 hk)) hr hn
def O6{L:List Oper}{x y:Oper}(h:gK L x y=true):∀z∈looks L y,x.dst≠some z:=by
 intro z hz e
 simp only[gK,e,XT]at h
 simp[hz]at h
theorem JN [aa P]{W:bf}{L:List Oper}{b i:Nat}{y:Oper}{fz:Option Nat}{ps:List Pr}(hcp:L.all (tT C)=true)(hz:Fh L fz=true)(hps : ∀p∈ps,xY C L p=true)(hi:L[i]? = some y):∀(pre:List Nat)(s:S),(∀j∈pre,j≠i /\ ∀x,L[j]? = some x->(z8 ps j i=true\/(fz≠some i/\fz≠some j/\j5 C L x y=true))) ->
  (∀p∈ps,p.i=i -> ∀qX wy,pre=qX++p.j::wy -> ∀r∈jA L b p.j (qX.foldl (stepG P W C L b fz) s),r ∉ jA L b p.i s) ->
  (reader y=true -> ∀j∈pre,∀d∈(av y.op).map s.ev,named (b+j) (sd d)=false)->s.h (b+i)=none->(pre.foldl (stepG P W C L b fz) s).ok ->
  stepG P W C L b fz (pre.foldl (stepG P W C L b fz) s) i=pre.foldl (stepG P W C L b fz) (stepG P W C L b fz s i)
 | [],s,_,_,_,_,_=>rfl
 | j::pre,s,h,hf,hr,hh,hok=>by
  simp only[YB]at hok ⊢;have hji:=(h j (by simp)).1
  have hok1:=Fv hok;have Ck:L.getD i default=y:=by simp only[List.getD,hi,YD]
  cases hj:L[j]? with
  | none =>
   have e : ∀u,stepG P W C L b fz u j=u:=λu=>by simp only[stepG,hj]
   rw[e s,e]at *;refine JN hcp hz hps hi pre s (λk hk=>h k (by simp[hk])) (λp hp hpi qX wy hsp=>?_) (λrJ k hk=>hr rJ k (by simp[hk])) hh hok
   have:=hf p hp hpi (j::qX) wy (by simp[hsp])
   simp only[YB,e]at this;exact this
  | some x =>
   have hap:=(h j (by simp)).2 x hj
   have EX:L.getD j default=x:=by simp only[List.getD,hj,YD]
   have hsl:gK L x y=true:=by
    rcases hap with hap|hap
    . simp only[z8,Zz,XT,Yx]at hap;obtain⟨p,hp,h1,h2⟩:=hap;have:=hps p hp;simp only[xY,XT,h1,h2,EX,Ck]at this;exact this.1.1.2
    exact CW hap.2.2
   have hstep:stepG P W C L b fz (stepG P W C L b fz s j) i=stepG P W C L b fz (stepG P W C L b fz s i) j:=by
    rcases hap with hap|⟨z1,z2,hap⟩
    .
     simp only[z8,Zz,XT,Yx]at hap;obtain⟨p,hp,h1,h2⟩:=hap;have hk:=hps p hp;simp only[xY,XT,h1,h2,EX,Ck]at hk;have hd:=hf p hp h2 [] pre (by simp[h1])
     simp only[ZI,jA,h1,h2,EX,Ck]at hd;exact Vo hj hi hsl hk.1.1.1.1 hk.1.1.1.2 (λe=>by have:=JD hz e;rwa [EX]at this) (λe=>by have:=JD hz e;rwa [Ck]at this) hd
    rw[ul z2,ul z1,ul z1,ul z2];have e : ∀u,run1 P W C L b u j=bT P W C L b j x u:=λu=>by simp only[run1,hj]
    have e' : ∀u,run1 P W C L b u i=bT P W C L b i y u:=λu=>by simp only[run1,hi]
    rw[e,e,e',e'];refine QU hji hap (λ_ rJ=>hr rJ j (by simp)) λ_ _=>⟨hh,?_⟩
    rw[ul z2,e,jB]at hok1;exact hok1.2
   have hty : ∀z∈looks L y,(stepG P W C L b fz s j).t z=s.t z:=λz hz=>Mf λo ho=>by
    rw[hj]at ho;cases ho
    exact O6 hsl z hz
   rw[<-hstep];refine JN hcp hz hps hi pre _ (λk hk=>h k (by simp[hk])) (λp hp hpi qX wy hsp=>?_) (λrJ k hk=>?_) ?_ hok
   .
    have h1:=hf p hp hpi (j::qX) wy (by simp[hsp])
    simp only[YB]at h1;rw[show jA L b p.i (stepG P W C L b fz s j)=jA L b p.i s from JI (by rw[hpi,Ck];exact hty)]
    exact h1
   .
    have:(av y.op).map (stepG P W C L b fz s j).ev=(av y.op).map s.ev:=YK λx hx=>by
     cases x with
     | tmp t=>exact hty t (Yo.2 (.inl (ZN.2 ⟨.tmp t,hx,rfl⟩)))
     | _=>rfl
    rw[this];exact hr rJ k (by simp[hk])
   exact Vq hcp om hh
theorem Vp [aa P]{s:S}{g:Mem}{a:Act}{w:World}(hs:St P B s g a w){b i N:Nat}{fz:Option Nat}(hb : ¬g.U (b+i))(hN : ∀r,g.U r->r<N){ops:Array Oper}{o:Oper}(hi:ops[i]? = some o)(hok:(stepG P (words P) C ops.toList b fz s i).ok)
  {ro:Option Nat}{n:Nat}{K:Act->World->Prop}{Q:Exit->Act->World->Prop}
  (hK : ∀g' a' w',St P B (stepG P (words P) C ops.toList b fz s i) g' a' w'->aB g g' w w'->(∀r,g'.U r->g.U r\/r=b+i)->K a' w'):wpOpIn (Fw ro) n P ops Q i K a w:=by
 have hi':ops.toList[i]? = some o:=by rw[YL];exact hi
 by_cases e:fz=some i
 .
  have es:stepG P (words P) C ops.toList b fz s i={ s with t:=s.put o.dst (gY (b+i) (aJ P (words P) C ops.toList b i o s.n s.ev s.t s.h)).1,h:=(gY (b+i) (aJ P (words P) C ops.toList b i o s.n s.ev s.t s.h)).2.1,ok:=s.ok/\(gY (b+i) (aJ P (words P) C ops.toList b i o s.n s.ev s.t s.h)).2.2 }:=by
   simp only[stepG,hi',outG,XY e]
  rw[es]at hok hK;obtain⟨m,bl,k1,k2,k3,k4,k5,k6⟩:=Zdh hok.2;rw[k6]at hK;refine Cx hs hb hN hi (by rw[jB];exact⟨hok.1,k3⟩) λg' a' w' q1 q2 q3=>?_
  rw[jB]at q1;have mono:=yS g' (b+i) w';refine hK (jX g' (b+i)) a' w' ⟨q1.sz,λj=>?_,Ah q1.mem (b+i),q1.df.later q1.mem mono,Env.later q1.mem mono q1.en,q1.bd⟩ (q2.trans mono) q3
  have hj:=q1.tm j
  show ag w' _ (S.put s o.dst (.list false (bl.rows.take m)) j) _
  have hj:ag w' g' (S.put s o.dst (aJ P (words P) C ops.toList b i o s.n s.ev s.t s.h).1 j) (a'.tmps.getD j undef):=hj
  cases hd:o.dst with
  | none=>rw[hd]at hj;exact hj.later q1.mem mono
  | some d =>
   rw[hd]at hj
   by_cases ej:j=d
   .
    subst ej;have hj:ag w' g' (upd s.t j _ j) _:=hj;rw[bK,k1]at hj
    show ag w' _ (upd s.t j _ j) _
    rw[bK];have:=JF (ty:=bl.ty) (rows:=bl.rows) q1.mem k2 k5 (off:=0) (k:=m) om hj
    simpa only[Yj]using this
   have hj:ag w' g' (upd s.t d _ j) _:=hj;rw[aL _ _ _ _ ej]at hj
   show ag w' _ (upd s.t d _ j) _
   rw[aL _ _ _ _ ej];exact hj.later q1.mem mono
 have er:stepG P (words P) C ops.toList b fz s i=bT P (words P) C ops.toList b i o s:=by rw[ul e];simp only[run1,hi']
 rw[er]at hok hK
 exact Cx hs hb hN hi hok hK
theorem ZeC [aa P]{ops:Array Oper}{b:Nat}{ro:Option Nat}{n:Nat}{Q:Exit->Act->World->Prop}{w0:World}{g0:Mem}{fin:S}{fz:Option Nat}{ps:List Pr}(hcomm:tQ C ops.toList fz ps=true)(yO : ∀p∈ps,∀r∈jA ops.toList b p.j fin,r ∉ jA ops.toList b p.i fin) :
  ∀(fuel:Nat)(listed:Array Bool)(s:S)(g:Mem)(a:Act)(w:World),listed.size=ops.size->(todo ops.size listed).length<=fuel->(∀(i:Nat)o,ops.toList[i]? = some o->listed.getD i false=true -> ∀e∈o.after.toList,Region.binds .any e=true->listed.getD e.on false=true) ->
   (∀(i:Nat)o,ops.toList[i]? = some o -> ∀e∈o.after.toList,Region.binds .any e=true->e.on<i) ->
   St P B s g a w->aB g0 g w0 w->(∀r,g.U r->r<b \/ ∃i,listed.getD i false=true/\i<ops.size/\r=b+i)->(todo ops.size listed).foldl (stepG P (words P) C ops.toList b fz) s=fin->fin.ok ->
   (∀g' a' w',St P B fin g' a' w'->aB g0 g' w0 w'->(∀r,g'.U r->r<b+ops.size)->Q .normal a' w') ->
   wpAnyIn (Fw ro) n P .any ops Q fuel listed a w:=by
 have hcp:ops.toList.all (tT C)=true:=by unfold tQ at hcomm;simp only[XT]at hcomm;exact hcomm.1.1.1
 have hps : ∀p∈ps,xY C ops.toList p=true:=by unfold tQ at hcomm;simp only[XT,Yg]at hcomm;exact hcomm.1.1.2
 have hz:Fh ops.toList fz=true:=by unfold tQ at hcomm;simp only[XT]at hcomm;exact hcomm.1.2
 have hcm:=hcomm
 unfold tQ at hcm
 simp only[XT]at hcm
 have hcm:=hcm.2
 simp only[Yg,Y2,X8,XT,X5]at hcm
 intro fuel
 induction fuel with
 | zero =>
  intro listed s g a w hsz hfu hX hback hs hm hU hfin hok hQ;have hnil:todo ops.size listed=[]:=Yf om;rw[hnil]at hfin;simp only[ZI]at hfin;subst hfin;refine⟨?_,hQ g a w hs hm λr hr=>?_⟩
  .
   unfold Region.ready;rw[List.filter_eq_nil_iff];intro i hi;have h1:i ∉ todo ops.size listed:=by rw[hnil];simp
   simp only[todo,YJ,hi,true_and,X5,Bool.not_eq_false]at h1;have hil:i<listed.size:=by rw[hsz];simpa using hi
   have h2:listed.getD i true=true:=by simp[Array.getD,hil]at h1 ⊢;exact h1
   simp[h2]
  rcases hU r hr with h|⟨i,_,h,rfl⟩<;>omega
 | succ fuel ih =>
  intro listed s g a w hsz hfu hX hback hs hm hU hfin hok hQ;refine⟨λhrd=>?_,λi hi=>?_⟩
  .
   have hnil:todo ops.size listed=[]:=by
    rw[todo,List.filter_eq_nil_iff];intro i hi;simp only[X5,Bool.not_eq_false];have hlt:i<ops.size:=by simpa using hi
    have : ∀k,k<ops.size->listed.getD k false=true:=by
     intro k
     induction k using Nat.strongRecOn with
     | _ k ihk =>
      intro hk;have h0:k ∉ Region.ready .any ops listed:=by rw[hrd];simp
      unfold Region.ready at h0;simp only[YJ,Y2,hk,true_and]at h0;have hkl:k<listed.size:=by omega
      cases hq:listed.getD k false with
      | true=>rfl
      | false =>
       exfalso
       apply h0
       have h2:listed.getD k true=false:=by simp[Array.getD,hkl]at hq ⊢;exact hq
       have h3:ops[k]? = some ops[k]:=by simp[hk]
       simp only[h2,Bool.not_false,h3,YP,YD,Zl];rw[Array.all_eq_true];intro q hqq;simp only[X8,X5]
       cases hb:Region.binds .any (ops[k].after[q])with
       | false=>exact .inl rfl
       | true =>
        have hmem:ops[k].after[q]∈ops[k].after.toList:=by simp
        have h4:=hback k ops[k] (by simp[hk]) _ hmem hb
        exact .inr (ihk _ h4 om)
    exact this i hlt
   rw[hnil]at hfin;simp only[ZI]at hfin;subst hfin;exact hQ g a w hs hm λr hr=>by rcases hU r hr with h|⟨i,_,h,rfl⟩<;>omega
  unfold Region.ready at hi;simp only[YJ,Y2,XT,X5]at hi;obtain⟨hlt,h1,h2⟩:=hi;have h3:ops[i]? = some ops[i]:=by simp[hlt]
  have qw:ops.toList[i]? = some ops[i]:=by simp[hlt]
  simp only[h3,YP,YD]at h2;have hil:i<listed.size:=by omega
  have uR:listed.getD i false=false:=by simp[Array.getD,hil]at h1 ⊢;exact h1
  have uM : ∀e∈(ops[i]).after.toList,Region.binds .any e=true->listed.getD e.on false=true:=by
   intro e he hb;rw[Array.all_eq_true]at h2;obtain⟨q,hq,rfl⟩:=Array.mem_iff_getElem.1 (Array.mem_toList_iff.1 he);have:=h2 q hq;simp only[hb,Bool.not_true,Bool.false_or]at this;exact this
  have hmem:i∈todo ops.size listed:=by simp[todo,hlt];simpa using uR
  obtain⟨pre,post,hsplit⟩:=List.append_of_mem hmem;have o9:(todo ops.size listed).Pairwise (· < ·):=ZU _ ZM;rw[hsplit]at o9;have hpre : ∀j∈pre,j<i:=λj hj=>(Zn.1 o9).2.2 j hj i (by simp)
  have hpost : ∀j∈post,i<j:=λj hj=>(Zo.1 (Zn.1 o9).2.1).1 j hj
  have hap : ∀j∈pre,j≠i /\ ∀x,ops.toList[j]? = some x->(z8 ps j i=true\/(fz≠some i/\fz≠some j/\j5 C ops.toList x ops[i]=true)):=by
   intro j hj;have hjl:=hpre j hj;refine⟨om,λx hx=>?_⟩
   have hjm:j∈todo ops.size listed:=by rw[hsplit];simp[hj]
   have hjn:listed.getD j false=false:=by simp only[todo,YJ,X5]at hjm;exact hjm.2
   have e1:ops.toList.getD j default=x:=by simp only[List.getD,hx,YD]
   have e2:ops.toList.getD i default=ops[i]:=by simp only[List.getD,qw,YD]
   rcases hcm i (by simpa using hlt) j hjl with(h|h)|h
   .
    exfalso
    have:=AP (L:=ops.toList) (X:=λk=>listed.getD k false=true) hX i _ qw uM j h
    rw[hjn]at this;cases this
   . exact .inl h
   rw[e1,e2]at h;exact .inr ⟨Qv h.1.1,Qv h.1.2,h.2⟩
  have Cc : ∀j∈pre,∀x,ops.toList[j]? = some x->gK ops.toList x ops[i]=true:=by
   intro j hj x hx;have e1:ops.toList.getD j default=x:=by simp only[List.getD,hx,YD]
   have e2:ops.toList.getD i default=ops[i]:=by simp only[List.getD,qw,YD]
   rcases(hap j hj).2 x hx with h|h
   . simp only[z8,Zz,XT,Yx]at h;obtain⟨p,hp,h1,h2⟩:=h;have:=hps p hp;simp only[xY,XT,h1,h2,e1,e2]at this;exact this.1.1.2
   exact CW h.2.2
  have Cg : ∀j,j∈todo ops.size listed -> ¬g.U (b+j):=by
   intro j hjm hu;have hjn:listed.getD j false=false:=by simp only[todo,YJ,X5]at hjm;exact hjm.2
   rcases hU _ hu with h|⟨k,hk,_,e⟩
   . omega
   have:k=j:=by omega
   subst this;rw[hjn]at hk;cases hk
  have hh0:s.h (b+i)=none:=by
   cases hq:s.h (b+i)with
   | none=>rfl
   | some bl =>
    obtain⟨blk,c',q1,_⟩:=hs.mem.blk _ bl hq;exact absurd (hs.mem.used _ (by rw[q1];simp)) (Cg i hmem)
  have hok0:=hok;rw[<-hfin,hsplit,Y8,YB]at hok0;have hok1:=Fv hok0;have Jl:(pre.foldl (stepG P (words P) C ops.toList b fz) s).ok:=Mg hok1;have hlooks : ∀z∈looks ops.toList ops[i],(pre.foldl (stepG P (words P) C ops.toList b fz) s).t z=s.t z:=λz hz=>Fu _ _ λk hk o ho=>O6 (Cc k hk o ho) z hz
  have Jo:reader ops[i]=true -> ∀j∈pre,∀d∈(av (ops[i]).op).map s.ev,named (b+j) (sd d)=false:=by
   intro hr j hj d hd;have hsg:sg d=true:=by
    have e:(av (ops[i]).op).map (pre.foldl (stepG P (words P) C ops.toList b fz) s).ev=(av (ops[i]).op).map s.ev:=YK λx hx=>by
     cases x with
     | tmp t=>exact hlooks t (Yo.2 (.inl (ZN.2 ⟨.tmp t,hx,rfl⟩)))
     | _=>rfl
    have hne:fz≠some i:=λe=>by
     have:=JD hz e;simp only[List.getD,qw,YD]at this;obtain⟨r1,r2⟩:=Bq hr;exact Zgm this r1
    have hrun' : ∀u,stepG P (words P) C ops.toList b fz u i=bT P (words P) C ops.toList b i ops[i] u:=λu=>by rw[ul hne];simp[run1,hlt]
    rw[hrun',jB]at hok1;have h2:=hok1.2;obtain⟨r1,r2⟩:=Bq hr;simp only[aJ,r2,au,Hz r1,Ye,Y0]at h2;have h4:=h2.2.1 trivial;rw[e]at h4;exact Yg.1 h4 d hd
   cases hq:named (b+j) (sd d)with
   | false=>rfl
   | true =>
    exfalso
    obtain⟨z,_,rfl⟩:=Yi.1 hd;exact Cg j (by rw[hsplit];simp[hj]) (M9 (dH hs z) hsg hq)
  have hfr : ∀p∈ps,p.i=i -> ∀qX wy,pre=qX++p.j::wy -> ∀r∈jA ops.toList b p.j (qX.foldl (stepG P (words P) C ops.toList b fz) s),r ∉ jA ops.toList b p.i s:=by
   intro p hp hpi qX wy hsp;have hk:=hps p hp;simp only[xY,I9,XT,Yg]at hk;have f1:=yO p hp;have hpp:=(Zn.1 o9).1;rw[hsp]at hpp;have hpp2:=(Zo.1 (Zn.1 hpp).2.1).1;have g1 : ∀z∈looks ops.toList (ops.toList.getD p.j default),fin.t z=(qX.foldl (stepG P (words P) C ops.toList b fz) s).t z:=by
    intro z hz;rw[<-hfin,hsplit,hsp,YW,Y8];refine Fu _ _ λk hkm=>Pz (hk.1.2 z hz) ?_
    have hjp:p.j<i:=hpre p.j (by rw[hsp];simp)
    simp only[XX,Yz,Yo]at hkm
    rcases hkm with h|h|h|h
    . omega
    . have:=hpp2 k h;omega
    . omega
    have:=hpost k h;omega
   have e2:ops.toList.getD p.i default=ops[i]:=by rw[hpi];simp only[List.getD,qw,YD]
   have g2 : ∀z∈looks ops.toList (ops.toList.getD p.i default),fin.t z=s.t z:=by
    intro z hz;rw[<-hfin,hsplit,Y8];refine(Fu (i::post) _ λk hkm=>Pz (hk.2 z hz) ?_).trans (hlooks z (by rw[<-e2];exact hz))
    rcases Yz.1 hkm with h|h
    . omega
    have:=hpost k h;omega
   rw[<-JI g1,<-JI g2];exact f1
  have Cn:(pre++post).foldl (stepG P (words P) C ops.toList b fz) (stepG P (words P) C ops.toList b fz s i)=fin:=by
   rw[<-hfin,hsplit,Y8,Y8,YB,JN hcp hz hps qw pre s hap hfr Jo hh0 Jl]
  have hset : ∀k,(listed.setIfInBounds i true).getD k false=(listed.getD k false||k==i):=by
   intro k
   by_cases e:k=i
   . subst e;simp[Array.getD,hil]
   rw[getD_set_ne false (Ne.symm e)];have:(k==i)=false:=by simpa using e
   rw[this,ZA]
  have htodo:todo ops.size (listed.setIfInBounds i true)=pre++post:=by
   have e1:todo ops.size (listed.setIfInBounds i true)=(todo ops.size listed).filter (· != i):=by
    unfold todo;rw[List.filter_filter];refine Z0 λk _=>?_
    rw[hset k]
    by_cases e:k=i
    . simp[e]
    have e2:(k==i)=false:=by simpa using e
    have e3:(k != i)=true:=by simpa using e
    rw[e2,e3,ZA,Zl]
   rw[e1,hsplit,List.filter_append,List.filter_cons];have p1:pre.filter (· != i)=pre:=ZF.2 λj hj=>by have:=hpre j hj;simp;omega
   have p2:post.filter (· != i)=post:=ZF.2 λj hj=>by have:=hpost j hj;simp;omega
   simp[p1,p2]
  refine Vp hs (b:=b) (N:=b+ops.size) (λh=>?_) (λr hr=>?_) h3 (Fv (by rw[Cn];exact hok)) λg' a' w' q1 q2 q3=>?_
  .
   rcases hU _ h with h|⟨k,hk,_,e⟩
   . omega
   have:k=i:=by omega
   subst this;rw[uR]at hk;cases hk
  . rcases hU r hr with h|⟨k,_,h,rfl⟩<;>omega
  refine ih (listed.setIfInBounds i true) _ g' a' w' (by simp[hsz]) (by rw[htodo];have:=congrArg List.length hsplit;simp at this;simp;omega) (λk o hk hkl e he hb=>?_) hback q1 (hm.trans q2) (λr hr=>?_) (by rw[htodo];exact Cn) hok hQ
  .
   rw[hset]at hkl ⊢;simp only[X8,Yx]at hkl ⊢
   rcases hkl with hkl|rfl
   . exact .inl (hX k o hk hkl e he hb)
   rw[qw]at hk;cases hk
   exact .inl (uM e he hb)
  rcases q3 r hr with h|rfl
  .
   rcases hU r h with h|⟨k,hk,hks,rfl⟩
   . exact .inl h
   exact .inr ⟨k,by rw[hset,hk];rfl,hks,rfl⟩
  exact .inr ⟨i,by rw[hset];simp,hlt,rfl⟩
end Go.DL
