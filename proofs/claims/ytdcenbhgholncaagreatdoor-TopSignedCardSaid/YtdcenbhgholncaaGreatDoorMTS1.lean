/-
  MANY TEXTS OF MINE IN ONE (a claim has a limit of files): DCore, DRep, DExec, DPure, DMem, DOps, DApp, DEff, DBuild, DMap, DEff2, DCall, DRegion, DDraw, DFt. Conditions: none.
-/
import Derived.WalkKit
import Derived.ControlIn
import Derived.CallsIn
import Derived.OrdersIn
import Derived.Laws.StructEq
import Derived.Great.BuildSlice
import Derived.MapKept
import Derived.Laws.MakeOwn
import Derived.WideKeyRuns
import Derived.RangeFuncLeaves
set_option linter.unusedVariables false
set_option linter.unusedSimpArgs false
set_option linter.unusedSectionVars false
set_option linter.defProp false
set_option linter.unnecessarySimpa false
namespace Go
def XT := @Bool.and_eq_true
def XU := @Option.some.injEq
def XV := @decide_eq_true_eq
def XW := @if_neg
def XX := @List.cons_append
def XY := @List.getElem?_eq_some_iff
def XZ := @List.nil_append
def X0 := @if_pos
def X3 := @Nat.le_refl
def X4 := @decide_eq_false_iff_not
def X5 := @List.getElem?_eq_getElem
def X6 := @List.mem_of_getElem?
def X7 := @Bool.not_eq_true'
def X8 := @List.map_cons
def X9 := @Array.getElem?_eq_some_iff
def Ya := @Bool.or_eq_true
def Yb := @Bool.or_eq_false_iff
def Yd := @Bool.false_eq_true
def Ye := @List.eq_nil_of_length_eq_zero
def Yf := @List.all_eq_true
def Yg := @List.take_of_length_le
def Yh := @List.mem_map
def Yi := @List.mem_singleton
def Yj := @List.getElem?_map
def Yk := @Nat.zero_le
def Yl := @List.drop_zero
def Ym := @Bool.not_eq_false'
def Yn := @Option.isSome_iff_exists
def Yo := @Prod.mk.injEq
def Yp := @List.map_nil
def Yq := @List.getElem_mem
def Yr := @List.drop_eq_getElem_cons
def Yt := @List.cons.injEq
def Yu := @List.mem_append
def Yv := @List.mem_cons
def Yw := @List.drop_succ_cons
def Yx := @Nat.le_trans
def Yy := @beq_iff_eq
def Yz := @List.foldl_cons
def YA := @Option.getD_some
def YB := @List.getElem?_of_mem
def YC := @Bool.and_eq_false_iff
def YD := @List.take_succ_cons
def YE := @List.length_append
def YG := @List.map_congr_left
def YH := @Array.getElem?_toList
def YI := @List.length_cons
def YJ := @List.getElem?_drop
def YK := @Option.map_some
def YL := @Nat.mul_le_mul_right
def YM := @List.drop_eq_nil_of_le
def YN := @Bool.eq_iff_iff
def YO := @List.pairwise_iff_getElem
def YP := @List.map_append
def YQ := @decide_eq_true
def YR := @List.getElem?_append_right
def YS := @List.append_assoc
def YT := @if_false
def YU := @List.mem_range
def YV := @Array.getD_eq_getD_getElem?
def YW := @Nat.lt_of_lt_of_le
def YX := @List.getElem?_take
def YY := @beq_eq_false_iff_ne
def YZ := @List.getElem_of_mem
def Y0 := @List.take_zero
def Y1 := @of_decide_eq_true
def Y2 := @List.foldl_append
def Y3 := @decide_eq_false
def Y4 := @List.set_cons_zero
def Y5 := @List.getElem?_append_left
def Y6 := @List.length_pos_iff
def Y7 := @Array.eq_empty_of_size_eq_zero
def Y8 := @List.length_map
def Y9 := @Classical.choose_spec
def Za := @Nat.add_mul
def Zb := @Option.isNone_iff_eq_none
def Zc := @Array.getElem?_eq_getElem
def Zd := @Array.ext'
def Ze := @List.range'_succ
def Zf := @List.length_drop
def Zg := @List.append_nil
def Zh := @List.set_cons_succ
def Zi := @List.mem_filter
def Zj := @Bool.true_and
def Zk := @List.range_eq_range'
def Zl := @List.pairwise_cons
def Zm := @List.getElem?_eq_none
def Zn := @Nat.sub_self
def Zo := @Nat.lt_or_ge
def Zp := @List.pairwise_append
def Zq := @Bool.and_assoc
def Zr := @if_true
def Zt := @Nat.mul_comm
def Zu := @List.length_take
def Zv := @Classical.byContradiction
def Zw := @List.take_length
def Zx := @Nat.mod_eq_of_lt
def Zy := @Nat.add_zero
def Zz := @List.filter_eq_self
def ZA := @List.getElem?_set_self
def ZB := @Bool.or_false
def ZC := @Nat.le_add_right
def ZE := @List.any_eq_true
def ZF := @bne_iff_ne
def ZG := @List.foldl_nil
def ZH := @List.length_nil
def ZI := @List.take_add_one
def ZJ := @List.range'_append_1
def ZK := @List.mem_append_left
def ZL := @List.drop_length
def ZM := @List.pairwise_lt_range
def ZN := @List.mem_filterMap
def ZO := @UInt8.toNat_inj
def ZP := @Nat.mul_add_mod
def ZQ := @List.take_append_drop
def ZR := @eq_false
def ZT := @List.Pairwise.filter
def ZU := @decide_eq_decide
def ZV := @bne_eq_false_iff_eq
def ZW := @Bool.and_self
def ZX := @Option.some.inj
def ZY := @List.filter_congr
def ZZ := @List.not_mem_nil
def Z0 := @Nat.min_eq_left
def Z4 := @List.length_set
def Z5 := @List.flatMap_cons
def Z6 := @List.map_take
def Z7 := @List.pairwise_singleton
def Z8 := @List.drop_drop
end Go
namespace Go.DL
theorem ez9 {p : Prop} (h : p := by first | omega | (intros; omega) | (intro h; cases h) | (intro h; simp at h; done)) : p := h
end Go.DL
namespace Go.DL
theorem om{p:Prop}(h:p:=by omega):p:=h
def oW{p:Prop}(h:p:=by first|omega|(dsimp only;omega)):p:=h
inductive D where
 | v (x:Value)
 | agg (cs:List D)
 | list (full:Bool) (rows:List (List D))
 | eptr (cs:List D)
 | mrow (r off len:Nat)
 | mptr (r i off:Nat)
 | fn (f:Fn) (first aK:List D)
 | tuple (ds:List D)
 | iface (t:TypeId) (d:D)
 | mp (r:Nat)
 | fmap (kv:List D)
 | cond (g:Bool) (d:D)
 | junk
 deriving Inhabited
abbrev D.i(n:Int):D:=.v (.int .i64 n)
abbrev D.b(x:Bool):D:=.v (.bool x)
abbrev D.l(x:List (List D)):D:=.list false x
abbrev D.e:D:=.list true []
def D.cells:D->List D
 | .agg cs=>cs
 | d=>[d]
def D.one:D->Bool
 | .v (.agg _) | .v (.tuple _)=>false
 | .agg _ | .tuple _ | .cond _ _ | .junk=>false
 | _=>true
def QO(_:Program):Type:=Nat->Option (List Value)
abbrev aa(P:Program):=Inhabited (QO P)
def aa.tab(P:Program)[aa P]:Nat->Option (List Value):=(default:QO P)
structure av where
 ty:TypeId
 rows:List (List D)
abbrev H:=Nat->Option av
def upd{α:Type}(f:Nat->α)(i:Nat)(x:α):Nat->α:=λj=>if j=i then x else f j
theorem bu{α:Type}(f:Nat->α)(i:Nat)(x:α):upd f i x i=x:=by simp[upd]
theorem aI{α:Type}(f:Nat->α)(i j:Nat)(x:α)(h:j≠i):upd f i x j=f j:=by simp[upd,h]
def zZ:Value->D
 | .slice a n c=>if a.isNone&&n==0&&c==0 then .list true []else .v (.slice a n c)
 | .func f fs cs=>if fs.size==0&&cs.size==0 then .fn f [] []else .v (.func f fs cs)
 | x=>.v x
def jI:Value->D
 | .agg cs=>.agg (cs.toList.map zZ)
 | x=>zZ x
section
variable (P : Program) [aa P]
def bP(t:TypeId):Bool:=match P.underlying t with|some (.struct _)|some (.array _ _)=>true|_=>false
def zeroCells(t:TypeId):List D:=match(P.info? t).bind (·.zero)with|some z=>(jI z).cells|none=>[]
def cB(t:TypeId):Bool:=match(P.info? t).bind (·.zero)with|some z=>z.cells.size==P.cellsOf t|none=>false
def bA(s:TypeId)(f:Nat):Option (Nat×TypeId):=match P.underlying s with|some (.struct fs)=>(fs[f]?).map λf=>(f.offset,f.type)|_=>none
def aT(t:TypeId):Option TypeId:=match P.underlying t with|some (.slice e)=>some e|_=>none
def nQ(t:TypeId)(cs:List D):D:=if bP P t then .agg (cs.take (P.cellsOf t))else cs.headD .junk
def dL(a:D)(h:H):List D:=match a with
 | .eptr cs=>cs
 | .mptr r i off=>match h r with
  | some b=>(b.rows.getD i []).drop off
  | none=>[]
 | _=>[]
def eP(a:D)(h:H):List D:=match a with
 | .v (.pointer (some ⟨x,o,none⟩))=>match aa.tab P x with
  | some cs=>(cs.drop o).map D.v
  | none=>[]
 | a=>dL a h
def iq(t:TypeId)(a:D)(h:H):D×Prop :=
 (nQ P t (eP P a h),P.cellsOf t<=(eP P a h).length/\0<P.cellsOf t/\(P.underlying t).isSome=true)
def splice(row:List D)(off:Nat)(cs:List D):List D:=row.take off++cs++row.drop (off+cs.length)
def eF(t:TypeId)(a x:D)(h:H):H×Prop:=match a with
 | .mptr r i off=>match h r with
  | some b=>(upd h r (some { b with rows:=b.rows.set i (splice (b.rows.getD i []) off x.cells) }),
    x.cells.length=P.cellsOf t/\0<P.cellsOf t/\i<b.rows.length/\off+x.cells.length<=(b.rows.getD i []).length/\x.cells.all D.one=true)
  | none=>(h,False)
 | _=>(h,False)
def qy(n:Nat):D->D
 | .eptr cs=>.eptr (cs.drop n)
 | .mptr r i off=>.mptr r i (off+n)
 | .v (.pointer (some p))=>.v (.pointer (some (p.add n)))
 | _=>.junk
def pR:D->Bool
 | .eptr _ | .mptr _ _ _=>true
 | .v (.pointer (some _))=>true
 | _=>false
def qY(s:TypeId)(f:Nat)(a:D):D×Prop:=match bA P s f with
 | some (off,t)=>(qy off a,pR a=true/\P.cellsOf t≠0)
 | none=>(.junk,False)
def xJ(s:TypeId)(f:Nat)(a:D):D×Prop:=match bA P s f,a with
 | some (off,t),.agg cs=>(nQ P t (cs.drop off),off+P.cellsOf t<=cs.length/\0<P.cellsOf t/\(P.underlying t).isSome=true)
 | _,_=>(.junk,False)
def aj(d:D)(h:H):List (List D):=match d with
 | .list _ rows=>rows
 | .mrow r off len=>match h r with
  | some b=>(b.rows.drop off).take len
  | none=>[]
 | .v (.string s)=>s.data.toList.map λb=>[.v (.int .u8 b.toNat)]
 | _=>[]
def aV(d:D):Nat:=match d with
 | .list _ rows=>rows.length
 | .mrow _ _ len=>len
 | .v (.string s)=>s.size
 | _=>0
def kF(t:TypeId):Option (Nat×TypeId):=match P.underlying t with|some (.array n e)=>some (n,e)|_=>none
def ve:D->Bool
 | .v (.pointer (some _)) | .eptr _ | .mptr _ _ _=>true
 | _=>false
def nW(t:TypeId)(x ix:D):D×Prop:=match kF P t,ix with
 | some (n,e),.v (.int _ k)=>(qy (k.toNat*P.cellsOf e) x,ve x=true/\0<=k/\k<n/\0<P.cellsOf e)
 | _,_=>(.junk,False)
def dM(t:TypeId)(x ix:D)(h:H):D×Prop:=match aT P t with
 | none=>nW P t x ix
 | some e=>match x,ix with
  | .list _ rows,.v (.int _ n)=>(.eptr (rows.getD n.toNat []),0<=n/\n<rows.length/\0<P.cellsOf e/\(rows.getD n.toNat []).length=P.cellsOf e)
  | .mrow r off len,.v (.int _ n)=>(.mptr r (off+n.toNat) 0,0<=n/\n<len/\0<P.cellsOf e/\match h r with|some bl=>bl.ty=e|none=>False)
  | _,_=>(.junk,False)
def jh(k:IntKind)(n:Int):Prop:=k.min<=n/\n<=k.max
def kw:D->D->Bool
 | .v (.int _ a),.v (.int _ b)=>a==b
 | .v (.bool a),.v (.bool b)=>a==b
 | .v (.string a),.v (.string b)=>a.data.toList==b.data.toList
 | _,_=>false
def ku:List D->List D->Bool
 | x::xs,y::ys=>kw x y&&ku xs ys
 | _,_=>true
inductive Kd where
 | b|i|s
def wL:Kd->D->D->Bool
 | .i,.v (.int k _),.v (.int k' _)=>k==k'
 | .b,.v (.bool _),.v (.bool _)=>true
 | .s,.v (.string _),.v (.string _)=>true
 | _,_,_=>false
def l6:List Kd->List D->List D->Bool
 | k::ks,x::xs,y::ys=>wL k x y&&l6 ks xs ys
 | [],[],[]=>true
 | _,_,_=>false
def cO(t:TypeId)(op:BinOp)(x y:Value):Value×Prop:=match op,x,y with
 | .add,.int k a,.int k' b=>if k.signed then(.int k (a+b),k=k'/\jh k (a+b))else(.int k (k.wrap (a+b)),k=k')
 | .sub,.int k a,.int k' b=>if k.signed then(.int k (a-b),k=k'/\jh k (a-b))else(.int k (k.wrap (a-b)),k=k')
 | .mul,.int k a,.int k' b=>if k.signed then(.int k (a*b),k=k'/\jh k (a*b))else(.int k (k.wrap (a*b)),k=k')
 | .quo,.int k a,.int k' b=>(.int k (a / b),k=k'/\0<=a/\1<=b/\jh k a)
 | .rem,.int k a,.int k' b=>(.int k (a % b),k=k'/\0<=a/\1<=b)
 | .lss,.int k a,.int k' b=>(.bool (decide (a<b)),k=k')
 | .leq,.int k a,.int k' b=>(.bool (decide (a<=b)),k=k')
 | .gtr,.int k a,.int k' b=>(.bool (decide (b<a)),k=k')
 | .geq,.int k a,.int k' b=>(.bool (decide (b<=a)),k=k')
 | .eql,.int k a,.int k' b=>(.bool (a==b),k=k')
 | .neq,.int k a,.int k' b=>(.bool (a != b),k=k')
 | .eql,.bool a,.bool b=>(.bool (a==b),P.underlying t=some .bool)
 | .neq,.bool a,.bool b=>(.bool (a != b),P.underlying t=some .bool)
 | .eql,.string a,.string b=>(.bool (a.data.toList==b.data.toList),True)
 | .neq,.string a,.string b=>(.bool (a.data.toList != b.data.toList),True)
 | .add,.string a,.string b=>(.string (a++b),a.size+b.size<=9223372036854775807)
 | .lss,.string a,.string b=>(.bool (Go.Op.bytesLess a.data.toList b.data.toList),True)
 | .leq,.string a,.string b=>(.bool (Go.Op.bytesLess a.data.toList b.data.toList||a.data.toList==b.data.toList),True)
 | .gtr,.string a,.string b=>(.bool !(Go.Op.bytesLess a.data.toList b.data.toList||a.data.toList==b.data.toList),True)
 | .geq,.string a,.string b=>(.bool !(Go.Op.bytesLess a.data.toList b.data.toList),True)
 | .shl,.int k a,.int _ b=>(.int k (k.wrap (a*2^(min b.toNat k.bits))),0<=b)
 | .shr,.int k a,.int _ b=>(.int k (a.fdiv (2^(min b.toNat k.bits))),0<=b)
 | .or,.int k a,.int k' b=>(.int k (k.wrap (BitVec.ofInt k.bits a ||| BitVec.ofInt k.bits b).toNat),k=k')
 | .xor,.int k a,.int k' b=>(.int k (k.wrap (BitVec.ofInt k.bits a ^^^ BitVec.ofInt k.bits b).toNat),k=k')
 | .and,.int k a,.int k' b=>(.int k (k.wrap (BitVec.ofInt k.bits a &&& BitVec.ofInt k.bits b).toNat),k=k')
 | .andNot,.int k a,.int k' b=>(.int k (k.wrap (BitVec.ofInt k.bits a &&& ~~~BitVec.ofInt k.bits b).toNat),k=k')
 | _,_,_=>(undef,False)
def kindOf(P:Program)[aa P](t:TypeId):Option Kd:=match P.underlying t with
 | some .bool=>some .b
 | some (.int _)=>some .i
 | some .string=>some .s
 | _=>none
def vF(P:Program)[aa P]:Nat->List Field->Option (List Kd)
 | _,[]=>some []
 | i, f :: fs => if f.name != "_" && f.offset == i then (match kindOf P f.type, vF P (i + 1) fs with
  | some k,some ks=>some (k::ks)
  | _,_=>none)else none
def qb(P:Program)[aa P](t:TypeId):Option (List Kd):=match P.underlying t with
 | some (.struct fs)=>if !P.stoodInHeld t && !P.eqGuardType P.depth t then vF P 0 fs.toList else none
 | _=>none
def kD(t:TypeId)(op:BinOp)(x y:D):D×Prop:=match x,y with
 | .v a,.v b=>(.v (cO P t op a b).1,(cO P t op a b).2)
 | .agg xs,.agg ys=>match op with
  | .eql=>(.v (.bool (ku xs ys)),match qb P t with|some ks=>l6 ks xs ys=true|none=>False)
  | .neq=>(.v (.bool (!ku xs ys)),match qb P t with|some ks=>l6 ks xs ys=true|none=>False)
  | _=>(.junk,False)
 | _,_=>(.junk,False)
end
def jg:D->D->Bool
 | .agg xs,.agg ys=>ku xs ys
 | x,y=>kw x y
def iL:List D->D->Option D
 | k::v::l,q=>if jg q k then some v else iL l q
 | _,_=>none
def iK:List D->D->D->List D
 | k::v::l,q,x=>if jg q k then q::x::l else k::v::iK l q x
 | _,q,x=>[q,x]
def plainOf(P:Program)(t:TypeId)(d:D):Bool:=match P.underlying t,d with
 | some .string,.v (.string _)=>true
 | some (.int k),.v (.int k' _)=>k==k'
 | some .bool,.v (.bool _)=>true
 | _,_=>false
def iH(P:Program):Nat->List Field->List D->Bool
 | i, f :: fs, d :: ds => f.name != "_" && f.offset == i && plainOf P f.type d && iH P (i + 1) fs ds
 | _,[],[]=>true
 | _,_,_=>false
def iM(P:Program)(t:TypeId)(d:D):Bool:=match P.underlying t,d with
 | some (.struct fs),.agg cs=>iH P 0 fs.toList cs
 | _,d=>plainOf P t d
def kg(P:Program)(t:TypeId):List D->Bool
 | k::_::l=>iM P t k&&kg P t l
 | []=>true
 | _=>false
def lV(P:Program)[aa P](t:TypeId):Bool:=match P.underlying t with
 | some (.struct _)=>(qb P t).isSome
 | some .string|some (.int _)|some .bool=>true
 | _=>false
def ut(P:Program)(t:TypeId):D:=match(P.info? t).bind (·.zero)with|some z=>jI z|none=>.junk
def Dj(P:Program)(t:TypeId):Bool:=((P.info? t).bind (·.zero)).isSome
def j4(P:Program)(t:TypeId):Option (TypeId×TypeId):=match P.underlying t with|some (.map k e)=>some (k,e)|_=>none
def gD(bl:av):Option (List D):=match bl.rows with
 | [[.iface 0 (.tuple kv)]]=>some kv
 | _=>none
def gU(kv:List D):List (List D):=[[.iface 0 (.tuple kv)]]
def nV(h:H):D->Option (List D)
 | .mp r=>(h r).bind gD
 | .fmap kv=>some kv
 | _=>none
end Go.DL
namespace Go.DL
open Go.RowKit
structure Mem where
 M:Nat->Option (Option Nat×Nat×Nat)
 U:Nat->Prop
 I:Nat->Prop
theorem block_add(a:Addr)(n:Nat):(a.add n).block=a.block:=by unfold Addr.add;split<;>rfl
theorem add_add'(a:Addr)(i j:Nat):(a.add i).add j=a.add (i+j):=by
 unfold Addr.add
 by_cases hi:i=0<;>by_cases hj:j=0<;>simp[hi,hj,Nat.add_assoc]
theorem jR(b o n:Nat):(⟨b,o,none⟩:Addr).add n=⟨b,o+n,none⟩:=by
 unfold Addr.add;split<;>simp_all
def gp(es:Array MapEntry):List Value:=es.toList.flatMap λe=>[e.key,e.val]
def Bq(es:Array MapEntry)(aQ:Nat):Prop:=aQ=es.size /\ ∀(i:Nat)(e:MapEntry),es.toList[i]? = some e->e.born=i
def mq(o:Option Obj)(ty:TypeId)(cur:Array Value)(c:Nat):Prop :=
 (c<=maxLen/\o=some (.cells cur ty (0,0)))\/(c=maxLen+1 /\ ∃es aQ,o=some (.map es aQ)/\cur = #[.iface 0 (.tuple (gp es).toArray)]/\Bq es aQ)
theorem mq.cells{o:Option Obj}{ty:TypeId}{cur:Array Value}{c:Nat}(h:mq o ty cur c)(hc:c<=maxLen):o=some (.cells cur ty (0,0)):=by
 rcases h with h|⟨h,_⟩
 . exact h.2
 omega
theorem mq.map{o:Option Obj}{ty:TypeId}{cur:Array Value}{c:Nat}(h:mq o ty cur c)(hc:c=maxLen+1):∃es aQ,o=some (.map es aQ)/\cur = #[.iface 0 (.tuple (gp es).toArray)]:=by
 rcases h with h|⟨_,es,aQ,h1,h2,_⟩
 . omega
 exact⟨es,aQ,h1,h2⟩
def mq.stamps{o:Option Obj}{ty:TypeId}{cur:Array Value}{c:Nat}(h:mq o ty cur c){es:Array MapEntry}{aQ:Nat}(ho:o = .some (.map es aQ)):Bq es aQ:=by
 rcases h with h|⟨_,es',clk',h1,_,h3⟩
 . rw[h.2]at ho;cases ho
 rw[h1]at ho;cases ho;exact h3
theorem mq.some{o:Option Obj}{ty:TypeId}{cur:Array Value}{c:Nat}(h:mq o ty cur c):∃x,o=some x/\((∃e f g,x = .cells e f g) \/ ∃e f,x = .map e f):=by
 rcases h with h|⟨_,es,aQ,h,_⟩
 . exact⟨_,h.2,.inl ⟨_,_,_,rfl⟩⟩
 exact⟨_,h,.inr ⟨_,_,rfl⟩⟩
def mq.uniq{o:Option Obj}{ty:TypeId}{cur cur':Array Value}{c:Nat}(h:mq o ty cur c)(k:mq o ty cur' c):cur=cur':=by
 by_cases hc:c<=maxLen
 .
  have h1:=h.cells hc;have h2:=k.cells hc;rw[h1]at h2
  cases h2
  rfl
 have e:c=maxLen+1:=by
  rcases h with h|h
  . exact absurd h.1 hc
  exact h.1
 obtain⟨es,aQ,h1,h2⟩:=h.map e
 obtain⟨es',clk',k1,k2⟩:=k.map e
 rw[h1]at k1
 cases k1
 rw[h2,k2]
inductive ag (w:World) (g:Mem):D->Value->Prop
 | v (x:Value):ag w g (.v x) x
 | agg (ds:List D) (vs:Array Value) (hn:ds.length=vs.size) (h : ∀(i:Nat)d x,ds[i]? = some d->vs[i]? = some x->ag w g d x):ag w g (.agg ds) (.agg vs)
 | tuple (ds:List D) (vs:Array Value) (hn:ds.length=vs.size) (h : ∀(i:Nat)d x,ds[i]? = some d->vs[i]? = some x->ag w g d x):ag w g (.tuple ds) (.tuple vs)
 | iface (t:TypeId) (d:D) (x:Value) (h:ag w g d x):ag w g (.iface t d) (.iface t x)
 | empty (full:Bool) (a:Option Addr) (cap:Nat) (hf:full=true->cap=0) (hm:cap<=maxLen):ag w g (.list full []) (.slice a 0 cap)
 | list (full:Bool) (rows:List (List D)) (ad:Addr) (cap size:Nat) (cv:Nat->Nat->Value) (hI:g.I ad.block) (hl:rows.length<=cap) (hf:full=true->cap=rows.length) (hm:cap<=maxLen)
   (hs : ∀r∈rows,r.length=size) (hc : ∀(i j:Nat)r d,rows[i]? = some r->r[j]? = some d->w.cell? (ad.add (i*size+j))=some (cv i j)/\(cv i j).oneCell'=true)
   (hr : ∀(i j:Nat)r d,rows[i]? = some r->r[j]? = some d->ag w g d (cv i j)):ag w g (.list full rows) (.slice (some ad) rows.length cap)
 | eptr (cs:List D) (p:Addr) (cv:Nat->Value) (hI:g.I p.block) (hc : ∀(j:Nat)d,cs[j]? = some d->w.cell? (p.add j)=some (cv j)) (hr : ∀(j:Nat)d,cs[j]? = some d->ag w g d (cv j)):ag w g (.eptr cs) (.pointer (some p))
 | mrow (r off len:Nat) (x:Value) (hx : ∃a c,x = .slice a len c/\len<=c/\(0<len -> ∃p,a=some p)) (hU:g.U r) (h : ∀blk c sz,g.M r=some (blk,c,sz)->(off+len<=c/\c<=maxLen)/\((c=off /\ ∃a,x = .slice a 0 0)\/(c≠off /\ ∃b,blk=some b/\x = .slice (some ⟨b,off*sz,Option.none⟩) len (c-off)))):ag w g (.mrow r off len) x
 | mptr (r i off:Nat) (x:Value) (hx : ∃p,x = .pointer (some p)) (hU:g.U r) (h : ∀blk c sz,g.M r=some (blk,c,sz)->c<=maxLen /\ ∃b,blk=some b/\x = .pointer (some ⟨b,i*sz+off,Option.none⟩)):ag w g (.mptr r i off) x
 | mp (r:Nat) (x:Value) (hx : ∃p,x = .map (some p)) (hU:g.U r) (h : ∀blk c sz,g.M r=some (blk,c,sz)->c=maxLen+1 /\ ∃b,blk=some b/\x = .map (some b)):ag w g (.mp r) x
 | fmap (kv:List D) (b:Nat) (es:Array MapEntry) (aQ:Nat) (hI:g.I b) (hb:w.heap[b]? = some (.map es aQ)) (hn:kv.length=(gp es).length) (h : ∀(i:Nat)d x,kv[i]? = some d->(gp es)[i]? = some x->ag w g d x):ag w g (.fmap kv) (.map (some b))
 | fn (f:Fn) (first aK:List D) (fs cs:Array Value) (hf:first.length=fs.size) (hc:aK.length=cs.size) (h1 : ∀(i:Nat)d x,first[i]? = some d->fs[i]? = some x->ag w g d x)
   (h2 : ∀(i:Nat)d x,aK[i]? = some d->cs[i]? = some x->ag w g d x):ag w g (.fn f first aK) (.func f fs cs)
 | cond (b:Bool) (d:D) (x:Value) (ht:b=true->ag w g d x) (hf:b=false->x=undef):ag w g (.cond b d) x
 | junk (x:Value):ag w g .junk x
theorem ag.mono{w w':World}{g g':Mem}(hI : ∀b,g.I b->g'.I b/\w'.heap[b]? = w.heap[b]?)(hU : ∀r,g.U r->g'.U r)(hM : ∀r,g.U r->g'.M r=g.M r\/g'.M r=Option.none)
  {d:D}{x:Value}(h:ag w g d x):ag w' g' d x:=by
 induction h with
 | v x=>exact .v x
 | agg ds vs hn _ ih=>exact .agg ds vs hn ih
 | tuple ds vs hn _ ih=>exact .tuple ds vs hn ih
 | iface t d x _ ih=>exact .iface t d x ih
 | empty full a cap hf hm=>exact .empty full a cap hf hm
 | list full rows ad cap size cv hi hl hf hm hs hc _ ih =>
  refine .list full rows ad cap size cv (hI _ hi).1 hl hf hm hs (λi j r d h1 h2=>?_) ih
  obtain⟨h3,h4⟩:=hc i j r d h1 h2;refine⟨?_,h4⟩;rw[<-h3];exact World.cell?_of_block (by rw[block_add];exact(hI _ hi).2)
 | eptr cs p cv hi hc _ ih =>
  refine .eptr cs p cv (hI _ hi).1 (λj d h1=>?_) ih
  rw[<-hc j d h1];exact World.cell?_of_block (by rw[block_add];exact(hI _ hi).2)
 | mrow r off len x hx hu h =>
  refine .mrow r off len x hx (hU r hu) λblk c sz he=>?_
  rcases hM r hu with e|e
  . exact h blk c sz (e▸he)
  rw[e]at he;cases he
 | mptr r i off x hx hu h =>
  refine .mptr r i off x hx (hU r hu) λblk c sz he=>?_
  rcases hM r hu with e|e
  . exact h blk c sz (e▸he)
  rw[e]at he;cases he
 | mp r x hx hu h =>
  refine .mp r x hx (hU r hu) λblk c sz he=>?_
  rcases hM r hu with e|e
  . exact h blk c sz (e▸he)
  rw[e]at he;cases he
 | fmap kv b es aQ hi hb hn _ ih=>exact .fmap kv b es aQ (hI b hi).1 ((hI b hi).2.trans hb) hn ih
 | fn f first aK fs cs hf hc _ _ ih1 ih2=>exact .fn f first aK fs cs hf hc ih1 ih2
 | cond b d x _ hf ih=>exact .cond b d x ih hf
 | junk x=>exact .junk x
def aC(w:World)(g:Mem)(ds:List D)(vs:List Value):Prop:=ds.length=vs.length /\ ∀(i:Nat)d x,ds[i]? = some d->vs[i]? = some x->ag w g d x
theorem aC.nil{w:World}{g:Mem}:aC w g [] []:=⟨rfl,λi d x h=>by simp at h⟩
theorem aC.cons{w:World}{g:Mem}{d:D}{x:Value}{ds:List D}{vs:List Value}(h:ag w g d x)(hs:aC w g ds vs):aC w g (d::ds) (x::vs):=by
 refine⟨by simp[hs.1],λi d' x' h1 h2=>?_⟩
 cases i with
 | zero=>simp at h1 h2;subst h1;subst h2;exact h
 | succ i=>simp at h1 h2;exact hs.2 i d' x' h1 h2
def aC.head{w:World}{g:Mem}{d:D}{x:Value}{ds:List D}{vs:List Value}(hs:aC w g (d::ds) (x::vs)):ag w g d x:=hs.2 0 d x rfl rfl
def aC.tail{w:World}{g:Mem}{d:D}{x:Value}{ds:List D}{vs:List Value}(hs:aC w g (d::ds) (x::vs)):aC w g ds vs :=
 ⟨by simpa using hs.1,λi d' x' h1 h2=>hs.2 (i+1) d' x' (by simpa using h1) (by simpa using h2)⟩
def aC.of_nil{w:World}{g:Mem}{vs:List Value}(hs:aC w g [] vs):vs=[]:=Ye hs.1.symm
theorem aC.of_cons{w:World}{g:Mem}{d:D}{ds:List D}{vs:List Value}(hs:aC w g (d::ds) vs):∃x xs,vs=x::xs/\ag w g d x/\aC w g ds xs:=by
 cases vs with
 | nil=>simp[aC]at hs
 | cons x xs=>exact⟨x,xs,rfl,hs.head,hs.tail⟩
theorem aC.append{w:World}{g:Mem}{ds es:List D}{vs us:List Value}(h:aC w g ds vs)(k:aC w g es us):aC w g (ds++es) (vs++us):=by
 induction ds generalizing vs with
 | nil=>rw[h.of_nil];exact k
 | cons d ds ih=>obtain⟨x,xs,rfl,h1,h2⟩:=h.of_cons;exact .cons h1 (ih h2)
theorem aC.take{w:World}{g:Mem}{ds:List D}{vs:List Value}(h:aC w g ds vs)(n:Nat):aC w g (ds.take n) (vs.take n):=by
 refine⟨by simp[h.1],λi d x h1 h2=>?_⟩
 rw[YX]at h1 h2
 split at h1
 . rename_i hi;rw[X0 hi]at h2;exact h.2 i d x h1 h2
 cases h1
theorem aC.drop{w:World}{g:Mem}{ds:List D}{vs:List Value}(h:aC w g ds vs)(n:Nat):aC w g (ds.drop n) (vs.drop n):=by
 refine⟨by simp[h.1],λi d x h1 h2=>?_⟩
 rw[YJ]at h1 h2
 exact h.2 _ d x h1 h2
def Holds(P:Program)[aa P](w:World)(g:Mem)(bl:av)(cur:Array Value):Prop :=
 ∀(i:Nat)row,bl.rows[i]? = some row->row.length=P.cellsOf bl.ty /\ ∀(j:Nat)d,row[j]? = some d -> ∃u,cur[i*P.cellsOf bl.ty+j]? = some u/\u.oneCell'=true/\ag w g d u
def Gr(P:Program)[aa P](I:Nat->Prop)(w:World):Prop:=∀x cs,aa.tab P x=some cs->I x /\ ∀(j:Nat)v,cs[j]? = some v->w.cell? ⟨x,j,Option.none⟩=some v
theorem Gr.later{P:Program}[aa P]{I I':Nat->Prop}{w w':World}(h:Gr P I w)(k : ∀b,I b->I' b/\w'.heap[b]? = w.heap[b]?):Gr P I' w':=by
 intro x cs hx
 obtain⟨h1,h2⟩:=h x cs hx
 refine⟨(k x h1).1,λj v hj=>?_⟩
 rw[<-h2 j v hj]
 exact World.cell?_of_block (k x h1).2
structure HM(P:Program)[aa P](h:H)(g:Mem)(w:World):Prop where
 dead : ∀r,h r=Option.none->g.M r=Option.none
 blk : ∀r bl,h r=some bl -> ∃blk c,g.M r=some (blk,c,P.cellsOf bl.ty)/\0<P.cellsOf bl.ty/\bl.rows.length<=c/\c<=maxLen+1 /\
  ((blk=Option.none/\c=0) \/ ∃b cur,blk=some b/\mq w.heap[b]? bl.ty cur c/\(c<=maxLen->cur.size=c*P.cellsOf bl.ty) /\ ¬g.I b/\Holds P w g bl cur)
 inj : ∀r r' b c c' s s',g.M r=some (some b,c,s)->g.M r'=some (some b,c',s')->r=r'
 used : ∀r,g.M r≠Option.none->g.U r
 imm : ∀b,g.I b->b<w.heap.size
 gr:Gr P g.I w
class Dr where
 dr:Prop
instance drF:Dr:=⟨False⟩
@[reducible]def drT:Dr:=⟨True⟩
section
variable [Dr]
structure ay(g g':Mem)(w w':World):Prop where
 os:w'.os=w.os
 tape:w'.tape=w.tape
 output:w'.output=w.output
 size:w.heap.size<=w'.heap.size
 drawn:Dr.dr->w.drawn<=w'.drawn
 U : ∀r,g.U r->g'.U r
 M : ∀r,g.U r->g'.M r=g.M r\/g'.M r=Option.none
 new : ∀r b c s,g'.M r=some (some b,c,s)->(∃r' c' s',g.M r'=some (some b,c',s'))\/w.heap.size<=b
 I : ∀b,g.I b->g'.I b
 inew : ∀b,g'.I b->g.I b\/w.heap.size<=b \/ ∃r c s,g.M r=some (some b,c,s)
 same : ∀b,b<w.heap.size->(∀r c s,g.M r≠some (some b,c,s))->w'.heap[b]? = w.heap[b]?
def ay.refl(g:Mem)(w:World):ay g g w w :=
 ⟨rfl,rfl,rfl,X3 _,λ_=>X3 _,λ_ h=>h,λ_ _=>.inl rfl,λr _ c s h=>.inl ⟨r,c,s,h⟩,λ_ h=>h,λ_ h=>.inl h,λ_ _ _=>rfl⟩
theorem ay.trans{g g' g'':Mem}{w w' w'':World}(h:ay g g' w w')(k:ay g' g'' w' w''):ay g g'' w w'':=by
 refine⟨k.os.trans h.os,k.tape.trans h.tape,k.output.trans h.output,Yx h.size k.size,λd=>Yx (h.drawn d) (k.drawn d),λr hr=>k.U r (h.U r hr),λr hr=>?_,λr b c s hr=>?_,λb hb=>k.I b (h.I b hb),λb hb=>?_,λb hb hn=>?_⟩
 .
  rcases k.M r (h.U r hr)with e|e
  . rw[e];exact h.M r hr
  exact .inr e
 .
  rcases k.new r b c s hr with⟨r',c',s',e⟩|e
  . exact h.new r' b c' s' e
  exact .inr (Yx h.size e)
 .
  rcases k.inew b hb with e|e|⟨r,c,s,e⟩
  . exact h.inew b e
  . exact .inr (.inl (Yx h.size e))
  rcases h.new r b c s e with⟨r',c',s',e'⟩|e'
  . exact .inr (.inr ⟨r',c',s',e'⟩)
  exact .inr (.inl e')
 refine(k.same b (YW hb h.size) λr c s e=>?_).trans (h.same b hb hn)
 rcases h.new r b c s e with⟨r',c',s',e'⟩|e'
 . exact hn r' c' s' e'
 omega
theorem HM.kept{P:Program}[aa P]{h:H}{g g':Mem}{w w':World}(hm:HM P h g w)(k:ay g g' w w'):∀b,g.I b->g'.I b/\w'.heap[b]? = w.heap[b]? := by
 refine λb hb=>⟨k.I b hb,k.same b (hm.imm b hb) λr c s e=>?_⟩
 cases hr:h r with
 | none=>rw[hm.dead r hr]at e;cases e
 | some bl =>
  obtain⟨blk,c',e1,_,_,_,h5⟩:=hm.blk r bl hr;rw[e]at e1;simp only[XU,Yo]at e1
  rcases h5 with⟨h6,_⟩|⟨b',cur,h6,_,_,h7,_⟩
  . rw[<-e1.1]at h6;cases h6
  rw[<-e1.1]at h6;cases h6;exact h7 hb
theorem ag.later{P:Program}[aa P]{h:H}{g g':Mem}{w w':World}(hm:HM P h g w)(k:ay g g' w w'){d:D}{x:Value}(hr:ag w g d x):ag w' g' d x:=hr.mono (hm.kept k) k.U k.M
mutual
def wk:D->D
 | .agg cs=>.agg (dA cs)
 | .list _ rows=>.list false (cK rows)
 | .eptr cs=>.eptr (dA cs)
 | .tuple ds=>.tuple (dA ds)
 | .iface t d=>.iface t (wk d)
 | .fmap kv=>.fmap (dA kv)
 | d=>d
def dA:List D->List D
 | []=>[]
 | d::ds=>wk d::dA ds
def cK:List (List D)->List (List D)
 | []=>[]
 | r::rs=>dA r::cK rs
end
theorem uu : ∀ds:List D,dA ds=ds.map wk
 | []=>rfl
 | d::ds=>by simp only[dA,uu ds,X8]
theorem zB : ∀ds:List (List D),cK ds=ds.map dA
 | []=>rfl
 | d::ds=>by simp only[cK,zB ds,X8]
theorem dY{α β:Type}{f:α->β}{l:List α}{i:Nat}{y:β}(h:(l.map f)[i]? = some y):∃x,l[i]? = some x/\f x=y:=by
 rw[Yj]at h
 cases hi:l[i]? with
 | none=>rw[hi]at h;cases h
 | some x=>rw[hi]at h;exact⟨x,rfl,by simpa using h⟩
theorem ag.wk{w:World}{g:Mem}{d:D}{v:Value}(h:ag w g d v):ag w g (wk d) v:=by
 induction h with
 | v x=>exact .v x
 | agg ds vs hl _ ih =>
  simp only[DL.wk,uu];exact .agg _ vs (by simpa using hl) λi d x h1 h2=>by obtain⟨y,h3,rfl⟩:=dY h1;exact ih i y x h3 h2
 | tuple ds vs hl _ ih =>
  simp only[DL.wk,uu];exact .tuple _ vs (by simpa using hl) λi d x h1 h2=>by obtain⟨y,h3,rfl⟩:=dY h1;exact ih i y x h3 h2
 | iface t d x _ ih=>exact .iface t _ x ih
 | empty full a cap hf hm=>exact .empty false a cap (λh=>by cases h) hm
 | list full rows ad cap size cv hi hl hf hm hs hc _ ih =>
  simp only[DL.wk,zB];have e:rows.length=(rows.map dA).length:=by simp
  rw[e];refine .list false _ ad cap size cv hi (by simpa using hl) (λh=>by cases h) hm (λr hr=>?_) (λi j r d h1 h2=>?_) (λi j r d h1 h2=>?_)
  . obtain⟨r',h1,rfl⟩:=Yh.1 hr;rw[uu];simpa using hs r' h1
  . obtain⟨r',h3,rfl⟩:=dY h1;rw[uu]at h2;obtain⟨d',h4,rfl⟩:=dY h2;exact hc i j r' d' h3 h4
  obtain⟨r',h3,rfl⟩:=dY h1;rw[uu]at h2;obtain⟨d',h4,rfl⟩:=dY h2;exact ih i j r' d' h3 h4
 | eptr cs p cv hi hc _ ih =>
  simp only[DL.wk,uu];refine .eptr _ p cv hi (λj d h1=>?_) (λj d h1=>?_)
  . obtain⟨d',h3,rfl⟩:=dY h1;exact hc j d' h3
  obtain⟨d',h3,rfl⟩:=dY h1;exact ih j d' h3
 | mrow r off len x hx hu h=>exact .mrow r off len x hx hu h
 | mptr r i off x hx hu h=>exact .mptr r i off x hx hu h
 | mp r x hx hu h=>exact .mp r x hx hu h
 | fmap kv b es aQ hi hb hn _ ih =>
  simp only[DL.wk,uu];exact .fmap _ b es aQ hi hb (by simpa using hn) λi d x h1 h2=>by obtain⟨y,h3,rfl⟩:=dY h1;exact ih i y x h3 h2
 | fn f first aK fs cs hf hc h1 h2 _ _=>exact .fn f first aK fs cs hf hc h1 h2
 | cond b d x ht hf _=>exact .cond b d x ht hf
 | junk x=>exact .junk x
end
structure Env where
 p:Mem->World->Prop
 x:Option Nat
 st : ∀(P:Program)[aa P](h:H)(g g':Mem)(w w':World),HM P h g w -> @ay drF g g' w w'->p g w->p g' w'
def Env.tt:Env:=⟨λ_ _=>True,Option.none,λ_ _ _ _ _ _ _ _ _ _=>trivial⟩
variable [Dr]
def ay.weak{g g':Mem}{w w':World}(h:ay g g' w w'):@ay drF g g' w w':=@ay.mk drF g g' w w' h.os h.tape h.output h.size (λq=>q.elim) h.U h.M h.new h.I h.inew h.same
theorem Env.later{P:Program}[aa P]{E:Env}{h:H}{g g':Mem}{w w':World}(hm:HM P h g w)(k:ay g g' w w')(hr:E.p g w):E.p g' w':=E.st P h g g' w w' hm k.weak hr
structure bJ(x:Option Nat)(g g':Mem)(w w':World):Prop where
 os:w'.os=w.os
 tape:w'.tape=w.tape
 output:w'.output=w.output
 size:w.heap.size<=w'.heap.size
 drawn:Dr.dr->w.drawn<=w'.drawn
 U : ∀r,g.U r->g'.U r
 M : ∀r,g.U r->g'.M r=g.M r\/g'.M r=Option.none
 new : ∀r b c s,g'.M r=some (some b,c,s)->(∃r' c' s',g.M r'=some (some b,c',s'))\/w.heap.size<=b
 I : ∀b,g.I b->g'.I b
 inew : ∀b,g'.I b->g.I b\/w.heap.size<=b \/ ∃r c s,g.M r=some (some b,c,s)
 same : ∀b,b<w.heap.size->(∀r c s,g.M r≠some (some b,c,s))->x≠some b->w'.heap[b]? = w.heap[b]?
def ay.toX{x:Option Nat}{g g':Mem}{w w':World}(h:ay g g' w w'):bJ x g g' w w':=⟨h.os,h.tape,h.output,h.size,h.drawn,h.U,h.M,h.new,h.I,h.inew,λb h1 h2 _=>h.same b h1 h2⟩
theorem bJ.out{g g':Mem}{w w':World}(h:bJ Option.none g g' w w'):ay g g' w w':=⟨h.os,h.tape,h.output,h.size,h.drawn,h.U,h.M,h.new,h.I,h.inew,λb h1 h2=>h.same b h1 h2 (by simp)⟩
def bJ.refl(x:Option Nat)(g:Mem)(w:World):bJ x g g w w:=(ay.refl g w).toX
theorem bJ.trans{x:Option Nat}{g g' g'':Mem}{w w' w'':World}(h:bJ x g g' w w')(k:bJ x g' g'' w' w''):bJ x g g'' w w'':=by
 refine⟨k.os.trans h.os,k.tape.trans h.tape,k.output.trans h.output,Yx h.size k.size,λd=>Yx (h.drawn d) (k.drawn d),λr hr=>k.U r (h.U r hr),λr hr=>?_,λr b c s e=>?_,λb hb=>k.I b (h.I b hb),λb hb=>?_,λb hb hn hx=>?_⟩
 .
  rcases k.M r (h.U r hr)with e|e
  .
   rcases h.M r hr with e'|e'
   . exact .inl (e.trans e')
   exact .inr (e.trans e')
  exact .inr e
 .
  rcases k.new r b c s e with⟨r',c',s',e'⟩|e'
  . exact h.new r' b c' s' e'
  exact .inr (Yx h.size e')
 .
  rcases k.inew b hb with e|e|⟨r,c,s,e⟩
  . exact h.inew b e
  . exact .inr (.inl (Yx h.size e))
  rcases h.new r b c s e with⟨r',c',s',e'⟩|e'
  . exact .inr (.inr ⟨r',c',s',e'⟩)
  exact .inr (.inl e')
 refine(k.same b (YW hb h.size) (λr c s e=>?_) hx).trans (h.same b hb hn hx)
 rcases h.new r b c s e with⟨r',c',s',e'⟩|e'
 . exact hn r' c' s' e'
 omega
end Go.DL
namespace Go.DL
structure aH where
 pure:FuncId->Bool:=λ_=>false
 pf:FuncId->List D->D:=λ_ _=>.junk
 im:FuncId->List D->H->Nat->D×H:=λ_ _ h _=>(.junk,h)
 bs:Bool:=false
 cf:Bool:=false
 dp:Bool:=false
structure S where
 n:Nat
 t:Nat->D
 h:H
 nx:Nat
 ok:Prop:=True
 e:Env:=Env.tt
def S.ev(s:S):Operand->D
 | .tmp i=>s.t i
 | .const x=>jI x
 | .global g=>.v (.pointer (some ⟨g,0,none⟩))
 | .func f=>.fn (.func f) [] []
def au:Op->List Operand
 | .move x | .assign x | .box _ x | .load _ x | .nilCheck x | .unOp _ _ x | .convert _ _ x | .makeInterface _ x | .fieldAddr _ x _ | .field _ x _ | .extract x _=>[x]
 | .pick c a b=>[c,a,b]
 | .build _ ps | .buildSlice _ _ ps=>ps.toList.map (·.2)
 | .store _ a x | .binOp _ _ a x _ | .indexAddr _ a x | .index _ a x | .makeSlice _ a x=>[a,x]
 | .makeFunc _ first captured=>first.toList++captured.toList
 | .slice _ x l h m=>x::(l.toList++h.toList++m.toList)
 | .makeMap _ r=>r.toList
 | .lookup _ m k _=>[m,k]
 | .mapUpdate _ m k x | .insert _ m k x=>[m,k,x]
 | .call { callee:=.value f,args,.. }=>f::args.toList
 | .call { callee:=.builtin _,args,.. }=>args.toList
 | _=>[]
def fq:D->Bool->Bool
 | .v (.bool b),want=>b==want
 | .cond g (.v (.bool b)),want=>g&&(b==want)
 | _,_=>false
def jm:D->Bool
 | .v (.bool _) | .cond _ (.v (.bool _))=>true
 | _=>false
def sd:D->D
 | .cond _ d=>d
 | d=>d
def sg:D->Bool
 | .cond g _=>g
 | _=>true
def bv:D->Bool
 | .v (.bool b)=>b
 | _=>false
def sP:D->Bool
 | .v (.bool _)=>true
 | _=>false
def uP(g:Bool):List D->D×Prop
 | [c,a,b]=>(.v (.bool (bif bv (sd c)then bv (sd a)else bv (sd b))),(g=true->(sg c=true/\sP (sd c)=true)/\(bv (sd c)=true->sg a=true/\sP (sd a)=true)/\(bv (sd c)=false->sg b=true/\sP (sd b)=true)))
 | _=>(.junk,False)
section
variable (P : Program) [aa P] (C : aH)
def tK(s:TypeId):List (Nat×Operand)->List D->List D->List D
 | (f,_)::ps,x::xs,cs=>match bA P s f with
  | some (off,_)=>tK s ps xs (splice cs off x.cells)
  | none=>match kF P s with
   | some (_,e)=>tK s ps xs (splice cs (f*P.cellsOf e) x.cells)
   | none=>cs
 | _,_,cs=>cs
def qX(s:TypeId)(n:Nat):List (Nat×Operand)->List D->Prop
 | (f,_)::ps,x::xs=>(match bA P s f with
  | some (off,t)=>x.cells.length=P.cellsOf t/\off+x.cells.length<=n
  | none=>match kF P s with
   | some (_,e)=>x.cells.length=P.cellsOf e/\f*P.cellsOf e+x.cells.length<=n
   | none=>False)/\x.cells.all D.one=true/\qX s n ps xs
 | [],_=>True
 | _,_=>False
def mr(t:TypeId):Bool:=match P.underlying t with
 | some (.struct fs)=>fs.toList.all λf=>(P.info? f.type).isSome
 | some (.array _ e)=>(P.info? e).isSome
 | _=>false
def xN(t:TypeId)(ps:List (Nat×Operand))(xs:List D):D×Prop :=
 (.agg (tK P t ps xs (zeroCells P t)),qX P t (zeroCells P t).length ps xs/\(zeroCells P t).all D.one=true/\0<(zeroCells P t).length/\mr P t=true)
def si(n i:Nat):List (Nat×Operand)->List D->Prop
 | (j,_)::ps,x::xs=>j=i/\x.cells.length=n/\x.cells.all D.one=true/\si n (i+1) ps xs
 | [],[]=>True
 | _,_=>False
def uf(t:TypeId)(len:Nat)(ps:List (Nat×Operand))(xs:List D):D×Prop:=match aT P t with
 | some e=>(.list true (xs.map D.cells),ps.length=len/\si (P.cellsOf e) 0 ps xs/\0<P.cellsOf e/\len*P.cellsOf e<=16777216/\cB P e=true)
 | none=>(.junk,False)
def kC(t:TypeId)(len:Nat)(ps:List (Nat×Operand))(xs:List D)(h:H)(b:Nat):D×H×Prop:=match aT P t with
 | some e=>(.mrow b 0 len,upd h b (some ⟨e,xs.map D.cells⟩),0<len/\ps.length=len/\si (P.cellsOf e) 0 ps xs/\0<P.cellsOf e/\len*P.cellsOf e<=16777216/\cB P e=true)
 | none=>(.junk,h,False)
def ek(u:TypeId)(h:H):D->Bool
 | .list _ _=>(aT P u).isSome
 | .mrow r _ _=>(aT P u).isSome&&(h r).isSome
 | .v (.string _)=>match P.underlying u with|some .string=>true|_=>false
 | _=>false
def dw(t u:TypeId)(x y:D)(h:H)(b:Nat):D×H×Prop:=match aT P t with
 | none=>(.junk,h,False)
 | some e =>
  let news:=aj y h
  let size:=0<P.cellsOf e/\(aV x+news.length)*P.bytesOf e<=140737488355328/\aV x+news.length<=9223372036854775807
  let src:=news.length=aV y/\ek P u h y=true/\cB P e=true /\ ∀r∈news,r.length=P.cellsOf e
  match x with
  | .list true rows=>(.mrow b 0 (rows.length+news.length),upd h b (some ⟨e,rows++news⟩),size/\src/\(news=[]->rows=[]) /\ ∀r∈rows,r.length=P.cellsOf e)
  | .mrow r 0 n=>match h r with
   | some bl=>(.mrow b 0 (n+news.length),upd (upd h r none) b (some ⟨e,bl.rows++news⟩),size/\src/\bl.ty=e/\bl.rows.length=n/\r≠b)
   | none=>(.junk,h,False)
  | _=>(.junk,h,False)
def bnd(o:Option D)(d:Nat):Int:=match o with
 | some (.v (.int _ n))=>n
 | _=>d
def xO:Option D->Bool
 | none|some (.v (.int _ _))=>true
 | _=>false
def lw(t:TypeId)(x:D)(l hh m:Option D)(h:H):D×Prop :=
 let len:=aV x
 let lo:=bnd l 0
 let hi:=bnd hh len
 let ok:=xO l=true/\xO hh=true/\xO m=true/\0<=lo/\lo<=hi/\hi<=len
 match x with
 | .v (.string s)=>(.v (.string (s.extract lo.toNat hi.toNat)),ok/\m=none/\P.underlying t=some .string)
 | .list full rows=>match aT P t with
  | none=>(.junk,False)
  | some e=>match m with
   | none=>(.list (full&&hi==len) ((rows.take hi.toNat).drop lo.toNat),ok/\0<P.cellsOf e /\ ∀r∈rows,r.length=P.cellsOf e)
   | some _=>(.list true ((rows.take hi.toNat).drop lo.toNat),ok/\hh.isSome=true/\bnd m 0=hi/\0<P.cellsOf e /\ ∀r∈rows,r.length=P.cellsOf e)
 | .mrow r off _=>match aT P t with
  | none=>(.junk,False)
  | some e=>(.mrow r (off+lo.toNat) (hi-lo).toNat,ok/\m=none/\0<P.cellsOf e/\match h r with|some bl=>bl.ty=e|none=>False)
 | _=>(.junk,False)
def gB(o:Option Operand)(xs:List D):Option D×List D:=match o,xs with
 | some _,x::xs=>(some x,xs)
 | some _,[]=>(none,[])
 | none,xs=>(none,xs)
def sU(t:TypeId)(x ix:D):D×Prop:=match x,ix with
 | .v (.string s),.v (.int _ n)=>(.v (.int .u8 (s.data.toList.getD n.toNat 0).toNat),0<=n/\n<s.size/\P.underlying t=some .string)
 | _,_=>(.junk,False)
def rP(op:UnOp)(x:D):D×Prop:=match op,x with
 | .not,.v (.bool b)=>(.v (.bool !b),True)
 | .neg,.v (.int k n)=>(.v (.int k (-n)),jh k (-n))
 | _,_=>(.junk,False)
def byteOf:List D->UInt8
 | [.v (.int .u8 n)]=>UInt8.ofNat n.toNat
 | _=>0
def isByte:List D->Bool
 | [.v (.int .u8 _)]=>true
 | _=>false
def Qs(P:Program)(t:TypeId):Bool:=match P.underlying t with
 | some (.slice e)=>match P.underlying e with
  | some (.int .u8)=>true
  | _=>false
 | _=>false
def tX(src dst:TypeId)(x:D):D×Prop:=match P.underlying dst,x with
 | some (.int k),.v (.int _ n)=>(.v (.int k (k.wrap n)),(P.underlying src).isSome=true)
 | some .string,.v (.string s)=>(.v (.string s),match P.underlying src with|some .string=>True|_=>False)
 | some .string,.list _ rows=>(.v (.string ⟨(rows.map byteOf).toArray⟩),Qs P src=true/\rows.all isByte=true)
 | _,_=>(.junk,False)
def iJ(t:TypeId)(h:H)(b:Nat):D->D->D×H×Prop
 | .v (.int _ n),.v (.int _ m)=>match aT P t with
  | some e=>(.mrow b 0 n.toNat,upd h b (some ⟨e,List.replicate n.toNat (zeroCells P e)⟩),n<=m/\0<=n/\P.bytesOf e*m<=281474976710656/\m<=9223372036854775807/\cB P e=true/\(zeroCells P e).length=P.cellsOf e/\(zeroCells P e).all D.one=true/\0<P.cellsOf e)
  | none=>(.junk,h,False)
 | _,_=>(.junk,h,False)
def CW:List D->Bool
 | []|[.v (.int _ _)]=>true
 | _=>false
def uX(t:TypeId)(xs:List D)(h:H)(b:Nat):D×H×Prop:=(.mp b,upd h b (some ⟨t,gU []⟩),(j4 P t).isSome=true/\P.cellsOf t=1/\CW xs=true)
def jT(t:TypeId)(m k x:D)(h:H):H×Prop:=match j4 P t,m with
 | some (kt,_),.mp r=>match h r with
  | some bl=>match gD bl with
   | some kv=>(upd h r (some ⟨bl.ty,gU (iK kv k x)⟩),iM P kt k=true/\kg P kt kv=true/\lV P kt=true)
   | none=>(h,False)
  | none=>(h,False)
 | _,_=>(h,False)
def j5(t:TypeId)(ok:Bool)(m k:D)(h:H):D×Prop:=match j4 P t,nV h m with
 | some (kt,e),some kv=>(if ok then .tuple [(iL kv k).getD (ut P e),.b (iL kv k).isSome]else(iL kv k).getD (ut P e),
   iM P kt k=true/\kg P kt kv=true/\lV P kt=true/\Dj P e=true)
 | _,_=>(.junk,False)
def ou(h:H)(d:D):D:=match d with
 | .mrow _ _ _=>.list false (aj d h)
 | d=>d
def tT(h:H)(d:D):D:=match d with
 | .mrow _ _ _=>.list false (aj d h)
 | .mptr _ _ _=>.eptr ((dL d h).map (ou h))
 | d=>d
def deref(h:H)(d:D):D:=match d with
 | .mrow _ _ _=>.list false (aj d h)
 | .mptr _ _ _=>.eptr ((dL d h).map (ou h))
 | .fn f a b=>.fn f (a.map (tT h)) (b.map (tT h))
 | d=>d
def iQ(h:H)(d:D):D:=wk (deref h d)
def mR(h:H)(d:D):Prop:=match d with
 | .mrow r _ len=>(h r).isSome=true/\(aj d h).length=len
 | _=>True
def tQ(h:H)(d:D):Prop:=match d with
 | .mrow r _ len=>(h r).isSome=true/\(aj d h).length=len
 | .mptr r _ _=>(h r).isSome=true /\ ∀c∈dL d h,mR h c
 | _=>True
def iT(h:H)(d:D):Prop:=match d with
 | .mrow r _ len=>(h r).isSome=true/\(aj d h).length=len
 | .mptr r _ _=>(h r).isSome=true /\ ∀c∈dL d h,mR h c
 | .fn _ a b=>(∀c∈a,tQ h c) /\ ∀c∈b,tQ h c
 | _=>True
mutual
def D.nr:D->Bool
 | .v _=>true
 | .agg cs=>bK cs
 | .list _ rows=>aZ rows
 | .eptr cs=>bK cs
 | .mrow _ _ _=>false
 | .mptr _ _ _=>false
 | .mp _=>false
 | .fmap kv=>bK kv
 | .fn _ a b=>bK a&&bK b
 | .tuple ds=>bK ds
 | .iface _ d=>d.nr
 | .cond _ d=>d.nr
 | .junk=>true
def bK:List D->Bool
 | []=>true
 | d::ds=>d.nr&&bK ds
def aZ:List (List D)->Bool
 | []=>true
 | r::rs=>bK r&&aZ rs
end
def dF(h:H):Nat->D->D
 | 0,d=>d
 | k+1,d=>match d with
  | .mrow r off len=>.list false ((aj (.mrow r off len) h).map λrow=>row.map (dF h k))
  | .agg cs=>.agg (cs.map (dF h k))
  | .tuple cs=>.tuple (cs.map (dF h k))
  | .iface t d=>.iface t (dF h k d)
  | .mptr r i off=>.eptr ((dL (.mptr r i off) h).map (dF h k))
  | .fn f a b=>.fn f (a.map (dF h k)) (b.map (dF h k))
  | d=>d
def dE(h:H):Nat->D->Prop
 | 0,d=>d.nr=true
 | k+1,d=>match d with
  | .mrow r off len=>iT h (.mrow r off len) /\ ∀row∈aj (.mrow r off len) h,∀c∈row,dE h k c
  | .agg cs=>∀c∈cs,dE h k c
  | .tuple cs=>∀c∈cs,dE h k c
  | .iface _ d=>dE h k d
  | .mptr r i off=>(h r).isSome=true /\ ∀c∈dL (.mptr r i off) h,dE h k c
  | .fn _ a b=>(∀c∈a,dE h k c) /\ ∀c∈b,dE h k c
  | d=>d.nr=true
def nA(h:H)(d:D):D:=wk (dF h 5 d)
def u7:D->Bool
 | .mrow _ _ _ | .mptr _ _ _=>true
 | _=>false
def gF:D->Bool
 | .mrow _ _ _ | .mptr _ _ _=>true
 | .fn _ a b=>a.any u7||b.any u7
 | _=>false
def Hl:D->Bool
 | .v _=>true
 | _=>false
def flat:D->Bool
 | .v _=>true
 | .agg cs | .tuple cs=>cs.all Hl
 | _=>false
def yC:List D->D×Prop
 | [.v (.int k a),.v (.int k' b)]=>(.v (.int k (min a b)),k=k')
 | _=>(.junk,False)
def yD:List D->D×Prop
 | [.v (.int k a),.v (.int k' b)]=>(.v (.int k (max a b)),k=k')
 | _=>(.junk,False)
def qL(t:TypeId):D->Bool
 | .list _ _ | .mrow _ _ _=>(aT P t).isSome
 | .v (.string _)=>match P.underlying t with|some .string=>true|_=>false
 | _=>false
end
structure aU where
 pureCt:FuncId->List D->D->Prop
 ct:FuncId->List D->H->Nat->D->H->Prop
section
variable (P : Program) [aa P] (W : aU) (C : aH)
def Aq(_:Operand):Bool:=true
def dQ(f:Operand)(xs:List D)(h:H)(_:Nat):D×H×Prop:=match f,xs with
 | .func k,_::ys=>if C.pure k then
   (if C.cf then
    let ys':=ys.map wk
    (C.pf k ys',h,W.pureCt k ys' (C.pf k ys')/\ys.any gF=false)
   else if C.dp then
    let ys':=ys.map (nA h)
    (C.pf k ys',h,W.pureCt k ys' (C.pf k ys')/\flat (C.pf k ys')=true /\ ∀y∈ys,dE h 5 y)
   else
    let ys':=ys.map (iQ h)
    (C.pf k ys',h,W.pureCt k ys' (C.pf k ys')/\(ys.any gF=true->flat (C.pf k ys')=true /\ ∀y∈ys,iT h y)))
  else if C.cf then(.junk,h,False)else(C.pf k (ys.map (iQ h)),h,∀b,W.ct k (ys.map wk) h b (C.pf k (ys.map (iQ h))) h)
 | _,.fn (.func k) first aK::ys=>if C.pure k then
   (if C.cf then
    let zs':=(first++ys++aK).map wk
    (C.pf k zs',h,W.pureCt k zs' (C.pf k zs')/\(first++ys++aK).any gF=false)
   else if C.dp then
    let zs':=(first++ys++aK).map (nA h)
    (C.pf k zs',h,W.pureCt k zs' (C.pf k zs')/\flat (C.pf k zs')=true /\ ∀y∈first++ys++aK,dE h 5 y)
   else
    let zs':=(first++ys++aK).map (iQ h)
    (C.pf k zs',h,W.pureCt k zs' (C.pf k zs')/\((first++ys++aK).any gF=true->flat (C.pf k zs')=true /\ ∀y∈first++ys++aK,iT h y)))
  else(.junk,h,False)
 | _,_=>(.junk,h,False)
def still(h:H)(r:D×Prop):D×H×Prop:=(r.1,h,r.2)
def aD(op:Op)(xs:List D)(h:H)(b:Nat):D×H×Prop :=
 match op,xs with
 | .move _,[x] | .assign _,[x]=>(x,h,True)
 | .alloc e,[]=>(.mptr b 0 0,upd h b (some ⟨e,[zeroCells P e]⟩),(zeroCells P e).length=P.cellsOf e/\(zeroCells P e).all D.one=true/\0<P.cellsOf e)
 | .box e _,[x]=>(.mptr b 0 0,upd h b (some ⟨e,[x.cells]⟩),x.cells.length=P.cellsOf e/\x.cells.all D.one=true/\0<P.cellsOf e)
 | .build t ps,xs=>still h (xN P t ps.toList xs)
 | .buildSlice t n ps,xs=>if C.bs then kC P t n ps.toList xs h b else still h (uf P t n ps.toList xs)
 | .load t _,[a]=>still h (iq P t a h)
 | .store t _ _,[a,x]=>(.v undef,eF P t a x h)
 | .nilCheck _,[x]=>(x,h,pR x=true)
 | .binOp op t _ _ _,[x,y]=>still h (kD P t op x y)
 | .unOp op _ _,[x]=>still h (rP op x)
 | .convert src dst _,[x]=>still h (tX P src dst x)
 | .makeFunc f first _,xs=>(.fn f (xs.take first.size) (xs.drop first.size),h,True)
 | .slice t _ l hi m,x::xs =>
  still h (lw P t x (gB l xs).1 (gB hi (gB l xs).2).1 (gB m (gB hi (gB l xs).2).2).1 h)
 | .fieldAddr s _ f,[a]=>still h (qY P s f a)
 | .field s _ f,[a]=>still h (xJ P s f a)
 | .indexAddr t _ _,[x,ix]=>still h (dM P t x ix h)
 | .index t _ _,[x,ix]=>still h (sU P t x ix)
 | .makeSlice t _ _,[x,y]=>iJ P t h b x y
 | .makeMap t _,xs=>uX P t xs h b
 | .mapUpdate t _ _ _,[m,k,x] | .insert t _ _ _,[m,k,x]=>(.v undef,jT P t m k x h)
 | .lookup t _ _ ok,[m,k]=>still h (j5 P t ok m k h)
 | .extract _ i,[.tuple ds]=>(ds.getD i .junk,h,i<ds.length)
 | .call { callee:=.builtin .len,argTypes,.. },[x]=>(.v (.int .i64 (aV x)),h,match argTypes.toList with|[t]=>qL P t x=true|_=>False)
 | .call { callee:=.builtin .append,argTypes,.. },[x,y]=>(match argTypes.toList with|[t,u]=>dw P t u x y h b|_=>(.junk,h,False))
 | .call { callee:=.builtin .min,.. },xs=>still h (yC xs)
 | .call { callee:=.builtin .max,.. },xs=>still h (yD xs)
 | .call { callee:=.value f,.. },xs=>dQ W C f xs h b
 | _,_=>(.junk,h,False)
inductive zz where
 | none|reads|writes
 deriving DecidableEq
def aX(op:Op):zz:=match op with
 | .load .. | .indexAddr .. | .slice .. => .reads
 | .alloc _ | .box .. | .store .. | .makeSlice .. | .makeMap .. | .mapUpdate .. | .insert .. => .writes
 | .lookup .. => .reads
 | .buildSlice .. => if C.bs then .writes else .none
 | .call { callee:=.builtin .append,.. }=>.writes
 | .call { callee:=.value f,.. }=>if C.cf then .none else if Aq f then .reads else .writes
 | _=>.none
def bZ:Op->Bool
 | .pick .. => true
 | _=>false
def ak(g:Bool)(op:Op)(xs:List D)(h:H)(b:Nat):D×H×Prop :=
 if bZ op then still h (uP g xs)
 else let r:=aD P W C op (xs.map sd) h b;(r.1,r.2.1,(g=true->xs.all sg=true)/\r.2.2)
def S.put(s:S)(d:Option Tmp)(x:D):Nat->D:=match d with
 | some d=>upd s.t d x
 | none=>s.t
def bS(n:Nat):Option Tmp->Bool
 | some d=>decide (d<n)
 | none=>true
def bL(L:List Oper)(b:Nat)(i:Nat)(o:Oper)(s:S):S :=
 match o.guard with
 | none =>
  let r:=ak P W C true o.op ((au o.op).map s.ev) s.h (b+i)
  { s with t:=s.put o.dst r.1,h:=r.2.1,ok:=s.ok/\bS s.n o.dst=true/\r.2.2 }
 | some (j,want) =>
  let gd:=((L[j]?).bind (·.dst)).elim .junk s.t
  let r:=ak P W C (fq gd want) o.op ((au o.op).map s.ev) s.h (b+i)
  { s with t:=s.put o.dst (.cond (fq gd want) r.1),ok:=s.ok/\bS s.n o.dst=true/\jm gd=true/\aX C o.op ≠ .writes/\(fq gd want=true->r.2.2) }
def bB(L:List Oper)(b:Nat):Nat->List Oper->S->S
 | _,[],s=>s
 | i,o::os,s=>bB L b (i+1) os (bL P W C L b i o s)
def S.begin(s:S)(k:Nat):S:={ s with nx:=s.nx+k }
def exec(L:List Oper)(s:S):S:=bB P W C L s.nx 0 L (s.begin L.length)
end
end Go.DL
namespace Go.DL
open Go.RowKit
theorem zA{k:IntKind}{n:Int}(h:jh k n):k.wrap n=n:=by
 cases k<;>simp[jh,IntKind.min,IntKind.max,IntKind.signed,IntKind.bits]at h
 . exact IntWalk.i8_in n h
 . exact IntWalk.i16_in n h
 . exact IntWalk.i32_in n h
 . exact IntWalk.i64_in n h
 . exact IntWalk.u8_in n ⟨h.1,om⟩
 . exact IntWalk.u16_in n ⟨h.1,om⟩
 . exact IntWalk.u32_in n ⟨h.1,om⟩
 exact IntWalk.u64_in n ⟨h.1,om⟩
theorem Zai{k:IntKind}{a b:Int}(h:jh k a)(h0:0<=a)(h1:1<=b):jh k (a / b):=by
 have h2:0<=a / b:=Int.ediv_nonneg h0 om
 have h3:a / b<=a:=Int.ediv_le_self _ h0
 exact⟨by have:=h.1;cases k<;>simp[IntKind.min,IntKind.signed,IntKind.bits]at * <;> omega,Int.le_trans h3 h.2⟩
variable {P : Program}
def Zdb [aa P]{t:TypeId}{op:BinOp}{x y:Value}(h:(cO P t op x y).2)(a b:Operand)(w:World) :
  (do eqGuard op t a b x y;binOp op t x y:Sem Value).run P w = .ok (cO P t op x y).1 w:=by
 unfold cO at h ⊢
 split at h
 case h_1 k a' k' b' =>
  by_cases hs:k.signed=true
  .
   simp only[hs,Zr]at h ⊢;obtain⟨rfl,h2⟩:=h
   simp[eqGuard,binOp,Op.intArith,zA h2]
  simp only[hs,YT,Yd]at h ⊢;subst h
  simp[eqGuard,binOp,Op.intArith]
 case h_2 k a' k' b' =>
  by_cases hs:k.signed=true
  .
   simp only[hs,Zr]at h ⊢;obtain⟨rfl,h2⟩:=h
   simp[eqGuard,binOp,Op.intArith,zA h2]
  simp only[hs,YT,Yd]at h ⊢;subst h
  simp[eqGuard,binOp,Op.intArith]
 case h_3 k a' k' b' =>
  by_cases hs:k.signed=true
  .
   simp only[hs,Zr]at h ⊢;obtain⟨rfl,h2⟩:=h
   simp[eqGuard,binOp,Op.intArith,zA h2]
  simp only[hs,YT,Yd]at h ⊢;subst h
  simp[eqGuard,binOp,Op.intArith]
 case h_4 k a' k' b' =>
  obtain⟨rfl,h2,h3,h4⟩:=h;have e:k.wrap (a'.tdiv b')=a' / b':=by
   rw[Int.tdiv_eq_ediv_of_nonneg h2,zA (Zai h4 h2 h3)]
  simp[eqGuard,binOp,Op.intDiv,show b'≠0 by omega,e]
 case h_5 k a' k' b' =>
  obtain⟨rfl,h2,h3⟩:=h
  simp[eqGuard,binOp,Op.intDiv,show b'≠0 by omega,Int.tmod_eq_emod_of_nonneg h2]
 case h_17 a' b' =>
  simp only[eqGuard,binOp]
  simp[Op.stringOp,ByteArray.toList_eq]
 case h_18 a' b' =>
  simp only[eqGuard,binOp]
  simp[Op.stringOp,ByteArray.toList_eq]
 case h_19 a' b' =>
  simp only[eqGuard,binOp]
  simp[Op.stringOp,ByteArray.toList_eq]
 case h_20 a' b' =>
  simp only[eqGuard,binOp]
  simp[Op.stringOp,ByteArray.toList_eq]
 case h_21 k a' k' b' =>
  have h' : ¬b'<0:=by omega
  simp[eqGuard,binOp,Op.shift,h']
 case h_22 k a' k' b' =>
  have h' : ¬b'<0:=by omega
  simp[eqGuard,binOp,Op.shift,h']
 case h_23 k a' k' b' =>
  subst h
  simp[eqGuard,binOp,Op.intBits]
 case h_24 k a' k' b' =>
  subst h
  simp[eqGuard,binOp,Op.intBits]
 case h_25 k a' k' b' =>
  subst h
  simp[eqGuard,binOp,Op.intBits]
 case h_26 k a' k' b' =>
  subst h
  simp[eqGuard,binOp,Op.intBits]
 case h_27=>exact h.elim
 case h_16 a' b' =>
  have:=run_string_add_sum (P:=P) w a' b' h
  simp[eqGuard,binOp,this]
 case h_12 a' b' =>
  have e:(Op.equalIn 10000 t (.bool a') (.bool b')).run P w = .ok (a'==b') w:=run_equalIn_bool w 9999 t a' b' h;simp only[eqGuard,binOp]
  simp[Op.equal,Op.maxDepth,e]
 case h_13 a' b' =>
  have e:(Op.equalIn 10000 t (.bool a') (.bool b')).run P w = .ok (a'==b') w:=run_equalIn_bool w 9999 t a' b' h;simp only[eqGuard,binOp]
  simp[Op.equal,Op.maxDepth,e,bne]
 case h_14 a' b' =>
  simp only[eqGuard,binOp]
  simp[Op.stringOp,ByteArray.toList_eq]
 case h_15 a' b' =>
  simp only[eqGuard,binOp]
  simp[Op.stringOp,ByteArray.toList_eq,bne]
 all_goals
  subst h;simp only[eqGuard,binOp]
  simp[Op.intCmp]
theorem ag.v_inv{w:World}{g:Mem}{x y:Value}(h:ag w g (.v x) y):y=x:=by cases h;rfl
def VN{k:Kd}{a b:D}(h:wL k a b=true) :
  (k = .i /\ ∃kk x y,a = .v (.int kk x)/\b = .v (.int kk y))\/(k = .b /\ ∃x y,a = .v (.bool x)/\b = .v (.bool y))\/(k = .s /\ ∃x y,a = .v (.string x)/\b = .v (.string y)):=by
 unfold wL at h
 split at h
 . simp only[Yy]at h;subst h;exact .inl ⟨rfl,_,_,_,rfl,rfl⟩
 . exact .inr (.inl ⟨rfl,_,_,rfl,rfl⟩)
 . exact .inr (.inr ⟨rfl,_,_,rfl,rfl⟩)
 cases h
theorem OD [aa P]:∀(fs:List Field)(i:Nat)(ks:List Kd)(xs ys:List Value)(dx dy:List D)(w:World)(g:Mem)(n:Nat),vF P i fs=some ks->l6 ks (dx.drop i) (dy.drop i)=true ->
  aC w g dx xs->aC w g dy ys->(Op.eqFields (n+1) xs.toArray ys.toArray fs).run P w = .ok (ku (dx.drop i) (dy.drop i)) w:=by
 intro fs
 induction fs with
 | nil =>
  intro i ks xs ys dx dy w g n hk hp hx hy;simp only[vF,XU]at hk;subst hk
  cases h1:dx.drop i with
  | nil=>simp[Op.eqFields,ku]
  | cons a l=>rw[h1]at hp;simp[l6]at hp
 | cons f fs ih =>
  intro i ks xs ys dx dy w g n hf hp hx hy;simp only[vF]at hf
  split at hf
  case isFalse=>cases hf
  rename_i hno
  simp only[XT,ZF,Yy]at hno;obtain⟨hn,ho⟩:=hno
  split at hf
  case h_2=>cases hf
  rename_i k ks' hk hr
  simp only[XU]at hf;subst hf;have hlt:i<dx.length:=by
   rcases Zo i dx.length with h|h
   . exact h
   rw[YM h]at hp;simp[l6]at hp
  have hxi:dx.drop i=dx[i]::dx.drop (i+1):=Yr hlt;have Nu:i<dy.length:=by
   rcases Zo i dy.length with h|h
   . exact h
   rw[hxi,YM h]at hp;simp[l6]at hp
  have hyi:dy.drop i=dy[i]::dy.drop (i+1):=Yr Nu;rw[hxi,hyi]at hp ⊢;simp only[l6,XT]at hp;have hlx:i<xs.length:=by rw[<-hx.1];exact hlt
  have hly:i<ys.length:=by rw[<-hy.1];exact Nu
  have rx:=hx.2 i dx[i] xs[i] (by simp) (by simp)
  have ry:=hy.2 i dy[i] ys[i] (by simp) (by simp)
  have ih':=ih (i+1) ks' xs ys dx dy w g n hr hp.2 hx hy;have hu : ∃d,P.underlying f.type=some d/\((k = .b/\d = .bool)\/(k = .s/\d = .string)\/(k = .i /\ ∃kk,d = .int kk)):=by
   unfold kindOf at hk
   split at hk<;>simp at hk<;>subst hk<;>simp_all
  obtain⟨d,hu,hd⟩:=hu;have hagg:(isAgg f.type).run P w = .ok false w:=by
   unfold isAgg;rw[Sem.run_bind,run_underlying hu w]
   rcases hd with⟨_,rfl⟩|⟨_,rfl⟩|⟨_,kk,rfl⟩<;>simp
  have px:(part f.type xs.toArray f.offset).run P w = .ok xs[i] w:=by
   unfold part;simp[hagg,ho,hlx]
  have py:(part f.type ys.toArray f.offset).run P w = .ok ys[i] w:=by
   unfold part;simp[hagg,ho,hly]
  have heq:(Op.equalIn (n+1) f.type xs[i] ys[i]).run P w = .ok (kw dx[i] dy[i]) w:=by
   rcases VN hp.1 with⟨rfl,kk,x,y,e1,e2⟩|⟨rfl,x,y,e1,e2⟩|⟨rfl,x,y,e1,e2⟩<;>rw[e1]at rx ⊢ <;> rw[e2]at ry ⊢ <;> rw[rx.v_inv,ry.v_inv]
   .
    rcases hd with⟨h,_⟩|⟨h,_⟩|⟨_,k2,rfl⟩
    . cases h
    . cases h
    exact run_equalIn_int w n f.type kk k2 x y hu
   .
    rcases hd with⟨_,rfl⟩|⟨h,_⟩|⟨h,_⟩
    . exact run_equalIn_bool w n f.type x y hu
    . cases h
    cases h
   rcases hd with⟨h,_⟩|⟨_,rfl⟩|⟨h,_⟩
   . cases h
   . rw[run_equalIn_string w n f.type x y hu,ByteArray.toList_eq,ByteArray.toList_eq];rfl
   cases h
  simp only[Op.eqFields,X0 hn,Sem.run_bind,px,py,heq,Result.andThen_ok,ku]
  cases hc:kw dx[i] dy[i]with
  | false=>simp
  | true=>simp[ih']
def Zdc [aa P]{t:TypeId}{op:BinOp}{x y:D}{vx vy:Value}{w:World}{g:Mem}(hx:ag w g x vx)(hy:ag w g y vy)(h:(kD P t op x y).2)(a b:Operand) :
  ∃v,(do eqGuard op t a b vx vy;binOp op t vx vy:Sem Value).run P w = .ok v w/\ag w g (kD P t op x y).1 v:=by
 unfold kD at h ⊢
 split at h
 .
  rename_i x y
  rw[hx.v_inv,hy.v_inv];exact⟨_,Zdb h a b w,.v _⟩
 .
  rename_i xs ys
  cases hx with|agg _ vs hn hv =>
  cases hy with|agg _ us hm hu =>
  have key : ∀ks,qb P t=some ks->l6 ks xs ys=true->(Op.equalIn 10000 t (.agg vs) (.agg us)).run P w = .ok (ku xs ys) w/\P.eqGuardType P.depth t=false:=by
   intro ks hks hp;unfold qb at hks
   split at hks
   case h_2=>cases hks
   rename_i fs hfs
   split at hks
   case isFalse=>cases hks
   rename_i hc
   simp only[XT,X7]at hc;have hF:P.fieldsOf t=fs:=by simp[Program.fieldsOf,hfs]
   have h1:=run_equalIn_agg (P:=P) w 9999 t vs us (by rw[hF];exact hfs) hc.1
   have h2:=OD (P:=P) fs.toList 0 ks vs.toList us.toList xs ys w g 9998 hks (by simpa using hp) ⟨by simpa using hn,λi d x h1 h2=>hv i d x h1 (by simpa using h2)⟩ ⟨by simpa using hm,λi d x h1 h2=>hu i d x h1 (by simpa using h2)⟩
   rw[hF]at h1;simp only[Array.toArray_toList,Yl]at h2;exact⟨h1.trans h2,hc.2⟩
  split at h
  .
   split at h
   .
    rename_i ks hks
    obtain⟨k1,k2⟩:=key ks hks h;refine⟨.bool (ku xs ys),?_,.v _⟩;simp only[Sem.run_bind,run_eqGuard_agg w .eql t a b vs us k2,Result.andThen_ok,run_eql_struct,k1]
   exact h.elim
  .
   split at h
   .
    rename_i ks hks
    obtain⟨k1,k2⟩:=key ks hks h;refine⟨.bool (!ku xs ys),?_,.v _⟩;simp only[Sem.run_bind,run_eqGuard_agg w .neq t a b vs us k2,Result.andThen_ok,run_neq_struct,k1]
   exact h.elim
  exact h.elim
 exact h.elim
end Go.DL
namespace Go.DL
variable [Dr]
open Go.RowKit
variable {P : Program}
theorem kH [aa P]{h:H}{g:Mem}{w:World}(hm:HM P h g w){r b c s:Nat}(e:g.M r=some (some b,c,s)):b<w.heap.size /\ ¬g.I b /\ ∃bl,h r=some bl:=by
 cases hr:h r with
 | none=>rw[hm.dead r hr]at e;cases e
 | some bl =>
  obtain⟨blk,c',e1,_,_,_,h5⟩:=hm.blk r bl hr;rw[e]at e1;simp only[XU,Yo]at e1
  rcases h5 with⟨h6,_⟩|⟨b',cur,h6,h7,_,h8,_⟩
  . rw[<-e1.1]at h6;cases h6
  rw[<-e1.1]at h6;cases h6
  obtain⟨x,hx,_⟩:=h7.some;exact⟨(X9.1 hx).1,h8,_,rfl⟩
def HM.putB [aa P]{h h':H}{g:Mem}{w w':World}(hm:HM P h g w)(b nb c:Nat)(bl:av)(cur:Array Value)
  (hb : ¬g.U b\/g.M b=some (some nb,c,P.cellsOf bl.ty))(hb':h' b=some bl)(hr : ∀r,r≠b->h' r=h r\/h' r=none)
  (hnb:w.heap.size<=nb \/ ∃r c' s',g.M r=some (some nb,c',s')/\(r=b\/h' r=none))
  (GQ:mq w'.heap[nb]? bl.ty cur c)(hsz:c<=maxLen->cur.size=c*P.cellsOf bl.ty)(hpos:0<P.cellsOf bl.ty)(hle:bl.rows.length<=c)(hmax:c<=maxLen+1)
  (hold:Holds P w g bl cur)(gb:w.grownBy w' (some nb))(hdr:w.drawn<=w'.drawn:=by first|exact X3 _|exact Nat.le_succ _) :
  ∃g':Mem,g'.M b=some (some nb,c,P.cellsOf bl.ty)/\(∀r,g'.U r↔g.U r\/r=b)/\(∀b,g'.I b↔g.I b)/\HM P h' g' w'/\ay g g' w w':=by
 let g':Mem:={ M:=λr=>if r=b then some (some nb,c,P.cellsOf bl.ty)else if(h' r).isSome then g.M r else none,U:=λr=>g.U r\/r=b,I:=g.I }
 have e_b:g'.M b=some (some nb,c,P.cellsOf bl.ty):=by simp[g']
 have e_r : ∀r,r≠b->g'.M r=if(h' r).isSome then g.M r else none:=λr hr=>by simp[g',hr]
 have hne : ∀r c' s',r≠b->g'.M r≠some (some nb,c',s'):=by
  intro r c' s' hrb he;rw[e_r r hrb]at he
  split at he
  .
   rename_i hs
   rcases hnb with h1|⟨r2,c2,s2,h2,h3⟩
   . have:=(kH hm he).1;omega
   have:r=r2:=hm.inj _ _ _ _ _ _ _ he h2;subst this
   rcases h3 with h3|h3
   . exact hrb h3
   rw[h3]at hs;cases hs
  cases he
 have hnI : ¬g.I nb:=by
  intro hi
  rcases hnb with h1|⟨r2,c2,s2,h2,_⟩
  . have:=hm.imm nb hi;omega
  exact(kH hm h2).2.1 hi
 have mono:ay g g' w w':=by
  refine⟨gb.os,gb.tape,gb.output,gb.size,λ_=>hdr,λr h=>.inl h,λr hu=>?_,λr b' c' s' he=>?_,λ_ h=>h,λ_ h=>.inl h,λk hk hn=>?_⟩
  .
   by_cases e:r=b
   .
    subst e
    rcases hb with h1|h1
    . exact absurd hu h1
    rw[e_b,h1];exact .inl rfl
   rw[e_r r e];split
   . exact .inl rfl
   exact .inr rfl
  .
   by_cases e:r=b
   .
    subst e;rw[e_b]at he;simp only[XU,Yo]at he;obtain⟨rfl,_,_⟩:=he
    rcases hnb with h1|⟨r2,c2,s2,h2,_⟩
    . exact .inr h1
    exact .inl ⟨r2,c2,s2,h2⟩
   rw[e_r r e]at he
   split at he
   . exact .inl ⟨r,c',s',he⟩
   cases he
  refine gb.block k hk λe=>?_
  cases e
  rcases hnb with h1|⟨r2,c2,s2,h2,_⟩
  . omega
  exact hn _ _ _ h2
 refine⟨g',e_b,λ_=>Iff.rfl,λ_=>Iff.rfl,⟨λr hn=>?_,λr bl' hrl=>?_,λr r' b' c1 c2 s1 s2 e1 e2=>?_,λr hn=>?_,λk hk=>YW (hm.imm k hk) gb.size,hm.gr.later (hm.kept mono)⟩,mono⟩
 .
  have e:r≠b:=λe=>by rw[e,hb']at hn;cases hn
  rw[e_r r e,hn];rfl
 .
  by_cases e:r=b
  .
   subst e;rw[hb']at hrl;cases hrl
   refine⟨some nb,c,e_b,hpos,hle,hmax,.inr ⟨nb,cur,rfl,GQ,hsz,hnI,λi row hi=>?_⟩⟩
   obtain⟨h1,h2⟩:=hold i row hi;refine⟨h1,λj d hd=>?_⟩
   obtain⟨u,h3,h4,h5⟩:=h2 j d hd;exact⟨u,h3,h4,h5.later hm mono⟩
  rcases hr r e with e1|e1
  .
   rw[e1]at hrl;obtain⟨blk,c',h1,h2,h3,h4,h5⟩:=hm.blk r bl' hrl;refine⟨blk,c',by rw[e_r r e,e1,hrl];exact h1,h2,h3,h4,?_⟩
   rcases h5 with h5|⟨b',cur',rfl,h6,h7,h8,h9⟩
   . exact .inl h5
   refine .inr ⟨b',cur',rfl,?_,h7,h8,λi row hi=>?_⟩
   .
    have hb':b'≠nb:=λe2=>by
     subst e2;exact hne r c' _ e (by rw[e_r r e,e1,hrl];exact h1)
    rw[gb.block b' (kH hm h1).1 (by simpa using hb')];exact h6
   obtain⟨k1,k2⟩:=h9 i row hi;refine⟨k1,λj d hd=>?_⟩
   obtain⟨u,k3,k4,k5⟩:=k2 j d hd;exact⟨u,k3,k4,k5.later hm mono⟩
  rw[e1]at hrl;cases hrl
 .
  by_cases e:r=b<;>by_cases e':r'=b
  . rw[e,e']
  . subst e;rw[e_b]at e1;simp only[XU,Yo]at e1;obtain⟨rfl,_,_⟩:=e1;exact absurd e2 (hne r' _ _ e')
  . subst e';rw[e_b]at e2;simp only[XU,Yo]at e2;obtain⟨rfl,_,_⟩:=e2;exact absurd e1 (hne r _ _ e)
  rw[e_r r e]at e1;rw[e_r r' e']at e2
  split at e1
  .
   split at e2
   . exact hm.inj _ _ _ _ _ _ _ e1 e2
   cases e2
  cases e1
 by_cases e:r=b
 . exact .inr e
 rw[e_r r e]at hn
 split at hn
 . exact .inl (hm.used r hn)
 exact absurd rfl hn
def HM.put [aa P]{h h':H}{g:Mem}{w w':World}(hm:HM P h g w)(b nb c:Nat)(bl:av)(cur:Array Value)
  (hb : ¬g.U b\/g.M b=some (some nb,c,P.cellsOf bl.ty))(hb':h' b=some bl)(hr : ∀r,r≠b->h' r=h r\/h' r=none)
  (hnb:w.heap.size<=nb \/ ∃r c' s',g.M r=some (some nb,c',s')/\(r=b\/h' r=none))
  (GQ:w'.heap[nb]? = some (.cells cur bl.ty (0,0)))(hsz:cur.size=c*P.cellsOf bl.ty)(hpos:0<P.cellsOf bl.ty)(hle:bl.rows.length<=c)(hmax:c<=maxLen)
  (hold:Holds P w g bl cur)(gb:w.grownBy w' (some nb))(hdr:w.drawn<=w'.drawn:=by first|exact X3 _|exact Nat.le_succ _) :
  ∃g':Mem,g'.M b=some (some nb,c,P.cellsOf bl.ty)/\(∀r,g'.U r↔g.U r\/r=b)/\(∀b,g'.I b↔g.I b)/\HM P h' g' w'/\ay g g' w w' :=
 hm.putB b nb c bl cur hb hb' hr hnb (.inl ⟨hmax,GQ⟩) (λ_=>hsz) hpos hle (Nat.le_succ_of_le hmax) hold gb hdr
def HM.putNone [aa P]{h h':H}{g:Mem}{w:World}(hm:HM P h g w)(b:Nat)(bl:av)(hb : ¬g.U b)(hb':h' b=some bl)(hr : ∀r,r≠b->h' r=h r\/h' r=none)(hpos:0<P.cellsOf bl.ty)(hle:bl.rows=[]) :
  ∃g':Mem,g'.M b=some (none,0,P.cellsOf bl.ty)/\(∀r,g'.U r↔g.U r\/r=b)/\(∀b,g'.I b↔g.I b)/\HM P h' g' w/\ay g g' w w:=by
 let g':Mem:={ M:=λr=>if r=b then some (none,0,P.cellsOf bl.ty)else if(h' r).isSome then g.M r else none,U:=λr=>g.U r\/r=b,I:=g.I }
 have e_b:g'.M b=some (none,0,P.cellsOf bl.ty):=by simp[g']
 have e_r : ∀r,r≠b->g'.M r=if(h' r).isSome then g.M r else none:=λr hr=>by simp[g',hr]
 have mono:ay g g' w w:=by
  refine⟨rfl,rfl,rfl,X3 _,λ_=>X3 _,λr h=>.inl h,λr hu=>?_,λr b' c' s' he=>?_,λ_ h=>h,λ_ h=>.inl h,λk hk hn=>rfl⟩
  .
   have e:r≠b:=λe=>hb (e▸hu)
   rw[e_r r e];split
   . exact .inl rfl
   exact .inr rfl
  by_cases e:r=b
  . subst e;rw[e_b]at he;cases he
  rw[e_r r e]at he
  split at he
  . exact .inl ⟨r,c',s',he⟩
  cases he
 refine⟨g',e_b,λ_=>Iff.rfl,λ_=>Iff.rfl,⟨λr hn=>?_,λr bl' hrl=>?_,λr r' b' c1 c2 s1 s2 e1 e2=>?_,λr hn=>?_,λk hk=>hm.imm k hk,hm.gr.later (hm.kept mono)⟩,mono⟩
 .
  have e:r≠b:=λe=>by rw[e,hb']at hn;cases hn
  rw[e_r r e,hn];rfl
 .
  by_cases e:r=b
  .
   subst e;rw[hb']at hrl;cases hrl
   exact⟨none,0,e_b,hpos,by rw[hle];exact X3 _,Yk _,.inl ⟨rfl,rfl⟩⟩
  rcases hr r e with e1|e1
  .
   rw[e1]at hrl;obtain⟨blk,c',h1,h2,h3,h4,h5⟩:=hm.blk r bl' hrl;refine⟨blk,c',by rw[e_r r e,e1,hrl];exact h1,h2,h3,h4,?_⟩
   rcases h5 with h5|⟨b',cur',rfl,h6,h7,h8,h9⟩
   . exact .inl h5
   refine .inr ⟨b',cur',rfl,h6,h7,h8,λi row hi=>?_⟩
   obtain⟨k1,k2⟩:=h9 i row hi;refine⟨k1,λj d hd=>?_⟩
   obtain⟨u,k3,k4,k5⟩:=k2 j d hd;exact⟨u,k3,k4,k5.later hm mono⟩
  rw[e1]at hrl;cases hrl
 .
  by_cases e:r=b
  . subst e;rw[e_b]at e1;cases e1
  by_cases e':r'=b
  . subst e';rw[e_b]at e2;cases e2
  rw[e_r r e]at e1;rw[e_r r' e']at e2
  split at e1
  .
   split at e2
   . exact hm.inj _ _ _ _ _ _ _ e1 e2
   cases e2
  cases e1
 by_cases e:r=b
 . exact .inr e
 rw[e_r r e]at hn
 split at hn
 . exact .inl (hm.used r hn)
 exact absurd rfl hn
def Does(P:Program)[aa P](g:Mem)(w:World)(b:Nat)(r:Result Next)(d:D)(h':H):Prop :=
 ∃v g' w',(r = .ok (.value v) w'\/(r = .ok .skip w'/\v=undef))/\ag w' g' d v/\HM P h' g' w'/\ay g g' w w' /\ ∀r,g'.U r->g.U r\/r=b
theorem Does.still [aa P]{g:Mem}{w:World}{b:Nat}{s:Sem Value}{d:D}{h:H}{v:Value}(hm:HM P h g w)(hr:s.run P w = .ok v w)(hv:ag w g d v) :
  Does P g w b ((do pure (.value (<-s)):Sem Next).run P w) d h :=
 ⟨v,g,w,.inl (by simp[hr]),hv,hm,ay.refl _ _,λ_ h=>.inl h⟩
theorem ag.one{w:World}{g:Mem}{d:D}{v:Value}(h:ag w g d v)(h1:d.one=true):v.oneCell'=true/\v.cells = #[v]:=by
 cases h with
 | v=>cases v<;>simp_all [D.one,Value.oneCell',Value.cells]
 | agg=>simp[D.one]at h1
 | tuple=>simp[D.one]at h1
 | iface=>simp[Value.oneCell',Value.cells]
 | empty=>simp[Value.oneCell',Value.cells]
 | list=>simp[Value.oneCell',Value.cells]
 | eptr=>simp[Value.oneCell',Value.cells]
 | mrow r off len x hx=>obtain⟨a,c,rfl,_⟩:=hx;simp[Value.oneCell',Value.cells]
 | mptr r i off x hx=>obtain⟨p,rfl⟩:=hx;simp[Value.oneCell',Value.cells]
 | mp r x hx=>obtain⟨p,rfl⟩:=hx;simp[Value.oneCell',Value.cells]
 | fmap=>simp[Value.oneCell',Value.cells]
 | fn=>simp[Value.oneCell',Value.cells]
 | cond=>simp[D.one]at h1
 | junk=>simp[D.one]at h1
theorem ag.cells{w:World}{g:Mem}{d:D}{v:Value}(h:ag w g d v)(h1:d.cells.all D.one=true) :
  aC w g d.cells v.cells.toList/\(∀u∈v.cells.toList,u.oneCell'=true)/\v.cells.size=d.cells.length:=by
 by_cases ha : ∃cs,d = .agg cs
 .
  obtain⟨cs,rfl⟩:=ha
  cases h with|agg _ vs hn hv =>
  simp only[D.cells]at h1 ⊢;refine⟨⟨by simpa[Value.cells]using hn,λi d x h2 h3=>hv i d x h2 (by simpa[Value.cells]using h3)⟩,λu hu=>?_,by simp[Value.cells,hn]⟩
  simp only[Value.cells,Array.mem_toList_iff]at hu;obtain⟨i,hi,rfl⟩:=Array.mem_iff_getElem.1 hu;have hd:i<cs.length:=by omega
  exact((hv i cs[i] vs[i] (by simp) (by simp)).one (Yf.1 h1 _ (Yq hd))).1
 have e:d.cells=[d]:=by cases d<;>simp_all [D.cells]
 rw[e]at h1 ⊢
 have h2:=h.one (by simpa using h1)
 rw[h2.2]
 exact⟨.cons h .nil,by simpa using h2.1,by simp⟩
theorem vg [aa P]{t:TypeId}(h:0<P.cellsOf t):∃i,P.info? t=some i/\i.size=P.cellsOf t:=by
 unfold Program.cellsOf at h ⊢
 cases hi:P.info? t with
 | none=>simp[hi]at h
 | some i=>exact⟨i,rfl,by simp⟩
theorem lD [aa P]{t:TypeId}(h:0<P.cellsOf t)(w:World):(sizeOf t).run P w = .ok (P.cellsOf t) w:=by
 obtain⟨i,hi,hs⟩:=vg h
 simp[sizeOf,typeInfo,hi,hs]
theorem Ng [aa P]{t:TypeId}(h:(P.underlying t).isSome=true)(w:World):(isAgg t).run P w = .ok (bP P t) w:=by
 obtain⟨d,hd⟩:=Yn.1 h
 unfold isAgg bP
 rw[Sem.run_bind,run_underlying hd w,hd]
 cases d<;>simp
theorem Xt [aa P]{r i off:Nat}{h:H}:eP P (.mptr r i off) h=match h r with|some b=>(b.rows.getD i []).drop off|none=>[]:=rfl
theorem Xr [aa P]{x o:Nat}{h:H}:eP P (.v (.pointer (some ⟨x,o,none⟩))) h=match aa.tab P x with|some cs=>(cs.drop o).map D.v|none=>[]:=rfl
theorem KP [aa P]{h:H}{g:Mem}{w:World}(hm:HM P h g w){a:D}{va:Value}(ha:ag w g a va)(hne:eP P a h≠[]) :
  ∃p,va = .pointer (some p) /\ ∀(j:Nat)d,(eP P a h)[j]? = some d -> ∃u,w.cell? (p.add j)=some u/\ag w g d u:=by
 cases ha with
 | eptr cs p cv hI hc hr=>exact⟨p,rfl,λj d hj=>⟨cv j,hc j d hj,hr j d hj⟩⟩
 | mptr r i off x hx hU hv =>
  simp only[Xt]at hne ⊢
  cases hr:h r with
  | none=>rw[hr]at hne;exact absurd rfl hne
  | some bl =>
   rw[hr]at hne;simp only at hne ⊢;obtain⟨blk,c,h1,h2,h3,h4,h5⟩:=hm.blk r bl hr;have hi:i<bl.rows.length:=by
    rcases Zo i bl.rows.length with h|h
    . exact h
    simp[List.getD,Zm h]at hne
   rcases h5 with⟨_,rfl⟩|⟨b,cur,rfl,h6,h7,h8,h9⟩
   . omega
   obtain⟨hcm,b',he,rfl⟩:=hv _ _ _ h1
   cases he
   refine⟨_,rfl,λj d hj=>?_⟩
   rw[YJ]at hj;obtain⟨_,k2⟩:=h9 i (bl.rows.getD i []) (by simp[List.getD,X5 hi])
   obtain⟨u,k3,_,k5⟩:=k2 (off+j) d hj;refine⟨u,?_,k5⟩;rw[jR,cell_of_row w b _ cur bl.ty (0,0) (h6.cells hcm),<-k3]
   congr 1
   omega
 | v =>
  by_cases hp : ∃b o,va=Value.pointer (some ⟨b,o,none⟩)
  .
   obtain⟨b,o,rfl⟩:=hp;refine⟨_,rfl,λj d hj=>?_⟩
   rw[Xr]at hj
   cases ht:aa.tab P b with
   | none=>rw[ht]at hj;simp at hj
   | some cs =>
    rw[ht]at hj;simp only[Yj,YJ,Option.map_eq_some_iff]at hj;obtain⟨u,h1,rfl⟩:=hj;exact⟨u,by rw[jR];exact(hm.gr b cs ht).2 _ u h1,.v _⟩
  refine absurd ?_ hne;unfold eP
  split
  .
   rename_i x' o e
   first|(cases e;exact absurd ⟨_,_,rfl⟩ hp)|exact absurd ⟨_,_,rfl⟩ hp
  rfl
 | _=>exact absurd rfl hne
theorem Kk [aa P]{t:TypeId}{p:Addr}{w:World}{g:Mem}{ds:List D}(hc : ∀(j:Nat)d,ds[j]? = some d -> ∃u,w.cell? (p.add j)=some u/\ag w g d u)
  (hn:P.cellsOf t<=ds.length)(hp:0<P.cellsOf t)(hu:(P.underlying t).isSome=true):∃v,(loadVar t p).run P w = .ok v w/\ag w g (nQ P t ds) v:=by
 unfold loadVar nQ
 rw[Sem.run_bind,Ng hu w]
 cases hg:bP P t with
 | false =>
  have h0:0<ds.length:=by omega
  obtain⟨u,h1,h2⟩:=hc 0 ds[0] (by simp)
  refine⟨u,?_,?_⟩
  .
   simp only[Addr.add,Zr]at h1
   simp[h1]
  have:ds.headD .junk=ds[0]:=by cases ds<;>simp_all
  simp only[Yd,YT];rw[this];exact h2
 | true =>
  have hex : ∀j,∃u,j<P.cellsOf t->w.cell? (p.add j)=some u /\ ∀d,ds[j]? = some d->ag w g d u:=by
   intro j
   by_cases hj:j<P.cellsOf t
   .
    obtain⟨u,h1,h2⟩:=hc j (ds[j]'(by omega)) (by simp)
    refine⟨u,λ_=>⟨h1,λd hd=>?_⟩⟩
    rw[X5 (by omega)]at hd
    cases hd;exact h2
   exact⟨undef,λh=>absurd h hj⟩
  let f:=λj=>Classical.choose (hex j)
  have hf:=λj=>Y9 (hex j)
  refine⟨.agg ((List.range (P.cellsOf t)).map f).toArray,?_,?_⟩
  .
   have:=run_loadCells (P:=P) w p (P.cellsOf t) f (λj hj=>(hf j hj).1)
   simp[lD hp,this]
  simp only[Zr];refine .agg _ _ (by simp;omega) λi d x h1 h2=>?_
  rw[YX]at h1
  split at h1
  .
   rename_i hi
   simp[hi]at h2
   subst h2;exact(hf i hi).2 d h1
  cases h1
def Xi [aa P]{h:H}{g:Mem}{w:World}(hm:HM P h g w){t:TypeId}{a:D}{va:Value}(ha:ag w g a va)(hc:(iq P t a h).2) :
  ∃v,(Instr.loadAt t va).run P w = .ok v w/\ag w g (iq P t a h).1 v:=by
 obtain⟨h1,h2,h3⟩:=hc
 obtain⟨p,rfl,hp⟩:=KP hm ha (by intro e;rw[e]at h1;simp at h1;omega)
 obtain⟨v,h4,h5⟩:=Kk hp h1 h2 h3
 exact⟨v,by simp[Instr.loadAt,Instr.sureAddr,h4],h5⟩
theorem VW [aa P]{g:Mem}{w:World}{t:TypeId}{off:Nat}{ds:List D}{vs:Array Value}(hv:aC w g ds vs.toList)(hn:off+P.cellsOf t<=ds.length)(hp:0<P.cellsOf t)(hu:(P.underlying t).isSome=true) :
  ∃v,(part t vs off).run P w = .ok v w/\ag w g (nQ P t (ds.drop off)) v:=by
 have hl:ds.length=vs.size:=by simpa using hv.1
 unfold part nQ
 rw[Sem.run_bind,Ng hu w]
 cases hg:bP P t with
 | false =>
  refine⟨vs[off]'(by omega),?_,?_⟩
  . simp[show off<vs.size by omega]
  have h1:=hv.2 off (ds[off]'(by omega)) (vs[off]'(by omega)) (by simp) (by simp)
  have:(ds.drop off).headD .junk=ds[off]'(by omega):=by rw[Yr (by omega)];rfl
  simp only[Yd,YT];rw[this];exact h1
 | true =>
  refine⟨.agg (vs.extract off (off+P.cellsOf t)),by simp[lD hp],?_⟩
  simp only[Zr];refine .agg _ _ (by simp;omega) λi d x h1 h2=>?_
  rw[YX]at h1
  split at h1
  .
   rename_i hi
   rw[YJ]at h1;rw[Array.getElem?_extract]at h2
   split at h2
   . exact hv.2 _ d x h1 (by simpa using h2)
   cases h2
  cases h1
theorem LF(w:World)(g:Mem)(x:Value):ag w g (zZ x) x:=by
 cases x with
 | slice a n c =>
  simp only[zZ]
  split
  .
   rename_i h
   simp only[XT,Zb,Yy]at h;obtain⟨⟨rfl,rfl⟩,rfl⟩:=h;exact .empty true none 0 (λ_=>rfl) (by simp[maxLen])
  exact .v _
 | func f fs cs =>
  simp only[zZ]
  split
  .
   rename_i h
   simp only[XT,Yy]at h;exact .fn f [] [] fs cs (by simp[h.1]) (by simp[h.2]) (by simp) (by simp)
  exact .v _
 | _=>exact .v _
def Cz(w:World)(g:Mem)(x:Value):ag w g (jI x) x:=by
 unfold jI
 split
 .
  refine .agg _ _ (by simp) λi d y h1 h2=>?_
  simp only[Yj,YH]at h1;rw[h2]at h1
  simp at h1
  subst h1;exact LF w g y
 exact LF w g x
def Bw [aa P]{t:TypeId}{i:TypeInfo}{z:Value}(hi:P.info? t=some i)(hz:i.zero=some z)(w:World)(g:Mem)(h1:(zeroCells P t).all D.one=true) :
  aC w g (zeroCells P t) z.cells.toList/\(∀u∈z.cells.toList,u.oneCell'=true)/\z.cells.size=(zeroCells P t).length:=by
 have e:zeroCells P t=(jI z).cells:=by simp[zeroCells,hi,hz]
 rw[e]at h1 ⊢
 exact(Cz w g z).cells h1
theorem EC [aa P]{t:TypeId}(h:0<(zeroCells P t).length):∃i z,P.info? t=some i/\i.zero=some z:=by
 unfold zeroCells at h
 cases hi:P.info? t with
 | none=>simp[hi]at h
 | some i =>
  cases hz:i.zero with
  | none=>simp[hi,hz]at h
  | some z=>exact⟨i,z,rfl,hz⟩
theorem holds_one [aa P]{w:World}{g:Mem}{e:TypeId}{ds:List D}{vs:Array Value}(h:aC w g ds vs.toList)(h1 : ∀u∈vs.toList,u.oneCell'=true)(hl:ds.length=P.cellsOf e):Holds P w g ⟨e,[ds]⟩ vs:=by
 intro i row hi
 cases i with
 | succ i=>simp at hi
 | zero =>
  simp at hi;subst hi
  refine⟨hl,λj d hd=>?_⟩
  have hj:j<vs.size:=by have:=h.1;simp at this;rw[<-this];exact(XY.1 hd).1
  exact⟨vs[j],by simp[hj],h1 _ (by simp),h.2 j d _ hd (by simp[hj])⟩
def Me [aa P]{h:H}{g:Mem}{w:World}(hm:HM P h g w){b:Nat}(hb : ¬g.U b){e:TypeId}{ds:List D}{vs:Array Value}(hr:aC w g ds vs.toList)(h1 : ∀u∈vs.toList,u.oneCell'=true)(hl:ds.length=P.cellsOf e)(hp:0<P.cellsOf e) :
  ∃g',ag (w.alloc (.cells vs e)) g' (.mptr b 0 0) (.pointer (some ⟨w.heap.size,0,none⟩))/\HM P (upd h b (some ⟨e,[ds]⟩)) g' (w.alloc (.cells vs e))/\ay g g' w (w.alloc (.cells vs e)) /\ ∀r,g'.U r->g.U r\/r=b:=by
 have hs:vs.size=P.cellsOf e:=by have:=hr.1;simp at this;omega
 obtain⟨g',h2,h3,h4,h5,h6⟩:=hm.put (h':=upd h b (some ⟨e,[ds]⟩)) (w':=w.alloc (.cells vs e)) b w.heap.size 1 ⟨e,[ds]⟩ vs (.inl hb) (bu _ _ _)
  (λr hr=>.inl (aI _ _ _ _ hr)) (.inl (X3 _)) (heap_alloc_new w _) (by simp[hs]) hp (by simp) (by simp[maxLen]) (holds_one hr h1 hl) (World.grownBy_alloc w _ _)
 refine⟨g',?_,h5,h6,λr hr=>(h3 r).1 hr⟩
 refine .mptr b 0 0 _ ⟨_,rfl⟩ ((h3 b).2 (.inr rfl)) λblk c sz he=>?_
 rw[h2]at he
 simp only[XU,Yo]at he
 exact⟨by rw[<-he.2.1];simp[maxLen],w.heap.size,he.1.symm,by simp⟩
def SA{w:World}{g:Mem}{row xs:List D}{cs us:List Value}(h:aC w g row cs)(k:aC w g xs us)(off:Nat) :
  aC w g (splice row off xs) (cs.take off++us++cs.drop (off+us.length)):=by
 unfold splice
 rw[k.1]
 exact((h.take off).append k).append (h.drop _)
theorem EX(row xs:List D)(off:Nat)(h:off+xs.length<=row.length):(splice row off xs).length=row.length:=by
 simp[splice];omega
theorem JH [aa P]{h:H}{g:Mem}{w:World}(hm:HM P h g w){t:TypeId}{a x:D}{va vx:Value}(ha:ag w g a va)(hx:ag w g x vx)(hc:(eF P t a x h).2) :
  ∃g' w',(Instr.storeAt t va vx).run P w = .ok () w'/\HM P (eF P t a x h).1 g' w'/\ay g g' w w' /\ ∀r,g'.U r->g.U r:=by
 unfold eF at hc ⊢
 split at hc
 case h_2=>exact hc.elim
 rename_i r i off
 cases hr:h r with
 | none=>rw[hr]at hc;exact hc.elim
 | some bl =>
  rw[hr]at hc;simp only at hc ⊢;obtain⟨c1,c0,c2,c3,c4⟩:=hc;obtain⟨blk,c,h1,h2,h3,h4,h5⟩:=hm.blk r bl hr
  rcases h5 with⟨_,rfl⟩|⟨b,cur,rfl,h6,h7,h8,h9⟩
  . omega
  cases ha with|mptr _ _ _ _ eQ hU hv =>
  obtain⟨hcm,b',he,rfl⟩:=hv _ _ _ h1
  cases he
  have h6:=h6.cells hcm;have h7:=h7 hcm;have h4:=hcm;obtain⟨q1,q2,q3⟩:=hx.cells c4;have hrow:bl.rows[i]? = some (bl.rows.getD i []):=by simp[List.getD,X5 c2]
  generalize hR:bl.rows.getD i []=row at *;obtain⟨m1,m2⟩:=h9 i _ hrow;have q4:vx.cells.toList.length=x.cells.length:=by simp[q3]
  have hin:i*P.cellsOf bl.ty+P.cellsOf bl.ty<=cur.size:=by
   have e1:(i+1)*P.cellsOf bl.ty<=c*P.cellsOf bl.ty:=YL _ om;rw[Za,Nat.one_mul]at e1;omega
  have hfit:i*P.cellsOf bl.ty+off+vx.cells.toList.length<=cur.size:=by omega
  have hst:=run_storeCells_at P b (i*P.cellsOf bl.ty+off) bl.ty vx.cells.toList 0 cur w h6 (by simpa using hfit) q2
  simp only[Zy]at hst;generalize hnew:(List.take (i*P.cellsOf bl.ty+off) cur.toList++vx.cells.toList++List.drop (i*P.cellsOf bl.ty+off+vx.cells.toList.length) cur.toList)=new at hst;have hnl:new.length=cur.size:=by rw[<-hnew];simp;omega
  have hget : ∀k,new[k]? = if i*P.cellsOf bl.ty+off<=k/\k<i*P.cellsOf bl.ty+off+x.cells.length then vx.cells.toList[k-(i*P.cellsOf bl.ty+off)]? else cur[k]? := by
   intro k;rw[<-hnew];have l1:(List.take (i*P.cellsOf bl.ty+off) cur.toList).length=i*P.cellsOf bl.ty+off:=by simp;omega
   rw[YS]
   by_cases hk:k<i*P.cellsOf bl.ty+off
   . rw[Y5 (by omega),XW (by omega),YX,X0 hk];simp
   rw[YR (by omega),l1]
   by_cases hk2:k<i*P.cellsOf bl.ty+off+x.cells.length
   . rw[Y5 (by omega),X0 (by omega)]
   rw[YR (by omega),XW (by omega),YJ]
   rw[q4,YH]
   congr 1;omega
  obtain⟨g',g1,g2,g3,g4,g5⟩:=hm.put (h':=upd h r (some { bl with rows:=bl.rows.set i (splice row off x.cells) })) (w':=w.setRow b new.toArray) r b c
   { bl with rows:=bl.rows.set i (splice row off x.cells) } new.toArray (.inr h1) (bu _ _ _) (λr' hr'=>.inl (aI _ _ _ _ hr')) (.inr ⟨r,c,_,h1,.inl rfl⟩)
   (setRow_heap w b cur _ bl.ty _ h6) (by simp[hnl,h7]) h2 (by simpa using h3) h4
   (by
    intro i' row' hi';simp only[List.getElem?_set]at hi'
    by_cases e:i=i'
    .
     subst e;rw[X0 rfl,X0 c2]at hi'
     cases hi'
     refine⟨by rw[EX _ _ _ c3];exact m1,λj d hj=>?_⟩
     have hjl:j<row.length:=by
      have:=(XY.1 hj).1;rwa [EX _ _ _ c3]at this
     unfold splice at hj;rw[YS]at hj;have l1:(List.take off row).length=off:=by simp;omega
     simp only[List.getElem?_toArray];rw[hget]
     by_cases hk:j<off
     .
      rw[Y5 (by omega),YX,X0 hk]at hj
      rw[XW (by omega)]
      exact m2 j d hj
     rw[YR (by omega),l1]at hj
     by_cases hk2:j<off+x.cells.length
     .
      rw[Y5 (by omega)]at hj
      rw[X0 (by omega)]
      have hjj:i*P.cellsOf bl.ty+j-(i*P.cellsOf bl.ty+off)=j-off:=by omega
      rw[hjj];have hlt:j-off<vx.cells.toList.length:=by omega
      exact⟨vx.cells.toList[j-off],by simp,q2 _ (Yq hlt),q1.2 (j-off) d _ hj (by simp)⟩
     rw[YR (by omega),YJ]at hj
     rw[XW (by omega)]
     have:off+x.cells.length+(j-off-x.cells.length)=j:=by omega
     rw[this]at hj;exact m2 j d hj
    rw[XW e]at hi';obtain⟨k1,k2⟩:=h9 i' row' hi';refine⟨k1,λj d hj=>?_⟩
    have hjl:j<P.cellsOf bl.ty:=by have:=(XY.1 hj).1;omega
    simp only[List.getElem?_toArray];rw[hget,XW]
    . exact k2 j d hj
    intro ⟨u1,u2⟩;have v1:i*P.cellsOf bl.ty<i'*P.cellsOf bl.ty+P.cellsOf bl.ty:=by omega
    have v2:i'*P.cellsOf bl.ty<i*P.cellsOf bl.ty+P.cellsOf bl.ty:=by omega
    have e1:i<i'+1:=Nat.lt_of_mul_lt_mul_right (a:=P.cellsOf bl.ty) (by rw[Za,Nat.one_mul];exact v1)
    have e2:i'<i+1:=Nat.lt_of_mul_lt_mul_right (a:=P.cellsOf bl.ty) (by rw[Za,Nat.one_mul];exact v2)
    omega)
   ⟨rfl,rfl,rfl,by simp,λk _ hk=>setRow_other w b k _ (λe=>hk (by rw[e]))⟩
  refine⟨g',_,?_,g4,g5,λr' hr'=>?_⟩
  . simp[Instr.storeAt,Instr.sureAddr,storeVar,lD c0,q3,c1,hst]
  rcases(g2 r').1 hr' with h|rfl
  . exact h
  exact hU
end Go.DL
namespace Go.DL
variable [Dr]
open Go.RowKit
variable {P : Program}
def RowsIn(w:World)(g:Mem)(size:Nat)(rows:List (List D))(cs:List Value):Prop :=
 cs.length=rows.length*size /\ ∀(i:Nat)row,rows[i]? = some row->row.length=size /\ ∀(j:Nat)d,row[j]? = some d -> ∃u,cs[i*size+j]? = some u/\u.oneCell'=true/\ag w g d u
theorem yM{i j n size:Nat}(hi:i<n)(hj:j<size):i*size+j<n*size:=by
 have e1:(i+1)*size<=n*size:=YL _ om
 rw[Za,Nat.one_mul]at e1
 omega
theorem RowsIn.nil{w:World}{g:Mem}{size:Nat}:RowsIn w g size [] []:=⟨by simp,λi row h=>by simp at h⟩
def RowsIn.append{w:World}{g:Mem}{size:Nat}{r s:List (List D)}{a b:List Value}(h:RowsIn w g size r a)(k:RowsIn w g size s b):RowsIn w g size (r++s) (a++b):=by
 refine⟨by simp[h.1,k.1,Za],λi row hi=>?_⟩
 by_cases hlt:i<r.length
 .
  rw[Y5 hlt]at hi;obtain⟨h1,h2⟩:=h.2 i row hi;refine⟨h1,λj d hj=>?_⟩
  have hjl:j<size:=by have:=(XY.1 hj).1;omega
  have:=yM hlt hjl;rw[Y5 (by rw[h.1];exact this)]
  exact h2 j d hj
 rw[YR (by omega)]at hi
 obtain⟨h1,h2⟩:=k.2 _ row hi
 refine⟨h1,λj d hj=>?_⟩
 have e:i*size=r.length*size+(i-r.length)*size:=by rw[<-Za];congr 1;omega
 rw[YR (by rw[h.1];omega),h.1]
 have e2:i*size+j-r.length*size=(i-r.length)*size+j:=by omega
 rw[e2]
 exact h2 j d hj
def RowsIn.one{w:World}{g:Mem}{size:Nat}{rows:List (List D)}{cs:List Value}(h:RowsIn w g size rows cs):∀u∈cs,u.oneCell'=true:=by
 intro u hu
 obtain⟨k,hk,rfl⟩:=YZ hu
 rcases Nat.eq_zero_or_pos size with h0|h0
 . rw[h.1,h0]at hk;omega
 have hi:k / size<rows.length:=by rw[Nat.div_lt_iff_lt_mul h0,<-h.1];exact hk
 obtain⟨h1,h2⟩:=h.2 (k / size) rows[k / size] (by simp)
 have hj:k % size<rows[k / size].length:=by rw[h1];exact Nat.mod_lt _ h0
 obtain⟨u,h3,h4,_⟩:=h2 (k % size) (rows[k / size][k % size]) (by simp)
 have e:k / size*size+k % size=k:=by rw[Zt];exact Nat.div_add_mod k size
 rw[e,X5 hk]at h3
 cases h3;exact h4
theorem RowsIn.holds [aa P]{w:World}{g:Mem}{e:TypeId}{rows:List (List D)}{cs:List Value}{cur:Array Value}(h:RowsIn w g (P.cellsOf e) rows cs)(hc:cur.toList.take cs.length=cs):Holds P w g ⟨e,rows⟩ cur:=by
 intro i row hi
 obtain⟨h1,h2⟩:=h.2 i row hi
 refine⟨h1,λj d hj=>?_⟩
 obtain⟨u,h3,h4,h5⟩:=h2 j d hj
 refine⟨u,?_,h4,h5⟩
 rw[<-hc,YX]at h3
 split at h3
 . simpa using h3
 cases h3
def Holds.rowsIn [aa P]{w:World}{g:Mem}{bl:av}{cur:Array Value}(h:Holds P w g bl cur)(off len:Nat)(hl:off+len<=bl.rows.length)(hc:bl.rows.length*P.cellsOf bl.ty<=cur.size) :
  RowsIn w g (P.cellsOf bl.ty) ((bl.rows.drop off).take len) ((cur.toList.drop (off*P.cellsOf bl.ty)).take (len*P.cellsOf bl.ty)):=by
 have e1:(off+len)*P.cellsOf bl.ty<=bl.rows.length*P.cellsOf bl.ty:=YL _ hl
 rw[Za]at e1
 refine⟨?_,λi row hi=>?_⟩
 . simp only[Zu,Zf,Array.length_toList];rw[Z0 (by omega),Z0 (by omega)]
 rw[YX]at hi
 split at hi
 .
  rename_i hil
  rw[YJ]at hi;obtain⟨h1,h2⟩:=h (off+i) row hi;refine⟨h1,λj d hj=>?_⟩
  obtain⟨u,h3,h4,h5⟩:=h2 j d hj;have hjl:j<P.cellsOf bl.ty:=by have:=(XY.1 hj).1;omega
  refine⟨u,?_,h4,h5⟩;rw[YX,X0 (yM hil hjl),YJ,YH,<-h3]
  congr 1
  rw[Za];omega
 cases hi
theorem uH [aa P]{h:H}{g:Mem}{w:World}(hm:HM P h g w){y:D}{vy:Value}(hy:ag w g y vy){size:Nat}(hp:0<size)(hl:(aj y h).length=aV y)(hs : ∀r∈aj y h,r.length=size){u:TypeId}(ho:ek P u h y=true) :
  ∃cs,RowsIn w g size (aj y h) cs/\(∀w',(Builtin.lenOf vy).run P w' = .ok (aV y) w')/\(∀w',w'.heap=w.heap->(Builtin.firstCells size (aV y) vy).run P w' = .ok cs.toArray w') /\
   (∀w',∃d,(underlying u).run P w' = .ok d w'/\(d = .string \/ ∃e',d = .slice e')):=by
 cases hy with
 | empty full a cap hf hmx =>
  obtain⟨e,he⟩:=Yn.1 (show(aT P u).isSome=true from ho)
  have hu:P.underlying u=some (.slice e):=by unfold aT at he;split at he<;>simp_all
  refine⟨[],.nil,λw'=>by simp[Builtin.lenOf,aV],λw' _=>?_,λw'=>⟨_,run_underlying hu w',by simp⟩⟩
  cases a<;>simp[Builtin.firstCells,aV,loadCells,loadCellsFrom]
 | list full rows ad cap sz cv hI hlc hf hmx hsz hc hr =>
  obtain⟨e,he⟩:=Yn.1 (show(aT P u).isSome=true from ho)
  have hu:P.underlying u=some (.slice e):=by unfold aT at he;split at he<;>simp_all
  simp only[aj]at hs hl ⊢
  by_cases hz:rows=[]
  .
   subst hz;refine⟨[],.nil,λw'=>by simp[Builtin.lenOf,aV],λw' _=>?_,λw'=>⟨_,run_underlying hu w',by simp⟩⟩
   simp[Builtin.firstCells,aV,loadCells,loadCellsFrom]
  have hse:sz=size:=by
   cases rows with
   | nil=>exact absurd rfl hz
   | cons a l=>rw[<-hsz a (by simp),hs a (by simp)]
  subst hse;refine⟨(List.range (rows.length*sz)).map λk=>cv (k / sz) (k % sz),⟨by simp,λi row hi=>⟨hs row (X6 hi),λj d hj=>?_⟩⟩,λw'=>by simp[Builtin.lenOf,aV],λw' hw=>?_,λw'=>⟨_,run_underlying hu w',by simp⟩⟩
  .
   have hil:i<rows.length:=(XY.1 hi).1;have hjl:j<sz:=by have:=(XY.1 hj).1;have:=hs row (X6 hi);omega
   refine⟨cv i j,?_,(hc i j row d hi hj).2,hr i j row d hi hj⟩;rw[Yj,List.getElem?_range (yM hil hjl)];have e1:(i*sz+j) / sz=i:=by rw[Zt,Nat.mul_add_div hp,Nat.div_eq_of_lt hjl];rfl
   have e2:(i*sz+j) % sz=j:=by rw[Zt,ZP,Zx hjl]
   simp[e1,e2]
  have:=run_loadCells (P:=P) w' ad (rows.length*sz) (λk=>cv (k / sz) (k % sz)) (λk hk=>by
   have hil:k / sz<rows.length:=by rw[Nat.div_lt_iff_lt_mul hp];exact hk
   have hjl:k % sz<(rows[k / sz]).length:=by rw[hs _ (by simp)];exact Nat.mod_lt _ hp
   have h1:=(hc (k / sz) (k % sz) rows[k / sz] (rows[k / sz][k % sz]) (by simp) (by simp)).1
   have e:k / sz*sz+k % sz=k:=by rw[Zt];exact Nat.div_add_mod k sz
   rw[e]at h1;rw[<-h1];exact World.cell?_of_block (by rw[hw]))
  simpa[Builtin.firstCells,aV]using this
 | mrow r off len x hx hU hv =>
  simp only[ek,XT]at ho;obtain⟨e,he⟩:=Yn.1 ho.1;have hu:P.underlying u=some (.slice e):=by unfold aT at he;split at he<;>simp_all
  simp only[aj,aV]at hs hl ⊢
  cases hr:h r with
  | none =>
   rw[hr]at ho;simp at ho
  | some bl =>
   rw[hr]at hl hs;simp only at hl hs ⊢;obtain⟨blk,c,h1,h2,h3,h4,h5⟩:=hm.blk r bl hr;obtain⟨h6,h7⟩:=hv _ _ _ h1
   rcases h7 with⟨rfl,a,rfl⟩|⟨hne,b,rfl,rfl⟩
   .
    have:len=0:=by omega
    subst this;refine⟨[],by simpa using RowsIn.nil,λw'=>by simp[Builtin.lenOf],λw' _=>?_,λw'=>⟨_,run_underlying hu w',by simp⟩⟩
    cases a<;>simp[Builtin.firstCells,loadCells,loadCellsFrom]
   rcases h5 with⟨h5,_⟩|⟨b',cur,h5,k1,k2,k3,k4⟩
   . cases h5
   cases h5
   have k1:=k1.cells h6.2;have k2:=k2 h6.2;have hle:off+len<=bl.rows.length\/len=0:=by
    simp only[Zu,Zf]at hl;omega
   rcases hle with hle|hle
   .
    have hR:=k4.rowsIn off len hle (by rw[k2];exact YL _ h3)
    by_cases hz:len=0
    . subst hz;refine⟨[],by simpa using RowsIn.nil,λw'=>by simp[Builtin.lenOf],λw' _=>by simp[Builtin.firstCells,loadCells,loadCellsFrom],λw'=>⟨_,run_underlying hu w',by simp⟩⟩
    have hse:P.cellsOf bl.ty=size:=by
     have hlt:0<((bl.rows.drop off).take len).length:=by omega
     have m1:=hs _ (Yq hlt);have m2:=(hR.2 0 _ (X5 hlt)).1;omega
    rw[hse]at hR k2;refine⟨_,hR,λw'=>by simp[Builtin.lenOf],λw' hw=>?_,λw'=>⟨_,run_underlying hu w',by simp⟩⟩
    rw[hse];have hlen:=hR.1;rw[hl]at hlen;refine run_firstCells_some (P:=P) w' size len _ len _ _ hlen λj v hj=>?_
    rw[jR,cell_of_row w' b _ cur bl.ty (0,0) (by rw[hw];exact k1)]
    rw[YX]at hj
    split at hj
    . rw[YJ]at hj;simpa using hj
    cases hj
   subst hle;refine⟨[],by simpa using RowsIn.nil,λw'=>by simp[Builtin.lenOf],λw' _=>by simp[Builtin.firstCells,loadCells,loadCellsFrom],λw'=>⟨_,run_underlying hu w',by simp⟩⟩
 | v =>
  cases vy<;>simp only[ek]at ho<;>try (cases ho;done)
  rename_i s
  have hu:P.underlying u=some .string:=by split at ho<;>simp_all
  simp only[aj,aV]at hs hl ⊢
  by_cases hz:s.size=0
  .
   have e:s.data.toList=[]:=Ye (by simpa using hz)
   refine⟨[],by rw[e];exact RowsIn.nil,λw'=>by simp[Builtin.lenOf],λw' _=>?_,λw'=>⟨_,run_underlying hu w',by simp⟩⟩
   simp[Builtin.firstCells,hz]
  have hse:size=1:=by
   have hlt:0<s.data.toList.length:=by simp;exact Nat.pos_of_ne_zero hz
   rw[<-hs [.v (.int .u8 (s.data.toList[0].toNat))] (by simp only[Yh];exact⟨_,Yq hlt,rfl⟩)];rfl
  subst hse;refine⟨s.data.toList.map λb=>.int .u8 b.toNat,⟨by simp,λi row hi=>?_⟩,λw'=>by simp[Builtin.lenOf],λw' _=>?_,λw'=>⟨_,run_underlying hu w',by simp⟩⟩
  .
   rw[Yj]at hi
   cases hb:s.data.toList[i]? with
   | none=>rw[hb]at hi;cases hi
   | some b =>
    rw[hb]at hi;simp at hi;subst hi;refine⟨rfl,λj d hj=>?_⟩
    cases j with
    | succ j=>simp at hj
    | zero=>simp at hj;subst hj;exact⟨.int .u8 b.toNat,by rw[Yj];simp[hb],rfl,.v _⟩
  simp[Builtin.firstCells]
  apply Zd
  simp
 | _=>simp[ek]at ho
section
variable {t u e : TypeId} {i : TypeInfo} {x : Value} {n : Nat} {w : World}
def QD [aa P](ht:P.underlying t=some (.slice e))(hi:P.info? e=some i)(hu : ∃d,(underlying u).run P w = .ok d w/\(d = .string \/ ∃e',d = .slice e'))(ty:TypeId)(b o sLen sCap:Nat)
  (hl:(Builtin.lenOf x).run P w = .ok n w)(hroom:sLen+n<=sCap){news:List Value}(hn:(Builtin.firstCells i.size n x).run P w = .ok news.toArray w)(h1 : ∀v∈news,v.oneCell'=true)
  {cur:Array Value}(hg:w.heap[b]? = some (.cells cur e (0,0)))(hfit:o+sLen*i.size+news.length<=cur.size) :
  (Builtin.append_ #[t,u] ty #[.slice (some ⟨b,o,none⟩) sLen sCap,x]).run P w = .ok (.slice (some ⟨b,o,none⟩) (sLen+n) sCap)
   (w.setRow b (cur.toList.take (o+sLen*i.size)++news++cur.toList.drop (o+sLen*i.size+news.length)).toArray):=by
 obtain⟨d,hu,hd⟩:=hu
 have hst:=run_storeCells_at P b (o+sLen*i.size) e news 0 cur w hg (by simpa using hfit) h1
 simp only[Zy]at hst
 rcases hd with rfl|⟨e',rfl⟩<;>simp[Builtin.append_,run_underlying ht,hu,sizeOf,typeInfo,hi,hl,hroom,hn,jR,hst]
def IP [aa P](ht:P.underlying t=some (.slice e))(hi:P.info? e=some i)(hu : ∃d,(underlying u).run P w = .ok d w/\(d = .string \/ ∃e',d = .slice e'))(ty:TypeId)(a:Option Addr)(sLen sCap:Nat)(hle:sLen<=sCap)
  (hl:(Builtin.lenOf x).run P w = .ok 0 w)(hn:(Builtin.firstCells i.size 0 x).run P w = .ok #[] w) :
  (Builtin.append_ #[t,u] ty #[.slice a sLen sCap,x]).run P w = .ok (.slice a sLen sCap) w:=by
 obtain⟨d,hu,hd⟩:=hu
 rcases hd with rfl|⟨e',rfl⟩<;>cases a<;>simp[Builtin.append_,run_underlying ht,hu,sizeOf,typeInfo,hi,hl,hle,hn,storeCells]
def IQ [aa P](ht:P.underlying t=some (.slice e))(hi:P.info? e=some i){z:Value}(hz:i.zero=some z)(hu : ∃d,(underlying u).run P w = .ok d w/\(d = .string \/ ∃e',d = .slice e'))(ty:TypeId)(a:Option Addr)(sLen sCap:Nat)
  (hl:(Builtin.lenOf x).run P w = .ok n w)(hgr:sCap<sLen+n){olds news:List Value}(ho:(Builtin.firstCells i.size sLen (.slice a sLen sCap)).run P w.drew = .ok olds.toArray w.drew)
  (hn:(Builtin.firstCells i.size n x).run P w.drew = .ok news.toArray w.drew)(h63:sLen+n<=9223372036854775807)(hby:(sLen+n)*i.bytes<=140737488355328) :
  (Builtin.append_ #[t,u] ty #[.slice a sLen sCap,x]).run P w = .ok (.slice (some ⟨w.heap.size,0,none⟩) (sLen+n) (grownCap w (sLen+n) sCap e))
   (w.drew.alloc (.cells ((olds++news).toArray++Builtin.zeroCells z.cells (grownCap w (sLen+n) sCap e-(sLen+n))) e)):=by
 obtain⟨d,hu',hd⟩:=hu
 have h1 : ¬(sLen+n<=sCap):=by omega
 have h63' : ¬(9223372036854775807<(sLen:Int)+(n:Int)):=by omega
 have h48 : ¬(281474976710656<Builtin.nextslicecap (sLen+n) sCap*i.bytes):=by have:=growslice_fits (bytes:=i.bytes) hgr hby;omega
 have e0 : ∀Z:Array Value,(olds++news).toArray++Z=olds.toArray++(news.toArray++Z):=λZ=>by apply Zd;simp
 rw[e0]
 rcases hd with rfl|⟨e',rfl⟩<;>simp[Builtin.append_,run_underlying ht,hu',sizeOf,typeInfo,zeroValue,hi,hz,hl,h1,h63',h48,Question.forced,ho,hn,newRow,grownCap]
end
theorem l7 [aa P]{t e:TypeId}(h:aT P t=some e):P.underlying t=some (.slice e):=by unfold aT at h;split at h<;>simp_all
def Dl [aa P]{h h':H}{g:Mem}{w:World}(hm:HM P h g w){b:Nat}(hb : ¬g.U b){e:TypeId}{rows:List (List D)}{cs:List Value}(hr:RowsIn w g (P.cellsOf e) rows cs)(hp:0<P.cellsOf e){z:Value}(hz:z.cells.size=P.cellsOf e)
  (hb':h' b=some ⟨e,rows⟩)(hrr : ∀r,r≠b->h' r=h r\/h' r=none)(c:Nat)(hc:rows.length<=c)(hc0:0<c)(hmx:c<=maxLen) :
  ∃g',ag (w.drew.alloc (.cells (cs.toArray++Builtin.zeroCells z.cells (c-rows.length)) e)) g' (.mrow b 0 rows.length) (.slice (some ⟨w.heap.size,0,none⟩) rows.length c) /\
   HM P h' g' (w.drew.alloc (.cells (cs.toArray++Builtin.zeroCells z.cells (c-rows.length)) e))/\ay g g' w (w.drew.alloc (.cells (cs.toArray++Builtin.zeroCells z.cells (c-rows.length)) e)) /\ ∀r,g'.U r->g.U r\/r=b:=by
 obtain⟨g',h2,h3,h4,h5,h6⟩:=hm.put (h':=h') (w':=w.drew.alloc (.cells (cs.toArray++Builtin.zeroCells z.cells (c-rows.length)) e)) b w.heap.size c ⟨e,rows⟩ (cs.toArray++Builtin.zeroCells z.cells (c-rows.length)) (.inl hb) hb' hrr (.inl (X3 _))
  (heap_alloc_new w.drew _) (by simp only[Array.size_append,List.size_toArray,size_zeroCells,hz,hr.1,<-Za];congr 1;omega) hp hc hmx
  (hr.holds (by simp)) ⟨rfl,rfl,rfl,by simp,λk hk _=>Below.heap_alloc w.drew _ k hk⟩
 refine⟨g',.mrow b 0 rows.length _ ⟨_,_,rfl,hc,λ_=>⟨_,rfl⟩⟩ ((h3 b).2 (.inr rfl)) λblk c' sz he=>?_,h5,h6,λr hr=>(h3 r).1 hr⟩
 rw[h2]at he
 simp only[XU,Yo]at he
 obtain⟨rfl,rfl,rfl⟩:=he
 exact⟨om,.inr ⟨om,w.heap.size,rfl,by simp⟩⟩
def Kz{w:World}{g:Mem}{b sz:Nat}(hM:g.M b=some (none,0,sz))(hU:g.U b)(a:Option Addr):ag w g (.mrow b 0 0) (.slice a 0 0) :=
 .mrow b 0 0 _ ⟨_,_,rfl,X3 _,λh=>absurd h om⟩ hU λblk c s he=>by
  rw[hM]at he;simp only[XU,Yo]at he;obtain⟨rfl,rfl,rfl⟩:=he;exact⟨⟨X3 _,Yk _⟩,.inl ⟨rfl,a,rfl⟩⟩
theorem IL [aa P]{h:H}{g:Mem}{w:World}(hm:HM P h g w){t u:TypeId}{x y:D}{vx vy:Value}{b:Nat}(hb : ¬g.U b)(hx:ag w g x vx)(hy:ag w g y vy)(hc:(dw P t u x y h b).2.2)(ty:TypeId) :
  ∃v g' w',(Builtin.append_ #[t,u] ty #[vx,vy]).run P w = .ok v w'/\ag w' g' (dw P t u x y h b).1 v/\HM P (dw P t u x y h b).2.1 g' w'/\ay g g' w w' /\ ∀r,g'.U r->g.U r\/r=b:=by
 unfold dw at hc ⊢
 cases he:aT P t with
 | none=>rw[he]at hc;exact hc.elim
 | some e =>
  rw[he]at hc;simp only at hc ⊢;have ht:=l7 he;have common:(0<P.cellsOf e/\(aV x+(aj y h).length)*P.bytesOf e<=140737488355328/\aV x+(aj y h).length<=9223372036854775807) ->
    ((aj y h).length=aV y/\ek P u h y=true/\cB P e=true /\ ∀r∈aj y h,r.length=P.cellsOf e) ->
    ∃i z news,P.info? e=some i/\i.size=P.cellsOf e/\i.bytes=P.bytesOf e/\i.zero=some z/\z.cells.size=P.cellsOf e/\RowsIn w g (P.cellsOf e) (aj y h) news/\(Builtin.lenOf vy).run P w = .ok (aj y h).length w /\
     (∀w',w'.heap=w.heap->(Builtin.firstCells i.size (aj y h).length vy).run P w' = .ok news.toArray w')/\(∃d,(underlying u).run P w = .ok d w/\(d = .string \/ ∃e',d = .slice e')):=by
   rintro⟨a1,a2,a3⟩ ⟨b1,b2,b3,b4⟩;obtain⟨i,hi,hs⟩:=vg a1;unfold cB at b3
   cases hz:i.zero with
   | none=>simp[hi,hz]at b3
   | some z =>
    simp only[hi,hz,Option.bind_some,Yy]at b3;obtain⟨news,r1,r2,r3,r4⟩:=uH hm hy a1 b1 b4 b2;exact⟨i,z,news,hi,hs,by simp[Program.bytesOf,hi],hz,b3,r1,by rw[b1];exact r2 w,by rw[b1,hs];exact r3,r4 w⟩
  split at hc
  case h_3=>exact hc.elim
  case h_1 rows =>
   obtain⟨hsz,hsrc,hne,hrl⟩:=hc;simp only[aV]at hsz common;obtain⟨i,z,news,hi,hs,hby,hz,hzs,hR,hlen,hfc,hu⟩:=common hsz hsrc
   by_cases hn:aj y h=[]
   .
    have hr0:=hne hn;subst hr0;rw[hn]at hlen hfc hR ⊢;have:news=[]:=Ye (by simpa using hR.1)
    subst this;obtain⟨g',g1,g2,g3,g4,g5⟩:=hm.putNone (h':=upd h b (some ⟨e,[]⟩)) b ⟨e,[]⟩ hb (bu _ _ _) (λr hr=>.inl (aI _ _ _ _ hr)) hsz.1 rfl
    have hv : ∃a,vx = .slice a 0 0:=by
     cases hx with
     | empty full a cap hf hmx=>rw[hf rfl];exact⟨a,rfl⟩
     | list full rows ad cap size cv hI hl hf hmx hs' hc' hr'=>rw[hf rfl];exact⟨_,rfl⟩
    obtain⟨a,rfl⟩:=hv;exact⟨.slice a 0 0,g',w,IP ht hi hu ty a 0 0 (X3 _) hlen (hfc w rfl),Kz g1 ((g2 b).2 (.inr rfl)) a,g4,g5,λr hr=>(g2 r).1 hr⟩
   have hpos:0<(aj y h).length:=Y6.2 hn;obtain⟨olds,o1,o2,o3,_⟩:=uH hm hx (u:=t) hsz.1 (by simp[aj,aV]) hrl (by simp[ek,he])
   simp only[aj,aV]at o1 o2 o3;have hv : ∃a,vx = .slice a rows.length rows.length:=by
    cases hx with
    | empty full a cap hf hmx=>rw[hf rfl];exact⟨a,rfl⟩
    | list full rows ad cap size cv hI hl hf hmx hs' hc' hr'=>rw[hf rfl];exact⟨_,rfl⟩
   obtain⟨a,rfl⟩:=hv;have hap:=IQ (P:=P) ht hi hz hu ty a rows.length rows.length hlen (by omega) (by rw[hs];exact o3 w.drew rfl) (hfc w.drew rfl) hsz.2.2 (by rw[hby];exact hsz.2.1)
   have hge:=grownCap_ge w (rows.length+(aj y h).length) rows.length e;obtain⟨g',k1,k2,k3,k4⟩:=Dl (h':=upd h b (some ⟨e,rows++aj y h⟩)) hm hb (o1.append hR) hsz.1 hzs (bu _ _ _) (λr hr=>.inl (aI _ _ _ _ hr)) (grownCap w (rows.length+(aj y h).length) rows.length e) (by simpa using hge) om
    (grownCap_le_maxLen _ _ _ _ (by simp only[maxLen];exact hsz.2.2))
   simp only[YE]at k1 k2 k3;exact⟨_,g',_,hap,k1,k2,k3,k4⟩
  case h_2 r n =>
   cases hr:h r with
   | none=>rw[hr]at hc;exact hc.elim
   | some bl =>
    rw[hr]at hc;simp only at hc ⊢;obtain⟨hsz,hsrc,rfl,rfl,hrb⟩:=hc;simp only[aV]at hsz common;obtain⟨i,z,news,hi,hs,hby,hz,hzs,hR,hlen,hfc,hu⟩:=common hsz hsrc;have hh' : ∀r',r'≠b->upd (upd h r none) b (some ⟨bl.ty,bl.rows++aj y h⟩) r'=h r'\/upd (upd h r none) b (some ⟨bl.ty,bl.rows++aj y h⟩) r'=none:=by
     intro r' hr';rw[aI _ _ _ _ hr']
     by_cases e1:r'=r
     . subst e1;exact .inr (bu _ _ _)
     exact .inl (aI _ _ _ _ e1)
    obtain⟨blk,c,q1,q2,q3,q4,q5⟩:=hm.blk r bl hr
    cases hx with|mrow _ _ _ _ eQ hU hv =>
    obtain⟨q6,q7⟩:=hv _ _ _ q1;have grow : ∀a cap,vx = .slice a bl.rows.length cap->cap<bl.rows.length+(aj y h).length -> ∃v g' w',(Builtin.append_ #[t,u] ty #[vx,vy]).run P w = .ok v w'/\ag w' g' (.mrow b 0 (bl.rows.length+(aj y h).length)) v /\
      HM P (upd (upd h r none) b (some ⟨bl.ty,bl.rows++aj y h⟩)) g' w'/\ay g g' w w' /\ ∀r,g'.U r->g.U r\/r=b:=by
     rintro a cap rfl hcap;have hrx:aj (.mrow r 0 bl.rows.length) h=bl.rows:=by simp[aj,hr]
     obtain⟨olds,o1,o2,o3,_⟩:=uH hm (.mrow r 0 bl.rows.length _ eQ hU hv) (u:=t) hsz.1 (by simp[hrx,aV]) (by
      rw[hrx];intro row hrow;obtain⟨k,hk,rfl⟩:=YZ hrow
      rcases q5 with⟨_,rfl⟩|⟨b',cur,_,_,_,_,k9⟩
      . omega
      exact(k9 k _ (X5 hk)).1) (by simp[ek,he,hr])
     rw[hrx]at o1;simp only[aV]at o2 o3;have hap:=IQ (P:=P) ht hi hz hu ty a bl.rows.length cap hlen hcap (by rw[hs];exact o3 w.drew rfl) (hfc w.drew rfl) hsz.2.2 (by rw[hby];exact hsz.2.1)
     have hge:=grownCap_ge w (bl.rows.length+(aj y h).length) cap bl.ty;obtain⟨g',k1,k2,k3,k4⟩:=Dl (h':=upd (upd h r none) b (some ⟨bl.ty,bl.rows++aj y h⟩)) hm hb (o1.append hR) hsz.1 hzs (bu _ _ _) hh' (grownCap w (bl.rows.length+(aj y h).length) cap bl.ty) (by simpa using hge) om
      (grownCap_le_maxLen _ _ _ _ (by simp only[maxLen];exact hsz.2.2))
     simp only[YE]at k1 k2 k3;exact⟨_,g',_,hap,k1,k2,k3,k4⟩
    rcases q7 with⟨hc0,a,rfl⟩|⟨hc0,b0,rfl,rfl⟩
    .
     have hl0:bl.rows.length=0:=by omega
     by_cases hn:aj y h=[]
     .
      rw[hn]at hlen hfc hR ⊢;have:news=[]:=Ye (by simpa using hR.1)
      subst this;rw[Ye hl0];obtain⟨g',g1,g2,g3,g4,g5⟩:=hm.putNone (h':=upd (upd h r none) b (some ⟨bl.ty,[]++[]⟩)) b ⟨bl.ty,[]⟩ hb (bu _ _ _) (by rw[hn,Ye hl0]at hh';exact hh') hsz.1 rfl
      exact⟨.slice a 0 0,g',w,IP ht hi hu ty a 0 0 (X3 _) hlen (hfc w rfl),Kz g1 ((g2 b).2 (.inr rfl)) a,g4,g5,λr hr=>(g2 r).1 hr⟩
     have hpos:0<(aj y h).length:=Y6.2 hn;exact grow a 0 (by rw[hl0]) (by omega)
    rcases q5 with⟨q5,_⟩|⟨b',cur,q5,k1,k2,k3,k4⟩
    . cases q5
    cases q5
    have k1:=k1.cells q6.2;have k2:=k2 q6.2;have q4:=q6.2;simp only[Nat.zero_mul,Nat.sub_zero]at *
    by_cases hroom:bl.rows.length+(aj y h).length<=c
    .
     have hnl:news.length=(aj y h).length*P.cellsOf bl.ty:=hR.1;have hfit:bl.rows.length*P.cellsOf bl.ty+news.length<=cur.size:=by
      rw[hnl,k2,<-Za];exact YL _ hroom
     have hap:=QD (P:=P) ht hi hu ty b0 0 bl.rows.length c hlen hroom (hfc w rfl) hR.one k1 (by rw[hs];simpa using hfit)
     rw[hs]at hap;simp only[Nat.zero_add]at hap;have hO:=k4.rowsIn 0 bl.rows.length (by omega) (by rw[k2];exact YL _ q3)
     simp only[Yl,Zw,Nat.zero_mul]at hO;have hA:=hO.append hR;generalize hnew:(List.take (bl.rows.length*P.cellsOf bl.ty) cur.toList++news++List.drop (bl.rows.length*P.cellsOf bl.ty+news.length) cur.toList)=new at hap;have hsize:new.length=cur.size:=by rw[<-hnew];simp;omega
     obtain⟨g',g1,g2,g3,g4,g5⟩:=hm.put (h':=upd (upd h r none) b (some ⟨bl.ty,bl.rows++aj y h⟩)) (w':=w.setRow b0 new.toArray) b b0 c ⟨bl.ty,bl.rows++aj y h⟩ new.toArray (.inl hb) (bu _ _ _) hh'
      (.inr ⟨r,c,_,q1,.inr (by rw[aI _ _ _ _ hrb];exact bu _ _ _)⟩) (setRow_heap w b0 cur _ bl.ty _ k1) (by simp[hsize,k2]) hsz.1 (by simpa using hroom) q4
      (hA.holds (by rw[<-hnew];simp only[YS];rw[<-YS];exact List.take_left))
      ⟨rfl,rfl,rfl,by simp,λk _ hk=>setRow_other w b0 k _ (λe=>hk (by rw[e]))⟩
     refine⟨_,g',_,hap,.mrow b 0 _ _ ⟨_,_,rfl,hroom,λ_=>⟨_,rfl⟩⟩ ((g2 b).2 (.inr rfl)) λblk c' sz he=>?_,g4,g5,λr hr=>(g2 r).1 hr⟩
     rw[g1]at he;simp only[XU,Yo]at he;obtain⟨rfl,rfl,rfl⟩:=he;exact⟨om,.inr ⟨hc0,b0,rfl,by simp⟩⟩
    exact grow _ c rfl om
end Go.DL
namespace Go.DL
open Go.RowKit
variable {P : Program}
def ag.agg_inv{w:World}{g:Mem}{ds:List D}{v:Value}(h:ag w g (.agg ds) v):∃vs,v = .agg vs/\aC w g ds vs.toList:=by
 cases h with|agg _ vs hn hv=>exact⟨vs,rfl,by simpa using hn,λi d x h1 h2=>hv i d x h1 (by simpa using h2)⟩
def ag.tuple_inv{w:World}{g:Mem}{ds:List D}{v:Value}(h:ag w g (.tuple ds) v):∃vs,v = .tuple vs/\aC w g ds vs.toList:=by
 cases h with|tuple _ vs hn hv=>exact⟨vs,rfl,by simpa using hn,λi d x h1 h2=>hv i d x h1 (by simpa using h2)⟩
def ag.mk_agg{w:World}{g:Mem}{ds:List D}{vs:Array Value}(h:aC w g ds vs.toList):ag w g (.agg ds) (.agg vs) :=
 .agg ds vs (by simpa using h.1) λi d x h1 h2=>h.2 i d x h1 (by simpa using h2)
def ag.mk_tuple{w:World}{g:Mem}{ds:List D}{vs:Array Value}(h:aC w g ds vs.toList):ag w g (.tuple ds) (.tuple vs) :=
 .tuple ds vs (by simpa using h.1) λi d x h1 h2=>h.2 i d x h1 (by simpa using h2)
theorem FD{w:World}{g:Mem}{a:D}{va:Value}(ha:ag w g a va)(hp:pR a=true)(n:Nat):∃p,va = .pointer (some p)/\ag w g (qy n a) (.pointer (some (p.add n))):=by
 cases ha with
 | eptr cs p cv hI hc hr =>
  refine⟨p,rfl,.eptr _ _ (λj=>cv (n+j)) (by rw[block_add];exact hI) (λj d hj=>?_) (λj d hj=>?_)⟩
  . rw[YJ]at hj;rw[add_add'];exact hc _ d hj
  rw[YJ]at hj;exact hr _ d hj
 | mptr r i off x hx hU hv =>
  obtain⟨p,rfl⟩:=hx;refine⟨p,rfl,.mptr r i (off+n) _ ⟨_,rfl⟩ hU λblk c sz he=>?_⟩
  obtain⟨h0,b,h1,h2⟩:=hv blk c sz he;refine⟨h0,b,h1,?_⟩;simp only[Value.pointer.injEq,XU]at h2;rw[h2,jR,Nat.add_assoc]
 | v =>
  unfold pR at hp
  split at hp
  . rename_i e;cases e
  . rename_i e;cases e
  . rename_i p e;cases e;exact⟨_,rfl,.v _⟩
  cases hp
 | _=>simp[pR]at hp
def Zad{a:D}(h:ve a=true):pR a=true:=by
 unfold ve at h
 split at h
 . rfl
 . rfl
 . rfl
 cases h
theorem ZaZ [aa P]{w:World}{g:Mem}{s:TypeId}{f:Nat}{a:D}{va:Value}(ha:ag w g a va)(hc:(qY P s f a).2):∃v,(Instr.fieldAt s va f).run P w = .ok v w/\ag w g (qY P s f a).1 v:=by
 unfold qY at hc ⊢
 cases hf:bA P s f with
 | none=>rw[hf]at hc;exact hc.elim
 | some ot =>
  obtain⟨off,t⟩:=ot;rw[hf]at hc;obtain⟨h1,h2⟩:=hc;obtain⟨p,rfl,h3⟩:=FD ha h1 off;refine⟨_,?_,h3⟩;unfold bA at hf
  split at hf
  case h_2=>cases hf
  rename_i fs hfs
  cases l5:fs[f]? with
  | none=>rw[l5]at hf;cases hf
  | some fd =>
   rw[l5]at hf;simp only[YK,XU,Yo]at hf;obtain⟨rfl,rfl⟩:=hf;have h4:=lD (P:=P) (t:=fd.type) (by omega) w
   simp[Instr.fieldAt,run_underlying hfs,l5,Instr.sureAddr,fieldPlace,h4,h2]
theorem ZaY [aa P]{w:World}{g:Mem}{s:TypeId}{f:Nat}{a:D}{va:Value}(ha:ag w g a va)(hc:(xJ P s f a).2):∃v,(Instr.field s va f).run P w = .ok v w/\ag w g (xJ P s f a).1 v:=by
 unfold xJ at hc ⊢
 split at hc
 case h_2=>exact hc.elim
 rename_i off t cs hf
 obtain⟨h1,h2,h3⟩:=hc
 obtain⟨vs,rfl,hv⟩:=ha.agg_inv
 obtain⟨v,h4,h5⟩:=VW (P:=P) hv h1 h2 h3
 refine⟨v,?_,h5⟩
 unfold bA at hf
 split at hf
 case h_2=>cases hf
 rename_i fs hfs
 cases l5:fs[f]? with
 | none=>rw[l5]at hf;cases hf
 | some fd =>
  rw[l5]at hf;simp only[YK,XU,Yo]at hf;obtain⟨rfl,rfl⟩:=hf
  simp[Instr.field,run_underlying hfs,l5,asAgg,h4]
theorem Zam [aa P]{h:H}{g:Mem}{w:World}(hm:HM P h g w){t:TypeId}{x ix:D}{vx vi:Value}(hx:ag w g x vx)(hi:ag w g ix vi)(hc:(dM P t x ix h).2):∃v,(Instr.indexAt t vx vi).run P w = .ok v w/\ag w g (dM P t x ix h).1 v:=by
 unfold dM at hc ⊢
 cases he:aT P t with
 | none =>
  rw[he]at hc;simp only at hc ⊢;unfold nW at hc ⊢
  split at hc
  case h_2=>exact hc.elim
  rename_i n e k kk ha
  obtain⟨c1,c2,c3,c4⟩:=hc;obtain⟨p,rfl,h3⟩:=FD hx (Zad c1) (kk.toNat*P.cellsOf e);rw[hi.v_inv];refine⟨_,?_,h3⟩;unfold kF at ha
  split at ha
  case h_2=>cases ha
  rename_i n' e' hu
  cases ha
  simp[Instr.indexAt,asIntOf,run_underlying hu,Instr.sureAddr,c2,c3,lD c4]
 | some e =>
 rw[he]at hc
 simp only at hc ⊢
 have hu:=l7 he
 split at hc
 case h_3=>exact hc.elim
 case h_1 full rows k n =>
  rw[hi.v_inv];obtain⟨c1,c2,c3,c4⟩:=hc;have hlt:n.toNat<rows.length:=by omega
  cases hx with
  | empty=>simp at hlt
  | list full rows ad cap size cv hI hl hf hmx hs hcc hr =>
   have hsz:size=P.cellsOf e:=by
    rw[<-c4,<-hs (rows.getD n.toNat []) (by simp[List.getD,X5 hlt])]
   subst hsz;refine⟨.pointer (some (ad.add (n.toNat*P.cellsOf e))),?_,?_⟩
   .
    have h2:n<(rows.length:Int):=c2
    simp[Instr.indexAt,asIntOf,run_underlying hu,c1,h2,lD c3]
   have hrow:rows[n.toNat]? = some (rows.getD n.toNat []):=by simp[List.getD,X5 hlt]
   refine .eptr _ _ (λj=>cv n.toNat j) (by rw[block_add];exact hI) (λj d hj=>?_) (λj d hj=>hr _ _ _ _ hrow hj)
   rw[add_add'];exact(hcc _ _ _ _ hrow hj).1
 case h_2 r off len k n =>
  rw[hi.v_inv];obtain⟨c1,c2,c3,c4⟩:=hc
  cases hr:h r with
  | none=>rw[hr]at c4;exact c4.elim
  | some bl =>
   rw[hr]at c4;simp only at c4;subst c4
   cases hx with|mrow _ _ _ _ eQ hU hv =>
   obtain⟨a,c,rfl,h1,h2⟩:=eQ;obtain⟨p,rfl⟩:=h2 om;refine⟨.pointer (some (p.add (n.toNat*P.cellsOf bl.ty))),?_,.mptr _ _ _ _ ⟨_,rfl⟩ hU λblk c' sz hM=>?_⟩
   . simp[Instr.indexAt,asIntOf,run_underlying hu,c1,c2,lD c3]
   obtain⟨blk',c'',q1,_⟩:=hm.blk r bl hr;rw[hM]at q1;simp only[XU,Yo]at q1;obtain⟨q0,q2⟩:=hv _ _ _ hM
   rcases q2 with⟨rfl,a,q2⟩|⟨_,b,q3,q4⟩
   . omega
   refine⟨q0.2,b,q3,?_⟩;simp only[Value.slice.injEq,XU]at q4;rw[q4.1,jR,q1.2.2,<-Za];rfl
def Zal [aa P]{g:Mem}{w:World}{t:TypeId}{x ix:D}{vx vi:Value}(hx:ag w g x vx)(hi:ag w g ix vi)(hc:(sU P t x ix).2):∃v,(Instr.index t vx vi).run P w = .ok v w/\ag w g (sU P t x ix).1 v:=by
 unfold sU at hc ⊢
 split at hc
 case h_2=>exact hc.elim
 rename_i s k n
 obtain⟨c1,c2,c3⟩:=hc
 rw[hx.v_inv,hi.v_inv]
 refine⟨_,?_,.v _⟩
 have hlt:n.toNat<s.size:=by omega
 have e:s[n.toNat]? = some (s.data.toList.getD n.toNat 0):=by
  rw[ByteArray.getElem?_lt' s n.toNat hlt];have hlt':n.toNat<s.data.size:=hlt;simp only[List.getD,YH,Zc hlt',YA];rfl
 simp[Instr.index,asIntOf,run_underlying c3,c1,e]
def Rt{g:Mem}{w:World}{op:UnOp}{x:D}{vx:Value}(hx:ag w g x vx)(hc:(rP op x).2):∃v,(Op.unary op vx).run P w = .ok v w/\ag w g (rP op x).1 v:=by
 unfold rP at hc ⊢
 split at hc
 . rw[hx.v_inv];exact⟨_,by simp[Op.unary],.v _⟩
 . rw[hx.v_inv];exact⟨_,by simp[Op.unary,Op.intArith,zA hc],.v _⟩
 exact hc.elim
theorem Zcw [aa P]{g:Mem}{w:World}{src dst:TypeId}{x:D}{vx:Value}(hx:ag w g x vx)(hc:(tX P src dst x).2):∃v,(convert src dst vx).run P w = .ok v w/\ag w g (tX P src dst x).1 v:=by
 unfold tX at hc ⊢
 split at hc
 .
  rename_i k k' n hd
  obtain⟨d,hs⟩:=Yn.1 hc;rw[hx.v_inv];exact⟨.int k (k.wrap n),by simp[convert,run_underlying hs,run_underlying hd,Conv.intToInt],.v _⟩
 .
  rename_i s hd
  rw[hx.v_inv]
  split at hc
  .
   rename_i hs
   exact⟨_,by simp[convert,run_underlying hs,run_underlying hd],.v _⟩
  exact hc.elim
 .
  rename_i full rows hd
  obtain⟨h1,h2⟩:=hc;unfold Qs at h1
  split at h1
  case h_2=>cases h1
  rename_i e hs
  split at h1
  case h_2=>cases h1
  rename_i he
  have key : ∀(a:Option Addr)(n c:Nat),vx = .slice a n c->(convert src dst vx).run P w=(Conv.bytesToString (.slice a n c)).run P w:=by
   intro a n c e;subst e;exact run_convert_bytes_string w src dst _ a n c hs he hd
  cases hx with
  | empty full a cap hf hm =>
   refine⟨_,?_,.v _⟩;rw[key _ _ _ rfl]
   cases a with
   | none=>simp[Conv.bytesToString];rfl
   | some a =>
    rw[run_bytesToString w a 0 cap [] (by have:=run_loadCells (P:=P) w a 0 (λ_=>undef) (λj hj=>by omega);simpa using this)]
    rfl
  | list full rows ad cap size cv hi hl hf hm hs' hcc hr =>
   have hrow : ∀i(hi:i<rows.length),∃n,rows[i]=[.v (.int .u8 n)]:=by
    intro i hi;have h3:=Yf.1 h2 rows[i] (Yq hi);unfold isByte at h3
    split at h3
    . exact⟨_,by assumption⟩
    cases h3
   have hex : ∀i,∃n,i<rows.length->rows[i]? = some [.v (.int .u8 n)]:=by
    intro i
    by_cases hi:i<rows.length
    . obtain⟨n,h⟩:=hrow i hi;exact⟨n,λ_=>by rw[X5 hi,h]⟩
    exact⟨0,λh=>absurd h hi⟩
   obtain⟨f,hf'⟩:∃f:Nat->Int,∀i,i<rows.length->rows[i]? = some [.v (.int .u8 (f i))]:=⟨λi=>Classical.choose (hex i),λi=>Y9 (hex i)⟩
   refine⟨_,?_,.v _⟩;rw[key _ _ _ rfl];have hcell : ∀j,j<rows.length->w.cell? (ad.add j)=some (.int .u8 (f j)):=by
    intro j hj;have h4:=hf' j hj;have hsz:size=1:=by rw[<-hs' _ (X6 h4)];rfl
    obtain⟨h5,_⟩:=hcc j 0 _ _ h4 rfl;have h6:=(hr j 0 _ _ h4 rfl).v_inv;rw[hsz,Nat.mul_one,Zy,h6]at h5;exact h5
   have hload:=run_loadCells (P:=P) w ad rows.length (λj=>.int .u8 (f j)) hcell
   rw[run_bytesToString w ad rows.length cap ((List.range rows.length).map f) (by rw[hload,List.map_map];rfl)]
   congr 2
   have xB : ∀(l:List Int)(r:ByteArray),l.foldl (λr n=>r.push (UInt8.ofNat n.toNat)) r=⟨r.data++(l.map λn=>UInt8.ofNat n.toNat).toArray⟩:=by
    intro l
    induction l with
    | nil=>intro r;simp
    | cons n l ih =>
     intro r;rw[Yz,ih]
     congr 1
     apply Zd
     simp[ByteArray.push]
   rw[xB]
   congr 1
   apply Zd
   have he2:ByteArray.empty.data = #[]:=rfl;rw[he2];simp only[Array.toList_append,XZ]
   apply List.ext_getElem?
   intro i
   by_cases hi:i<rows.length
   . have h4:=hf' i hi;have h5:(List.range rows.length)[i]? = some i:=List.getElem?_range hi;simp only[Yj,h4,h5,YK];rfl
   rw[Zm (by simp only[Y8,List.length_range];omega),Zm (by simp only[Y8];omega)]
 exact hc.elim
def WP{g:Mem}{w:World}{xs:List D}{vs:List Value}(hx:aC w g xs vs)(hc:(yC xs).2)(a:Array TypeId)(t:TypeId):∃v,(Builtin.min_ a t vs.toArray).run P w = .ok v w/\ag w g (yC xs).1 v:=by
 unfold yC at hc ⊢
 split at hc
 .
  obtain⟨x,l,rfl,h1,h2⟩:=hx.of_cons;obtain⟨y,l,rfl,h3,h4⟩:=h2.of_cons;rw[h4.of_nil,h1.v_inv,h3.v_inv];subst hc
  rename_i k a b
  refine⟨.int k (min a b),?_,.v _⟩;have e:(if b<a then b else a)=min a b:=by omega
  simp[Builtin.min_,Builtin.min2,e]
 exact hc.elim
def WU{g:Mem}{w:World}{xs:List D}{vs:List Value}(hx:aC w g xs vs)(hc:(yD xs).2)(a:Array TypeId)(t:TypeId):∃v,(Builtin.max_ a t vs.toArray).run P w = .ok v w/\ag w g (yD xs).1 v:=by
 unfold yD at hc ⊢
 split at hc
 .
  obtain⟨x,l,rfl,h1,h2⟩:=hx.of_cons;obtain⟨y,l,rfl,h3,h4⟩:=h2.of_cons;rw[h4.of_nil,h1.v_inv,h3.v_inv];subst hc
  rename_i k a b
  refine⟨.int k (max a b),?_,.v _⟩;have e:(if a<b then b else a)=max a b:=by omega
  simp[Builtin.max_,Builtin.max2,e]
 exact hc.elim
theorem Xn [aa P]{g:Mem}{w:World}{t ty:TypeId}{x:D}{vx:Value}(hx:ag w g x vx)(hc:qL P t x=true):(Builtin.len_ #[t] ty #[vx]).run P w = .ok (.int .i64 (aV x)) w:=by
 unfold qL at hc
 split at hc
 .
  obtain⟨e,he⟩:=Yn.1 hc
  cases hx with
  | empty=>simp[Builtin.len_,run_underlying (l7 he),goInt,aV]
  | list=>simp[Builtin.len_,run_underlying (l7 he),goInt,aV]
 .
  obtain⟨e,he⟩:=Yn.1 hc
  cases hx with|mrow _ _ _ _ eQ hU hv =>
  obtain⟨a,c,rfl,_⟩:=eQ
  simp[Builtin.len_,run_underlying (l7 he),goInt,aV]
 .
  rename_i s
  have hu:P.underlying t=some .string:=by split at hc<;>simp_all
  rw[hx.v_inv]
  simp[Builtin.len_,run_underlying hu,goInt,aV]
 cases hc
def zt(w:World)(g:Mem)(o:Option D)(vo:Option Value):Prop:=match o,vo with|some x,some v=>ag w g x v|none,none=>True|_,_=>False
def uS(vo:Option Value)(d y:Nat)(code:BoundsCode):Sem Nat:=match vo with|some v=>Instr.sliceBound v y code|none=>pure d
def qg [aa P]{o:Option D}{vo:Option Value}{d:Nat}{y:Nat}{w:World}{g:Mem}(hr:zt w g o vo)(hk:xO o=true)(h0:0<=bnd o d)(hle:bnd o d<=y)(code:BoundsCode) :
  (uS vo d y code).run P w = .ok (bnd o d).toNat w:=by
 unfold zt at hr
 split at hr
 .
  rename_i x v
  unfold xO at hk
  split at hk
  . rename_i e;cases e
  .
   rename_i k n e
   cases e
   rw[hr.v_inv];simp only[bnd]at h0 hle ⊢
   simp[uS,Instr.sliceBound,asIntOf,h0,hle]
  cases hk
 . simp[uS,bnd]
 exact hr.elim
theorem El [aa P]{b:Bool}{len cap l h:Nat}{vl vh:Option Value}{w:World}(c1:(uS vh len cap (if b then .sliceAcap else .sliceAlen)).run P w = .ok h w)(c2:(uS vl 0 h .sliceB).run P w = .ok l w) :
  (Instr.sliceBounds b len cap vl vh none).run P w = .ok (l,h,cap) w:=by
 cases vh<;>cases vl<;>simp_all [Instr.sliceBounds,uS]
def Zc9 [aa P]{b:Bool}{len cap l h m:Nat}{vl:Option Value}{vh vm:Value}{w:World}(c0:(Instr.sliceBound vm cap (if b then .slice3Acap else .slice3Alen)).run P w = .ok m w)(c1:(Instr.sliceBound vh m .slice3B).run P w = .ok h w)(c2:(uS vl 0 h .slice3C).run P w = .ok l w) :
  (Instr.sliceBounds b len cap vl (some vh) (some vm)).run P w = .ok (l,h,m) w:=by
 cases vl<;>simp_all [Instr.sliceBounds,uS]
def BU [aa P]{t e:TypeId}(hu:P.underlying t=some (.slice e))(he:0<P.cellsOf e){a:Option Addr}{len cap l h m:Nat}{vl vh vm:Option Value}{w:World}(hb:(Instr.sliceBounds true len cap vl vh vm).run P w = .ok (l,h,m) w) :
  (Instr.sliceAt t (.slice a len cap) vl vh vm).run P w = .ok (.slice (if m=l then a else a.map (·.add (l*P.cellsOf e))) (h-l) (m-l)) w:=by
 simp[Instr.sliceAt,Instr.slice,run_underlying hu,hb,lD he]
theorem Mt{w:World}{g:Mem}{full:Bool}{rows:List (List D)}{ao:Option Addr}{len cap e:Nat}(hx:ag w g (.list full rows) (.slice ao len cap))(he:0<e)(hs : ∀r∈rows,r.length=e)(lo hi m:Nat)(h1:lo<=hi)(h2:hi<=rows.length)(h3:hi<=m)(h4:m<=cap)(f:Bool)(hf:f=true->m=hi) :
  ag w g (.list f ((rows.take hi).drop lo)) (.slice (if m=lo then ao else ao.map (·.add (lo*e))) (hi-lo) (m-lo)):=by
 by_cases hz:(rows.take hi).drop lo=[]
 .
  rw[hz];have hlen:hi-lo=0:=by
   have:=congrArg List.length hz;simp at this;omega
  have hm:cap<=maxLen:=by cases hx<;>assumption
  rw[hlen];exact .empty f _ _ (λh=>by have:=hf h;omega) om
 cases hx with
 | empty=>simp at hz
 | list full rows ad cap size cv hI hl l5 hmx hss hcc hr =>
  have hlt:lo<hi:=by
   rcases Zo lo hi with h|h
   . exact h
   exfalso;apply hz;apply YM;simp;omega
  rw[XW (by omega)]
  have hse:size=e:=by
   have h0:0<rows.length:=by omega
   rw[<-hss rows[0] (by simp),hs rows[0] (by simp)]
  subst hse;have hlen:hi-lo=((rows.take hi).drop lo).length:=by simp;omega
  rw[hlen];have hg : ∀(i:Nat)r,((rows.take hi).drop lo)[i]? = some r->rows[lo+i]? = some r:=by
   intro i r hir;rw[YJ,YX]at hir
   split at hir
   . exact hir
   cases hir
  refine .list f _ _ _ size (λi j=>cv (lo+i) j) (by rw[block_add];exact hI) (by omega) (λh=>by have:=hf h;omega) (by omega) (λr hr=>hs r (List.mem_of_mem_take (List.mem_of_mem_drop hr))) (λi j r d h5 h6=>?_) (λi j r d h5 h6=>hr _ _ _ _ (hg i r h5) h6)
  have:=hcc _ _ _ _ (hg i r h5) h6;rw[add_add'];have e2:lo*size+(i*size+j)=(lo+i)*size+j:=by rw[Za];omega
  rw[e2];exact this
theorem Td [aa P]{h:H}{g:Mem}{w:World}(hm:HM P h g w){t:TypeId}{x:D}{l hh m:Option D}{vx:Value}{vl vh vm:Option Value}(hx:ag w g x vx)(hl:zt w g l vl)(hh':zt w g hh vh)(hmm:zt w g m vm)(hc:(lw P t x l hh m h).2) :
  ∃v,(Instr.sliceAt t vx vl vh vm).run P w = .ok v w/\ag w g (lw P t x l hh m h).1 v:=by
 unfold lw at hc ⊢
 split at hc
 case h_4=>exact hc.elim
 case h_1 s =>
  obtain⟨⟨b1,b2,b3,b4,b5,b6⟩,rfl,hu⟩:=hc;rw[hx.v_inv]
  cases vm with
  | some v=>exact hmm.elim
  | none =>
  simp only[aV]at b4 b5 b6 ⊢;have r2:=qg (P:=P) (d:=s.size) (y:=s.size) hh' b2 (by omega) (by omega) (if false then .sliceAcap else .sliceAlen)
  have r1:=qg (P:=P) (d:=0) (y:=(bnd hh s.size).toNat) hl b1 b4 (by omega) .sliceB
  exact⟨_,by simp[Instr.sliceAt,Instr.slice,run_underlying hu,El r2 r1],.v _⟩
 case h_2 full rows =>
  cases he:aT P t with
  | none=>rw[he]at hc;exact hc.elim
  | some e =>
  rw[he]at hc;simp only at hc ⊢;have hu:=l7 he;simp only[aV]at hc ⊢;have hv : ∃a cap,vx = .slice a rows.length cap/\rows.length<=cap/\cap<=maxLen/\(full=true->cap=rows.length):=by
   cases hx with
   | empty full a cap hf hmx=>exact⟨a,cap,rfl,Yk _,hmx,hf⟩
   | list full rows ad cap size cv hI hll hf hmx hs' hc' hr'=>exact⟨_,cap,rfl,hll,hmx,hf⟩
  obtain⟨a,cap,rfl,v1,v2,v3⟩:=hv
  cases m with
  | none =>
   simp only at hc ⊢;obtain⟨⟨b1,b2,b3,b4,b5,b6⟩,c2,c3⟩:=hc
   cases vm with
   | some v=>exact hmm.elim
   | none =>
   have r2:=qg (P:=P) (d:=rows.length) (y:=cap) hh' b2 (by omega) (by omega) (if true then .sliceAcap else .sliceAlen)
   have r1:=qg (P:=P) (d:=0) (y:=(bnd hh rows.length).toNat) hl b1 b4 (by omega) .sliceB
   refine⟨_,BU hu c2 (El r2 r1),?_⟩;refine Mt hx c2 c3 _ _ cap om om om (X3 _) _ λhf=>?_
   simp only[XT,Yy]at hf;have:=v3 hf.1;omega
  | some dm =>
   simp only at hc ⊢;obtain⟨⟨b1,b2,b3,b4,b5,b6⟩,c0,c1,c2,c3⟩:=hc
   cases vm with
   | none=>exact hmm.elim
   | some vm =>
   obtain⟨dh,rfl⟩:=Yn.1 c0
   cases vh with
   | none=>exact hh'.elim
   | some vh =>
   have r3:=qg (P:=P) (d:=0) (y:=cap) hmm b3 (by omega) (by omega) (if true then .slice3Acap else .slice3Alen)
   have r2:=qg (P:=P) (d:=rows.length) (y:=(bnd (some dm) 0).toNat) hh' b2 (by omega) (by omega) .slice3B
   have r1:=qg (P:=P) (d:=0) (y:=(bnd (some dh) rows.length).toNat) hl b1 b4 (by omega) .slice3C
   refine⟨_,BU hu c2 (Zc9 r3 r2 r1),?_⟩;exact Mt hx c2 c3 _ _ _ om om om om _ λhf=>by omega
 case h_3 r off len =>
  cases he:aT P t with
  | none=>rw[he]at hc;exact hc.elim
  | some e =>
  rw[he]at hc;simp only at hc ⊢;have hu:=l7 he;simp only[aV]at hc ⊢;obtain⟨⟨b1,b2,b3,b4,b5,b6⟩,rfl,c2,c3⟩:=hc
  cases hr:h r with
  | none=>rw[hr]at c3;exact c3.elim
  | some bl =>
  rw[hr]at c3;simp only at c3;subst c3
  cases vm with
  | some v=>exact hmm.elim
  | none =>
  cases hx with|mrow _ _ _ _ eQ hU hv =>
  obtain⟨a,c,rfl,h1,h2⟩:=eQ;have r2:=qg (P:=P) (d:=len) (y:=c) hh' b2 (by omega) (by omega) (if true then .sliceAcap else .sliceAlen)
  have r1:=qg (P:=P) (d:=0) (y:=(bnd hh len).toNat) hl b1 b4 (by omega) .sliceB
  refine⟨_,BU hu c2 (El r2 r1),?_⟩;have e1:(bnd hh len).toNat-(bnd l 0).toNat=(bnd hh len-bnd l 0).toNat:=by omega
  rw[e1];refine .mrow r _ _ _ ⟨_,_,rfl,om,λhlt=>?_⟩ hU λblk c' sz hM=>?_
  .
   obtain⟨p,rfl⟩:=h2 om
   split
   . exact⟨p,rfl⟩
   exact⟨_,rfl⟩
  obtain⟨q1,q2⟩:=hv _ _ _ hM;obtain⟨blk',c'',q5, -⟩:=hm.blk r bl hr;rw[hM]at q5;simp only[XU,Yo]at q5
  rcases q2 with⟨rfl,a',q2⟩|⟨q2,b,rfl,q3⟩
  .
   simp only[Value.slice.injEq]at q2;obtain⟨rfl,rfl,rfl⟩:=q2;have z1:(bnd l 0).toNat=0:=by omega
   have z2:(bnd hh 0-bnd l 0).toNat=0:=by omega
   exact⟨om,.inl ⟨om,_,by rw[z1,z2]⟩⟩
  simp only[Value.slice.injEq]at q3;obtain⟨rfl,_,rfl⟩:=q3;refine⟨om,?_⟩
  by_cases hcl:c'-off=(bnd l 0).toNat
  .
   refine .inl ⟨om,some ⟨b,off*sz,none⟩,?_⟩;rw[X0 hcl];have z2:(bnd hh len-bnd l 0).toNat=0:=by omega
   rw[z2,hcl,Zn]
  refine .inr ⟨om,b,rfl,?_⟩;rw[XW hcl,q5.2.2];simp only[YK,jR,<-Za];rw[Nat.sub_sub]
variable [Dr]
theorem HM.still [aa P]{h:H}{g:Mem}{w:World}(hm:HM P h g w)(o:Obj) :
  HM P h { g with I:=λb=>g.I b\/b=w.heap.size } (w.alloc o)/\ay g { g with I:=λb=>g.I b\/b=w.heap.size } w (w.alloc o):=by
 have mono:ay g { g with I:=λb=>g.I b\/b=w.heap.size } w (w.alloc o) :=
  ⟨rfl,rfl,rfl,by simp,λ_=>X3 _,λ_ h=>h,λ_ _=>.inl rfl,λr b c s h=>.inl ⟨r,c,s,h⟩,λ_ h=>.inl h,λb h=>by rcases h with h|rfl;exact .inl h;exact .inr (.inl (X3 _)),λb hb _=>Below.heap_alloc w o b hb⟩
 refine⟨⟨hm.dead,λr bl hr=>?_,hm.inj,hm.used,λb hb=>?_,hm.gr.later (hm.kept mono)⟩,mono⟩
 .
  obtain⟨blk,c,h1,h2,h3,h4,h5⟩:=hm.blk r bl hr;refine⟨blk,c,h1,h2,h3,h4,?_⟩
  rcases h5 with h5|⟨b,cur,rfl,h6,h7,h8,h9⟩
  . exact .inl h5
  have hlt:=(kH hm h1).1;refine .inr ⟨b,cur,rfl,by rw[Below.heap_alloc w o b hlt];exact h6,h7,λhI=>?_,λi row hi=>?_⟩
  .
   rcases hI with hI|hI
   . exact h8 hI
   omega
  obtain⟨k1,k2⟩:=h9 i row hi;refine⟨k1,λj d hd=>?_⟩
  obtain⟨u,k3,k4,k5⟩:=k2 j d hd;exact⟨u,k3,k4,k5.later hm mono⟩
 rcases hb with hb|rfl
 . have:=hm.imm b hb;simp;omega
 simp
theorem Km{n:Nat}:∀{ps:List (Nat×Operand)}{xs:List D}{i:Nat},si n i ps xs->ps.map (·.1)=List.range' i ps.length/\xs.length=ps.length /\ ∀x∈xs,x.cells.length=n/\x.cells.all D.one=true:=by
 intro ps
 induction ps with
 | nil=>intro xs i h;cases xs<;>simp_all [si]
 | cons p ps ih =>
  intro xs i h
  cases xs with
  | nil=>simp[si]at h
  | cons x xs =>
   obtain⟨h1,h2,h3,h4⟩:=h;obtain⟨k1,k2,k3⟩:=ih h4;refine⟨by simp[h1,k1,Ze],by simp[k2],λy hy=>?_⟩
   rcases Yv.1 hy with rfl|hy
   . exact⟨h2,h3⟩
   exact k3 y hy
theorem Zc3 [aa P]{h:H}{g:Mem}{w:World}(hm:HM P h g w){t:TypeId}{len:Nat}{ps:Array (Nat×Operand)}{xs:List D}{vs:List Value}(hr:aC w g xs vs)(hc:(uf P t len ps.toList xs).2)(ρ:Operand->Value)(hρ:ps.toList.map (λp=>ρ p.2)=vs) :
  ∃v g' w',(Instr.buildSlice t len (ps.map λ(i,x)=>(i,ρ x))).run P w = .ok v w'/\ag w' g' (uf P t len ps.toList xs).1 v/\HM P h g' w'/\ay g g' w w' /\ ∀r,g'.U r->g.U r:=by
 unfold uf at hc ⊢
 cases he:aT P t with
 | none=>rw[he]at hc;exact hc.elim
 | some e =>
 rw[he]at hc
 simp only at hc ⊢
 have hu:=l7 he
 obtain⟨c1,c2,c3,c4,c5⟩:=hc
 obtain⟨ie,hie,hs⟩:=vg c3
 obtain⟨k1,k2,k3⟩:=Km c2
 have hvl:vs.length=len:=by rw[<-hr.1,k2,c1]
 have hparts:(ps.map λ(i,x)=>(i,ρ x)).toList=(vs.zipIdx 0).map λx=>(x.2,x.1):=by
  apply List.ext_getElem?
  intro i;simp only[Array.toList_map,Yj,List.getElem?_zipIdx,<-hρ]
  cases hp:ps.toList[i]? with
  | none=>simp
  | some p =>
   have:(ps.toList.map (·.1))[i]? = some p.1:=by simp only[Yj,hp,YK]
   rw[k1]at this;have hil:i<ps.toList.length:=(XY.1 hp).1;rw[List.getElem?_range' (by omega)]at this
   simp at this
   simp[this]
 obtain⟨z,hz⟩:∃z,ie.zero=some z:=by
  unfold cB at c5
  cases hz:ie.zero with
  | none=>simp[hie,hz]at c5
  | some z=>exact⟨z,rfl⟩
 obtain⟨hm',mono⟩:=hm.still (.cells #[] e)
 by_cases h0:len=0
 .
  subst h0;have hx0:xs=[]:=Ye om;subst hx0;have hp0:ps = #[]:=by
   have:ps.toList=[]:=Ye c1
   simpa using this
  subst hp0;refine⟨.slice (some ⟨w.heap.size,0,none⟩) 0 0,_,_,?_,.empty true _ 0 (λ_=>rfl) (by simp[maxLen]),hm',mono,λ_ h=>h⟩
  have e0:(Array.range 0).map (λ_=>(default:Value)) = #[]:=by apply Zd;simp
  simp[Instr.buildSlice,run_underlying hu,lD c3,Instr.fill,newRow,e0]
 obtain⟨r,f1,f2,f3⟩:=Go.Great.fill_dense (s:=ie.size) om vs 0 ((Array.range (len*ie.size)).map (z.cells[· % z.cells.size]!)) (λv hv=>by
  obtain⟨i,hi,rfl⟩:=YZ hv;have hxi:i<xs.length:=by omega
  obtain⟨q1,q2⟩:=k3 xs[i] (Yq hxi);rw[((hr.2 i xs[i] vs[i] (by simp) (by simp)).cells q2).2.2,q1,hs]) (by simp[hvl])
 have hrun:=run_buildSlice (P:=P) w t e len (ps.map λ(i,x)=>(i,ρ x)) r ie z hu hie hz (by rw[hs];omega) (by rw[hs];exact Nat.mul_ne_zero h0 (by omega)) (by rw[hparts];exact f1)
 obtain⟨hm',mono⟩:=hm.still (.cells r e)
 have hlen:len=(xs.map D.cells).length:=by simp;omega
 refine⟨_,_,_,hrun,?_,hm',mono,λ_ h=>h⟩
 have key : ∀(i j:Nat)row d,(xs.map D.cells)[i]? = some row->row[j]? = some d -> ∃u,r[i*P.cellsOf e+j]? = some u/\u.oneCell'=true/\ag w g d u:=by
  intro i j row d hi hj;rw[Yj]at hi
  cases hxi:xs[i]? with
  | none=>rw[hxi]at hi;cases hi
  | some x =>
   rw[hxi]at hi;simp only[YK,XU]at hi;subst hi;have hil:i<xs.length:=(XY.1 hxi).1;have AJ:i<vs.length:=by omega
   obtain⟨q1,q2⟩:=k3 x (X6 hxi);obtain⟨q3,q4,q5⟩:=(hr.2 i x vs[i] hxi (by simp)).cells q2
   have hjl:j<P.cellsOf e:=by have:=(XY.1 hj).1;omega
   have hjv:j<vs[i].cells.toList.length:=by simp;omega
   refine⟨vs[i].cells.toList[j],?_,q4 _ (Yq hjv),q3.2 j d _ hj (by simp)⟩
   rw[f3,X0 ⟨om,by rw[Nat.zero_add,hs];exact yM AJ hjl⟩,hs]
   have e1:(i*P.cellsOf e+j) / P.cellsOf e=i:=by rw[Zt,Nat.mul_add_div c3,Nat.div_eq_of_lt hjl];rfl
   have e2:(i*P.cellsOf e+j) % P.cellsOf e=j:=by rw[Zt,ZP,Zx hjl]
   rw[e1,e2,Nat.sub_zero,X5 AJ]
   simp
 have hex : ∀i j,∃u,∀row d,(xs.map D.cells)[i]? = some row->row[j]? = some d->r[i*P.cellsOf e+j]? = some u/\u.oneCell'=true/\ag w g d u:=by
  intro i j
  by_cases hh : ∃row d,(xs.map D.cells)[i]? = some row/\row[j]? = some d
  .
   obtain⟨row,d,h1,h2⟩:=hh;obtain⟨u,h3,h4,h5⟩:=key i j row d h1 h2;refine⟨u,λrow' d' h1' h2'=>?_⟩
   rw[h1]at h1';cases h1'
   rw[h2]at h2';cases h2'
   exact⟨h3,h4,h5⟩
  exact⟨undef,λrow d h1 h2=>absurd ⟨row,d,h1,h2⟩ hh⟩
 generalize hf:(λi j=>Classical.choose (hex i j))=cf
 have hcf : ∀i j row d,(xs.map D.cells)[i]? = some row->row[j]? = some d->r[i*P.cellsOf e+j]? = some (cf i j)/\(cf i j).oneCell'=true/\ag w g d (cf i j):=by
  intro i j;rw[<-hf];exact Y9 (hex i j)
 rw[hlen]
 refine .list true _ ⟨w.heap.size,0,none⟩ _ (P.cellsOf e) cf (.inr rfl) (X3 _) (λ_=>rfl) ?_ (λrow hrow=>?_) (λi j row d h1 h2=>?_) (λi j row d h1 h2=>?_)
 . rw[<-hlen];simp only[maxLen];have:len<=len*P.cellsOf e:=Nat.le_mul_of_pos_right _ c3;omega
 . simp only[Yh]at hrow;obtain⟨x,hx,rfl⟩:=hrow;exact(k3 x hx).1
 . obtain⟨h3,h4,_⟩:=hcf i j row d h1 h2;refine⟨?_,h4⟩;rw[jR,Nat.zero_add,cell_of_row _ _ _ r e (0,0) (heap_alloc_new w _)];exact h3
 exact(hcf i j row d h1 h2).2.2.later hm mono
theorem Zc5 [aa P]{h:H}{g:Mem}{w:World}(hm:HM P h g w){b:Nat}(hb : ¬g.U b){t:TypeId}{len:Nat}{ps:Array (Nat×Operand)}{xs:List D}{vs:List Value}(hr:aC w g xs vs)(hc:(kC P t len ps.toList xs h b).2.2)(ρ:Operand->Value)(hρ:ps.toList.map (λp=>ρ p.2)=vs) :
  ∃v g' w',(Instr.buildSlice t len (ps.map λ(i,x)=>(i,ρ x))).run P w = .ok v w'/\ag w' g' (kC P t len ps.toList xs h b).1 v/\HM P (kC P t len ps.toList xs h b).2.1 g' w'/\ay g g' w w' /\ ∀r,g'.U r->g.U r\/r=b:=by
 unfold kC at hc ⊢
 cases he:aT P t with
 | none=>rw[he]at hc;exact hc.elim
 | some e =>
 rw[he]at hc
 simp only at hc ⊢
 have hu:=l7 he
 obtain⟨c0,c1,c2,c3,c4,c5⟩:=hc
 have h0 : ¬len=0:=by omega
 obtain⟨ie,hie,hs⟩:=vg c3
 obtain⟨k1,k2,k3⟩:=Km c2
 have hvl:vs.length=len:=by rw[<-hr.1,k2,c1]
 have hparts:(ps.map λ(i,x)=>(i,ρ x)).toList=(vs.zipIdx 0).map λx=>(x.2,x.1):=by
  apply List.ext_getElem?
  intro i;simp only[Array.toList_map,Yj,List.getElem?_zipIdx,<-hρ]
  cases hp:ps.toList[i]? with
  | none=>simp
  | some p =>
   have:(ps.toList.map (·.1))[i]? = some p.1:=by simp only[Yj,hp,YK]
   rw[k1]at this;have hil:i<ps.toList.length:=(XY.1 hp).1;rw[List.getElem?_range' (by omega)]at this
   simp at this
   simp[this]
 obtain⟨z,hz⟩:∃z,ie.zero=some z:=by
  unfold cB at c5
  cases hz:ie.zero with
  | none=>simp[hie,hz]at c5
  | some z=>exact⟨z,rfl⟩
 obtain⟨r,f1,f2,f3⟩:=Go.Great.fill_dense (s:=ie.size) om vs 0 ((Array.range (len*ie.size)).map (z.cells[· % z.cells.size]!)) (λv hv=>by
  obtain⟨i,hi,rfl⟩:=YZ hv;have hxi:i<xs.length:=by omega
  obtain⟨q1,q2⟩:=k3 xs[i] (Yq hxi);rw[((hr.2 i xs[i] vs[i] (by simp) (by simp)).cells q2).2.2,q1,hs]) (by simp[hvl])
 have hrun:=run_buildSlice (P:=P) w t e len (ps.map λ(i,x)=>(i,ρ x)) r ie z hu hie hz (by rw[hs];omega) (by rw[hs];exact Nat.mul_ne_zero h0 (by omega)) (by rw[hparts];exact f1)
 have key : ∀(i j:Nat)row d,(xs.map D.cells)[i]? = some row->row[j]? = some d -> ∃u,r[i*P.cellsOf e+j]? = some u/\u.oneCell'=true/\ag w g d u:=by
  intro i j row d hi hj;rw[Yj]at hi
  cases hxi:xs[i]? with
  | none=>rw[hxi]at hi;cases hi
  | some x =>
   rw[hxi]at hi;simp only[YK,XU]at hi;subst hi;have hil:i<xs.length:=(XY.1 hxi).1;have AJ:i<vs.length:=by omega
   obtain⟨q1,q2⟩:=k3 x (X6 hxi);obtain⟨q3,q4,q5⟩:=(hr.2 i x vs[i] hxi (by simp)).cells q2
   have hjl:j<P.cellsOf e:=by have:=(XY.1 hj).1;omega
   have hjv:j<vs[i].cells.toList.length:=by simp;omega
   refine⟨vs[i].cells.toList[j],?_,q4 _ (Yq hjv),q3.2 j d _ hj (by simp)⟩
   rw[f3,X0 ⟨om,by rw[Nat.zero_add,hs];exact yM AJ hjl⟩,hs]
   have e1:(i*P.cellsOf e+j) / P.cellsOf e=i:=by rw[Zt,Nat.mul_add_div c3,Nat.div_eq_of_lt hjl];rfl
   have e2:(i*P.cellsOf e+j) % P.cellsOf e=j:=by rw[Zt,ZP,Zx hjl]
   rw[e1,e2,Nat.sub_zero,X5 AJ]
   simp
 have hlen:len=(xs.map D.cells).length:=by simp;omega
 have hmx:len<=maxLen:=by
  simp only[maxLen];have:len<=len*P.cellsOf e:=Nat.le_mul_of_pos_right _ c3;omega
 obtain⟨g',h2,h3,h4,h5,h6⟩:=hm.put (h':=upd h b (some ⟨e,xs.map D.cells⟩)) (w':=w.alloc (.cells r e)) b w.heap.size len ⟨e,xs.map D.cells⟩ r (.inl hb) (bu _ _ _)
  (λr hr=>.inl (aI _ _ _ _ hr)) (.inl (X3 _)) (heap_alloc_new w _) (by simp only[<-hs];simpa using f2) c3 (by simp only;omega) hmx (λi row hi=>by
   have hi':=hi;simp only[Yj]at hi'
   cases hxi:xs[i]? with
   | none=>rw[hxi]at hi';cases hi'
   | some x =>
    rw[hxi]at hi';simp only[YK,XU]at hi';subst hi';exact⟨(k3 x (X6 hxi)).1,λj d hj=>key i j _ d hi hj⟩) (World.grownBy_alloc w _ _)
 refine⟨_,g',_,hrun,?_,h5,h6,λr hr=>(h3 r).1 hr⟩
 refine .mrow b 0 len _ ⟨some ⟨w.heap.size,0,none⟩,len,rfl,X3 _,λ_=>⟨_,rfl⟩⟩ ((h3 b).2 (.inr rfl)) λblk c sz he=>?_
 rw[h2]at he
 simp only[XU,Yo]at he
 obtain⟨rfl,rfl,rfl⟩:=he
 exact⟨om,.inr ⟨om,w.heap.size,rfl,by simp⟩⟩
def partAt(P:Program)[aa P](s:TypeId)(f:Nat):Option (Nat×Nat):=match bA P s f with
 | some (off,t)=>some (off,P.cellsOf t)
 | none=>match kF P s with
  | some (_,e)=>some (f*P.cellsOf e,P.cellsOf e)
  | none=>none
theorem ZaX [aa P]{s:TypeId}{f:Nat}{o:Operand}{ps:List (Nat×Operand)}{x:D}{xs cs:List D}:tK P s ((f,o)::ps) (x::xs) cs=match partAt P s f with
  | some (off,_)=>tK P s ps xs (splice cs off x.cells)
  | none=>cs:=by
 conv=>lhs;unfold tK
 unfold partAt
 cases bA P s f with
 | some q=>rfl
 | none=>cases kF P s<;>rfl
theorem ZaW [aa P]{s:TypeId}{n f:Nat}{o:Operand}{ps:List (Nat×Operand)}{x:D}{xs:List D}(h:qX P s n ((f,o)::ps) (x::xs)):(∃off m,partAt P s f=some (off,m)/\x.cells.length=m/\off+x.cells.length<=n)/\x.cells.all D.one=true/\qX P s n ps xs:=by
 unfold qX at h
 obtain⟨h1,h2,h3⟩:=h
 refine⟨?_,h2,h3⟩
 unfold partAt
 cases hf:bA P s f with
 | some q=>rw[hf]at h1;exact⟨_,_,rfl,h1.1,h1.2⟩
 | none =>
  rw[hf]at h1
  cases ha:kF P s with
  | some q=>rw[ha]at h1;exact⟨_,_,rfl,h1.1,h1.2⟩
  | none=>rw[ha]at h1;exact h1.elim
theorem Ou [aa P]{s:TypeId}{pl:Nat->Option (Nat×Nat)}(hpl : ∀f q,partAt P s f=some q->pl f=some q){w:World}{g:Mem}:∀(ps:List (Nat×Operand))(xs:List D)(vs:List Value)(cs:List D)(cells:Array Value)(ρ:Operand->Value),aC w g xs vs->ps.map (λp=>ρ p.2)=vs->aC w g cs cells.toList ->
  qX P s cs.length ps xs -> ∃r,Instr.fill pl cells (ps.map λ(i,x)=>(i,ρ x))=some r/\aC w g (tK P s ps xs cs) r.toList:=by
 intro ps
 induction ps with
 | nil=>intro xs vs cs cells ρ hx hρ hc hok;exact⟨cells,by simp[Instr.fill],by simpa[tK]using hc⟩
 | cons p ps ih =>
  intro xs vs cs cells ρ hx hρ hc hok;obtain⟨f,o⟩:=p;simp only[X8]at hρ;subst hρ
  cases xs with
  | nil=>simp[qX]at hok
  | cons x xs =>
   obtain⟨⟨off,m,hf,h4,h5⟩,h2,h3⟩:=ZaW hok;obtain⟨q1,q2,q3⟩:=hx.head.cells h2;have hfp:=hpl _ _ hf;have hcl:cs.length=cells.size:=by simpa using hc.1
   obtain⟨g1,g2⟩:=Go.Great.foldl_set off (ρ o).cells.toList 0 cells;generalize hnew:((ρ o).cells.toList.zipIdx 0).foldl (λcs(x:Value×Nat)=>cs.setIfInBounds (off+x.2) x.1) cells=new at g1 g2
   have hnl:new.toList=cells.toList.take off++(ρ o).cells.toList++cells.toList.drop (off+(ρ o).cells.toList.length):=by
    apply List.ext_getElem?
    intro k;rw[YH,g2];simp only[Zy,YS,Array.length_toList,q3];have l1:(cells.toList.take off).length=off:=by simp;omega
    have l2:(ρ o).cells.toList.length=x.cells.length:=by simp[q3]
    by_cases hk:k<off
    . rw[XW (by omega),Y5 (by omega),YX,X0 hk];simp
    rw[YR (by omega),l1]
    by_cases hk2:k<off+x.cells.length
    . rw[X0 (by omega),Y5 (by omega)]
    rw[XW (by omega),YR (by omega),YJ,YH,l2]
    congr 1;omega
   obtain⟨r,k1,k2⟩:=ih xs (ps.map λp=>ρ p.2) (splice cs off x.cells) new ρ hx.tail rfl (by rw[hnl];exact SA hc q1 off) (by rw[EX _ _ _ h5];exact h3)
   refine⟨r,?_,by rw[ZaX,hf];exact k2⟩
   simp only[X8];unfold Instr.fill;simp only[hfp];rw[XW (by simp;omega),<-k1]
   congr 1
   rw[<-hnew,<-Array.foldl_toList,Array.toList_zipIdx]
theorem Zc2 [aa P]{w:World}{g:Mem}{t:TypeId}{ps:Array (Nat×Operand)}{xs:List D}{vs:List Value}(hr:aC w g xs vs)(hc:(xN P t ps.toList xs).2)(ρ:Operand->Value)(hρ:ps.toList.map (λp=>ρ p.2)=vs) :
  ∃v,(Instr.build t (ps.map λ(i,x)=>(i,ρ x))).run P w = .ok v w/\ag w g (xN P t ps.toList xs).1 v:=by
 obtain⟨c1,c2,c3,c4⟩:=hc
 unfold mr at c4
 obtain⟨i,z,hi,hz⟩:=EC c3
 obtain⟨z1,_,_⟩:=Bw hi hz w g c2
 split at c4
 case h_3=>cases c4
 case h_1 =>
  rename_i fs hfs
  obtain⟨r,f1,f2⟩:=Ou (pl:=λx=>(fs.toList.map λf=>(f.offset,P.cellsOf f.type)).toArray[x]?) (λf q hq=>by
   unfold partAt at hq;have ha:kF P t=none:=by unfold kF;rw[hfs]
   unfold bA at hq;rw[hfs,ha]at hq;simp only at hq
   cases l5:fs[f]? with
   | none=>rw[l5]at hq;cases hq
   | some fd=>rw[l5]at hq;simp only[YK,XU]at hq;rw[<-hq];simp[l5]) ps.toList xs vs (zeroCells P t) z.cells ρ hr hρ z1 c1
  refine⟨.agg r,run_build (P:=P) w t _ r ?_,.mk_agg f2⟩;unfold Program.built;have hp:fs.toList.mapM (λf=>(P.info? f.type).map λi=>(f.offset,i.size))=some (fs.toList.map λf=>(f.offset,P.cellsOf f.type)):=by
   have : ∀l:List Field,(l.all λf=>(P.info? f.type).isSome)=true->l.mapM (λf=>(P.info? f.type).map λi=>(f.offset,i.size))=some (l.map λf=>(f.offset,P.cellsOf f.type)):=by
    intro l
    induction l with
    | nil=>intro _;rfl
    | cons a l ih =>
     intro h;simp only[List.all_cons,XT]at h;obtain⟨ia,hia⟩:=Yn.1 h.1
     simp[List.mapM_cons,hia,ih h.2,Program.cellsOf]
   exact this _ c4
  simp only[hi,hfs,hz,hp];rw[<-f1]
  simp
 case h_2 =>
  rename_i m e hfs
  obtain⟨ie,hie⟩:=Yn.1 c4;have hce:P.cellsOf e=ie.size:=by simp[Program.cellsOf,hie]
  obtain⟨r,f1,f2⟩:=Ou (pl:=λi=>some (i*ie.size,ie.size)) (λf q hq=>by
   unfold partAt at hq;have ha:kF P t=some (m,e):=by unfold kF;rw[hfs]
   unfold bA at hq;rw[hfs,ha]at hq;simp only[XU]at hq;rw[<-hq,hce]) ps.toList xs vs (zeroCells P t) z.cells ρ hr hρ z1 c1
  refine⟨.agg r,run_build (P:=P) w t _ r ?_,.mk_agg f2⟩;unfold Program.built;simp only[hi,hfs,hz,hie];rw[<-f1]
  simp
open Go.MapKept
theorem xc(e:MapEntry)(l:List MapEntry):(e::l).flatMap (λe=>[e.key,e.val])=e.key::e.val::l.flatMap λe=>[e.key,e.val]:=rfl
theorem Gq : ∀(l:List MapEntry)(j:Nat)(e:MapEntry),l[j]? = some e->(l.flatMap λe=>[e.key,e.val])[2*j]? = some e.key/\(l.flatMap λe=>[e.key,e.val])[2*j+1]? = some e.val
 | [],j,e,h=>by simp at h
 | e0::l,j,e,h=>by
  rw[xc]
  cases j with
  | zero=>simp at h;subst h;exact⟨rfl,rfl⟩
  | succ j =>
   have:=Gq l j e (by simpa using h)
   have e1:2*(j+1)=2*j+1+1:=by omega
   rw[e1]
   simpa using this
theorem MN(f:MapEntry->MapEntry):∀(l:List MapEntry)(j:Nat)(e:MapEntry),l[j]? = some e->((l.modify j f).flatMap λe=>[e.key,e.val])=((l.flatMap λe=>[e.key,e.val]).set (2*j) (f e).key).set (2*j+1) (f e).val
 | [],j,e,h=>by simp at h
 | e0::l,j,e,h=>by
  cases j with
  | zero=>simp at h;subst h;simp
  | succ j =>
   have:=MN f l j e (by simpa using h)
   have e1:2*(j+1)=2*j+1+1:=by omega
   rw[e1,List.modify_succ_cons,xc,xc,this]
   simp
theorem Ae{t kt e:TypeId}(h:j4 P t=some (kt,e)):P.underlying t=some (.map kt e):=by
 unfold j4 at h
 split at h
 . rename_i k e' hu;simp at h;rw[hu,h.1,h.2]
 cases h
def nJ{t:TypeId}{d:D}(h:plainOf P t d=true):(∃k n,P.underlying t=some (.int k)/\d = .v (.int k n))\/(∃b,P.underlying t=some .bool/\d = .v (.bool b)) \/ ∃s,P.underlying t=some .string/\d = .v (.string s):=by
 unfold plainOf at h
 split at h
 . rename_i hu;exact .inr (.inr ⟨_,hu,rfl⟩)
 . rename_i hu;simp at h;subst h;exact .inl ⟨_,_,hu,rfl⟩
 . rename_i hu;exact .inr (.inl ⟨_,hu,rfl⟩)
 cases h
theorem Qq{a b:ByteArray}(h:a.data.toList=b.data.toList):a=b:=by
 cases a;cases b
 simp at h
 rw[h]
theorem OE{t:TypeId}{a b:D}(ha:plainOf P t a=true)(hb:plainOf P t b=true)(h:kw a b=true):a=b:=by
 rcases nJ ha with⟨k,n,u1,rfl⟩|⟨x,u1,rfl⟩|⟨x,u1,rfl⟩<;>rcases nJ hb with⟨k',n',u2,rfl⟩|⟨x',u2,rfl⟩|⟨x',u2,rfl⟩<;>rw[u1]at u2<;>simp at u2
 . subst u2;simp[kw]at h;rw[h]
 . simp[kw]at h;rw[h]
 simp only[kw,Yy]at h;rw[Qq h]
def VM [aa P]{t:TypeId}{k:Kd}{a b:D}(hk:kindOf P t=some k)(ha:plainOf P t a=true)(hb:plainOf P t b=true):wL k a b=true:=by
 rcases nJ ha with⟨k1,n,u1,rfl⟩|⟨x,u1,rfl⟩|⟨x,u1,rfl⟩<;>rcases nJ hb with⟨k2,n',u2,rfl⟩|⟨x',u2,rfl⟩|⟨x',u2,rfl⟩<;>rw[u1]at u2<;>simp at u2<;>simp[kindOf,u1]at hk<;>subst hk
 . subst u2;simp[wL]
 . rfl
 rfl
theorem OC [aa P]:∀(fs:List Field)(i:Nat)(ks:List Kd)(xs ys:List D),vF P i fs=some ks->iH P i fs xs=true->iH P i fs ys=true->l6 ks xs ys=true/\(ku xs ys=true->xs=ys):=by
 intro fs
 induction fs with
 | nil =>
  intro i ks xs ys hk hx hy
  cases xs<;>cases ys<;>simp[iH]at hx hy
  simp[vF]at hk
  subst hk;exact⟨rfl,λ_=>rfl⟩
 | cons f fs ih =>
  intro i ks xs ys hk hx hy
  cases xs with
  | nil=>simp[iH]at hx
  | cons x xs =>
  cases ys with
  | nil=>simp[iH]at hy
  | cons y ys =>
  simp only[iH,XT]at hx hy;simp only[vF]at hk
  split at hk
  case isFalse=>cases hk
  split at hk
  case h_2=>cases hk
  rename_i k ks' h1 h2
  simp only[XU]at hk;subst hk;obtain⟨i1,i2⟩:=ih (i+1) ks' xs ys h2 hx.2 hy.2;refine⟨by simp only[l6,XT];exact⟨VM h1 hx.1.2 hy.1.2,i1⟩,λh=>?_⟩
  simp only[ku,XT]at h;rw[OE hx.1.2 hy.1.2 h.1,i2 h.2]
def sK{t:TypeId}{d:D}(h:iM P t d=true):(∃fs cs,P.underlying t=some (.struct fs)/\d = .agg cs/\iH P 0 fs.toList cs=true)\/plainOf P t d=true:=by
 unfold iM at h
 split at h
 . rename_i hu;exact .inl ⟨_,_,hu,rfl,h⟩
 exact .inr h
theorem Cq{t:TypeId}{d:D}{fs:Array Field}(hu:P.underlying t=some (.struct fs)):plainOf P t d=false:=by
 unfold plainOf;rw[hu]
def MR{t:TypeId}[aa P]{a b:D}(hty:lV P t=true)(ha:iM P t a=true)(hb:iM P t b=true)(h:jg a b=true):a=b:=by
 rcases sK ha with⟨fs,xs,u1,rfl,p1⟩|p1
 .
  rcases sK hb with⟨fs',ys,u2,rfl,p2⟩|p2
  .
   rw[u1]at u2
   simp at u2
   subst u2;simp only[lV,u1]at hty;obtain⟨ks,hks⟩:=Yn.1 hty;unfold qb at hks;rw[u1]at hks;simp only at hks
   split at hks
   case isFalse=>cases hks
   rw[(OC fs.toList 0 ks xs ys hks p1 p2).2 h]
  rw[Cq u1]at p2;cases p2
 rcases sK hb with⟨fs',ys,u2,rfl,p2⟩|p2
 . rw[Cq u2]at p1;cases p1
 refine OE p1 p2 ?_
 rcases nJ p1 with⟨k,n,_,rfl⟩|⟨x,_,rfl⟩|⟨x,_,rfl⟩<;>rcases nJ p2 with⟨k',n',_,rfl⟩|⟨x',_,rfl⟩|⟨x',_,rfl⟩<;>exact h
def Cg{t:TypeId}{w:World}{g:Mem}{d:D}{v:Value}(h:plainOf P t d=true)(hr:ag w g d v):d = .v v:=by
 rcases nJ h with⟨k,n,_,rfl⟩|⟨x,_,rfl⟩|⟨x,_,rfl⟩<;>rw[hr.v_inv]
theorem Ky : ∀{fs:List Field}{i:Nat}{ds:List D}{w w':World}{g g':Mem}{vs us:List Value},iH P i fs ds=true->aC w g ds vs->aC w' g' ds us->vs=us
 | fs,i,[],w,w',g,g',vs,us,_,h1,h2=>by rw[h1.of_nil,h2.of_nil]
 | [],i,d::ds,_,_,_,_,_,_,h,_,_=>by simp[iH]at h
 | f::fs,i,d::ds,w,w',g,g',vs,us,h,h1,h2=>by
  obtain⟨x,xs,rfl,a1,a2⟩:=h1.of_cons;obtain⟨y,ys,rfl,b1,b2⟩:=h2.of_cons;simp only[iH,XT]at h;have e1:=Cg h.1.2 a1;have e2:=Cg h.1.2 b1;rw[e1]at e2
  cases e2
  rw[Ky h.2 a2 b2]
def MQ{t:TypeId}{w w':World}{g g':Mem}{d:D}{v u:Value}(h:iM P t d=true)(hv:ag w g d v)(hu:ag w' g' d u):v=u:=by
 rcases sK h with⟨fs,xs,_,rfl,p⟩|p
 .
  cases hv with|agg _ vs n1 r1 =>
  cases hu with|agg _ us n2 r2 =>
  have:=Ky p (vs:=vs.toList) (us:=us.toList) ⟨by simpa using n1,λi d x h1 h2=>r1 i d x h1 (by simpa using h2)⟩ ⟨by simpa using n2,λi d x h1 h2=>r2 i d x h1 (by simpa using h2)⟩
  rw[Array.toList_inj.1 this]
 have e1:=Cg p hv
 have e2:=Cg p hu
 rw[e1]at e2
 cases e2
 rfl
def KR{t:TypeId}{w:World}{g:Mem}{d:D}{v:Value}(h:plainOf P t d=true)(hr:ag w g d v)(n:Nat):Instr.sameBits n v v=true:=by
 rcases nJ h with⟨k,m,_,rfl⟩|⟨x,_,rfl⟩|⟨x,_,rfl⟩<;>rw[hr.v_inv]<;>simp[Instr.sameBits,bytes_beq]
theorem XI{t:TypeId}{w:World}{g:Mem}{d:D}{v:Value}(h:iM P t d=true)(hr:ag w g d v)(n:Nat):Instr.sameBits (n+1) v v=true:=by
 rcases sK h with⟨fs,xs,_,rfl,p⟩|p
 .
  cases hr with|agg _ vs n1 r1 =>
  have key : ∀(fs:List Field)(i:Nat)(ds:List D)(vs:List Value),iH P i fs ds=true->aC w g ds vs -> ∀q∈vs.zip vs,Instr.sameBits n q.1 q.2=true:=by
   intro fs
   induction fs with
   | nil=>intro i ds vs h hr q hq;cases ds with
    | nil=>rw[hr.of_nil]at hq;simp at hq
    | cons=>simp[iH]at h
   | cons f fs ih =>
    intro i ds vs h hr q hq
    cases ds with
    | nil=>simp[iH]at h
    | cons d ds =>
    obtain⟨x,xs,rfl,a1,a2⟩:=hr.of_cons;simp only[iH,XT]at h
    rcases Yv.1 hq with rfl|hq
    . exact KR h.1.2 a1 n
    exact ih (i+1) ds xs h.2 a2 q hq
  have:=key fs.toList 0 xs vs.toList p ⟨by simpa using n1,λi d x h1 h2=>r1 i d x h1 (by simpa using h2)⟩
  simp only[Instr.sameBits,beq_self_eq_true,Zj,Yf];exact λq hq=>this q hq
 exact KR p hr _
def Qj{t:TypeId}{w:World}{g:Mem}{d:D}{v:Value}(h:plainOf P t d=true)(hr:ag w g d v)(em:Bool)(n:Nat):(Instr.checkKey em (n+1) t v).run P w = .ok () w:=by
 rcases nJ h with⟨k,m,u,rfl⟩|⟨x,u,rfl⟩|⟨x,u,rfl⟩<;>rw[hr.v_inv]<;>simp[Instr.checkKey,run_underlying u]
def VY{t:TypeId}{w:World}{d:D}(h:plainOf P t d=true){vs:Array Value}{v:Value}{i:Nat}(hv:vs[i]? = some v):(part t vs i).run P w = .ok v w:=by
 have hu : ∃q,P.underlying t=some q/\(q = .bool\/q = .string \/ ∃k,q = .int k):=by
  rcases nJ h with⟨k,m,u,rfl⟩|⟨x,u,rfl⟩|⟨x,u,rfl⟩
  . exact⟨_,u,.inr (.inr ⟨_,rfl⟩)⟩
  . exact⟨_,u,.inl rfl⟩
  exact⟨_,u,.inr (.inl rfl)⟩
 obtain⟨q,u,hq⟩:=hu
 have hagg:(isAgg t).run P w = .ok false w:=by
  unfold isAgg;rw[Sem.run_bind,run_underlying u w]
  rcases hq with rfl|rfl|⟨k,rfl⟩<;>simp
 have hlt:=(X9.1 hv).1
 have e:=(X9.1 hv).2
 unfold part
 simp[hagg,hlt,e]
theorem Qk{t:TypeId}{w:World}{g:Mem}{d:D}{v:Value}(h:iM P t d=true)(hr:ag w g d v)(em:Bool)(n:Nat):(Instr.checkKey em (n+2) t v).run P w = .ok () w:=by
 rcases sK h with⟨fs,xs,u,rfl,p⟩|p
 .
  cases hr with|agg _ vs n1 r1 =>
  rw[Instr.checkKey];simp only[Sem.run_bind,run_underlying u,Result.andThen_ok];rw[<-Array.forIn_toList];have key : ∀(L:List Field)(i:Nat)(ds:List D),iH P i L ds=true->(∀(j:Nat)d,ds[j]? = some d -> ∃v,vs[i+j]? = some v/\ag w g d v) ->
    (forIn L PUnit.unit λf _=>do
     if f.name ≠ "_" then
      let q <-part f.type vs f.offset
      Instr.checkKey em (n+1) f.type q
      pure (ForInStep.yield PUnit.unit)
     else pure (ForInStep.yield PUnit.unit):Sem PUnit).run P w = .ok PUnit.unit w:=by
   intro L
   induction L with
   | nil=>intro i ds _ _;simp
   | cons f L ih =>
    intro i ds h hd
    cases ds with
    | nil=>simp[iH]at h
    | cons d ds =>
    simp only[iH,XT,ZF,Yy]at h;obtain⟨⟨⟨h1,h2⟩,h3⟩,h4⟩:=h;obtain⟨v,hv,hr⟩:=hd 0 d rfl;have p1:=VY (w:=w) h3 (by simpa using hv)
    have p2:=Qj h3 hr em n;rw[<-h2]at p1;simp only[List.forIn_cons,Sem.run_bind,h1,ne_eq,not_false_eq_true,Zr,Result.andThen_ok,p1,p2,Sem.run_pure];exact ih (i+1) ds h4 λj d hj=>by
     obtain⟨v,hv⟩:=hd (j+1) d (by simpa using hj)
     exact⟨v,by rw[Nat.add_assoc,Nat.add_comm 1 j];exact hv.1,hv.2⟩
  have:=key fs.toList 0 xs p λj d hj=>by
   have hlt:j<xs.length:=(XY.1 hj).1;have hlt':j<vs.size:=by omega
   exact⟨vs[j],by simp[hlt'],r1 j d _ hj (by simp[hlt'])⟩
  simp at this ⊢
  rw[this];rfl
 exact Qj p hr em _
def Za6 [aa P]{t:TypeId}{w:World}{g:Mem}{a b:D}{va vb:Value}(hty:lV P t=true)(ha:iM P t a=true)(hb:iM P t b=true)(ra:ag w g a va)(rb:ag w g b vb)(hst : ∃fs,P.underlying t=some (.struct fs)):(Op.equal t va vb).run P w = .ok (jg a b) w:=by
 obtain⟨fs,u⟩:=hst
 rcases sK ha with⟨fs1,xs,u1,rfl,p1⟩|p1
 .
  rcases sK hb with⟨fs2,ys,u2,rfl,p2⟩|p2
  .
   rw[u1]at u2
   simp at u2
   subst u2;simp only[lV,u1]at hty;obtain⟨ks,hks⟩:=Yn.1 hty;have hks0:=hks;unfold qb at hks;rw[u1]at hks;simp only at hks
   split at hks
   case isFalse=>cases hks
   rename_i hc
   simp only[XT,X7]at hc;have hp:=(OC fs1.toList 0 ks xs ys hks p1 p2).1
   cases ra with|agg _ vs hn hv =>
   cases rb with|agg _ us hm hu =>
   have hF:P.fieldsOf t=fs1:=by simp[Program.fieldsOf,u1]
   have h1:=run_equalIn_agg (P:=P) w 9999 t vs us (by rw[hF];exact u1) hc.1
   have h2:=OD (P:=P) fs1.toList 0 ks vs.toList us.toList xs ys w g 9998 hks (by simpa using hp) ⟨by simpa using hn,λi d x h1 h2=>hv i d x h1 (by simpa using h2)⟩ ⟨by simpa using hm,λi d x h1 h2=>hu i d x h1 (by simpa using h2)⟩
   rw[hF]at h1;simp only[Array.toArray_toList,Yl]at h2;exact h1.trans h2
  rw[Cq u]at p2;cases p2
 rw[Cq u]at p1;cases p1
def Ur{t:TypeId}{w:World}{g:Mem}{a b:D}{va vb:Value}{q:TypeDesc}(hu:P.underlying t=some q)(ha:plainOf P t a=true)(hb:plainOf P t b=true)(ra:ag w g a va)(rb:ag w g b vb):Instr.sameNow q va vb=some (jg a b):=by
 rcases nJ ha with⟨k,n,u1,rfl⟩|⟨x,u1,rfl⟩|⟨x,u1,rfl⟩<;>rcases nJ hb with⟨k',n',u2,rfl⟩|⟨x',u2,rfl⟩|⟨x',u2,rfl⟩<;>rw[u1]at u2 hu<;>simp at u2 hu<;>rw[ra.v_inv,rb.v_inv]<;>subst hu
 . subst u2;simp[Instr.sameNow,jg,kw]
 . simp[Instr.sameNow,jg,kw]
 simp only[Instr.sameNow,jg,kw,XU]
 rw[YN,bytes_beq,Yy]
 exact⟨λh=>by rw[h],Qq⟩
def Found(kv:List D)(l:List MapEntry)(q:D)(i0:Nat)(vq:Value)(r:Option (Nat×Value)):Prop :=
 (r=none/\iL kv q=none /\ ∀x,iK kv q x=kv++[q,x]) \/
 ∃j e d,r=some (i0+j,e.val)/\l[j]? = some e/\iL kv q=some d/\kv[2*j+1]? = some d/\e.key=vq /\ ∀x,iK kv q x=(kv.set (2*j) q).set (2*j+1) x
def N8{k d q:D}{kv:List D}{e:MapEntry}{l:List MapEntry}{i0:Nat}{vq:Value}{r:Option (Nat×Value)}(hne:jg q k=false)(h:Found kv l q (i0+1) vq r):Found (k::d::kv) (e::l) q i0 vq r:=by
 rcases h with⟨h1,h2,h3⟩|⟨j,e',d',h1,h2,h3,h4,h5,h6⟩
 . exact .inl ⟨h1,by simp[iL,hne,h2],λx=>by simp[iK,hne,h3]⟩
 refine .inr ⟨j+1,e',d',by rw[h1];congr 2;omega,by simpa using h2,by simp[iL,hne,h3],?_,h5,λx=>?_⟩
 .
  have:2*(j+1)+1=(2*j+1)+2:=by omega
  rw[this];simpa using h4
 have e1:2*(j+1)=2*j+1+1:=by omega
 simp only[iK,hne,h6,e1,Zh]
 simp
def N7{k d q:D}{kv:List D}{e:MapEntry}{l:List MapEntry}{i0:Nat}{vq:Value}(he:jg q k=true)(hk:e.key=vq):Found (k::d::kv) (e::l) q i0 vq (some (i0,e.val)) :=
 .inr ⟨0,e,d,rfl,rfl,by simp[iL,he],rfl,hk,λx=>by simp[iK,he]⟩
theorem Oq [aa P]{t:TypeId}{w:World}{g:Mem}{q:D}{vq:Value}{q0:TypeDesc}(hu:P.underlying t=some q0)(hty:lV P t=true)(hq:iM P t q=true)(rq:ag w g q vq){kv:List D}{es:Array MapEntry}(hr:aC w g kv (gp es))(hks:kg P t kv=true) :
  ∃r,(Instr.findKey t vq es.toList).run P w = .ok r w/\Found kv es.toList q 0 vq r:=by
 unfold gp at hr
 by_cases hst : ∃fs,P.underlying t=some (.struct fs)
 .
  rw[run_findKey_eq w (by obtain⟨fs,h⟩:=hst;rw[h])]
  have key : ∀(l:List MapEntry)(kv:List D)(i0:Nat),aC w g kv (l.flatMap λe=>[e.key,e.val])->kg P t kv=true -> ∃r,(Instr.findAsking t vq l i0).run P w = .ok r w/\Found kv l q i0 vq r:=by
   intro l
   induction l with
   | nil =>
    intro kv i0 hr hks;have:kv=[]:=Ye (by simpa using hr.1)
    subst this;exact⟨none,by simp[Instr.findAsking],.inl ⟨rfl,rfl,λx=>rfl⟩⟩
   | cons e l ih =>
    intro kv i0 hr hks;rw[xc]at hr
    match kv,hr,hks with
    | [],hr,_=>exact absurd hr.1 (by simp)
    | [_],hr,_=>exact absurd hr.1 (by simp)
    | k::d::kv,hr,hks =>
     simp only[kg,XT]at hks;have he:=Za6 hty hq hks.1 rq hr.head hst
     cases hc:jg q k with
     | true =>
      rw[hc]at he;have hqk:=MR hty hq hks.1 hc;subst hqk;exact⟨some (i0,e.val),by simp[Instr.findAsking,he],N7 hc (MQ hq hr.head rq)⟩
     | false =>
      rw[hc]at he;obtain⟨r,h1,h2⟩:=ih kv (i0+1) hr.tail.tail hks.2;exact⟨r,by simp[Instr.findAsking,he,h1],N8 hc h2⟩
  exact key es.toList kv 0 hr hks
 have hp : ∀{d:D},iM P t d=true->plainOf P t d=true:=by
  intro d hd
  rcases sK hd with⟨fs,_,u,_⟩|h
  . exact absurd ⟨fs,u⟩ hst
  exact h
 have key : ∀(l:List MapEntry)(kv:List D)(i0:Nat),aC w g kv (l.flatMap λe=>[e.key,e.val])->kg P t kv=true -> ∃r,Instr.findNow q0 vq l i0=some r/\Found kv l q i0 vq r:=by
  intro l
  induction l with
  | nil =>
   intro kv i0 hr hks;have:kv=[]:=Ye (by simpa using hr.1)
   subst this;exact⟨none,by simp[Instr.findNow],.inl ⟨rfl,rfl,λx=>rfl⟩⟩
  | cons e l ih =>
   intro kv i0 hr hks;rw[xc]at hr
   match kv,hr,hks with
   | [],hr,_=>exact absurd hr.1 (by simp)
   | [_],hr,_=>exact absurd hr.1 (by simp)
   | k::d::kv,hr,hks =>
    simp only[kg,XT]at hks;have he:=Ur hu (hp hq) (hp hks.1) rq hr.head
    cases hc:jg q k with
    | true =>
     rw[hc]at he;have hqk:=MR hty hq hks.1 hc;subst hqk;exact⟨some (i0,e.val),by simp[Instr.findNow,he],N7 hc (MQ hq hr.head rq)⟩
    | false =>
     rw[hc]at he;obtain⟨r,h1,h2⟩:=ih kv (i0+1) hr.tail.tail hks.2;exact⟨r,by simp[Instr.findNow,he,h1],N8 hc h2⟩
 obtain⟨r,h1,h2⟩:=key es.toList kv 0 hr hks
 exact⟨r,run_findKey hu h1,h2⟩
theorem MP{bl:av}{kv:List D}(h:gD bl=some kv):bl.rows=gU kv:=by
 unfold gD at h
 split at h
 . rename_i e;cases h;exact e
 cases h
def yE [aa P]{h:H}{g:Mem}{w:World}(hm:HM P h g w){r:Nat}{v:Value}(hv:ag w g (.mp r) v){bl:av}(hr:h r=some bl){kv:List D}(hk:gD bl=some kv) :
  ∃b es aQ,v = .map (some b)/\w.heap[b]? = some (.map es aQ)/\aC w g kv (gp es)/\g.M r=some (some b,maxLen+1,P.cellsOf bl.ty) /\ ¬g.I b/\P.cellsOf bl.ty=1:=by
 obtain⟨blk,c,h1,h2,h3,h4,h5⟩:=hm.blk r bl hr
 cases hv with|mp _ _ hx hU hv =>
 obtain⟨hc,b,rfl,rfl⟩:=hv _ _ _ h1
 rcases h5 with⟨h5,_⟩|⟨b',cur,h5,k1,k2,k3,k4⟩
 . cases h5
 cases h5
 obtain⟨es,aQ,e1,rfl⟩:=k1.map hc
 rw[Holds,MP hk]at k4
 obtain⟨q0,q⟩:=k4 0 _ rfl
 refine⟨b,es,aQ,rfl,e1,?_,hc▸h1,k3,q0.symm⟩
 obtain⟨u,u1,_,u3⟩:=q 0 _ rfl
 simp at u1
 subst u1
 cases u3 with|iface _ _ _ u3 =>
 obtain⟨vs,e2,e3⟩:=u3.tuple_inv
 simp at e2
 rw[<-e2]at e3
 simpa using e3
def Mo [aa P]{h:H}{g:Mem}{w:World}(hm:HM P h g w){r b c sz:Nat}{bl:av}(hr:h r=some bl)(hM:g.M r=some (some b,c,sz)){es:Array MapEntry}{aQ:Nat}(hb:w.heap[b]? = some (.map es aQ)):Bq es aQ:=by
 obtain⟨blk,c',h1,_,_,_,h5⟩:=hm.blk r bl hr
 rw[hM]at h1
 simp only[XU,Yo]at h1
 obtain⟨rfl,rfl,_⟩:=h1
 rcases h5 with⟨h5,_⟩|⟨b',cur,h5,k1,_⟩
 . cases h5
 cases h5
 exact k1.stamps hb
def Mq{g:Mem}{w:World}{kv:List D}{v:Value}(hv:ag w g (.fmap kv) v):∃b es aQ,v = .map (some b)/\w.heap[b]? = some (.map es aQ)/\aC w g kv (gp es):=by
 cases hv with|fmap _ b es aQ hI hb hn hr=>exact⟨b,es,aQ,rfl,hb,hn,hr⟩
theorem Xc [aa P]{h:H}{g:Mem}{w:World}(hm:HM P h g w){t:TypeId}{ok:Bool}{m k:D}{vm vk:Value}(rm:ag w g m vm)(rk:ag w g k vk)(hc:(j5 P t ok m k h).2) :
  ∃v,(Instr.lookup t vm vk ok).run P w = .ok v w/\ag w g (j5 P t ok m k h).1 v:=by
 unfold j5 at hc ⊢
 split at hc
 case h_2=>exact hc.elim
 rename_i kt e kv ht hk
 obtain⟨c1,c2,c3,c4⟩:=hc
 have hu:=Ae ht
 have lies : ∃b es aQ,vm = .map (some b)/\w.heap[b]? = some (.map es aQ)/\aC w g kv (gp es):=by
  unfold nV at hk
  split at hk
  .
   rename_i r
   cases hr:h r with
   | none=>rw[hr]at hk;cases hk
   | some bl =>
    rw[hr]at hk;obtain⟨b,es,aQ,q1,q2,q3,_⟩:=yE hm rm hr hk;exact⟨b,es,aQ,q1,q2,q3⟩
  .
   cases hk
   exact Mq rm
  cases hk
 obtain⟨b,es,aQ,rfl,hb,hr⟩:=lies
 have hkt : ∃q0,P.underlying kt=some q0:=by
  unfold lV at c3
  cases hq:P.underlying kt with
  | none=>rw[hq]at c3;cases c3
  | some q=>exact⟨q,rfl⟩
 obtain⟨q0,hkt⟩:=hkt
 obtain⟨r,h1,h2⟩:=Oq hkt c3 c1 rk hr c2
 have hck:=Qk c1 rk es.isEmpty 9998 (w:=w)
 obtain⟨z,hz⟩:=Yn.1 c4
 rcases h2 with⟨rfl,g1,_⟩|⟨j,e',d,rfl,g0,g1,g2,_,_⟩
 .
  have hzr:(zeroValue e).run P w = .ok z w:=by
   cases hi:P.info? e with
   | none=>rw[hi]at hz;cases hz
   | some i =>
    rw[hi]at hz
    simp at hz
    simp[zeroValue,typeInfo,hi,hz]
  have hzd:ut P e=jI z:=by unfold ut;rw[hz]
  refine⟨if ok then .tuple #[z,.bool false]else z,?_,?_⟩
  . cases ok<;>simp[Instr.lookup,run_underlying hu,MapKept.run_getObj_map hb,hck,h1,hzr]
  rw[g1,hzd]
  cases ok with
  | false=>exact Cz w g z
  | true=>exact .mk_tuple (.cons (Cz w g z) (.cons (.v _) .nil))
 have hev:ag w g d e'.val:=by
  refine hr.2 (2*j+1) d e'.val g2 ?_;unfold gp;exact Gq es.toList j e' g0 |>.2
 refine⟨if ok then .tuple #[e'.val,.bool true]else e'.val,?_,?_⟩
 . cases ok<;>simp[Instr.lookup,run_underlying hu,MapKept.run_getObj_map hb,hck,h1]
 rw[g1]
 cases ok with
 | false=>exact hev
 | true=>exact .mk_tuple (.cons hev (.cons (.v _) .nil))
theorem Jo [aa P]{h:H}{g:Mem}{w:World}(hm:HM P h g w){t:TypeId}{m k x:D}{vm vk vx:Value}(rm:ag w g m vm)(rk:ag w g k vk)(rx:ag w g x vx)(hc:(jT P t m k x h).2) :
  ∃g' w',(Instr.mapUpdate t vm vk vx).run P w = .ok () w'/\HM P (jT P t m k x h).1 g' w'/\ay g g' w w' /\ ∀r,g'.U r->g.U r:=by
 unfold jT at hc ⊢
 split at hc
 case h_2=>exact hc.elim
 rename_i kt e r ht
 cases hr:h r with
 | none=>rw[hr]at hc;exact hc.elim
 | some bl =>
 rw[hr]at hc
 simp only at hc ⊢
 cases hk:gD bl with
 | none=>rw[hk]at hc;exact hc.elim
 | some kv =>
 rw[hk]at hc
 simp only at hc ⊢
 obtain⟨c1,c2,c3⟩:=hc
 have hu:=Ae ht
 have hU:g.U r:=by cases rm with|mp _ _ _ hU _=>exact hU
 obtain⟨b,es,aQ,rfl,hb,hrep,hM,hnI,hsz⟩:=yE hm rm hr hk
 have hkt : ∃q0,P.underlying kt=some q0:=by
  unfold lV at c3
  cases hq:P.underlying kt with
  | none=>rw[hq]at c3;cases c3
  | some q=>exact⟨q,rfl⟩
 obtain⟨q0,hkt⟩:=hkt
 obtain⟨f,h1,h2⟩:=Oq hkt c3 c1 rk hrep c2
 have hck:=Qk c1 rk false 9998 (w:=w)
 have Av:=Mo hm hr hM hb
 have fin : ∀(es':Array MapEntry)(clk':Nat),Bq es' clk'->aC w g (iK kv k x) (gp es') -> ∃g',HM P (upd h r (some ⟨bl.ty,gU (iK kv k x)⟩)) g' { w with heap:=w.heap.setIfInBounds b (.map es' clk') }/\ay g g' w { w with heap:=w.heap.setIfInBounds b (.map es' clk') } /\ ∀r,g'.U r->g.U r:=by
  intro es' clk' hst' hreps;have hh:=heap_set (o':=.map es' clk') hb;obtain⟨g',q1,q2,q3,q4,q5⟩:=hm.putB (h':=upd h r (some ⟨bl.ty,gU (iK kv k x)⟩)) (w':={ w with heap:=w.heap.setIfInBounds b (.map es' clk') }) r b (maxLen+1) ⟨bl.ty,gU (iK kv k x)⟩ #[.iface 0 (.tuple (gp es').toArray)]
   (.inr hM) (bu _ _ _) (λr' hr'=>.inl (aI _ _ _ _ hr')) (.inr ⟨r,_,_,hM,.inl rfl⟩) (.inr ⟨rfl,es',clk',hh.1,rfl,hst'⟩) (λh=>by omega) (by rw[hsz];omega) (by simp[gU]) (X3 _)
   (by
    intro i row hi
    cases i with
    | succ i=>simp[gU]at hi
    | zero =>
     simp only[gU,List.getElem?_cons_zero,XU]at hi;subst hi;refine⟨hsz.symm,λj d hd=>?_⟩
     cases j with
     | succ j=>simp at hd
     | zero =>
      simp only[List.getElem?_cons_zero,XU]at hd;subst hd;exact⟨.iface 0 (.tuple (gp es').toArray),by simp,by simp[Value.oneCell',Value.cells],.iface 0 _ _ (.mk_tuple (by simpa using hreps))⟩)
   ⟨rfl,rfl,rfl,by simp,λk' _ hk'=>hh.2 k' (λe=>hk' (by rw[e]))⟩
  refine⟨g',q4,q5,λr' hr'=>?_⟩
  rcases(q2 r').1 hr' with h|h
  . exact h
  exact h▸hU
 rcases h2 with⟨rfl,g1,g2⟩|⟨j,e',d,rfl,g0,g1,g2,g3,g4⟩
 .
  obtain⟨g',f1,f2,f3⟩:=fin (es.push { key:=vk,val:=vx,born:=aQ }) (aQ+1) (by
   refine⟨by rw[Array.size_push,Av.1],λi e he=>?_⟩
   rw[Array.toList_push]at he
   rcases Nat.lt_trichotomy i es.toList.length with q|q|q
   . rw[Y5 q]at he;exact Av.2 i e he
   . rw[q,YR (X3 _),Zn]at he;simp only[List.getElem?_cons_zero,XU]at he;rw[<-he,q,Array.length_toList];exact Av.1
   .
    rw[Zm (by simp at q ⊢;omega)]at he
    cases he) (by
   rw[g2];unfold gp;rw[Array.toList_push,List.flatMap_append];exact hrep.append (.cons rk (.cons rx .nil)))
  refine⟨g',_,?_,f1,f2,f3⟩
  simp[Instr.mapUpdate,run_underlying hu,MapKept.run_getObj_map hb,hck,h1,run_setObj_map _ hb]
 obtain⟨g',f1,f2,f3⟩:=fin (es.modify j λe=>{ e with key:=vk,val:=vx }) aQ (by
  refine⟨by rw[Array.size_modify];exact Av.1,λi e he=>?_⟩
  rw[Array.toList_modify,List.getElem?_modify]at he
  cases hi:es.toList[i]? with
  | none=>rw[hi]at he;cases he
  | some e0 =>
   rw[hi]at he;have h0:=Av.2 i e0 hi
   by_cases q:j=i
   .
    simp[q]at he
    rw[<-he];exact h0
   simp[q]at he
   rw[<-he];exact h0) (by
  rw[g4];unfold gp;rw[Array.toList_modify,MN _ _ _ _ g0];refine⟨by rw[Z4,Z4,Z4,Z4];exact hrep.1,λi d' y h3 h4=>?_⟩
  by_cases e1:i=2*j+1
  .
   subst e1;rw[ZA (by have:=(XY.1 h3).1;simpa using this)]at h3
   rw[ZA (by have:=(XY.1 h4).1;simpa using this)]at h4
   cases h3;cases h4;exact rx
  rw[List.getElem?_set_ne (Ne.symm e1)]at h3 h4
  by_cases e2:i=2*j
  .
   subst e2;rw[ZA (by have:=(XY.1 h3).1;simpa using this)]at h3
   rw[ZA (by have:=(XY.1 h4).1;simpa using this)]at h4
   cases h3;cases h4;exact rk
  rw[List.getElem?_set_ne (Ne.symm e2)]at h3 h4;exact hrep.2 i d' y h3 h4)
 refine⟨g',_,?_,f1,f2,f3⟩
 have hj:es[j]? = some e':=by simpa using g0
 have hst:(Instr.keyThatStays vk vk).run P w = .ok vk w:=by simp[Instr.keyThatStays,XI c1 rk 9999]
 simp[Instr.mapUpdate,run_underlying hu,MapKept.run_getObj_map hb,hck,h1,hj,g3,hst,run_setObj_map _ hb]
def W9{z:Array Value}{n i j:Nat}(hi:i<n)(hj:j<z.size):(madeCells z (n*z.size))[i*z.size+j]? = some z[j]:=by
 unfold madeCells
 have hlt:i*z.size+j<n*z.size:=by
  have:(i+1)*z.size<=n*z.size:=YL _ hi;rw[Za,Nat.one_mul]at this;omega
 have e:(i*z.size+j) % z.size=j:=by rw[Zt,ZP,Zx hj]
 simp[hlt,e,hj]
theorem WN [aa P]{h:H}{g:Mem}{w:World}(hm:HM P h g w){b:Nat}(hb : ¬g.U b){t:TypeId}{x y:D}{vx vy:Value}(rx:ag w g x vx)(ry:ag w g y vy)(hc:(iJ P t h b x y).2.2) :
  ∃v g' w',(Instr.makeSlice t vx vy).run P w = .ok v w'/\ag w' g' (iJ P t h b x y).1 v/\HM P (iJ P t h b x y).2.1 g' w'/\ay g g' w w' /\ ∀r,g'.U r->g.U r\/r=b:=by
 unfold iJ at hc ⊢
 split at hc
 case h_2=>exact hc.elim
 rename_i k n k' m
 cases he:aT P t with
 | none=>rw[he]at hc;exact hc.elim
 | some e =>
 rw[he]at hc
 simp only at hc ⊢
 obtain⟨c0,c1,c2,c3,c4,c5,c6,c7⟩:=hc
 have ht:=l7 he
 obtain⟨i,hi,hs⟩:=vg c7
 obtain⟨i',z,hi',hz⟩:=EC (P:=P) (t:=e) om
 rw[hi]at hi'
 cases hi'
 obtain⟨z1,z2,z3⟩:=Bw hi hz w g c6
 have hby:(i.bytes:Int)*m<=281474976710656:=by
  have:P.bytesOf e=i.bytes:=by simp[Program.bytesOf,hi]
  rw[<-this];exact c2
 have hrun:=run_make (P:=P) w t e i z ht hi hz k k' n m c1 c0 hby c3
 rw[rx.v_inv,ry.v_inv]
 have hzs:z.cells.size=P.cellsOf e:=by omega
 rw[hs,<-hzs]at hrun
 obtain⟨g',h2,h3,h4,h5,h6⟩:=hm.put (h':=upd h b (some ⟨e,List.replicate n.toNat (zeroCells P e)⟩)) (w':=w.alloc (.cells (madeCells z.cells (m.toNat*z.cells.size)) e)) b w.heap.size m.toNat ⟨e,List.replicate n.toNat (zeroCells P e)⟩ (madeCells z.cells (m.toNat*z.cells.size)) (.inl hb) (bu _ _ _)
  (λr hr=>.inl (aI _ _ _ _ hr)) (.inl (X3 _)) (heap_alloc_new w _) (by rw[size_madeCells,hzs]) c7 (by simp;omega) (by simp only[maxLen];omega)
  (by
   intro p row hp;have hpl:p<n.toNat:=by have:=(XY.1 hp).1;simpa using this
   rw[List.getElem?_replicate,X0 hpl]at hp
   cases hp
   refine⟨c5,λj d hj=>?_⟩
   have hjl:j<z.cells.size:=by have:=(XY.1 hj).1;omega
   refine⟨z.cells[j],?_,z2 _ (by simp),z1.2 j d _ hj (by simp[hjl])⟩
   show(madeCells z.cells (m.toNat*z.cells.size))[p*P.cellsOf e+j]? = _
   rw[<-hzs];exact W9 om hjl)
  (World.grownBy_alloc w _ _)
 refine⟨_,g',_,hrun,?_,h5,h6,λr hr=>(h3 r).1 hr⟩
 refine .mrow b 0 n.toNat _ ⟨_,_,rfl,om,λ_=>⟨_,rfl⟩⟩ ((h3 b).2 (.inr rfl)) λblk c sz he=>?_
 rw[h2]at he
 simp only[XU,Yo]at he
 obtain⟨rfl,rfl,rfl⟩:=he
 refine⟨⟨om,by simp only[maxLen];omega⟩,?_⟩
 by_cases hz0:m.toNat=0
 .
  have hn0:n.toNat=0:=by omega
  rw[hz0,hn0];exact .inl ⟨rfl,_,rfl⟩
 exact .inr ⟨hz0,w.heap.size,rfl,by simp⟩
theorem WZ [aa P]{h:H}{g:Mem}{w:World}(hm:HM P h g w){b:Nat}(hb : ¬g.U b){t:TypeId}{xs:List D}{ro:Option Operand}{ρ:Operand->Value}(hr:aC w g xs (ro.toList.map ρ))(hc:(uX P t xs h b).2.2) :
  ∃v g' w',(Instr.makeMap t (ro.map ρ)).run P w = .ok v w'/\ag w' g' (uX P t xs h b).1 v/\HM P (uX P t xs h b).2.1 g' w'/\ay g g' w w' /\ ∀r,g'.U r->g.U r\/r=b:=by
 unfold uX at hc ⊢
 obtain⟨c1,c2,c3⟩:=hc
 obtain⟨⟨kt,e⟩,ht⟩:=Yn.1 c1
 have hu:=Ae ht
 obtain⟨g',q1,q2,q3,q4,q5⟩:=hm.putB (h':=upd h b (some ⟨t,gU []⟩)) (w':=w.alloc (.map #[] 0)) b w.heap.size (maxLen+1) ⟨t,gU []⟩ #[.iface 0 (.tuple #[])]
  (.inl hb) (bu _ _ _) (λr hr=>.inl (aI _ _ _ _ hr)) (.inl (X3 _)) (.inr ⟨rfl,#[],0,(heap_alloc w _).1,rfl,rfl,λi e h=>by simp at h⟩) (λh=>by omega) (by show 0<P.cellsOf t;omega) (by simp[gU]) (X3 _)
  (by
   intro i row hi
   cases i with
   | succ i=>simp[gU]at hi
   | zero =>
    simp only[gU,List.getElem?_cons_zero,XU]at hi;subst hi;refine⟨c2.symm,λj d hd=>?_⟩
    cases j with
    | succ j=>simp at hd
    | zero =>
     simp only[List.getElem?_cons_zero,XU]at hd;subst hd;exact⟨.iface 0 (.tuple #[]),by simp,by simp[Value.oneCell',Value.cells],.iface 0 _ _ (.mk_tuple (vs:=#[]) .nil)⟩)
  (World.grownBy_alloc w _ _)
 refine⟨.map (some w.heap.size),g',w.alloc (.map #[] 0),?_,?_,q4,q5,λr hr=>(q2 r).1 hr⟩
 .
  cases ro with
  | none=>simp[Instr.makeMap]
  | some o =>
   simp only[Option.toList_some,X8,Yp]at hr
   match xs,hr,c3 with
   | [],hr,_=>exact absurd hr.1 (by simp)
   | [.v (.int k n)],hr,_ =>
    rw[YK,hr.head.v_inv]
    simp[Instr.makeMap,run_underlying hu,asInt,asIntOf]
 refine .mp b _ ⟨_,rfl⟩ ((q2 b).2 (.inr rfl)) λblk c sz he=>?_
 rw[q1]at he
 simp only[XU,Yo]at he
 exact⟨he.2.1.symm,_,he.1.symm,rfl⟩
end Go.DL
namespace Go.DL
variable [Dr]
open Go.RowKit
variable {P : Program} {W : aU} {C : aH}
def xm:Op->Bool
 | .call { callee:=.value _,.. }=>true
 | _=>false
theorem FT{w:World}{g:Mem}{xs:List D}{ρ:Operand->Value}{l:Option Operand}{rest:List Operand}(h:aC w g xs ((l.toList++rest).map ρ)) :
  zt w g (gB l xs).1 (l.map ρ)/\aC w g (gB l xs).2 (rest.map ρ):=by
 cases l with
 | none=>exact⟨trivial,by simpa[gB]using h⟩
 | some x =>
  simp only[Option.toList_some,List.singleton_append,X8]at h
  cases xs with
  | nil=>exact absurd h.1 (by simp)
  | cons d ds=>exact⟨h.head,h.tail⟩
theorem ZbB [aa P]{h:H}{g:Mem}{w:World}(hm:HM P h g w){b:Nat}(hb : ¬g.U b){xs:List D}{o:Oper}{ρ:Operand->Value}(hr:aC w g xs ((au o.op).map ρ))(hcall:xm o.op=false)(hc:(aD P W C o.op xs h b).2.2) :
  Does P g w b ((execOp ρ o).run P w) (aD P W C o.op xs h b).1 (aD P W C o.op xs h b).2.1:=by
 obtain⟨dst,op,ty,pos,after,guard⟩:=o
 simp only at hr hcall hc ⊢
 unfold aD at hc ⊢
 split at hc
 . obtain⟨v,l,e,h1,h2⟩:=hr.of_cons;simp only[au,X8,Yp,Yt]at e;obtain⟨rfl,_⟩:=e;exact Does.still (s:=pure _) hm (by simp) h1
 . obtain⟨v,l,e,h1,h2⟩:=hr.of_cons;simp only[au,X8,Yp,Yt]at e;obtain⟨rfl,_⟩:=e;exact Does.still (s:=pure _) hm (by simp) h1
 .
  rename_i e
  obtain⟨c1,c2,c3⟩:=hc;obtain⟨i,z,hi,hz⟩:=EC (P:=P) (t:=e) om;obtain⟨z1,z2,z3⟩:=Bw hi hz w g c2;obtain⟨g',k1,k2,k3,k4⟩:=Me hm hb (e:=e) z1 z2 c1 om;refine⟨_,g',_,.inl ?_,k1,k2,k3,k4⟩
  simp[execOp,Instr.alloc,zeroValue,typeInfo,hi,hz,newVar,newRow]
 .
  rename_i e x d
  obtain⟨v,l,e1,h1,h2⟩:=hr.of_cons;simp only[au,X8,Yp,Yt]at e1;obtain⟨rfl,_⟩:=e1;obtain⟨c1,c2,c3⟩:=hc;obtain⟨z1,z2,z3⟩:=h1.cells c2;obtain⟨g',k1,k2,k3,k4⟩:=Me hm hb (e:=e) z1 z2 c1 c3;refine⟨_,g',_,.inl ?_,k1,k2,k3,k4⟩
  simp[execOp,Instr.box,newVar,newRow]
 .
  rename_i t ps
  obtain⟨v,h1,h2⟩:=Zc2 (P:=P) (ps:=ps) hr hc ρ (by simp[au])
  exact Does.still hm h1 h2
 .
  rename_i t n ps
  cases hbs:C.bs with
  | false =>
   simp only[hbs,Yd,YT]at hc ⊢;obtain⟨v,g',w',h1,h2,h3,h4,h5⟩:=Zc3 (P:=P) hm (ps:=ps) hr hc ρ (by simp[au])
   exact⟨v,g',w',.inl (by simp[execOp,h1]),h2,h3,h4,λr hr=>.inl (h5 r hr)⟩
  | true =>
   simp only[hbs,Zr]at hc ⊢;obtain⟨v,g',w',h1,h2,h3,h4,h5⟩:=Zc5 (P:=P) hm hb (ps:=ps) hr hc ρ (by simp[au])
   exact⟨v,g',w',.inl (by simp[execOp,h1]),h2,h3,h4,h5⟩
 . obtain⟨v,l,e1,h1,h2⟩:=hr.of_cons;simp only[au,X8,Yp,Yt]at e1;obtain⟨rfl,_⟩:=e1;obtain⟨v,k1,k2⟩:=Xi hm h1 hc;exact Does.still hm k1 k2
 . obtain⟨v,l,e1,h1,h2⟩:=hr.of_cons;simp only[au,X8,Yp,Yt]at e1;obtain⟨rfl,rfl⟩:=e1;obtain⟨g',w',k1,k2,k3,k4⟩:=JH hm h1 h2.head hc;exact⟨undef,g',w',.inr ⟨by simp[execOp,k1],rfl⟩,.v _,k2,k3,λr hr=>.inl (k4 r hr)⟩
 .
  obtain⟨v,l,e1,h1,h2⟩:=hr.of_cons;simp only[au,X8,Yp,Yt]at e1;obtain⟨e1,_⟩:=e1;obtain⟨p,e2,_⟩:=FD h1 hc 0;refine⟨v,g,w,.inl ?_,h1,hm,ay.refl _ _,λ_ h=>.inl h⟩
  simp[execOp,e1,e2]
 . obtain⟨v,l,e1,h1,h2⟩:=hr.of_cons;simp only[au,X8,Yp,Yt]at e1;obtain⟨rfl,rfl⟩:=e1;obtain⟨v,k1,k2⟩:=Zdc h1 h2.head hc _ _;exact Does.still hm k1 k2
 . obtain⟨v,l,e1,h1,h2⟩:=hr.of_cons;simp only[au,X8,Yp,Yt]at e1;obtain⟨rfl,_⟩:=e1;obtain⟨v,k1,k2⟩:=Rt h1 hc;exact Does.still hm k1 k2
 . obtain⟨v,l,e1,h1,h2⟩:=hr.of_cons;simp only[au,X8,Yp,Yt]at e1;obtain⟨rfl,_⟩:=e1;obtain⟨v,k1,k2⟩:=Zcw h1 hc;exact Does.still hm k1 k2
 .
  rename_i f first captured
  simp only[au,YP]at hr;have q1:=hr.take first.size
  have q2:=hr.drop first.size
  have l1:(first.toList.map ρ).length=first.size:=by simp
  rw[List.take_left' l1]at q1;rw[List.drop_left' l1]at q2;refine Does.still (s:=Instr.makeFunc f (first.map ρ) (captured.map ρ)) hm (v:=.func f (first.map ρ) (captured.map ρ)) (by simp[Instr.makeFunc]) ?_
  exact .fn f _ _ _ _ (by have:=q1.1;simp at this ⊢;exact this) (by have:=q2.1;simp at this ⊢;exact this) (λi d x h1 h2=>q1.2 i d x h1 (by simpa using h2)) (λi d x h1 h2=>q2.2 i d x h1 (by simpa using h2))
 .
  rename_i t x l hi m d ds
  obtain⟨v,l',e1,h1,h2⟩:=hr.of_cons;simp only[au,X8,Yt]at e1;obtain⟨rfl,rfl⟩:=e1;rw[YS]at h2;obtain⟨k1,h3⟩:=FT h2;obtain⟨k2,h4⟩:=FT h3;rw[<-Zg m.toList]at h4;obtain⟨k3,_⟩:=FT h4;obtain⟨v,q1,q2⟩:=Td hm h1 k1 k2 k3 hc;exact Does.still hm q1 q2
 . obtain⟨v,l,e1,h1,h2⟩:=hr.of_cons;simp only[au,X8,Yp,Yt]at e1;obtain⟨rfl,_⟩:=e1;obtain⟨v,k1,k2⟩:=ZaZ h1 hc;exact Does.still hm k1 k2
 . obtain⟨v,l,e1,h1,h2⟩:=hr.of_cons;simp only[au,X8,Yp,Yt]at e1;obtain⟨rfl,_⟩:=e1;obtain⟨v,k1,k2⟩:=ZaY h1 hc;exact Does.still hm k1 k2
 . obtain⟨v,l,e1,h1,h2⟩:=hr.of_cons;simp only[au,X8,Yp,Yt]at e1;obtain⟨rfl,rfl⟩:=e1;obtain⟨v,k1,k2⟩:=Zam hm h1 h2.head hc;exact Does.still hm k1 k2
 . obtain⟨v,l,e1,h1,h2⟩:=hr.of_cons;simp only[au,X8,Yp,Yt]at e1;obtain⟨rfl,rfl⟩:=e1;obtain⟨v,k1,k2⟩:=Zal (P:=P) h1 h2.head hc;exact Does.still hm k1 k2
 . obtain⟨v,l,e1,h1,h2⟩:=hr.of_cons;simp only[au,X8,Yp,Yt]at e1;obtain⟨rfl,rfl⟩:=e1;obtain⟨v,g',w',k1,k2,k3,k4,k5⟩:=WN (P:=P) hm hb h1 h2.head hc;exact⟨v,g',w',.inl (by simp[execOp,k1]),k2,k3,k4,k5⟩
 .
  rename_i t r
  obtain⟨v,g',w',h1,h2,h3,h4,h5⟩:=WZ (P:=P) hm hb (ro:=r) hr hc;exact⟨v,g',w',.inl (by simp[execOp,h1]),h2,h3,h4,h5⟩
 . obtain⟨v,l,e1,h1,h2⟩:=hr.of_cons;obtain⟨v2,l2,e2,h3,h4⟩:=h2.of_cons;simp only[au,X8,Yp,Yt]at e1;obtain⟨rfl,e1⟩:=e1;rw[e2]at e1;simp only[Yt]at e1;obtain⟨rfl,rfl⟩:=e1;obtain⟨g',w',k1,k2,k3,k4⟩:=Jo hm h1 h3 h4.head hc;exact⟨undef,g',w',.inr ⟨by simp[execOp,k1],rfl⟩,.v _,k2,k3,λr hr=>.inl (k4 r hr)⟩
 . obtain⟨v,l,e1,h1,h2⟩:=hr.of_cons;obtain⟨v2,l2,e2,h3,h4⟩:=h2.of_cons;simp only[au,X8,Yp,Yt]at e1;obtain⟨rfl,e1⟩:=e1;rw[e2]at e1;simp only[Yt]at e1;obtain⟨rfl,rfl⟩:=e1;obtain⟨g',w',k1,k2,k3,k4⟩:=Jo hm h1 h3 h4.head hc;exact⟨undef,g',w',.inr ⟨by simp[execOp,k1],rfl⟩,.v _,k2,k3,λr hr=>.inl (k4 r hr)⟩
 . obtain⟨v,l,e1,h1,h2⟩:=hr.of_cons;simp only[au,X8,Yp,Yt]at e1;obtain⟨rfl,rfl⟩:=e1;obtain⟨v,k1,k2⟩:=Xc hm h1 h2.head hc;exact Does.still hm k1 k2
 .
  rename_i i ds
  obtain⟨v,l,e1,h1,h2⟩:=hr.of_cons;simp only[au,X8,Yp,Yt]at e1;obtain⟨e1,_⟩:=e1;obtain⟨vs,rfl,h3⟩:=h1.tuple_inv;have hl:i<vs.size:=by have:=h3.1;simp at this;omega
  refine⟨vs[i],g,w,.inl ?_,?_,hm,ay.refl _ _,λ_ h=>.inl h⟩
  . simp[execOp,e1,Instr.extract,hl]
  exact h3.2 i _ _ (by simp[List.getD,X5 hc]) (by simp[hl])
 .
  rename_i args argTypes d
  obtain⟨v,l,e1,h1,h2⟩:=hr.of_cons;simp only[au]at e1;rw[h2.of_nil]at e1
  split at hc
  case h_2=>exact hc.elim
  rename_i t ht
  have ht':argTypes = #[t]:=by apply Zd;simpa using ht
  have ea:args.map ρ = #[v]:=by apply Zd;simpa using e1
  subst ht';refine⟨_,g,w,.inl ?_,.v _,hm,ay.refl _ _,λ_ h=>.inl h⟩
  have:=Xn (ty:=ty) h1 hc
  simp[execOp,resolve,invoke,builtin,ea,this]
 .
  rename_i args argTypes d d'
  obtain⟨v,l,e1,h1,h2⟩:=hr.of_cons;obtain⟨v',l',e2,h3,h4⟩:=h2.of_cons;simp only[au]at e1;rw[e2,h4.of_nil]at e1
  split at hc
  case h_2=>exact hc.elim
  rename_i t u ht
  have ht':argTypes = #[t,u]:=by apply Zd;simpa using ht
  have ea:args.map ρ = #[v,v']:=by apply Zd;simpa using e1
  subst ht';obtain⟨x,g',w',k1,k2,k3,k4,k5⟩:=IL hm hb h1 h3 hc ty;refine⟨x,g',w',.inl ?_,k2,k3,k4,k5⟩
  simp[execOp,resolve,invoke,builtin,ea,k1]
 .
  rename_i args argTypes
  simp only[au]at hr;obtain⟨v,k1,k2⟩:=WP (P:=P) hr hc argTypes ty;refine⟨v,g,w,.inl ?_,k2,hm,ay.refl _ _,λ_ h=>.inl h⟩
  have ea:(args.toList.map ρ).toArray=args.map ρ:=by apply Zd;simp
  rw[ea]at k1
  simp[execOp,resolve,invoke,builtin,k1]
 .
  rename_i args argTypes
  simp only[au]at hr;obtain⟨v,k1,k2⟩:=WU (P:=P) hr hc argTypes ty;refine⟨v,g,w,.inl ?_,k2,hm,ay.refl _ _,λ_ h=>.inl h⟩
  have ea:(args.toList.map ρ).toArray=args.map ρ:=by apply Zd;simp
  rw[ea]at k1
  simp[execOp,resolve,invoke,builtin,k1]
 . simp[xm]at hcall
 exact hc.elim
theorem VV [aa P]{h:H}{g:Mem}{w:World}(hm:HM P h g w){b:Nat}{xs:List D}{o:Oper}{ρ:Operand->Value}(hr:aC w g xs ((au o.op).map ρ))(hp:bZ o.op=true){gd:Bool}(hg:gd=true)(hc:(uP gd xs).2) :
  Does P g w b ((execOp ρ o).run P w) (uP gd xs).1 h:=by
 obtain⟨dst,op,ty,pos,after,guard⟩:=o
 simp only at hr hp ⊢
 cases op<;>simp only[bZ]at hp<;>try (cases hp;done)
 rename_i c x y
 unfold uP at hc ⊢
 split at hc
 case h_2=>exact hc.elim
 rename_i dc dx dy
 obtain⟨q1,q2,q3⟩:=hc hg
 have r1:=hr.head
 have r2:=hr.tail.head
 have r3:=hr.tail.tail.head
 have strip : ∀{d:D}{v:Value},ag w g d v->sg d=true/\sP (sd d)=true->v = .bool (bv (sd d)):=by
  intro d v hd ⟨hs,he⟩;have key : ∀{d:D},ag w g d v->sP d=true->v = .bool (bv d):=by
   intro d hd he
   cases hd with
   | v=>cases v<;>first|rfl|cases he
   | _=>cases he
  cases hd with
  | cond b d x ht hf=>exact key (ht hs) he
  | v=>exact key (.v _) he
  | _=>cases he
 have s1:=strip r1 q1
 refine⟨.bool (bif bv (sd dc)then bv (sd dx)else bv (sd dy)),g,w,.inl ?_,.v _,hm,ay.refl _ _,λ_ h=>.inl h⟩
 cases hcc:bv (sd dc)with
 | true=>have s2:=strip r2 (q2 hcc);simp[execOp,s1,s2,asBool,hcc]
 | false=>have s3:=strip r3 (q3 hcc);simp[execOp,s1,s3,asBool,hcc]
end Go.DL
namespace Go.DL
variable [Dr]
open Go.RowKit
variable {P : Program}
theorem mJ{d:D}:∀{ds:List D},bK ds=true->d∈ds->d.nr=true
 | [],_,h=>by cases h
 | e::ds,h,hm=>by
  simp only[bK,XT]at h
  rcases Yv.1 hm with rfl|hm
  . exact h.1
  exact mJ h.2 hm
theorem Aa{d:List D}:∀{ds:List (List D)},aZ ds=true->d∈ds->bK d=true
 | [],_,h=>by cases h
 | e::ds,h,hm=>by
  simp only[aZ,XT]at h
  rcases Yv.1 hm with rfl|hm
  . exact h.1
  exact Aa h.2 hm
theorem LV : ∀(a b:List (List D)),aZ (a++b)=(aZ a&&aZ b)
 | [],b=>by simp[aZ]
 | x::a,b=>by simp[aZ,LV a b,Zq]
theorem ag.clean{w:World}{g g':Mem}{d:D}{v:Value}(h:ag w g d v)(hn:d.nr=true)(hI : ∀b,g.I b->g'.I b):ag w g' d v:=by
 induction h with
 | v x=>exact .v x
 | agg ds vs hl _ ih=>exact .agg ds vs hl λi d x h1 h2=>ih i d x h1 h2 (mJ hn (X6 h1))
 | tuple ds vs hl _ ih=>exact .tuple ds vs hl λi d x h1 h2=>ih i d x h1 h2 (mJ hn (X6 h1))
 | iface t d x _ ih=>exact .iface t d x (ih hn)
 | empty full a cap hf hm=>exact .empty full a cap hf hm
 | list full rows ad cap size cv hi hl hf hm hs hc _ ih=>exact .list full rows ad cap size cv (hI _ hi) hl hf hm hs hc λi j r d h1 h2=>ih i j r d h1 h2 (mJ (Aa hn (X6 h1)) (X6 h2))
 | eptr cs p cv hi hc _ ih=>exact .eptr cs p cv (hI _ hi) hc λj d h1=>ih j d h1 (mJ hn (X6 h1))
 | mrow=>simp[D.nr]at hn
 | mptr=>simp[D.nr]at hn
 | mp=>simp[D.nr]at hn
 | fmap kv b es aQ hi hb hl _ ih=>exact .fmap kv b es aQ (hI _ hi) hb hl λi d x h1 h2=>ih i d x h1 h2 (mJ hn (X6 h1))
 | fn f first aK fs cs hf hc _ _ ih1 ih2 =>
  simp only[D.nr,XT]at hn;exact .fn f first aK fs cs hf hc (λi d x h1 h2=>ih1 i d x h1 h2 (mJ hn.1 (X6 h1))) (λi d x h1 h2=>ih2 i d x h1 h2 (mJ hn.2 (X6 h1)))
 | cond b d x _ hf ih=>exact .cond b d x (λhb=>ih hb hn) hf
 | junk x=>exact .junk x
mutual
theorem BC : ∀d:D,d.nr=true->(wk d).nr=true
 | .agg cs,h=>xU cs h
 | .list _ rows,h=>Jc rows h
 | .eptr cs,h=>xU cs h
 | .tuple ds,h=>xU ds h
 | .iface _ d,h=>BC d h
 | .v _,h=>h
 | .mrow _ _ _,h=>h
 | .mptr _ _ _,h=>h
 | .mp _,h=>h
 | .fmap kv,h=>xU kv h
 | .fn _ _ _,h=>h
 | .cond _ _,h=>h
 | .junk,h=>h
theorem xU : ∀ds:List D,bK ds=true->bK (dA ds)=true
 | [],_=>rfl
 | d::ds,h=>by
  simp only[bK,dA,XT]at h ⊢;exact⟨BC d h.1,xU ds h.2⟩
theorem Jc : ∀ds:List (List D),aZ ds=true->aZ (cK ds)=true
 | [],_=>rfl
 | d::ds,h=>by
  simp only[aZ,cK,XT]at h ⊢;exact⟨xU d h.1,Jc ds h.2⟩
end
mutual
def D.rin(U:Nat->Prop):D->Prop
 | .v _=>True
 | .agg cs=>uI U cs
 | .list _ rows=>Ku U rows
 | .eptr cs=>uI U cs
 | .mrow r _ _=>U r
 | .mptr r _ _=>U r
 | .mp r=>U r
 | .fmap kv=>uI U kv
 | .fn _ a b=>uI U a/\uI U b
 | .tuple ds=>uI U ds
 | .iface _ d=>d.rin U
 | .cond b d=>b=true->d.rin U
 | .junk=>True
def uI(U:Nat->Prop):List D->Prop
 | []=>True
 | d::ds=>d.rin U/\uI U ds
def Ku(U:Nat->Prop):List (List D)->Prop
 | []=>True
 | r::rs=>uI U r/\Ku U rs
end
def aC.clean{w:World}{g g':Mem}{ds:List D}{vs:List Value}(h:aC w g ds vs)(hn:ds.all D.nr=true)(hI : ∀b,g.I b->g'.I b):aC w g' ds vs :=
 ⟨h.1,λi d x h1 h2=>(h.2 i d x h1 h2).clean (Yf.1 hn d (X6 h1)) hI⟩
def Oj{w w':World}{g g':Mem}{d:D}{v:Value}(h:ag w g d v)(hf:Hl d=true):ag w' g' d v:=by
 cases h<;>simp[Hl]at hf
 exact .v _
def Oh{w w':World}{g g':Mem}{d:D}{v:Value}(h:ag w g d v)(hf:flat d=true):ag w' g' d v:=by
 cases h<;>simp only[flat]at hf<;>try (cases hf;done)
 . exact .v _
 .
  rename_i ds vs hl hv
  exact .agg ds vs hl λi d x h1 h2=>Oj (hv i d x h1 h2) (Yf.1 hf d (X6 h1))
 rename_i ds vs hl hv
 exact .tuple ds vs hl λi d x h1 h2=>Oj (hv i d x h1 h2) (Yf.1 hf d (X6 h1))
def jl(P:Program)[aa P](f:FuncId):Bool:=match P.funcs[f]? with
 | some fn => fn.body.isSome && fn.name != "runtime.NumGoroutine"
 | none=>false
def eY(I:Nat->Prop):Mem:=⟨λ_=>none,λ_=>False,I⟩
structure vP(w w':World):Prop where
 os:w'.os=w.os
 tape:w'.tape=w.tape
 output:w'.output=w.output
 size:w.heap.size<=w'.heap.size
 drawn:Dr.dr->w.drawn<=w'.drawn
 block : ∀k,k<w.heap.size->w'.heap[k]? = w.heap[k]?
def PureCt(P:Program)[aa P](f:FuncId)(args:List D)(res:D):Prop :=
 jl P f=true/\args.all D.nr=true /\ ∀(w:World)(I:Nat->Prop)(vs:List Value),(∀b,I b->b<w.heap.size)->Gr P I w->aC w (eY I) args vs ->
  CallsIn Fence.wide 0 P f vs.toArray w λe w'=>∃v,e = .returned v/\vP w w'/\ag w' (eY λb=>I b\/(w.heap.size<=b/\b<w'.heap.size)) res v
def Ct(P:Program)[aa P](f:FuncId)(args:List D)(h:H)(b:Nat)(res:D)(h':H):Prop :=
 jl P f=true /\ ∀(w:World)(g:Mem)(vs:List Value)(n:Nat),HM P h g w->(∀r,g.U r->r<n) -> ¬g.U b->aC w g args vs ->
  CallsIn Fence.wide 0 P f vs.toArray w λe w'=>∃v g',e = .returned v/\ag w' g' res v/\HM P h' g' w'/\ay g g' w w' /\ ∀r,g'.U r->g.U r\/r=b
def words(P:Program)[aa P]:aU:={ pureCt:=PureCt P,ct:=Ct P }
theorem xM [aa P]{f:FuncId}(h:jl P f=true)(args:Array Value)(w:World):(callFunc f args).run P w = .ok (.enter f args) w:=by
 unfold jl at h
 split at h
 .
  rename_i fn hf
  simp only[XT,ZF]at h;obtain⟨h1,h2⟩:=h;have h3:fn.body≠none:=by intro e;rw[e]at h1;cases h1
  simp[callFunc,hf,h2,h3]
 cases h
def jY(g:Mem):Mem:={ g with I:=λb=>g.I b \/ ∃r c s,g.M r=some (some b,c,s) }
def lN{g:Mem}{w:World}{d:D}{v:Value}(h:ag w g d v):ag w (jY g) d v:=by
 refine ag.mono ?_ ?_ ?_ h
 . exact λb hb=>⟨Or.inl hb,rfl⟩
 . exact λ_ h=>h
 exact λ_ _=>Or.inl rfl
theorem DY [aa P]{h:H}{g:Mem}{w:World}(hm:HM P h g w){r off len:Nat}{x:Value}(hr:ag w (jY g) (.mrow r off len) x)(ho:(h r).isSome=true/\(aj (.mrow r off len) h).length=len) :
  ag w (jY g) (.list false (aj (.mrow r off len) h)) x:=by
 have hmono : ∀{d:D}{v:Value},ag w g d v->ag w (jY g) d v:=λh=>lN h
 cases hr with
 | mrow r off len x hx hU hv =>
  obtain⟨o1,o2⟩:=ho;obtain⟨bl,hbl⟩:=Yn.1 o1;simp only[aj,hbl]at o2 ⊢;obtain⟨blk,c,h1,h2,h3,h4,h5⟩:=hm.blk r bl hbl;obtain⟨h6,h7⟩:=hv _ _ _ h1
  rcases h7 with⟨rfl,a,rfl⟩|⟨hne,b,rfl,rfl⟩
  .
   have:len=0:=by omega
   subst this;have:(bl.rows.drop c).take 0=[]:=by simp
   rw[this];exact .empty false a 0 (λh=>by cases h) (by simp[maxLen])
  rcases h5 with⟨h5,_⟩|⟨b',cur,h5,k1,k2,k3,k4⟩
  . cases h5
  cases h5
  by_cases hz:len=0
  .
   subst hz;have:(bl.rows.drop off).take 0=[]:=by simp
   rw[this];exact .empty false _ _ (λh=>by cases h) om
  have hle:off+len<=bl.rows.length:=by simp at o2;omega
  have hget : ∀(i:Nat)row,((bl.rows.drop off).take len)[i]? = some row->bl.rows[off+i]? = some row:=by
   intro i row hi;rw[YX]at hi
   split at hi
   . rwa [YJ]at hi
   cases hi
  have hex : ∀i j,∃u,∀row d,bl.rows[off+i]? = some row->row[j]? = some d->cur[(off+i)*P.cellsOf bl.ty+j]? = some u/\u.oneCell'=true/\ag w g d u:=by
   intro i j
   by_cases hh : ∃row d,bl.rows[off+i]? = some row/\row[j]? = some d
   .
    obtain⟨row,d,q1,q2⟩:=hh;obtain⟨u,q3⟩:=(k4 _ row q1).2 j d q2;refine⟨u,λrow' d' q1' q2'=>?_⟩
    rw[q1]at q1';cases q1'
    rw[q2]at q2';cases q2'
    exact q3
   exact⟨undef,λrow d q1 q2=>absurd ⟨row,d,q1,q2⟩ hh⟩
  generalize hcv:(λi j=>Classical.choose (hex i j))=cv
  have NG : ∀i j row d,bl.rows[off+i]? = some row->row[j]? = some d->cur[(off+i)*P.cellsOf bl.ty+j]? = some (cv i j)/\(cv i j).oneCell'=true/\ag w g d (cv i j):=by
   intro i j;rw[<-hcv];exact Y9 (hex i j)
  have hlen:len=((bl.rows.drop off).take len).length:=o2.symm;generalize hrows:(bl.rows.drop off).take len=rows at *;subst hlen;refine .list false rows ⟨b,off*P.cellsOf bl.ty,none⟩ _ (P.cellsOf bl.ty) cv (.inr ⟨r,_,_,h1⟩) om (λh=>by cases h) om (λrow hrow=>?_) (λi j row d q1 q2=>?_) (λi j row d q1 q2=>hmono (NG i j row d (hget i row q1) q2).2.2)
  . obtain⟨i,hi,rfl⟩:=YZ hrow;exact(k4 _ _ (hget i _ (X5 hi))).1
  obtain⟨q3,q4,_⟩:=NG i j row d (hget i row q1) q2;refine⟨?_,q4⟩;rw[jR,cell_of_row w b _ cur bl.ty (0,0) (k1.cells h6.2),<-q3,Za]
  congr 1;omega
theorem Zcb [aa P]{h:H}{g:Mem}{w:World}(hm:HM P h g w){d:D}{v:Value}(hr:ag w (jY g) d v)(ho:mR h d):ag w (jY g) (ou h d) v:=by
 cases d with
 | mrow r off len=>exact DY hm hr ho
 | _=>exact hr
theorem Ib [aa P]{h:H}{g:Mem}{w:World}(hm:HM P h g w){r i off:Nat}{x:Value}(hr:ag w (jY g) (.mptr r i off) x)(ho:(h r).isSome=true /\ ∀c∈dL (.mptr r i off) h,mR h c) :
  ag w (jY g) (.eptr ((dL (.mptr r i off) h).map (ou h))) x:=by
 obtain⟨o1,o2⟩:=ho
 obtain⟨bl,hbl⟩:=Yn.1 o1
 simp only[dL,hbl]at o2 ⊢
 cases hr with|mptr _ _ _ x hx hU hv =>
 obtain⟨blk,c,h1,h2,h3,h4,h5⟩:=hm.blk r bl hbl
 obtain⟨hcm,b,rfl,rfl⟩:=hv _ _ _ h1
 rcases h5 with⟨h5,_⟩|⟨b',cur,h5,k1,k2,k3,k4⟩
 . cases h5
 cases h5
 have key : ∀j d,((bl.rows.getD i []).drop off)[j]? = some d -> ∃u,cur[i*P.cellsOf bl.ty+off+j]? = some u/\ag w g d u:=by
  intro j d hd;rw[YJ]at hd
  cases eB:bl.rows[i]? with
  | none=>rw[List.getD,eB]at hd;simp at hd
  | some row =>
   rw[List.getD,eB,YA]at hd;obtain⟨u,p1,_,p3⟩:=(k4 i row eB).2 (off+j) d hd;exact⟨u,by rw[Nat.add_assoc];exact p1,p3⟩
 refine .eptr _ _ (λj=>cur.getD (i*P.cellsOf bl.ty+off+j) undef) (.inr ⟨r,_,_,h1⟩) (λj d hd=>?_) (λj d hd=>?_)
 .
  obtain⟨d',e1,rfl⟩:=dY hd;obtain⟨u,p1,p2⟩:=key j d' e1;rw[jR,cell_of_row w b _ cur bl.ty (0,0) (k1.cells hcm),p1]
  simp[YV,p1]
 obtain⟨d',e1,rfl⟩:=dY hd
 obtain⟨u,p1,p2⟩:=key j d' e1
 have e2:cur.getD (i*P.cellsOf bl.ty+off+j) undef=u:=by simp[YV,p1]
 rw[e2]
 exact Zcb hm (lN p2) (o2 d' (X6 e1))
theorem Pv [aa P]{h:H}{g:Mem}{w:World}(hm:HM P h g w){d:D}{v:Value}(hr:ag w (jY g) d v)(ho:tQ h d):ag w (jY g) (tT h d) v:=by
 cases d with
 | mrow r off len=>exact DY hm hr ho
 | mptr r i off=>exact Ib hm hr ho
 | _=>exact hr
theorem Ia [aa P]{h:H}{g:Mem}{w:World}(hm:HM P h g w){d:D}{v:Value}(hr:ag w (jY g) d v)(ho:iT h d) :
  ag w (jY g) (deref h d) v:=by
 cases d with
 | mrow r off len=>exact DY hm hr ho
 | mptr r i off=>exact Ib hm hr ho
 | fn f a b =>
  cases hr with
  | fn _ _ _ fs cs hf hc h1 h2 =>
   refine .fn f _ _ fs cs (by simpa using hf) (by simpa using hc) (λi d x e1 e2=>?_) (λi d x e1 e2=>?_)
   . obtain⟨d',e3,rfl⟩:=dY e1;exact Pv hm (h1 i d' x e3 e2) (ho.1 d' (X6 e3))
   obtain⟨d',e3,rfl⟩:=dY e1;exact Pv hm (h2 i d' x e3 e2) (ho.2 d' (X6 e3))
 | _=>exact hr
def Zb9 [aa P]{h:H}{g:Mem}{w:World}(hm:HM P h g w){d:D}{v:Value}(hr:ag w g d v)(ho:iT h d):ag w (jY g) (deref h d) v:=Ia hm (lN hr) ho
def Zca{h:H}{d:D}(hd:u7 d=false):tT h d=d:=by cases d<;>first|rfl|cases hd
theorem Pt{h:H}{ds:List D}(hd:ds.any u7=false):ds.map (tT h)=ds:=by
 rw[List.any_eq_false]at hd
 conv=>rhs;rw[<-List.map_id ds]
 exact YG λd hm=>Zca (by have:=hd d hm;simpa using this)
theorem Ps{h:H}{d:D}(hd:gF d=false):deref h d=d:=by
 cases d<;>first|rfl|(cases hd;done)|skip
 rename_i f a b
 simp only[gF,Yb]at hd
 simp only[deref,Pt hd.1,Pt hd.2]
theorem KO [aa P]{h:H}{g:Mem}{w:World}(hm:HM P h g w){k:FuncId}{zs:List D}{vs:List Value}{res:D}(hzs:aC w g zs vs)(hct:PureCt P k (zs.map (iQ h)) res)(hfl:zs.any gF=true->flat res=true /\ ∀y∈zs,iT h y) :
  CallsIn Fence.wide 0 P k vs.toArray w λe w'=>∃v g',e = .returned v/\ag w' g' res v/\HM P h g' w'/\ay g g' w w' /\ ∀r,g'.U r->g.U r:=by
 obtain⟨hbd,hnr,hct⟩:=hct
 by_cases hmr:zs.any gF=true
 .
  obtain⟨f1,f2⟩:=hfl hmr;have hds:aC w (jY g) (zs.map (iQ h)) vs:=by
   refine⟨by simpa using hzs.1,λi d x h1 h2=>?_⟩
   rw[Yj]at h1
   cases hi:zs[i]? with
   | none=>rw[hi]at h1;cases h1
   | some y =>
    rw[hi]at h1;simp at h1;subst h1;exact(Zb9 hm (hzs.2 i y x hi h2) (f2 y (X6 hi))).wk
  refine(hct w (λb=>g.I b \/ ∃r c s,g.M r=some (some b,c,s)) _ (λb hb=>?_) (hm.gr.later λb hb=>⟨.inl hb,rfl⟩) (hds.clean hnr λ_ h=>h)).mono ?_
  .
   rcases hb with hb|⟨r,c,s,hb⟩
   . exact hm.imm b hb
   exact(kH hm hb).1
  rintro e w' ⟨v,rfl,hbel,hv⟩;have mono:ay g g w w':=⟨hbel.os,hbel.tape,hbel.output,hbel.size,hbel.drawn,λ_ h=>h,λ_ _=>.inl rfl,λr b c s h=>.inl ⟨r,c,s,h⟩,λ_ h=>h,λ_ h=>.inl h,λb hb _=>hbel.block b hb⟩
  refine⟨v,g,rfl,Oh hv f1,⟨hm.dead,λr bl hr=>?_,hm.inj,hm.used,λb hb=>YW (hm.imm b hb) hbel.size,hm.gr.later (hm.kept mono)⟩,mono,λ_ h=>h⟩
  obtain⟨blk,c,h1,h2,h3,h4,h5⟩:=hm.blk r bl hr;refine⟨blk,c,h1,h2,h3,h4,?_⟩
  rcases h5 with h5|⟨b,cur,rfl,h6,h7,h8,h9⟩
  . exact .inl h5
  refine .inr ⟨b,cur,rfl,by rw[hbel.block b (kH hm h1).1];exact h6,h7,h8,λi row hi=>⟨(h9 i row hi).1,λj d hd=>?_⟩⟩
  obtain⟨u,k3,k4,k5⟩:=(h9 i row hi).2 j d hd;exact⟨u,k3,k4,k5.later hm mono⟩
 have hzs:aC w g (zs.map (iQ h)) vs:=by
  refine⟨by simpa using hzs.1,λi d x h1 h2=>?_⟩
  obtain⟨y,h3,rfl⟩:=dY h1;have hy:gF y=false:=by
   cases hq:gF y with
   | false=>rfl
   | true=>exact absurd (ZE.2 ⟨y,X6 h3,hq⟩) hmr
  have:deref h y=y:=Ps hy
  show ag w g (wk (deref h y)) x
  rw[this];exact(hzs.2 i y x h3 h2).wk
 refine(hct w g.I _ hm.imm hm.gr (hzs.clean hnr λ_ h=>h)).mono ?_
 rintro e w' ⟨v,rfl,hbel,hv⟩
 let g':Mem:={ g with I:=λb=>g.I b\/(w.heap.size<=b/\b<w'.heap.size) }
 have mono:ay g g' w w':=⟨hbel.os,hbel.tape,hbel.output,hbel.size,hbel.drawn,λ_ h=>h,λ_ _=>.inl rfl,λr b c s h=>.inl ⟨r,c,s,h⟩,λ_ h=>.inl h,λb h=>by rcases h with h|h;exact .inl h;exact .inr (.inl h.1),λb hb _=>hbel.block b hb⟩
 refine⟨v,g',rfl,by refine ag.mono ?_ ?_ ?_ hv;exact λb hb=>⟨hb,rfl⟩;exact λ_ h=>False.elim h;exact λ_ h=>False.elim h,⟨hm.dead,λr bl hr=>?_,hm.inj,hm.used,λb hb=>?_,hm.gr.later (hm.kept mono)⟩,mono,λ_ h=>h⟩
 .
  obtain⟨blk,c,h1,h2,h3,h4,h5⟩:=hm.blk r bl hr;refine⟨blk,c,h1,h2,h3,h4,?_⟩
  rcases h5 with h5|⟨b,cur,rfl,h6,h7,h8,h9⟩
  . exact .inl h5
  have hlt:=(kH hm h1).1;refine .inr ⟨b,cur,rfl,by rw[hbel.block b hlt];exact h6,h7,λhI=>?_,λi row hi=>⟨(h9 i row hi).1,λj d hd=>?_⟩⟩
  .
   rcases hI with hI|hI
   . exact h8 hI
   omega
  obtain⟨u,k3,k4,k5⟩:=(h9 i row hi).2 j d hd;exact⟨u,k3,k4,k5.later hm mono⟩
 rcases hb with hb|hb
 . exact YW (hm.imm b hb) hbel.size
 exact hb.2
theorem Nf{ys:List D}{h:H}(hn:ys.any gF=false):ys.map (iQ h)=ys.map wk:=by
 rw[List.any_eq_false]at hn
 exact YG λd hd=>by
  have:=hn d hd;simp only[Bool.not_eq_true]at this
  show wk (deref h d)=wk d
  rw[Ps this]
def Gh(g:Mem):Mem:=eY λb=>g.I b \/ ∃r c s,g.M r=some (some b,c,s)
theorem lQ{ds:List D}(h : ∀d∈ds,d.nr=true):bK ds=true:=by
 induction ds with
 | nil=>rfl
 | cons d ds ih=>simp[bK,h d (by simp),ih λd hd=>h d (by simp[hd])]
theorem CB{ds:List (List D)}(h : ∀d∈ds,bK d=true):aZ ds=true:=by
 induction ds with
 | nil=>rfl
 | cons d ds ih=>simp[aZ,h d (by simp),ih λd hd=>h d (by simp[hd])]
theorem JX [aa P]{h:H}{g:Mem}{w:World}(hm:HM P h g w):∀(k:Nat)(d:D)(v:Value),ag w (jY g) d v->dE h k d->ag w (Gh g) (dF h k d) v/\(dF h k d).nr=true:=by
 intro k
 induction k with
 | zero=>exact λd v hr ho=>⟨hr.clean ho λb hb=>hb,ho⟩
 | succ k ih =>
  intro d v hr ho
  cases d with
  | mrow r off len =>
   obtain⟨o1,o2⟩:=ho;have hd:=Ia hm hr o1;simp only[deref]at hd;simp only[dF];generalize aj (.mrow r off len) h=rows at hd o2 ⊢;refine⟨?_,?_⟩
   .
    cases hd with
    | empty _ a cap hf hmx=>exact .empty false a cap hf hmx
    | list _ _ ad cap size cv hI hl hf hmx hs hc hrr =>
     have e:rows.length=(rows.map λrow=>row.map (dF h k)).length:=by simp
     rw[e];refine .list false _ ad cap size cv hI (by simpa using hl) (λh=>by cases h) hmx (λrow hrow=>?_) (λi j row d h1 h2=>?_) (λi j row d h1 h2=>?_)
     .
      simp only[Yh]at hrow;obtain⟨row',h1,rfl⟩:=hrow
      simpa using hs row' h1
     .
      rw[Yj]at h1
      cases eB:rows[i]? with
      | none=>rw[eB]at h1;cases h1
      | some row' =>
       rw[eB]at h1;simp at h1;subst h1;rw[Yj]at h2
       cases kY:row'[j]? with
       | none=>rw[kY]at h2;cases h2
       | some d'=>exact hc i j row' d' eB kY
     rw[Yj]at h1
     cases eB:rows[i]? with
     | none=>rw[eB]at h1;cases h1
     | some row' =>
      rw[eB]at h1;simp at h1;subst h1;rw[Yj]at h2
      cases kY:row'[j]? with
      | none=>rw[kY]at h2;cases h2
      | some d' =>
       rw[kY]at h2;simp at h2;subst h2;exact(ih d' _ (hrr i j row' d' eB kY) (o2 row' (X6 eB) d' (X6 kY))).1
   refine CB λrow hrow=>lQ λd hd'=>?_
   simp only[Yh]at hrow;obtain⟨row',h1,rfl⟩:=hrow;simp only[Yh]at hd';obtain⟨d',h2,rfl⟩:=hd'
   cases hd with
   | empty=>cases h1
   | list _ _ ad cap size cv hI hl hf hmx hs hc hrr =>
    obtain⟨i,hi⟩:=YB h1;obtain⟨j,hj⟩:=YB h2;exact(ih d' _ (hrr i j row' d' hi hj) (o2 row' h1 d' h2)).2
  | agg cs =>
   obtain⟨vs,rfl,hv⟩:=hr.agg_inv;simp only[dF];refine⟨.mk_agg ⟨by simpa using hv.1,λi d x h1 h2=>?_⟩,lQ λd hd=>?_⟩
   .
    rw[Yj]at h1
    cases hci:cs[i]? with
    | none=>rw[hci]at h1;cases h1
    | some c =>
     rw[hci]at h1;simp at h1;subst h1;exact(ih c x (hv.2 i c x hci h2) (ho c (X6 hci))).1
   simp only[Yh]at hd;obtain⟨c,h1,rfl⟩:=hd;obtain⟨i,hi⟩:=YB h1;have hlt:i<vs.toList.length:=by rw[<-hv.1];exact(XY.1 hi).1
   exact(ih c _ (hv.2 i c _ hi (X5 hlt)) (ho c h1)).2
  | tuple cs =>
   obtain⟨vs,rfl,hv⟩:=hr.tuple_inv;simp only[dF];refine⟨.mk_tuple ⟨by simpa using hv.1,λi d x h1 h2=>?_⟩,lQ λd hd=>?_⟩
   .
    rw[Yj]at h1
    cases hci:cs[i]? with
    | none=>rw[hci]at h1;cases h1
    | some c =>
     rw[hci]at h1;simp at h1;subst h1;exact(ih c x (hv.2 i c x hci h2) (ho c (X6 hci))).1
   simp only[Yh]at hd;obtain⟨c,h1,rfl⟩:=hd;obtain⟨i,hi⟩:=YB h1;have hlt:i<vs.toList.length:=by rw[<-hv.1];exact(XY.1 hi).1
   exact(ih c _ (hv.2 i c _ hi (X5 hlt)) (ho c h1)).2
  | iface t d =>
   cases hr with
   | iface _ _ x h1 =>
    obtain⟨q1,q2⟩:=ih d x h1 ho;exact⟨.iface t _ x q1,q2⟩
  | mptr r i off =>
   obtain⟨o1,o2⟩:=ho;obtain⟨bl,hbl⟩:=Yn.1 o1;simp only[dF];have ecs:dL (.mptr r i off) h=(bl.rows.getD i []).drop off:=by simp only[dL,hbl]
   rw[ecs]at o2 ⊢
   cases hr with|mptr _ _ _ x hx hU hv =>
   obtain⟨blk,c,h1,h2,h3,h4,h5⟩:=hm.blk r bl hbl;obtain⟨hcm,b,rfl,rfl⟩:=hv _ _ _ h1
   rcases h5 with⟨h5,_⟩|⟨b',cur,h5,k1,k2,k3,k4⟩
   . cases h5
   cases h5
   have key : ∀j d,((bl.rows.getD i []).drop off)[j]? = some d -> ∃u,cur[i*P.cellsOf bl.ty+off+j]? = some u/\ag w g d u:=by
    intro j d hd;rw[YJ]at hd
    cases eB:bl.rows[i]? with
    | none=>rw[List.getD,eB]at hd;simp at hd
    | some row =>
     rw[List.getD,eB,YA]at hd;obtain⟨u,p1,_,p3⟩:=(k4 i row eB).2 (off+j) d hd;exact⟨u,by rw[Nat.add_assoc];exact p1,p3⟩
   refine⟨.eptr _ _ (λj=>cur.getD (i*P.cellsOf bl.ty+off+j) undef) (.inr ⟨r,_,_,h1⟩) (λj d hd=>?_) (λj d hd=>?_),lQ λd hd=>?_⟩
   .
    obtain⟨d',e1,rfl⟩:=dY hd;obtain⟨u,p1,p2⟩:=key j d' e1;rw[jR,cell_of_row w b _ cur bl.ty (0,0) (k1.cells hcm),p1]
    simp[YV,p1]
   .
    obtain⟨d',e1,rfl⟩:=dY hd;obtain⟨u,p1,p2⟩:=key j d' e1;have e2:cur.getD (i*P.cellsOf bl.ty+off+j) undef=u:=by simp[YV,p1]
    rw[e2];exact(ih d' u (lN p2) (o2 d' (X6 e1))).1
   obtain⟨d',e1,rfl⟩:=Yh.1 hd;obtain⟨j,hj⟩:=YB e1;obtain⟨u,p1,p2⟩:=key j d' hj;exact(ih d' u (lN p2) (o2 d' e1)).2
  | fn f a b =>
   cases hr with
   | fn _ _ _ fs cs hf hc h1 h2 =>
    simp only[dF];refine⟨.fn f _ _ fs cs (by simpa using hf) (by simpa using hc) (λi d x e1 e2=>?_) (λi d x e1 e2=>?_),?_⟩
    . obtain⟨d',e3,rfl⟩:=dY e1;exact(ih d' x (h1 i d' x e3 e2) (ho.1 d' (X6 e3))).1
    . obtain⟨d',e3,rfl⟩:=dY e1;exact(ih d' x (h2 i d' x e3 e2) (ho.2 d' (X6 e3))).1
    simp only[D.nr,XT];refine⟨lQ λd hd=>?_,lQ λd hd=>?_⟩
    .
     obtain⟨d',e1,rfl⟩:=Yh.1 hd;obtain⟨i,hi⟩:=YB e1;have hlt:i<fs.size:=by rw[<-hf];exact(XY.1 hi).1
     exact(ih d' _ (h1 i d' _ hi (Zc hlt)) (ho.1 d' e1)).2
    obtain⟨d',e1,rfl⟩:=Yh.1 hd;obtain⟨i,hi⟩:=YB e1;have hlt:i<cs.size:=by rw[<-hc];exact(XY.1 hi).1
    exact(ih d' _ (h2 i d' _ hi (Zc hlt)) (ho.2 d' e1)).2
  | _=>exact⟨hr.clean ho λb hb=>hb,ho⟩
def JW [aa P]{h:H}{g:Mem}{w:World}(hm:HM P h g w){k:FuncId}{ys:List D}{vs:List Value}{res:D}(hys:aC w g ys vs)(hct:PureCt P k (ys.map (nA h)) res)(hfl:flat res=true)(hso : ∀y∈ys,dE h 5 y) :
  CallsIn Fence.wide 0 P k vs.toArray w λe w'=>∃v g',e = .returned v/\ag w' g' res v/\HM P h g' w'/\ay g g' w w' /\ ∀r,g'.U r->g.U r:=by
 obtain⟨hbd,hnr,hct⟩:=hct
 have hds:aC w (Gh g) (ys.map (nA h)) vs:=by
  refine⟨by simpa using hys.1,λi d x h1 h2=>?_⟩
  obtain⟨y,h3,rfl⟩:=dY h1;exact(JX hm 5 y x (lN (hys.2 i y x h3 h2)) (hso y (X6 h3))).1.wk
 refine(hct w (λb=>g.I b \/ ∃r c s,g.M r=some (some b,c,s)) _ (λb hb=>?_) (hm.gr.later λb hb=>⟨.inl hb,rfl⟩) hds).mono ?_
 .
  rcases hb with hb|⟨r,c,s,hb⟩
  . exact hm.imm b hb
  exact(kH hm hb).1
 rintro e w' ⟨v,rfl,hbel,hv⟩
 have mono:ay g g w w':=⟨hbel.os,hbel.tape,hbel.output,hbel.size,hbel.drawn,λ_ h=>h,λ_ _=>.inl rfl,λr b c s h=>.inl ⟨r,c,s,h⟩,λ_ h=>h,λ_ h=>.inl h,λb hb _=>hbel.block b hb⟩
 refine⟨v,g,rfl,Oh hv hfl,⟨hm.dead,λr bl hr=>?_,hm.inj,hm.used,λb hb=>YW (hm.imm b hb) hbel.size,hm.gr.later (hm.kept mono)⟩,mono,λ_ h=>h⟩
 obtain⟨blk,c,h1,h2,h3,h4,h5⟩:=hm.blk r bl hr
 refine⟨blk,c,h1,h2,h3,h4,?_⟩
 rcases h5 with h5|⟨b,cur,rfl,h6,h7,h8,h9⟩
 . exact .inl h5
 refine .inr ⟨b,cur,rfl,by rw[hbel.block b (kH hm h1).1];exact h6,h7,h8,λi row hi=>⟨(h9 i row hi).1,λj d hd=>?_⟩⟩
 obtain⟨u,k3,k4,k5⟩:=(h9 i row hi).2 j d hd
 exact⟨u,k3,k4,k5.later hm mono⟩
theorem ZcY [aa P]{C:aH}{f:Operand}{xs:List D}{h:H}{b:Nat}(hcf:C.cf=true)(hc:(dQ (words P) C f xs h b).2.2):dQ (words P) C f xs h b=((dQ (words P) { C with cf:=false,dp:=false } f xs h b).1,(dQ (words P) { C with cf:=false,dp:=false } f xs h b).2.1,(dQ (words P) C f xs h b).2.2)/\(dQ (words P) { C with cf:=false,dp:=false } f xs h b).2.2:=by
 unfold dQ at hc ⊢
 split at hc
 .
  rename_i k d ys
  by_cases hp:C.pure k=true
  . simp only[hp,hcf,Zr,Yd,YT]at hc ⊢;rw[Nf hc.2];exact⟨rfl,hc.1,λh=>by rw[hc.2]at h;cases h⟩
  simp only[hp,hcf,Zr,YT,Yd]at hc
 .
  rename_i k first aK ys hnf
  by_cases hp:C.pure k=true
  .
   cases f<;>simp only[hp,hcf,Zr,Yd,YT]at hc ⊢ <;> first
    | (rw[Nf hc.2];exact⟨rfl,hc.1,λh=>by rw[hc.2]at h;cases h⟩)
    | exact absurd rfl (hnf _)
  simp only[hp,YT]at hc;exact hc.elim
 exact hc.elim
theorem Qp [aa P]{C:aH}(hcf:C.cf=false){h:H}{g:Mem}{w:World}(hm:HM P h g w){b n:Nat}(hb : ¬g.U b)(hn : ∀r,g.U r->r<n){f:Operand}{xs:List D}{args:Array Operand}{argTypes:Array TypeId}{o:Oper}(ho:o.op = .call { callee:=.value f,args,argTypes }){ρ:Operand->Value}(hρ : ∀k,ρ (.func k) = .func (.func k) #[] #[])
  (hr:aC w g xs (ρ f::args.toList.map ρ))(hc:(dQ (words P) C f xs h b).2.2) :
  ∃k vs,(execOp ρ o).run P w = .ok (.enter k vs) w/\CallsIn Fence.wide 0 P k vs w λe w'=>∃v g',e = .returned v/\ag w' g' (dQ (words P) C f xs h b).1 v/\HM P (dQ (words P) C f xs h b).2.1 g' w'/\ay g g' w w' /\ ∀r,g'.U r->g.U r\/r=b:=by
 have hex : ∀k fs cs,ρ f = .func (.func k) fs cs->jl P k=true->(execOp ρ o).run P w = .ok (.enter k (fs++args.map ρ++cs)) w:=by
  intro k fs cs hf hbd
  simp[execOp,ho,resolve,Deferred.ofValue,hf,invoke,xM hbd]
 unfold dQ at hc ⊢
 split at hc
 .
  rename_i k d ys
  have hys:aC w g ys (args.toList.map ρ):=hr.tail
  by_cases hp:C.pure k=true
  .
   cases hdp:C.dp with
   | true =>
    simp only[hp,hcf,hdp,Zr,Yd,YT]at hc ⊢;obtain⟨⟨hbd,hnr,hct⟩,hfl,hso⟩:=hc;have e:=hex k #[] #[] (hρ k) hbd;simp only[Array.empty_append,Array.append_empty]at e;refine⟨k,_,e,?_⟩;have ea:args.map ρ=(args.toList.map ρ).toArray:=by apply Zd;simp
    rw[ea];exact(JW hm hys ⟨hbd,hnr,hct⟩ hfl hso).mono λe w'⟨v,g',q1,q2,q3,q4,q5⟩=>⟨v,g',q1,q2,q3,q4,λr hr=>.inl (q5 r hr)⟩
   | false =>
   simp only[hp,hcf,hdp,Zr,Yd,YT]at hc ⊢;obtain⟨⟨hbd,hnr,hct⟩,hfl⟩:=hc;have e:=hex k #[] #[] (hρ k) hbd;simp only[Array.empty_append,Array.append_empty]at e;refine⟨k,_,e,?_⟩;have ea:args.map ρ=(args.toList.map ρ).toArray:=by apply Zd;simp
   rw[ea];exact(KO hm hys ⟨hbd,hnr,hct⟩ hfl).mono λe w'⟨v,g',q1,q2,q3,q4,q5⟩=>⟨v,g',q1,q2,q3,q4,λr hr=>.inl (q5 r hr)⟩
  simp only[hp,hcf,YT,Yd]at hc ⊢;have hc:=hc b;have e:=hex k #[] #[] (hρ k) hc.1;simp only[Array.empty_append,Array.append_empty]at e;refine⟨k,_,e,?_⟩;have ea:args.map ρ=(args.toList.map ρ).toArray:=by apply Zd;simp
  rw[ea];refine hc.2 w g _ n hm hn hb ⟨by simpa using hys.1,λi d x h1 h2=>?_⟩
  obtain⟨y,h3,rfl⟩:=dY h1;exact(hys.2 i y x h3 h2).wk
 .
  rename_i k first aK ys _
  have hf:=hr.head;generalize hv:ρ f=vf at hf hr
  cases hf with|fn _ _ _ fs cs l1 l2 r1 r2 =>
  have e:fs++args.map ρ++cs=(fs.toList++args.toList.map ρ++cs.toList).toArray:=by apply Zd;simp
  have hzs:aC w g (first++ys++aK) (fs.toList++args.toList.map ρ++cs.toList):=aC.append (aC.append ⟨by simpa using l1,λi d x h1 h2=>r1 i d x h1 (by simpa using h2)⟩ hr.tail) ⟨by simpa using l2,λi d x h1 h2=>r2 i d x h1 (by simpa using h2)⟩
  by_cases hp:C.pure k=true
  .
   cases hdp:C.dp with
   | true =>
    simp only[hp,hcf,hdp,Zr,Yd,YT]at hc ⊢;refine⟨k,_,hex k fs cs hv hc.1.1,?_⟩;rw[e];exact(JW hm hzs hc.1 hc.2.1 hc.2.2).mono λe w'⟨v,g',q1,q2,q3,q4,q5⟩=>⟨v,g',q1,q2,q3,q4,λr hr=>.inl (q5 r hr)⟩
   | false =>
   simp only[hp,hcf,hdp,Zr,Yd,YT]at hc ⊢;refine⟨k,_,hex k fs cs hv hc.1.1,?_⟩;rw[e];exact(KO hm hzs hc.1 hc.2).mono λe w'⟨v,g',q1,q2,q3,q4,q5⟩=>⟨v,g',q1,q2,q3,q4,λr hr=>.inl (q5 r hr)⟩
  simp only[hp,YT,Yd]at hc
 exact hc.elim
theorem ZcW [aa P]{C:aH}{h:H}{g:Mem}{w:World}(hm:HM P h g w){b n:Nat}(hb : ¬g.U b)(hn : ∀r,g.U r->r<n){f:Operand}{xs:List D}{args:Array Operand}{argTypes:Array TypeId}{o:Oper}(ho:o.op = .call { callee:=.value f,args,argTypes }){ρ:Operand->Value}(hρ : ∀k,ρ (.func k) = .func (.func k) #[] #[])
  (hr:aC w g xs (ρ f::args.toList.map ρ))(hc:(dQ (words P) C f xs h b).2.2) :
  ∃k vs,(execOp ρ o).run P w = .ok (.enter k vs) w/\CallsIn Fence.wide 0 P k vs w λe w'=>∃v g',e = .returned v/\ag w' g' (dQ (words P) C f xs h b).1 v/\HM P (dQ (words P) C f xs h b).2.1 g' w'/\ay g g' w w' /\ ∀r,g'.U r->g.U r\/r=b:=by
 cases hcf:C.cf with
 | false=>exact Qp hcf hm hb hn ho hρ hr hc
 | true =>
  obtain⟨e,h2⟩:=ZcY hcf hc;rw[e];exact Qp (C:={ C with cf:=false,dp:=false }) rfl hm hb hn ho hρ hr h2
end Go.DL
namespace Go.DL
variable [Dr]
open Go.RowKit
variable {P : Program} {C : aH}
def Marks(B:Nat)(g:Mem):List Deferred->World->Prop
 | [],_=>True
 | d::ds,w=>(∃D,d.target = .collected D/\w.heap[D]? = some (.deferred (some []))/\(∀d'∈ds,d'.target ≠ .collected D)/\B<=D /\ ¬g.I D)/\Marks B g ds w
theorem pJ [aa P]{h:H}{g:Mem}{w:World}(hm:HM P h g w){D:Nat}{o:Obj}(hD:w.heap[D]? = some o)(ho : ∀c e f,o ≠ .cells c e f)(ho2 : ∀c e,o ≠ .map c e:=by intro c e;simp):∀r c s,g.M r≠some (some D,c,s):=by
 intro r c s e
 cases hr:h r with
 | none=>rw[hm.dead r hr]at e;cases e
 | some bl =>
  obtain⟨blk,c',h1,_,_,_,h5⟩:=hm.blk r bl hr;rw[e]at h1;simp only[XU,Yo]at h1
  rcases h5 with⟨h6,_⟩|⟨b',cur,h6,h7,_⟩
  . rw[<-h1.1]at h6;cases h6
  rw[<-h1.1]at h6;cases h6
  obtain⟨x,hx,hy⟩:=h7.some;rw[hD]at hx;cases hx
  rcases hy with⟨_,_,_,hy⟩|⟨_,_,hy⟩
  . exact ho _ _ _ hy
  exact ho2 _ _ hy
def wW [aa P]{h:H}{g g':Mem}{w w':World}(hm:HM P h g w)(k:ay g g' w w'){D:Nat}{o:Obj}(hD:w.heap[D]? = some o)(ho : ∀c e f,o ≠ .cells c e f)(ho2 : ∀c e,o ≠ .map c e:=by intro c e;simp):w'.heap[D]? = some o:=by
 rw[k.same D (X9.1 hD).1 (pJ hm hD ho ho2)];exact hD
theorem Marks.later [aa P]{h:H}{g g':Mem}{w w':World}(hm:HM P h g w)(k:ay g g' w w'){B:Nat}:∀{ds:List Deferred},Marks B g ds w->Marks B g' ds w'
 | [],_=>trivial
 | d::ds,⟨⟨D,h1,h2,h3,h4,h5⟩,h6⟩=>⟨⟨D,h1,wW hm k h2 (λc e f=>by simp),h3,h4,λhI=>by
   rcases k.inew D hI with e|e|⟨r,c,s,e⟩
   . exact h5 e
   . have:=(X9.1 h2).1;omega
   exact pJ hm h2 (λc e f=>by simp) (λc e=>by simp) r c s e⟩,h6.later hm k⟩
structure bH where
 n:Nat
 ds:List Deferred
 fn : ∀d∈ds,∀D,d.target ≠ .collected D
def bH.of(n:Nat):bH:=⟨n,[],λ_ h=>by simp at h⟩
def gY(B:bH)(g:Mem)(ds:List Deferred)(w:World):Prop:=∃ms,ds=ms++B.ds/\Marks B.n g ms w
theorem gY.map{B:bH}{g g':Mem}{ds:List Deferred}{w w':World}(h:gY B g ds w)(k : ∀ms,Marks B.n g ms w->Marks B.n g' ms w'):gY B g' ds w' :=
 let⟨ms,h1,h2⟩:=h;⟨ms,h1,k ms h2⟩
def gY.start{B:bH}{g:Mem}{w:World}:gY B g B.ds w:=⟨[],rfl,trivial⟩
theorem gY.later [aa P]{h:H}{g g':Mem}{w w':World}(hm:HM P h g w)(k:ay g g' w w'){B:bH}{ds:List Deferred}(hd:gY B g ds w):gY B g' ds w':=hd.map λ_ h=>h.later hm k
def gY.marks{n:Nat}{g:Mem}{ds:List Deferred}{w:World}(h:gY (bH.of n) g ds w):Marks n g ds w:=by
 obtain⟨ms,h1,h2⟩:=h
 rw[h1]
 show Marks n g (ms++[]) w
 rw[Zg]
 exact h2
variable {B : bH}
structure St(P:Program)[aa P](B:bH)(s:S)(g:Mem)(a:Act)(w:World):Prop where
 sz:a.tmps.size=s.n
 tm : ∀i,ag w g (s.t i) (a.tmps.getD i undef)
 mem:HM P s.h g w
 df:gY B g a.defers w
 en:s.e.p g w
 bd:B.n<=w.heap.size
def Fw(ro:Option Nat):Fence:={ Fence.wide with round:=ro }
def zg [aa P]{ro:Option Nat}{f:FuncId}{args:Array Value}{w:World}{R:Ending->World->Prop}{n m:Nat}(h:CallsIn Fence.wide n P f args w R):CallsIn (Fw ro) m P f args w R :=
 ⟨trivial,λcs _=>h.2 cs (room_wide _)⟩
theorem cu [aa P]{s:S}{g:Mem}{a:Act}{w:World}(hs:St P B s g a w)(x:Operand):ag w g (s.ev x) (a.eval x):=by
 cases x with
 | tmp t=>exact hs.tm t
 | const v=>exact Cz w g v
 | global i=>exact .v _
 | func f=>exact .fn (.func f) [] [] #[] #[] rfl rfl (by simp) (by simp)
theorem tN [aa P]{s:S}{g:Mem}{a:Act}{w:World}(hs:St P B s g a w):∀xs:List Operand,aC w g (xs.map s.ev) (xs.map a.eval)
 | []=>.nil
 | x::xs=>.cons (cu hs x) (tN hs xs)
theorem RU{w:World}{g:Mem}{d:D}{v:Value}(h:ag w g d v)(hs:sg d=true):ag w g (sd d) v:=by
 cases d<;>first|exact h|skip
 cases h with
 | cond _ _ _ ht hf=>exact ht hs
theorem uA{w:World}{g:Mem}:∀{ds:List D}{vs:List Value},aC w g ds vs->ds.all sg=true->aC w g (ds.map sd) vs
 | [],vs,h,_=>by rw[h.of_nil];exact .nil
 | d::ds,vs,h,hs=>by
  obtain⟨x,xs,rfl,h1,h2⟩:=h.of_cons;simp only[List.all_cons,XT]at hs;exact .cons (RU h1 hs.1) (uA h2 hs.2)
theorem iF [aa P]{s:S}{g g':Mem}{a:Act}{w w':World}(hs:St P B s g a w)(k:ay g g' w w'){h':H}(hm:HM P h' g' w'){dst:Option Tmp}(hd:bS s.n dst=true){d:D}{v:Value}(hv:ag w' g' d v)(ok:Prop) :
  St P B { s with t:=s.put dst d,h:=h',ok:=ok } g' (a.put dst v) w':=by
 refine⟨?_,λi=>?_,hm,?_,Env.later hs.mem k hs.en,Yx hs.bd k.size⟩
 . cases dst<;>simp[Act.put,hs.sz]
 .
  cases dst with
  | none=>exact(hs.tm i).later hs.mem k
  | some j =>
   simp only[bS,XV]at hd;simp only[S.put,Act.put]
   by_cases e:i=j
   .
    subst e;rw[bu];have:(a.tmps.setIfInBounds i v).getD i undef=v:=by
     have:i<a.tmps.size:=by rw[hs.sz];exact hd
     simp[this]
    rw[this];exact hv
   rw[aI _ _ _ _ e];have:(a.tmps.setIfInBounds j v).getD i undef=a.tmps.getD i undef:=by
    simp[Ne.symm e]
   rw[this];exact(hs.tm i).later hs.mem k
 have:(a.put dst v).defers=a.defers:=by cases dst<;>rfl
 rw[this];exact hs.df.later hs.mem k
theorem DK [aa P]{W:aU}{op:Op}{xs:List D}{h:H}{b:Nat}(hc:aX C op ≠ .writes):(aD P W C op xs h b).2.1=h:=by
 unfold aD
 split<;>first
  | rfl
  | (exfalso;exact hc rfl)
  | skip
 .
  have hb:C.bs=false:=by
   cases hb:C.bs with
   | false=>rfl
   | true=>exact absurd (by simp[aX,hb]) hc
  simp only[hb,Yd,YT];rfl
 rename_i f args argTypes
 unfold dQ
 split
 . split<;>first|rfl|(split<;>first|rfl|(split<;>rfl))
 . split<;>first|rfl|(split<;>first|rfl|(split<;>rfl))
 rfl
def Zae{op:Op}(h:xm op=true):∃f args argTypes,op = .call { callee:=.value f,args,argTypes }:=by
 unfold xm at h
 split at h
 . exact⟨_,_,_,rfl⟩
 cases h
def H6 [aa P]{s:S}{g:Mem}{a:Act}{w:World}(hs:St P B s g a w){b N:Nat}(hb : ¬g.U b)(hN : ∀r,g.U r->r<N){o:Oper}(hc:(ak P (words P) C true o.op ((au o.op).map s.ev) s.h b).2.2)
  {ro:Option Nat}{n:Nat}{K:Act->World->Prop}{Q:Exit->Act->World->Prop}
  (hK : ∀v g' w',ag w' g' (ak P (words P) C true o.op ((au o.op).map s.ev) s.h b).1 v->HM P (ak P (words P) C true o.op ((au o.op).map s.ev) s.h b).2.1 g' w'->ay g g' w w'->(∀r,g'.U r->g.U r\/r=b)->K (a.put o.dst v) w') :
  o.wpIn (Fw ro) n P a w K Q:=by
 have hdef : ∀c,o.op ≠ .defer c:=by
  intro c e;rw[e]at hc
  simp[ak,bZ,aD]at hc
 have gq:o.semAt (Fw ro).round a.eval=execOp a.eval o:=Oper.semAt_eq _ _ _ hdef
 refine⟨λ_ _=>trivial,?_⟩
 rw[gq]
 have done:Does P g w b ((execOp a.eval o).run P w) (ak P (words P) C true o.op ((au o.op).map s.ev) s.h b).1 (ak P (words P) C true o.op ((au o.op).map s.ev) s.h b).2.1->o.uponIn (Fw ro) n P a K Q ((execOp a.eval o).run P w):=by
  rintro⟨v,g',w',hr,h1,h2,h3,h4⟩
  rcases hr with hr|⟨hr,rfl⟩
  . rw[hr,Oper.uponIn_value];exact hK v g' w' h1 h2 h3 h4
  rw[hr,Oper.uponIn_skip];exact hK undef g' w' h1 h2 h3 h4
 by_cases hp:bZ o.op=true
 . simp only[ak,hp,Zr]at hc hK done ⊢;exact done (VV hs.mem (tN hs _) hp rfl hc)
 simp only[ak,hp,YT,Yd]at hc hK done
 obtain⟨h1,h2⟩:=hc
 have hx:=uA (tN hs (au o.op)) (h1 trivial)
 by_cases hcall:xm o.op=true
 .
  obtain⟨f,args,argTypes,ho⟩:=Zae hcall;rw[ho]at h2 hx hK;simp only[aD,au]at h2 hx hK;obtain⟨k,vs,hrun,Zay⟩:=ZcW hs.mem hb hN ho (λk=>rfl) hx h2
  rw[hrun,Oper.uponIn_enter];refine⟨λh=>by simp[Fw,Fence.wide]at h,zg (Zay.mono ?_)⟩
  rintro e w' ⟨v,g',rfl,q1,q2,q3,q4⟩;exact hK v g' w' q1 q2 q3 q4
 exact done (ZbB hs.mem hb hx (by simpa using hcall) h2)
def Jq [aa P]{s:S}{g:Mem}{a:Act}{w:World}(hs:St P B s g a w){dst:Option Tmp}(hd:bS s.n dst=true)(d:D)(ok:Prop) :
  St P B { s with t:=s.put dst (.cond false d),ok:=ok } g (a.put dst undef) w :=
 iF hs (ay.refl g w) hs.mem hd (.cond false d undef (λh=>by cases h) (λ_=>rfl)) ok
theorem NM [aa P]{s:S}{g:Mem}{a:Act}{w:World}(hs:St P B s g a w){ops:Array Oper}{j:Nat}{want:Bool}(hk:jm (((ops.toList[j]?).bind (·.dst)).elim .junk s.t)=true) :
  (yielded ops a.tmps j==some want)=fq (((ops.toList[j]?).bind (·.dst)).elim .junk s.t) want:=by
 rw[YH]at hk ⊢
 unfold yielded
 cases hd:(ops[j]?).bind (·.dst)with
 | none=>rw[hd]at hk;simp[jm]at hk
 | some d =>
  rw[hd]at hk;simp only[Option.elim,Option.bind_some]at hk ⊢;have hr:=hs.tm d;have hv : ∀v,a.tmps.getD d undef=v->v≠undef->a.tmps[d]? = some v:=by
   intro v e hne
   cases hq:a.tmps[d]? with
   | none =>
    have hq':=Array.getElem?_eq_none_iff.1 hq;simp only[Array.getD]at e;rw[dif_neg (by omega)]at e
    exact absurd e.symm hne
   | some x=>simp[hq]at e;rw[e]
  generalize hv0:a.tmps.getD d undef=v0 at hr hv;generalize hd0:s.t d=d0 at hr hk
  cases hr with
  | v x =>
   cases v0<;>simp only[jm]at hk<;>try (cases hk;done)
   rename_i bv
   rw[hv _ rfl (by simp[undef])]
   simp[fq]
  | cond g0 d1 _ ht hf =>
   cases g0 with
   | true =>
    have h1:=ht rfl
    cases h1 with
    | v x =>
     cases v0<;>simp only[jm]at hk<;>try (cases hk;done)
     rename_i bv
     rw[hv _ rfl (by simp[undef])]
     simp[fq]
    | _=>simp[jm]at hk
   | false =>
    have h1:=hf rfl;subst h1
    split
    .
     rename_i b e
     have hlt:=(X9.1 e).1;rw[Zc hlt]at e;simp only[Array.getD,dif_pos hlt]at hv0;simp only[XU]at e;have:=hv0.symm.trans e
     simp[undef]at this
    have hz:fq (.cond false d1) want=false:=by
     unfold fq
     split
     . rename_i e;cases e
     . rename_i e;cases e;simp
     rfl
    rw[hz];rfl
  | _=>simp[jm]at hk
theorem A7 [aa P]{s:S}{g:Mem}{a:Act}{w:World}(hs:St P B s g a w){b i N:Nat}(hb : ¬g.U (b+i))(hN : ∀r,g.U r->r<N){ops:Array Oper}{o:Oper}(hi:ops[i]? = some o)(hok:(bL P (words P) C ops.toList b i o s).ok)
  {ro:Option Nat}{n:Nat}{K:Act->World->Prop}{Q:Exit->Act->World->Prop}
  (hK : ∀g' a' w',St P B (bL P (words P) C ops.toList b i o s) g' a' w'->ay g g' w w'->(∀r,g'.U r->g.U r\/r=b+i)->K a' w'):wpOpIn (Fw ro) n P ops Q i K a w:=by
 unfold wpOpIn
 rw[hi]
 simp only
 unfold bL at hok hK
 cases hg:o.guard with
 | none =>
  rw[hg]at hok hK;simp only at hok hK;obtain⟨_,h2,h3⟩:=hok;have hw:Region.wanted o (yielded ops a.tmps)=true:=by simp[Region.wanted,hg]
  rw[X0 hw];exact H6 hs hb hN h3 λv g' w' h4 h5 h6 h7=>hK g' _ w' (iF hs h6 h5 h2 h4 _) h6 h7
 | some jw =>
  obtain⟨j,want⟩:=jw;rw[hg]at hok hK;simp only at hok hK;obtain⟨_,h2,h3,h4,h5⟩:=hok;have hgv:=NM hs (want:=want) h3;have hwt:Region.wanted o (yielded ops a.tmps)=fq (((ops.toList[j]?).bind (·.dst)).elim .junk s.t) want:=by simp only[Region.wanted,hg];exact hgv
  rw[hwt];generalize fq (((ops.toList[j]?).bind (·.dst)).elim .junk s.t) want=gv at *
  cases gv with
  | false =>
   rw[XW (by simp)]
   exact⟨λ_ _=>trivial,hK g _ w (Jq hs h2 _ _) (ay.refl g w) λ_ h=>.inl h⟩
  | true =>
   rw[X0 rfl];have he:(ak P (words P) C true o.op ((au o.op).map s.ev) s.h (b+i)).2.1=s.h:=by
    unfold ak
    split
    . rfl
    exact DK h4
   refine H6 hs hb hN (h5 rfl) λv g' w' q1 q2 q3 q4=>?_
   rw[he]at q2;exact hK g' _ w' (iF hs q3 q2 h2 (.cond true _ v (λ_=>q1) (λh=>by cases h)) _) q3 q4
def Hy [aa P]{W:aU}{L:List Oper}{b i:Nat}{o:Oper}{s:S}(h:(bL P W C L b i o s).ok):s.ok:=by
 unfold bL at h
 split at h
 . exact h.1
 exact h.1
def vE [aa P]{W:aU}{L:List Oper}{b i:Nat}{o:Oper}{s:S}:(bL P W C L b i o s).n=s.n/\(bL P W C L b i o s).nx=s.nx:=by
 unfold bL
 split<;>exact⟨rfl,rfl⟩
theorem Hu [aa P]{W:aU}{L:List Oper}{b:Nat}:∀{os:List Oper}{i:Nat}{s:S},(bB P W C L b i os s).ok->s.ok
 | [],_,_,h=>h
 | _::_,_,_,h=>Hy (Hu (by exact h))
theorem Za4 [aa P]{ops:Array Oper}{b:Nat}{ro:Option Nat}{n:Nat}{Q:Exit->Act->World->Prop}{w0:World}{g0:Mem}:∀(k i:Nat)(s:S)(g:Mem)(a:Act)(w:World),St P B s g a w->ay g0 g w0 w->(∀r,g.U r->r<b+i) ->
  i+k=ops.size->(bB P (words P) C ops.toList b i (ops.toList.drop i) s).ok ->
  (∀g' a' w',St P B (bB P (words P) C ops.toList b i (ops.toList.drop i) s) g' a' w'->ay g0 g' w0 w'->(∀r,g'.U r->r<b+ops.size)->Q .normal a' w') ->
  wpOpsIn (Fw ro) n P ops Q (List.range' i k) a w:=by
 intro k
 induction k with
 | zero =>
  intro i s g a w hs hm hU hk hok hQ;have:ops.toList.drop i=[]:=YM (by simp;omega)
  rw[this]at hQ;exact hQ g a w hs hm (λr hr=>by have:=hU r hr;omega)
 | succ k ih =>
  intro i s g a w hs hm hU hk hok hQ;have hlt:i<ops.size:=by omega
  have hd:ops.toList.drop i=ops[i]::ops.toList.drop (i+1):=by rw[Yr (by simpa using hlt)];simp
  rw[hd]at hok hQ;simp only[bB]at hok hQ;rw[Ze,wpOpsIn_cons];refine A7 hs (b:=b) (N:=b+i) (λh=>by have:=hU _ h;omega) hU (by simp[hlt]) (Hu hok) λg' a' w' h1 h2 h3=>?_
  exact ih (i+1) _ g' a' w' h1 (hm.trans h2) (λr hr=>by
                                 rcases h3 r hr with h|h;· have:=hU r h;omega
                                 omega) om hok hQ
end Go.DL
namespace Go.DL
variable [Dr]
open Go.RowKit
variable {P : Program} {C : aH} {B : bH}
def RA:Operand->Option Tmp
 | .tmp t=>some t
 | _=>none
def looks(L:List Oper)(o:Oper):List Tmp :=
 (au o.op).filterMap RA++(match o.guard with|some (j,_)=>((L[j]?).bind (·.dst)).toList|none=>[])
def meets:zz->zz->Bool
 | .none,_|_,.none=>false
 | .reads,.reads=>false
 | _,_=>true
def vL(C:aH)(L:List Oper)(x y:Oper):Bool :=
 (match x.dst with|some d=>!(looks L y).contains d&&y.dst != some d|none=>true) &&
 (match y.dst with|some d=>!(looks L x).contains d|none=>true) && !meets (aX C x.op) (aX C y.op)
def maker(o:Oper):Bool:=(match o.op with | .alloc _ | .box _ _ | .makeSlice .. | .buildSlice .. => true|_=>false)&&o.guard.isNone
def uL(op:Op):Bool:=match op with
 | .load .. | .indexAddr .. | .slice .. | .lookup .. => true
 | _=>false
def reader(o:Oper):Bool:=uL o.op&&o.guard.isNone
def rE(C:aH)(o:Oper):Bool:=match o.op with
 | .call { callee:=.value f,.. }=>Aq f
 | _=>true
def fI(L:List Oper)(x y:Oper):Bool :=
 (match x.dst with|some d=>!(looks L y).contains d&&y.dst != some d|none=>true) &&
 (match y.dst with|some d=>!(looks L x).contains d|none=>true)
def jv(C:aH)(L:List Oper)(x y:Oper):Bool :=
 vL C L x y||(fI L x y&&L.all (rE C)&&((maker x&&reader y)||(reader x&&maker y)||(maker x&&maker y)))
def Ep(acc:List Nat)(o:Oper):Nat:=o.after.toList.foldl (λs e=>if Region.binds .any e then s ||| 2^e.on ||| acc.getD e.on 0 else s) 0
def dC:List Oper->List Nat->List Nat
 | [],acc=>acc
 | o::os,acc=>dC os (acc++[Ep acc o])
def vG(C:aH)(L:List Oper):Bool :=
 let B:=dC L []
 (List.range L.length).all λi=>(List.range i).all λj=>(B.getD i 0).testBit j||jv C L (L.getD j default) (L.getD i default)
theorem Qz : ∀(os:List Oper)(acc:List Nat),∃B,dC os acc=acc++B/\B.length=os.length /\ ∀(k:Nat)o,os[k]? = some o->B[k]? = some (Ep (acc++B.take k) o)
 | [],acc=>⟨[],by simp[dC],rfl,λk o h=>by simp at h⟩
 | o::os,acc=>by
  obtain⟨B,h1,h2,h3⟩:=Qz os (acc++[Ep acc o]);refine⟨Ep acc o::B,by simp[dC,h1],by simp[h2],λk o' hk=>?_⟩
  cases k with
  | zero=>simp at hk;subst hk;simp
  | succ k =>
   simp at hk
   have:=h3 k o' hk
   simpa using this
theorem Oc(acc:List Nat)(j:Nat):∀(es:List Edge)(s:Nat),(es.foldl (λs e=>if Region.binds .any e then s ||| 2^e.on ||| acc.getD e.on 0 else s) s).testBit j=true ->
  s.testBit j=true \/ ∃e∈es,Region.binds .any e=true/\(e.on=j\/(acc.getD e.on 0).testBit j=true)
 | [],s,h=>.inl h
 | e::es,s,h=>by
  simp only[Yz]at h
  rcases Oc acc j es _ h with h|⟨e',h1,h2,h3⟩
  .
   split at h
   .
    rename_i hb
    simp only[Nat.testBit_or,Ya]at h
    rcases h with(h|h)|h
    . exact .inl h
    . rw[Nat.testBit_two_pow]at h;exact .inr ⟨e,by simp,hb,.inl (by simpa using h)⟩
    exact .inr ⟨e,by simp,hb,.inr h⟩
   exact .inl h
  exact .inr ⟨e',by simp[h1],h2,h3⟩
theorem zl{L:List Oper}{X:Nat->Prop}(hX : ∀(i:Nat)o,L[i]? = some o->X i -> ∀e∈o.after.toList,Region.binds .any e=true->X e.on) :
  ∀(i:Nat)o,L[i]? = some o->(∀e∈o.after.toList,Region.binds .any e=true->X e.on) -> ∀j,((dC L []).getD i 0).testBit j=true->X j:=by
 obtain⟨BB,h1,h2,h3⟩:=Qz L []
 simp only[XZ]at h1 h3
 rw[h1]
 intro i
 induction i using Nat.strongRecOn with
 | _ i ih =>
  intro o hi hp j hj;have hBi:=h3 i o hi;rw[List.getD,hBi,YA]at hj
  rcases Oc _ j _ _ hj with h|⟨e,he,hb,h⟩
  . simp at h
  rcases h with rfl|h
  . exact hp e he hb
  rw[List.getD,YX]at h
  split at h
  .
   rename_i hlt
   have hlB:i<BB.length:=by have:=(XY.1 hBi).1;exact this
   have hlL:e.on<L.length:=by omega
   exact ih e.on hlt L[e.on] (by simp) (hX e.on _ (by simp) (hp e he hb)) j h
  simp at h
def aF(P:Program)[aa P](W:aU)(C:aH)(L:List Oper)(b i:Nat)(o:Oper)(n:Nat)(ev:Operand->D)(t:Nat->D)(h:H):D×H×Prop :=
 match o.guard with
 | none=>let r:=ak P W C true o.op ((au o.op).map ev) h (b+i);(r.1,r.2.1,bS n o.dst=true/\r.2.2)
 | some (j,want) =>
  let gd:=((L[j]?).bind (·.dst)).elim .junk t
  let r:=ak P W C (fq gd want) o.op ((au o.op).map ev) h (b+i)
  (.cond (fq gd want) r.1,h,bS n o.dst=true/\jm gd=true/\aX C o.op ≠ .writes/\(fq gd want=true->r.2.2))
theorem iO [aa P]{W:aU}{L:List Oper}{b i:Nat}{o:Oper}{s:S}:bL P W C L b i o s =
  { s with t:=s.put o.dst (aF P W C L b i o s.n s.ev s.t s.h).1,h:=(aF P W C L b i o s.n s.ev s.t s.h).2.1,ok:=s.ok/\(aF P W C L b i o s.n s.ev s.t s.h).2.2 }:=by
 unfold bL aF
 cases o.guard<;>rfl
theorem yo [aa P]{W:aU}{L:List Oper}{b i:Nat}{o:Oper}{s s':S}{n:Nat}{h:H}(he : ∀x∈looks L o,s.t x=s'.t x):aF P W C L b i o n s.ev s.t h=aF P W C L b i o n s'.ev s'.t h:=by
 have h1:(au o.op).map s.ev=(au o.op).map s'.ev:=by
  refine YG λx hx=>?_
  cases x with
  | tmp t=>exact he t (Yu.2 (.inl (ZN.2 ⟨.tmp t,hx,rfl⟩)))
  | _=>rfl
 unfold aF
 cases hg:o.guard with
 | none=>simp only[h1]
 | some jw =>
  obtain⟨j,want⟩:=jw;have h2:((L[j]?).bind (·.dst)).elim D.junk s.t=((L[j]?).bind (·.dst)).elim D.junk s'.t:=by
   cases hd:(L[j]?).bind (·.dst)with
   | none=>rfl
   | some d=>exact he d (Yu.2 (.inr (by rw[hg];simp[hd])))
  simp only[h1,h2]
theorem H5 [aa P]{W:aU}{op:Op}{xs:List D}{h h':H}{b:Nat}(hc:aX C op = .none):aD P W C op xs h b=((aD P W C op xs h' b).1,h,(aD P W C op xs h' b).2.2):=by
 unfold aD
 split<;>first
  | rfl
  | (exfalso;exact zz.noConfusion hc)
  | skip
 .
  rename_i t n ps
  have hb:C.bs=false:=by
   cases hb:C.bs with
   | false=>rfl
   | true=>simp[aX,hb]at hc
  simp only[hb,Yd,YT];rfl
 rename_i f args argTypes
 have hcf:C.cf=true:=by
  cases hcf:C.cf with
  | true=>rfl
  | false=>simp[aX,hcf,Aq]at hc
 unfold dQ
 split
 .
  simp only[hcf,Zr]
  split<;>rfl
 .
  simp only[hcf,Zr]
  split<;>rfl
 rfl
theorem Pd [aa P]{W:aU}{g:Bool}{op:Op}{xs:List D}{h h':H}{b:Nat}(hc:aX C op = .none):ak P W C g op xs h b=((ak P W C g op xs h' b).1,h,(ak P W C g op xs h' b).2.2):=by
 unfold ak
 split
 . rfl
 simp only
 rw[H5 (h:=h) (h':=h') hc]
theorem FO [aa P]{W:aU}{L:List Oper}{b i:Nat}{o:Oper}{ev:Operand->D}{t:Nat->D}{n:Nat}{h h':H}(hc:aX C o.op = .none) :
  aF P W C L b i o n ev t h=((aF P W C L b i o n ev t h').1,h,(aF P W C L b i o n ev t h').2.2):=by
 unfold aF
 cases o.guard with
 | none=>simp only;rw[Pd (h:=h) (h':=h') hc]
 | some jw=>simp only;rw[Pd (h:=h) (h':=h') hc]
theorem yn [aa P]{W:aU}{L:List Oper}{b i:Nat}{o:Oper}{ev:Operand->D}{t:Nat->D}{n:Nat}{h:H}(hc:aX C o.op ≠ .writes):(aF P W C L b i o n ev t h).2.1=h:=by
 unfold aF
 cases o.guard with
 | none =>
  simp only;unfold ak
  split
  . rfl
  exact DK hc
 | some jw=>rfl
def WT{y:zz}(h:meets .writes y=false):y = .none:=by cases y<;>simp[meets]at h ⊢
def WS{x:zz}(h:meets x .writes=false):x = .none:=by cases x<;>simp[meets]at h ⊢
theorem DJ [aa P]{W:aU}{L:List Oper}{b i j:Nat}{x y:Oper}{s:S}(hs:fI L x y=true)
  (key : ∀(rx ry:D)(hx hy:H)(px py:Prop),(aF P W C L b i x s.n s.ev s.t s.h)=(rx,hx,px)->(aF P W C L b j y s.n s.ev s.t s.h)=(ry,hy,py) ->
   ∃hz,aF P W C L b j y s.n s.ev s.t hx=(ry,hz,py)/\aF P W C L b i x s.n s.ev s.t hy=(rx,hz,px)):bL P W C L b j y (bL P W C L b i x s)=bL P W C L b i x (bL P W C L b j y s):=by
 simp only[fI,XT]at hs
 obtain⟨h1,h2⟩:=hs
 have nx : ∀d,x.dst=some d->d ∉ looks L y/\y.dst≠some d:=by
  intro d hd;rw[hd]at h1;simp only[XT,X7,ZF]at h1;exact⟨by simpa using h1.1,h1.2⟩
 have ny : ∀d,y.dst=some d->d ∉ looks L x:=by
  intro d hd;rw[hd]at h2
  simpa using h2
 have look : ∀{u:Oper}{s:S}{dst:Option Tmp}{r:D},(∀d,dst=some d->d ∉ looks L u) -> ∀z∈looks L u,s.t z=(S.put s dst r) z:=by
  intro u s dst r hd z hz
  cases dst with
  | none=>rfl
  | some d=>exact(aI _ _ _ _ (λe=>hd d rfl (by rw[<-e];exact hz))).symm
 have ly : ∀{h':H}{ok':Prop}{r:D}{n:Nat}{h:H},aF P W C L b j y n (S.ev { s with t:=s.put x.dst r,h:=h',ok:=ok' }) (s.put x.dst r) h=aF P W C L b j y n s.ev s.t h :=
  λ{h' ok' r n h}=>(yo (s:=s) (s':={ s with t:=s.put x.dst r,h:=h',ok:=ok' }) (look λd hd=>(nx d hd).1)).symm
 have lx : ∀{h':H}{ok':Prop}{r:D}{n:Nat}{h:H},aF P W C L b i x n (S.ev { s with t:=s.put y.dst r,h:=h',ok:=ok' }) (s.put y.dst r) h=aF P W C L b i x n s.ev s.t h :=
  λ{h' ok' r n h}=>(yo (s:=s) (s':={ s with t:=s.put y.dst r,h:=h',ok:=ok' }) (look λd hd=>ny d hd)).symm
 rw[iO (s:=s) (o:=x),iO (s:=s) (o:=y),iO (o:=y),iO (o:=x)]
 simp only[ly,lx]
 have hput : ∀r q,S.put { s with t:=s.put x.dst r } y.dst q=S.put { s with t:=s.put y.dst q } x.dst r:=by
  intro r q
  cases hx:x.dst with
  | none=>rfl
  | some d =>
   cases hy:y.dst with
   | none=>rfl
   | some d' =>
    have hne:d≠d':=λe=>(nx d hx).2 (by rw[hy,e])
    funext z
    simp only[S.put,upd]
    by_cases e1:z=d
    .
     have:z≠d':=λe=>hne (e1▸e)
     simp[e1,hne]
    simp[e1]
 have hput' : ∀r q h1 ok1 h2 ok2,S.put { s with t:=s.put x.dst r,h:=h1,ok:=ok1 } y.dst q=S.put { s with t:=s.put y.dst q,h:=h2,ok:=ok2 } x.dst r:=λr q _ _ _ _=>hput r q
 rcases hox:aF P W C L b i x s.n s.ev s.t s.h with⟨rx,hx,px⟩
 rcases hoy:aF P W C L b j y s.n s.ev s.t s.h with⟨ry,hy,py⟩
 obtain⟨hz,k1,k2⟩:=key rx ry hx hy px py hox hoy
 simp only[k1,k2]
 congr 1
 . exact hput' _ _ _ _ _ _
 exact propext ⟨λ⟨⟨a,b⟩,c⟩=>⟨⟨a,c⟩,b⟩,λ⟨⟨a,b⟩,c⟩=>⟨⟨a,c⟩,b⟩⟩
def Oy [aa P]{W:aU}{L:List Oper}{b i j:Nat}{x y:Oper}{s:S}(ha:vL C L x y=true):bL P W C L b j y (bL P W C L b i x s)=bL P W C L b i x (bL P W C L b j y s):=by
 simp only[vL,XT,X7]at ha
 obtain⟨⟨h1,h2⟩,h3⟩:=ha
 refine DJ (by simp only[fI,XT];exact⟨h1,h2⟩) ?_
 generalize hX:aX C x.op=cx at h3
 generalize hY:aX C y.op=cy at h3
 intro rx ry hx hy px py e1 e2
 have ex:hx=(aF P W C L b i x s.n s.ev s.t s.h).2.1:=by rw[e1]
 have ey:hy=(aF P W C L b j y s.n s.ev s.t s.h).2.1:=by rw[e2]
 by_cases c1:cx = .writes
 .
  have c2:cy = .none:=WT (c1▸h3);subst c2;rw[yn (by rw[hY];simp)]at ey
  subst ey;refine⟨hx,?_,e1⟩;rw[FO (h:=hx) (h':=s.h) hY,e2]
 rw[yn (by rw[hX];exact c1)]at ex
 subst ex
 by_cases c2:cy = .writes
 . have c3:cx = .none:=WS (c2▸h3);refine⟨hy,e2,?_⟩;rw[FO (h:=hy) (h':=s.h) (by rw[hX,c3]),e1]
 rw[yn (by rw[hY];exact c2)]at ey
 subst ey
 exact⟨s.h,e2,e1⟩
def run1(P:Program)[aa P](W:aU)(C:aH)(L:List Oper)(b:Nat)(s:S)(i:Nat):S:=match L[i]? with
 | some o=>bL P W C L b i o s
 | none=>s
theorem zP [aa P]{W:aU}{L:List Oper}{b:Nat}:∀{l:List Nat}{s:S},(l.foldl (run1 P W C L b) s).ok->s.ok
 | [],_,h=>h
 | i::l,s,h=>by
  have h1:=zP (l:=l) h;unfold run1 at h1
  split at h1
  . exact Hy h1
  exact h1
theorem Ow [aa P]{W:aU}{L:List Oper}{b:Nat}:∀(k i:Nat)(s:S),i+k=L.length->bB P W C L b i (L.drop i) s=(List.range' i k).foldl (run1 P W C L b) s:=by
 intro k
 induction k with
 | zero =>
  intro i s hk;rw[YM (by omega)]
  simp[bB]
 | succ k ih =>
  intro i s hk;have hlt:i<L.length:=by omega
  rw[Yr hlt,Ze];simp only[bB,Yz];rw[ih (i+1) _ (by omega)]
  congr 1
  simp[run1,hlt]
def named(n:Nat):D->Bool
 | .mrow r _ _=>r==n
 | .mptr r _ _=>r==n
 | .mp r=>r==n
 | _=>false
theorem XG{a:D}{h:H}{n:Nat}{bl:av}(hn:named n a=false):nV (upd h n (some bl)) a=nV h a:=by
 cases a with
 | mp r =>
  have:r≠n:=by simpa[named]using hn
  show(upd h n (some bl) r).bind gD=(h r).bind gD
  rw[aI _ _ _ _ this]
 | _=>rfl
theorem Ms [aa P]{t:TypeId}{ok:Bool}{m k:D}{h:H}{n:Nat}{bl:av}(hn:named n m=false):j5 P t ok m k (upd h n (some bl))=j5 P t ok m k h:=by
 unfold j5
 rw[XG hn]
theorem Xv{a:D}{h:H}{n:Nat}{bl:av}(hn:named n a=false):dL a (upd h n (some bl))=dL a h:=by
 cases a with
 | mptr r i off =>
  have:r≠n:=by simpa[named]using hn
  simp only[dL,aI _ _ _ _ this]
 | _=>rfl
theorem ME [aa P]{a:D}{h:H}{n:Nat}{bl:av}(hn:named n a=false):eP P a (upd h n (some bl))=eP P a h:=by
 unfold eP
 split
 . rfl
 exact Xv hn
theorem Nk [aa P]{t:TypeId}{x ix:D}{h:H}{n:Nat}{bl:av}(hn:named n x=false):dM P t x ix (upd h n (some bl))=dM P t x ix h:=by
 unfold dM
 cases aT P t with
 | none=>rfl
 | some e =>
  cases x with
  | mrow r off len =>
   have:r≠n:=by simpa[named]using hn
   cases ix with
   | v y=>cases y<;>first|rfl|simp only[aI _ _ _ _ this]
   | _=>rfl
  | list f rows =>
   cases ix with
   | v y=>cases y<;>rfl
   | _=>rfl
  | _=>cases ix<;>rfl
theorem J3 [aa P]{t:TypeId}{x:D}{l hh m:Option D}{h:H}{n:Nat}{bl:av}(hn:named n x=false):lw P t x l hh m (upd h n (some bl))=lw P t x l hh m h:=by
 cases x with
 | mrow r off len =>
  have:r≠n:=by simpa[named]using hn
  simp only[lw,aI _ _ _ _ this]
 | v y=>cases y<;>rfl
 | list f rows=>simp only[lw]
 | _=>rfl
theorem Ci{op:Op}(hc:uL op=true):(∃t x,op = .load t x)\/(∃t x y,op = .indexAddr t x y)\/(∃t x l hh m,op = .slice t x l hh m)\/(∃t m k ok,op = .lookup t m k ok):=by
 unfold uL at hc
 split at hc<;>first
  | cases hc
  | skip
 . exact .inl ⟨_,_,rfl⟩
 . exact .inr (.inl ⟨_,_,_,rfl⟩)
 . exact .inr (.inr (.inl ⟨_,_,_,_,_,rfl⟩))
 exact .inr (.inr (.inr ⟨_,_,_,_,rfl⟩))
theorem Vf [aa P]{W:aU}{op:Op}{xs:List D}{h:H}{n b:Nat}{bl:av}(hc:uL op=true)(hn : ∀d∈xs,named n d=false) :
  aD P W C op xs (upd h n (some bl)) b=((aD P W C op xs h b).1,upd h n (some bl),(aD P W C op xs h b).2.2):=by
 rcases Ci hc with⟨t,x,rfl⟩|⟨t,x,y,rfl⟩|⟨t,x,l,hh,m,rfl⟩|⟨t,m,k,ok,rfl⟩
 .
  match xs,hn with
  | [],_=>rfl
  | [a],hn=>simp only[aD,still,iq,ME (hn a (by simp))]
  | _::_::_,_=>rfl
 .
  match xs,hn with
  | [],_=>rfl
  | [_],_=>rfl
  | [a,c],hn=>simp only[aD,still,Nk (hn a (by simp))]
  | _::_::_::_,_=>rfl
 .
  match xs,hn with
  | [],_=>rfl
  | a::al9,hn=>simp only[aD,still,J3 (hn a (by simp))]
 match xs,hn with
 | [],_=>rfl
 | [_],_=>rfl
 | [a,c],hn=>simp only[aD,still,Ms (hn a (by simp))]
 | _::_::_::_,_=>rfl
theorem CG{a:D}{n:Nat}(hn:named n a=true):(∃off len,a = .mrow n off len)\/(∃i off,a = .mptr n i off)\/a = .mp n:=by
 cases a with
 | mrow r off len =>
           have:r=n:=by simpa[named]using hn
           subst this;exact .inl ⟨_,_,rfl⟩
 | mptr r i off =>
          have:r=n:=by simpa[named]using hn
          subst this;exact .inr (.inl ⟨_,_,rfl⟩)
 | mp r =>
      have:r=n:=by simpa[named]using hn
      subst this;exact .inr (.inr rfl)
 | _=>cases hn
theorem Ve [aa P]{W:aU}{op:Op}{xs:List D}{h:H}{n b:Nat}{bl:av}(hc:uL op=true)(hno:h n=none)(hok:(aD P W C op xs h b).2.2) :
  aD P W C op xs (upd h n (some bl)) b=((aD P W C op xs h b).1,upd h n (some bl),(aD P W C op xs h b).2.2):=by
 rcases Ci hc with⟨t,x,rfl⟩|⟨t,x,y,rfl⟩|⟨t,x,l,hh,m,rfl⟩|⟨t,m,k,ok,rfl⟩
 .
  match xs,hok with
  | [a],hok =>
   cases hna:named n a with
   | false=>simp only[aD,still,iq,ME hna]
   | true =>
    exfalso
    simp only[aD,still,iq]at hok;obtain⟨q1,q2,_⟩:=hok
    rcases CG hna with⟨off,len,rfl⟩|⟨i,off,rfl⟩|rfl<;>simp[eP,dL,hno]at q1<;>omega
 .
  match xs,hok with
  | [a,c],hok =>
   cases hna:named n a with
   | false=>simp only[aD,still,Nk hna]
   | true =>
    rcases CG hna with⟨off,len,rfl⟩|⟨i,off,rfl⟩|rfl
    .
     exfalso
     simp only[aD,still]at hok;unfold dM at hok
     split at hok
     .
      unfold nW at hok
      split at hok
      . exact absurd hok.1 (by simp[ve])
      exact hok
     split at hok
     . rename_i e;cases e
     .
      rename_i e;cases e
      rw[hno]at hok;exact hok.2.2.2
     exact hok
    .
     have e : ∀h',dM P t (.mptr n i off) c h'=dM P t (.mptr n i off) c h:=by
      intro h';unfold dM
      cases aT P t<;>rfl
     simp only[aD,still,e]
    exfalso
    simp only[aD,still]at hok;unfold dM at hok
    split at hok
    .
     unfold nW at hok
     split at hok
     . exact absurd hok.1 (by simp[ve])
     exact hok
    exact hok
 .
  match xs,hok with
  | a::al9,hok =>
   cases hna:named n a with
   | false=>simp only[aD,still,J3 hna]
   | true =>
    exfalso
    simp only[aD,still]at hok
    rcases CG hna with⟨off,len,rfl⟩|⟨i,off,rfl⟩|rfl
    .
     simp only[lw]at hok
     split at hok
     . exact hok
     simp only[hno]at hok;exact hok.2.2.2
    . exact hok
    exact hok
 match xs,hok with
 | [a,c],hok =>
  cases hna:named n a with
  | false=>simp only[aD,still,Ms hna]
  | true =>
   exfalso
   simp only[aD,still]at hok
   rcases CG hna with⟨off,len,rfl⟩|⟨i,off,rfl⟩|rfl
   .
    unfold j5 at hok
    split at hok
    . rename_i e;cases e
    exact hok
   .
    unfold j5 at hok
    split at hok
    . rename_i e;cases e
    exact hok
   unfold j5 at hok
   split at hok
   .
    rename_i e
    simp only[nV,hno]at e
    cases e
   exact hok
theorem WY [aa P]{W:aU}{op:Op}(hm:(match op with | .alloc _ | .box _ _ | .makeSlice .. | .buildSlice .. => true|_=>false)=true)(xs:List D)(b:Nat) :
  ∃r p,(∃bl,∀h,aD P W C op xs h b=(r,upd h b (some bl),p)) \/ ∀h,aD P W C op xs h b=(r,h,p):=by
 cases op with
 | alloc e =>
  match xs with
  | []=>exact⟨_,_,.inl ⟨_,λh=>rfl⟩⟩
  | _::_=>exact⟨_,_,.inr λh=>rfl⟩
 | box e x =>
  match xs with
  | []=>exact⟨_,_,.inr λh=>rfl⟩
  | [a]=>exact⟨_,_,.inl ⟨_,λh=>rfl⟩⟩
  | _::_::_=>exact⟨_,_,.inr λh=>rfl⟩
 | buildSlice t n ps =>
  cases hb:C.bs with
  | false=>exact⟨_,_,.inr λh=>by simp only[aD,hb,Yd,YT,still];rfl⟩
  | true =>
   cases he:aT P t with
   | none=>exact⟨_,_,.inr λh=>by simp only[aD,hb,Zr,kC,he];rfl⟩
   | some e=>exact⟨_,_,.inl ⟨_,λh=>by simp only[aD,hb,Zr,kC,he];rfl⟩⟩
 | makeSlice t x y =>
  match xs with
  | []=>exact⟨_,_,.inr λh=>rfl⟩
  | [_]=>exact⟨_,_,.inr λh=>rfl⟩
  | _::_::_::_=>exact⟨_,_,.inr λh=>rfl⟩
  | [a,c] =>
   have key : ∃r p,(∃bl,∀h,iJ P t h b a c=(r,upd h b (some bl),p)) \/ ∀h,iJ P t h b a c=(r,h,p):=by
    by_cases hm : ∃k n k' m,a = .v (.int k n)/\c = .v (.int k' m)
    .
     obtain⟨k,n,k',m,rfl,rfl⟩:=hm
     cases he:aT P t with
     | none=>exact⟨_,_,.inr λh=>by simp only[iJ,he];rfl⟩
     | some e=>exact⟨_,_,.inl ⟨_,λh=>by simp only[iJ,he];rfl⟩⟩
    refine⟨.junk,False,.inr λh=>?_⟩
    unfold iJ
    split
    . exact absurd ⟨_,_,_,_,rfl,rfl⟩ hm
    rfl
   exact key
 | _=>cases hm
theorem Od [aa P]{W:aU}{L:List Oper}{b i:Nat}:∀(pre:List Nat)(s:S),(∀j∈pre,∀x y,L[j]? = some x->L[i]? = some y->vL C L x y=true) ->
  run1 P W C L b (pre.foldl (run1 P W C L b) s) i=pre.foldl (run1 P W C L b) (run1 P W C L b s i)
 | [],s,_=>rfl
 | j::pre,s,h=>by
  simp only[Yz];rw[Od pre _ (λj' hj'=>h j' (by simp[hj']))]
  congr 1
  unfold run1
  cases hj:L[j]? with
  | none=>rfl
  | some x =>
   cases hi:L[i]? with
   | none=>rfl
   | some y=>exact Oy (h j (by simp) x y hj hi)
def CK [aa P]{W:aU}{L:List Oper}{b i:Nat}{o:Oper}{ev:Operand->D}{t:Nat->D}{n:Nat}(hm:maker o=true) :
  ∃r p,(∃bl,∀h,aF P W C L b i o n ev t h=(r,upd h (b+i) (some bl),p)) \/ ∀h,aF P W C L b i o n ev t h=(r,h,p):=by
 simp only[maker,XT,Zb]at hm
 obtain⟨h1,h2⟩:=hm
 have hp:bZ o.op=false:=by cases ho:o.op<;>rw[ho]at h1<;>first|rfl|cases h1
 obtain⟨r,p,h⟩:=WY (P:=P) (C:=C) (W:=W) h1 (((au o.op).map ev).map sd) (b+i)
 refine⟨r,bS n o.dst=true/\((true:Bool)=true->((au o.op).map ev).all sg=true)/\p,?_⟩
 rcases h with⟨bl,h⟩|h
 .
  refine .inl ⟨bl,λhh=>?_⟩
  unfold aF;simp only[h2];unfold ak;simp only[hp,Yd,YT,h]
 refine .inr λhh=>?_
 unfold aF
 simp only[h2]
 unfold ak
 simp only[hp,Yd,YT,h]
theorem Fx{op:Op}(hc:uL op=true):bZ op=false:=by
 rcases Ci hc with⟨t,x,rfl⟩|⟨t,x,y,rfl⟩|⟨t,x,l,hh,m,rfl⟩|⟨t,m,k,ok,rfl⟩<;>rfl
def zU{o:Oper}(hr:reader o=true):uL o.op=true/\o.guard=none:=by
 simp only[reader,XT,Zb]at hr
 exact hr
def KD{o:Oper}(hr:reader o=true):aX C o.op ≠ .writes:=by
 rcases Ci (zU hr).1 with⟨t,x,e⟩|⟨t,x,y,e⟩|⟨t,x,l,hh,m,e⟩|⟨t,m,k,ok,e⟩<;>simp[e,aX]
def KC [aa P]{W:aU}{L:List Oper}{b i m:Nat}{o:Oper}{ev:Operand->D}{t:Nat->D}{n:Nat}{h:H}{bl:av}(hr:reader o=true)
  (hn:(∀d∈(au o.op).map ev,named m (sd d)=false)\/(h m=none/\(aF P W C L b i o n ev t h).2.2)) :
  aF P W C L b i o n ev t (upd h m (some bl))=((aF P W C L b i o n ev t h).1,upd h m (some bl),(aF P W C L b i o n ev t h).2.2):=by
 obtain⟨hc,hg⟩:=zU hr
 have hp:=Fx hc
 have key:aD P W C o.op (((au o.op).map ev).map sd) (upd h m (some bl)) (b+i)=((aD P W C o.op (((au o.op).map ev).map sd) h (b+i)).1,upd h m (some bl),(aD P W C o.op (((au o.op).map ev).map sd) h (b+i)).2.2):=by
  rcases hn with hn|⟨h1,h2⟩
  .
   refine Vf hc λd hd=>?_
   obtain⟨d',h1,rfl⟩:=Yh.1 hd;exact hn d' h1
  refine Ve hc h1 ?_;simp only[aF,hg,ak,hp,Yd,YT]at h2;exact h2.2.2
 simp only[aF,hg,ak,hp,Yd,YT,key]
def Jp [aa P]{t:TypeId}{m k x:D}{h:H}{r:Nat}(hn:h r=none):(jT P t m k x h).1 r=none:=by
 unfold jT
 split
 .
  split
  .
   rename_i q bl hq
   split
   . exact(aI _ _ _ _ (λe=>by subst e;rw[hn]at hq;cases hq)).trans hn
   exact hn
  exact hn
 exact hn
theorem ZbF [aa P]{W:aU}{op:Op}{xs:List D}{h:H}{b r:Nat}(hc:(match op with | .call { callee:=.value f,.. }=>Aq f|_=>true)=true)(hr:r≠b)(hn:h r=none):(aD P W C op xs h b).2.1 r=none:=by
 by_cases hw:aX C op ≠ .writes
 . rw[DK hw];exact hn
 have hw:aX C op = .writes:=by simpa using hw
 cases op with
 | alloc e =>
  match xs with
  | []=>simp only[aD,aI _ _ _ _ hr];exact hn
  | _::_=>exact hn
 | box e x =>
  match xs with
  | []=>exact hn
  | [a]=>simp only[aD,aI _ _ _ _ hr];exact hn
  | _::_::_=>exact hn
 | buildSlice t n ps =>
  have hb:C.bs=true:=by
   cases hb:C.bs with
   | true=>rfl
   | false=>simp[aX,hb]at hw
  simp only[aD,hb,Zr,kC]
  split
  . simp only[aI _ _ _ _ hr];exact hn
  exact hn
 | store t x y =>
  match xs with
  | []=>exact hn
  | [_]=>exact hn
  | _::_::_::_=>exact hn
  | [a,x] =>
   simp only[aD,eF]
   cases a with
   | mptr r' i off =>
    simp only
    cases hq:h r' with
    | none=>exact hn
    | some bl =>
     have:r≠r':=λe=>by subst e;rw[hn]at hq;cases hq
     simp only[aI _ _ _ _ this];exact hn
   | _=>exact hn
 | makeMap t ro=>simp only[aD,uX,aI _ _ _ _ hr];exact hn
 | makeSlice t x y =>
  match xs with
  | []|[_]|_::_::_::_=>exact hn
  | [a,c] =>
   simp only[aD];unfold iJ
   split
   .
    split
    . simp only[aI _ _ _ _ hr];exact hn
    exact hn
   exact hn
 | mapUpdate t m k x =>
  match xs with
  | []|[_]|[_,_]|_::_::_::_::_=>exact hn
  | [a,c,d]=>exact Jp hn
 | insert t m k x =>
  match xs with
  | []|[_]|[_,_]|_::_::_::_::_=>exact hn
  | [a,c,d]=>exact Jp hn
 | call c =>
  obtain⟨callee,args,ts⟩:=c
  cases callee with
  | value f =>
   simp only at hc
   cases hcf:C.cf<;>simp[aX,hc,hcf]at hw
  | builtin bi =>
   cases bi with
   | append =>
    match xs with
    | []=>exact hn
    | [_]=>exact hn
    | _::_::_::_=>exact hn
    | [x,y] =>
     simp only[aD]
     split
     .
      simp only[dw]
      split
      . exact hn
      split
      . simp only[aI _ _ _ _ hr];exact hn
      .
       rename_i r' n'
       cases hq:h r' with
       | none=>exact hn
       | some bl =>
        simp only[aI _ _ _ _ hr]
        by_cases e:r=r'
        . subst e;exact bu _ _ _
        rw[aI _ _ _ _ e];exact hn
      exact hn
     exact hn
   | _=>simp[aX]at hw
  | _=>simp[aX]at hw
 | _=>simp[aX]at hw
theorem Hz [aa P]{W:aU}{L:List Oper}{b i r:Nat}{o:Oper}{s:S}(hc:rE C o=true)(hr:r≠b+i)(hn:s.h r=none):(bL P W C L b i o s).h r=none:=by
 rw[iO]
 show(aF P W C L b i o s.n s.ev s.t s.h).2.1 r=none
 unfold aF
 cases o.guard with
 | some jw=>exact hn
 | none =>
  simp only[ak]
  split
  . exact hn
  exact ZbF hc hr hn
theorem J2 [aa P]{W:aU}{L:List Oper}{b i:Nat}{x y:Oper}{s:S}(hs:fI L x y=true):(au y.op).map (bL P W C L b i x s).ev=(au y.op).map s.ev:=by
 simp only[fI,XT]at hs
 refine YG λz hz=>?_
 cases z with
 | tmp t =>
  rw[iO]
  show S.put s x.dst _ t=s.t t
  cases hd:x.dst with
  | none=>rfl
  | some d =>
   have h1:=hs.1;rw[hd]at h1;simp only[XT,X7,ZF]at h1;have h2:d ∉ looks L y:=by simpa using h1.1
   refine aI _ _ _ _ λe=>h2 ?_
   subst e;exact Yu.2 (.inl (ZN.2 ⟨.tmp t,hz,rfl⟩))
 | _=>rfl
theorem Bo{L:List Oper}{x y:Oper}(h:jv C L x y=true):fI L x y=true:=by
 unfold jv at h
 simp only[Ya,XT]at h
 rcases h with h|h
 . simp only[vL,XT]at h;simp only[fI,XT];exact h.1
 exact h.1.1
def Ox [aa P]{W:aU}{L:List Oper}{b i j:Nat}{x y:Oper}{s:S}(hij:j≠i)(ha:jv C L x y=true)
  (h1:maker x=true->reader y=true -> ∀d∈(au y.op).map s.ev,named (b+j) (sd d)=false)
  (h2:reader x=true->maker y=true->s.h (b+i)=none/\(aF P W C L b j x s.n s.ev s.t s.h).2.2) :
  bL P W C L b i y (bL P W C L b j x s)=bL P W C L b j x (bL P W C L b i y s):=by
 have hs:=Bo ha
 unfold jv at ha
 simp only[Ya,XT]at ha
 rcases ha with ha|⟨_,(⟨hm,hr⟩|⟨hr,hm⟩)|⟨hm,hm2⟩⟩
 . exact Oy ha
 .
  refine DJ hs λrx ry hx hy px py e1 e2=>?_
  obtain⟨r,p,⟨bl,h⟩|h⟩:=CK (P:=P) (C:=C) (W:=W) (L:=L) (b:=b) (i:=j) (ev:=s.ev) (t:=s.t) (n:=s.n) hm
  .
   have e3:=KC (P:=P) (C:=C) (W:=W) (L:=L) (b:=b) (i:=i) (t:=s.t) (n:=s.n) (h:=s.h) (bl:=bl) hr (.inl (h1 hm hr));have e4:=h s.h;rw[e1]at e4
   cases e4
   refine⟨upd s.h (b+j) (some bl),by rw[e3,e2],?_⟩
   have:hy=s.h:=by
    have:=yn (P:=P) (W:=W) (L:=L) (b:=b) (i:=i) (ev:=s.ev) (t:=s.t) (n:=s.n) (h:=s.h) (C:=C) (o:=y) (KD hr);rw[e2]at this;exact this
   rw[h hy,this]
  have e4:=h s.h;rw[e1]at e4
  cases e4
  exact⟨hy,e2,h hy⟩
 .
  refine DJ hs λrx ry hx hy px py e1 e2=>?_
  have hxs:hx=s.h:=by
   have:=yn (P:=P) (W:=W) (L:=L) (b:=b) (i:=j) (ev:=s.ev) (t:=s.t) (n:=s.n) (h:=s.h) (C:=C) (o:=x) (KD hr);rw[e1]at this;exact this
  subst hxs;obtain⟨r,p,⟨bl,h⟩|h⟩:=CK (P:=P) (C:=C) (W:=W) (L:=L) (b:=b) (i:=i) (ev:=s.ev) (t:=s.t) (n:=s.n) hm
  .
   have e3:=KC (P:=P) (C:=C) (W:=W) (L:=L) (b:=b) (i:=j) (t:=s.t) (n:=s.n) (h:=s.h) (bl:=bl) hr (.inr (h2 hr hm));have e4:=h s.h;rw[e2]at e4
   cases e4
   exact⟨_,e2,by rw[e3,e1]⟩
  have e4:=h s.h;rw[e2]at e4
  cases e4
  exact⟨_,e2,e1⟩
 refine DJ hs λrx ry hx hy px py e1 e2=>?_
 obtain⟨r1,p1,k1⟩:=CK (P:=P) (C:=C) (W:=W) (L:=L) (b:=b) (i:=j) (ev:=s.ev) (t:=s.t) (n:=s.n) hm
 obtain⟨r2,p2,k2⟩:=CK (P:=P) (C:=C) (W:=W) (L:=L) (b:=b) (i:=i) (ev:=s.ev) (t:=s.t) (n:=s.n) hm2
 rcases k1 with⟨bl1,k1⟩|k1<;>rcases k2 with⟨bl2,k2⟩|k2<;>rw[k1]at e1<;>rw[k2]at e2<;>cases e1<;>cases e2
 .
  refine⟨_,k2 _,?_⟩;rw[k1]
  congr 2
  funext q
  by_cases q1:q=b+j<;>by_cases q2:q=b+i<;>simp[upd,q1,q2]<;>omega
 . exact⟨_,k2 _,k1 _⟩
 . exact⟨_,k2 _,k1 _⟩
 exact⟨_,k2 _,k1 _⟩
theorem Uy [aa P]{W:aU}{L:List Oper}{b j:Nat}{y:Oper}{s:S}(h : ∀x,L[j]? = some x->fI L x y=true):(au y.op).map (run1 P W C L b s j).ev=(au y.op).map s.ev:=by
 unfold run1
 cases hj:L[j]? with
 | none=>rfl
 | some x=>exact J2 (h x hj)
theorem Ha [aa P]{W:aU}{L:List Oper}{b:Nat}{y:Oper}:∀(pre:List Nat)(s:S),(∀j∈pre,∀x,L[j]? = some x->fI L x y=true)->(au y.op).map (pre.foldl (run1 P W C L b) s).ev=(au y.op).map s.ev
 | [],s,_=>rfl
 | j::pre,s,h=>by
  simp only[Yz];rw[Ha pre _ λk hk=>h k (by simp[hk]),Uy (h j (by simp))]
theorem He [aa P]{W:aU}{L:List Oper}{b i:Nat}{y:Oper}(hi:L[i]? = some y):∀(pre:List Nat)(s:S),(∀j∈pre,j≠i /\ ∀x,L[j]? = some x->jv C L x y=true) ->
  (reader y=true -> ∀j∈pre,∀d∈(au y.op).map s.ev,named (b+j) (sd d)=false)->s.h (b+i)=none->(pre.foldl (run1 P W C L b) s).ok ->
  run1 P W C L b (pre.foldl (run1 P W C L b) s) i=pre.foldl (run1 P W C L b) (run1 P W C L b s i)
 | [],s,_,_,_,_=>rfl
 | j::pre,s,h,hr,hh,hok=>by
  simp only[Yz]at hok ⊢;have hji:=(h j (by simp)).1
  have hok1:=zP hok
  cases hj:L[j]? with
  | none =>
   have e : ∀u,run1 P W C L b u j=u:=λu=>by simp only[run1,hj]
   rw[e s,e]at *;exact He hi pre s (λk hk=>h k (by simp[hk])) (λpU k hk=>hr pU k (by simp[hk])) hh hok
  | some x =>
   have hap:=(h j (by simp)).2 x hj
   have e : ∀u,run1 P W C L b u j=bL P W C L b j x u:=λu=>by simp only[run1,hj]
   have e' : ∀u,run1 P W C L b u i=bL P W C L b i y u:=λu=>by simp only[run1,hi]
   have hstep:run1 P W C L b (run1 P W C L b s j) i=run1 P W C L b (run1 P W C L b s i) j:=by
    rw[e,e,e',e'];refine Ox hji hap (λ_ pU=>hr pU j (by simp)) λ_ _=>⟨hh,?_⟩
    rw[e,iO]at hok1;exact hok1.2
   rw[<-hstep];unfold jv at hap
   by_cases hcp:L.all (rE C)=true
   .
    refine He hi pre _ (λk hk=>h k (by simp[hk])) (λpU k hk=>?_) ?_ hok
    .
     rw[e,J2 (Bo ((h j (by simp)).2 x hj))]
     exact hr pU k (by simp[hk])
    rw[e];refine Hz (Yf.1 hcp x (X6 hj)) om hh
   have hall : ∀k∈pre,∀x y',L[k]? = some x->L[i]? = some y'->vL C L x y'=true:=by
    intro k hk x' y' hx' hy';rw[hi]at hy';cases hy'
    have:=(h k (by simp[hk])).2 x' hx'
    unfold jv at this;have hcp':L.all (rE C)=false:=by simpa using hcp
    simpa[hcp']using this
   exact Od pre _ hall
theorem KA{w:World}{g:Mem}{d:D}{v:Value}{n:Nat}(hr:ag w g d v)(hg:sg d=true)(hn:named n (sd d)=true):g.U n:=by
 have key : ∀{d:D},ag w g d v->named n d=true->g.U n:=by
  intro d hr hn
  cases hr with
  | mrow r off len x hx hU h=>exact(show r=n by simpa[named]using hn)▸hU
  | mptr r i off x hx hU h=>exact(show r=n by simpa[named]using hn)▸hU
  | mp r x hx hU h=>exact(show r=n by simpa[named]using hn)▸hU
  | _=>cases hn
 cases d with
 | cond g d =>
  cases hr with
  | cond _ _ _ ht hf=>exact key (ht hg) hn
 | _=>exact key hr hn
def DU [aa P]{s:S}{g:Mem}{a:Act}{w:World}(hs:St P B s g a w):St P B s g a { w with drawn:=w.drawn+1 }/\ay g g w { w with drawn:=w.drawn+1 }:=by
 have m:ay g g w { w with drawn:=w.drawn+1 }:=⟨rfl,rfl,rfl,X3 _,λ_=>Nat.le_succ _,λ_ h=>h,λ_ _=>.inl rfl,λr _ c s h=>.inl ⟨r,c,s,h⟩,λ_ h=>h,λ_ h=>.inl h,λ_ _ _=>rfl⟩
 refine⟨⟨hs.sz,λi=>(hs.tm i).later hs.mem m,⟨hs.mem.dead,λr bl hr=>?_,hs.mem.inj,hs.mem.used,hs.mem.imm,hs.mem.gr.later (hs.mem.kept m)⟩,hs.df.later hs.mem m,Env.later hs.mem m hs.en,hs.bd⟩,m⟩
 obtain⟨blk,c,h1,h2,h3,h4,h5⟩:=hs.mem.blk r bl hr
 refine⟨blk,c,h1,h2,h3,h4,?_⟩
 rcases h5 with h5|⟨b,cur,rfl,h6,h7,h8,h9⟩
 . exact .inl h5
 exact .inr ⟨b,cur,rfl,h6,h7,h8,λi row hi=>⟨(h9 i row hi).1,λj d hd=>by
  obtain⟨u,k3,k4,k5⟩:=(h9 i row hi).2 j d hd;exact⟨u,k3,k4,k5.later hs.mem m⟩⟩⟩
def todo(n:Nat)(listed:Array Bool):List Nat:=(List.range n).filter λi=>!listed.getD i false
def Gs(L:List Oper)(k:Nat)(z:Tmp):Bool:=(List.range L.length).all λm=>decide (m<k)||(L.getD m default).dst != some z
theorem XK [aa P]{W:aU}{L:List Oper}{b:Nat}{z:Tmp}{s:S}{k:Nat}(h : ∀o,L[k]? = some o->o.dst≠some z):(run1 P W C L b s k).t z=s.t z:=by
 unfold run1
 cases hk:L[k]? with
 | none=>rfl
 | some o =>
  have:=h o hk;simp only;rw[iO]
  show S.put s o.dst _ z=s.t z
  cases hd:o.dst with
  | none=>rfl
  | some d=>exact aI _ _ _ _ λe=>this (by rw[hd,e])
theorem keeps [aa P]{W:aU}{L:List Oper}{b:Nat}{z:Tmp}:∀(l:List Nat)(s:S),(∀k∈l,∀o,L[k]? = some o->o.dst≠some z)->(l.foldl (run1 P W C L b) s).t z=s.t z
 | [],s,_=>rfl
 | k::l,s,h=>by
  simp only[Yz];rw[keeps l _ λm hm=>h m (by simp[hm]),XK (h k (by simp))]
def MZ{L:List Oper}{k:Nat}{z:Tmp}(h:Gs L k z=true){m:Nat}(hm:k<=m):∀o,L[m]? = some o->o.dst≠some z:=by
 intro o ho
 have hl:m<L.length:=(XY.1 ho).1
 simp only[Gs,Yf,YU,Ya,XV,ZF]at h
 rcases h m hl with h|h
 . omega
 simpa only[List.getD,ho,YA]using h
theorem Za3 [aa P]{W:aU}{L:List Oper}{b:Nat}:∀(k i:Nat)(s:S),i+k<=L.length->bB P W C L b i ((L.drop i).take k) s=(List.range' i k).foldl (run1 P W C L b) s:=by
 intro k
 induction k with
 | zero=>intro i s _;simp[bB]
 | succ k ih =>
  intro i s hk;have hlt:i<L.length:=by omega
  rw[Yr hlt,YD,Ze];simp only[bB,Yz];rw[ih (i+1) _ (by omega)]
  congr 1
  simp[run1,hlt]
theorem Xw{a:D}{h h':H}(hn : ∀r,named r a=true->h' r=h r):dL a h'=dL a h:=by
 cases a with
 | mptr r i off =>
  have:=hn r (by simp[named])
  simp only[dL,this]
 | _=>rfl
theorem MF [aa P]{a:D}{h h':H}(hn : ∀r,named r a=true->h' r=h r):eP P a h'=eP P a h:=by
 unfold eP
 split
 . rfl
 exact Xw hn
def Mem.only(g:Mem)(h':H):Mem:={ M:=λr=>if(h' r).isSome then g.M r else none,U:=g.U,I:=g.I }
def LA{g:Mem}{h':H}(r:Nat)(_:g.U r):(g.only h').M r=g.M r\/(g.only h').M r=none:=by
 show(if(h' r).isSome then g.M r else none)=g.M r\/(if(h' r).isSome then g.M r else none)=none
 split
 . exact .inl rfl
 exact .inr rfl
def zY{g:Mem}{h':H}{w:World}:ay g (g.only h') w w:=by
 refine⟨rfl,rfl,rfl,X3 _,λ_=>X3 _,λ_ h=>h,LA,λr b c s h=>.inl ⟨r,c,s,?_⟩,λ_ h=>h,λ_ h=>.inl h,λ_ _ _=>rfl⟩
 have h':(if(h' r).isSome then g.M r else none)=some (some b,c,s):=h
 split at h'
 . exact h'
 cases h'
theorem ag.only{g:Mem}{h':H}{w:World}{d:D}{v:Value}(h:ag w g d v):ag w (g.only h') d v :=
 ag.mono (g:=g) (g':=g.only h') (λ_ hb=>⟨hb,rfl⟩) (λ_ h=>h) LA h
theorem HM.only[aa P]{h h':H}{g:Mem}{w:World}(hm:HM P h g w)(hh : ∀r,h' r=h r\/h' r=none):HM P h' (g.only h') w:=by
 have inv : ∀{r x},(g.only h').M r=some x->g.M r=some x:=by
  intro r x e;have e:(if(h' r).isSome then g.M r else none)=some x:=e
  split at e
  . exact e
  cases e
 refine⟨λr hr=>?_,λr bl hr=>?_,λr r' b c c' s s' q1 q2=>hm.inj _ _ _ _ _ _ _ (inv q1) (inv q2),λr hr=>?_,hm.imm,hm.gr⟩
 .
  show(if(h' r).isSome then g.M r else none)=none
  rw[hr];rfl
 .
  have e:h r=some bl:=by
   rcases hh r with e|e
   . rw[<-e];exact hr
   rw[e]at hr;cases hr
  obtain⟨blk,c,h1,h2,h3,h4,h5⟩:=hm.blk r bl e;refine⟨blk,c,by show(if(h' r).isSome then g.M r else none)=_;rw[hr];exact h1,h2,h3,h4,?_⟩
  rcases h5 with h5|⟨b,cur,rfl,h6,h7,h8,h9⟩
  . exact .inl h5
  refine .inr ⟨b,cur,rfl,h6,h7,h8,λi row hi=>⟨(h9 i row hi).1,λj d hd=>?_⟩⟩
  obtain⟨u,k3,k4,k5⟩:=(h9 i row hi).2 j d hd;exact⟨u,k3,k4,k5.only⟩
 cases e:(g.only h').M r with
 | none=>exact absurd e hr
 | some x=>exact hm.used r (by rw[inv e];simp)
def jo(g:Mem)(r:Nat):Mem:={ M:=λx=>if x=r then none else g.M x,U:=g.U,I:=λb=>g.I b \/ ∃c s,g.M r=some (some b,c,s) }
theorem Du{g:Mem}{r x:Nat}{y}(e:(jo g r).M x=some y):x≠r/\g.M x=some y:=by
 have e:(if x=r then none else g.M x)=some y:=e
 split at e
 . cases e
 exact⟨‹_›,e⟩
def xG(g:Mem)(r:Nat)(w:World):ay g (jo g r) w w:=by
 refine⟨rfl,rfl,rfl,X3 _,λ_=>X3 _,λ_ h=>h,λx _=>?_,λx b c s e=>.inl ⟨x,c,s,(Du e).2⟩,λ_ h=>.inl h,λb hb=>?_,λ_ _ _=>rfl⟩
 .
  show(if x=r then none else g.M x)=g.M x\/(if x=r then none else g.M x)=none
  split
  . exact .inr rfl
  exact .inl rfl
 rcases hb with hb|⟨c,s,hb⟩
 . exact .inl hb
 exact .inr (.inr ⟨r,c,s,hb⟩)
theorem yT [aa P]{h:H}{g:Mem}{w:World}(hm:HM P h g w)(r:Nat):HM P (upd h r none) (jo g r) w:=by
 have mono:=xG g r w
 refine⟨λx hx=>?_,λx bl hx=>?_,λx x' b c c' s s' q1 q2=>hm.inj _ _ _ _ _ _ _ (Du q1).2 (Du q2).2,λx hx=>?_,λb hb=>?_,hm.gr.later (hm.kept mono)⟩
 .
  show(if x=r then none else g.M x)=none
  split
  . rfl
  rename_i e;rw[aI _ _ _ _ e]at hx;exact hm.dead x hx
 .
  by_cases e:x=r
  . subst e;rw[bu]at hx;cases hx
  rw[aI _ _ _ _ e]at hx;obtain⟨blk,c,h1,h2,h3,h4,h5⟩:=hm.blk x bl hx;refine⟨blk,c,by show(if x=r then none else g.M x)=_;rw[XW e];exact h1,h2,h3,h4,?_⟩
  rcases h5 with h5|⟨b,cur,rfl,h6,h7,h8,h9⟩
  . exact .inl h5
  refine .inr ⟨b,cur,rfl,h6,h7,λhI=>?_,λi row hi=>⟨(h9 i row hi).1,λj d hd=>?_⟩⟩
  .
   rcases hI with hI|⟨c',s',hI⟩
   . exact h8 hI
   exact e (hm.inj _ _ _ _ _ _ _ h1 hI)
  obtain⟨u,k3,k4,k5⟩:=(h9 i row hi).2 j d hd;exact⟨u,k3,k4,k5.later hm mono⟩
 .
  cases e:(jo g r).M x with
  | none=>exact absurd e hx
  | some y=>exact hm.used x (by rw[(Du e).2];simp)
 rcases hb with hb|⟨c,s,hb⟩
 . exact hm.imm b hb
 exact(kH hm hb).1
def Wt : ∀{rows rows':List (List D)},aZ rows=true->(∀r∈rows',r∈rows)->aZ rows'=true:=by
 intro rows rows' h hs
 exact CB λr hr=>Aa h (hs r hr)
def G5 [aa P]{h:H}{g:Mem}{w:World}(hm:HM P h g w){r:Nat}{ty:TypeId}{rows:List (List D)}(hr:h r=some ⟨ty,rows⟩)(hn:aZ rows=true){off k:Nat}(hk:off+k<=rows.length){v:Value}(hv:ag w g (.mrow r off k) v):ag w (jo g r) (.list false ((rows.drop off).take k)) v:=by
 let h1:H:=λx=>if x=r then h r else none
 have hsub : ∀x,h1 x=h x\/h1 x=none:=λx=>by
  by_cases e:x=r
  . subst e;exact .inl (X0 rfl)
  exact .inr (XW e)
 have hm1:=hm.only hsub
 have e1:h1 r=some ⟨ty,rows⟩:=by show(if r=r then h r else none)=_;rw[X0 rfl];exact hr
 have e2:aj (.mrow r off k) h1=(rows.drop off).take k:=by simp only[aj,e1]
 have:=DY hm1 (lN hv.only) ⟨by rw[e1];rfl,by rw[e2];simp;omega⟩
 rw[e2]at this
 refine this.clean (Wt hn λx hx=>List.mem_of_mem_drop (List.mem_of_mem_take hx)) λb hb=>?_
 rcases hb with hb|⟨x,c,sz,hb⟩
 . exact .inl hb
 have hb2:(if(h1 x).isSome then g.M x else none)=some (some b,c,sz):=hb
 split at hb2
 .
  rename_i hx
  have:x=r:=by
   refine Zv λe=>?_
   have:h1 x=none:=XW e;rw[this]at hx;cases hx
  subst this;exact .inr ⟨c,sz,hb2⟩
 cases hb2
def mK:D->List Nat
 | .mrow r _ _ | .mptr r _ _ | .mp r=>[r]
 | _=>[]
def foot(op:Op)(xs:List D)(b:Nat):List Nat:=match op,xs with
 | .load ..,[a]=>mK a
 | .alloc _,_=>[b]
 | .makeMap ..,_=>[b]
 | .call { callee:=.builtin .append,.. },[x,y]=>b::(mK x++mK y)
 | .store ..,[a,_]=>mK a
 | _,_=>[]
def vD(C:aH)(o:Oper):Bool:=(match o.op with
 | .load .. | .alloc _ | .store .. => true
 | .makeMap .. => true
 | .call { callee:=.builtin .append,.. }=>true
 | op=>aX C op == .none)
structure Loc(f:H->D×H×Prop)(F:List Nat):Prop where
 out : ∀h r,r ∉ F->(f h).2.1 r=h r
 same : ∀h h',(∀r∈F,h r=h' r)->(f h).1=(f h').1/\(f h).2.2=(f h').2.2 /\ ∀r∈F,(f h).2.1 r=(f h').2.1 r
def Loc.comm{f g:H->D×H×Prop}{F G:List Nat}(hf:Loc f F)(hg:Loc g G)(hd : ∀r∈F,r ∉ G)(h:H) :
  (g (f h).2.1).1=(g h).1/\(g (f h).2.1).2.2=(g h).2.2/\(f (g h).2.1).1=(f h).1/\(f (g h).2.1).2.2=(f h).2.2/\(g (f h).2.1).2.1=(f (g h).2.1).2.1:=by
 have a:=hg.same (f h).2.1 h λr hr=>hf.out h r λq=>hd r q hr
 have c:=hf.same (g h).2.1 h λr hr=>hg.out h r (hd r hr)
 refine⟨a.1,a.2.1,c.1,c.2.1,?_⟩
 funext r
 by_cases q1:r∈F
 . rw[c.2.2 r q1,hg.out _ r (hd r q1)]
 by_cases q2:r∈G
 . rw[a.2.2 r q2,hf.out _ r q1]
 rw[hg.out _ r q2,hf.out _ r q1,hf.out _ r q1,hg.out _ r q2]
def pO{f:H->D×H×Prop}(h1 : ∀h,(f h).2.1=h)(h2 : ∀h h',(f h).1=(f h').1/\(f h).2.2=(f h').2.2):Loc f [] :=
 ⟨λh r _=>by rw[h1],λh h' _=>⟨(h2 h h').1,(h2 h h').2,λr hr=>by cases hr⟩⟩
theorem Xf [aa P]{t:TypeId}{x:Operand}{W:aU}{xs:List D}{b:Nat}:Loc (λh=>aD P W C (.load t x) xs h b) (foot (.load t x) xs b):=by
 match xs with
 | []=>exact pO (λ_=>rfl) λ_ _=>⟨rfl,rfl⟩
 | a::c::l=>exact pO (λ_=>rfl) λ_ _=>⟨rfl,rfl⟩
 | [a] =>
  refine⟨λh r _=>rfl,λh h' hh=>?_⟩
  have key:iq P t a h=iq P t a h':=by
   have:eP P a h=eP P a h':=MF λr hr=>hh r (by
    cases a<;>first|(simp only[named,Yy]at hr;subst hr;exact Yi.2 rfl)|(cases hr))
   unfold iq;simp only[this]
  refine⟨?_,?_,λr hr=>hh r hr⟩
  .
   show(iq P t a h).1=(iq P t a h').1
   rw[key]
  show(iq P t a h).2=(iq P t a h').2
  rw[key]
theorem Xh [aa P]{t:TypeId}{W:aU}{xs:List D}{b:Nat}:Loc (λh=>aD P W C (.alloc t) xs h b) (foot (.alloc t) xs b):=by
 match xs with
 | a::l=>exact⟨λh r _=>rfl,λh h' hh=>⟨rfl,rfl,λr hr=>hh r hr⟩⟩
 | [] =>
  refine⟨λh r hr=>?_,λh h' hh=>⟨rfl,rfl,λr hr=>?_⟩⟩
  . exact aI _ _ _ _ λe=>hr (by rw[e];exact Yi.2 rfl)
  have:r=b:=Yi.1 hr;subst this
  show upd h r _ r=upd h' r _ r
  rw[bu,bu]
def Xe [aa P]{t:TypeId}{o:Option Operand}{W:aU}{xs:List D}{b:Nat}:Loc (λh=>aD P W C (.makeMap t o) xs h b) (foot (.makeMap t o) xs b):=by
 refine⟨λh r hr=>?_,λh h' hh=>⟨rfl,rfl,λr hr=>?_⟩⟩
 . exact aI _ _ _ _ λe=>hr (by rw[e];exact Yi.2 rfl)
 have:r=b:=Yi.1 hr
 subst this
 show upd h r _ r=upd h' r _ r
 rw[bu,bu]
theorem Xd [aa P]{t:TypeId}{x y:Operand}{W:aU}{xs:List D}{b:Nat}:Loc (λh=>aD P W C (.store t x y) xs h b) (foot (.store t x y) xs b):=by
 match xs with
 | []=>exact pO (λ_=>rfl) λ_ _=>⟨rfl,rfl⟩
 | [a]=>exact pO (λ_=>rfl) λ_ _=>⟨rfl,rfl⟩
 | a::c::d::l=>exact pO (λ_=>rfl) λ_ _=>⟨rfl,rfl⟩
 | [a,c] =>
  cases a with
  | mptr r k off =>
   refine⟨λh q hq=>?_,λh h' hh=>?_⟩
   .
    show(eF P t (.mptr r k off) c h).1 q=h q
    have:q≠r:=λe=>hq (by rw[e];exact Yi.2 rfl)
    cases hr:h r with
    | none=>simp only[eF,hr]
    | some bl=>simp only[eF,hr];exact aI _ _ _ _ this
   have hr:=hh r (Yi.2 rfl);refine⟨rfl,?_,λq hq=>?_⟩
   .
    show(eF P t (.mptr r k off) c h).2=(eF P t (.mptr r k off) c h').2
    simp only[eF,hr]
    cases h' r<;>rfl
   have:q=r:=Yi.1 hq;subst this
   show(eF P t (.mptr q k off) c h).1 q=(eF P t (.mptr q k off) c h').1 q
   simp only[eF,hr]
   cases h' q with
   | none=>exact hr
   | some bl=>simp only[bu]
  | _=>exact⟨λh q _=>rfl,λh h' hh=>⟨rfl,rfl,λq hq=>hh q hq⟩⟩
theorem UO{y:D}{h h':H}(hh : ∀r∈mK y,h r=h' r):aj y h=aj y h':=by
 cases y with
 | mrow r off len=>simp only[aj,hh r (Yi.2 rfl)]
 | v x=>cases x<;>rfl
 | _=>rfl
theorem Sq [aa P]{u:TypeId}{y:D}{h h':H}(hh : ∀r∈mK y,h r=h' r):ek P u h y=ek P u h' y:=by
 cases y with
 | mrow r off len=>simp only[ek,hh r (Yi.2 rfl)]
 | v x=>cases x<;>rfl
 | _=>rfl
theorem Xg [aa P]{t u:TypeId}{x y:D}{b:Nat}:Loc (λh=>dw P t u x y h b) (b::(mK x++mK y)):=by
 refine⟨λh r hr=>?_,λh h' hh=>?_⟩
 .
  have hb:r≠b:=λe=>hr (by rw[e];simp)
  have hx:r ∉ mK x:=λe=>hr (by simp[e])
  show(dw P t u x y h b).2.1 r=h r
  unfold dw
  cases aT P t with
  | none=>rfl
  | some e =>
   simp only
   split
   . exact aI _ _ _ _ hb
   .
    rename_i q n
    split
    .
     have:r≠q:=λe=>hx (by rw[e];exact Yi.2 rfl)
     show upd (upd h q none) b _ r=h r
     rw[aI _ _ _ _ hb,aI _ _ _ _ this]
    rfl
   rfl
 have e1:aj y h=aj y h':=UO λr hr=>hh r (by simp[hr])
 have e2:ek P u h y=ek P u h' y:=Sq λr hr=>hh r (by simp[hr])
 show(dw P t u x y h b).1=(dw P t u x y h' b).1/\(dw P t u x y h b).2.2=(dw P t u x y h' b).2.2 /\ ∀r∈_,(dw P t u x y h b).2.1 r=(dw P t u x y h' b).2.1 r
 unfold dw
 cases aT P t with
 | none=>exact⟨rfl,rfl,λr hr=>hh r hr⟩
 | some e =>
  simp only[e1,e2]
  split
  .
   refine⟨rfl,rfl,λr hr=>?_⟩
   show upd h b _ r=upd h' b _ r
   by_cases q:r=b
   . subst q;rw[bu,bu]
   rw[aI _ _ _ _ q,aI _ _ _ _ q];exact hh r hr
  .
   rename_i q n
   have e3:h q=h' q:=hh q (by simp[mK])
   rw[e3]
   cases h' q with
   | none=>exact⟨rfl,rfl,λr hr=>hh r hr⟩
   | some bl =>
    refine⟨rfl,rfl,λr hr=>?_⟩
    show upd (upd h q none) b _ r=upd (upd h' q none) b _ r
    by_cases q1:r=b
    . subst q1;rw[bu,bu]
    rw[aI _ _ _ _ q1,aI _ _ _ _ q1]
    by_cases q2:r=q
    . subst q2;rw[bu,bu]
    rw[aI _ _ _ _ q2,aI _ _ _ _ q2];exact hh r hr
  exact⟨rfl,rfl,λr hr=>hh r hr⟩
theorem ZbE [aa P]{W:aU}{o:Oper}{xs:List D}{b:Nat}(ho:vD C o=true):Loc (λh=>aD P W C o.op xs h b) (foot o.op xs b):=by
 have hnone:aX C o.op = .none->foot o.op xs b=[]->Loc (λh=>aD P W C o.op xs h b) (foot o.op xs b):=by
  intro hc hf;rw[hf];refine pO (λh=>?_) λh h'=>?_
  . rw[H5 (h':=h) hc]
  rw[H5 (h:=h) (h':=h') hc];exact⟨rfl,rfl⟩
 unfold vD at ho
 generalize o.op=op at ho hnone
 split at ho
 . exact Xf
 . exact Xh
 . exact Xd
 . exact Xe
 .
  rename_i args ts
  match xs with
  | []=>exact pO (λ_=>rfl) λ_ _=>⟨rfl,rfl⟩
  | [a]=>exact pO (λ_=>rfl) λ_ _=>⟨rfl,rfl⟩
  | a::c::d::l=>exact pO (λ_=>rfl) λ_ _=>⟨rfl,rfl⟩
  | [x,y] =>
   show Loc (λh=>match ts.toList with|[t,u]=>dw P t u x y h b|_=>(.junk,h,False)) (b::(mK x++mK y))
   split
   . exact Xg
   exact⟨λh r _=>rfl,λh h' hh=>⟨rfl,rfl,hh⟩⟩
 refine hnone (by simpa using ho) ?_
 unfold foot
 split<;>first|rfl|(exfalso;simp_all)
def fU(b:Nat)(r:D×H×Prop):D×H×Prop:=match r.1 with
 | .mrow q 0 m=>if q=b then(match r.2.1 b with
  | some bl=>(.list false (bl.rows.take m),upd r.2.1 b none,r.2.2/\m<=bl.rows.length/\aZ bl.rows=true)
  | none=>(.junk,r.2.1,False))else(.junk,r.2.1,False)
 | _=>(.junk,r.2.1,False)
theorem G6{b m:Nat}{h:H}{p:Prop}{bl:av}(hb:h b=some bl):fU b (.mrow b 0 m,h,p)=(.list false (bl.rows.take m),upd h b none,p/\m<=bl.rows.length/\aZ bl.rows=true):=by
 simp only[fU,Zr,hb]
theorem ZaS{b:Nat}{r:D×H×Prop}(h:(fU b r).2.2):∃m bl,r.1 = .mrow b 0 m/\r.2.1 b=some bl/\r.2.2/\m<=bl.rows.length/\aZ bl.rows=true/\fU b r=(.list false (bl.rows.take m),upd r.2.1 b none,r.2.2/\m<=bl.rows.length/\aZ bl.rows=true):=by
 obtain⟨d,h',p⟩:=r
 cases d with
 | mrow q off m =>
  cases off with
  | zero =>
   by_cases e:q=b
   .
    subst e
    cases hb:h' q with
    | none=>simp only[fU,Zr,hb]at h
    | some bl =>
     rw[G6 hb]at h;exact⟨m,bl,rfl,hb,h.1,h.2.1,h.2.2,G6 hb⟩
   simp only[fU,XW e]at h
  | succ k=>exact h.elim
 | _=>exact h.elim
theorem Loc.frz{f:H->D×H×Prop}{F:List Nat}{b:Nat}(hf:Loc f F)(hb:b∈F):Loc (λh=>fU b (f h)) F:=by
 have key : ∀h,(∃m bl,(f h).1 = .mrow b 0 m/\(f h).2.1 b=some bl/\fU b (f h)=(.list false (bl.rows.take m),upd (f h).2.1 b none,(f h).2.2/\m<=bl.rows.length/\aZ bl.rows=true))\/(fU b (f h)=(.junk,(f h).2.1,False) /\ ∀m bl,(f h).1 = .mrow b 0 m->(f h).2.1 b≠some bl):=by
  intro h
  rcases hr:f h with⟨d,h',p⟩
  cases d with
  | mrow q off m =>
   cases off with
   | zero =>
    by_cases e:q=b
    .
     subst e
     cases hb:h' q with
     | none=>exact .inr ⟨by simp only[fU,Zr,hb],λm bl _ q=>by simp only[hb]at q;cases q⟩
     | some bl=>exact .inl ⟨m,bl,rfl,hb,G6 hb⟩
    exact .inr ⟨by simp only[fU,XW e],λm bl q=>absurd (by cases q;rfl) e⟩
   | succ k=>exact .inr ⟨rfl,λm bl q=>by cases q⟩
  | _=>exact .inr ⟨rfl,λm bl q=>by cases q⟩
 refine⟨λh r hr=>?_,λh h' hh=>?_⟩
 .
  show(fU b (f h)).2.1 r=h r
  have hne:r≠b:=λe=>hr (by rw[e];exact hb)
  rcases key h with⟨m,bl,_,_,e⟩|⟨e,_⟩
  . rw[e];show upd _ b none r=h r;rw[aI _ _ _ _ hne];exact hf.out h r hr
  rw[e];exact hf.out h r hr
 show(fU b (f h)).1=(fU b (f h')).1/\(fU b (f h)).2.2=(fU b (f h')).2.2 /\ ∀r∈F,(fU b (f h)).2.1 r=(fU b (f h')).2.1 r
 obtain⟨s1,s2,s3⟩:=hf.same h h' hh
 rcases key h with⟨m,bl,k1,k2,e⟩|⟨e,k⟩<;>rcases key h' with⟨m',bl',k1',k2',e'⟩|⟨e',k'⟩
 .
  have hm:m=m':=by rw[k1,k1']at s1;cases s1;rfl
  have hbl:bl=bl':=by have:=s3 b hb;rw[k2,k2']at this;exact ZX this
  subst hm;subst hbl;rw[e,e'];refine⟨rfl,by show(_/\_)=(_/\_);rw[s2],λr hr=>?_⟩
  show upd _ b none r=upd _ b none r
  by_cases q:r=b
  . subst q;rw[bu,bu]
  rw[aI _ _ _ _ q,aI _ _ _ _ q];exact s3 r hr
 . exact absurd (by rw[<-s3 b hb];exact k2) (k' m bl (by rw[<-s1];exact k1))
 . exact absurd (by rw[s3 b hb];exact k2') (k m' bl' (by rw[s1];exact k1'))
 rw[e,e'];exact⟨rfl,rfl,s3⟩
def outG(P:Program)[aa P](W:aU)(C:aH)(L:List Oper)(b:Nat)(fz:Option Nat)(i:Nat)(o:Oper)(n:Nat)(ev:Operand->D)(t:Nat->D)(h:H):D×H×Prop :=
 if fz=some i then fU (b+i) (aF P W C L b i o n ev t h)else aF P W C L b i o n ev t h
def stepG(P:Program)[aa P](W:aU)(C:aH)(L:List Oper)(b:Nat)(fz:Option Nat)(s:S)(i:Nat):S:=match L[i]? with
 | none=>s
 | some o=>{ s with t:=s.put o.dst (outG P W C L b fz i o s.n s.ev s.t s.h).1,h:=(outG P W C L b fz i o s.n s.ev s.t s.h).2.1,ok:=s.ok/\(outG P W C L b fz i o s.n s.ev s.t s.h).2.2 }
theorem rR [aa P]{W:aU}{L:List Oper}{b i:Nat}{fz:Option Nat}{s:S}(h:fz≠some i):stepG P W C L b fz s i=run1 P W C L b s i:=by
 unfold stepG run1
 cases L[i]? with
 | none=>rfl
 | some o=>simp only[outG,XW h,iO]
def Lp [aa P]{W:aU}{L:List Oper}{b i:Nat}{fz:Option Nat}{o:Oper}{s s':S}{n:Nat}{h:H}(he : ∀x∈looks L o,s.t x=s'.t x):outG P W C L b fz i o n s.ev s.t h=outG P W C L b fz i o n s'.ev s'.t h:=by
 unfold outG
 rw[yo he]
theorem Lj [aa P]{W:aU}{L:List Oper}{b i:Nat}{o:Oper}{n:Nat}{ev:Operand->D}{t:Nat->D}(ho:vD C o=true):Loc (λh=>aF P W C L b i o n ev t h) (foot o.op (((au o.op).map ev).map sd) (b+i)):=by
 have he:=ZbE (P:=P) (W:=W) (xs:=((au o.op).map ev).map sd) (b:=b+i) ho
 cases hp:bZ o.op with
 | true =>
  have hf:foot o.op (((au o.op).map ev).map sd) (b+i)=[]:=by
   cases hop:o.op<;>simp only[hop,bZ,Yd]at hp
   rfl
  rw[hf]
  cases hg:o.guard with
  | none =>
   refine pO (λh=>?_) λh h'=>?_
   . simp only[aF,hg,ak,hp,Zr];rfl
   simp only[aF,hg,ak,hp,Zr];exact⟨rfl,rfl⟩
  | some q =>
   refine pO (λh=>?_) λh h'=>?_
   . simp only[aF,hg]
   simp only[aF,hg,ak,hp,Zr];exact⟨rfl,rfl⟩
 | false =>
  cases hg:o.guard with
  | none =>
   refine⟨λh r hr=>?_,λh h' hh=>?_⟩
   .
    show(aF P W C L b i o n ev t h).2.1 r=h r
    simp only[aF,hg,ak,hp,Yd,YT];exact he.out h r hr
   show(aF P W C L b i o n ev t h).1=(aF P W C L b i o n ev t h').1/\(aF P W C L b i o n ev t h).2.2=(aF P W C L b i o n ev t h').2.2 /\ ∀r∈_,(aF P W C L b i o n ev t h).2.1 r=(aF P W C L b i o n ev t h').2.1 r
   obtain⟨q1,q2,q3⟩:=he.same h h' hh;simp only[aF,hg,ak,hp,Yd,YT];exact⟨q1,by rw[q2],q3⟩
  | some q =>
   refine⟨λh r hr=>?_,λh h' hh=>?_⟩
   .
    show(aF P W C L b i o n ev t h).2.1 r=h r
    simp only[aF,hg]
   show(aF P W C L b i o n ev t h).1=(aF P W C L b i o n ev t h').1/\(aF P W C L b i o n ev t h).2.2=(aF P W C L b i o n ev t h').2.2 /\ ∀r∈_,(aF P W C L b i o n ev t h).2.1 r=(aF P W C L b i o n ev t h').2.1 r
   obtain⟨q1,q2,q3⟩:=he.same h h' hh;simp only[aF,hg,ak,hp,Yd,YT];exact⟨by rw[q1],by rw[q2],λr hr=>hh r hr⟩
def ui(o:Oper):Bool:=match o.op with
 | .call { callee:=.builtin .append,args,.. }=>args.toList.length==2
 | _=>false
def Zdp{o:Oper}(h:ui o=true)(hr:uL o.op=true):False:=by
 unfold ui at h
 split at h
 .
  rename_i e
  rw[e]at hr
  cases hr
 cases h
theorem Zdq{o:Oper}{ev:Operand->D}{b:Nat}(h:ui o=true):b∈foot o.op (((au o.op).map ev).map sd) b:=by
 unfold ui at h
 split at h
 .
  rename_i args ts e
  have h2:args.toList.length=2:=by simpa using h
  rw[e]
  match hq:args.toList,h2 with
  | [x,y],_ =>
   show b∈foot _ ((args.toList.map ev).map sd) b
   rw[hq];exact List.mem_cons_self
 cases h
def Lr [aa P]{W:aU}{L:List Oper}{b i:Nat}{fz:Option Nat}{o:Oper}{n:Nat}{ev:Operand->D}{t:Nat->D}(ho:vD C o=true)(hz:fz=some i->ui o=true):Loc (λh=>outG P W C L b fz i o n ev t h) (foot o.op (((au o.op).map ev).map sd) (b+i)):=by
 by_cases e:fz=some i
 .
  have:(λh=>outG P W C L b fz i o n ev t h)=λh=>fU (b+i) (aF P W C L b i o n ev t h):=by funext h;simp only[outG,X0 e]
  rw[this];exact(Lj ho).frz (Zdq (hz e))
 have:(λh=>outG P W C L b fz i o n ev t h)=λh=>aF P W C L b i o n ev t h:=by funext h;simp only[outG,XW e]
 rw[this]
 exact Lj ho
theorem VB{x y:Option Tmp}{t:Nat->D}{n n':Nat}{h h':H}{nx nx':Nat}{ok ok':Prop}{e e':Env}{r q:D}(hne : ∀d,x=some d->y≠some d):S.put { n:=n,t:=S.put { n:=n,t:=t,h:=h,nx:=nx,ok:=ok,e:=e } x r,h:=h,nx:=nx,ok:=ok,e:=e } y q=S.put { n:=n',t:=S.put { n:=n',t:=t,h:=h',nx:=nx',ok:=ok',e:=e' } y q,h:=h',nx:=nx',ok:=ok',e:=e' } x r:=by
 cases x with
 | none=>rfl
 | some d =>
  cases y with
  | none=>rfl
  | some d' =>
   have hne:d≠d':=λe=>hne d rfl (by rw[e])
   funext z
   simp only[S.put,upd]
   by_cases e1:z=d
   .
    have:z≠d':=λe=>hne (e1▸e)
    simp[e1,hne]
   simp[e1]
theorem RZ [aa P]{W:aU}{L:List Oper}{b i j:Nat}{fz:Option Nat}{x y:Oper}{s:S}(hi:L[i]? = some x)(hj:L[j]? = some y)(hs:fI L x y=true)(fx:vD C x=true)(fy:vD C y=true)(zx:fz=some i->ui x=true)(zy:fz=some j->ui y=true)
  (hd : ∀r∈foot x.op (((au x.op).map s.ev).map sd) (b+i),r ∉ foot y.op (((au y.op).map s.ev).map sd) (b+j)):stepG P W C L b fz (stepG P W C L b fz s i) j=stepG P W C L b fz (stepG P W C L b fz s j) i:=by
 simp only[fI,XT]at hs
 obtain⟨h1,h2⟩:=hs
 have nx : ∀d,x.dst=some d->d ∉ looks L y/\y.dst≠some d:=by
  intro d hd;rw[hd]at h1;simp only[XT,X7,ZF]at h1;exact⟨by simpa using h1.1,h1.2⟩
 have ny : ∀d,y.dst=some d->d ∉ looks L x:=by
  intro d hd;rw[hd]at h2
  simpa using h2
 have look : ∀{u:Oper}{s:S}{dst:Option Tmp}{r:D},(∀d,dst=some d->d ∉ looks L u) -> ∀z∈looks L u,s.t z=(S.put s dst r) z:=by
  intro u s dst r hd z hz
  cases dst with
  | none=>rfl
  | some d=>exact(aI _ _ _ _ (λe=>hd d rfl (by rw[<-e];exact hz))).symm
 have hc:=(Lr (P:=P) (W:=W) (L:=L) (b:=b) (i:=i) (n:=s.n) (ev:=s.ev) (t:=s.t) fx zx).comm (Lr (P:=P) (W:=W) (L:=L) (b:=b) (i:=j) (n:=s.n) (ev:=s.ev) (t:=s.t) fy zy) hd s.h
 obtain⟨c1,c2,c3,c4,c5⟩:=hc
 have e1 : ∀u,stepG P W C L b fz u i={ u with t:=u.put x.dst (outG P W C L b fz i x u.n u.ev u.t u.h).1,h:=(outG P W C L b fz i x u.n u.ev u.t u.h).2.1,ok:=u.ok/\(outG P W C L b fz i x u.n u.ev u.t u.h).2.2 }:=λu=>by simp only[stepG,hi]
 have e2 : ∀u,stepG P W C L b fz u j={ u with t:=u.put y.dst (outG P W C L b fz j y u.n u.ev u.t u.h).1,h:=(outG P W C L b fz j y u.n u.ev u.t u.h).2.1,ok:=u.ok/\(outG P W C L b fz j y u.n u.ev u.t u.h).2.2 }:=λu=>by simp only[stepG,hj]
 have ly : ∀h',outG P W C L b fz j y s.n (S.ev (stepG P W C L b fz s i)) (stepG P W C L b fz s i).t h'=outG P W C L b fz j y s.n s.ev s.t h':=λh'=>by
  refine(Lp (s:=s) (s':=stepG P W C L b fz s i) λz hz=>?_).symm
  rw[e1];exact look (λd hd=>(nx d hd).1) z hz
 have lx : ∀h',outG P W C L b fz i x s.n (S.ev (stepG P W C L b fz s j)) (stepG P W C L b fz s j).t h'=outG P W C L b fz i x s.n s.ev s.t h':=λh'=>by
  refine(Lp (s:=s) (s':=stepG P W C L b fz s j) λz hz=>?_).symm
  rw[e2];exact look (λd hd=>ny d hd) z hz
 have hi':(stepG P W C L b fz s i).h=(outG P W C L b fz i x s.n s.ev s.t s.h).2.1:=by rw[e1]
 have hj':(stepG P W C L b fz s j).h=(outG P W C L b fz j y s.n s.ev s.t s.h).2.1:=by rw[e2]
 have ni:(stepG P W C L b fz s i).n=s.n:=by rw[e1]
 have nj:(stepG P W C L b fz s j).n=s.n:=by rw[e2]
 rw[e2 (stepG P W C L b fz s i),e1 (stepG P W C L b fz s j),ni,nj,ly,lx,hi',hj',c1,c2,c3,c4,c5,e1 s,e2 s]
 congr 1
 . exact VB λd hd=>(nx d hd).2
 exact propext ⟨λ⟨⟨a,b⟩,c⟩=>⟨⟨a,c⟩,b⟩,λ⟨⟨a,b⟩,c⟩=>⟨⟨a,c⟩,b⟩⟩
structure Pr where
 (j i:Nat)
def Gt(L:List Oper)(k:Nat):Bool:=(looks L (L.getD k default)).all λz=>Gs L k z
def wK(C:aH)(L:List Oper)(p:Pr):Bool:=vD C (L.getD p.j default)&&vD C (L.getD p.i default)&&fI L (L.getD p.j default) (L.getD p.i default)&&Gt L p.j&&Gt L p.i
def yK(ps:List Pr)(j i:Nat):Bool:=ps.any λp=>p.j==j&&p.i==i
def Dt(fz:Option Nat)(i:Nat):Bool:=match fz with
 | some k=>k==i
 | none=>false
def Dq(L:List Oper)(fz:Option Nat):Bool:=match fz with
 | some k=>ui (L.getD k default)
 | none=>true
def rA(C:aH)(L:List Oper)(fz:Option Nat)(ps:List Pr):Bool :=
 let B:=dC L []
 L.all (rE C)&&ps.all (wK C L)&&Dq L fz&&(List.range L.length).all λi=>(List.range i).all λj=>(B.getD i 0).testBit j||yK ps j i||(!Dt fz i && !Dt fz j&&jv C L (L.getD j default) (L.getD i default))
def iN(L:List Oper)(b i:Nat)(s:S):List Nat:=foot (L.getD i default).op (((au (L.getD i default).op).map s.ev).map sd) (b+i)
def NR{fz:Option Nat}{i:Nat}(h:Dt fz i=false):fz≠some i:=by
 rintro rfl
 simp[Dt]at h
def GZ{L:List Oper}{fz:Option Nat}(h:Dq L fz=true){i:Nat}(e:fz=some i):ui (L.getD i default)=true:=by subst e;exact h
theorem G8{L:List Oper}{b i:Nat}{s s':S}(h : ∀z∈looks L (L.getD i default),s.t z=s'.t z):iN L b i s=iN L b i s':=by
 unfold iN
 congr 2
 refine YG λx hx=>?_
 cases x with
 | tmp t=>exact h t (Yu.2 (.inl (ZN.2 ⟨.tmp t,hx,rfl⟩)))
 | _=>rfl
theorem JJ [aa P]{W:aU}{L:List Oper}{b k z:Nat}{fz:Option Nat}{s:S}(h : ∀o,L[k]? = some o->o.dst≠some z):(stepG P W C L b fz s k).t z=s.t z:=by
 unfold stepG
 cases hk:L[k]? with
 | none=>rfl
 | some o =>
  have:=h o hk
  show S.put s o.dst _ z=s.t z
  cases hd:o.dst with
  | none=>rfl
  | some d=>exact aI _ _ _ _ λe=>this (by rw[hd,e])
theorem Dx [aa P]{W:aU}{L:List Oper}{b z:Nat}{fz:Option Nat}:∀(l:List Nat)(s:S),(∀k∈l,∀o,L[k]? = some o->o.dst≠some z)->(l.foldl (stepG P W C L b fz) s).t z=s.t z
 | [],s,_=>rfl
 | k::l,s,h=>by
  simp only[Yz];rw[Dx l _ λm hm=>h m (by simp[hm]),JJ (h k (by simp))]
theorem JK [aa P]{W:aU}{L:List Oper}{b i:Nat}{fz:Option Nat}{s:S}(h:(stepG P W C L b fz s i).ok):s.ok:=by
 unfold stepG at h
 cases hk:L[i]? with
 | none=>rw[hk]at h;exact h
 | some o=>rw[hk]at h;exact h.1
theorem Dy [aa P]{W:aU}{L:List Oper}{b:Nat}{fz:Option Nat}:∀{l:List Nat}{s:S},(l.foldl (stepG P W C L b fz) s).ok->s.ok
 | [],_,h=>h
 | _::l,_,h=>JK (Dy (l:=l) h)
theorem R4 [aa P]{W:aU}{L:List Oper}{b i r:Nat}{fz:Option Nat}{s:S}(hc:L.all (rE C)=true)(hr:r≠b+i)(hn:s.h r=none):(stepG P W C L b fz s i).h r=none:=by
 by_cases e:fz=some i
 .
  unfold stepG
  cases hk:L[i]? with
  | none=>exact hn
  | some o =>
   show(outG P W C L b fz i o s.n s.ev s.t s.h).2.1 r=none
   have h1:=Hz (P:=P) (W:=W) (C:=C) (L:=L) (b:=b) (i:=i) (o:=o) (s:=s) (Yf.1 hc o (X6 hk)) hr hn;rw[iO]at h1;have h1:(aF P W C L b i o s.n s.ev s.t s.h).2.1 r=none:=h1;simp only[outG,X0 e];generalize aF P W C L b i o s.n s.ev s.t s.h=x at h1;unfold fU
   split
   .
    split
    .
     split
     .
      show upd x.2.1 (b+i) none r=none
      rw[aI _ _ _ _ hr];exact h1
     exact h1
    exact h1
   exact h1
 rw[rR e]
 unfold run1
 cases hk:L[i]? with
 | none=>exact hn
 | some o=>exact Hz (Yf.1 hc o (X6 hk)) hr hn
def Mr{L:List Oper}{x y:Oper}(h:fI L x y=true):∀z∈looks L y,x.dst≠some z:=by
 intro z hz e
 simp only[fI,e,XT]at h
 simp[hz]at h
theorem Hf [aa P]{W:aU}{L:List Oper}{b i:Nat}{y:Oper}{fz:Option Nat}{ps:List Pr}(hcp:L.all (rE C)=true)(hz:Dq L fz=true)(hps : ∀p∈ps,wK C L p=true)(hi:L[i]? = some y):∀(pre:List Nat)(s:S),(∀j∈pre,j≠i /\ ∀x,L[j]? = some x->(yK ps j i=true\/(fz≠some i/\fz≠some j/\jv C L x y=true))) ->
  (∀p∈ps,p.i=i -> ∀pu uM,pre=pu++p.j::uM -> ∀r∈iN L b p.j (pu.foldl (stepG P W C L b fz) s),r ∉ iN L b p.i s) ->
  (reader y=true -> ∀j∈pre,∀d∈(au y.op).map s.ev,named (b+j) (sd d)=false)->s.h (b+i)=none->(pre.foldl (stepG P W C L b fz) s).ok ->
  stepG P W C L b fz (pre.foldl (stepG P W C L b fz) s) i=pre.foldl (stepG P W C L b fz) (stepG P W C L b fz s i)
 | [],s,_,_,_,_,_=>rfl
 | j::pre,s,h,hf,hr,hh,hok=>by
  simp only[Yz]at hok ⊢;have hji:=(h j (by simp)).1
  have hok1:=Dy hok;have AL:L.getD i default=y:=by simp only[List.getD,hi,YA]
  cases hj:L[j]? with
  | none =>
   have e : ∀u,stepG P W C L b fz u j=u:=λu=>by simp only[stepG,hj]
   rw[e s,e]at *;refine Hf hcp hz hps hi pre s (λk hk=>h k (by simp[hk])) (λp hp hpi pu uM hsp=>?_) (λpU k hk=>hr pU k (by simp[hk])) hh hok
   have:=hf p hp hpi (j::pu) uM (by simp[hsp])
   simp only[Yz,e]at this;exact this
  | some x =>
   have hap:=(h j (by simp)).2 x hj
   have Dg:L.getD j default=x:=by simp only[List.getD,hj,YA]
   have hsl:fI L x y=true:=by
    rcases hap with hap|hap
    . simp only[yK,ZE,XT,Yy]at hap;obtain⟨p,hp,h1,h2⟩:=hap;have:=hps p hp;simp only[wK,XT,h1,h2,Dg,AL]at this;exact this.1.1.2
    exact Bo hap.2.2
   have hstep:stepG P W C L b fz (stepG P W C L b fz s j) i=stepG P W C L b fz (stepG P W C L b fz s i) j:=by
    rcases hap with hap|⟨z1,z2,hap⟩
    .
     simp only[yK,ZE,XT,Yy]at hap;obtain⟨p,hp,h1,h2⟩:=hap;have hk:=hps p hp;simp only[wK,XT,h1,h2,Dg,AL]at hk;have hd:=hf p hp h2 [] pre (by simp[h1])
     simp only[ZG,iN,h1,h2,Dg,AL]at hd;exact RZ hj hi hsl hk.1.1.1.1 hk.1.1.1.2 (λe=>by have:=GZ hz e;rwa [Dg]at this) (λe=>by have:=GZ hz e;rwa [AL]at this) hd
    rw[rR z2,rR z1,rR z1,rR z2];have e : ∀u,run1 P W C L b u j=bL P W C L b j x u:=λu=>by simp only[run1,hj]
    have e' : ∀u,run1 P W C L b u i=bL P W C L b i y u:=λu=>by simp only[run1,hi]
    rw[e,e,e',e'];refine Ox hji hap (λ_ pU=>hr pU j (by simp)) λ_ _=>⟨hh,?_⟩
    rw[rR z2,e,iO]at hok1;exact hok1.2
   have hty : ∀z∈looks L y,(stepG P W C L b fz s j).t z=s.t z:=λz hz=>JJ λo ho=>by
    rw[hj]at ho;cases ho
    exact Mr hsl z hz
   rw[<-hstep];refine Hf hcp hz hps hi pre _ (λk hk=>h k (by simp[hk])) (λp hp hpi pu uM hsp=>?_) (λpU k hk=>?_) ?_ hok
   .
    have h1:=hf p hp hpi (j::pu) uM (by simp[hsp])
    simp only[Yz]at h1;rw[show iN L b p.i (stepG P W C L b fz s j)=iN L b p.i s from G8 (by rw[hpi,AL];exact hty)]
    exact h1
   .
    have:(au y.op).map (stepG P W C L b fz s j).ev=(au y.op).map s.ev:=YG λx hx=>by
     cases x with
     | tmp t=>exact hty t (Yu.2 (.inl (ZN.2 ⟨.tmp t,hx,rfl⟩)))
     | _=>rfl
    rw[this];exact hr pU k (by simp[hk])
   exact R4 hcp om hh
theorem R3 [aa P]{s:S}{g:Mem}{a:Act}{w:World}(hs:St P B s g a w){b i N:Nat}{fz:Option Nat}(hb : ¬g.U (b+i))(hN : ∀r,g.U r->r<N){ops:Array Oper}{o:Oper}(hi:ops[i]? = some o)(hok:(stepG P (words P) C ops.toList b fz s i).ok)
  {ro:Option Nat}{n:Nat}{K:Act->World->Prop}{Q:Exit->Act->World->Prop}
  (hK : ∀g' a' w',St P B (stepG P (words P) C ops.toList b fz s i) g' a' w'->ay g g' w w'->(∀r,g'.U r->g.U r\/r=b+i)->K a' w'):wpOpIn (Fw ro) n P ops Q i K a w:=by
 have hi':ops.toList[i]? = some o:=by rw[YH];exact hi
 by_cases e:fz=some i
 .
  have es:stepG P (words P) C ops.toList b fz s i={ s with t:=s.put o.dst (fU (b+i) (aF P (words P) C ops.toList b i o s.n s.ev s.t s.h)).1,h:=(fU (b+i) (aF P (words P) C ops.toList b i o s.n s.ev s.t s.h)).2.1,ok:=s.ok/\(fU (b+i) (aF P (words P) C ops.toList b i o s.n s.ev s.t s.h)).2.2 }:=by
   simp only[stepG,hi',outG,X0 e]
  rw[es]at hok hK;obtain⟨m,bl,k1,k2,k3,k4,k5,k6⟩:=ZaS hok.2;rw[k6]at hK;refine A7 hs hb hN hi (by rw[iO];exact⟨hok.1,k3⟩) λg' a' w' q1 q2 q3=>?_
  rw[iO]at q1;have mono:=xG g' (b+i) w';refine hK (jo g' (b+i)) a' w' ⟨q1.sz,λj=>?_,yT q1.mem (b+i),q1.df.later q1.mem mono,Env.later q1.mem mono q1.en,q1.bd⟩ (q2.trans mono) q3
  have hj:=q1.tm j
  show ag w' _ (S.put s o.dst (.list false (bl.rows.take m)) j) _
  have hj:ag w' g' (S.put s o.dst (aF P (words P) C ops.toList b i o s.n s.ev s.t s.h).1 j) (a'.tmps.getD j undef):=hj
  cases hd:o.dst with
  | none=>rw[hd]at hj;exact hj.later q1.mem mono
  | some d =>
   rw[hd]at hj
   by_cases ej:j=d
   .
    subst ej;have hj:ag w' g' (upd s.t j _ j) _:=hj;rw[bu,k1]at hj
    show ag w' _ (upd s.t j _ j) _
    rw[bu];have:=G5 (ty:=bl.ty) (rows:=bl.rows) q1.mem k2 k5 (off:=0) (k:=m) om hj
    simpa only[Yl]using this
   have hj:ag w' g' (upd s.t d _ j) _:=hj;rw[aI _ _ _ _ ej]at hj
   show ag w' _ (upd s.t d _ j) _
   rw[aI _ _ _ _ ej];exact hj.later q1.mem mono
 have er:stepG P (words P) C ops.toList b fz s i=bL P (words P) C ops.toList b i o s:=by rw[rR e];simp only[run1,hi']
 rw[er]at hok hK
 exact A7 hs hb hN hi hok hK
theorem Zb1 [aa P]{ops:Array Oper}{b:Nat}{ro:Option Nat}{n:Nat}{Q:Exit->Act->World->Prop}{w0:World}{g0:Mem}{fin:S}{fz:Option Nat}{ps:List Pr}(hcomm:rA C ops.toList fz ps=true)(xC : ∀p∈ps,∀r∈iN ops.toList b p.j fin,r ∉ iN ops.toList b p.i fin) :
  ∀(fuel:Nat)(listed:Array Bool)(s:S)(g:Mem)(a:Act)(w:World),listed.size=ops.size->(todo ops.size listed).length<=fuel->(∀(i:Nat)o,ops.toList[i]? = some o->listed.getD i false=true -> ∀e∈o.after.toList,Region.binds .any e=true->listed.getD e.on false=true) ->
   (∀(i:Nat)o,ops.toList[i]? = some o -> ∀e∈o.after.toList,Region.binds .any e=true->e.on<i) ->
   St P B s g a w->ay g0 g w0 w->(∀r,g.U r->r<b \/ ∃i,listed.getD i false=true/\i<ops.size/\r=b+i)->(todo ops.size listed).foldl (stepG P (words P) C ops.toList b fz) s=fin->fin.ok ->
   (∀g' a' w',St P B fin g' a' w'->ay g0 g' w0 w'->(∀r,g'.U r->r<b+ops.size)->Q .normal a' w') ->
   wpAnyIn (Fw ro) n P .any ops Q fuel listed a w:=by
 have hcp:ops.toList.all (rE C)=true:=by unfold rA at hcomm;simp only[XT]at hcomm;exact hcomm.1.1.1
 have hps : ∀p∈ps,wK C ops.toList p=true:=by unfold rA at hcomm;simp only[XT,Yf]at hcomm;exact hcomm.1.1.2
 have hz:Dq ops.toList fz=true:=by unfold rA at hcomm;simp only[XT]at hcomm;exact hcomm.1.2
 have hcm:=hcomm
 unfold rA at hcm
 simp only[XT]at hcm
 have hcm:=hcm.2
 simp only[Yf,YU,Ya,XT,X7]at hcm
 intro fuel
 induction fuel with
 | zero =>
  intro listed s g a w hsz hfu hX hback hs hm hU hfin hok hQ;have hnil:todo ops.size listed=[]:=Ye om;rw[hnil]at hfin;simp only[ZG]at hfin;subst hfin;refine⟨?_,hQ g a w hs hm λr hr=>?_⟩
  .
   unfold Region.ready;rw[List.filter_eq_nil_iff];intro i hi;have h1:i ∉ todo ops.size listed:=by rw[hnil];simp
   simp only[todo,Zi,hi,true_and,X7,Bool.not_eq_false]at h1;have hil:i<listed.size:=by rw[hsz];simpa using hi
   have h2:listed.getD i true=true:=by simp[Array.getD,hil]at h1 ⊢;exact h1
   simp[h2]
  rcases hU r hr with h|⟨i,_,h,rfl⟩<;>omega
 | succ fuel ih =>
  intro listed s g a w hsz hfu hX hback hs hm hU hfin hok hQ;refine⟨λhrd=>?_,λi hi=>?_⟩
  .
   have hnil:todo ops.size listed=[]:=by
    rw[todo,List.filter_eq_nil_iff];intro i hi;simp only[X7,Bool.not_eq_false];have hlt:i<ops.size:=by simpa using hi
    have : ∀k,k<ops.size->listed.getD k false=true:=by
     intro k
     induction k using Nat.strongRecOn with
     | _ k ihk =>
      intro hk;have h0:k ∉ Region.ready .any ops listed:=by rw[hrd];simp
      unfold Region.ready at h0;simp only[Zi,YU,hk,true_and]at h0;have hkl:k<listed.size:=by omega
      cases hq:listed.getD k false with
      | true=>rfl
      | false =>
       exfalso
       apply h0
       have h2:listed.getD k true=false:=by simp[Array.getD,hkl]at hq ⊢;exact hq
       have h3:ops[k]? = some ops[k]:=by simp[hk]
       simp only[h2,Bool.not_false,h3,YK,YA,Zj];rw[Array.all_eq_true];intro q hqq;simp only[Ya,X7]
       cases hb:Region.binds .any (ops[k].after[q])with
       | false=>exact .inl rfl
       | true =>
        have hmem:ops[k].after[q]∈ops[k].after.toList:=by simp
        have h4:=hback k ops[k] (by simp[hk]) _ hmem hb
        exact .inr (ihk _ h4 om)
    exact this i hlt
   rw[hnil]at hfin;simp only[ZG]at hfin;subst hfin;exact hQ g a w hs hm λr hr=>by rcases hU r hr with h|⟨i,_,h,rfl⟩<;>omega
  unfold Region.ready at hi;simp only[Zi,YU,XT,X7]at hi;obtain⟨hlt,h1,h2⟩:=hi;have h3:ops[i]? = some ops[i]:=by simp[hlt]
  have nZ:ops.toList[i]? = some ops[i]:=by simp[hlt]
  simp only[h3,YK,YA]at h2;have hil:i<listed.size:=by omega
  have tC:listed.getD i false=false:=by simp[Array.getD,hil]at h1 ⊢;exact h1
  have sW : ∀e∈(ops[i]).after.toList,Region.binds .any e=true->listed.getD e.on false=true:=by
   intro e he hb;rw[Array.all_eq_true]at h2;obtain⟨q,hq,rfl⟩:=Array.mem_iff_getElem.1 (Array.mem_toList_iff.1 he);have:=h2 q hq;simp only[hb,Bool.not_true,Bool.false_or]at this;exact this
  have hmem:i∈todo ops.size listed:=by simp[todo,hlt];simpa using tC
  obtain⟨pre,post,hsplit⟩:=List.append_of_mem hmem;have mO:(todo ops.size listed).Pairwise (· < ·):=ZT _ ZM;rw[hsplit]at mO;have hpre : ∀j∈pre,j<i:=λj hj=>(Zp.1 mO).2.2 j hj i (by simp)
  have hpost : ∀j∈post,i<j:=λj hj=>(Zl.1 (Zp.1 mO).2.1).1 j hj
  have hap : ∀j∈pre,j≠i /\ ∀x,ops.toList[j]? = some x->(yK ps j i=true\/(fz≠some i/\fz≠some j/\jv C ops.toList x ops[i]=true)):=by
   intro j hj;have hjl:=hpre j hj;refine⟨om,λx hx=>?_⟩
   have hjm:j∈todo ops.size listed:=by rw[hsplit];simp[hj]
   have hjn:listed.getD j false=false:=by simp only[todo,Zi,X7]at hjm;exact hjm.2
   have e1:ops.toList.getD j default=x:=by simp only[List.getD,hx,YA]
   have e2:ops.toList.getD i default=ops[i]:=by simp only[List.getD,nZ,YA]
   rcases hcm i (by simpa using hlt) j hjl with(h|h)|h
   .
    exfalso
    have:=zl (L:=ops.toList) (X:=λk=>listed.getD k false=true) hX i _ nZ sW j h
    rw[hjn]at this;cases this
   . exact .inl h
   rw[e1,e2]at h;exact .inr ⟨NR h.1.1,NR h.1.2,h.2⟩
  have Aw : ∀j∈pre,∀x,ops.toList[j]? = some x->fI ops.toList x ops[i]=true:=by
   intro j hj x hx;have e1:ops.toList.getD j default=x:=by simp only[List.getD,hx,YA]
   have e2:ops.toList.getD i default=ops[i]:=by simp only[List.getD,nZ,YA]
   rcases(hap j hj).2 x hx with h|h
   . simp only[yK,ZE,XT,Yy]at h;obtain⟨p,hp,h1,h2⟩:=h;have:=hps p hp;simp only[wK,XT,h1,h2,e1,e2]at this;exact this.1.1.2
   exact Bo h.2.2
  have AA : ∀j,j∈todo ops.size listed -> ¬g.U (b+j):=by
   intro j hjm hu;have hjn:listed.getD j false=false:=by simp only[todo,Zi,X7]at hjm;exact hjm.2
   rcases hU _ hu with h|⟨k,hk,_,e⟩
   . omega
   have:k=j:=by omega
   subst this;rw[hjn]at hk;cases hk
  have hh0:s.h (b+i)=none:=by
   cases hq:s.h (b+i)with
   | none=>rfl
   | some bl =>
    obtain⟨blk,c',q1,_⟩:=hs.mem.blk _ bl hq;exact absurd (hs.mem.used _ (by rw[q1];simp)) (AA i hmem)
  have hok0:=hok;rw[<-hfin,hsplit,Y2,Yz]at hok0;have hok1:=Dy hok0;have GH:(pre.foldl (stepG P (words P) C ops.toList b fz) s).ok:=JK hok1;have hlooks : ∀z∈looks ops.toList ops[i],(pre.foldl (stepG P (words P) C ops.toList b fz) s).t z=s.t z:=λz hz=>Dx _ _ λk hk o ho=>Mr (Aw k hk o ho) z hz
  have GJ:reader ops[i]=true -> ∀j∈pre,∀d∈(au (ops[i]).op).map s.ev,named (b+j) (sd d)=false:=by
   intro hr j hj d hd;have hsg:sg d=true:=by
    have e:(au (ops[i]).op).map (pre.foldl (stepG P (words P) C ops.toList b fz) s).ev=(au (ops[i]).op).map s.ev:=YG λx hx=>by
     cases x with
     | tmp t=>exact hlooks t (Yu.2 (.inl (ZN.2 ⟨.tmp t,hx,rfl⟩)))
     | _=>rfl
    have hne:fz≠some i:=λe=>by
     have:=GZ hz e;simp only[List.getD,nZ,YA]at this;obtain⟨r1,r2⟩:=zU hr;exact Zdp this r1
    have hrun' : ∀u,stepG P (words P) C ops.toList b fz u i=bL P (words P) C ops.toList b i ops[i] u:=λu=>by rw[rR hne];simp[run1,hlt]
    rw[hrun',iO]at hok1;have h2:=hok1.2;obtain⟨r1,r2⟩:=zU hr;simp only[aF,r2,ak,Fx r1,Yd,YT]at h2;have h4:=h2.2.1 trivial;rw[e]at h4;exact Yf.1 h4 d hd
   cases hq:named (b+j) (sd d)with
   | false=>rfl
   | true =>
    exfalso
    obtain⟨z,_,rfl⟩:=Yh.1 hd;exact AA j (by rw[hsplit];simp[hj]) (KA (cu hs z) hsg hq)
  have hfr : ∀p∈ps,p.i=i -> ∀pu uM,pre=pu++p.j::uM -> ∀r∈iN ops.toList b p.j (pu.foldl (stepG P (words P) C ops.toList b fz) s),r ∉ iN ops.toList b p.i s:=by
   intro p hp hpi pu uM hsp;have hk:=hps p hp;simp only[wK,Gt,XT,Yf]at hk;have f1:=xC p hp;have hpp:=(Zp.1 mO).1;rw[hsp]at hpp;have hpp2:=(Zl.1 (Zp.1 hpp).2.1).1;have g1 : ∀z∈looks ops.toList (ops.toList.getD p.j default),fin.t z=(pu.foldl (stepG P (words P) C ops.toList b fz) s).t z:=by
    intro z hz;rw[<-hfin,hsplit,hsp,YS,Y2];refine Dx _ _ λk hkm=>MZ (hk.1.2 z hz) ?_
    have hjp:p.j<i:=hpre p.j (by rw[hsp];simp)
    simp only[XX,Yv,Yu]at hkm
    rcases hkm with h|h|h|h
    . omega
    . have:=hpp2 k h;omega
    . omega
    have:=hpost k h;omega
   have e2:ops.toList.getD p.i default=ops[i]:=by rw[hpi];simp only[List.getD,nZ,YA]
   have g2 : ∀z∈looks ops.toList (ops.toList.getD p.i default),fin.t z=s.t z:=by
    intro z hz;rw[<-hfin,hsplit,Y2];refine(Dx (i::post) _ λk hkm=>MZ (hk.2 z hz) ?_).trans (hlooks z (by rw[<-e2];exact hz))
    rcases Yv.1 hkm with h|h
    . omega
    have:=hpost k h;omega
   rw[<-G8 g1,<-G8 g2];exact f1
  have AO:(pre++post).foldl (stepG P (words P) C ops.toList b fz) (stepG P (words P) C ops.toList b fz s i)=fin:=by
   rw[<-hfin,hsplit,Y2,Y2,Yz,Hf hcp hz hps nZ pre s hap hfr GJ hh0 GH]
  have hset : ∀k,(listed.setIfInBounds i true).getD k false=(listed.getD k false||k==i):=by
   intro k
   by_cases e:k=i
   . subst e;simp[Array.getD,hil]
   rw[getD_set_ne false (Ne.symm e)];have:(k==i)=false:=by simpa using e
   rw[this,ZB]
  have htodo:todo ops.size (listed.setIfInBounds i true)=pre++post:=by
   have e1:todo ops.size (listed.setIfInBounds i true)=(todo ops.size listed).filter (· != i):=by
    unfold todo;rw[List.filter_filter];refine ZY λk _=>?_
    rw[hset k]
    by_cases e:k=i
    . simp[e]
    have e2:(k==i)=false:=by simpa using e
    have e3:(k != i)=true:=by simpa using e
    rw[e2,e3,ZB,Zj]
   rw[e1,hsplit,List.filter_append,List.filter_cons];have p1:pre.filter (· != i)=pre:=Zz.2 λj hj=>by have:=hpre j hj;simp;omega
   have p2:post.filter (· != i)=post:=Zz.2 λj hj=>by have:=hpost j hj;simp;omega
   simp[p1,p2]
  refine R3 hs (b:=b) (N:=b+ops.size) (λh=>?_) (λr hr=>?_) h3 (Dy (by rw[AO];exact hok)) λg' a' w' q1 q2 q3=>?_
  .
   rcases hU _ h with h|⟨k,hk,_,e⟩
   . omega
   have:k=i:=by omega
   subst this;rw[tC]at hk;cases hk
  . rcases hU r hr with h|⟨k,_,h,rfl⟩<;>omega
  refine ih (listed.setIfInBounds i true) _ g' a' w' (by simp[hsz]) (by rw[htodo];have:=congrArg List.length hsplit;simp at this;simp;omega) (λk o hk hkl e he hb=>?_) hback q1 (hm.trans q2) (λr hr=>?_) (by rw[htodo];exact AO) hok hQ
  .
   rw[hset]at hkl ⊢;simp only[Ya,Yy]at hkl ⊢
   rcases hkl with hkl|rfl
   . exact .inl (hX k o hk hkl e he hb)
   rw[nZ]at hk;cases hk
   exact .inl (sW e he hb)
  rcases q3 r hr with h|rfl
  .
   rcases hU r h with h|⟨k,hk,hks,rfl⟩
   . exact .inl h
   exact .inr ⟨k,by rw[hset,hk];rfl,hks,rfl⟩
  exact .inr ⟨i,by rw[hset];simp,hlt,rfl⟩
end Go.DL
