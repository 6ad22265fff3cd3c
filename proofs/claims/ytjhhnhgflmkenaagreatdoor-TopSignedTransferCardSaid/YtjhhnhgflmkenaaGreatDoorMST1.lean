/-
  MANY TEXTS OF MINE IN ONE (a claim has a limit of files): DCore, DRep, DExec, DPure, DMem, DOps, DApp, DEff, DBuild, DMap, DEff2, DCall, DRegion, DDraw, DFt. Conditions: none.
-/
import Derived.WalkKit
import Derived.ControlIn
import Derived.CallsIn
import Derived.OrdersIn
import Derived.Laws.StructEq
import Derived.Great.BuildSlice
import Derived.MapKept
import Derived.Laws.MakeOwn
import Derived.WideKeyRuns
import Derived.RangeFuncLeaves
set_option linter.unusedVariables false
set_option linter.unusedSimpArgs false
set_option linter.unusedSectionVars false
set_option linter.defProp false
set_option linter.unnecessarySimpa false
namespace Go
def XU := @Bool.and_eq_true
def XV := @if_neg
def XW := @Nat.le_refl
def XX := @List.cons_append
def XY := @decide_eq_true_eq
def XZ := @List.nil_append
def X0 := @if_pos
def X3 := @List.length_append
def X4 := @List.drop_zero
def X5 := @List.take_succ_cons
def X6 := @decide_eq_false_iff_not
def X7 := @List.map_cons
def X8 := @List.getElem?_eq_some_iff
def X9 := @List.drop_succ_cons
def Ya := @Bool.not_eq_true'
def Yb := @List.eq_nil_of_length_eq_zero
def Yc := @Bool.or_eq_true
def Yd := @Nat.le_trans
def Ye := @List.take_of_length_le
def Yf := @List.take_zero
def Yg := @Bool.or_eq_false_iff
def Yh := @Nat.zero_le
def Yi := @List.getElem?_eq_getElem
def Yj := @Option.some.injEq
def Yk := @List.mem_singleton
def Yl := @List.mem_cons
def Ym := @List.mem_of_getElem?
def Yn := @Bool.false_eq_true
def Yo := @Array.getElem?_eq_some_iff
def Yp := @List.mem_map
def Yq := @Nat.sub_self
def Yr := @Bool.not_eq_false'
def Yt := @List.take_length
def Yu := @List.mem_append
def Yv := @List.map_append
def Yw := @List.length_drop
def Yx := @List.set_cons_zero
def Yy := @List.map_nil
def Yz := @List.getElem_mem
def YA := @List.all_eq_true
def YB := @decide_eq_true
def YC := @List.set_cons_succ
def YD := @Bool.eq_iff_iff
def YE := @List.drop_eq_getElem_cons
def YF := @beq_iff_eq
def YG := @Nat.lt_of_lt_of_le
def YH := @List.append_nil
def YI := @List.length_cons
def YJ := @List.pairwise_cons
def YK := @Nat.lt_or_ge
def YL := @Prod.mk.injEq
def YM := @List.foldl_cons
def YN := @List.getElem?_append_right
def YO := @List.length_take
def YP := @of_decide_eq_true
def YQ := @List.getElem?_map
def YR := @List.append_assoc
def YS := @eq_false
def YT := @Bool.and_eq_false_iff
def YU := @Option.isSome_iff_exists
def YV := @Option.getD_some
def YW := @Classical.byContradiction
def YX := @List.length_map
def YY := @decide_eq_false
def YZ := @Option.map_some
def Y0 := @List.cons.injEq
def Y1 := @List.filter_eq_self
def Y2 := @List.not_mem_nil
def Y3 := @List.map_congr_left
def Y4 := @List.getElem?_drop
def Y5 := @List.drop_eq_nil_of_le
def Y6 := @List.pairwise_iff_getElem
def Y7 := @List.getElem?_append_left
def Y8 := @if_false
def Y9 := @Nat.mul_le_mul_right
def Za := @List.foldl_append
def Zb := @List.getElem_of_mem
def Zc := @List.getElem?_take
def Zd := @List.range'_succ
def Ze := @beq_eq_false_iff_ne
def Zf := @Array.getElem?_toList
def Zg := @List.range_eq_range'
def Zh := @List.pairwise_append
def Zi := @Option.isNone_iff_eq_none
def Zj := @List.take_append_drop
def Zk := @List.mem_range
def Zl := @List.length_pos_iff
def Zm := @if_true
def Zn := @Nat.add_mul
def Zo := @List.range'_append_1
def Zp := @List.take_add_one
def Zq := @List.mem_filter
def Zr := @Array.ext'
def Zt := @Bool.and_self
def Zu := @Option.some.inj
def Zv := @Classical.choose_spec
def Zw := @List.length_nil
def Zx := @Nat.add_zero
def Zy := @List.getElem?_of_mem
def Zz := @List.mem_filterMap
def ZA := @Array.getD_eq_getD_getElem?
def ZB := @Array.eq_empty_of_size_eq_zero
def ZC := @Nat.mod_eq_of_lt
def ZE := @Bool.true_and
def ZF := @Nat.mul_comm
def ZG := @List.mem_append_left
def ZH := @List.foldl_nil
def ZI := @Bool.and_assoc
def ZJ := @List.map_take
def ZK := @Array.getElem?_eq_getElem
def ZL := @List.drop_length
def ZN := @bne_iff_ne
def ZO := @List.drop_drop
def ZP := @bne_eq_false_iff_eq
def ZQ := @decide_eq_decide
def ZR := @Nat.le_add_right
def ZT := @Bool.or_false
def ZU := @List.flatMap_cons
def ZV := @UInt8.toNat_inj
def ZW := @List.pairwise_lt_range
def ZX := @List.getElem?_set_self
def ZY := @List.any_eq_true
def ZZ := @List.getElem?_eq_none
def Z0 := @Nat.mul_add_mod
def Z4 := @Nat.min_eq_left
def Z5 := @List.filter_congr
def Z6 := @List.Pairwise.filter
def Z7 := @List.pairwise_singleton
def Z8 := @List.length_set
end Go
namespace Go.DL
variable{p:Prop}
theorem ez9(h : p := by first | omega | (intros; omega) | (intro h; cases h) | (intro h; simp at h; done)) : p := h
variable{α:Type}
theorem om(h:p:=by omega):p:=h
theorem _root_.o3u{p:Prop}(h:p:=by simp[maxLen]):p:=h
theorem _root_.o3f{p:Prop}(h:p:=by rw[e];exact Yk.2 rfl):p:=h
theorem _root_.o2V{p:Prop}(h:p:=by simp only[maxLen];omega):p:=h
theorem oW(h:p:=by first|omega|(dsimp only;omega)):p:=h
inductive D where
 | v (x:Value)
 | agg (cs:List D)
 | list (full:Bool) (rows:List (List D))
 | eptr (cs:List D)
 | mrow (r off len:Nat)
 | mptr (r i off:Nat)
 | fn (f:Fn) (first aD:List D)
 | tuple (ds:List D)
 | iface (t:TypeId) (d:D)
 | mp (r:Nat)
 | fmap (kv:List D)
 | cond (g:Bool) (d:D)
 | junk
 deriving Inhabited
abbrev D.i(n:Int):D:=.v (.int .i64 n)
abbrev D.b(x:Bool):D:=.v (.bool x)
abbrev D.l(x:List (List D)):D:=.list false x
abbrev D.e:D:=.list true []
def D.cells:D->List D
 | .agg M=>M
 | d=>[d]
def D.one:D->Bool
 | .v (.agg _) | .v (.tuple _)=>false
 | .agg _ | .tuple _ | .cond _ _ | .junk=>false
 | _=>true
def ZcF(_:Program):Type:=Nat->Option (List Value)
abbrev Glob(P:Program):=Inhabited (ZcF P)
def Glob.tab(P:Program)[Glob P]:Nat->Option (List Value):=(default:ZcF P)
structure dE where
 ty:TypeId
 rows:List (List D)
abbrev H:=Nat->Option dE
def upd(f:Nat->α)(i:Nat)(x:α):Nat->α:=λj=>if j=i then x else f j
theorem bI(f:Nat->α)(i:Nat)(x:α):upd f i x i=x:=by simp[upd]
theorem aI(f:Nat->α)(i j:Nat)(x:α)(h:j≠i):upd f i x j=f j:=by simp[upd,h]
def Ha:Value->D
 | .slice a n c=>if a.isNone&&n==0&&c==0 then .list true []else .v (.slice a n c)
 | .func f B M=>if B.size==0&&M.size==0 then .fn f [] []else .v (.func f B M)
 | x=>.v x
def qm:Value->D
 | .agg M=>.agg (M.toList.map Ha)
 | x=>Ha x
section
variable (P : Program) [Glob P]
def dJ(t:TypeId):Bool:=match P.underlying t with|some (.struct _)|some (.array _ _)=>true|_=>false
def zeroCells(t:TypeId):List D:=match(P.info? t).bind (·.zero)with|some z=>(qm z).cells|none=>[]
def eH(t:TypeId):Bool:=match(P.info? t).bind (·.zero)with|some z=>z.cells.size==P.cellsOf t|none=>false
def bq(s:TypeId)(f:Nat):Option (Nat×TypeId):=match P.underlying s with|some (.struct B)=>(B[f]?).map λf=>(f.offset,f.type)|_=>none
def bS(t:TypeId):Option TypeId:=match P.underlying t with|some (.slice e)=>some e|_=>none
def zP(t:TypeId)(cs:List D):D:=if dJ P t then .agg (cs.take (P.cellsOf t))else cs.headD .junk
def iN(a:D)(h:H):List D:=match a with
 | .eptr M=>M
 | .mptr r i off=>match h r with
  | some b=>(b.rows.getD i []).drop off
  | none=>[]
 | _=>[]
def jG(a:D)(h:H):List D:=match a with
 | .v (.pointer (some ⟨x,o,none⟩))=>match Glob.tab P x with
  | some M=>(M.drop o).map D.v
  | none=>[]
 | a=>iN a h
def nU(t:TypeId)(a:D)(h:H):D×Prop :=
 (zP P t (jG P a h),P.cellsOf t<=(jG P a h).length/\0<P.cellsOf t/\(P.underlying t).isSome=true)
def splice(row:List D)(off:Nat)(cs:List D):List D:=row.take off++cs++row.drop (off+cs.length)
def lS(t:TypeId)(a x:D)(h:H):H×Prop:=match a with
 | .mptr r i off=>match h r with
  | some b=>(upd h r (some { b with rows:=b.rows.set i (splice (b.rows.getD i []) off x.cells) }),
    x.cells.length=P.cellsOf t/\0<P.cellsOf t/\i<b.rows.length/\off+x.cells.length<=(b.rows.getD i []).length/\x.cells.all D.one=true)
  | none=>(h,False)
 | _=>(h,False)
def Bj(n:Nat):D->D
 | .eptr M=>.eptr (M.drop n)
 | .mptr r i off=>.mptr r i (off+n)
 | .v (.pointer (some p))=>.v (.pointer (some (p.add n)))
 | _=>.junk
def zZ:D->Bool
 | .eptr _ | .mptr _ _ _=>true
 | .v (.pointer (some _))=>true
 | _=>false
def Er(s:TypeId)(f:Nat)(a:D):D×Prop:=match bq P s f with
 | some (off,t)=>(Bj off a,zZ a=true/\P.cellsOf t≠0)
 | none=>(.junk,False)
def IW(s:TypeId)(f:Nat)(a:D):D×Prop:=match bq P s f,a with
 | some (off,t),.agg M=>(zP P t (M.drop off),off+P.cellsOf t<=M.length/\0<P.cellsOf t/\(P.underlying t).isSome=true)
 | _,_=>(.junk,False)
def aG(d:D)(h:H):List (List D):=match d with
 | .list _ V=>V
 | .mrow r off W=>match h r with
  | some b=>(b.rows.drop off).take W
  | none=>[]
 | .v (.string s)=>s.data.toList.map λb=>[.v (.int .u8 b.toNat)]
 | _=>[]
def bQ(d:D):Nat:=match d with
 | .list _ V=>V.length
 | .mrow _ _ W=>W
 | .v (.string s)=>s.size
 | _=>0
def qZ(t:TypeId):Option (Nat×TypeId):=match P.underlying t with|some (.array n e)=>some (n,e)|_=>none
def BJ:D->Bool
 | .v (.pointer (some _)) | .eptr _ | .mptr _ _ _=>true
 | _=>false
def yM(t:TypeId)(x K:D):D×Prop:=match qZ P t,K with
 | some (n,e),.v (.int _ k)=>(Bj (k.toNat*P.cellsOf e) x,BJ x=true/\0<=k/\k<n/\0<P.cellsOf e)
 | _,_=>(.junk,False)
def jH(t:TypeId)(x K:D)(h:H):D×Prop:=match bS P t with
 | none=>yM P t x K
 | some e=>match x,K with
  | .list _ V,.v (.int _ n)=>(.eptr (V.getD n.toNat []),0<=n/\n<V.length/\0<P.cellsOf e/\(V.getD n.toNat []).length=P.cellsOf e)
  | .mrow r off W,.v (.int _ n)=>(.mptr r (off+n.toNat) 0,0<=n/\n<W/\0<P.cellsOf e/\match h r with|some R=>R.ty=e|none=>False)
  | _,_=>(.junk,False)
def sj(k:IntKind)(n:Int):Prop:=k.min<=n/\n<=k.max
def ou:D->D->Bool
 | .v (.int _ a),.v (.int _ b)=>a==b
 | .v (.bool a),.v (.bool b)=>a==b
 | .v (.string a),.v (.string b)=>a.data.toList==b.data.toList
 | _,_=>false
def qQ:List D->List D->Bool
 | x::xs,y::m=>ou x y&&qQ xs m
 | _,_=>true
inductive Kd where
 | b|i|s
def Dl:Kd->D->D->Bool
 | .i,.v (.int k _),.v (.int k' _)=>k==k'
 | .b,.v (.bool _),.v (.bool _)=>true
 | .s,.v (.string _),.v (.string _)=>true
 | _,_,_=>false
def uq:List Kd->List D->List D->Bool
 | k::ks,x::xs,y::m=>Dl k x y&&uq ks xs m
 | [],[],[]=>true
 | _,_,_=>false
def fP(t:TypeId)(op:BinOp)(x y:Value):Value×Prop:=match op,x,y with
 | .add,.int k a,.int w b=>if k.signed then(.int k (a+b),k=w/\sj k (a+b))else(.int k (k.wrap (a+b)),k=w)
 | .sub,.int k a,.int w b=>if k.signed then(.int k (a-b),k=w/\sj k (a-b))else(.int k (k.wrap (a-b)),k=w)
 | .mul,.int k a,.int w b=>if k.signed then(.int k (a*b),k=w/\sj k (a*b))else(.int k (k.wrap (a*b)),k=w)
 | .quo,.int k a,.int w b=>(.int k (a / b),k=w/\0<=a/\1<=b/\sj k a)
 | .rem,.int k a,.int w b=>(.int k (a % b),k=w/\0<=a/\1<=b)
 | .lss,.int k a,.int w b=>(.bool (decide (a<b)),k=w)
 | .leq,.int k a,.int w b=>(.bool (decide (a<=b)),k=w)
 | .gtr,.int k a,.int w b=>(.bool (decide (b<a)),k=w)
 | .geq,.int k a,.int w b=>(.bool (decide (b<=a)),k=w)
 | .eql,.int k a,.int w b=>(.bool (a==b),k=w)
 | .neq,.int k a,.int w b=>(.bool (a != b),k=w)
 | .eql,.bool a,.bool b=>(.bool (a==b),P.underlying t=some .bool)
 | .neq,.bool a,.bool b=>(.bool (a != b),P.underlying t=some .bool)
 | .eql,.string a,.string b=>(.bool (a.data.toList==b.data.toList),True)
 | .neq,.string a,.string b=>(.bool (a.data.toList != b.data.toList),True)
 | .add,.string a,.string b=>(.string (a++b),a.size+b.size<=9223372036854775807)
 | .lss,.string a,.string b=>(.bool (Go.Op.bytesLess a.data.toList b.data.toList),True)
 | .leq,.string a,.string b=>(.bool (Go.Op.bytesLess a.data.toList b.data.toList||a.data.toList==b.data.toList),True)
 | .gtr,.string a,.string b=>(.bool !(Go.Op.bytesLess a.data.toList b.data.toList||a.data.toList==b.data.toList),True)
 | .geq,.string a,.string b=>(.bool !(Go.Op.bytesLess a.data.toList b.data.toList),True)
 | .shl,.int k a,.int _ b=>(.int k (k.wrap (a*2^(min b.toNat k.bits))),0<=b)
 | .shr,.int k a,.int _ b=>(.int k (a.fdiv (2^(min b.toNat k.bits))),0<=b)
 | .or,.int k a,.int w b=>(.int k (k.wrap (BitVec.ofInt k.bits a ||| BitVec.ofInt k.bits b).toNat),k=w)
 | .xor,.int k a,.int w b=>(.int k (k.wrap (BitVec.ofInt k.bits a ^^^ BitVec.ofInt k.bits b).toNat),k=w)
 | .and,.int k a,.int w b=>(.int k (k.wrap (BitVec.ofInt k.bits a &&& BitVec.ofInt k.bits b).toNat),k=w)
 | .andNot,.int k a,.int w b=>(.int k (k.wrap (BitVec.ofInt k.bits a &&& ~~~BitVec.ofInt k.bits b).toNat),k=w)
 | _,_,_=>(undef,False)
def kindOf(P:Program)[Glob P](t:TypeId):Option Kd:=match P.underlying t with
 | some .bool=>some .b
 | some (.int _)=>some .i
 | some .string=>some .s
 | _=>none
def Ci(P:Program)[Glob P]:Nat->List Field->Option (List Kd)
 | _,[]=>some []
 | i, f :: B => if f.name != "_" && f.offset == i then (match kindOf P f.type, Ci P (i + 1) B with
  | some k,some ks=>some (k::ks)
  | _,_=>none)else none
def xQ(P:Program)[Glob P](t:TypeId):Option (List Kd):=match P.underlying t with
 | some (.struct B)=>if !P.stoodInHeld t && !P.eqGuardType P.depth t then Ci P 0 B.toList else none
 | _=>none
def AC(t:TypeId)(op:BinOp)(x y:D):D×Prop:=match x,y with
 | .v a,.v b=>(.v (fP P t op a b).1,(fP P t op a b).2)
 | .agg z,.agg m=>match op with
  | .eql=>(.v (.bool (qQ z m)),match xQ P t with|some ks=>uq ks z m=true|none=>False)
  | .neq=>(.v (.bool (!qQ z m)),match xQ P t with|some ks=>uq ks z m=true|none=>False)
  | _=>(.junk,False)
 | _,_=>(.junk,False)
end
def lX:D->D->Bool
 | .agg xs,.agg m=>qQ xs m
 | x,y=>ou x y
def iZ:List D->D->Option D
 | k::v::l,q=>if lX q k then some v else iZ l q
 | _,_=>none
def ib:List D->D->D->List D
 | k::v::l,q,x=>if lX q k then q::x::l else k::v::ib l q x
 | _,q,x=>[q,x]
def plainOf(P:Program)(t:TypeId)(d:D):Bool:=match P.underlying t,d with
 | some .string,.v (.string _)=>true
 | some (.int k),.v (.int w _)=>k==w
 | some .bool,.v (.bool _)=>true
 | _,_=>false
def mJ(P:Program):Nat->List Field->List D->Bool
 | i, f :: B, d :: ds => f.name != "_" && f.offset == i && plainOf P f.type d && mJ P (i + 1) B ds
 | _,[],[]=>true
 | _,_,_=>false
def mP(P:Program)(t:TypeId)(d:D):Bool:=match P.underlying t,d with
 | some (.struct B),.agg M=>mJ P 0 B.toList M
 | _,d=>plainOf P t d
def jl(P:Program)(t:TypeId):List D->Bool
 | k::_::l=>mP P t k&&jl P t l
 | []=>true
 | _=>false
def uh(P:Program)[Glob P](t:TypeId):Bool:=match P.underlying t with
 | some (.struct _)=>(xQ P t).isSome
 | some .string|some (.int _)|some .bool=>true
 | _=>false
def zh(P:Program)(t:TypeId):D:=match(P.info? t).bind (·.zero)with|some z=>qm z|none=>.junk
def Iu(P:Program)(t:TypeId):Bool:=((P.info? t).bind (·.zero)).isSome
def qx(P:Program)(t:TypeId):Option (TypeId×TypeId):=match P.underlying t with|some (.map k e)=>some (k,e)|_=>none
def rZ(bl:dE):Option (List D):=match bl.rows with
 | [[.iface 0 (.tuple a)]]=>some a
 | _=>none
def gZ(a:List D):List (List D):=[[.iface 0 (.tuple a)]]
def zW(h:H):D->Option (List D)
 | .mp r=>(h r).bind rZ
 | .fmap a=>some a
 | _=>none
open Go.RowKit
variable{P:Program}{c:Nat}{h:H}{ty:TypeId}{v x:Value}{vs:List Value}{w w':World}
variable[Glob P]
structure Mem where
 M:Nat->Option (Option Nat×Nat×Nat)
 U:Nat->Prop
 I:Nat->Prop
theorem block_add(a:Addr)(n:Nat):(a.add n).block=a.block:=by unfold Addr.add;split<;>rfl
theorem add_add'(a:Addr)(i j:Nat):(a.add i).add j=a.add (i+j):=by unfold Addr.add;by_cases hi:i=0<;>by_cases A:j=0<;>simp[hi,A,Nat.add_assoc]
theorem oQ(b o n:Nat):(⟨b,o,none⟩:Addr).add n=⟨b,o+n,none⟩:=by unfold Addr.add;split<;>simp_all
def qz(a:Array MapEntry):List Value:=a.toList.flatMap λe=>[e.key,e.val]
def wR(o:Option Obj)(ty:TypeId)(L:Array Value)(c:Nat):Prop :=
 (c<=maxLen/\o=some (.cells L ty (0,0)))\/(c=maxLen+1 /\ ∃a f,o=some (.map a f)/\L = #[.iface 0 (.tuple (qz a).toArray)])
theorem wR.cells{o:Option Obj}{L:Array Value}(h:wR o ty L c)(j:c<=maxLen):o=some (.cells L ty (0,0)):=by
 rcases h with h|⟨h,_⟩
 . exact h.2
 omega
theorem wR.map{o:Option Obj}{L:Array Value}(h:wR o ty L c)(j:c=maxLen+1):∃a f,o=some (.map a f)/\L = #[.iface 0 (.tuple (qz a).toArray)]:=by
 rcases h with h|⟨_,h⟩
 . omega
 exact h
theorem wR.some{o:Option Obj}{L:Array Value}(h:wR o ty L c):∃x,o=some x/\((∃e f g,x = .cells e f g) \/ ∃e f,x = .map e f):=by
 rcases h with h|⟨_,a,j,h,_⟩
 . exact⟨_,h.2,.inl ⟨_,_,_,rfl⟩⟩
 exact⟨_,h,.inr ⟨_,_,rfl⟩⟩
def wR.uniq{o:Option Obj}{L a:Array Value}(h:wR o ty L c)(k:wR o ty a c):L=a:=by
 by_cases j:c<=maxLen
 . have J:=h.cells j;have Y:=k.cells j;rw[J]at Y;cases Y;rfl
 have e:c=maxLen+1:=by
  rcases h with h|h
  . exact absurd h.1 j
  exact h.1
 let⟨n,p,J,Y⟩:=h.map e;let⟨g,f,G,m⟩:=k.map e;rw[J]at G;cases G;rw[Y,m]
inductive ae (w:World) (g:Mem):D->Value->Prop
 | v (x:Value):ae w g (.v x) x
 | agg (ds:List D) (vs:Array Value) (hn:ds.length=vs.size) (h : ∀(i:Nat)d x,ds[i]? = some d->vs[i]? = some x->ae w g d x):ae w g (.agg ds) (.agg vs)
 | tuple (ds:List D) (vs:Array Value) (hn:ds.length=vs.size) (h : ∀(i:Nat)d x,ds[i]? = some d->vs[i]? = some x->ae w g d x):ae w g (.tuple ds) (.tuple vs)
 | iface (t:TypeId) (d:D) (x:Value) (h:ae w g d x):ae w g (.iface t d) (.iface t x)
 | empty (full:Bool) (a:Option Addr) (cap:Nat) (hf:full=true->cap=0) (hm:cap<=maxLen):ae w g (.list full []) (.slice a 0 cap)
 | list (full:Bool) (rows:List (List D)) (ad:Addr) (cap size:Nat) (cv:Nat->Nat->Value) (hI:g.I ad.block) (hl:rows.length<=cap) (hf:full=true->cap=rows.length) (hm:cap<=maxLen)
   (hs : ∀r∈rows,r.length=size) (hc : ∀(i j:Nat)r d,rows[i]? = some r->r[j]? = some d->w.cell? (ad.add (i*size+j))=some (cv i j)/\(cv i j).oneCell'=true)
   (hr : ∀(i j:Nat)r d,rows[i]? = some r->r[j]? = some d->ae w g d (cv i j)):ae w g (.list full rows) (.slice (some ad) rows.length cap)
 | eptr (cs:List D) (p:Addr) (cv:Nat->Value) (hI:g.I p.block) (hc : ∀(j:Nat)d,cs[j]? = some d->w.cell? (p.add j)=some (cv j)) (hr : ∀(j:Nat)d,cs[j]? = some d->ae w g d (cv j)):ae w g (.eptr cs) (.pointer (some p))
 | mrow (r off len:Nat) (x:Value) (hx : ∃a c,x = .slice a len c/\len<=c/\(0<len -> ∃p,a=some p)) (hU:g.U r) (h : ∀blk c sz,g.M r=some (blk,c,sz)->(off+len<=c/\c<=maxLen)/\((c=off /\ ∃a,x = .slice a 0 0)\/(c≠off /\ ∃b,blk=some b/\x = .slice (some ⟨b,off*sz,Option.none⟩) len (c-off)))):ae w g (.mrow r off len) x
 | mptr (r i off:Nat) (x:Value) (hx : ∃p,x = .pointer (some p)) (hU:g.U r) (h : ∀blk c sz,g.M r=some (blk,c,sz)->c<=maxLen /\ ∃b,blk=some b/\x = .pointer (some ⟨b,i*sz+off,Option.none⟩)):ae w g (.mptr r i off) x
 | mp (r:Nat) (x:Value) (hx : ∃p,x = .map (some p)) (hU:g.U r) (h : ∀blk c sz,g.M r=some (blk,c,sz)->c=maxLen+1 /\ ∃b,blk=some b/\x = .map (some b)):ae w g (.mp r) x
 | fmap (kv:List D) (b:Nat) (es:Array MapEntry) (fZ:Nat) (hI:g.I b) (hb:w.heap[b]? = some (.map es fZ)) (hn:kv.length=(qz es).length) (h : ∀(i:Nat)d x,kv[i]? = some d->(qz es)[i]? = some x->ae w g d x):ae w g (.fmap kv) (.map (some b))
 | fn (f:Fn) (first aD:List D) (fs cs:Array Value) (hf:first.length=fs.size) (hc:aD.length=cs.size) (h1 : ∀(i:Nat)d x,first[i]? = some d->fs[i]? = some x->ae w g d x)
   (h2 : ∀(i:Nat)d x,aD[i]? = some d->cs[i]? = some x->ae w g d x):ae w g (.fn f first aD) (.func f fs cs)
 | cond (b:Bool) (d:D) (x:Value) (ht:b=true->ae w g d x) (hf:b=false->x=undef):ae w g (.cond b d) x
 | junk (x:Value):ae w g .junk x
theorem ae.mono{g g':Mem}(o : ∀b,g.I b->g'.I b/\w'.heap[b]? = w.heap[b]?)(Z : ∀r,g.U r->g'.U r)(L : ∀r,g.U r->g'.M r=g.M r\/g'.M r=Option.none){d:D}(h:ae w g d x):ae w' g' d x:=by
 induction h with
 | v x=>exact .v x
 | agg ds O y _ k=>exact .agg ds O y k
 | tuple ds O y _ k=>exact .tuple ds O y k
 | iface t d x _ k=>exact .iface t d x k
 | empty m a I n R=>exact .empty m a I n R
 | list m V ad I z T hi hl n R N F _ k =>
  refine .list m V ad I z T (o _ hi).1 hl n R N (λi j r d U Y=>?_) k;let⟨A,h4⟩:=F i j r d U Y;refine⟨?_,h4⟩;rw[<-A];exact World.cell?_of_block (by rw[block_add];exact(o _ hi).2)
 | eptr M p T hi F _ k =>
  refine .eptr M p T (o _ hi).1 (λj d U=>?_) k;rw[<-F j d U];exact World.cell?_of_block (by rw[block_add];exact(o _ hi).2)
 | mrow r off W x E u h =>
  refine .mrow r off W x E (Z r u) λG c K J=>?_;rcases L r u with e|e
  . exact h G c K (e▸J)
  rw[e]at J;cases J
 | mptr r i off x E u h =>
  refine .mptr r i off x E (Z r u) λG c K J=>?_;rcases L r u with e|e
  . exact h G c K (e▸J)
  rw[e]at J;cases J
 | mp r x E u h =>
  refine .mp r x E (Z r u) λG c K J=>?_;rcases L r u with e|e
  . exact h G c K (e▸J)
  rw[e]at J;cases J
 | fmap kv b es fZ hi hb y _ k=>exact .fmap kv b es fZ (o b hi).1 ((o b hi).2.trans hb) y k
 | fn f first aD B M n F _ _ X ab=>exact .fn f first aD B M n F X ab
 | cond b d x _ n k=>exact .cond b d x k n
 | junk x=>exact .junk x
def aF(w:World)(g:Mem)(ds:List D)(vs:List Value):Prop:=ds.length=vs.length /\ ∀(i:Nat)d x,ds[i]? = some d->vs[i]? = some x->ae w g d x
theorem aF.nil{g:Mem}:aF w g [] []:=⟨rfl,λi d x h=>by simp at h⟩
theorem aF.cons{g:Mem}{d:D}{ds:List D}(h:ae w g d x)(hs:aF w g ds vs):aF w g (d::ds) (x::vs):=by
 refine⟨by simp[hs.1],λi u a J Y=>?_⟩;cases i with
 | zero=>simp at J Y;subst J;subst Y;exact h
 | succ i=>simp at J Y;exact hs.2 i u a J Y
def aF.head{g:Mem}{d:D}{ds:List D}(hs:aF w g (d::ds) (x::vs)):ae w g d x:=hs.2 0 d x rfl rfl
def aF.tail{g:Mem}{d:D}{ds:List D}(hs:aF w g (d::ds) (x::vs)):aF w g ds vs :=
 ⟨by simpa using hs.1,λi u a J Y=>hs.2 (i+1) u a (by simpa using J) (by simpa using Y)⟩
def aF.of_nil{g:Mem}(hs:aF w g [] vs):vs=[]:=Yb hs.1.symm
theorem aF.of_cons{g:Mem}{d:D}{ds:List D}(hs:aF w g (d::ds) vs):∃x z,vs=x::z/\ae w g d x/\aF w g ds z:=by
 cases vs with
 | nil=>simp[aF]at hs
 | cons x z=>exact⟨x,z,rfl,hs.head,hs.tail⟩
theorem aF.append{g:Mem}{ds a:List D}{us:List Value}(h:aF w g ds vs)(k:aF w g a us):aF w g (ds++a) (vs++us):=by
 induction ds generalizing vs with
 | nil=>rw[h.of_nil];exact k
 | cons d ds c=>obtain⟨x,z,rfl,J,Y⟩:=h.of_cons;exact .cons J (c Y)
theorem aF.take{g:Mem}{ds:List D}(h:aF w g ds vs)(n:Nat):aF w g (ds.take n) (vs.take n):=by
 refine⟨by simp[h.1],λi d x J Y=>?_⟩;rw[Zc]at J Y;split at J
 . rename_i hi;rw[X0 hi]at Y;exact h.2 i d x J Y
 cases J
theorem aF.drop{g:Mem}{ds:List D}(h:aF w g ds vs)(n:Nat):aF w g (ds.drop n) (vs.drop n):=by refine⟨by simp[h.1],λi d x J Y=>?_⟩;rw[Y4]at J Y;exact h.2 _ d x J Y
def aF.mono{g g':Mem}(a : ∀b,g.I b->g'.I b/\w'.heap[b]? = w.heap[b]?)(Z : ∀r,g.U r->g'.U r)(c : ∀r,g.U r->g'.M r=g.M r\/g'.M r=Option.none){ds:List D}(h:aF w g ds vs):aF w' g' ds vs:=⟨h.1,λi d x J Y=>(h.2 i d x J Y).mono a Z c⟩
def Holds(P:Program)[Glob P](w:World)(g:Mem)(bl:dE)(L:Array Value):Prop :=
 ∀(i:Nat)row,bl.rows[i]? = some row->row.length=P.cellsOf bl.ty /\ ∀(j:Nat)d,row[j]? = some d -> ∃u,L[i*P.cellsOf bl.ty+j]? = some u/\u.oneCell'=true/\ae w g d u
def Gr(P:Program)[Glob P](I:Nat->Prop)(w:World):Prop:=∀x M,Glob.tab P x=some M->I x /\ ∀(j:Nat)v,M[j]? = some v->w.cell? ⟨x,j,Option.none⟩=some v
theorem Gr.later{I a:Nat->Prop}(h:Gr P I w)(k : ∀b,I b->a b/\w'.heap[b]? = w.heap[b]?):Gr P a w':=by intro x M E;let⟨J,Y⟩:=h x M E;refine⟨(k x J).1,λj v A=>?_⟩;rw[<-Y j v A];exact World.cell?_of_block (k x J).2
structure HM(P:Program)[Glob P](h:H)(g:Mem)(w:World):Prop where
 dead : ∀r,h r=Option.none->g.M r=Option.none
 blk : ∀r bl,h r=some bl -> ∃blk c,g.M r=some (blk,c,P.cellsOf bl.ty)/\0<P.cellsOf bl.ty/\bl.rows.length<=c/\c<=maxLen+1 /\
  ((blk=Option.none/\c=0) \/ ∃b cur,blk=some b/\wR w.heap[b]? bl.ty cur c/\(c<=maxLen->cur.size=c*P.cellsOf bl.ty) /\ ¬g.I b/\Holds P w g bl cur)
 inj : ∀r r' b c c' s s',g.M r=some (some b,c,s)->g.M r'=some (some b,c',s')->r=r'
 used : ∀r,g.M r≠Option.none->g.U r
 imm : ∀b,g.I b->b<w.heap.size
 gr:Gr P g.I w
class Dr where
 dr:Prop
instance drF:Dr:=⟨False⟩
@[reducible]def I8:Dr:=⟨True⟩
section
variable [Dr]
structure ay(g g':Mem)(w w':World):Prop where
 os:w'.os=w.os
 tape:w'.tape=w.tape
 output:w'.output=w.output
 size:w.heap.size<=w'.heap.size
 drawn:Dr.dr->w.drawn<=w'.drawn
 U : ∀r,g.U r->g'.U r
 M : ∀r,g.U r->g'.M r=g.M r\/g'.M r=Option.none
 new : ∀r b c s,g'.M r=some (some b,c,s)->(∃r' c' s',g.M r'=some (some b,c',s'))\/w.heap.size<=b
 I : ∀b,g.I b->g'.I b
 inew : ∀b,g'.I b->g.I b\/w.heap.size<=b \/ ∃r c s,g.M r=some (some b,c,s)
 same : ∀b,b<w.heap.size->(∀r c s,g.M r≠some (some b,c,s))->w'.heap[b]? = w.heap[b]?
def ay.refl(g:Mem)(w:World):ay g g w w :=
 ⟨rfl,rfl,rfl,XW _,λ_=>XW _,λ_ h=>h,λ_ _=>.inl rfl,λr _ c s h=>.inl ⟨r,c,s,h⟩,λ_ h=>h,λ_ h=>.inl h,λ_ _ _=>rfl⟩
theorem ay.trans{g g' j:Mem}{m:World}(h:ay g g' w w')(k:ay g' j w' m):ay g j w m:=by
 refine⟨k.os.trans h.os,k.tape.trans h.tape,k.output.trans h.output,Yd h.size k.size,λd=>Yd (h.drawn d) (k.drawn d),λr O=>k.U r (h.U r O),λr O=>?_,λr b c s O=>?_,λb p=>k.I b (h.I b p),λb p=>?_,λb p f=>?_⟩
 .
  rcases k.M r (h.U r O)with e|e
  . rw[e];exact h.M r O
  exact .inr e
 .
  rcases k.new r b c s O with⟨n,o,t,e⟩|e
  . exact h.new n b o t e
  exact .inr (Yd h.size e)
 .
  rcases k.inew b p with e|e|⟨r,c,s,e⟩
  . exact h.inew b e
  . exact .inr (.inl (Yd h.size e))
  rcases h.new r b c s e with⟨n,o,t,a⟩|a
  . exact .inr (.inr ⟨n,o,t,a⟩)
  exact .inr (.inl a)
 refine(k.same b (YG p h.size) λr c s e=>?_).trans (h.same b p f);rcases h.new r b c s e with⟨n,o,t,a⟩|a
 . exact f n o t a
 omega
theorem HM.kept{g g':Mem}(v:HM P h g w)(k:ay g g' w w'):∀b,g.I b->g'.I b/\w'.heap[b]? = w.heap[b]? := by
 refine λb p=>⟨k.I b p,k.same b (v.imm b p) λr c s e=>?_⟩;cases O:h r with
 | none=>rw[v.dead r O]at e;cases e
 | some R =>
  let⟨G,f,y,_,_,_,U⟩:=v.blk r R O;rw[e]at y;simp only[Yj,YL]at y;rcases U with⟨W,_⟩|⟨j,L,W,_,_,a,_⟩
  . rw[<-y.1]at W;cases W
  rw[<-y.1]at W;cases W;exact a p
theorem ae.later{g g':Mem}(v:HM P h g w)(k:ay g g' w w'){d:D}(hr:ae w g d x):ae w' g' d x:=hr.mono (v.kept k) k.U k.M
theorem aF.later{g g':Mem}(v:HM P h g w)(k:ay g g' w w'){d:List D}{x:List Value}(hr:aF w g d x):aF w' g' d x:=hr.mono (v.kept k) k.U k.M
mutual
def wk:D->D
 | .agg M=>.agg (dA M)
 | .list _ V=>.list false (dB V)
 | .eptr M=>.eptr (dA M)
 | .tuple ds=>.tuple (dA ds)
 | .iface t d=>.iface t (wk d)
 | .fmap a=>.fmap (dA a)
 | d=>d
def dA:List D->List D
 | []=>[]
 | d::ds=>wk d::dA ds
def dB:List (List D)->List (List D)
 | []=>[]
 | r::z=>dA r::dB z
end
theorem wT : ∀ds:List D,dA ds=ds.map wk
 | []=>rfl
 | d::ds=>by simp only[dA,wT ds,X7]
theorem EO : ∀ds:List (List D),dB ds=ds.map dA
 | []=>rfl
 | d::ds=>by simp only[dB,EO ds,X7]
theorem ji{β:Type}{f:α->β}{l:List α}{i:Nat}{y:β}(h:(l.map f)[i]? = some y):∃x,l[i]? = some x/\f x=y:=by
 rw[YQ]at h;cases hi:l[i]? with
 | none=>rw[hi]at h;cases h
 | some x=>rw[hi]at h;exact⟨x,rfl,by simpa using h⟩
theorem ae.wk{g:Mem}{d:D}(h:ae w g d v):ae w g (wk d) v:=by
 induction h with
 | v x=>exact .v x
 | agg ds L c _ k =>
  simp only[DL.wk,wT];exact .agg _ L (by simpa using c) λi d x J Y=>by obtain⟨y,A,rfl⟩:=ji J;exact k i y x A Y
 | tuple ds L c _ k =>
  simp only[DL.wk,wT];exact .tuple _ L (by simpa using c) λi d x J Y=>by obtain⟨y,A,rfl⟩:=ji J;exact k i y x A Y
 | iface t d x _ k=>exact .iface t _ x k
 | empty m a I o R=>exact .empty false a I (λh=>by cases h) R
 | list m V X I z T hi c o R N F _ k =>
  simp only[DL.wk,EO];have e:V.length=(V.map dA).length:=by simp
  rw[e];refine .list false _ X I z T hi (by simpa using c) (λh=>by cases h) R (λr O=>?_) (λi j r d J Y=>?_) (λi j r d J Y=>?_)
  . obtain⟨G,J,rfl⟩:=Yp.1 O;rw[wT];simpa using N G J
  . obtain⟨G,A,rfl⟩:=ji J;rw[wT]at Y;obtain⟨u,U,rfl⟩:=ji Y;exact F i j G u A U
  obtain⟨G,A,rfl⟩:=ji J;rw[wT]at Y;obtain⟨u,U,rfl⟩:=ji Y;exact k i j G u A U
 | eptr M p T hi F _ k =>
  simp only[DL.wk,wT];refine .eptr _ p T hi (λj d J=>?_) (λj d J=>?_)
  . obtain⟨u,A,rfl⟩:=ji J;exact F j u A
  obtain⟨u,A,rfl⟩:=ji J;exact k j u A
 | mrow r off W x E K h=>exact .mrow r off W x E K h
 | mptr r i off x E K h=>exact .mptr r i off x E K h
 | mp r x E K h=>exact .mp r x E K h
 | fmap kv b Z fZ hi hb hn _ k =>
  simp only[DL.wk,wT];exact .fmap _ b Z fZ hi hb (by simpa using hn) λi d x J Y=>by obtain⟨y,A,rfl⟩:=ji J;exact k i y x A Y
 | fn f first aD B M o F J Y _ _=>exact .fn f first aD B M o F J Y
 | cond b d x n o _=>exact .cond b d x n o
 | junk x=>exact .junk x
end
structure Env where
 p:Mem->World->Prop
 x:Option Nat
 st : ∀(P:Program)[Glob P](h:H)(g g':Mem)(w w':World),HM P h g w -> @ay drF g g' w w'->p g w->p g' w'
def Env.tt:Env:=⟨λ_ _=>True,Option.none,λ_ _ _ _ _ _ _ _ _ _=>trivial⟩
variable{g g':Mem}
variable [Dr]
def ay.weak(h:ay g g' w w'):@ay drF g g' w w':=@ay.mk drF g g' w w' h.os h.tape h.output h.size (λq=>q.elim) h.U h.M h.new h.I h.inew h.same
theorem Env.later{E:Env}(v:HM P h g w)(k:ay g g' w w')(hr:E.p g w):E.p g' w':=E.st P h g g' w w' v k.weak hr
structure gL(x:Option Nat)(g g':Mem)(w w':World):Prop where
 os:w'.os=w.os
 tape:w'.tape=w.tape
 output:w'.output=w.output
 size:w.heap.size<=w'.heap.size
 drawn:Dr.dr->w.drawn<=w'.drawn
 U : ∀r,g.U r->g'.U r
 M : ∀r,g.U r->g'.M r=g.M r\/g'.M r=Option.none
 new : ∀r b c s,g'.M r=some (some b,c,s)->(∃r' c' s',g.M r'=some (some b,c',s'))\/w.heap.size<=b
 I : ∀b,g.I b->g'.I b
 inew : ∀b,g'.I b->g.I b\/w.heap.size<=b \/ ∃r c s,g.M r=some (some b,c,s)
 same : ∀b,b<w.heap.size->(∀r c s,g.M r≠some (some b,c,s))->x≠some b->w'.heap[b]? = w.heap[b]?
def ay.toX{x:Option Nat}(h:ay g g' w w'):gL x g g' w w':=⟨h.os,h.tape,h.output,h.size,h.drawn,h.U,h.M,h.new,h.I,h.inew,λb J Y _=>h.same b J Y⟩
theorem gL.out(h:gL Option.none g g' w w'):ay g g' w w':=⟨h.os,h.tape,h.output,h.size,h.drawn,h.U,h.M,h.new,h.I,h.inew,λb J Y=>h.same b J Y (by simp)⟩
def gL.refl(x:Option Nat)(g:Mem)(w:World):gL x g g w w:=(ay.refl g w).toX
theorem gL.trans{x:Option Nat}{j:Mem}{m:World}(h:gL x g g' w w')(k:gL x g' j w' m):gL x g j w m:=by
 refine⟨k.os.trans h.os,k.tape.trans h.tape,k.output.trans h.output,Yd h.size k.size,λd=>Yd (h.drawn d) (k.drawn d),λr O=>k.U r (h.U r O),λr O=>?_,λr b c s e=>?_,λb p=>k.I b (h.I b p),λb p=>?_,λb p f E=>?_⟩
 .
  rcases k.M r (h.U r O)with e|e
  .
   rcases h.M r O with a|a
   . exact .inl (e.trans a)
   exact .inr (e.trans a)
  exact .inr e
 .
  rcases k.new r b c s e with⟨n,o,t,a⟩|a
  . exact h.new n b o t a
  exact .inr (Yd h.size a)
 .
  rcases k.inew b p with e|e|⟨r,c,s,e⟩
  . exact h.inew b e
  . exact .inr (.inl (Yd h.size e))
  rcases h.new r b c s e with⟨n,o,t,a⟩|a
  . exact .inr (.inr ⟨n,o,t,a⟩)
  exact .inr (.inl a)
 refine(k.same b (YG p h.size) (λr c s e=>?_) E).trans (h.same b p f E);rcases h.new r b c s e with⟨n,o,t,a⟩|a
 . exact f n o t a
 omega
structure aO where
 pure:FuncId->Bool:=λ_=>false
 pf:FuncId->List D->D:=λ_ _=>.junk
 im:FuncId->List D->H->Nat->D×H:=λ_ _ h _=>(.junk,h)
 bs:Bool:=false
 cf:Bool:=false
 dp:Bool:=false
structure S where
 n:Nat
 t:Nat->D
 h:H
 nx:Nat
 ok:Prop:=True
 e:Env:=Env.tt
def S.ev(s:S):Operand->D
 | .tmp i=>s.t i
 | .const x=>qm x
 | .global g=>.v (.pointer (some ⟨g,0,none⟩))
 | .func f=>.fn (.func f) [] []
def aU:Op->List Operand
 | .move x | .assign x | .box _ x | .load _ x | .nilCheck x | .unOp _ _ x | .convert _ _ x | .makeInterface _ x | .fieldAddr _ x _ | .field _ x _ | .extract x _=>[x]
 | .pick c a b=>[c,a,b]
 | .build _ ps | .buildSlice _ _ ps=>ps.toList.map (·.2)
 | .store _ a x | .binOp _ _ a x _ | .indexAddr _ a x | .index _ a x | .makeSlice _ a x=>[a,x]
 | .makeFunc _ first g=>first.toList++g.toList
 | .slice _ x l h m=>x::(l.toList++h.toList++m.toList)
 | .makeMap _ r=>r.toList
 | .lookup _ m k _=>[m,k]
 | .mapUpdate _ m k x | .insert _ m k x=>[m,k,x]
 | .call { callee:=.value f,args,.. }=>f::args.toList
 | .call { callee:=.builtin _,args,.. }=>args.toList
 | _=>[]
def l5:D->Bool->Bool
 | .v (.bool b),a=>b==a
 | .cond g (.v (.bool b)),a=>g&&(b==a)
 | _,_=>false
def vW:D->Bool
 | .v (.bool _) | .cond _ (.v (.bool _))=>true
 | _=>false
def sd:D->D
 | .cond _ d=>d
 | d=>d
def sg:D->Bool
 | .cond g _=>g
 | _=>true
def bv:D->Bool
 | .v (.bool b)=>b
 | _=>false
def z8:D->Bool
 | .v (.bool _)=>true
 | _=>false
def KF(g:Bool):List D->D×Prop
 | [c,a,b]=>(.v (.bool (bif bv (sd c)then bv (sd a)else bv (sd b))),(g=true->(sg c=true/\z8 (sd c)=true)/\(bv (sd c)=true->sg a=true/\z8 (sd a)=true)/\(bv (sd c)=false->sg b=true/\z8 (sd b)=true)))
 | _=>(.junk,False)
section
variable (P : Program) [Glob P] (C : aO)
def Am(s:TypeId):List (Nat×Operand)->List D->List D->List D
 | (f,_)::ps,x::xs,cs=>match bq P s f with
  | some (off,_)=>Am s ps xs (splice cs off x.cells)
  | none=>match qZ P s with
   | some (_,e)=>Am s ps xs (splice cs (f*P.cellsOf e) x.cells)
   | none=>cs
 | _,_,cs=>cs
def Cg(s:TypeId)(n:Nat):List (Nat×Operand)->List D->Prop
 | (f,_)::ps,x::z=>(match bq P s f with
  | some (off,t)=>x.cells.length=P.cellsOf t/\off+x.cells.length<=n
  | none=>match qZ P s with
   | some (_,e)=>x.cells.length=P.cellsOf e/\f*P.cellsOf e+x.cells.length<=n
   | none=>False)/\x.cells.all D.one=true/\Cg s n ps z
 | [],_=>True
 | _,_=>False
def iK(t:TypeId):Bool:=match P.underlying t with
 | some (.struct B)=>B.toList.all λf=>(P.info? f.type).isSome
 | some (.array _ e)=>(P.info? e).isSome
 | _=>false
def Gc(t:TypeId)(ps:List (Nat×Operand))(xs:List D):D×Prop :=
 (.agg (Am P t ps xs (zeroCells P t)),Cg P t (zeroCells P t).length ps xs/\(zeroCells P t).all D.one=true/\0<(zeroCells P t).length/\iK P t=true)
def Da(n i:Nat):List (Nat×Operand)->List D->Prop
 | (j,_)::ps,x::z=>j=i/\x.cells.length=n/\x.cells.all D.one=true/\Da n (i+1) ps z
 | [],[]=>True
 | _,_=>False
def EE(t:TypeId)(len:Nat)(ps:List (Nat×Operand))(xs:List D):D×Prop:=match bS P t with
 | some e=>(.list true (xs.map D.cells),ps.length=len/\Da (P.cellsOf e) 0 ps xs/\0<P.cellsOf e/\len*P.cellsOf e<=16777216/\eH P e=true)
 | none=>(.junk,False)
def wM(t:TypeId)(len:Nat)(ps:List (Nat×Operand))(xs:List D)(h:H)(b:Nat):D×H×Prop:=match bS P t with
 | some e=>(.mrow b 0 len,upd h b (some ⟨e,xs.map D.cells⟩),0<len/\ps.length=len/\Da (P.cellsOf e) 0 ps xs/\0<P.cellsOf e/\len*P.cellsOf e<=16777216/\eH P e=true)
 | none=>(.junk,h,False)
def iy(u:TypeId)(h:H):D->Bool
 | .list _ _=>(bS P u).isSome
 | .mrow r _ _=>(bS P u).isSome&&(h r).isSome
 | .v (.string _)=>match P.underlying u with|some .string=>true|_=>false
 | _=>false
def jm(t u:TypeId)(x y:D)(h:H)(b:Nat):D×H×Prop:=match bS P t with
 | none=>(.junk,h,False)
 | some e =>
  let v:=aG y h;let a:=0<P.cellsOf e/\(bQ x+v.length)*P.bytesOf e<=140737488355328/\bQ x+v.length<=9223372036854775807;let c:=v.length=bQ y/\iy P u h y=true/\eH P e=true /\ ∀r∈v,r.length=P.cellsOf e
  match x with
  | .list true V=>(.mrow b 0 (V.length+v.length),upd h b (some ⟨e,V++v⟩),a/\c/\(v=[]->V=[]) /\ ∀r∈V,r.length=P.cellsOf e)
  | .mrow r 0 n=>match h r with
   | some R=>(.mrow b 0 (n+v.length),upd (upd h r none) b (some ⟨e,R.rows++v⟩),a/\c/\R.ty=e/\R.rows.length=n/\r≠b)
   | none=>(.junk,h,False)
  | _=>(.junk,h,False)
def bnd(o:Option D)(d:Nat):Int:=match o with
 | some (.v (.int _ n))=>n
 | _=>d
def EF:Option D->Bool
 | none|some (.v (.int _ _))=>true
 | _=>false
def rE(t:TypeId)(x:D)(l hh m:Option D)(h:H):D×Prop :=
 let W:=bQ x;let a:=bnd l 0;let hi:=bnd hh W;let y:=EF l=true/\EF hh=true/\EF m=true/\0<=a/\a<=hi/\hi<=W
 match x with
 | .v (.string s)=>(.v (.string (s.extract a.toNat hi.toNat)),y/\m=none/\P.underlying t=some .string)
 | .list c V=>match bS P t with
  | none=>(.junk,False)
  | some e=>match m with
   | none=>(.list (c&&hi==W) ((V.take hi.toNat).drop a.toNat),y/\0<P.cellsOf e /\ ∀r∈V,r.length=P.cellsOf e)
   | some _=>(.list true ((V.take hi.toNat).drop a.toNat),y/\hh.isSome=true/\bnd m 0=hi/\0<P.cellsOf e /\ ∀r∈V,r.length=P.cellsOf e)
 | .mrow r off _=>match bS P t with
  | none=>(.junk,False)
  | some e=>(.mrow r (off+a.toNat) (hi-a).toNat,y/\m=none/\0<P.cellsOf e/\match h r with|some R=>R.ty=e|none=>False)
 | _=>(.junk,False)
def kQ(o:Option Operand)(xs:List D):Option D×List D:=match o,xs with
 | some _,x::xs=>(some x,xs)
 | some _,[]=>(none,[])
 | none,xs=>(none,xs)
def D8(t:TypeId)(x K:D):D×Prop:=match x,K with
 | .v (.string s),.v (.int _ n)=>(.v (.int .u8 (s.data.toList.getD n.toNat 0).toNat),0<=n/\n<s.size/\P.underlying t=some .string)
 | _,_=>(.junk,False)
def CL(op:UnOp)(x:D):D×Prop:=match op,x with
 | .not,.v (.bool b)=>(.v (.bool !b),True)
 | .neg,.v (.int k n)=>(.v (.int k (-n)),sj k (-n))
 | _,_=>(.junk,False)
def byteOf:List D->UInt8
 | [.v (.int .u8 n)]=>UInt8.ofNat n.toNat
 | _=>0
def isByte:List D->Bool
 | [.v (.int .u8 _)]=>true
 | _=>false
def Rc(P:Program)(t:TypeId):Bool:=match P.underlying t with
 | some (.slice e)=>match P.underlying e with
  | some (.int .u8)=>true
  | _=>false
 | _=>false
def Ez(a dst:TypeId)(x:D):D×Prop:=match P.underlying dst,x with
 | some (.int k),.v (.int _ n)=>(.v (.int k (k.wrap n)),(P.underlying a).isSome=true)
 | some .string,.v (.string s)=>(.v (.string s),match P.underlying a with|some .string=>True|_=>False)
 | some .string,.list _ V=>(.v (.string ⟨(V.map byteOf).toArray⟩),Rc P a=true/\V.all isByte=true)
 | _,_=>(.junk,False)
def rW(t:TypeId)(h:H)(b:Nat):D->D->D×H×Prop
 | .v (.int _ n),.v (.int _ m)=>match bS P t with
  | some e=>(.mrow b 0 n.toNat,upd h b (some ⟨e,List.replicate n.toNat (zeroCells P e)⟩),n<=m/\0<=n/\P.bytesOf e*m<=281474976710656/\m<=9223372036854775807/\eH P e=true/\(zeroCells P e).length=P.cellsOf e/\(zeroCells P e).all D.one=true/\0<P.cellsOf e)
  | none=>(.junk,h,False)
 | _,_=>(.junk,h,False)
def Ll:List D->Bool
 | []|[.v (.int _ _)]=>true
 | _=>false
def DF(t:TypeId)(xs:List D)(h:H)(b:Nat):D×H×Prop:=(.mp b,upd h b (some ⟨t,gZ []⟩),(qx P t).isSome=true/\P.cellsOf t=1/\Ll xs=true)
def vD(t:TypeId)(m k x:D)(h:H):H×Prop:=match qx P t,m with
 | some (a,_),.mp r=>match h r with
  | some R=>match rZ R with
   | some c=>(upd h r (some ⟨R.ty,gZ (ib c k x)⟩),mP P a k=true/\jl P a c=true/\uh P a=true)
   | none=>(h,False)
  | none=>(h,False)
 | _,_=>(h,False)
def tZ(t:TypeId)(ok:Bool)(m k:D)(h:H):D×Prop:=match qx P t,zW h m with
 | some (c,e),some a=>(if ok then .tuple [(iZ a k).getD (zh P e),.b (iZ a k).isSome]else(iZ a k).getD (zh P e),
   mP P c k=true/\jl P c a=true/\uh P c=true/\Iu P e=true)
 | _,_=>(.junk,False)
def wI(h:H)(d:D):D:=match d with
 | .mrow _ _ _=>.list false (aG d h)
 | d=>d
def Ar(h:H)(d:D):D:=match d with
 | .mrow _ _ _=>.list false (aG d h)
 | .mptr _ _ _=>.eptr ((iN d h).map (wI h))
 | d=>d
def deref(h:H)(d:D):D:=match d with
 | .mrow _ _ _=>.list false (aG d h)
 | .mptr _ _ _=>.eptr ((iN d h).map (wI h))
 | .fn f a b=>.fn f (a.map (Ar h)) (b.map (Ar h))
 | d=>d
def mV(h:H)(d:D):D:=wk (deref h d)
def xS(h:H)(d:D):Prop:=match d with
 | .mrow r _ W=>(h r).isSome=true/\(aG d h).length=W
 | _=>True
def Ex(h:H)(d:D):Prop:=match d with
 | .mrow r _ W=>(h r).isSome=true/\(aG d h).length=W
 | .mptr r _ _=>(h r).isSome=true /\ ∀c∈iN d h,xS h c
 | _=>True
def qV(h:H)(d:D):Prop:=match d with
 | .mrow r _ W=>(h r).isSome=true/\(aG d h).length=W
 | .mptr r _ _=>(h r).isSome=true /\ ∀c∈iN d h,xS h c
 | .fn _ a b=>(∀c∈a,Ex h c) /\ ∀c∈b,Ex h c
 | _=>True
mutual
def D.nr:D->Bool
 | .v _=>true
 | .agg M=>aX M
 | .list _ V=>aQ V
 | .eptr M=>aX M
 | .mrow _ _ _=>false
 | .mptr _ _ _=>false
 | .mp _=>false
 | .fmap c=>aX c
 | .fn _ a b=>aX a&&aX b
 | .tuple ds=>aX ds
 | .iface _ d=>d.nr
 | .cond _ d=>d.nr
 | .junk=>true
def aX:List D->Bool
 | []=>true
 | d::ds=>d.nr&&aX ds
def aQ:List (List D)->Bool
 | []=>true
 | r::z=>aX r&&aQ z
end
def snap(h:H):Nat->D->D
 | 0,d=>d
 | k+1,d=>match d with
  | .mrow r off W=>.list false ((aG (.mrow r off W) h).map λrow=>row.map (snap h k))
  | .agg M=>.agg (M.map (snap h k))
  | .tuple M=>.tuple (M.map (snap h k))
  | .iface t d=>.iface t (snap h k d)
  | .mptr r i off=>.eptr ((iN (.mptr r i off) h).map (snap h k))
  | .fn f a b=>.fn f (a.map (snap h k)) (b.map (snap h k))
  | d=>d
def dU(h:H):Nat->D->Prop
 | 0,d=>d.nr=true
 | k+1,d=>match d with
  | .mrow r off W=>qV h (.mrow r off W) /\ ∀row∈aG (.mrow r off W) h,∀c∈row,dU h k c
  | .agg M=>∀c∈M,dU h k c
  | .tuple M=>∀c∈M,dU h k c
  | .iface _ d=>dU h k d
  | .mptr r i off=>(h r).isSome=true /\ ∀c∈iN (.mptr r i off) h,dU h k c
  | .fn _ a b=>(∀c∈a,dU h k c) /\ ∀c∈b,dU h k c
  | d=>d.nr=true
def jr(h:H)(d:D):D:=wk (snap h 5 d)
def BI:D->Bool
 | .mrow _ _ _ | .mptr _ _ _=>true
 | _=>false
def kU:D->Bool
 | .mrow _ _ _ | .mptr _ _ _=>true
 | .fn _ a b=>a.any BI||b.any BI
 | _=>false
def Qp:D->Bool
 | .v _=>true
 | _=>false
def flat:D->Bool
 | .v _=>true
 | .agg cs | .tuple cs=>cs.all Qp
 | _=>false
def KX:List D->D×Prop
 | [.v (.int k a),.v (.int k' b)]=>(.v (.int k (min a b)),k=k')
 | _=>(.junk,False)
def KZ:List D->D×Prop
 | [.v (.int k a),.v (.int k' b)]=>(.v (.int k (max a b)),k=k')
 | _=>(.junk,False)
def DK(t:TypeId):D->Bool
 | .list _ _ | .mrow _ _ _=>(bS P t).isSome
 | .v (.string _)=>match P.underlying t with|some .string=>true|_=>false
 | _=>false
end
structure cu where
 pureCt:FuncId->List D->D->Prop
 ct:FuncId->List D->H->Nat->D->H->Prop
section
variable (P : Program) [Glob P] (W : cu) (C : aO)
def HY(_:Operand):Bool:=true
def kZ(f:Operand)(xs:List D)(h:H)(_:Nat):D×H×Prop:=match f,xs with
 | .func k,_::m=>if C.pure k then
   (if C.cf then
    let a:=m.map wk
    (C.pf k a,h,W.pureCt k a (C.pf k a)/\m.any kU=false)
   else if C.dp then
    let a:=m.map (jr h)
    (C.pf k a,h,W.pureCt k a (C.pf k a)/\flat (C.pf k a)=true /\ ∀y∈m,dU h 5 y)
   else
    let a:=m.map (mV h)
    (C.pf k a,h,W.pureCt k a (C.pf k a)/\(m.any kU=true->flat (C.pf k a)=true /\ ∀y∈m,qV h y)))
  else if C.cf then(.junk,h,False)else(C.pf k (m.map (mV h)),h,∀b,W.ct k (m.map wk) h b (C.pf k (m.map (mV h))) h)
 | _,.fn (.func k) first g::m=>if C.pure k then
   (if C.cf then
    let c:=(first++m++g).map wk
    (C.pf k c,h,W.pureCt k c (C.pf k c)/\(first++m++g).any kU=false)
   else if C.dp then
    let c:=(first++m++g).map (jr h)
    (C.pf k c,h,W.pureCt k c (C.pf k c)/\flat (C.pf k c)=true /\ ∀y∈first++m++g,dU h 5 y)
   else
    let c:=(first++m++g).map (mV h)
    (C.pf k c,h,W.pureCt k c (C.pf k c)/\((first++m++g).any kU=true->flat (C.pf k c)=true /\ ∀y∈first++m++g,qV h y)))
  else(.junk,h,False)
 | _,_=>(.junk,h,False)
def still(h:H)(r:D×Prop):D×H×Prop:=(r.1,h,r.2)
def bz(op:Op)(xs:List D)(h:H)(b:Nat):D×H×Prop :=
 match op,xs with
 | .move _,[x] | .assign _,[x]=>(x,h,True)
 | .alloc e,[]=>(.mptr b 0 0,upd h b (some ⟨e,[zeroCells P e]⟩),(zeroCells P e).length=P.cellsOf e/\(zeroCells P e).all D.one=true/\0<P.cellsOf e)
 | .box e _,[x]=>(.mptr b 0 0,upd h b (some ⟨e,[x.cells]⟩),x.cells.length=P.cellsOf e/\x.cells.all D.one=true/\0<P.cellsOf e)
 | .build t g,xs=>still h (Gc P t g.toList xs)
 | .buildSlice t n g,xs=>if C.bs then wM P t n g.toList xs h b else still h (EE P t n g.toList xs)
 | .load t _,[a]=>still h (nU P t a h)
 | .store t _ _,[a,x]=>(.v undef,lS P t a x h)
 | .nilCheck _,[x]=>(x,h,zZ x=true)
 | .binOp op t _ _ _,[x,y]=>still h (AC P t op x y)
 | .unOp op _ _,[x]=>still h (CL op x)
 | .convert c j _,[x]=>still h (Ez P c j x)
 | .makeFunc f first _,xs=>(.fn f (xs.take first.size) (xs.drop first.size),h,True)
 | .slice t _ l hi m,x::xs =>
  still h (rE P t x (kQ l xs).1 (kQ hi (kQ l xs).2).1 (kQ m (kQ hi (kQ l xs).2).2).1 h)
 | .fieldAddr s _ f,[a]=>still h (Er P s f a)
 | .field s _ f,[a]=>still h (IW P s f a)
 | .indexAddr t _ _,[x,K]=>still h (jH P t x K h)
 | .index t _ _,[x,K]=>still h (D8 P t x K)
 | .makeSlice t _ _,[x,y]=>rW P t h b x y
 | .makeMap t _,xs=>DF P t xs h b
 | .mapUpdate t _ _ _,[m,k,x] | .insert t _ _ _,[m,k,x]=>(.v undef,vD P t m k x h)
 | .lookup t _ _ o,[m,k]=>still h (tZ P t o m k h)
 | .extract _ i,[.tuple ds]=>(ds.getD i .junk,h,i<ds.length)
 | .call { callee:=.builtin .len,argTypes,.. },[x]=>(.v (.int .i64 (bQ x)),h,match argTypes.toList with|[t]=>DK P t x=true|_=>False)
 | .call { callee:=.builtin .append,argTypes,.. },[x,y]=>(match argTypes.toList with|[t,u]=>jm P t u x y h b|_=>(.junk,h,False))
 | .call { callee:=.builtin .min,.. },xs=>still h (KX xs)
 | .call { callee:=.builtin .max,.. },xs=>still h (KZ xs)
 | .call { callee:=.value f,.. },xs=>kZ W C f xs h b
 | _,_=>(.junk,h,False)
inductive Gm where
 | none|reads|writes
 deriving DecidableEq
def bW(op:Op):Gm:=match op with
 | .load .. | .indexAddr .. | .slice .. => .reads
 | .alloc _ | .box .. | .store .. | .makeSlice .. | .makeMap .. | .mapUpdate .. | .insert .. => .writes
 | .lookup .. => .reads
 | .buildSlice .. => if C.bs then .writes else .none
 | .call { callee:=.builtin .append,.. }=>.writes
 | .call { callee:=.value f,.. }=>if C.cf then .none else if HY f then .reads else .writes
 | _=>.none
def fC:Op->Bool
 | .pick .. => true
 | _=>false
def aW(g:Bool)(op:Op)(xs:List D)(h:H)(b:Nat):D×H×Prop :=
 if fC op then still h (KF g xs)
 else let r:=bz P W C op (xs.map sd) h b;(r.1,r.2.1,(g=true->xs.all sg=true)/\r.2.2)
def S.put(s:S)(d:Option Tmp)(x:D):Nat->D:=match d with
 | some d=>upd s.t d x
 | none=>s.t
def dN(n:Nat):Option Tmp->Bool
 | some d=>decide (d<n)
 | none=>true
def dM(L:List Oper)(b:Nat)(i:Nat)(o:Oper)(s:S):S :=
 match o.guard with
 | none =>
  let r:=aW P W C true o.op ((aU o.op).map s.ev) s.h (b+i)
  { s with t:=s.put o.dst r.1,h:=r.2.1,ok:=s.ok/\dN s.n o.dst=true/\r.2.2 }
 | some (j,a) =>
  let c:=((L[j]?).bind (·.dst)).elim .junk s.t;let r:=aW P W C (l5 c a) o.op ((aU o.op).map s.ev) s.h (b+i)
  { s with t:=s.put o.dst (.cond (l5 c a) r.1),ok:=s.ok/\dN s.n o.dst=true/\vW c=true/\bW C o.op ≠ .writes/\(l5 c a=true->r.2.2) }
def bu(L:List Oper)(b:Nat):Nat->List Oper->S->S
 | _,[],s=>s
 | i,o::a,s=>bu L b (i+1) a (dM P W C L b i o s)
def S.begin(s:S)(k:Nat):S:={ s with nx:=s.nx+k }
def exec(L:List Oper)(s:S):S:=bu P W C L s.nx 0 L (s.begin L.length)
end
theorem Gp{k:IntKind}{n:Int}(h:sj k n):k.wrap n=n:=by
 cases k<;>simp[sj,IntKind.min,IntKind.max,IntKind.signed,IntKind.bits]at h
 . exact IntWalk.i8_in n h
 . exact IntWalk.i16_in n h
 . exact IntWalk.i32_in n h
 . exact IntWalk.i64_in n h
 . exact IntWalk.u8_in n ⟨h.1,om⟩
 . exact IntWalk.u16_in n ⟨h.1,om⟩
 . exact IntWalk.u32_in n ⟨h.1,om⟩
 exact IntWalk.u64_in n ⟨h.1,om⟩
theorem ZlK{k:IntKind}{a b:Int}(h:sj k a)(h0:0<=a)(h1:1<=b):sj k (a / b):=by have Y:0<=a / b:=Int.ediv_nonneg h0 om;have A:a / b<=a:=Int.ediv_le_self _ h0;exact⟨by have:=h.1;cases k<;>simp[IntKind.min,IntKind.signed,IntKind.bits]at * <;> omega,Int.le_trans A h.2⟩
variable{t:TypeId}
def Zci{op:BinOp}{y:Value}(h:(fP P t op x y).2)(a b:Operand)(w:World) :
  (do eqGuard op t a b x y;binOp op t x y:Sem Value).run P w = .ok (fP P t op x y).1 w:=by
 unfold fP at h ⊢;split at h
 case h_1 k f g c =>
  by_cases N:k.signed=true
  . simp only[N,Zm]at h ⊢;obtain⟨rfl,Y⟩:=h;simp[eqGuard,binOp,Op.intArith,Gp Y]
  simp only[N,Y8,Yn]at h ⊢;subst h;simp[eqGuard,binOp,Op.intArith]
 case h_2 k f g c =>
  by_cases N:k.signed=true
  . simp only[N,Zm]at h ⊢;obtain⟨rfl,Y⟩:=h;simp[eqGuard,binOp,Op.intArith,Gp Y]
  simp only[N,Y8,Yn]at h ⊢;subst h;simp[eqGuard,binOp,Op.intArith]
 case h_3 k f g c =>
  by_cases N:k.signed=true
  . simp only[N,Zm]at h ⊢;obtain⟨rfl,Y⟩:=h;simp[eqGuard,binOp,Op.intArith,Gp Y]
  simp only[N,Y8,Yn]at h ⊢;subst h;simp[eqGuard,binOp,Op.intArith]
 case h_4 k f g c =>
  obtain⟨rfl,Y,A,j⟩:=h;have e:k.wrap (f.tdiv c)=f / c:=by rw[Int.tdiv_eq_ediv_of_nonneg Y,Gp (ZlK j Y A)]
  simp[eqGuard,binOp,Op.intDiv,show c≠0 by omega,e]
 case h_5 k f g c =>
  obtain⟨rfl,Y,A⟩:=h;simp[eqGuard,binOp,Op.intDiv,show c≠0 by omega,Int.tmod_eq_emod_of_nonneg Y]
 case h_17 f c =>
  simp only[eqGuard,binOp];simp[Op.stringOp,ByteArray.toList_eq]
 case h_18 f c =>
  simp only[eqGuard,binOp];simp[Op.stringOp,ByteArray.toList_eq]
 case h_19 f c =>
  simp only[eqGuard,binOp];simp[Op.stringOp,ByteArray.toList_eq]
 case h_20 f c =>
  simp only[eqGuard,binOp];simp[Op.stringOp,ByteArray.toList_eq]
 case h_21 k f g c =>
  have I : ¬c<0:=by omega
  simp[eqGuard,binOp,Op.shift,I]
 case h_22 k f g c =>
  have I : ¬c<0:=by omega
  simp[eqGuard,binOp,Op.shift,I]
 case h_23 k f g c =>
  subst h;simp[eqGuard,binOp,Op.intBits]
 case h_24 k f g c =>
  subst h;simp[eqGuard,binOp,Op.intBits]
 case h_25 k f g c =>
  subst h;simp[eqGuard,binOp,Op.intBits]
 case h_26 k f g c =>
  subst h;simp[eqGuard,binOp,Op.intBits]
 case h_27=>exact h.elim
 case h_16 f c =>
  have:=run_string_add_sum (P:=P) w f c h;simp[eqGuard,binOp,this]
 case h_12 f c =>
  have e:(Op.equalIn 10000 t (.bool f) (.bool c)).run P w = .ok (f==c) w:=run_equalIn_bool w 9999 t f c h;simp only[eqGuard,binOp];simp[Op.equal,Op.maxDepth,e]
 case h_13 f c =>
  have e:(Op.equalIn 10000 t (.bool f) (.bool c)).run P w = .ok (f==c) w:=run_equalIn_bool w 9999 t f c h;simp only[eqGuard,binOp];simp[Op.equal,Op.maxDepth,e,bne]
 case h_14 f c =>
  simp only[eqGuard,binOp];simp[Op.stringOp,ByteArray.toList_eq]
 case h_15 f c =>
  simp only[eqGuard,binOp];simp[Op.stringOp,ByteArray.toList_eq,bne]
 all_goals
  subst h;simp only[eqGuard,binOp];simp[Op.intCmp]
theorem ae.v_inv{y:Value}(h:ae w g (.v x) y):y=x:=by cases h;rfl
def Zir{k:Kd}{a b:D}(h:Dl k a b=true) :
  (k = .i /\ ∃kk x y,a = .v (.int kk x)/\b = .v (.int kk y))\/(k = .b /\ ∃x y,a = .v (.bool x)/\b = .v (.bool y))\/(k = .s /\ ∃x y,a = .v (.string x)/\b = .v (.string y)):=by
 unfold Dl at h;split at h
 . simp only[YF]at h;subst h;exact .inl ⟨rfl,_,_,_,rfl,rfl⟩
 . exact .inr (.inl ⟨rfl,_,_,rfl,rfl⟩)
 . exact .inr (.inr ⟨rfl,_,_,rfl,rfl⟩)
 cases h
theorem Za1:∀(B:List Field)(i:Nat)(ks:List Kd)(xs m:List Value)(p r:List D)(w:World)(g:Mem)(n:Nat),Ci P i B=some ks->uq ks (p.drop i) (r.drop i)=true ->
  aF w g p xs->aF w g r m->(Op.eqFields (n+1) xs.toArray m.toArray B).run P w = .ok (qQ (p.drop i) (r.drop i)) w:=by
 intro B;induction B with
 | nil =>
  intro i ks xs m p r w g n X F E o;simp only[Ci,Yj]at X;subst X;cases J:p.drop i with
  | nil=>simp[Op.eqFields,qQ]
  | cons a l=>rw[J]at F;simp[uq]at F
 | cons f B ih =>
  intro i ks xs m p r w g n A F E o;simp only[Ci]at A;split at A
  case isFalse=>cases A
  rename_i G;simp only[XU,ZN,YF]at G;let⟨hn,t⟩:=G;split at A
  case h_2=>cases A
  rename_i k N X hr;simp only[Yj]at A;subst A;have K:i<p.length:=by
   rcases YK i p.length with h|h
   . exact h
   rw[Y5 h]at F;simp[uq]at F
  have I:p.drop i=p[i]::p.drop (i+1):=YE K;have v:i<r.length:=by
   rcases YK i r.length with h|h
   . exact h
   rw[I,Y5 h]at F;simp[uq]at F
  have R:r.drop i=r[i]::r.drop (i+1):=YE v;rw[I,R]at F ⊢;simp only[uq,XU]at F;have T:i<xs.length:=by rw[<-E.1];exact K
  have U:i<m.length:=by rw[<-o.1];exact v
  have Z:=E.2 i p[i] xs[i] (by simp) (by simp);have ry:=o.2 i r[i] m[i] (by simp) (by simp);have V:=ih (i+1) N xs m p r w g n hr F.2 E o;have u : ∃d,P.underlying f.type=some d/\((k = .b/\d = .bool)\/(k = .s/\d = .string)\/(k = .i /\ ∃L,d = .int L)):=by unfold kindOf at X;split at X<;>simp at X<;>subst X<;>simp_all
  let⟨d,u,M⟩:=u;have z:(isAgg f.type).run P w = .ok false w:=by unfold isAgg;rw[Sem.run_bind,run_underlying u w];rcases M with⟨_,rfl⟩|⟨_,rfl⟩|⟨_,L,rfl⟩<;>simp
  have px:(part f.type xs.toArray f.offset).run P w = .ok xs[i] w:=by unfold part;simp[z,t,T]
  have py:(part f.type m.toArray f.offset).run P w = .ok m[i] w:=by unfold part;simp[z,t,U]
  have W:(Op.equalIn (n+1) f.type xs[i] m[i]).run P w = .ok (ou p[i] r[i]) w:=by
   rcases Zir F.1 with⟨rfl,L,x,y,Y,O⟩|⟨rfl,x,y,Y,O⟩|⟨rfl,x,y,Y,O⟩<;>rw[Y]at Z ⊢ <;> rw[O]at ry ⊢ <;> rw[Z.v_inv,ry.v_inv]
   .
    rcases M with⟨h,_⟩|⟨h,_⟩|⟨_,c,rfl⟩
    . cases h
    . cases h
    exact run_equalIn_int w n f.type L c x y u
   .
    rcases M with⟨_,rfl⟩|⟨h,_⟩|⟨h,_⟩
    . exact run_equalIn_bool w n f.type x y u
    . cases h
    cases h
   rcases M with⟨h,_⟩|⟨_,rfl⟩|⟨h,_⟩
   . cases h
   . rw[run_equalIn_string w n f.type x y u,ByteArray.toList_eq,ByteArray.toList_eq];rfl
   cases h
  simp only[Op.eqFields,X0 hn,Sem.run_bind,px,py,W,Result.andThen_ok,qQ];cases j:ou p[i] r[i]with
  | false=>simp
  | true=>simp[V]
def Zpc{op:BinOp}{x y:D}{r A:Value}(E:ae w g x r)(o:ae w g y A)(h:(AC P t op x y).2)(a b:Operand) :
  ∃v,(do eqGuard op t a b r A;binOp op t r A:Sem Value).run P w = .ok v w/\ae w g (AC P t op x y).1 v:=by
 unfold AC at h ⊢;split at h
 . rename_i x y;rw[E.v_inv,o.v_inv];exact⟨_,Zci h a b w,.v _⟩
 .
  rename_i z m;cases E with|agg _ j f u =>
  cases o with|agg _ n L M =>
  have O : ∀ks,xQ P t=some ks->uq ks z m=true->(Op.equalIn 10000 t (.agg j) (.agg n)).run P w = .ok (qQ z m) w/\P.eqGuardType P.depth t=false:=by
   intro ks k F;unfold xQ at k;split at k
   case h_2=>cases k
   rename_i B p;split at k
   case isFalse=>cases k
   rename_i I;simp only[XU,Ya]at I;have K:P.fieldsOf t=B:=by simp[Program.fieldsOf,p]
   have J:=run_equalIn_agg (P:=P) w 9999 t j n (by rw[K];exact p) I.1;have Y:=Za1 (P:=P) B.toList 0 ks j.toList n.toList z m w g 9998 k (by simpa using F) ⟨by simpa using f,λi d x J Y=>u i d x J (by simpa using Y)⟩ ⟨by simpa using L,λi d x J Y=>M i d x J (by simpa using Y)⟩;rw[K]at J;simp only[Array.toArray_toList,X4]at Y;exact⟨J.trans Y,I.2⟩
  split at h
  .
   split at h
   . rename_i ks k;let⟨G,c⟩:=O ks k h;refine⟨.bool (qQ z m),?_,.v _⟩;simp only[Sem.run_bind,run_eqGuard_agg w .eql t a b j n c,Result.andThen_ok,run_eql_struct,G]
   exact h.elim
  .
   split at h
   . rename_i ks k;let⟨G,c⟩:=O ks k h;refine⟨.bool (!qQ z m),?_,.v _⟩;simp only[Sem.run_bind,run_eqGuard_agg w .neq t a b j n c,Result.andThen_ok,run_neq_struct,G]
   exact h.elim
  exact h.elim
 exact h.elim
variable{cs:List Value}{h':H}{off r:Nat}{z:Value}
theorem pY(v:HM P h g w){b s:Nat}(e:g.M r=some (some b,c,s)):b<w.heap.size /\ ¬g.I b /\ ∃R,h r=some R:=by
 cases O:h r with
 | none=>rw[v.dead r O]at e;cases e
 | some R =>
  let⟨G,f,y,_,_,_,U⟩:=v.blk r R O;rw[e]at y;simp only[Yj,YL]at y;rcases U with⟨W,_⟩|⟨j,L,W,a,_,T,_⟩
  . rw[<-y.1]at W;cases W
  rw[<-y.1]at W;cases W;let⟨x,E,_⟩:=a.some;exact⟨(Yo.1 E).1,T,_,rfl⟩
def HM.putB(v:HM P h g w)(b o c:Nat)(bl:dE)(B:Array Value)(p : ¬g.U b\/g.M b=some (some o,c,P.cellsOf bl.ty))(F:h' b=some bl)(hr : ∀r,r≠b->h' r=h r\/h' r=none)(K:w.heap.size<=o \/ ∃r R s',g.M r=some (some o,R,s')/\(r=b\/h' r=none))(PQ:wR w'.heap[o]? bl.ty B c)(E:c<=maxLen->B.size=c*P.cellsOf bl.ty)(ab:0<P.cellsOf bl.ty)(aw:bl.rows.length<=c)(ac:c<=maxLen+1)(am:Holds P w g bl B)(Z:w.grownBy w' (some o))(b7:w.drawn<=w'.drawn:=by first|exact XW _|exact Nat.le_succ _) :
  ∃L:Mem,L.M b=some (some o,c,P.cellsOf bl.ty)/\(∀r,L.U r↔g.U r\/r=b)/\(∀b,L.I b↔g.I b)/\HM P h' L w'/\ay g L w w':=by
 let L:Mem:={ M:=λr=>if r=b then some (some o,c,P.cellsOf bl.ty)else if(h' r).isSome then g.M r else none,U:=λr=>g.U r\/r=b,I:=g.I };have x:L.M b=some (some o,c,P.cellsOf bl.ty):=by simp[L]
 have a : ∀r,r≠b->L.M r=if(h' r).isSome then g.M r else none:=λr hr=>by simp[L,hr]
 have N : ∀r R s',r≠b->L.M r≠some (some o,R,s'):=by
  intro r R s' aq z;rw[a r aq]at z;split at z
  .
   rename_i hs;rcases K with J|⟨t,c2,s2,Y,A⟩
   . have:=(pY v z).1;omega
   have:r=t:=v.inj _ _ _ _ _ _ _ z Y;subst this;rcases A with A|A
   . exact aq A
   rw[A]at hs;cases hs
  cases z
 have b8 : ¬g.I o:=by
  intro hi;rcases K with J|⟨t,c2,s2,Y,_⟩
  . have:=v.imm o hi;omega
  exact(pY v Y).2.1 hi
 have mono:ay g L w w':=by
  refine⟨Z.os,Z.tape,Z.output,Z.size,λ_=>b7,λr h=>.inl h,λr hu=>?_,λr b' R s' z=>?_,λ_ h=>h,λ_ h=>.inl h,λk X f=>?_⟩
  .
   by_cases e:r=b
   .
    subst e;rcases p with J|J
    . exact absurd hu J
    rw[x,J];exact .inl rfl
   rw[a r e];split
   . exact .inl rfl
   exact .inr rfl
  .
   by_cases e:r=b
   .
    subst e;rw[x]at z;simp only[Yj,YL]at z;obtain⟨rfl,_,_⟩:=z;rcases K with J|⟨t,c2,s2,Y,_⟩
    . exact .inr J
    exact .inl ⟨t,c2,s2,Y⟩
   rw[a r e]at z;split at z
   . exact .inl ⟨r,R,s',z⟩
   cases z
  refine Z.block k X λe=>?_;cases e;rcases K with J|⟨t,c2,s2,Y,_⟩
  . omega
  exact f _ _ _ Y
 refine⟨L,x,λ_=>Iff.rfl,λ_=>Iff.rfl,⟨λr f=>?_,λr b9 n=>?_,λr r' b' c1 c2 s1 s2 y O=>?_,λr f=>?_,λk X=>YG (v.imm k X) Z.size,v.gr.later (v.kept mono)⟩,mono⟩
 .
  have e:r≠b:=λe=>by rw[e,F]at f;cases f
  rw[a r e,f];rfl
 .
  by_cases e:r=b
  . subst e;rw[F]at n;cases n;refine⟨some o,c,x,ab,aw,ac,.inr ⟨o,B,rfl,PQ,E,b8,λi row hi=>?_⟩⟩;let⟨J,Y⟩:=am i row hi;refine⟨J,λj d m=>?_⟩;let⟨u,A,h4,h5⟩:=Y j d m;exact⟨u,A,h4,h5.later v mono⟩
  rcases hr r e with y|y
  .
   rw[y]at n;let⟨G,R,J,Y,A,h4,h5⟩:=v.blk r b9 n;refine⟨G,R,by rw[a r e,y,n];exact J,Y,A,h4,?_⟩;rcases h5 with h5|⟨b',ar,rfl,W,h7,T,V⟩
   . exact .inl h5
   refine .inr ⟨b',ar,rfl,?_,h7,T,λi row hi=>?_⟩
   .
    have F:b'≠o:=λO=>by subst O;exact N r R _ e (by rw[a r e,y,n];exact J)
    rw[Z.block b' (pY v J).1 (by simpa using F)];exact W
   let⟨k1,k2⟩:=V i row hi;refine⟨k1,λj d m=>?_⟩;let⟨u,k3,k4,k5⟩:=k2 j d m;exact⟨u,k3,k4,k5.later v mono⟩
  rw[y]at n;cases n
 .
  by_cases e:r=b<;>by_cases e':r'=b
  . rw[e,e']
  . subst e;rw[x]at y;simp only[Yj,YL]at y;obtain⟨rfl,_,_⟩:=y;exact absurd O (N r' _ _ e')
  . subst e';rw[x]at O;simp only[Yj,YL]at O;obtain⟨rfl,_,_⟩:=O;exact absurd y (N r _ _ e)
  rw[a r e]at y;rw[a r' e']at O;split at y
  .
   split at O
   . exact v.inj _ _ _ _ _ _ _ y O
   cases O
  cases y
 by_cases e:r=b
 . exact .inr e
 rw[a r e]at f;split at f
 . exact .inl (v.used r f)
 exact absurd rfl f
def HM.put(v:HM P h g w)(b f c:Nat)(bl:dE)(L:Array Value)(p : ¬g.U b\/g.M b=some (some f,c,P.cellsOf bl.ty))(n:h' b=some bl)(hr : ∀r,r≠b->h' r=h r\/h' r=none)(o:w.heap.size<=f \/ ∃r x y,g.M r=some (some f,x,y)/\(r=b\/h' r=none))(z:w'.heap[f]? = some (.cells L bl.ty (0,0)))(E:L.size=c*P.cellsOf bl.ty)(j:0<P.cellsOf bl.ty)(t:bl.rows.length<=c)(a:c<=maxLen)(k:Holds P w g bl L)(A:w.grownBy w' (some f))(u:w.drawn<=w'.drawn:=by first|exact XW _|exact Nat.le_succ _) :
  ∃m:Mem,m.M b=some (some f,c,P.cellsOf bl.ty)/\(∀r,m.U r↔g.U r\/r=b)/\(∀b,m.I b↔g.I b)/\HM P h' m w'/\ay g m w w' :=
 v.putB b f c bl L p n hr o (.inl ⟨a,z⟩) (λ_=>E) j t (Nat.le_succ_of_le a) k A u
def HM.putNone(v:HM P h g w)(b:Nat)(bl:dE)(p : ¬g.U b)(t:h' b=some bl)(hr : ∀r,r≠b->h' r=h r\/h' r=none)(x:0<P.cellsOf bl.ty)(B:bl.rows=[]) :
  ∃g':Mem,g'.M b=some (none,0,P.cellsOf bl.ty)/\(∀r,g'.U r↔g.U r\/r=b)/\(∀b,g'.I b↔g.I b)/\HM P h' g' w/\ay g g' w w:=by
 let g':Mem:={ M:=λr=>if r=b then some (none,0,P.cellsOf bl.ty)else if(h' r).isSome then g.M r else none,U:=λr=>g.U r\/r=b,I:=g.I };have o:g'.M b=some (none,0,P.cellsOf bl.ty):=by simp[g']
 have a : ∀r,r≠b->g'.M r=if(h' r).isSome then g.M r else none:=λr hr=>by simp[g',hr]
 have mono:ay g g' w w:=by
  refine⟨rfl,rfl,rfl,XW _,λ_=>XW _,λr h=>.inl h,λr Z=>?_,λr E F s' J=>?_,λ_ h=>h,λ_ h=>.inl h,λk X f=>rfl⟩
  .
   have e:r≠b:=λe=>p (e▸Z);rw[a r e];split
   . exact .inl rfl
   exact .inr rfl
  by_cases e:r=b
  . subst e;rw[o]at J;cases J
  rw[a r e]at J;split at J
  . exact .inl ⟨r,F,s',J⟩
  cases J
 refine⟨g',o,λ_=>Iff.rfl,λ_=>Iff.rfl,⟨λr f=>?_,λr K n=>?_,λr N E c1 c2 s1 s2 y O=>?_,λr f=>?_,λk X=>v.imm k X,v.gr.later (v.kept mono)⟩,mono⟩
 .
  have e:r≠b:=λe=>by rw[e,t]at f;cases f
  rw[a r e,f];rfl
 .
  by_cases e:r=b
  . subst e;rw[t]at n;cases n;exact⟨none,0,o,x,by rw[B];exact XW _,Yh _,.inl ⟨rfl,rfl⟩⟩
  rcases hr r e with y|y
  .
   rw[y]at n;let⟨G,F,h1,Y,A,h4,L⟩:=v.blk r K n;refine⟨G,F,by rw[a r e,y,n];exact h1,Y,A,h4,?_⟩;rcases L with L|⟨E,z,rfl,W,h7,T,V⟩
   . exact .inl L
   refine .inr ⟨E,z,rfl,W,h7,T,λi row hi=>?_⟩;let⟨k1,c⟩:=V i row hi;refine⟨k1,λj d m=>?_⟩;let⟨u,k3,k4,k5⟩:=c j d m;exact⟨u,k3,k4,k5.later v mono⟩
  rw[y]at n;cases n
 .
  by_cases e:r=b
  . subst e;rw[o]at y;cases y
  by_cases R:N=b
  . subst R;rw[o]at O;cases O
  rw[a r e]at y;rw[a N R]at O;split at y
  .
   split at O
   . exact v.inj _ _ _ _ _ _ _ y O
   cases O
  cases y
 by_cases e:r=b
 . exact .inr e
 rw[a r e]at f;split at f
 . exact .inl (v.used r f)
 exact absurd rfl f
def Does(P:Program)[Glob P](g:Mem)(w:World)(b:Nat)(r:Result Next)(d:D)(h':H):Prop :=
 ∃v L T,(r = .ok (.value v) T\/(r = .ok .skip T/\v=undef))/\ae T L d v/\HM P h' L T/\ay g L w T /\ ∀r,L.U r->g.U r\/r=b
theorem Does.still{b:Nat}{s:Sem Value}{d:D}(a:HM P h g w)(hr:s.run P w = .ok v w)(hv:ae w g d v) :
  Does P g w b ((do pure (.value (<-s)):Sem Next).run P w) d h :=
 ⟨v,g,w,.inl (by simp[hr]),hv,a,ay.refl _ _,λ_ h=>.inl h⟩
theorem ae.one{d:D}(h:ae w g d v)(h1:d.one=true):v.oneCell'=true/\v.cells = #[v]:=by
 cases h with
 | v=>cases v<;>simp_all [D.one,Value.oneCell',Value.cells]
 | agg=>simp[D.one]at h1
 | tuple=>simp[D.one]at h1
 | iface=>simp[Value.oneCell',Value.cells]
 | empty=>simp[Value.oneCell',Value.cells]
 | list=>simp[Value.oneCell',Value.cells]
 | eptr=>simp[Value.oneCell',Value.cells]
 | mrow r off W x E=>obtain⟨a,c,rfl,_⟩:=E;simp[Value.oneCell',Value.cells]
 | mptr r i off x E=>obtain⟨p,rfl⟩:=E;simp[Value.oneCell',Value.cells]
 | mp r x E=>obtain⟨p,rfl⟩:=E;simp[Value.oneCell',Value.cells]
 | fmap=>simp[Value.oneCell',Value.cells]
 | fn=>simp[Value.oneCell',Value.cells]
 | cond=>simp[D.one]at h1
 | junk=>simp[D.one]at h1
theorem ae.cells{d:D}(h:ae w g d v)(h1:d.cells.all D.one=true) :
  aF w g d.cells v.cells.toList/\(∀u∈v.cells.toList,u.oneCell'=true)/\v.cells.size=d.cells.length:=by
 by_cases m : ∃M,d = .agg M
 .
  obtain⟨M,rfl⟩:=m;cases h with|agg _ j f a =>
  simp only[D.cells]at h1 ⊢;refine⟨⟨by simpa[Value.cells]using f,λi d x Y A=>a i d x Y (by simpa[Value.cells]using A)⟩,λu c=>?_,by simp[Value.cells,f]⟩;simp only[Value.cells,Array.mem_toList_iff]at c;obtain⟨i,hi,rfl⟩:=Array.mem_iff_getElem.1 c;have k:i<M.length:=by omega
  exact((a i M[i] j[i] (by simp) (by simp)).one (YA.1 h1 _ (Yz k))).1
 have e:d.cells=[d]:=by cases d<;>simp_all [D.cells]
 rw[e]at h1 ⊢;have Y:=h.one (by simpa using h1);rw[Y.2];exact⟨.cons h .nil,by simpa using Y.1,by simp⟩
theorem yL(h:0<P.cellsOf t):∃i,P.info? t=some i/\i.size=P.cellsOf t:=by
 unfold Program.cellsOf at h ⊢;cases hi:P.info? t with
 | none=>simp[hi]at h
 | some i=>exact⟨i,rfl,by simp⟩
theorem rG(h:0<P.cellsOf t)(w:World):(sizeOf t).run P w = .ok (P.cellsOf t) w:=by let⟨i,hi,N⟩:=yL h;simp[sizeOf,typeInfo,hi,N]
theorem Zag(h:(P.underlying t).isSome=true)(w:World):(isAgg t).run P w = .ok (dJ P t) w:=by let⟨d,m⟩:=YU.1 h;unfold isAgg dJ;rw[Sem.run_bind,run_underlying m w,m];cases d<;>simp
theorem ldc_m{i:Nat}:jG P (.mptr r i off) h=match h r with|some b=>(b.rows.getD i []).drop off|none=>[]:=rfl
theorem ldc_p{x o:Nat}:jG P (.v (.pointer (some ⟨x,o,none⟩))) h=match Glob.tab P x with|some M=>(M.drop o).map D.v|none=>[]:=rfl
theorem Vo(t:HM P h g w){a:D}{f:Value}(m:ae w g a f)(N:jG P a h≠[]) :
  ∃p,f = .pointer (some p) /\ ∀(j:Nat)d,(jG P a h)[j]? = some d -> ∃u,w.cell? (p.add j)=some u/\ae w g d u:=by
 cases m with
 | eptr M p y hI z O=>exact⟨p,rfl,λj d A=>⟨y j,z j d A,O j d A⟩⟩
 | mptr r i off x E Z B =>
  simp only[ldc_m]at N ⊢;cases O:h r with
  | none=>rw[O]at N;exact absurd rfl N
  | some R =>
   rw[O]at N;simp only at N ⊢;let⟨G,c,J,h2,h3,h4,U⟩:=t.blk r R O;have hi:i<R.rows.length:=by
    rcases YK i R.rows.length with h|h
    . exact h
    simp[List.getD,ZZ h]at N
   rcases U with⟨_,rfl⟩|⟨b,L,rfl,W,h7,T,V⟩
   . omega
   obtain⟨k,b',I,rfl⟩:=B _ _ _ J;cases I;refine⟨_,rfl,λj d A=>?_⟩;rw[Y4]at A;let⟨_,K⟩:=V i (R.rows.getD i []) (by simp[List.getD,Yi hi]);let⟨u,Y,_,X⟩:=K (off+j) d A;refine⟨u,?_,X⟩;rw[oQ,cell_of_row w b _ L R.ty (0,0) (W.cells k),<-Y];congr 1;omega
 | v =>
  by_cases F : ∃b o,f=Value.pointer (some ⟨b,o,none⟩)
  .
   obtain⟨b,o,rfl⟩:=F;refine⟨_,rfl,λj d A=>?_⟩;rw[ldc_p]at A;cases n:Glob.tab P b with
   | none=>rw[n]at A;simp at A
   | some M =>
    rw[n]at A;simp only[YQ,Y4,Option.map_eq_some_iff]at A;obtain⟨u,J,rfl⟩:=A;exact⟨u,by rw[oQ];exact(t.gr b M n).2 _ u J,.v _⟩
  refine absurd ?_ N;unfold jG;split
  . rename_i x' o e;first|(cases e;exact absurd ⟨_,_,rfl⟩ F)|exact absurd ⟨_,_,rfl⟩ F
  rfl
 | _=>exact absurd rfl N
theorem UC{p:Addr}{ds:List D}(k : ∀(j:Nat)d,ds[j]? = some d -> ∃u,w.cell? (p.add j)=some u/\ae w g d u)(hn:P.cellsOf t<=ds.length)(hp:0<P.cellsOf t)(n:(P.underlying t).isSome=true):∃v,(loadVar t p).run P w = .ok v w/\ae w g (zP P t ds) v:=by
 unfold loadVar zP;rw[Sem.run_bind,Zag n w];cases M:dJ P t with
 | false =>
  have o:0<ds.length:=by omega
  let⟨u,J,Y⟩:=k 0 ds[0] (by simp);refine⟨u,?_,?_⟩
  . simp only[Addr.add,Zm]at J;simp[J]
  have:ds.headD .junk=ds[0]:=by cases ds<;>simp_all
  simp only[Yn,Y8];rw[this];exact Y
 | true =>
  have c : ∀j,∃u,j<P.cellsOf t->w.cell? (p.add j)=some u /\ ∀d,ds[j]? = some d->ae w g d u:=by
   intro j;by_cases A:j<P.cellsOf t
   . let⟨u,J,Y⟩:=k j (ds[j]'(by omega)) (by simp);refine⟨u,λ_=>⟨J,λd m=>?_⟩⟩;rw[Yi (by omega)]at m;cases m;exact Y
   exact⟨undef,λh=>absurd h A⟩
  let f:=λj=>Classical.choose (c j);have a:=λj=>Zv (c j);refine⟨.agg ((List.range (P.cellsOf t)).map f).toArray,?_,?_⟩
  . have:=run_loadCells (P:=P) w p (P.cellsOf t) f (λj A=>(a j A).1);simp[rG hp,this]
  simp only[Zm];refine .agg _ _ (by simp;omega) λi d x J Y=>?_;rw[Zc]at J;split at J
  . rename_i hi;simp[hi]at Y;subst Y;exact(a i hi).2 d J
  cases J
def Zki(f:HM P h g w){a:D}{c:Value}(m:ae w g a c)(j:(nU P t a h).2) :
  ∃v,(Instr.loadAt t c).run P w = .ok v w/\ae w g (nU P t a h).1 v:=by
 let⟨J,Y,A⟩:=j;obtain⟨p,rfl,F⟩:=Vo f m (by intro e;rw[e]at J;simp at J;omega);let⟨v,k,U⟩:=UC F J Y A;exact⟨v,by simp[Instr.loadAt,Instr.sureAddr,k],U⟩
theorem ZiC{ds:List D}{vs:Array Value}(hv:aF w g ds vs.toList)(hn:off+P.cellsOf t<=ds.length)(hp:0<P.cellsOf t)(u:(P.underlying t).isSome=true) :
  ∃v,(part t vs off).run P w = .ok v w/\ae w g (zP P t (ds.drop off)) v:=by
 have h:ds.length=vs.size:=by simpa using hv.1
 unfold part zP;rw[Sem.run_bind,Zag u w];cases M:dJ P t with
 | false =>
  refine⟨vs[off]'(by omega),?_,?_⟩
  . simp[show off<vs.size by omega]
  have J:=hv.2 off (ds[off]'(by omega)) (vs[off]'(by omega)) (by simp) (by simp);have:(ds.drop off).headD .junk=ds[off]'(by omega):=by rw[YE (by omega)];rfl
  simp only[Yn,Y8];rw[this];exact J
 | true =>
  refine⟨.agg (vs.extract off (off+P.cellsOf t)),by simp[rG hp],?_⟩;simp only[Zm];refine .agg _ _ (by simp;omega) λi d x J Y=>?_;rw[Zc]at J;split at J
  .
   rename_i hi;rw[Y4]at J;rw[Array.getElem?_extract]at Y;split at Y
   . exact hv.2 _ d x J (by simpa using Y)
   cases Y
  cases J
theorem VU(w:World)(g:Mem)(x:Value):ae w g (Ha x) x:=by
 cases x with
 | slice a n c =>
  simp only[Ha];split
  . rename_i h;simp only[XU,Zi,YF]at h;obtain⟨⟨rfl,rfl⟩,rfl⟩:=h;exact .empty true none 0 (λ_=>rfl) o3u
  exact .v _
 | func f B M =>
  simp only[Ha];split
  . rename_i h;simp only[XU,YF]at h;exact .fn f [] [] B M (by simp[h.1]) (by simp[h.2]) (by simp) (by simp)
  exact .v _
 | _=>exact .v _
def KQ(w:World)(g:Mem)(x:Value):ae w g (qm x) x:=by
 unfold qm;split
 . refine .agg _ _ (by simp) λi d y J Y=>?_;simp only[YQ,Zf]at J;rw[Y]at J;simp at J;subst J;exact VU w g y
 exact VU w g x
def CB{i:TypeInfo}(hi:P.info? t=some i)(hz:i.zero=some z)(w:World)(g:Mem)(h1:(zeroCells P t).all D.one=true) :
  aF w g (zeroCells P t) z.cells.toList/\(∀u∈z.cells.toList,u.oneCell'=true)/\z.cells.size=(zeroCells P t).length:=by
 have e:zeroCells P t=(qm z).cells:=by simp[zeroCells,hi,hz]
 rw[e]at h1 ⊢;exact(KQ w g z).cells h1
theorem Jz(h:0<(zeroCells P t).length):∃i z,P.info? t=some i/\i.zero=some z:=by
 unfold zeroCells at h;cases hi:P.info? t with
 | none=>simp[hi]at h
 | some i =>
  cases V:i.zero with
  | none=>simp[hi,V]at h
  | some z=>exact⟨i,z,rfl,V⟩
theorem holds_one{e:TypeId}{ds:List D}{vs:Array Value}(h:aF w g ds vs.toList)(h1 : ∀u∈vs.toList,u.oneCell'=true)(a:ds.length=P.cellsOf e):Holds P w g ⟨e,[ds]⟩ vs:=by
 intro i row hi;cases i with
 | succ i=>simp at hi
 | zero =>
  simp at hi;subst hi;refine⟨a,λj d m=>?_⟩;have A:j<vs.size:=by have:=h.1;simp at this;rw[<-this];exact(X8.1 m).1
  exact⟨vs[j],by simp[A],h1 _ (by simp),h.2 j d _ m (by simp[A])⟩
def Wu(v:HM P h g w){b:Nat}(p : ¬g.U b){e:TypeId}{ds:List D}{vs:Array Value}(hr:aF w g ds vs.toList)(h1 : ∀u∈vs.toList,u.oneCell'=true)(a:ds.length=P.cellsOf e)(hp:0<P.cellsOf e) :
  ∃g',ae (w.alloc (.cells vs e)) g' (.mptr b 0 0) (.pointer (some ⟨w.heap.size,0,none⟩))/\HM P (upd h b (some ⟨e,[ds]⟩)) g' (w.alloc (.cells vs e))/\ay g g' w (w.alloc (.cells vs e)) /\ ∀r,g'.U r->g.U r\/r=b:=by
 have N:vs.size=P.cellsOf e:=by have:=hr.1;simp at this;omega
 let⟨g',Y,A,f,U,W⟩:=v.put (h':=upd h b (some ⟨e,[ds]⟩)) (w':=w.alloc (.cells vs e)) b w.heap.size 1 ⟨e,[ds]⟩ vs (.inl p) (bI _ _ _)
  (λr hr=>.inl (aI _ _ _ _ hr)) (.inl (XW _)) (heap_alloc_new w _) (by simp[N]) hp (by simp) o3u (holds_one hr h1 a) (World.grownBy_alloc w _ _)
 refine⟨g',?_,U,W,λr hr=>(A r).1 hr⟩;refine .mptr b 0 0 _ ⟨_,rfl⟩ ((A b).2 (.inr rfl)) λG c j J=>?_;rw[Y]at J;simp only[Yj,YL]at J;exact⟨by rw[<-J.2.1];simp[maxLen],w.heap.size,J.1.symm,by simp⟩
def Zfj{row xs:List D}{us:List Value}(h:aF w g row cs)(k:aF w g xs us)(off:Nat) :
  aF w g (splice row off xs) (cs.take off++us++cs.drop (off+us.length)):=by
 unfold splice;rw[k.1];exact((h.take off).append k).append (h.drop _)
theorem NB(row xs:List D)(off:Nat)(h:off+xs.length<=row.length):(splice row off xs).length=row.length:=by simp[splice];omega
theorem Ti(v:HM P h g w){a x:D}{va n:Value}(m:ae w g a va)(E:ae w g x n)(o:(lS P t a x h).2) :
  ∃g' w',(Instr.storeAt t va n).run P w = .ok () w'/\HM P (lS P t a x h).1 g' w'/\ay g g' w w' /\ ∀r,g'.U r->g.U r:=by
 unfold lS at o ⊢;split at o
 case h_2=>exact o.elim
 rename_i r i off;cases O:h r with
 | none=>rw[O]at o;exact o.elim
 | some R =>
  rw[O]at o;simp only at o ⊢;let⟨c1,c0,I,c3,c4⟩:=o;let⟨G,c,J,h2,h3,Y,h5⟩:=v.blk r R O;rcases h5 with⟨_,rfl⟩|⟨b,L,rfl,W,h7,T,V⟩
  . omega
  cases m with|mptr _ _ _ _ fI Z u =>
  obtain⟨F,b',he,rfl⟩:=u _ _ _ J;cases he;have W:=W.cells F;have h7:=h7 F;have Y:=F;let⟨q1,q2,q3⟩:=E.cells c4;have ab:R.rows[i]? = some (R.rows.getD i []):=by simp[List.getD,Yi I]
  generalize hR:R.rows.getD i []=row at *;let⟨m1,m2⟩:=V i _ ab;have q4:n.cells.toList.length=x.cells.length:=by simp[q3]
  have b7:i*P.cellsOf R.ty+P.cellsOf R.ty<=L.size:=by have y:(i+1)*P.cellsOf R.ty<=c*P.cellsOf R.ty:=Y9 _ om;rw[Zn,Nat.one_mul]at y;omega
  have ac:i*P.cellsOf R.ty+off+n.cells.toList.length<=L.size:=by omega
  have B:=run_storeCells_at P b (i*P.cellsOf R.ty+off) R.ty n.cells.toList 0 L w W (by simpa using ac) q2;simp only[Zx]at B;generalize p:(List.take (i*P.cellsOf R.ty+off) L.toList++n.cells.toList++List.drop (i*P.cellsOf R.ty+off+n.cells.toList.length) L.toList)=new at B;have aq:new.length=L.size:=by rw[<-p];simp;omega
  have z : ∀k,new[k]? = if i*P.cellsOf R.ty+off<=k/\k<i*P.cellsOf R.ty+off+x.cells.length then n.cells.toList[k-(i*P.cellsOf R.ty+off)]? else L[k]? := by
   intro k;rw[<-p];have l1:(List.take (i*P.cellsOf R.ty+off) L.toList).length=i*P.cellsOf R.ty+off:=by simp;omega
   rw[YR];by_cases X:k<i*P.cellsOf R.ty+off
   . rw[Y7 (by omega),XV (by omega),Zc,X0 X];simp
   rw[YN (by omega),l1];by_cases U:k<i*P.cellsOf R.ty+off+x.cells.length
   . rw[Y7 (by omega),X0 (by omega)]
   rw[YN (by omega),XV (by omega),Y4];rw[q4,Zf];congr 1;omega
  let⟨g',g1,g2,g3,g4,g5⟩:=v.put (h':=upd h r (some { R with rows:=R.rows.set i (splice row off x.cells) })) (w':=w.setRow b new.toArray) r b c
   { R with rows:=R.rows.set i (splice row off x.cells) } new.toArray (.inr J) (bI _ _ _) (λr' M=>.inl (aI _ _ _ _ M)) (.inr ⟨r,c,_,J,.inl rfl⟩)
   (setRow_heap w b L _ R.ty _ W) (by simp[aq,h7]) h2 (by simpa using h3) Y
   (by
    intro N am f;simp only[List.getElem?_set]at f;by_cases e:i=N
    .
     subst e;rw[X0 rfl,X0 I]at f;cases f;refine⟨by rw[NB _ _ _ c3];exact m1,λj d A=>?_⟩;have ar:j<row.length:=by have:=(X8.1 A).1;rwa [NB _ _ _ c3]at this
     unfold splice at A;rw[YR]at A;have l1:(List.take off row).length=off:=by simp;omega
     simp only[List.getElem?_toArray];rw[z];by_cases X:j<off
     . rw[Y7 (by omega),Zc,X0 X]at A;rw[XV (by omega)];exact m2 j d A
     rw[YN (by omega),l1]at A;by_cases U:j<off+x.cells.length
     .
      rw[Y7 (by omega)]at A;rw[X0 (by omega)];have aw:i*P.cellsOf R.ty+j-(i*P.cellsOf R.ty+off)=j-off:=by omega
      rw[aw];have K:j-off<n.cells.toList.length:=by omega
      exact⟨n.cells.toList[j-off],by simp,q2 _ (Yz K),q1.2 (j-off) d _ A (by simp)⟩
     rw[YN (by omega),Y4]at A;rw[XV (by omega)];have:off+x.cells.length+(j-off-x.cells.length)=j:=by omega
     rw[this]at A;exact m2 j d A
    rw[XV e]at f;let⟨k1,k2⟩:=V N am f;refine⟨k1,λj d A=>?_⟩;have ar:j<P.cellsOf R.ty:=by have:=(X8.1 A).1;omega
    simp only[List.getElem?_toArray];rw[z,XV]
    . exact k2 j d A
    intro ⟨u1,u2⟩;have v1:i*P.cellsOf R.ty<N*P.cellsOf R.ty+P.cellsOf R.ty:=by omega
    have v2:N*P.cellsOf R.ty<i*P.cellsOf R.ty+P.cellsOf R.ty:=by omega
    have y:i<N+1:=Nat.lt_of_mul_lt_mul_right (a:=P.cellsOf R.ty) (by rw[Zn,Nat.one_mul];exact v1);have e2:N<i+1:=Nat.lt_of_mul_lt_mul_right (a:=P.cellsOf R.ty) (by rw[Zn,Nat.one_mul];exact v2);omega)
   ⟨rfl,rfl,rfl,by simp,λk _ X=>setRow_other w b k _ (λe=>X (by rw[e]))⟩
  refine⟨g',_,?_,g4,g5,λr' M=>?_⟩
  . simp[Instr.storeAt,Instr.sureAddr,storeVar,rG c0,q3,c1,B]
  rcases(g2 r').1 M with h|rfl
  . exact h
  exact Z
variable{bl:dE}{j n:Nat}{u:TypeId}
def RowsIn(w:World)(g:Mem)(h:Nat)(rows:List (List D))(cs:List Value):Prop :=
 cs.length=rows.length*h /\ ∀(i:Nat)row,rows[i]? = some row->row.length=h /\ ∀(j:Nat)d,row[j]? = some d -> ∃u,cs[i*h+j]? = some u/\u.oneCell'=true/\ae w g d u
theorem BL{i h:Nat}(hi:i<n)(A:j<h):i*h+j<n*h:=by have y:(i+1)*h<=n*h:=Y9 _ om;rw[Zn,Nat.one_mul]at y;omega
theorem RowsIn.nil{a:Nat}:RowsIn w g a [] []:=⟨by simp,λi row h=>by simp at h⟩
def RowsIn.append{r s:List (List D)}{a b:List Value}(h:RowsIn w g c r a)(k:RowsIn w g c s b):RowsIn w g c (r++s) (a++b):=by
 refine⟨by simp[h.1,k.1,Zn],λi row hi=>?_⟩;by_cases K:i<r.length
 .
  rw[Y7 K]at hi;let⟨J,Y⟩:=h.2 i row hi;refine⟨J,λj d A=>?_⟩;have f:j<c:=by have:=(X8.1 A).1;omega
  have:=BL K f;rw[Y7 (by rw[h.1];exact this)];exact Y j d A
 rw[YN (by omega)]at hi;let⟨J,Y⟩:=k.2 _ row hi;refine⟨J,λj d A=>?_⟩;have e:i*c=r.length*c+(i-r.length)*c:=by rw[<-Zn];congr 1;omega
 rw[YN (by rw[h.1];omega),h.1];have O:i*c+j-r.length*c=(i-r.length)*c+j:=by omega
 rw[O];exact Y j d A
def RowsIn.one{a:Nat}{rows:List (List D)}(h:RowsIn w g a rows cs):∀u∈cs,u.oneCell'=true:=by
 intro u c;obtain⟨k,X,rfl⟩:=Zb c;rcases Nat.eq_zero_or_pos a with p|p
 . rw[h.1,p]at X;omega
 have hi:k / a<rows.length:=by rw[Nat.div_lt_iff_lt_mul p,<-h.1];exact X
 let⟨J,Y⟩:=h.2 (k / a) rows[k / a] (by simp);have j:k % a<rows[k / a].length:=by rw[J];exact Nat.mod_lt _ p
 let⟨u,A,f,_⟩:=Y (k % a) (rows[k / a][k % a]) (by simp);have e:k / a*a+k % a=k:=by rw[ZF];exact Nat.div_add_mod k a
 rw[e,Yi X]at A;cases A;exact f
def RowsIn.holds{e:TypeId}{rows:List (List D)}{L:Array Value}(h:RowsIn w g (P.cellsOf e) rows cs)(a:L.toList.take cs.length=cs):Holds P w g ⟨e,rows⟩ L:=by
 intro i row hi;let⟨J,Y⟩:=h.2 i row hi;refine⟨J,λj d c=>?_⟩;let⟨u,A,f,U⟩:=Y j d c;refine⟨u,?_,f,U⟩;rw[<-a,Zc]at A;split at A
 . simpa using A
 cases A
def Holds.rowsIn{L:Array Value}(h:Holds P w g bl L)(off len:Nat)(f:off+len<=bl.rows.length)(n:bl.rows.length*P.cellsOf bl.ty<=L.size) :
  RowsIn w g (P.cellsOf bl.ty) ((bl.rows.drop off).take len) ((L.toList.drop (off*P.cellsOf bl.ty)).take (len*P.cellsOf bl.ty)):=by
 have y:(off+len)*P.cellsOf bl.ty<=bl.rows.length*P.cellsOf bl.ty:=Y9 _ f;rw[Zn]at y;refine⟨?_,λi row hi=>?_⟩
 . simp only[YO,Yw,Array.length_toList];rw[Z4 (by omega),Z4 (by omega)]
 rw[Zc]at hi;split at hi
 .
  rename_i a;rw[Y4]at hi;let⟨J,Y⟩:=h (off+i) row hi;refine⟨J,λj d A=>?_⟩;let⟨u,k,m,U⟩:=Y j d A;have c:j<P.cellsOf bl.ty:=by have:=(X8.1 A).1;omega
  refine⟨u,?_,m,U⟩;rw[Zc,X0 (BL a c),Y4,Zf,<-k];congr 1;rw[Zn];omega
 cases hi
theorem Fa(hm:HM P h g w){y:D}{vy:Value}(hy:ae w g y vy){f:Nat}(hp:0<f)(hl:(aG y h).length=bQ y)(hs : ∀r∈aG y h,r.length=f)(t:iy P u h y=true) :
  ∃M,RowsIn w g f (aG y h) M/\(∀w',(Builtin.lenOf vy).run P w' = .ok (bQ y) w')/\(∀w',w'.heap=w.heap->(Builtin.firstCells f (bQ y) vy).run P w' = .ok M.toArray w') /\
   (∀w',∃d,(underlying u).run P w' = .ok d w'/\(d = .string \/ ∃e',d = .slice e')):=by
 cases hy with
 | empty ab a I hf am =>
  let⟨e,J⟩:=YU.1 (show(bS P u).isSome=true from t);have z:P.underlying u=some (.slice e):=by unfold bS at J;split at J<;>simp_all
  refine⟨[],.nil,λw'=>by simp[Builtin.lenOf,bQ],λw' _=>?_,λw'=>⟨_,run_underlying z w',by simp⟩⟩;cases a<;>simp[Builtin.firstCells,bQ,loadCells,loadCellsFrom]
 | list ab V ad I m cv hI aq hf am E hc O =>
  let⟨e,J⟩:=YU.1 (show(bS P u).isSome=true from t);have z:P.underlying u=some (.slice e):=by unfold bS at J;split at J<;>simp_all
  simp only[aG]at hs hl ⊢;by_cases T:V=[]
  . subst T;refine⟨[],.nil,λw'=>by simp[Builtin.lenOf,bQ],λw' _=>?_,λw'=>⟨_,run_underlying z w',by simp⟩⟩;simp[Builtin.firstCells,bQ,loadCells,loadCellsFrom]
  have n:m=f:=by
   cases V with
   | nil=>exact absurd rfl T
   | cons a l=>rw[<-E a (by simp),hs a (by simp)]
  subst n;refine⟨(List.range (V.length*m)).map λk=>cv (k / m) (k % m),⟨by simp,λi row hi=>⟨hs row (Ym hi),λj d A=>?_⟩⟩,λw'=>by simp[Builtin.lenOf,bQ],λw' hw=>?_,λw'=>⟨_,run_underlying z w',by simp⟩⟩
  .
   have ac:i<V.length:=(X8.1 hi).1;have F:j<m:=by have:=(X8.1 A).1;have:=hs row (Ym hi);omega
   refine⟨cv i j,?_,(hc i j row d hi A).2,O i j row d hi A⟩;rw[YQ,List.getElem?_range (BL ac F)];have e1:(i*m+j) / m=i:=by rw[ZF,Nat.mul_add_div hp,Nat.div_eq_of_lt F];rfl
   have e2:(i*m+j) % m=j:=by rw[ZF,Z0,ZC F]
   simp[e1,e2]
  have:=run_loadCells (P:=P) w' ad (V.length*m) (λk=>cv (k / m) (k % m)) (λk X=>by
   have ac:k / m<V.length:=by rw[Nat.div_lt_iff_lt_mul hp];exact X
   have F:k % m<(V[k / m]).length:=by rw[hs _ (by simp)];exact Nat.mod_lt _ hp
   have h1:=(hc (k / m) (k % m) V[k / m] (V[k / m][k % m]) (by simp) (by simp)).1;have e:k / m*m+k % m=k:=by rw[ZF];exact Nat.div_add_mod k m
   rw[e]at h1;rw[<-h1];exact World.cell?_of_block (by rw[hw]))
  simpa[Builtin.firstCells,bQ]using this
 | mrow r off W x hx Z hv =>
  simp only[iy,XU]at t;let⟨e,J⟩:=YU.1 t.1;have z:P.underlying u=some (.slice e):=by unfold bS at J;split at J<;>simp_all
  simp only[aG,bQ]at hs hl ⊢;cases O:h r with
  | none =>
   rw[O]at t;simp at t
  | some R =>
   rw[O]at hl hs;simp only at hl hs ⊢;let⟨ar,c,h1,Y,h3,h4,U⟩:=hm.blk r R O;let⟨h6,h7⟩:=hv _ _ _ h1;rcases h7 with⟨rfl,a,rfl⟩|⟨N,b,rfl,rfl⟩
   .
    have:W=0:=by omega
    subst this;refine⟨[],by simpa using RowsIn.nil,λw'=>by simp[Builtin.lenOf],λw' _=>?_,λw'=>⟨_,run_underlying z w',by simp⟩⟩;cases a<;>simp[Builtin.firstCells,loadCells,loadCellsFrom]
   rcases U with⟨U,_⟩|⟨b',L,U,G,k2,k3,k4⟩
   . cases U
   cases U;have G:=G.cells h6.2;have k2:=k2 h6.2;have B:off+W<=R.rows.length\/W=0:=by simp only[YO,Yw]at hl;omega
   rcases B with B|B
   .
    have hR:=k4.rowsIn off W B (by rw[k2];exact Y9 _ h3);by_cases T:W=0
    . subst T;refine⟨[],by simpa using RowsIn.nil,λw'=>by simp[Builtin.lenOf],λw' _=>by simp[Builtin.firstCells,loadCells,loadCellsFrom],λw'=>⟨_,run_underlying z w',by simp⟩⟩
    have n:P.cellsOf R.ty=f:=by
     have K:0<((R.rows.drop off).take W).length:=by omega
     have m1:=hs _ (Yz K);have m2:=(hR.2 0 _ (Yi K)).1;omega
    rw[n]at hR k2;refine⟨_,hR,λw'=>by simp[Builtin.lenOf],λw' hw=>?_,λw'=>⟨_,run_underlying z w',by simp⟩⟩;rw[n];have o:=hR.1;rw[hl]at o;refine run_firstCells_some (P:=P) w' f W _ W _ _ o λj v A=>?_;rw[oQ,cell_of_row w' b _ L R.ty (0,0) (by rw[hw];exact G)];rw[Zc]at A;split at A
    . rw[Y4]at A;simpa using A
    cases A
   subst B;refine⟨[],by simpa using RowsIn.nil,λw'=>by simp[Builtin.lenOf],λw' _=>by simp[Builtin.firstCells,loadCells,loadCellsFrom],λw'=>⟨_,run_underlying z w',by simp⟩⟩
 | v =>
  cases vy<;>simp only[iy]at t<;>try (cases t;done)
  rename_i s;have z:P.underlying u=some .string:=by split at t<;>simp_all
  simp only[aG,bQ]at hs hl ⊢;by_cases T:s.size=0
  . have e:s.data.toList=[]:=Yb (by simpa using T);refine⟨[],by rw[e];exact RowsIn.nil,λw'=>by simp[Builtin.lenOf],λw' _=>?_,λw'=>⟨_,run_underlying z w',by simp⟩⟩;simp[Builtin.firstCells,T]
  have n:f=1:=by
   have K:0<s.data.toList.length:=by simp;exact Nat.pos_of_ne_zero T
   rw[<-hs [.v (.int .u8 (s.data.toList[0].toNat))] (by simp only[Yp];exact⟨_,Yz K,rfl⟩)];rfl
  subst n;refine⟨s.data.toList.map λb=>.int .u8 b.toNat,⟨by simp,λi row hi=>?_⟩,λw'=>by simp[Builtin.lenOf],λw' _=>?_,λw'=>⟨_,run_underlying z w',by simp⟩⟩
  .
   rw[YQ]at hi;cases p:s.data.toList[i]? with
   | none=>rw[p]at hi;cases hi
   | some b =>
    rw[p]at hi;simp at hi;subst hi;refine⟨rfl,λj d A=>?_⟩;cases j with
    | succ j=>simp at A
    | zero=>simp at A;subst A;exact⟨.int .u8 b.toNat,by rw[YQ];simp[p],rfl,.v _⟩
  simp[Builtin.firstCells];apply Zr;simp
 | _=>simp[iy]at t
section
variable {t u e : TypeId} {i : TypeInfo} {x : Value} {n : Nat} {w : World}
def Zcr(ht:P.underlying t=some (.slice e))(hi:P.info? e=some i)(j : ∃d,(underlying u).run P w = .ok d w/\(d = .string \/ ∃k,d = .slice k))(ty:TypeId)(b o a c:Nat)(h:(Builtin.lenOf x).run P w = .ok n w)(f:a+n<=c){news:List Value}(hn:(Builtin.firstCells i.size n x).run P w = .ok news.toArray w)(h1 : ∀v∈news,v.oneCell'=true){L:Array Value}(M:w.heap[b]? = some (.cells L e (0,0)))(g:o+a*i.size+news.length<=L.size) :
  (Builtin.append_ #[t,u] ty #[.slice (some ⟨b,o,none⟩) a c,x]).run P w = .ok (.slice (some ⟨b,o,none⟩) (a+n) c)
   (w.setRow b (L.toList.take (o+a*i.size)++news++L.toList.drop (o+a*i.size+news.length)).toArray):=by
 let⟨d,j,m⟩:=j;have B:=run_storeCells_at P b (o+a*i.size) e news 0 L w M (by simpa using g) h1;simp only[Zx]at B;rcases m with rfl|⟨k,rfl⟩<;>simp[Builtin.append_,run_underlying ht,j,sizeOf,typeInfo,hi,h,f,hn,oQ,B]
def Zcs(ht:P.underlying t=some (.slice e))(hi:P.info? e=some i)(g : ∃d,(underlying u).run P w = .ok d w/\(d = .string \/ ∃k,d = .slice k))(ty:TypeId)(a:Option Addr)(c f:Nat)(j:c<=f)(h:(Builtin.lenOf x).run P w = .ok 0 w)(hn:(Builtin.firstCells i.size 0 x).run P w = .ok #[] w) :
  (Builtin.append_ #[t,u] ty #[.slice a c f,x]).run P w = .ok (.slice a c f) w:=by
 let⟨d,g,m⟩:=g;rcases m with rfl|⟨k,rfl⟩<;>cases a<;>simp[Builtin.append_,run_underlying ht,g,sizeOf,typeInfo,hi,h,j,hn,storeCells]
def Zct(ht:P.underlying t=some (.slice e))(hi:P.info? e=some i)(hz:i.zero=some z)(y : ∃d,(underlying u).run P w = .ok d w/\(d = .string \/ ∃v,d = .slice v))(ty:TypeId)(a:Option Addr)(c g:Nat)(h:(Builtin.lenOf x).run P w = .ok n w)(o:g<c+n){j news:List Value}(A:(Builtin.firstCells i.size c (.slice a c g)).run P w.drew = .ok j.toArray w.drew)(hn:(Builtin.firstCells i.size n x).run P w.drew = .ok news.toArray w.drew)(h63:c+n<=9223372036854775807)(hby:(c+n)*i.bytes<=140737488355328) :
  (Builtin.append_ #[t,u] ty #[.slice a c g,x]).run P w = .ok (.slice (some ⟨w.heap.size,0,none⟩) (c+n) (grownCap w (c+n) g e))
   (w.drew.alloc (.cells ((j++news).toArray++Builtin.zeroCells z.cells (grownCap w (c+n) g e-(c+n))) e)):=by
 let⟨d,p,m⟩:=y;have J : ¬(c+n<=g):=by omega
 have k : ¬(9223372036854775807<(c:Int)+(n:Int)):=by omega
 have r : ¬(281474976710656<Builtin.nextslicecap (c+n) g*i.bytes):=by have:=growslice_fits (bytes:=i.bytes) o hby;omega
 have f : ∀Z:Array Value,(j++news).toArray++Z=j.toArray++(news.toArray++Z):=λZ=>by apply Zr;simp
 rw[f];rcases m with rfl|⟨v,rfl⟩<;>simp[Builtin.append_,run_underlying ht,p,sizeOf,typeInfo,zeroValue,hi,hz,h,J,k,r,Question.forced,A,hn,newRow,grownCap]
end
theorem yX{e:TypeId}(h:bS P t=some e):P.underlying t=some (.slice e):=by unfold bS at h;split at h<;>simp_all
def LB(v:HM P h g w){b:Nat}(p : ¬g.U b){e:TypeId}{rows:List (List D)}(hr:RowsIn w g (P.cellsOf e) rows cs)(hp:0<P.cellsOf e)(hz:z.cells.size=P.cellsOf e)(a:h' b=some ⟨e,rows⟩)(f : ∀r,r≠b->h' r=h r\/h' r=none)(c:Nat)(j:rows.length<=c)(n:0<c)(m:c<=maxLen) :
  ∃g',ae (w.drew.alloc (.cells (cs.toArray++Builtin.zeroCells z.cells (c-rows.length)) e)) g' (.mrow b 0 rows.length) (.slice (some ⟨w.heap.size,0,none⟩) rows.length c) /\
   HM P h' g' (w.drew.alloc (.cells (cs.toArray++Builtin.zeroCells z.cells (c-rows.length)) e))/\ay g g' w (w.drew.alloc (.cells (cs.toArray++Builtin.zeroCells z.cells (c-rows.length)) e)) /\ ∀r,g'.U r->g.U r\/r=b:=by
 let⟨g',Y,A,o,U,W⟩:=v.put (h':=h') (w':=w.drew.alloc (.cells (cs.toArray++Builtin.zeroCells z.cells (c-rows.length)) e)) b w.heap.size c ⟨e,rows⟩ (cs.toArray++Builtin.zeroCells z.cells (c-rows.length)) (.inl p) a f (.inl (XW _))
  (heap_alloc_new w.drew _) (by simp only[Array.size_append,List.size_toArray,size_zeroCells,hz,hr.1,<-Zn];congr 1;omega) hp j m
  (hr.holds (by simp)) ⟨rfl,rfl,rfl,by simp,λk X _=>Below.heap_alloc w.drew _ k X⟩
 refine⟨g',.mrow b 0 rows.length _ ⟨_,_,rfl,j,λ_=>⟨_,rfl⟩⟩ ((A b).2 (.inr rfl)) λG t u J=>?_,U,W,λr hr=>(A r).1 hr⟩;rw[Y]at J;simp only[Yj,YL]at J;obtain⟨rfl,rfl,rfl⟩:=J;exact⟨om,.inr ⟨om,w.heap.size,rfl,by simp⟩⟩
def UQ{b f:Nat}(j:g.M b=some (none,0,f))(Z:g.U b)(a:Option Addr):ae w g (.mrow b 0 0) (.slice a 0 0) :=
 .mrow b 0 0 _ ⟨_,_,rfl,XW _,λh=>absurd h om⟩ Z λG c s J=>by rw[j]at J;simp only[Yj,YL]at J;obtain⟨rfl,rfl,rfl⟩:=J;exact⟨⟨XW _,Yh _⟩,.inl ⟨rfl,a,rfl⟩⟩
theorem Zcq(hm:HM P h g w){x y:D}{vx vy:Value}{b:Nat}(p : ¬g.U b)(hx:ae w g x vx)(hy:ae w g y vy)(j:(jm P t u x y h b).2.2)(ty:TypeId) :
  ∃v g' w',(Builtin.append_ #[t,u] ty #[vx,vy]).run P w = .ok v w'/\ae w' g' (jm P t u x y h b).1 v/\HM P (jm P t u x y h b).2.1 g' w'/\ay g g' w w' /\ ∀r,g'.U r->g.U r\/r=b:=by
 unfold jm at j ⊢;cases J:bS P t with
 | none=>rw[J]at j;exact j.elim
 | some e =>
  rw[J]at j;simp only at j ⊢;have ht:=yX J;have A:(0<P.cellsOf e/\(bQ x+(aG y h).length)*P.bytesOf e<=140737488355328/\bQ x+(aG y h).length<=9223372036854775807) ->
    ((aG y h).length=bQ y/\iy P u h y=true/\eH P e=true /\ ∀r∈aG y h,r.length=P.cellsOf e) ->
    ∃i z m,P.info? e=some i/\i.size=P.cellsOf e/\i.bytes=P.bytesOf e/\i.zero=some z/\z.cells.size=P.cellsOf e/\RowsIn w g (P.cellsOf e) (aG y h) m/\(Builtin.lenOf vy).run P w = .ok (aG y h).length w /\
     (∀w',w'.heap=w.heap->(Builtin.firstCells i.size (aG y h).length vy).run P w' = .ok m.toArray w')/\(∃d,(underlying u).run P w = .ok d w/\(d = .string \/ ∃e',d = .slice e')):=by
   rintro⟨a1,a2,a3⟩ ⟨b1,b2,b3,b4⟩;let⟨i,hi,N⟩:=yL a1;unfold eH at b3;cases hz:i.zero with
   | none=>simp[hi,hz]at b3
   | some z =>
    simp only[hi,hz,Option.bind_some,YF]at b3;let⟨m,r1,r2,r3,r4⟩:=Fa hm hy a1 b1 b4 b2;exact⟨i,z,m,hi,N,by simp[Program.bytesOf,hi],hz,b3,r1,by rw[b1];exact r2 w,by rw[b1,N];exact r3,r4 w⟩
  split at j
  case h_3=>exact j.elim
  case h_1 V =>
   let⟨E,T,cb,cg⟩:=j;simp only[bQ]at E A;let⟨i,z,m,hi,N,aq,hz,ar,hR,o,K,hu⟩:=A E T;by_cases f:aG y h=[]
   .
    have ch:=cb f;subst ch;rw[f]at o K hR ⊢;have:m=[]:=Yb (by simpa using hR.1);subst this;let⟨g',g1,g2,g3,g4,g5⟩:=hm.putNone (h':=upd h b (some ⟨e,[]⟩)) b ⟨e,[]⟩ p (bI _ _ _) (λr O=>.inl (aI _ _ _ _ O)) E.1 rfl;have hv : ∃a,vx = .slice a 0 0:=by
     cases hx with
     | empty U a I hf aw=>rw[hf rfl];exact⟨a,rfl⟩
     | list U V ad I bh cv hI hl hf aw ci cj b7=>rw[hf rfl];exact⟨_,rfl⟩
    obtain⟨a,rfl⟩:=hv;exact⟨.slice a 0 0,g',w,Zcs ht hi hu ty a 0 0 (XW _) o (K w rfl),UQ g1 ((g2 b).2 (.inr rfl)) a,g4,g5,λr O=>(g2 r).1 O⟩
   have bm:0<(aG y h).length:=Zl.2 f;let⟨bp,o1,o2,o3,_⟩:=Fa hm hx (u:=t) E.1 (by simp[aG,bQ]) cg (by simp[iy,J]);simp only[aG,bQ]at o1 o2 o3;have hv : ∃a,vx = .slice a V.length V.length:=by
    cases hx with
    | empty U a I hf aw=>rw[hf rfl];exact⟨a,rfl⟩
    | list U V ad I bh cv hI hl hf aw ci cj b7=>rw[hf rfl];exact⟨_,rfl⟩
   obtain⟨a,rfl⟩:=hv;have M:=Zct (P:=P) ht hi hz hu ty a V.length V.length o (by omega) (by rw[N];exact o3 w.drew rfl) (K w.drew rfl) E.2.2 (by rw[aq];exact E.2.1);have b8:=grownCap_ge w (V.length+(aG y h).length) V.length e;let⟨g',G,k2,Y,k4⟩:=LB (h':=upd h b (some ⟨e,V++aG y h⟩)) hm p (o1.append hR) E.1 ar (bI _ _ _) (λr O=>.inl (aI _ _ _ _ O)) (grownCap w (V.length+(aG y h).length) V.length e) (by simpa using b8) om
    (grownCap_le_maxLen _ _ _ _ (by simp only[maxLen];exact E.2.2))
   simp only[X3]at G k2 Y;exact⟨_,g',_,M,G,k2,Y,k4⟩
  case h_2 r n =>
   cases O:h r with
   | none=>rw[O]at j;exact j.elim
   | some R =>
    rw[O]at j;simp only at j ⊢;obtain⟨E,T,rfl,rfl,cl⟩:=j;simp only[bQ]at E A;let⟨i,z,m,hi,N,aq,hz,ar,hR,o,K,hu⟩:=A E T;have ab : ∀r',r'≠b->upd (upd h r none) b (some ⟨R.ty,R.rows++aG y h⟩) r'=h r'\/upd (upd h r none) b (some ⟨R.ty,R.rows++aG y h⟩) r'=none:=by
     intro r' b7;rw[aI _ _ _ _ b7];by_cases e1:r'=r
     . subst e1;exact .inr (bI _ _ _)
     exact .inl (aI _ _ _ _ e1)
    let⟨cm,c,B,W,q3,q4,q5⟩:=hm.blk r R O;cases hx with|mrow _ _ _ _ fI Z hv =>
    let⟨q6,q7⟩:=hv _ _ _ B;have ac : ∀a I,vx = .slice a R.rows.length I->I<R.rows.length+(aG y h).length -> ∃v g' w',(Builtin.append_ #[t,u] ty #[vx,vy]).run P w = .ok v w'/\ae w' g' (.mrow b 0 (R.rows.length+(aG y h).length)) v /\
      HM P (upd (upd h r none) b (some ⟨R.ty,R.rows++aG y h⟩)) g' w'/\ay g g' w w' /\ ∀r,g'.U r->g.U r\/r=b:=by
     rintro a I rfl br;have b9:aG (.mrow r 0 R.rows.length) h=R.rows:=by simp[aG,O]
     let⟨bp,o1,o2,o3,_⟩:=Fa hm (.mrow r 0 R.rows.length _ fI Z hv) (u:=t) E.1 (by simp[b9,bQ]) (by
      rw[b9];intro row bw;obtain⟨k,X,rfl⟩:=Zb bw;rcases q5 with⟨_,rfl⟩|⟨b',L,_,_,_,_,k9⟩
      . omega
      exact(k9 k _ (Yi X)).1) (by simp[iy,J,O])
     rw[b9]at o1;simp only[bQ]at o2 o3;have M:=Zct (P:=P) ht hi hz hu ty a R.rows.length I o br (by rw[N];exact o3 w.drew rfl) (K w.drew rfl) E.2.2 (by rw[aq];exact E.2.1);have b8:=grownCap_ge w (R.rows.length+(aG y h).length) I R.ty;let⟨g',G,k2,Y,k4⟩:=LB (h':=upd (upd h r none) b (some ⟨R.ty,R.rows++aG y h⟩)) hm p (o1.append hR) E.1 ar (bI _ _ _) ab (grownCap w (R.rows.length+(aG y h).length) I R.ty) (by simpa using b8) om
      (grownCap_le_maxLen _ _ _ _ (by simp only[maxLen];exact E.2.2))
     simp only[X3]at G k2 Y;exact⟨_,g',_,M,G,k2,Y,k4⟩
    rcases q7 with⟨bx,a,rfl⟩|⟨bx,b0,rfl,rfl⟩
    .
     have bb:R.rows.length=0:=by omega
     by_cases f:aG y h=[]
     . rw[f]at o K hR ⊢;have:m=[]:=Yb (by simpa using hR.1);subst this;rw[Yb bb];let⟨g',g1,g2,g3,g4,g5⟩:=hm.putNone (h':=upd (upd h r none) b (some ⟨R.ty,[]++[]⟩)) b ⟨R.ty,[]⟩ p (bI _ _ _) (by rw[f,Yb bb]at ab;exact ab) E.1 rfl;exact⟨.slice a 0 0,g',w,Zcs ht hi hu ty a 0 0 (XW _) o (K w rfl),UQ g1 ((g2 b).2 (.inr rfl)) a,g4,g5,λr O=>(g2 r).1 O⟩
     have bm:0<(aG y h).length:=Zl.2 f;exact ac a 0 (by rw[bb]) (by omega)
    rcases q5 with⟨q5,_⟩|⟨b',L,q5,G,k2,Y,k4⟩
    . cases q5
    cases q5;have G:=G.cells q6.2;have k2:=k2 q6.2;have q4:=q6.2;simp only[Nat.zero_mul,Nat.sub_zero]at *
    by_cases F:R.rows.length+(aG y h).length<=c
    .
     have co:m.length=(aG y h).length*P.cellsOf R.ty:=hR.1;have ca:R.rows.length*P.cellsOf R.ty+m.length<=L.size:=by rw[co,k2,<-Zn];exact Y9 _ F
     have M:=Zcr (P:=P) ht hi hu ty b0 0 R.rows.length c o F (K w rfl) hR.one G (by rw[N];simpa using ca);rw[N]at M;simp only[Nat.zero_add]at M;have hO:=k4.rowsIn 0 R.rows.length (by omega) (by rw[k2];exact Y9 _ q3);simp only[X4,Yt,Nat.zero_mul]at hO;have hA:=hO.append hR;generalize am:(List.take (R.rows.length*P.cellsOf R.ty) L.toList++m++List.drop (R.rows.length*P.cellsOf R.ty+m.length) L.toList)=new at M;have be:new.length=L.size:=by rw[<-am];simp;omega
     let⟨g',g1,g2,g3,g4,g5⟩:=hm.put (h':=upd (upd h r none) b (some ⟨R.ty,R.rows++aG y h⟩)) (w':=w.setRow b0 new.toArray) b b0 c ⟨R.ty,R.rows++aG y h⟩ new.toArray (.inl p) (bI _ _ _) ab
      (.inr ⟨r,c,_,B,.inr (by rw[aI _ _ _ _ cl];exact bI _ _ _)⟩) (setRow_heap w b0 L _ R.ty _ G) (by simp[be,k2]) E.1 (by simpa using F) q4
      (hA.holds (by rw[<-am];simp only[YR];rw[<-YR];exact List.take_left))
      ⟨rfl,rfl,rfl,by simp,λk _ X=>setRow_other w b0 k _ (λe=>X (by rw[e]))⟩
     refine⟨_,g',_,M,.mrow b 0 _ _ ⟨_,_,rfl,F,λ_=>⟨_,rfl⟩⟩ ((g2 b).2 (.inr rfl)) λcm c' sz J=>?_,g4,g5,λr O=>(g2 r).1 O⟩;rw[g1]at J;simp only[Yj,YL]at J;obtain⟨rfl,rfl,rfl⟩:=J;exact⟨om,.inr ⟨bx,b0,rfl,by simp⟩⟩
    exact ac _ c rfl om
variable{len:Nat}
def ae.agg_inv{ds:List D}(h:ae w g (.agg ds) v):∃j,v = .agg j/\aF w g ds j.toList:=by cases h with|agg _ j f u=>exact⟨j,rfl,by simpa using f,λi d x J Y=>u i d x J (by simpa using Y)⟩
def ae.tuple_inv{ds:List D}(h:ae w g (.tuple ds) v):∃j,v = .tuple j/\aF w g ds j.toList:=by cases h with|tuple _ j f u=>exact⟨j,rfl,by simpa using f,λi d x J Y=>u i d x J (by simpa using Y)⟩
def ae.mk_agg{ds:List D}{vs:Array Value}(h:aF w g ds vs.toList):ae w g (.agg ds) (.agg vs) :=
 .agg ds vs (by simpa using h.1) λi d x J Y=>h.2 i d x J (by simpa using Y)
def ae.mk_tuple{ds:List D}{vs:Array Value}(h:aF w g ds vs.toList):ae w g (.tuple ds) (.tuple vs) :=
 .tuple ds vs (by simpa using h.1) λi d x J Y=>h.2 i d x J (by simpa using Y)
theorem Om{a:D}{f:Value}(m:ae w g a f)(hp:zZ a=true)(n:Nat):∃p,f = .pointer (some p)/\ae w g (Bj n a) (.pointer (some (p.add n))):=by
 cases m with
 | eptr M p h k o O =>
  refine⟨p,rfl,.eptr _ _ (λj=>h (n+j)) (by rw[block_add];exact k) (λj d A=>?_) (λj d A=>?_)⟩
  . rw[Y4]at A;rw[add_add'];exact o _ d A
  rw[Y4]at A;exact O _ d A
 | mptr r i off x E Z u =>
  obtain⟨p,rfl⟩:=E;refine⟨p,rfl,.mptr r i (off+n) _ ⟨_,rfl⟩ Z λG c t J=>?_⟩;let⟨y,b,z,Y⟩:=u G c t J;refine⟨y,b,z,?_⟩;simp only[Value.pointer.injEq,Yj]at Y;rw[Y,oQ,Nat.add_assoc]
 | v =>
  unfold zZ at hp;split at hp
  . rename_i e;cases e
  . rename_i e;cases e
  . rename_i p e;cases e;exact⟨_,rfl,.v _⟩
  cases hp
 | _=>simp[zZ]at hp
def ZlA{a:D}(h:BJ a=true):zZ a=true:=by
 unfold BJ at h;split at h
 . rfl
 . rfl
 . rfl
 cases h
theorem ZmK{s:TypeId}{f:Nat}{a:D}{n:Value}(m:ae w g a n)(j:(Er P s f a).2):∃v,(Instr.fieldAt s n f).run P w = .ok v w/\ae w g (Er P s f a).1 v:=by
 unfold Er at j ⊢;cases c:bq P s f with
 | none=>rw[c]at j;exact j.elim
 | some o =>
  let⟨off,t⟩:=o;rw[c]at j;let⟨J,Y⟩:=j;obtain⟨p,rfl,A⟩:=Om m J off;refine⟨_,?_,A⟩;unfold bq at c;split at c
  case h_2=>cases c
  rename_i B h;cases k:B[f]? with
  | none=>rw[k]at c;cases c
  | some r =>
   rw[k]at c;simp only[YZ,Yj,YL]at c;obtain⟨rfl,rfl⟩:=c;have u:=rG (P:=P) (t:=r.type) (by omega) w;simp[Instr.fieldAt,run_underlying h,k,Instr.sureAddr,fieldPlace,u,Y]
theorem ZmJ{s:TypeId}{f:Nat}{a:D}{n:Value}(m:ae w g a n)(j:(IW P s f a).2):∃v,(Instr.field s n f).run P w = .ok v w/\ae w g (IW P s f a).1 v:=by
 unfold IW at j ⊢;split at j
 case h_2=>exact j.elim
 rename_i off t M c;let⟨J,Y,A⟩:=j;obtain⟨p,rfl,u⟩:=m.agg_inv;let⟨v,o,U⟩:=ZiC (P:=P) u J Y A;refine⟨v,?_,U⟩;unfold bq at c;split at c
 case h_2=>cases c
 rename_i B h;cases k:B[f]? with
 | none=>rw[k]at c;cases c
 | some r =>
  rw[k]at c;simp only[YZ,Yj,YL]at c;obtain⟨rfl,rfl⟩:=c;simp[Instr.field,run_underlying h,k,asAgg,o]
theorem ZlO(hm:HM P h g w){x T:D}{vx vi:Value}(E:ae w g x vx)(hi:ae w g T vi)(f:(jH P t x T h).2):∃v,(Instr.indexAt t vx vi).run P w = .ok v w/\ae w g (jH P t x T h).1 v:=by
 unfold jH at f ⊢;cases J:bS P t with
 | none =>
  rw[J]at f;simp only at f ⊢;unfold yM at f ⊢;split at f
  case h_2=>exact f.elim
  rename_i n e k kk m;let⟨z,I,F,o⟩:=f;obtain⟨p,rfl,h3⟩:=Om E (ZlA z) (kk.toNat*P.cellsOf e);rw[hi.v_inv];refine⟨_,?_,h3⟩;unfold qZ at m;split at m
  case h_2=>cases m
  rename_i n' e' u;cases m;simp[Instr.indexAt,asIntOf,run_underlying u,Instr.sureAddr,I,F,rG o]
 | some e =>
 rw[J]at f;simp only at f ⊢;have u:=yX J;split at f
 case h_3=>exact f.elim
 case h_1 L V k n =>
  rw[hi.v_inv];let⟨z,I,F,o⟩:=f;have K:n.toNat<V.length:=by omega
  cases E with
  | empty=>simp at K
  | list L V ad ac M cv hI hl hf am N U O =>
   have X:M=P.cellsOf e:=by rw[<-o,<-N (V.getD n.toNat []) (by simp[List.getD,Yi K])]
   subst X;refine⟨.pointer (some (ad.add (n.toNat*P.cellsOf e))),?_,?_⟩
   . have Y:n<(V.length:Int):=I;simp[Instr.indexAt,asIntOf,run_underlying u,z,Y,rG F]
   have y:V[n.toNat]? = some (V.getD n.toNat []):=by simp[List.getD,Yi K]
   refine .eptr _ _ (λj=>cv n.toNat j) (by rw[block_add];exact hI) (λj d A=>?_) (λj d A=>O _ _ _ _ y A);rw[add_add'];exact(U _ _ _ _ y A).1
 case h_2 r off aq k n =>
  rw[hi.v_inv];let⟨z,I,F,o⟩:=f;cases O:h r with
  | none=>rw[O]at o;exact o.elim
  | some R =>
   rw[O]at o;simp only at o;subst o;cases E with|mrow _ _ _ _ fI Z hv =>
   obtain⟨a,c,rfl,h1,Y⟩:=fI;obtain⟨p,rfl⟩:=Y om;refine⟨.pointer (some (p.add (n.toNat*P.cellsOf R.ty))),?_,.mptr _ _ _ _ ⟨_,rfl⟩ Z λG c' sz hM=>?_⟩
   . simp[Instr.indexAt,asIntOf,run_underlying u,z,I,rG F]
   let⟨ab,ar,B,_⟩:=hm.blk r R O;rw[hM]at B;simp only[Yj,YL]at B;let⟨q0,W⟩:=hv _ _ _ hM;rcases W with⟨rfl,a,W⟩|⟨_,b,q3,q4⟩
   . omega
   refine⟨q0.2,b,q3,?_⟩;simp only[Value.slice.injEq,Yj]at q4;rw[q4.1,oQ,B.2.2,<-Zn];rfl
def ZlN{x f:D}{h m:Value}(E:ae w g x h)(hi:ae w g f m)(j:(D8 P t x f).2):∃v,(Instr.index t h m).run P w = .ok v w/\ae w g (D8 P t x f).1 v:=by
 unfold D8 at j ⊢;split at j
 case h_2=>exact j.elim
 rename_i s k n;let⟨o,I,a⟩:=j;rw[E.v_inv,hi.v_inv];refine⟨_,?_,.v _⟩;have K:n.toNat<s.size:=by omega
 have e:s[n.toNat]? = some (s.data.toList.getD n.toNat 0):=by rw[ByteArray.getElem?_lt' s n.toNat K];have c:n.toNat<s.data.size:=K;simp only[List.getD,Zf,ZK c,YV];rfl
 simp[Instr.index,asIntOf,run_underlying a,o,e]
def ZdH{op:UnOp}{x:D}{a:Value}(E:ae w g x a)(j:(CL op x).2):∃v,(Op.unary op a).run P w = .ok v w/\ae w g (CL op x).1 v:=by
 unfold CL at j ⊢;split at j
 . rw[E.v_inv];exact⟨_,by simp[Op.unary],.v _⟩
 . rw[E.v_inv];exact⟨_,by simp[Op.unary,Op.intArith,Gp j],.v _⟩
 exact j.elim
theorem Zow{o dst:TypeId}{x:D}{K:Value}(E:ae w g x K)(t:(Ez P o dst x).2):∃v,(convert o dst K).run P w = .ok v w/\ae w g (Ez P o dst x).1 v:=by
 unfold Ez at t ⊢;split at t
 . rename_i k k' n m;let⟨d,N⟩:=YU.1 t;rw[E.v_inv];exact⟨.int k (k.wrap n),by simp[convert,run_underlying N,run_underlying m,Conv.intToInt],.v _⟩
 .
  rename_i s m;rw[E.v_inv];split at t
  . rename_i N;exact⟨_,by simp[convert,run_underlying N,run_underlying m],.v _⟩
  exact t.elim
 .
  rename_i p V m;let⟨J,h2⟩:=t;unfold Rc at J;split at J
  case h_2=>cases J
  rename_i e N;split at J
  case h_2=>cases J
  rename_i he;have O : ∀(a:Option Addr)(n c:Nat),K = .slice a n c->(convert o dst K).run P w=(Conv.bytesToString (.slice a n c)).run P w:=by intro a n c e;subst e;exact run_convert_bytes_string w o dst _ a n c N he m
  cases E with
  | empty p a I hf hm =>
   refine⟨_,?_,.v _⟩;rw[O _ _ _ rfl];cases a with
   | none=>simp[Conv.bytesToString];rfl
   | some a =>
    rw[run_bytesToString w a 0 I [] (by have:=run_loadCells (P:=P) w a 0 (λ_=>undef) (λj Z=>by omega);simpa using this)];rfl
  | list p V L I z cv hi hl hf hm M R hr =>
   have B : ∀i(hi:i<V.length),∃n,V[i]=[.v (.int .u8 n)]:=by
    intro i hi;have A:=YA.1 h2 V[i] (Yz hi);unfold isByte at A;split at A
    . exact⟨_,by assumption⟩
    cases A
   have F : ∀i,∃n,i<V.length->V[i]? = some [.v (.int .u8 n)]:=by
    intro i;by_cases hi:i<V.length
    . let⟨n,h⟩:=B i hi;exact⟨n,λ_=>by rw[Yi hi,h]⟩
    exact⟨0,λh=>absurd h hi⟩
   obtain⟨f,G⟩:∃f:Nat->Int,∀i,i<V.length->V[i]? = some [.v (.int .u8 (f i))]:=⟨λi=>Classical.choose (F i),λi=>Zv (F i)⟩;refine⟨_,?_,.v _⟩;rw[O _ _ _ rfl];have u : ∀j,j<V.length->w.cell? (L.add j)=some (.int .u8 (f j)):=by
    intro j Z;have Y:=G j Z;have T:z=1:=by rw[<-M _ (Ym Y)];rfl
    let⟨U,_⟩:=R j 0 _ _ Y rfl;have W:=(hr j 0 _ _ Y rfl).v_inv;rw[T,Nat.mul_one,Zx,W]at U;exact U
   have y:=run_loadCells (P:=P) w L V.length (λj=>.int .u8 (f j)) u;rw[run_bytesToString w L V.length I ((List.range V.length).map f) (by rw[y,List.map_map];rfl)];congr 2;have Ef : ∀(l:List Int)(r:ByteArray),l.foldl (λr n=>r.push (UInt8.ofNat n.toNat)) r=⟨r.data++(l.map λn=>UInt8.ofNat n.toNat).toArray⟩:=by
    intro l;induction l with
    | nil=>intro r;simp
    | cons n l ih =>
     intro r;rw[YM,ih];congr 1;apply Zr;simp[ByteArray.push]
   rw[Ef];congr 1;apply Zr;have X:ByteArray.empty.data = #[]:=rfl;rw[X];simp only[Array.toList_append,XZ];apply List.ext_getElem?;intro i;by_cases hi:i<V.length
   . have Y:=G i hi;have U:(List.range V.length)[i]? = some i:=List.getElem?_range hi;simp only[YQ,Y,U,YZ];rfl
   rw[ZZ (by simp only[YX,List.length_range];omega),ZZ (by simp only[YX];omega)]
 exact t.elim
def ZjW{xs:List D}(E:aF w g xs vs)(j:(KX xs).2)(a:Array TypeId)(t:TypeId):∃v,(Builtin.min_ a t vs.toArray).run P w = .ok v w/\ae w g (KX xs).1 v:=by
 unfold KX at j ⊢;split at j
 .
  obtain⟨x,l,rfl,J,Y⟩:=E.of_cons;obtain⟨y,l,rfl,A,c⟩:=Y.of_cons;rw[c.of_nil,J.v_inv,A.v_inv];subst j;rename_i k a b;refine⟨.int k (min a b),?_,.v _⟩;have e:(if b<a then b else a)=min a b:=by omega
  simp[Builtin.min_,Builtin.min2,e]
 exact j.elim
def Zj2{xs:List D}(E:aF w g xs vs)(j:(KZ xs).2)(a:Array TypeId)(t:TypeId):∃v,(Builtin.max_ a t vs.toArray).run P w = .ok v w/\ae w g (KZ xs).1 v:=by
 unfold KZ at j ⊢;split at j
 .
  obtain⟨x,l,rfl,J,Y⟩:=E.of_cons;obtain⟨y,l,rfl,A,c⟩:=Y.of_cons;rw[c.of_nil,J.v_inv,A.v_inv];subst j;rename_i k a b;refine⟨.int k (max a b),?_,.v _⟩;have e:(if a<b then b else a)=max a b:=by omega
  simp[Builtin.max_,Builtin.max2,e]
 exact j.elim
theorem Zkv{x:D}{f:Value}(E:ae w g x f)(j:DK P t x=true):(Builtin.len_ #[t] ty #[f]).run P w = .ok (.int .i64 (bQ x)) w:=by
 unfold DK at j;split at j
 .
  let⟨e,J⟩:=YU.1 j;cases E with
  | empty=>simp[Builtin.len_,run_underlying (yX J),goInt,bQ]
  | list=>simp[Builtin.len_,run_underlying (yX J),goInt,bQ]
 .
  let⟨e,J⟩:=YU.1 j;cases E with|mrow _ _ _ _ h Z k =>
  obtain⟨a,c,rfl,_⟩:=h;simp[Builtin.len_,run_underlying (yX J),goInt,bQ]
 .
  rename_i s;have u:P.underlying t=some .string:=by split at j<;>simp_all
  rw[E.v_inv];simp[Builtin.len_,run_underlying u,goInt,bQ]
 cases j
def Gl(w:World)(g:Mem)(o:Option D)(vo:Option Value):Prop:=match o,vo with|some x,some v=>ae w g x v|none,none=>True|_,_=>False
def Br(vo:Option Value)(d y:Nat)(a:BoundsCode):Sem Nat:=match vo with|some v=>Instr.sliceBound v y a|none=>pure d
def ow{o:Option D}{vo:Option Value}{d:Nat}{y:Nat}(hr:Gl w g o vo)(hk:EF o=true)(h0:0<=bnd o d)(a:bnd o d<=y)(c:BoundsCode) :
  (Br vo d y c).run P w = .ok (bnd o d).toNat w:=by
 unfold Gl at hr;split at hr
 .
  rename_i x v;unfold EF at hk;split at hk
  . rename_i e;cases e
  . rename_i k n e;cases e;rw[hr.v_inv];simp only[bnd]at h0 a ⊢;simp[Br,Instr.sliceBound,asIntOf,h0,a]
  cases hk
 . simp[Br,bnd]
 exact hr.elim
theorem Gd{b:Bool}{I l h:Nat}{a c:Option Value}(f:(Br c len I (if b then .sliceAcap else .sliceAlen)).run P w = .ok h w)(g:(Br a 0 h .sliceB).run P w = .ok l w) :
  (Instr.sliceBounds b len I a c none).run P w = .ok (l,h,I) w:=by
 cases c<;>cases a<;>simp_all [Instr.sliceBounds,Br]
def Zcc{b:Bool}{I l h m:Nat}{a:Option Value}{c vm:Value}(f:(Instr.sliceBound vm I (if b then .slice3Acap else .slice3Alen)).run P w = .ok m w)(g:(Instr.sliceBound c m .slice3B).run P w = .ok h w)(j:(Br a 0 h .slice3C).run P w = .ok l w) :
  (Instr.sliceBounds b len I a (some c) (some vm)).run P w = .ok (l,h,m) w:=by
 cases a<;>simp_all [Instr.sliceBounds,Br]
def CR{e:TypeId}(u:P.underlying t=some (.slice e))(J:0<P.cellsOf e){a:Option Addr}{I l h m:Nat}{c f vm:Option Value}(p:(Instr.sliceBounds true len I c f vm).run P w = .ok (l,h,m) w) :
  (Instr.sliceAt t (.slice a len I) c f vm).run P w = .ok (.slice (if m=l then a else a.map (·.add (l*P.cellsOf e))) (h-l) (m-l)) w:=by
 simp[Instr.sliceAt,Instr.slice,run_underlying u,p,rG J]
theorem WT{t:Bool}{rows:List (List D)}{u:Option Addr}{I e:Nat}(E:ae w g (.list t rows) (.slice u len I))(G:0<e)(hs : ∀r∈rows,r.length=e)(c hi m:Nat)(h1:c<=hi)(h2:hi<=rows.length)(h3:hi<=m)(h4:m<=I)(f:Bool)(a:f=true->m=hi) :
  ae w g (.list f ((rows.take hi).drop c)) (.slice (if m=c then u else u.map (·.add (c*e))) (hi-c) (m-c)):=by
 by_cases V:(rows.take hi).drop c=[]
 .
  rw[V];have o:hi-c=0:=by have:=congrArg List.length V;simp at this;omega
  have v:I<=maxLen:=by cases E<;>assumption
  rw[o];exact .empty f _ _ (λh=>by have:=a h;omega) om
 cases E with
 | empty=>simp at V
 | list t rows L I k z A N R B x J O =>
  have K:c<hi:=by
   rcases YK c hi with h|h
   . exact h
   exfalso;apply V;apply Y5;simp;omega
  rw[XV (by omega)];have y:k=e:=by
   have p:0<rows.length:=by omega
   rw[<-x rows[0] (by simp),hs rows[0] (by simp)]
  subst y;have o:hi-c=((rows.take hi).drop c).length:=by simp;omega
  rw[o];have M : ∀(i:Nat)r,((rows.take hi).drop c)[i]? = some r->rows[c+i]? = some r:=by
   intro i r n;rw[Y4,Zc]at n;split at n
   . exact n
   cases n
  refine .list f _ _ _ k (λi j=>z (c+i) j) (by rw[block_add];exact A) (by omega) (λh=>by have:=a h;omega) (by omega) (λr O=>hs r (List.mem_of_mem_take (List.mem_of_mem_drop O))) (λi j r d U W=>?_) (λi j r d U W=>O _ _ _ _ (M i r U) W);have:=J _ _ _ _ (M i r U) W;rw[add_add'];have F:c*k+(i*k+j)=(c+i)*k+j:=by rw[Zn];omega
  rw[F];exact this
theorem ZfC(hm:HM P h g w){x:D}{l hh m:Option D}{vx:Value}{vl vh vm:Option Value}(E:ae w g x vx)(hl:Gl w g l vl)(f:Gl w g hh vh)(n:Gl w g m vm)(j:(rE P t x l hh m h).2) :
  ∃v,(Instr.sliceAt t vx vl vh vm).run P w = .ok v w/\ae w g (rE P t x l hh m h).1 v:=by
 unfold rE at j ⊢;split at j
 case h_4=>exact j.elim
 case h_1 s =>
  obtain⟨⟨F,L,b3,A,b5,b6⟩,rfl,u⟩:=j;rw[E.v_inv];cases vm with
  | some v=>exact n.elim
  | none =>
  simp only[bQ]at A b5 b6 ⊢;have M:=ow (P:=P) (d:=s.size) (y:=s.size) f L (by omega) (by omega) (if false then .sliceAcap else .sliceAlen);have N:=ow (P:=P) (d:=0) (y:=(bnd hh s.size).toNat) hl F A (by omega) .sliceB;exact⟨_,by simp[Instr.sliceAt,Instr.slice,run_underlying u,Gd M N],.v _⟩
 case h_2 o V =>
  cases J:bS P t with
  | none=>rw[J]at j;exact j.elim
  | some e =>
  rw[J]at j;simp only at j ⊢;have u:=yX J;simp only[bQ]at j ⊢;have hv : ∃a I,vx = .slice a V.length I/\V.length<=I/\I<=maxLen/\(o=true->I=V.length):=by
   cases E with
   | empty o a I T U=>exact⟨a,I,rfl,Yh _,U,T⟩
   | list o V ad I am cv hI ac T U ar aw b7=>exact⟨_,I,rfl,ac,U,T⟩
  obtain⟨a,I,rfl,v1,v2,v3⟩:=hv;cases m with
  | none =>
   simp only at j ⊢;let⟨⟨F,L,b3,A,b5,b6⟩,X,z⟩:=j;cases vm with
   | some v=>exact n.elim
   | none =>
   have M:=ow (P:=P) (d:=V.length) (y:=I) f L (by omega) (by omega) (if true then .sliceAcap else .sliceAlen);have N:=ow (P:=P) (d:=0) (y:=(bnd hh V.length).toNat) hl F A (by omega) .sliceB;refine⟨_,CR u X (Gd M N),?_⟩;refine WT E X z _ _ I om om om (XW _) _ λT=>?_;simp only[XU,YF]at T;have:=v3 T.1;omega
  | some dm =>
   simp only at j ⊢;let⟨⟨F,L,b3,A,b5,b6⟩,c0,c1,X,z⟩:=j;cases vm with
   | none=>exact n.elim
   | some vm =>
   obtain⟨dh,rfl⟩:=YU.1 c0;cases vh with
   | none=>exact f.elim
   | some vh =>
   have r3:=ow (P:=P) (d:=0) (y:=I) n b3 (by omega) (by omega) (if true then .slice3Acap else .slice3Alen);have M:=ow (P:=P) (d:=V.length) (y:=(bnd (some dm) 0).toNat) f L (by omega) (by omega) .slice3B;have N:=ow (P:=P) (d:=0) (y:=(bnd (some dh) V.length).toNat) hl F A (by omega) .slice3C;refine⟨_,CR u X (Zcc r3 M N),?_⟩;exact WT E X z _ _ _ om om om om _ λT=>by omega
 case h_3 r off W =>
  cases J:bS P t with
  | none=>rw[J]at j;exact j.elim
  | some e =>
  rw[J]at j;simp only at j ⊢;have u:=yX J;simp only[bQ]at j ⊢;obtain⟨⟨F,L,b3,A,b5,b6⟩,rfl,X,z⟩:=j;cases O:h r with
  | none=>rw[O]at z;exact z.elim
  | some R =>
  rw[O]at z;simp only at z;subst z;cases vm with
  | some v=>exact n.elim
  | none =>
  cases E with|mrow _ _ _ _ fI Z hv =>
  obtain⟨a,c,rfl,h1,Y⟩:=fI;have M:=ow (P:=P) (d:=W) (y:=c) f L (by omega) (by omega) (if true then .sliceAcap else .sliceAlen);have N:=ow (P:=P) (d:=0) (y:=(bnd hh W).toNat) hl F A (by omega) .sliceB;refine⟨_,CR u X (Gd M N),?_⟩;have e1:(bnd hh W).toNat-(bnd l 0).toNat=(bnd hh W-bnd l 0).toNat:=by omega
  rw[e1];refine .mrow r _ _ _ ⟨_,_,rfl,om,λK=>?_⟩ Z λG c' sz hM=>?_
  .
   obtain⟨p,rfl⟩:=Y om;split
   . exact⟨p,rfl⟩
   exact⟨_,rfl⟩
  let⟨B,q2⟩:=hv _ _ _ hM;obtain⟨aq,b8,q5, -⟩:=hm.blk r R O;rw[hM]at q5;simp only[Yj,YL]at q5;rcases q2 with⟨rfl,a',q2⟩|⟨q2,b,rfl,k⟩
  .
   simp only[Value.slice.injEq]at q2;obtain⟨rfl,rfl,rfl⟩:=q2;have z1:(bnd l 0).toNat=0:=by omega
   have z2:(bnd hh 0-bnd l 0).toNat=0:=by omega
   exact⟨om,.inl ⟨om,_,by rw[z1,z2]⟩⟩
  simp only[Value.slice.injEq]at k;obtain⟨rfl,_,rfl⟩:=k;refine⟨om,?_⟩;by_cases ab:c'-off=(bnd l 0).toNat
  .
   refine .inl ⟨om,some ⟨b,off*sz,none⟩,?_⟩;rw[X0 ab];have z2:(bnd hh W-bnd l 0).toNat=0:=by omega
   rw[z2,ab,Yq]
  refine .inr ⟨om,b,rfl,?_⟩;rw[XV ab,q5.2.2];simp only[YZ,oQ,<-Zn];rw[Nat.sub_sub]
variable{ps:Array (Nat×Operand)}
theorem HM.still(v:HM P h g w)(o:Obj) :
  HM P h { g with I:=λb=>g.I b\/b=w.heap.size } (w.alloc o)/\ay g { g with I:=λb=>g.I b\/b=w.heap.size } w (w.alloc o):=by
 have mono:ay g { g with I:=λb=>g.I b\/b=w.heap.size } w (w.alloc o) :=
  ⟨rfl,rfl,rfl,by simp,λ_=>XW _,λ_ h=>h,λ_ _=>.inl rfl,λr b c s h=>.inl ⟨r,c,s,h⟩,λ_ h=>.inl h,λb h=>by rcases h with h|rfl;exact .inl h;exact .inr (.inl (XW _)),λb p _=>Below.heap_alloc w o b p⟩
 refine⟨⟨v.dead,λr R O=>?_,v.inj,v.used,λb p=>?_,v.gr.later (v.kept mono)⟩,mono⟩
 .
  let⟨G,c,J,Y,A,f,U⟩:=v.blk r R O;refine⟨G,c,J,Y,A,f,?_⟩;rcases U with U|⟨b,L,rfl,W,k,T,V⟩
  . exact .inl U
  have K:=(pY v J).1;refine .inr ⟨b,L,rfl,by rw[Below.heap_alloc w o b K];exact W,k,λa=>?_,λi row hi=>?_⟩
  .
   rcases a with a|a
   . exact T a
   omega
  let⟨n,t⟩:=V i row hi;refine⟨n,λj d m=>?_⟩;let⟨u,x,y,z⟩:=t j d m;exact⟨u,x,y,z.later v mono⟩
 rcases p with p|rfl
 . have:=v.imm b p;simp;omega
 simp
theorem UH:∀{ps:List (Nat×Operand)}{xs:List D}{i:Nat},Da n i ps xs->ps.map (·.1)=List.range' i ps.length/\xs.length=ps.length /\ ∀x∈xs,x.cells.length=n/\x.cells.all D.one=true:=by
 intro ps;induction ps with
 | nil=>intro xs i h;cases xs<;>simp_all [Da]
 | cons p ps k =>
  intro xs i h;cases xs with
  | nil=>simp[Da]at h
  | cons x xs =>
   let⟨J,Y,A,a⟩:=h;let⟨G,c,f⟩:=k a;refine⟨by simp[J,G,Zd],by simp[c],λy o=>?_⟩;rcases Yl.1 o with rfl|o
   . exact⟨Y,A⟩
   exact f y o
theorem Zo7(hm:HM P h g w){xs:List D}(hr:aF w g xs vs)(R:(EE P t len ps.toList xs).2)(ρ:Operand->Value)(hρ:ps.toList.map (λp=>ρ p.2)=vs) :
  ∃v g' w',(Instr.buildSlice t len (ps.map λ(i,x)=>(i,ρ x))).run P w = .ok v w'/\ae w' g' (EE P t len ps.toList xs).1 v/\HM P h g' w'/\ay g g' w w' /\ ∀r,g'.U r->g.U r:=by
 unfold EE at R ⊢;cases he:bS P t with
 | none=>rw[he]at R;exact R.elim
 | some e =>
 rw[he]at R;simp only at R ⊢;have hu:=yX he;let⟨c1,I,a,c4,c5⟩:=R;let⟨ie,T,N⟩:=yL a;let⟨G,c,k3⟩:=UH I;have am:vs.length=len:=by rw[<-hr.1,c,c1]
 have n:(ps.map λ(i,x)=>(i,ρ x)).toList=(vs.zipIdx 0).map λx=>(x.2,x.1):=by
  apply List.ext_getElem?;intro i;simp only[Array.toList_map,YQ,List.getElem?_zipIdx,<-hρ];cases F:ps.toList[i]? with
  | none=>simp
  | some p =>
   have:(ps.toList.map (·.1))[i]? = some p.1:=by simp only[YQ,F,YZ]
   rw[G]at this;have aq:i<ps.toList.length:=(X8.1 F).1;rw[List.getElem?_range' (by omega)]at this;simp at this;simp[this]
 obtain⟨z,V⟩:∃z,ie.zero=some z:=by
  unfold eH at c5;cases V:ie.zero with
  | none=>simp[T,V]at c5
  | some z=>exact⟨z,rfl⟩
 let⟨L,mono⟩:=hm.still (.cells #[] e);by_cases h0:len=0
 .
  subst h0;have ar:xs=[]:=Yb om;subst ar;have aw:ps = #[]:=by have:ps.toList=[]:=Yb c1;simpa using this
  subst aw;refine⟨.slice (some ⟨w.heap.size,0,none⟩) 0 0,_,_,?_,.empty true _ 0 (λ_=>rfl) o3u,L,mono,λ_ h=>h⟩;have f:(Array.range 0).map (λ_=>(default:Value)) = #[]:=by apply Zr;simp
  simp[Instr.buildSlice,run_underlying hu,rG a,Instr.fill,newRow,f]
 let⟨r,f1,f2,f3⟩:=Go.Great.fill_dense (s:=ie.size) om vs 0 ((Array.range (len*ie.size)).map (z.cells[· % z.cells.size]!)) (λv hv=>by
  obtain⟨i,hi,rfl⟩:=Zb hv;have m:i<xs.length:=by omega
  let⟨B,W⟩:=k3 xs[i] (Yz m);rw[((hr.2 i xs[i] vs[i] (by simp) (by simp)).cells W).2.2,B,N]) (by simp[am])
 have U:=run_buildSlice (P:=P) w t e len (ps.map λ(i,x)=>(i,ρ x)) r ie z hu T V (by rw[N];omega) (by rw[N];exact Nat.mul_ne_zero h0 (by omega)) (by rw[n];exact f1);let⟨L,mono⟩:=hm.still (.cells r e);have o:len=(xs.map D.cells).length:=by simp;omega
 refine⟨_,_,_,U,?_,L,mono,λ_ h=>h⟩;have O : ∀(i j:Nat)row d,(xs.map D.cells)[i]? = some row->row[j]? = some d -> ∃u,r[i*P.cellsOf e+j]? = some u/\u.oneCell'=true/\ae w g d u:=by
  intro i j row d hi hj;rw[YQ]at hi;cases m:xs[i]? with
  | none=>rw[m]at hi;cases hi
  | some x =>
   rw[m]at hi;simp only[YZ,Yj]at hi;subst hi;have aq:i<xs.length:=(X8.1 m).1;have Io:i<vs.length:=by omega
   let⟨B,W⟩:=k3 x (Ym m);let⟨k,q4,q5⟩:=(hr.2 i x vs[i] m (by simp)).cells W;have M:j<P.cellsOf e:=by have:=(X8.1 hj).1;omega
   have b7:j<vs[i].cells.toList.length:=by simp;omega
   refine⟨vs[i].cells.toList[j],?_,q4 _ (Yz b7),k.2 j d _ hj (by simp)⟩;rw[f3,X0 ⟨om,by rw[Nat.zero_add,N];exact BL Io M⟩,N];have y:(i*P.cellsOf e+j) / P.cellsOf e=i:=by rw[ZF,Nat.mul_add_div a,Nat.div_eq_of_lt M];rfl
   have e2:(i*P.cellsOf e+j) % P.cellsOf e=j:=by rw[ZF,Z0,ZC M]
   rw[y,e2,Nat.sub_zero,Yi Io];simp
 have X : ∀i j,∃u,∀row d,(xs.map D.cells)[i]? = some row->row[j]? = some d->r[i*P.cellsOf e+j]? = some u/\u.oneCell'=true/\ae w g d u:=by
  intro i j;by_cases hh : ∃row d,(xs.map D.cells)[i]? = some row/\row[j]? = some d
  . let⟨row,d,J,Y⟩:=hh;let⟨u,A,h4,h5⟩:=O i j row d J Y;refine⟨u,λb8 d' Z ab=>?_⟩;rw[J]at Z;cases Z;rw[Y]at ab;cases ab;exact⟨A,h4,h5⟩
  exact⟨undef,λrow d J Y=>absurd ⟨row,d,J,Y⟩ hh⟩
 generalize hf:(λi j=>Classical.choose (X i j))=cf;have ac : ∀i j row d,(xs.map D.cells)[i]? = some row->row[j]? = some d->r[i*P.cellsOf e+j]? = some (cf i j)/\(cf i j).oneCell'=true/\ae w g d (cf i j):=by intro i j;rw[<-hf];exact Zv (X i j)
 rw[o];refine .list true _ ⟨w.heap.size,0,none⟩ _ (P.cellsOf e) cf (.inr rfl) (XW _) (λ_=>rfl) ?_ (λrow K=>?_) (λi j row d J Y=>?_) (λi j row d J Y=>?_)
 . rw[<-o];simp only[maxLen];have:len<=len*P.cellsOf e:=Nat.le_mul_of_pos_right _ a;omega
 . simp only[Yp]at K;obtain⟨x,E,rfl⟩:=K;exact(k3 x E).1
 . let⟨A,h4,_⟩:=ac i j row d J Y;refine⟨?_,h4⟩;rw[oQ,Nat.zero_add,cell_of_row _ _ _ r e (0,0) (heap_alloc_new w _)];exact A
 exact(ac i j row d J Y).2.2.later hm mono
theorem Zo9(hm:HM P h g w){b:Nat}(hb : ¬g.U b){xs:List D}(hr:aF w g xs vs)(K:(wM P t len ps.toList xs h b).2.2)(ρ:Operand->Value)(hρ:ps.toList.map (λp=>ρ p.2)=vs) :
  ∃v g' w',(Instr.buildSlice t len (ps.map λ(i,x)=>(i,ρ x))).run P w = .ok v w'/\ae w' g' (wM P t len ps.toList xs h b).1 v/\HM P (wM P t len ps.toList xs h b).2.1 g' w'/\ay g g' w w' /\ ∀r,g'.U r->g.U r\/r=b:=by
 unfold wM at K ⊢;cases J:bS P t with
 | none=>rw[J]at K;exact K.elim
 | some e =>
 rw[J]at K;simp only at K ⊢;have hu:=yX J;let⟨c0,c1,I,a,c4,Z⟩:=K;have h0 : ¬len=0:=by omega
 let⟨ie,L,N⟩:=yL a;let⟨G,k2,Y⟩:=UH I;have M:vs.length=len:=by rw[<-hr.1,k2,c1]
 have n:(ps.map λ(i,x)=>(i,ρ x)).toList=(vs.zipIdx 0).map λx=>(x.2,x.1):=by
  apply List.ext_getElem?;intro i;simp only[Array.toList_map,YQ,List.getElem?_zipIdx,<-hρ];cases F:ps.toList[i]? with
  | none=>simp
  | some p =>
   have:(ps.toList.map (·.1))[i]? = some p.1:=by simp only[YQ,F,YZ]
   rw[G]at this;have R:i<ps.toList.length:=(X8.1 F).1;rw[List.getElem?_range' (by omega)]at this;simp at this;simp[this]
 obtain⟨z,V⟩:∃z,ie.zero=some z:=by
  unfold eH at Z;cases V:ie.zero with
  | none=>simp[L,V]at Z
  | some z=>exact⟨z,rfl⟩
 let⟨r,f1,f2,f3⟩:=Go.Great.fill_dense (s:=ie.size) om vs 0 ((Array.range (len*ie.size)).map (z.cells[· % z.cells.size]!)) (λv hv=>by
  obtain⟨i,hi,rfl⟩:=Zb hv;have f:i<xs.length:=by omega
  let⟨B,W⟩:=Y xs[i] (Yz f);rw[((hr.2 i xs[i] vs[i] (by simp) (by simp)).cells W).2.2,B,N]) (by simp[M])
 have U:=run_buildSlice (P:=P) w t e len (ps.map λ(i,x)=>(i,ρ x)) r ie z hu L V (by rw[N];omega) (by rw[N];exact Nat.mul_ne_zero h0 (by omega)) (by rw[n];exact f1);have O : ∀(i j:Nat)row d,(xs.map D.cells)[i]? = some row->row[j]? = some d -> ∃u,r[i*P.cellsOf e+j]? = some u/\u.oneCell'=true/\ae w g d u:=by
  intro i j row d hi A;rw[YQ]at hi;cases f:xs[i]? with
  | none=>rw[f]at hi;cases hi
  | some x =>
   rw[f]at hi;simp only[YZ,Yj]at hi;subst hi;have R:i<xs.length:=(X8.1 f).1;have Io:i<vs.length:=by omega
   let⟨B,W⟩:=Y x (Ym f);let⟨k,q4,q5⟩:=(hr.2 i x vs[i] f (by simp)).cells W;have E:j<P.cellsOf e:=by have:=(X8.1 A).1;omega
   have T:j<vs[i].cells.toList.length:=by simp;omega
   refine⟨vs[i].cells.toList[j],?_,q4 _ (Yz T),k.2 j d _ A (by simp)⟩;rw[f3,X0 ⟨om,by rw[Nat.zero_add,N];exact BL Io E⟩,N];have y:(i*P.cellsOf e+j) / P.cellsOf e=i:=by rw[ZF,Nat.mul_add_div a,Nat.div_eq_of_lt E];rfl
   have e2:(i*P.cellsOf e+j) % P.cellsOf e=j:=by rw[ZF,Z0,ZC E]
   rw[y,e2,Nat.sub_zero,Yi Io];simp
 have o:len=(xs.map D.cells).length:=by simp;omega
 have X:len<=maxLen:=by simp only[maxLen];have:len<=len*P.cellsOf e:=Nat.le_mul_of_pos_right _ a;omega
 let⟨g',h2,h3,h4,h5,h6⟩:=hm.put (h':=upd h b (some ⟨e,xs.map D.cells⟩)) (w':=w.alloc (.cells r e)) b w.heap.size len ⟨e,xs.map D.cells⟩ r (.inl hb) (bI _ _ _)
  (λr hr=>.inl (aI _ _ _ _ hr)) (.inl (XW _)) (heap_alloc_new w _) (by simp only[<-N];simpa using f2) a (by simp only;omega) X (λi row hi=>by
   have m:=hi;simp only[YQ]at m;cases f:xs[i]? with
   | none=>rw[f]at m;cases m
   | some x =>
    rw[f]at m;simp only[YZ,Yj]at m;subst m;exact⟨(Y x (Ym f)).1,λj d A=>O i j _ d hi A⟩) (World.grownBy_alloc w _ _)
 refine⟨_,g',_,U,?_,h5,h6,λr hr=>(h3 r).1 hr⟩;refine .mrow b 0 len _ ⟨some ⟨w.heap.size,0,none⟩,len,rfl,XW _,λ_=>⟨_,rfl⟩⟩ ((h3 b).2 (.inr rfl)) λab c sz J=>?_;rw[h2]at J;simp only[Yj,YL]at J;obtain⟨rfl,rfl,rfl⟩:=J;exact⟨om,.inr ⟨om,w.heap.size,rfl,by simp⟩⟩
def partAt(P:Program)[Glob P](s:TypeId)(f:Nat):Option (Nat×Nat):=match bq P s f with
 | some (off,t)=>some (off,P.cellsOf t)
 | none=>match qZ P s with
  | some (_,e)=>some (f*P.cellsOf e,P.cellsOf e)
  | none=>none
theorem ZmI{s:TypeId}{f:Nat}{o:Operand}{ps:List (Nat×Operand)}{x:D}{xs cs:List D}:Am P s ((f,o)::ps) (x::xs) cs=match partAt P s f with
  | some (off,_)=>Am P s ps xs (splice cs off x.cells)
  | none=>cs:=by
 conv=>lhs;unfold Am
 unfold partAt;cases bq P s f with
 | some q=>rfl
 | none=>cases qZ P s<;>rfl
theorem ZmH{s:TypeId}{f:Nat}{o:Operand}{ps:List (Nat×Operand)}{x:D}{xs:List D}(h:Cg P s n ((f,o)::ps) (x::xs)):(∃off m,partAt P s f=some (off,m)/\x.cells.length=m/\off+x.cells.length<=n)/\x.cells.all D.one=true/\Cg P s n ps xs:=by
 unfold Cg at h;let⟨J,Y,A⟩:=h;refine⟨?_,Y,A⟩;unfold partAt;cases a:bq P s f with
 | some q=>rw[a]at J;exact⟨_,_,rfl,J.1,J.2⟩
 | none =>
  rw[a]at J;cases c:qZ P s with
  | some q=>rw[c]at J;exact⟨_,_,rfl,J.1,J.2⟩
  | none=>rw[c]at J;exact J.elim
theorem ZaS{s:TypeId}{pl:Nat->Option (Nat×Nat)}(n : ∀f q,partAt P s f=some q->pl f=some q):∀(ps:List (Nat×Operand))(xs:List D)(vs:List Value)(cs:List D)(cells:Array Value)(ρ:Operand->Value),aF w g xs vs->ps.map (λp=>ρ p.2)=vs->aF w g cs cells.toList ->
  Cg P s cs.length ps xs -> ∃r,Instr.fill pl cells (ps.map λ(i,x)=>(i,ρ x))=some r/\aF w g (Am P s ps xs cs) r.toList:=by
 intro ps;induction ps with
 | nil=>intro xs vs cs cells ρ E t j G;exact⟨cells,by simp[Instr.fill],by simpa[Am]using j⟩
 | cons p ps F =>
  intro xs vs cs cells ρ E t j G;let⟨f,o⟩:=p;simp only[X7]at t;subst t;cases xs with
  | nil=>simp[Cg]at G
  | cons x xs =>
   let⟨⟨off,m,a,O,U⟩,Y,A⟩:=ZmH G;let⟨B,W,y⟩:=E.head.cells Y;have u:=n _ _ a;have I:cs.length=cells.size:=by simpa using j.1
   let⟨J,z⟩:=Go.Great.foldl_set off (ρ o).cells.toList 0 cells;generalize h:((ρ o).cells.toList.zipIdx 0).foldl (λcs(x:Value×Nat)=>cs.setIfInBounds (off+x.2) x.1) cells=new at J z;have v:new.toList=cells.toList.take off++(ρ o).cells.toList++cells.toList.drop (off+(ρ o).cells.toList.length):=by
    apply List.ext_getElem?;intro k;rw[Zf,z];simp only[Zx,YR,Array.length_toList,y];have K:(cells.toList.take off).length=off:=by simp;omega
    have L:(ρ o).cells.toList.length=x.cells.length:=by simp[y]
    by_cases X:k<off
    . rw[XV (by omega),Y7 (by omega),Zc,X0 X];simp
    rw[YN (by omega),K];by_cases M:k<off+x.cells.length
    . rw[X0 (by omega),Y7 (by omega)]
    rw[XV (by omega),YN (by omega),Y4,Zf,L];congr 1;omega
   let⟨r,N,c⟩:=F xs (ps.map λp=>ρ p.2) (splice cs off x.cells) new ρ E.tail rfl (by rw[v];exact Zfj j B off) (by rw[NB _ _ _ U];exact A);refine⟨r,?_,by rw[ZmI,a];exact c⟩;simp only[X7];unfold Instr.fill;simp only[u];rw[XV (by simp;omega),<-N];congr 1;rw[<-h,<-Array.foldl_toList,Array.toList_zipIdx]
theorem Zo6{xs:List D}(hr:aF w g xs vs)(j:(Gc P t ps.toList xs).2)(ρ:Operand->Value)(L:ps.toList.map (λp=>ρ p.2)=vs) :
  ∃v,(Instr.build t (ps.map λ(i,x)=>(i,ρ x))).run P w = .ok v w/\ae w g (Gc P t ps.toList xs).1 v:=by
 let⟨M,I,O,c⟩:=j;unfold iK at c;let⟨i,z,hi,V⟩:=Jz O;let⟨N,_,_⟩:=CB hi V w g I;split at c
 case h_3=>cases c
 case h_1 =>
  rename_i B n;let⟨r,u,y⟩:=ZaS (pl:=λx=>(B.toList.map λf=>(f.offset,P.cellsOf f.type)).toArray[x]?) (λf q K=>by
   unfold partAt at K;have A:qZ P t=none:=by unfold qZ;rw[n]
   unfold bq at K;rw[n,A]at K;simp only at K;cases E:B[f]? with
   | none=>rw[E]at K;cases K
   | some R=>rw[E]at K;simp only[YZ,Yj]at K;rw[<-K];simp[E]) ps.toList xs vs (zeroCells P t) z.cells ρ hr L N M
  refine⟨.agg r,run_build (P:=P) w t _ r ?_,.mk_agg y⟩;unfold Program.built;have F:B.toList.mapM (λf=>(P.info? f.type).map λi=>(f.offset,i.size))=some (B.toList.map λf=>(f.offset,P.cellsOf f.type)):=by
   have : ∀l:List Field,(l.all λf=>(P.info? f.type).isSome)=true->l.mapM (λf=>(P.info? f.type).map λi=>(f.offset,i.size))=some (l.map λf=>(f.offset,P.cellsOf f.type)):=by
    intro l;induction l with
    | nil=>intro _;rfl
    | cons a l k =>
     intro h;simp only[List.all_cons,XU]at h;let⟨T,G⟩:=YU.1 h.1;simp[List.mapM_cons,G,k h.2,Program.cellsOf]
   exact this _ c
  simp only[hi,n,V,F];rw[<-u];simp
 case h_2 =>
  rename_i m e n;let⟨ie,o⟩:=YU.1 c;have J:P.cellsOf e=ie.size:=by simp[Program.cellsOf,o]
  let⟨r,u,y⟩:=ZaS (pl:=λi=>some (i*ie.size,ie.size)) (λf q K=>by
   unfold partAt at K;have A:qZ P t=some (m,e):=by unfold qZ;rw[n]
   unfold bq at K;rw[n,A]at K;simp only[Yj]at K;rw[<-K,J]) ps.toList xs vs (zeroCells P t) z.cells ρ hr L N M
  refine⟨.agg r,run_build (P:=P) w t _ r ?_,.mk_agg y⟩;unfold Program.built;simp only[hi,n,V,o];rw[<-u];simp
open Go.MapKept
variable{ρ:Operand->Value}
theorem Hy(e:MapEntry)(l:List MapEntry):(e::l).flatMap (λe=>[e.key,e.val])=e.key::e.val::l.flatMap λe=>[e.key,e.val]:=rfl
theorem Xo : ∀(l:List MapEntry)(j:Nat)(e:MapEntry),l[j]? = some e->(l.flatMap λe=>[e.key,e.val])[2*j]? = some e.key/\(l.flatMap λe=>[e.key,e.val])[2*j+1]? = some e.val
 | [],j,e,h=>by simp at h
 | f::l,j,e,h=>by
  rw[Hy];cases j with
  | zero=>simp at h;subst h;exact⟨rfl,rfl⟩
  | succ j =>
   have:=Xo l j e (by simpa using h);have y:2*(j+1)=2*j+1+1:=by omega
   rw[y];simpa using this
theorem Xn(f:MapEntry->MapEntry):∀(l:List MapEntry)(j:Nat)(e:MapEntry),l[j]? = some e->((l.modify j f).flatMap λe=>[e.key,e.val])=((l.flatMap λe=>[e.key,e.val]).set (2*j) (f e).key).set (2*j+1) (f e).val
 | [],j,e,h=>by simp at h
 | a::l,j,e,h=>by
  cases j with
  | zero=>simp at h;subst h;simp
  | succ j =>
   have:=Xn f l j e (by simpa using h);have y:2*(j+1)=2*j+1+1:=by omega
   rw[y,List.modify_succ_cons,Hy,Hy,this];simp
def O9{a e:TypeId}(h:qx P t=some (a,e)):P.underlying t=some (.map a e):=by
 unfold qx at h;split at h
 . rename_i k c u;simp at h;rw[u,h.1,h.2]
 cases h
def vI{d:D}(h:plainOf P t d=true):(∃k n,P.underlying t=some (.int k)/\d = .v (.int k n))\/(∃b,P.underlying t=some .bool/\d = .v (.bool b)) \/ ∃s,P.underlying t=some .string/\d = .v (.string s):=by
 unfold plainOf at h;split at h
 . rename_i u;exact .inr (.inr ⟨_,u,rfl⟩)
 . rename_i u;simp at h;subst h;exact .inl ⟨_,_,u,rfl⟩
 . rename_i u;exact .inr (.inl ⟨_,u,rfl⟩)
 cases h
theorem Zb9{a b:ByteArray}(h:a.data.toList=b.data.toList):a=b:=by cases a;cases b;simp at h;rw[h]
theorem Za2{a b:D}(m:plainOf P t a=true)(p:plainOf P t b=true)(h:ou a b=true):a=b:=by
 rcases vI m with⟨k,n,f,rfl⟩|⟨x,f,rfl⟩|⟨x,f,rfl⟩<;>rcases vI p with⟨w,g,c,rfl⟩|⟨j,c,rfl⟩|⟨j,c,rfl⟩<;>rw[f]at c<;>simp at c
 . subst c;simp[ou]at h;rw[h]
 . simp[ou]at h;rw[h]
 simp only[ou,YF]at h;rw[Zb9 h]
def Ziq{k:Kd}{a b:D}(hk:kindOf P t=some k)(m:plainOf P t a=true)(p:plainOf P t b=true):Dl k a b=true:=by
 rcases vI m with⟨G,n,h,rfl⟩|⟨x,h,rfl⟩|⟨x,h,rfl⟩<;>rcases vI p with⟨c,g,f,rfl⟩|⟨j,f,rfl⟩|⟨j,f,rfl⟩<;>rw[h]at f<;>simp at f<;>simp[kindOf,h]at hk<;>subst hk
 . subst f;simp[Dl]
 . rfl
 rfl
theorem Za0:∀(B:List Field)(i:Nat)(ks:List Kd)(xs m:List D),Ci P i B=some ks->mJ P i B xs=true->mJ P i B m=true->uq ks xs m=true/\(qQ xs m=true->xs=m):=by
 intro B;induction B with
 | nil =>
  intro i ks xs m X E o;cases xs<;>cases m<;>simp[mJ]at E o;simp[Ci]at X;subst X;exact⟨rfl,λ_=>rfl⟩
 | cons f B c =>
  intro i ks xs m X E o;cases xs with
  | nil=>simp[mJ]at E
  | cons x xs =>
  cases m with
  | nil=>simp[mJ]at o
  | cons y m =>
  simp only[mJ,XU]at E o;simp only[Ci]at X;split at X
  case isFalse=>cases X
  split at X
  case h_2=>cases X
  rename_i k a J Y;simp only[Yj]at X;subst X;let⟨g,j⟩:=c (i+1) a xs m Y E.2 o.2;refine⟨by simp only[uq,XU];exact⟨Ziq J E.1.2 o.1.2,g⟩,λh=>?_⟩;simp only[qQ,XU]at h;rw[Za2 E.1.2 o.1.2 h.1,j h.2]
def zX{d:D}(h:mP P t d=true):(∃B M,P.underlying t=some (.struct B)/\d = .agg M/\mJ P 0 B.toList M=true)\/plainOf P t d=true:=by
 unfold mP at h;split at h
 . rename_i u;exact .inl ⟨_,_,u,rfl,h⟩
 exact .inr h
theorem KE{d:D}{B:Array Field}(u:P.underlying t=some (.struct B)):plainOf P t d=false:=by unfold plainOf;rw[u]
def Xy{a b:D}(j:uh P t=true)(v:mP P t a=true)(p:mP P t b=true)(h:lX a b=true):a=b:=by
 rcases zX v with⟨B,z,r,rfl,g⟩|g
 .
  rcases zX p with⟨u,m,o,rfl,f⟩|f
  .
   rw[r]at o;simp at o;subst o;simp only[uh,r]at j;let⟨ks,c⟩:=YU.1 j;unfold xQ at c;rw[r]at c;simp only at c;split at c
   case isFalse=>cases c
   rw[(Za0 B.toList 0 ks z m c g f).2 h]
  rw[KE r]at f;cases f
 rcases zX p with⟨u,m,o,rfl,f⟩|f
 . rw[KE o]at g;cases g
 refine Za2 g f ?_;rcases vI g with⟨k,n,_,rfl⟩|⟨x,_,rfl⟩|⟨x,_,rfl⟩<;>rcases vI f with⟨w,A,_,rfl⟩|⟨y,_,rfl⟩|⟨y,_,rfl⟩<;>exact h
def Kr{d:D}(h:plainOf P t d=true)(hr:ae w g d v):d = .v v:=by rcases vI h with⟨k,n,_,rfl⟩|⟨x,_,rfl⟩|⟨x,_,rfl⟩<;>rw[hr.v_inv]
theorem UO : ∀{B:List Field}{i:Nat}{ds:List D}{w w':World}{g g':Mem}{vs us:List Value},mJ P i B ds=true->aF w g ds vs->aF w' g' ds us->vs=us
 | B,i,[],w,w',g,g',vs,us,_,J,Y=>by rw[J.of_nil,Y.of_nil]
 | [],i,d::ds,_,_,_,_,_,_,h,_,_=>by simp[mJ]at h
 | f::B,i,d::ds,w,w',g,g',vs,us,h,J,Y=>by obtain⟨x,z,rfl,N,a⟩:=J.of_cons;obtain⟨y,m,rfl,c,j⟩:=Y.of_cons;simp only[mJ,XU]at h;have k:=Kr h.1.2 N;have O:=Kr h.1.2 c;rw[k]at O;cases O;rw[UO h.2 a j]
def Xx{d:D}{u:Value}(h:mP P t d=true)(hv:ae w g d v)(a:ae w' g' d u):v=u:=by
 rcases zX h with⟨B,z,_,rfl,p⟩|p
 .
  cases hv with|agg _ j f r =>
  cases a with|agg _ c k m =>
  have:=UO p (vs:=j.toList) (us:=c.toList) ⟨by simpa using f,λi d x J Y=>r i d x J (by simpa using Y)⟩ ⟨by simpa using k,λi d x J Y=>m i d x J (by simpa using Y)⟩;rw[Array.toList_inj.1 this]
 have y:=Kr p hv;have O:=Kr p a;rw[y]at O;cases O;rfl
def Vs{d:D}(h:plainOf P t d=true)(hr:ae w g d v)(n:Nat):Instr.sameBits n v v=true:=by rcases vI h with⟨k,m,_,rfl⟩|⟨x,_,rfl⟩|⟨x,_,rfl⟩<;>rw[hr.v_inv]<;>simp[Instr.sameBits,bytes_beq]
theorem Zk2{d:D}(h:mP P t d=true)(hr:ae w g d v)(n:Nat):Instr.sameBits (n+1) v v=true:=by
 rcases zX h with⟨B,z,_,rfl,p⟩|p
 .
  cases hr with|agg _ j a r =>
  have O : ∀(B:List Field)(i:Nat)(ds:List D)(j:List Value),mJ P i B ds=true->aF w g ds j -> ∀q∈j.zip j,Instr.sameBits n q.1 q.2=true:=by
   intro B;induction B with
   | nil=>intro i ds j h hr q K;cases ds with
    | nil=>rw[hr.of_nil]at K;simp at K
    | cons=>simp[mJ]at h
   | cons f B k =>
    intro i ds j h hr q K;cases ds with
    | nil=>simp[mJ]at h
    | cons d ds =>
    obtain⟨x,z,rfl,N,c⟩:=hr.of_cons;simp only[mJ,XU]at h;rcases Yl.1 K with rfl|K
    . exact Vs h.1.2 N n
    exact k (i+1) ds z h.2 c q K
  have:=O B.toList 0 z j.toList p ⟨by simpa using a,λi d x J Y=>r i d x J (by simpa using Y)⟩;simp only[Instr.sameBits,beq_self_eq_true,ZE,YA];exact λq K=>this q K
 exact Vs p hr _
def Zb2{d:D}(h:plainOf P t d=true)(hr:ae w g d v)(a:Bool)(n:Nat):(Instr.checkKey a (n+1) t v).run P w = .ok () w:=by rcases vI h with⟨k,m,u,rfl⟩|⟨x,u,rfl⟩|⟨x,u,rfl⟩<;>rw[hr.v_inv]<;>simp[Instr.checkKey,run_underlying u]
def ZiD{d:D}(h:plainOf P t d=true){vs:Array Value}{i:Nat}(hv:vs[i]? = some v):(part t vs i).run P w = .ok v w:=by
 have c : ∃q,P.underlying t=some q/\(q = .bool\/q = .string \/ ∃k,q = .int k):=by
  rcases vI h with⟨k,m,u,rfl⟩|⟨x,u,rfl⟩|⟨x,u,rfl⟩
  . exact⟨_,u,.inr (.inr ⟨_,rfl⟩)⟩
  . exact⟨_,u,.inl rfl⟩
  exact⟨_,u,.inr (.inl rfl)⟩
 let⟨q,u,f⟩:=c;have a:(isAgg t).run P w = .ok false w:=by unfold isAgg;rw[Sem.run_bind,run_underlying u w];rcases f with rfl|rfl|⟨k,rfl⟩<;>simp
 have K:=(Yo.1 hv).1;have e:=(Yo.1 hv).2;unfold part;simp[a,K,e]
theorem Zb3{d:D}(h:mP P t d=true)(hr:ae w g d v)(c:Bool)(n:Nat):(Instr.checkKey c (n+2) t v).run P w = .ok () w:=by
 rcases zX h with⟨B,z,u,rfl,p⟩|p
 .
  cases hr with|agg _ o I r =>
  rw[Instr.checkKey];simp only[Sem.run_bind,run_underlying u,Result.andThen_ok];rw[<-Array.forIn_toList];have O : ∀(L:List Field)(i:Nat)(ds:List D),mJ P i L ds=true->(∀(j:Nat)d,ds[j]? = some d -> ∃v,o[i+j]? = some v/\ae w g d v) ->
    (forIn L PUnit.unit λf _=>do
     if f.name ≠ "_" then
      let q <-part f.type o f.offset
      Instr.checkKey c (n+1) f.type q
      pure (ForInStep.yield PUnit.unit)
     else pure (ForInStep.yield PUnit.unit):Sem PUnit).run P w = .ok PUnit.unit w:=by
   intro L;induction L with
   | nil=>intro i ds _ _;simp
   | cons f L k =>
    intro i ds h m;cases ds with
    | nil=>simp[mJ]at h
    | cons d ds =>
    simp only[mJ,XU,ZN,YF]at h;let⟨⟨⟨J,Y⟩,y⟩,F⟩:=h;let⟨v,x,hr⟩:=m 0 d rfl;have E:=ZiD (w:=w) y (by simpa using x);have G:=Zb2 y hr c n;rw[<-Y]at E;simp only[List.forIn_cons,Sem.run_bind,J,ne_eq,not_false_eq_true,Zm,Result.andThen_ok,E,G,Sem.run_pure];exact k (i+1) ds F λj d A=>by let⟨v,x⟩:=m (j+1) d (by simpa using A);exact⟨v,by rw[Nat.add_assoc,Nat.add_comm 1 j];exact x.1,x.2⟩
  have:=O B.toList 0 z p λj d A=>by
   have K:j<z.length:=(X8.1 A).1;have a:j<o.size:=by omega
   exact⟨o[j],by simp[a],r j d _ A (by simp[a])⟩
  simp at this ⊢;rw[this];rfl
 exact Zb2 p hr c _
def ZmT{a b:D}{A E:Value}(n:uh P t=true)(N:mP P t a=true)(p:mP P t b=true)(O:ae w g a A)(R:ae w g b E)(B : ∃G,P.underlying t=some (.struct G)):(Op.equal t A E).run P w = .ok (lX a b) w:=by
 let⟨G,u⟩:=B;rcases zX N with⟨h,z,o,rfl,r⟩|r
 .
  rcases zX p with⟨T,m,y,rfl,k⟩|k
  .
   rw[o]at y;simp at y;subst y;simp only[uh,o]at n;let⟨ks,c⟩:=YU.1 n;have I:=c;unfold xQ at c;rw[o]at c;simp only at c;split at c
   case isFalse=>cases c
   rename_i j;simp only[XU,Ya]at j;have F:=(Za0 h.toList 0 ks z m c r k).1;cases O with|agg _ K f U =>
   cases R with|agg _ L v V =>
   have M:P.fieldsOf t=h:=by simp[Program.fieldsOf,o]
   have J:=run_equalIn_agg (P:=P) w 9999 t K L (by rw[M];exact o) j.1;have Y:=Za1 (P:=P) h.toList 0 ks K.toList L.toList z m w g 9998 c (by simpa using F) ⟨by simpa using f,λi d x J Y=>U i d x J (by simpa using Y)⟩ ⟨by simpa using v,λi d x J Y=>V i d x J (by simpa using Y)⟩;rw[M]at J;simp only[Array.toArray_toList,X4]at Y;exact J.trans Y
  rw[KE u]at k;cases k
 rw[KE u]at r;cases r
def ZgT{a b:D}{j o:Value}{q:TypeDesc}(u:P.underlying t=some q)(m:plainOf P t a=true)(p:plainOf P t b=true)(r:ae w g a j)(v:ae w g b o):Instr.sameNow q j o=some (lX a b):=by
 rcases vI m with⟨k,n,f,rfl⟩|⟨x,f,rfl⟩|⟨x,f,rfl⟩<;>rcases vI p with⟨z,A,c,rfl⟩|⟨y,c,rfl⟩|⟨y,c,rfl⟩<;>rw[f]at c u<;>simp at c u<;>rw[r.v_inv,v.v_inv]<;>subst u
 . subst c;simp[Instr.sameNow,lX,ou]
 . simp[Instr.sameNow,lX,ou]
 simp only[Instr.sameNow,lX,ou,Yj];rw[YD,bytes_beq,YF];exact⟨λh=>by rw[h],Zb9⟩
def Found(a:List D)(l:List MapEntry)(q:D)(c:Nat)(f:Value)(r:Option (Nat×Value)):Prop :=
 (r=none/\iZ a q=none /\ ∀x,ib a q x=a++[q,x]) \/
 ∃j e d,r=some (c+j,e.val)/\l[j]? = some e/\iZ a q=some d/\a[2*j+1]? = some d/\e.key=f /\ ∀x,ib a q x=(a.set (2*j) q).set (2*j+1) x
def ZaH{k d q:D}{a:List D}{e:MapEntry}{l:List MapEntry}{f:Value}{r:Option (Nat×Value)}(N:lX q k=false)(h:Found a l q (c+1) f r):Found (k::d::a) (e::l) q c f r:=by
 rcases h with⟨J,Y,A⟩|⟨j,g,u,J,Y,A,m,U,W⟩
 . exact .inl ⟨J,by simp[iZ,N,Y],λx=>by simp[ib,N,A]⟩
 refine .inr ⟨j+1,g,u,by rw[J];congr 2;omega,by simpa using Y,by simp[iZ,N,A],?_,U,λx=>?_⟩
 .
  have:2*(j+1)+1=(2*j+1)+2:=by omega
  rw[this];simpa using m
 have y:2*(j+1)=2*j+1+1:=by omega
 simp only[ib,N,W,y,YC];simp
def ZaG{k d q:D}{f:List D}{e:MapEntry}{l:List MapEntry}{a:Nat}{c:Value}(J:lX q k=true)(hk:e.key=c):Found (k::d::f) (e::l) q a c (some (a,e.val)) :=
 .inr ⟨0,e,d,rfl,rfl,by simp[iZ,J],rfl,hk,λx=>by simp[ib,J]⟩
theorem ZaP [Glob P]{t:TypeId}{w:World}{g:Mem}{q:D}{vq:Value}{q0:TypeDesc}(hu:P.underlying t=some q0)(hty:uh P t=true)(hq:mP P t q=true)(rq:ae w g q vq){kv:List D}{es:Array MapEntry}(hr:aF w g kv (qz es))(hks:jl P t kv=true) :
  ∃r,(Instr.findKey t vq es.toList).run P w = .ok r w/\Found kv es.toList q 0 vq r:=by
 unfold qz at hr
 by_cases hst : ∃fs,P.underlying t=some (.struct fs)
 .
  rw[run_findKey_eq w (by obtain⟨fs,h⟩:=hst;rw[h])]
  have key : ∀(l:List MapEntry)(kv:List D)(i0:Nat),aF w g kv (l.flatMap λe=>[e.key,e.val])->jl P t kv=true -> ∃r,(Instr.findAsking t vq l i0).run P w = .ok r w/\Found kv l q i0 vq r:=by
   intro l
   induction l with
   | nil =>
    intro kv i0 hr hks;have:kv=[]:=Yb (by simpa using hr.1)
    subst this;exact⟨none,by simp[Instr.findAsking],.inl ⟨rfl,rfl,λx=>rfl⟩⟩
   | cons e l ih =>
    intro kv i0 hr hks;rw[Hy]at hr
    match kv,hr,hks with
    | [],hr,_=>exact absurd hr.1 (by simp)
    | [_],hr,_=>exact absurd hr.1 (by simp)
    | k::d::kv,hr,hks =>
     simp only[jl,XU]at hks;have he:=ZmT hty hq hks.1 rq hr.head hst
     cases hc:lX q k with
     | true =>
      rw[hc]at he;have hqk:=Xy hty hq hks.1 hc;subst hqk;exact⟨some (i0,e.val),by simp[Instr.findAsking,he],ZaG hc (Xx hq hr.head rq)⟩
     | false =>
      rw[hc]at he;obtain⟨r,h1,h2⟩:=ih kv (i0+1) hr.tail.tail hks.2;exact⟨r,by simp[Instr.findAsking,he,h1],ZaH hc h2⟩
  exact key es.toList kv 0 hr hks
 have hp : ∀{d:D},mP P t d=true->plainOf P t d=true:=by
  intro d hd
  rcases zX hd with⟨fs,_,u,_⟩|h
  . exact absurd ⟨fs,u⟩ hst
  exact h
 have key : ∀(l:List MapEntry)(kv:List D)(i0:Nat),aF w g kv (l.flatMap λe=>[e.key,e.val])->jl P t kv=true -> ∃r,Instr.findNow q0 vq l i0=some r/\Found kv l q i0 vq r:=by
  intro l
  induction l with
  | nil =>
   intro kv i0 hr hks;have:kv=[]:=Yb (by simpa using hr.1)
   subst this;exact⟨none,by simp[Instr.findNow],.inl ⟨rfl,rfl,λx=>rfl⟩⟩
  | cons e l ih =>
   intro kv i0 hr hks;rw[Hy]at hr
   match kv,hr,hks with
   | [],hr,_=>exact absurd hr.1 (by simp)
   | [_],hr,_=>exact absurd hr.1 (by simp)
   | k::d::kv,hr,hks =>
    simp only[jl,XU]at hks;have he:=ZgT hu (hp hq) (hp hks.1) rq hr.head
    cases hc:lX q k with
    | true =>
     rw[hc]at he;have hqk:=Xy hty hq hks.1 hc;subst hqk;exact⟨some (i0,e.val),by simp[Instr.findNow,he],ZaG hc (Xx hq hr.head rq)⟩
    | false =>
     rw[hc]at he;obtain⟨r,h1,h2⟩:=ih kv (i0+1) hr.tail.tail hks.2;exact⟨r,by simp[Instr.findNow,he,h1],ZaH hc h2⟩
 obtain⟨r,h1,h2⟩:=key es.toList kv 0 hr hks
 exact⟨r,run_findKey hu h1,h2⟩
theorem Zk0{a:List D}(h:rZ bl=some a):bl.rows=gZ a:=by
 unfold rZ at h;split at h
 . rename_i e;cases h;exact e
 cases h
def O8(t:HM P h g w)(hv:ae w g (.mp r) v)(hr:h r=some bl){m:List D}(hk:rZ bl=some m) :
  ∃b a f,v = .map (some b)/\w.heap[b]? = some (.map a f)/\aF w g m (qz a)/\g.M r=some (some b,maxLen+1,P.cellsOf bl.ty) /\ ¬g.I b/\P.cellsOf bl.ty=1:=by
 let⟨G,c,J,B,A,F,U⟩:=t.blk r bl hr;cases hv with|mp _ _ E Z hv =>
 obtain⟨j,b,rfl,rfl⟩:=hv _ _ _ J;rcases U with⟨U,_⟩|⟨I,L,U,x,K,Y,n⟩
 . cases U
 cases U;obtain⟨a,f,y,rfl⟩:=x.map j;rw[Holds,Zk0 hk]at n;let⟨z,q⟩:=n 0 _ rfl;refine⟨b,a,f,rfl,y,?_,j▸J,Y,z.symm⟩;let⟨u,o,_,k⟩:=q 0 _ rfl;simp at o;subst o;cases k with|iface _ _ _ k =>
 let⟨M,O,p⟩:=k.tuple_inv;simp at O;rw[<-O]at p;simpa using p
def Zj5{h:List D}(hv:ae w g (.fmap h) v):∃b a c,v = .map (some b)/\w.heap[b]? = some (.map a c)/\aF w g h (qz a):=by cases hv with|fmap _ b a c j p f O=>exact⟨b,a,c,rfl,p,f,O⟩
theorem Zkc(hm:HM P h g w){ok:Bool}{m k:D}{vm N:Value}(T:ae w g m vm)(U:ae w g k N)(F:(tZ P t ok m k h).2) :
  ∃v,(Instr.lookup t vm N ok).run P w = .ok v w/\ae w g (tZ P t ok m k h).1 v:=by
 unfold tZ at F ⊢;split at F
 case h_2=>exact F.elim
 rename_i Z e kv n X;let⟨c1,I,a,c⟩:=F;have u:=O9 n;have x : ∃b f G,vm = .map (some b)/\w.heap[b]? = some (.map f G)/\aF w g kv (qz f):=by
  unfold zW at X;split at X
  .
   rename_i r;cases O:h r with
   | none=>rw[O]at X;cases X
   | some R =>
    rw[O]at X;let⟨b,f,G,B,W,q3,_⟩:=O8 hm T O X;exact⟨b,f,G,B,W,q3⟩
  . cases X;exact Zj5 T
  cases X
 obtain⟨b,f,G,rfl,p,O⟩:=x;have o : ∃q0,P.underlying Z=some q0:=by
  unfold uh at a;cases K:P.underlying Z with
  | none=>rw[K]at a;cases a
  | some q=>exact⟨q,rfl⟩
 let⟨q0,o⟩:=o;let⟨r,J,Y⟩:=ZaP o a c1 U O I;have y:=Zb3 c1 U f.isEmpty 9998 (w:=w);let⟨z,V⟩:=YU.1 c;rcases Y with⟨rfl,L,_⟩|⟨j,A,d,rfl,g0,L,g2,_,_⟩
 .
  have eU:(zeroValue e).run P w = .ok z w:=by
   cases hi:P.info? e with
   | none=>rw[hi]at V;cases V
   | some i =>
    rw[hi]at V;simp at V;simp[zeroValue,typeInfo,hi,V]
  have M:zh P e=qm z:=by unfold zh;rw[V]
  refine⟨if ok then .tuple #[z,.bool false]else z,?_,?_⟩
  . cases ok<;>simp[Instr.lookup,run_underlying u,MapKept.run_getObj_map p,y,J,eU]
  rw[L,M];cases ok with
  | false=>exact KQ w g z
  | true=>exact .mk_tuple (.cons (KQ w g z) (.cons (.v _) .nil))
 have E:ae w g d A.val:=by refine O.2 (2*j+1) d A.val g2 ?_;unfold qz;exact Xo f.toList j A g0 |>.2
 refine⟨if ok then .tuple #[A.val,.bool true]else A.val,?_,?_⟩
 . cases ok<;>simp[Instr.lookup,run_underlying u,MapKept.run_getObj_map p,y,J]
 rw[L];cases ok with
 | false=>exact E
 | true=>exact .mk_tuple (.cons E (.cons (.v _) .nil))
theorem Sr(v:HM P h g w){m k x:D}{vm G V:Value}(rm:ae w g m vm)(T:ae w g k G)(rx:ae w g x V)(F:(vD P t m k x h).2) :
  ∃g' w',(Instr.mapUpdate t vm G V).run P w = .ok () w'/\HM P (vD P t m k x h).1 g' w'/\ay g g' w w' /\ ∀r,g'.U r->g.U r:=by
 unfold vD at F ⊢;split at F
 case h_2=>exact F.elim
 rename_i kt e r n;cases O:h r with
 | none=>rw[O]at F;exact F.elim
 | some R =>
 rw[O]at F;simp only at F ⊢;cases X:rZ R with
 | none=>rw[X]at F;exact F.elim
 | some kv =>
 rw[X]at F;simp only at F ⊢;let⟨c1,I,a⟩:=F;have u:=O9 n;have Z:g.U r:=by cases rm with|mp _ _ _ Z _=>exact Z
 obtain⟨b,es,fZ,rfl,p,z,hM,ac,E⟩:=O8 v rm O X;have L : ∃q0,P.underlying kt=some q0:=by
  unfold uh at a;cases K:P.underlying kt with
  | none=>rw[K]at a;cases a
  | some q=>exact⟨q,rfl⟩
 let⟨q0,L⟩:=L;let⟨f,J,h2⟩:=ZaP L a c1 T z I;have U:=Zb3 c1 T false 9998 (w:=w);have fin : ∀(o:Array MapEntry)(c:Nat),aF w g (ib kv k x) (qz o) -> ∃g',HM P (upd h r (some ⟨R.ty,gZ (ib kv k x)⟩)) g' { w with heap:=w.heap.setIfInBounds b (.map o c) }/\ay g g' w { w with heap:=w.heap.setIfInBounds b (.map o c) } /\ ∀r,g'.U r->g.U r:=by
  intro o c M;have hh:=heap_set (o':=.map o c) p;let⟨g',q1,W,q3,q4,q5⟩:=v.putB (h':=upd h r (some ⟨R.ty,gZ (ib kv k x)⟩)) (w':={ w with heap:=w.heap.setIfInBounds b (.map o c) }) r b (maxLen+1) ⟨R.ty,gZ (ib kv k x)⟩ #[.iface 0 (.tuple (qz o).toArray)]
   (.inr hM) (bI _ _ _) (λr' N=>.inl (aI _ _ _ _ N)) (.inr ⟨r,_,_,hM,.inl rfl⟩) (.inr ⟨rfl,o,c,hh.1,rfl⟩) (λh=>by omega) (by rw[E];omega) (by simp[gZ]) (XW _)
   (by
    intro i row hi;cases i with
    | succ i=>simp[gZ]at hi
    | zero =>
     simp only[gZ,List.getElem?_cons_zero,Yj]at hi;subst hi;refine⟨E.symm,λj d hd=>?_⟩;cases j with
     | succ j=>simp at hd
     | zero =>
      simp only[List.getElem?_cons_zero,Yj]at hd;subst hd;exact⟨.iface 0 (.tuple (qz o).toArray),by simp,by simp[Value.oneCell',Value.cells],.iface 0 _ _ (.mk_tuple (by simpa using M))⟩)
   ⟨rfl,rfl,rfl,by simp,λk' _ ab=>hh.2 k' (λe=>ab (by rw[e]))⟩
  refine⟨g',q4,q5,λr' N=>?_⟩;rcases(W r').1 N with h|h
  . exact h
  exact h▸Z
 rcases h2 with⟨rfl,g1,g2⟩|⟨j,e',d,rfl,g0,g1,g2,g3,g4⟩
 .
  let⟨g',f1,f2,f3⟩:=fin (es.push { key:=G,val:=V,born:=fZ }) (fZ+1) (by
   rw[g2];unfold qz;rw[Array.toList_push,List.flatMap_append];exact z.append (.cons T (.cons rx .nil)))
  refine⟨g',_,?_,f1,f2,f3⟩;simp[Instr.mapUpdate,run_underlying u,MapKept.run_getObj_map p,U,J,run_setObj_map _ p]
 let⟨g',f1,f2,f3⟩:=fin (es.modify j λe=>{ e with key:=G,val:=V }) fZ (by
  rw[g4];unfold qz;rw[Array.toList_modify,Xn _ _ _ _ g0];refine⟨by rw[Z8,Z8,Z8,Z8];exact z.1,λi d' y A Y=>?_⟩;by_cases e1:i=2*j+1
  . subst e1;rw[ZX (by have:=(X8.1 A).1;simpa using this)]at A;rw[ZX (by have:=(X8.1 Y).1;simpa using this)]at Y;cases A;cases Y;exact rx
  rw[List.getElem?_set_ne (Ne.symm e1)]at A Y;by_cases e2:i=2*j
  . subst e2;rw[ZX (by have:=(X8.1 A).1;simpa using this)]at A;rw[ZX (by have:=(X8.1 Y).1;simpa using this)]at Y;cases A;cases Y;exact T
  rw[List.getElem?_set_ne (Ne.symm e2)]at A Y;exact z.2 i d' y A Y)
 refine⟨g',_,?_,f1,f2,f3⟩;have hj:es[j]? = some e':=by simpa using g0
 have B:(Instr.keyThatStays G G).run P w = .ok G w:=by simp[Instr.keyThatStays,Zk2 c1 T 9999]
 simp[Instr.mapUpdate,run_underlying u,MapKept.run_getObj_map p,U,J,hj,g3,B,run_setObj_map _ p]
def WO{z:Array Value}{i:Nat}(hi:i<n)(A:j<z.size):(madeCells z (n*z.size))[i*z.size+j]? = some z[j]:=by
 unfold madeCells;have K:i*z.size+j<n*z.size:=by have:(i+1)*z.size<=n*z.size:=Y9 _ hi;rw[Zn,Nat.one_mul]at this;omega
 have e:(i*z.size+j) % z.size=j:=by rw[ZF,Z0,ZC A]
 simp[K,e,A]
theorem ZjU(hm:HM P h g w){b:Nat}(hb : ¬g.U b){x y:D}{R T:Value}(rx:ae w g x R)(ry:ae w g y T)(f:(rW P t h b x y).2.2) :
  ∃v g' w',(Instr.makeSlice t R T).run P w = .ok v w'/\ae w' g' (rW P t h b x y).1 v/\HM P (rW P t h b x y).2.1 g' w'/\ay g g' w w' /\ ∀r,g'.U r->g.U r\/r=b:=by
 unfold rW at f ⊢;split at f
 case h_2=>exact f.elim
 rename_i k n k' m;cases J:bS P t with
 | none=>rw[J]at f;exact f.elim
 | some e =>
 rw[J]at f;simp only at f ⊢;let⟨c0,c1,I,a,c4,c5,c6,X⟩:=f;have ht:=yX J;let⟨i,hi,N⟩:=yL X;let⟨i',z,u,V⟩:=Jz (P:=P) (t:=e) om;rw[hi]at u;cases u;let⟨z1,z2,z3⟩:=CB hi V w g c6;have K:(i.bytes:Int)*m<=281474976710656:=by
  have:P.bytesOf e=i.bytes:=by simp[Program.bytesOf,hi]
  rw[<-this];exact I
 have U:=run_make (P:=P) w t e i z ht hi V k k' n m c1 c0 K a;rw[rx.v_inv,ry.v_inv];have o:z.cells.size=P.cellsOf e:=by omega
 rw[N,<-o]at U;let⟨g',Y,A,h4,h5,W⟩:=hm.put (h':=upd h b (some ⟨e,List.replicate n.toNat (zeroCells P e)⟩)) (w':=w.alloc (.cells (madeCells z.cells (m.toNat*z.cells.size)) e)) b w.heap.size m.toNat ⟨e,List.replicate n.toNat (zeroCells P e)⟩ (madeCells z.cells (m.toNat*z.cells.size)) (.inl hb) (bI _ _ _)
  (λr O=>.inl (aI _ _ _ _ O)) (.inl (XW _)) (heap_alloc_new w _) (by rw[size_madeCells,o]) X (by simp;omega) o2V
  (by
   intro p row F;have L:p<n.toNat:=by have:=(X8.1 F).1;simpa using this
   rw[List.getElem?_replicate,X0 L]at F;cases F;refine⟨c5,λj d Z=>?_⟩;have B:j<z.cells.size:=by have:=(X8.1 Z).1;omega
   refine⟨z.cells[j],?_,z2 _ (by simp),z1.2 j d _ Z (by simp[B])⟩;show(madeCells z.cells (m.toNat*z.cells.size))[p*P.cellsOf e+j]? = _;rw[<-o];exact WO om B)
  (World.grownBy_alloc w _ _)
 refine⟨_,g',_,U,?_,h5,W,λr O=>(A r).1 O⟩;refine .mrow b 0 n.toNat _ ⟨_,_,rfl,om,λ_=>⟨_,rfl⟩⟩ ((A b).2 (.inr rfl)) λG c sz J=>?_;rw[Y]at J;simp only[Yj,YL]at J;obtain⟨rfl,rfl,rfl⟩:=J;refine⟨⟨om,by simp only[maxLen];omega⟩,?_⟩;by_cases E:m.toNat=0
 .
  have M:n.toNat=0:=by omega
  rw[E,M];exact .inl ⟨rfl,_,rfl⟩
 exact .inr ⟨E,w.heap.size,rfl,by simp⟩
theorem Zj9(x:HM P h g w){b:Nat}(p : ¬g.U b){xs:List D}{ro:Option Operand}(hr:aF w g xs (ro.toList.map ρ))(f:(DF P t xs h b).2.2) :
  ∃v g' w',(Instr.makeMap t (ro.map ρ)).run P w = .ok v w'/\ae w' g' (DF P t xs h b).1 v/\HM P (DF P t xs h b).2.1 g' w'/\ay g g' w w' /\ ∀r,g'.U r->g.U r\/r=b:=by
 unfold DF at f ⊢;let⟨y,I,a⟩:=f;let⟨⟨F,e⟩,z⟩:=YU.1 y;have u:=O9 z;let⟨g',B,W,K,A,E⟩:=x.putB (h':=upd h b (some ⟨t,gZ []⟩)) (w':=w.alloc (.map #[] 0)) b w.heap.size (maxLen+1) ⟨t,gZ []⟩ #[.iface 0 (.tuple #[])]
  (.inl p) (bI _ _ _) (λr hr=>.inl (aI _ _ _ _ hr)) (.inl (XW _)) (.inr ⟨rfl,#[],0,(heap_alloc w _).1,rfl⟩) (λh=>by omega) (by show 0<P.cellsOf t;omega) (by simp[gZ]) (XW _)
  (by
   intro i row hi;cases i with
   | succ i=>simp[gZ]at hi
   | zero =>
    simp only[gZ,List.getElem?_cons_zero,Yj]at hi;subst hi;refine⟨I.symm,λj d m=>?_⟩;cases j with
    | succ j=>simp at m
    | zero =>
     simp only[List.getElem?_cons_zero,Yj]at m;subst m;exact⟨.iface 0 (.tuple #[]),by simp,by simp[Value.oneCell',Value.cells],.iface 0 _ _ (.mk_tuple (vs:=#[]) .nil)⟩)
  (World.grownBy_alloc w _ _)
 refine⟨.map (some w.heap.size),g',w.alloc (.map #[] 0),?_,?_,A,E,λr hr=>(W r).1 hr⟩
 .
  cases ro with
  | none=>simp[Instr.makeMap]
  | some o =>
   simp only[Option.toList_some,X7,Yy]at hr
   match xs,hr,a with
   | [],hr,_=>exact absurd hr.1 (by simp)
   | [.v (.int k n)],hr,_ =>
    rw[YZ,hr.head.v_inv];simp[Instr.makeMap,run_underlying u,asInt,asIntOf]
 refine .mp b _ ⟨_,rfl⟩ ((W b).2 (.inr rfl)) λG c L J=>?_;rw[B]at J;simp only[Yj,YL]at J;exact⟨J.2.1.symm,_,J.1.symm,rfl⟩
variable{C:aO}{W:cu}{o:Oper}
def D6:Op->Bool
 | .call { callee:=.value _,.. }=>true
 | _=>false
theorem OH{xs:List D}{l:Option Operand}{rest:List Operand}(h:aF w g xs ((l.toList++rest).map ρ)) :
  Gl w g (kQ l xs).1 (l.map ρ)/\aF w g (kQ l xs).2 (rest.map ρ):=by
 cases l with
 | none=>exact⟨trivial,by simpa[kQ]using h⟩
 | some x =>
  simp only[Option.toList_some,List.singleton_append,X7]at h;cases xs with
  | nil=>exact absurd h.1 (by simp)
  | cons d ds=>exact⟨h.head,h.tail⟩
theorem ZmW(k:HM P h g w){b:Nat}(hb : ¬g.U b){xs:List D}(hr:aF w g xs ((aU o.op).map ρ))(R:D6 o.op=false)(j:(bz P W C o.op xs h b).2.2) :
  Does P g w b ((execOp ρ o).run P w) (bz P W C o.op xs h b).1 (bz P W C o.op xs h b).2.1:=by
 obtain⟨am,op,ty,pos,after,ac⟩:=o;simp only at hr R j ⊢;unfold bz at j ⊢;split at j
 . obtain⟨v,l,e,J,Y⟩:=hr.of_cons;simp only[aU,X7,Yy,Y0]at e;obtain⟨rfl,_⟩:=e;exact Does.still (s:=pure _) k (by simp) J
 . obtain⟨v,l,e,J,Y⟩:=hr.of_cons;simp only[aU,X7,Yy,Y0]at e;obtain⟨rfl,_⟩:=e;exact Does.still (s:=pure _) k (by simp) J
 . rename_i e;obtain⟨c1,I,a⟩:=j;obtain⟨i,z,hi,V⟩:=Jz (P:=P) (t:=e) om;obtain⟨z1,z2,z3⟩:=CB hi V w g I;obtain⟨L,G,c,F,N⟩:=Wu k hb (e:=e) z1 z2 c1 om;refine⟨_,L,_,.inl ?_,G,c,F,N⟩;simp[execOp,Instr.alloc,zeroValue,typeInfo,hi,V,newVar,newRow]
 . rename_i e x d;obtain⟨v,l,y,J,Y⟩:=hr.of_cons;simp only[aU,X7,Yy,Y0]at y;obtain⟨rfl,_⟩:=y;obtain⟨c1,I,a⟩:=j;obtain⟨z1,z2,z3⟩:=J.cells I;obtain⟨L,G,c,F,N⟩:=Wu k hb (e:=e) z1 z2 c1 a;refine⟨_,L,_,.inl ?_,G,c,F,N⟩;simp[execOp,Instr.box,newVar,newRow]
 . rename_i t X;obtain⟨v,J,Y⟩:=Zo6 (P:=P) (ps:=X) hr j ρ (by simp[aU]);exact Does.still k J Y
 .
  rename_i t n X;cases ab:C.bs with
  | false =>
   simp only[ab,Yn,Y8]at j ⊢;obtain⟨v,L,T,J,Y,A,K,U⟩:=Zo7 (P:=P) k (ps:=X) hr j ρ (by simp[aU]);exact⟨v,L,T,.inl (by simp[execOp,J]),Y,A,K,λr hr=>.inl (U r hr)⟩
  | true =>
   simp only[ab,Zm]at j ⊢;obtain⟨v,L,T,J,Y,A,K,U⟩:=Zo9 (P:=P) k hb (ps:=X) hr j ρ (by simp[aU]);exact⟨v,L,T,.inl (by simp[execOp,J]),Y,A,K,U⟩
 . obtain⟨v,l,y,J,Y⟩:=hr.of_cons;simp only[aU,X7,Yy,Y0]at y;obtain⟨rfl,_⟩:=y;obtain⟨v,G,c⟩:=Zki k J j;exact Does.still k G c
 . obtain⟨v,l,y,J,Y⟩:=hr.of_cons;simp only[aU,X7,Yy,Y0]at y;obtain⟨rfl,rfl⟩:=y;obtain⟨L,T,G,c,F,N⟩:=Ti k J Y.head j;exact⟨undef,L,T,.inr ⟨by simp[execOp,G],rfl⟩,.v _,c,F,λr hr=>.inl (N r hr)⟩
 . obtain⟨v,l,y,J,Y⟩:=hr.of_cons;simp only[aU,X7,Yy,Y0]at y;obtain⟨y,_⟩:=y;obtain⟨p,O,_⟩:=Om J j 0;refine⟨v,g,w,.inl ?_,J,k,ay.refl _ _,λ_ h=>.inl h⟩;simp[execOp,y,O]
 . obtain⟨v,l,y,J,Y⟩:=hr.of_cons;simp only[aU,X7,Yy,Y0]at y;obtain⟨rfl,rfl⟩:=y;obtain⟨v,G,c⟩:=Zpc J Y.head j _ _;exact Does.still k G c
 . obtain⟨v,l,y,J,Y⟩:=hr.of_cons;simp only[aU,X7,Yy,Y0]at y;obtain⟨rfl,_⟩:=y;obtain⟨v,G,c⟩:=ZdH J j;exact Does.still k G c
 . obtain⟨v,l,y,J,Y⟩:=hr.of_cons;simp only[aU,X7,Yy,Y0]at y;obtain⟨rfl,_⟩:=y;obtain⟨v,G,c⟩:=Zow J j;exact Does.still k G c
 .
  rename_i f first E
  simp only[aU,Yv]at hr;have B:=hr.take first.size
  have q2:=hr.drop first.size
  have l1:(first.toList.map ρ).length=first.size:=by simp
  rw[List.take_left' l1]at B;rw[List.drop_left' l1]at q2;refine Does.still (s:=Instr.makeFunc f (first.map ρ) (E.map ρ)) k (v:=.func f (first.map ρ) (E.map ρ)) (by simp[Instr.makeFunc]) ?_;exact .fn f _ _ _ _ (by have:=B.1;simp at this ⊢;exact this) (by have:=q2.1;simp at this ⊢;exact this) (λi d x J Y=>B.2 i d x J (by simpa using Y)) (λi d x J Y=>q2.2 i d x J (by simpa using Y))
 . rename_i t x l hi m d ds;obtain⟨v,l',y,J,Y⟩:=hr.of_cons;simp only[aU,X7,Y0]at y;obtain⟨rfl,rfl⟩:=y;rw[YR]at Y;obtain⟨G,A⟩:=OH Y;obtain⟨c,K⟩:=OH A;rw[<-YH m.toList]at K;obtain⟨F,_⟩:=OH K;obtain⟨v,B,q2⟩:=ZfC k J G c F j;exact Does.still k B q2
 . obtain⟨v,l,y,J,Y⟩:=hr.of_cons;simp only[aU,X7,Yy,Y0]at y;obtain⟨rfl,_⟩:=y;obtain⟨v,G,c⟩:=ZmK J j;exact Does.still k G c
 . obtain⟨v,l,y,J,Y⟩:=hr.of_cons;simp only[aU,X7,Yy,Y0]at y;obtain⟨rfl,_⟩:=y;obtain⟨v,G,c⟩:=ZmJ J j;exact Does.still k G c
 . obtain⟨v,l,y,J,Y⟩:=hr.of_cons;simp only[aU,X7,Yy,Y0]at y;obtain⟨rfl,rfl⟩:=y;obtain⟨v,G,c⟩:=ZlO k J Y.head j;exact Does.still k G c
 . obtain⟨v,l,y,J,Y⟩:=hr.of_cons;simp only[aU,X7,Yy,Y0]at y;obtain⟨rfl,rfl⟩:=y;obtain⟨v,G,c⟩:=ZlN (P:=P) J Y.head j;exact Does.still k G c
 . obtain⟨v,l,y,J,Y⟩:=hr.of_cons;simp only[aU,X7,Yy,Y0]at y;obtain⟨rfl,rfl⟩:=y;obtain⟨v,L,T,G,c,F,N,k5⟩:=ZjU (P:=P) k hb J Y.head j;exact⟨v,L,T,.inl (by simp[execOp,G]),c,F,N,k5⟩
 . rename_i t r;obtain⟨v,L,T,J,Y,A,K,U⟩:=Zj9 (P:=P) k hb (ro:=r) hr j;exact⟨v,L,T,.inl (by simp[execOp,J]),Y,A,K,U⟩
 . obtain⟨v,l,y,J,Y⟩:=hr.of_cons;obtain⟨v2,l2,O,A,K⟩:=Y.of_cons;simp only[aU,X7,Yy,Y0]at y;obtain⟨rfl,y⟩:=y;rw[O]at y;simp only[Y0]at y;obtain⟨rfl,rfl⟩:=y;obtain⟨L,T,G,c,F,N⟩:=Sr k J A K.head j;exact⟨undef,L,T,.inr ⟨by simp[execOp,G],rfl⟩,.v _,c,F,λr hr=>.inl (N r hr)⟩
 . obtain⟨v,l,y,J,Y⟩:=hr.of_cons;obtain⟨v2,l2,O,A,K⟩:=Y.of_cons;simp only[aU,X7,Yy,Y0]at y;obtain⟨rfl,y⟩:=y;rw[O]at y;simp only[Y0]at y;obtain⟨rfl,rfl⟩:=y;obtain⟨L,T,G,c,F,N⟩:=Sr k J A K.head j;exact⟨undef,L,T,.inr ⟨by simp[execOp,G],rfl⟩,.v _,c,F,λr hr=>.inl (N r hr)⟩
 . obtain⟨v,l,y,J,Y⟩:=hr.of_cons;simp only[aU,X7,Yy,Y0]at y;obtain⟨rfl,rfl⟩:=y;obtain⟨v,G,c⟩:=Zkc k J Y.head j;exact Does.still k G c
 .
  rename_i i ds;obtain⟨v,l,y,J,Y⟩:=hr.of_cons;simp only[aU,X7,Yy,Y0]at y;obtain⟨y,_⟩:=y;obtain⟨vs,rfl,A⟩:=J.tuple_inv;have hl:i<vs.size:=by have:=A.1;simp at this;omega
  refine⟨vs[i],g,w,.inl ?_,?_,k,ay.refl _ _,λ_ h=>.inl h⟩
  . simp[execOp,y,Instr.extract,hl]
  exact A.2 i _ _ (by simp[List.getD,Yi j]) (by simp[hl])
 .
  rename_i M argTypes d;obtain⟨v,l,y,J,Y⟩:=hr.of_cons;simp only[aU]at y;rw[Y.of_nil]at y;split at j
  case h_2=>exact j.elim
  rename_i t ht;have Z:argTypes = #[t]:=by apply Zr;simpa using ht
  have ea:M.map ρ = #[v]:=by apply Zr;simpa using y
  subst Z;refine⟨_,g,w,.inl ?_,.v _,k,ay.refl _ _,λ_ h=>.inl h⟩;have:=Zkv (ty:=ty) J j;simp[execOp,resolve,invoke,builtin,ea,this]
 .
  rename_i M argTypes d d';obtain⟨v,l,y,J,Y⟩:=hr.of_cons;obtain⟨v',l',O,A,K⟩:=Y.of_cons;simp only[aU]at y;rw[O,K.of_nil]at y;split at j
  case h_2=>exact j.elim
  rename_i t u ht;have Z:argTypes = #[t,u]:=by apply Zr;simpa using ht
  have ea:M.map ρ = #[v,v']:=by apply Zr;simpa using y
  subst Z;obtain⟨x,L,T,G,c,F,N,k5⟩:=Zcq k hb J A j ty;refine⟨x,L,T,.inl ?_,c,F,N,k5⟩;simp[execOp,resolve,invoke,builtin,ea,G]
 .
  rename_i M argTypes;simp only[aU]at hr;obtain⟨v,G,c⟩:=ZjW (P:=P) hr j argTypes ty;refine⟨v,g,w,.inl ?_,c,k,ay.refl _ _,λ_ h=>.inl h⟩;have ea:(M.toList.map ρ).toArray=M.map ρ:=by apply Zr;simp
  rw[ea]at G;simp[execOp,resolve,invoke,builtin,G]
 .
  rename_i M argTypes;simp only[aU]at hr;obtain⟨v,G,c⟩:=Zj2 (P:=P) hr j argTypes ty;refine⟨v,g,w,.inl ?_,c,k,ay.refl _ _,λ_ h=>.inl h⟩;have ea:(M.toList.map ρ).toArray=M.map ρ:=by apply Zr;simp
  rw[ea]at G;simp[execOp,resolve,invoke,builtin,G]
 . simp[D6]at R
 exact j.elim
theorem Ziz(E:HM P h g w){b:Nat}{xs:List D}(hr:aF w g xs ((aU o.op).map ρ))(hp:fC o.op=true){u:Bool}(M:u=true)(j:(KF u xs).2) :
  Does P g w b ((execOp ρ o).run P w) (KF u xs).1 h:=by
 let⟨F,op,ty,pos,after,z⟩:=o;simp only at hr hp ⊢;cases op<;>simp only[fC]at hp<;>try (cases hp;done)
 rename_i c x y;unfold KF at j ⊢;split at j
 case h_2=>exact j.elim
 rename_i A G I;let⟨B,W,k⟩:=j M;have r:=hr.head;have t:=hr.tail.head;have K:=hr.tail.tail.head;have f : ∀{d:D}{v:Value},ae w g d v->sg d=true/\z8 (sd d)=true->v = .bool (bv (sd d)):=by
  intro d v m ⟨N,p⟩;have O : ∀{d:D},ae w g d v->z8 d=true->v = .bool (bv d):=by
   intro d m p;cases m with
   | v=>cases v<;>first|rfl|cases p
   | _=>cases p
  cases m with
  | cond b d x n a=>exact O (n N) p
  | v=>exact O (.v _) p
  | _=>cases p
 have s1:=f r B;refine⟨.bool (bif bv (sd A)then bv (sd G)else bv (sd I)),g,w,.inl ?_,.v _,E,ay.refl _ _,λ_ h=>.inl h⟩;cases J:bv (sd A)with
 | true=>have L:=f t (W J);simp[execOp,s1,L,asBool,J]
 | false=>have R:=f K (k J);simp[execOp,s1,R,asBool,J]
variable{argTypes:Array TypeId}{args:Array Operand}
theorem uO{d:D}:∀{ds:List D},aX ds=true->d∈ds->d.nr=true
 | [],_,h=>by cases h
 | e::ds,h,v=>by
  simp only[aX,XU]at h;rcases Yl.1 v with rfl|v
  . exact h.1
  exact uO h.2 v
theorem Hg{d:List D}:∀{ds:List (List D)},aQ ds=true->d∈ds->aX d=true
 | [],_,h=>by cases h
 | e::ds,h,v=>by
  simp only[aQ,XU]at h;rcases Yl.1 v with rfl|v
  . exact h.1
  exact Hg h.2 v
theorem Wh : ∀(a b:List (List D)),aQ (a++b)=(aQ a&&aQ b)
 | [],b=>by simp[aQ]
 | x::a,b=>by simp[aQ,Wh a b,ZI]
theorem ae.clean{d:D}(h:ae w g d v)(hn:d.nr=true)(y : ∀b,g.I b->g'.I b):ae w g' d v:=by
 induction h with
 | v x=>exact .v x
 | agg ds z m _ k=>exact .agg ds z m λi d x J Y=>k i d x J Y (uO hn (Ym J))
 | tuple ds z m _ k=>exact .tuple ds z m λi d x J Y=>k i d x J Y (uO hn (Ym J))
 | iface t d x _ k=>exact .iface t d x (k hn)
 | empty c a I n A=>exact .empty c a I n A
 | list c V L I o E hi m n A N u _ k=>exact .list c V L I o E (y _ hi) m n A N u λi j r d J Y=>k i j r d J Y (uO (Hg hn (Ym J)) (Ym Y))
 | eptr M p E hi u _ k=>exact .eptr M p E (y _ hi) u λj d J=>k j d J (uO hn (Ym J))
 | mrow=>simp[D.nr]at hn
 | mptr=>simp[D.nr]at hn
 | mp=>simp[D.nr]at hn
 | fmap O b R T hi F m _ k=>exact .fmap O b R T (y _ hi) F m λi d x J Y=>k i d x J Y (uO hn (Ym J))
 | fn f first U B M n u _ _ G K =>
  simp only[D.nr,XU]at hn;exact .fn f first U B M n u (λi d x J Y=>G i d x J Y (uO hn.1 (Ym J))) (λi d x J Y=>K i d x J Y (uO hn.2 (Ym J)))
 | cond b d x _ n k=>exact .cond b d x (λF=>k F hn) n
 | junk x=>exact .junk x
mutual
theorem JC : ∀d:D,d.nr=true->(wk d).nr=true
 | .agg cs,h=>EN cs h
 | .list _ rows,h=>R4 rows h
 | .eptr cs,h=>EN cs h
 | .tuple ds,h=>EN ds h
 | .iface _ d,h=>JC d h
 | .v _,h=>h
 | .mrow _ _ _,h=>h
 | .mptr _ _ _,h=>h
 | .mp _,h=>h
 | .fmap a,h=>EN a h
 | .fn _ _ _,h=>h
 | .cond _ _,h=>h
 | .junk,h=>h
theorem EN : ∀ds:List D,aX ds=true->aX (dA ds)=true
 | [],_=>rfl
 | d::ds,h=>by simp only[aX,dA,XU]at h ⊢;exact⟨JC d h.1,EN ds h.2⟩
theorem R4 : ∀ds:List (List D),aQ ds=true->aQ (dB ds)=true
 | [],_=>rfl
 | d::ds,h=>by simp only[aQ,dB,XU]at h ⊢;exact⟨EN d h.1,R4 ds h.2⟩
end
mutual
def D.rin(U:Nat->Prop):D->Prop
 | .v _=>True
 | .agg M=>Bd U M
 | .list _ V=>UL U V
 | .eptr M=>Bd U M
 | .mrow r _ _=>U r
 | .mptr r _ _=>U r
 | .mp r=>U r
 | .fmap c=>Bd U c
 | .fn _ a b=>Bd U a/\Bd U b
 | .tuple ds=>Bd U ds
 | .iface _ d=>d.rin U
 | .cond b d=>b=true->d.rin U
 | .junk=>True
def Bd(U:Nat->Prop):List D->Prop
 | []=>True
 | d::ds=>d.rin U/\Bd U ds
def UL(U:Nat->Prop):List (List D)->Prop
 | []=>True
 | r::z=>Bd U r/\UL U z
end
def aF.clean{ds:List D}(h:aF w g ds vs)(hn:ds.all D.nr=true)(a : ∀b,g.I b->g'.I b):aF w g' ds vs :=
 ⟨h.1,λi d x J Y=>(h.2 i d x J Y).clean (YA.1 hn d (Ym J)) a⟩
def ZaO{d:D}(h:ae w g d v)(a:Qp d=true):ae w' g' d v:=by cases h<;>simp[Qp]at a;exact .v _
def Qo{d:D}(h:ae w g d v)(a:flat d=true):ae w' g' d v:=by
 cases h<;>simp only[flat]at a<;>try (cases a;done)
 . exact .v _
 . rename_i ds j c u;exact .agg ds j c λi d x J Y=>ZaO (u i d x J Y) (YA.1 a d (Ym J))
 rename_i ds j c u;exact .tuple ds j c λi d x J Y=>ZaO (u i d x J Y) (YA.1 a d (Ym J))
def fE(P:Program)[Glob P](f:FuncId):Bool:=match P.funcs[f]? with
 | some fn => fn.body.isSome && fn.name != "runtime.NumGoroutine"
 | none=>false
def jF(I:Nat->Prop):Mem:=⟨λ_=>none,λ_=>False,I⟩
structure EI(w w':World):Prop where
 os:w'.os=w.os
 tape:w'.tape=w.tape
 output:w'.output=w.output
 size:w.heap.size<=w'.heap.size
 drawn:Dr.dr->w.drawn<=w'.drawn
 block : ∀k,k<w.heap.size->w'.heap[k]? = w.heap[k]?
def PureCt(P:Program)[Glob P](f:FuncId)(args:List D)(res:D):Prop :=
 fE P f=true/\args.all D.nr=true /\ ∀(w:World)(I:Nat->Prop)(j:List Value),(∀b,I b->b<w.heap.size)->Gr P I w->aF w (jF I) args j ->
  CallsIn Fence.wide 0 P f j.toArray w λe T=>∃v,e = .returned v/\EI w T/\ae T (jF λb=>I b\/(w.heap.size<=b/\b<T.heap.size)) res v
def Ct(P:Program)[Glob P](f:FuncId)(args:List D)(h:H)(b:Nat)(res:D)(h':H):Prop :=
 fE P f=true /\ ∀(w:World)(g:Mem)(j:List Value)(n:Nat),HM P h g w->(∀r,g.U r->r<n) -> ¬g.U b->aF w g args j ->
  CallsIn Fence.wide 0 P f j.toArray w λe T=>∃v L,e = .returned v/\ae T L res v/\HM P h' L T/\ay g L w T /\ ∀r,L.U r->g.U r\/r=b
def words(P:Program)[Glob P]:cu:={ pureCt:=PureCt P,ct:=Ct P }
theorem xX{f:FuncId}(h:fE P f=true)(args:Array Value)(w:World):(callFunc f args).run P w = .ok (.enter f args) w:=by
 unfold fE at h;split at h
 .
  rename_i fn a;simp only[XU,ZN]at h;let⟨J,Y⟩:=h;have A:fn.body≠none:=by intro e;rw[e]at J;cases J
  simp[callFunc,a,Y,A]
 cases h
def rR(g:Mem):Mem:={ g with I:=λb=>g.I b \/ ∃r c s,g.M r=some (some b,c,s) }
def xw{d:D}(h:ae w g d v):ae w (rR g) d v:=by
 refine ae.mono ?_ ?_ ?_ h
 . exact λb p=>⟨Or.inl p,rfl⟩
 . exact λ_ h=>h
 exact λ_ _=>Or.inl rfl
theorem Mw(hm:HM P h g w)(hr:ae w (rR g) (.mrow r off len) x)(t:(h r).isSome=true/\(aG (.mrow r off len) h).length=len) :
  ae w (rR g) (.list false (aG (.mrow r off len) h)) x:=by
 have n : ∀{d:D}{v:Value},ae w g d v->ae w (rR g) d v:=λh=>xw h;cases hr with
 | mrow r off len x E Z hv =>
  let⟨o1,M⟩:=t;let⟨R,y⟩:=YU.1 o1;simp only[aG,y]at M ⊢;let⟨G,c,J,Y,A,h4,U⟩:=hm.blk r R y;let⟨h6,h7⟩:=hv _ _ _ J;rcases h7 with⟨rfl,a,rfl⟩|⟨N,b,rfl,rfl⟩
  .
   have:len=0:=by omega
   subst this;have:(R.rows.drop c).take 0=[]:=by simp
   rw[this];exact .empty false a 0 (λh=>by cases h) o3u
  rcases U with⟨U,_⟩|⟨b',L,U,k1,k2,k3,X⟩
  . cases U
  cases U;by_cases V:len=0
  .
   subst V;have:(R.rows.drop off).take 0=[]:=by simp
   rw[this];exact .empty false _ _ (λh=>by cases h) om
  have ac:off+len<=R.rows.length:=by simp at M;omega
  have f : ∀(i:Nat)row,((R.rows.drop off).take len)[i]? = some row->R.rows[off+i]? = some row:=by
   intro i row hi;rw[Zc]at hi;split at hi
   . rwa [Y4]at hi
   cases hi
  have z : ∀i j,∃u,∀row d,R.rows[off+i]? = some row->row[j]? = some d->L[(off+i)*P.cellsOf R.ty+j]? = some u/\u.oneCell'=true/\ae w g d u:=by
   intro i j;by_cases p : ∃row d,R.rows[off+i]? = some row/\row[j]? = some d
   . let⟨row,d,B,W⟩:=p;let⟨u,k⟩:=(X _ row B).2 j d W;refine⟨u,λab d' F I=>?_⟩;rw[B]at F;cases F;rw[W]at I;cases I;exact k
   exact⟨undef,λrow d B W=>absurd ⟨row,d,B,W⟩ p⟩
  generalize O:(λi j=>Classical.choose (z i j))=cv;have m : ∀i j row d,R.rows[off+i]? = some row->row[j]? = some d->L[(off+i)*P.cellsOf R.ty+j]? = some (cv i j)/\(cv i j).oneCell'=true/\ae w g d (cv i j):=by intro i j;rw[<-O];exact Zv (z i j)
  have o:len=((R.rows.drop off).take len).length:=M.symm;generalize T:(R.rows.drop off).take len=rows at *;subst o;refine .list false rows ⟨b,off*P.cellsOf R.ty,none⟩ _ (P.cellsOf R.ty) cv (.inr ⟨r,_,_,J⟩) om (λh=>by cases h) om (λrow K=>?_) (λi j row d B W=>?_) (λi j row d B W=>n (m i j row d (f i row B) W).2.2)
  . obtain⟨i,hi,rfl⟩:=Zb K;exact(X _ _ (f i _ (Yi hi))).1
  let⟨k,q4,_⟩:=m i j row d (f i row B) W;refine⟨?_,q4⟩;rw[oQ,cell_of_row w b _ L R.ty (0,0) (k1.cells h6.2),<-k,Zn];congr 1;omega
theorem ZnN(a:HM P h g w){d:D}(hr:ae w (rR g) d v)(t:xS h d):ae w (rR g) (wI h d) v:=by
 cases d with
 | mrow r off W=>exact Mw a hr t
 | _=>exact hr
theorem QO(v:HM P h g w){i:Nat}(hr:ae w (rR g) (.mptr r i off) x)(t:(h r).isSome=true /\ ∀c∈iN (.mptr r i off) h,xS h c) :
  ae w (rR g) (.eptr ((iN (.mptr r i off) h).map (wI h))) x:=by
 let⟨B,z⟩:=t;let⟨R,f⟩:=YU.1 B;simp only[iN,f]at z ⊢;cases hr with|mptr _ _ _ x E Z F =>
 let⟨G,c,J,Y,A,T,U⟩:=v.blk r R f;obtain⟨o,b,rfl,rfl⟩:=F _ _ _ J;rcases U with⟨U,_⟩|⟨V,L,U,I,W,X,K⟩
 . cases U
 cases U;have O : ∀j d,((R.rows.getD i []).drop off)[j]? = some d -> ∃u,L[i*P.cellsOf R.ty+off+j]? = some u/\ae w g d u:=by
  intro j d m;rw[Y4]at m;cases p:R.rows[i]? with
  | none=>rw[List.getD,p]at m;simp at m
  | some row =>
   rw[List.getD,p,YV]at m;let⟨u,a,_,M⟩:=(K i row p).2 (off+j) d m;exact⟨u,by rw[Nat.add_assoc];exact a,M⟩
 refine .eptr _ _ (λj=>L.getD (i*P.cellsOf R.ty+off+j) undef) (.inr ⟨r,_,_,J⟩) (λj d m=>?_) (λj d m=>?_)
 . obtain⟨n,y,rfl⟩:=ji m;let⟨u,a,k⟩:=O j n y;rw[oQ,cell_of_row w b _ L R.ty (0,0) (I.cells o),a];simp[ZA,a]
 obtain⟨n,y,rfl⟩:=ji m;let⟨u,a,k⟩:=O j n y;have N:L.getD (i*P.cellsOf R.ty+off+j) undef=u:=by simp[ZA,a]
 rw[N];exact ZnN v (xw k) (z n (Ym y))
theorem Zbo(a:HM P h g w){d:D}(hr:ae w (rR g) d v)(t:Ex h d):ae w (rR g) (Ar h d) v:=by
 cases d with
 | mrow r off W=>exact Mw a hr t
 | mptr r i off=>exact QO a hr t
 | _=>exact hr
theorem Zbm(k:HM P h g w){d:D}(hr:ae w (rR g) d v)(t:qV h d) :
  ae w (rR g) (deref h d) v:=by
 cases d with
 | mrow r off W=>exact Mw k hr t
 | mptr r i off=>exact QO k hr t
 | fn f a b =>
  cases hr with
  | fn _ _ _ B M m j J Y =>
   refine .fn f _ _ B M (by simpa using m) (by simpa using j) (λi d x y O=>?_) (λi d x y O=>?_)
   . obtain⟨u,c,rfl⟩:=ji y;exact Zbo k (J i u x c O) (t.1 u (Ym c))
   obtain⟨u,c,rfl⟩:=ji y;exact Zbo k (Y i u x c O) (t.2 u (Ym c))
 | _=>exact hr
def ZnL(a:HM P h g w){d:D}(hr:ae w g d v)(t:qV h d):ae w (rR g) (deref h d) v:=Zbm a (xw hr) t
def ZnM{d:D}(m:BI d=false):Ar h d=d:=by cases d<;>first|rfl|cases m
theorem Zbn{ds:List D}(m:ds.any BI=false):ds.map (Ar h)=ds:=by
 rw[List.any_eq_false]at m
 conv=>rhs;rw[<-List.map_id ds]
 exact Y3 λd v=>ZnM (by have:=m d v;simpa using this)
theorem Zbl{d:D}(m:kU d=false):deref h d=d:=by
 cases d<;>first|rfl|(cases m;done)|skip
 rename_i f a b;simp only[kU,Yg]at m;simp only[deref,Zbn m.1,Zbn m.2]
theorem Vk(f:HM P h g w){k:FuncId}{t:List D}{res:D}(n:aF w g t vs)(hct:PureCt P k (t.map (mV h)) res)(F:t.any kU=true->flat res=true /\ ∀y∈t,qV h y) :
  CallsIn Fence.wide 0 P k vs.toArray w λe w'=>∃v g',e = .returned v/\ae w' g' res v/\HM P h g' w'/\ay g g' w w' /\ ∀r,g'.U r->g.U r:=by
 let⟨ab,z,hct⟩:=hct;by_cases B:t.any kU=true
 .
  let⟨f1,f2⟩:=F B;have M:aF w (rR g) (t.map (mV h)) vs:=by
   refine⟨by simpa using n.1,λi d x J Y=>?_⟩;rw[YQ]at J;cases hi:t[i]? with
   | none=>rw[hi]at J;cases J
   | some y =>
    rw[hi]at J;simp at J;subst J;exact(ZnL f (n.2 i y x hi Y) (f2 y (Ym hi))).wk
  refine(hct w (λb=>g.I b \/ ∃r c s,g.M r=some (some b,c,s)) _ (λb p=>?_) (f.gr.later λb p=>⟨.inl p,rfl⟩) (M.clean z λ_ h=>h)).mono ?_
  .
   rcases p with p|⟨r,c,s,p⟩
   . exact f.imm b p
   exact(pY f p).1
  rintro e w' ⟨v,rfl,a,N⟩;have mono:ay g g w w':=⟨a.os,a.tape,a.output,a.size,a.drawn,λ_ h=>h,λ_ _=>.inl rfl,λr b c s h=>.inl ⟨r,c,s,h⟩,λ_ h=>h,λ_ h=>.inl h,λb p _=>a.block b p⟩;refine⟨v,g,rfl,Qo N f1,⟨f.dead,λr R O=>?_,f.inj,f.used,λb p=>YG (f.imm b p) a.size,f.gr.later (f.kept mono)⟩,mono,λ_ h=>h⟩;let⟨G,c,J,Y,A,X,U⟩:=f.blk r R O;refine⟨G,c,J,Y,A,X,?_⟩;rcases U with U|⟨b,L,rfl,W,Z,T,V⟩
  . exact .inl U
  refine .inr ⟨b,L,rfl,by rw[a.block b (pY f J).1];exact W,Z,T,λi row hi=>⟨(V i row hi).1,λj d m=>?_⟩⟩;let⟨u,k3,k4,k5⟩:=(V i row hi).2 j d m;exact⟨u,k3,k4,k5.later f mono⟩
 have n:aF w g (t.map (mV h)) vs:=by
  refine⟨by simpa using n.1,λi d x J Y=>?_⟩;obtain⟨y,A,rfl⟩:=ji J;have o:kU y=false:=by
   cases hq:kU y with
   | false=>rfl
   | true=>exact absurd (ZY.2 ⟨y,Ym A,hq⟩) B
  have:deref h y=y:=Zbl o;show ae w g (wk (deref h y)) x;rw[this];exact(n.2 i y x A Y).wk
 refine(hct w g.I _ f.imm f.gr (n.clean z λ_ h=>h)).mono ?_;rintro e w' ⟨v,rfl,a,N⟩;let g':Mem:={ g with I:=λb=>g.I b\/(w.heap.size<=b/\b<w'.heap.size) };have mono:ay g g' w w':=⟨a.os,a.tape,a.output,a.size,a.drawn,λ_ h=>h,λ_ _=>.inl rfl,λr b c s h=>.inl ⟨r,c,s,h⟩,λ_ h=>.inl h,λb h=>by rcases h with h|h;exact .inl h;exact .inr (.inl h.1),λb p _=>a.block b p⟩;refine⟨v,g',rfl,by refine ae.mono ?_ ?_ ?_ N;exact λb p=>⟨p,rfl⟩;exact λ_ h=>False.elim h;exact λ_ h=>False.elim h,⟨f.dead,λr R O=>?_,f.inj,f.used,λb p=>?_,f.gr.later (f.kept mono)⟩,mono,λ_ h=>h⟩
 .
  let⟨G,c,J,Y,A,X,U⟩:=f.blk r R O;refine⟨G,c,J,Y,A,X,?_⟩;rcases U with U|⟨b,L,rfl,W,Z,T,V⟩
  . exact .inl U
  have K:=(pY f J).1;refine .inr ⟨b,L,rfl,by rw[a.block b K];exact W,Z,λE=>?_,λi row hi=>⟨(V i row hi).1,λj d m=>?_⟩⟩
  .
   rcases E with E|E
   . exact T E
   omega
  let⟨u,k3,k4,k5⟩:=(V i row hi).2 j d m;exact⟨u,k3,k4,k5.later f mono⟩
 rcases p with p|p
 . exact YG (f.imm b p) a.size
 exact p.2
theorem Zaf{m:List D}(hn:m.any kU=false):m.map (mV h)=m.map wk:=by
 rw[List.any_eq_false]at hn;exact Y3 λd a=>by have:=hn d a;simp only[Bool.not_eq_true]at this;show wk (deref h d)=wk d;rw[Zbl this]
def Pf(g:Mem):Mem:=jF λb=>g.I b \/ ∃r c s,g.M r=some (some b,c,s)
theorem Dx{ds:List D}(h : ∀d∈ds,d.nr=true):aX ds=true:=by
 induction ds with
 | nil=>rfl
 | cons d ds k=>simp[aX,h d (by simp),k λd m=>h d (by simp[m])]
theorem OV{ds:List (List D)}(h : ∀d∈ds,aX d=true):aQ ds=true:=by
 induction ds with
 | nil=>rfl
 | cons d ds k=>simp[aQ,h d (by simp),k λd m=>h d (by simp[m])]
theorem J3(hm:HM P h g w):∀(k:Nat)(d:D)(v:Value),ae w (rR g) d v->dU h k d->ae w (Pf g) (snap h k d) v/\(snap h k d).nr=true:=by
 intro k;induction k with
 | zero=>exact λd v O T=>⟨O.clean T λb p=>p,T⟩
 | succ k V =>
  intro d v O T;cases d with
  | mrow r off W =>
   let⟨o1,o2⟩:=T;have m:=Zbm hm O o1;simp only[deref]at m;simp only[snap];generalize aG (.mrow r off W) h=rows at m o2 ⊢;refine⟨?_,?_⟩
   .
    cases m with
    | empty _ a I hf ab=>exact .empty false a I hf ab
    | list _ _ ad I ac cv hI hl hf ab N hc am =>
     have e:rows.length=(rows.map λrow=>row.map (snap h k)).length:=by simp
     rw[e];refine .list false _ ad I ac cv hI (by simpa using hl) (λh=>by cases h) ab (λrow F=>?_) (λi j row d J Y=>?_) (λi j row d J Y=>?_)
     . simp only[Yp]at F;obtain⟨n,J,rfl⟩:=F;simpa using N n J
     .
      rw[YQ]at J;cases X:rows[i]? with
      | none=>rw[X]at J;cases J
      | some n =>
       rw[X]at J;simp at J;subst J;rw[YQ]at Y;cases Ea:n[j]? with
       | none=>rw[Ea]at Y;cases Y
       | some o=>exact hc i j n o X Ea
     rw[YQ]at J;cases X:rows[i]? with
     | none=>rw[X]at J;cases J
     | some n =>
      rw[X]at J;simp at J;subst J;rw[YQ]at Y;cases Ea:n[j]? with
      | none=>rw[Ea]at Y;cases Y
      | some o =>
       rw[Ea]at Y;simp at Y;subst Y;exact(V o _ (am i j n o X Ea) (o2 n (Ym X) o (Ym Ea))).1
   refine OV λrow F=>Dx λd ar=>?_;simp only[Yp]at F;obtain⟨n,J,rfl⟩:=F;simp only[Yp]at ar;obtain⟨o,Y,rfl⟩:=ar;cases m with
   | empty=>cases J
   | list _ _ ad I ac cv hI hl hf ab N hc am =>
    let⟨i,hi⟩:=Zy J;let⟨j,A⟩:=Zy Y;exact(V o _ (am i j n o hi A) (o2 n J o Y)).2
  | agg M =>
   obtain⟨vs,rfl,hv⟩:=O.agg_inv;simp only[snap];refine⟨.mk_agg ⟨by simpa using hv.1,λi d x J Y=>?_⟩,Dx λd m=>?_⟩
   .
    rw[YQ]at J;cases z:M[i]? with
    | none=>rw[z]at J;cases J
    | some c =>
     rw[z]at J;simp at J;subst J;exact(V c x (hv.2 i c x z Y) (T c (Ym z))).1
   simp only[Yp]at m;obtain⟨c,J,rfl⟩:=m;let⟨i,hi⟩:=Zy J;have K:i<vs.toList.length:=by rw[<-hv.1];exact(X8.1 hi).1
   exact(V c _ (hv.2 i c _ hi (Yi K)) (T c J)).2
  | tuple M =>
   obtain⟨vs,rfl,hv⟩:=O.tuple_inv;simp only[snap];refine⟨.mk_tuple ⟨by simpa using hv.1,λi d x J Y=>?_⟩,Dx λd m=>?_⟩
   .
    rw[YQ]at J;cases z:M[i]? with
    | none=>rw[z]at J;cases J
    | some c =>
     rw[z]at J;simp at J;subst J;exact(V c x (hv.2 i c x z Y) (T c (Ym z))).1
   simp only[Yp]at m;obtain⟨c,J,rfl⟩:=m;let⟨i,hi⟩:=Zy J;have K:i<vs.toList.length:=by rw[<-hv.1];exact(X8.1 hi).1
   exact(V c _ (hv.2 i c _ hi (Yi K)) (T c J)).2
  | iface t d =>
   cases O with
   | iface _ _ x J =>
    let⟨q1,q2⟩:=V d x J T;exact⟨.iface t _ x q1,q2⟩
  | mptr r i off =>
   let⟨o1,o2⟩:=T;let⟨R,aw⟩:=YU.1 o1;simp only[snap];have b7:iN (.mptr r i off) h=(R.rows.getD i []).drop off:=by simp only[iN,aw]
   rw[b7]at o2 ⊢;cases O with|mptr _ _ _ x E Z hv =>
   let⟨G,c,J,Y,h3,h4,U⟩:=hm.blk r R aw;obtain⟨b8,b,rfl,rfl⟩:=hv _ _ _ J;rcases U with⟨U,_⟩|⟨b',L,U,k1,k2,k3,k4⟩
   . cases U
   cases U;have aq : ∀j d,((R.rows.getD i []).drop off)[j]? = some d -> ∃u,L[i*P.cellsOf R.ty+off+j]? = some u/\ae w g d u:=by
    intro j d m;rw[Y4]at m;cases X:R.rows[i]? with
    | none=>rw[List.getD,X]at m;simp at m
    | some row =>
     rw[List.getD,X,YV]at m;let⟨u,p1,_,p3⟩:=(k4 i row X).2 (off+j) d m;exact⟨u,by rw[Nat.add_assoc];exact p1,p3⟩
   refine⟨.eptr _ _ (λj=>L.getD (i*P.cellsOf R.ty+off+j) undef) (.inr ⟨r,_,_,J⟩) (λj d m=>?_) (λj d m=>?_),Dx λd m=>?_⟩
   . obtain⟨o,y,rfl⟩:=ji m;let⟨u,p1,p2⟩:=aq j o y;rw[oQ,cell_of_row w b _ L R.ty (0,0) (k1.cells b8),p1];simp[ZA,p1]
   .
    obtain⟨o,y,rfl⟩:=ji m;let⟨u,p1,p2⟩:=aq j o y;have e2:L.getD (i*P.cellsOf R.ty+off+j) undef=u:=by simp[ZA,p1]
    rw[e2];exact(V o u (xw p2) (o2 o (Ym y))).1
   obtain⟨o,y,rfl⟩:=Yp.1 m;let⟨j,A⟩:=Zy y;let⟨u,p1,p2⟩:=aq j o A;exact(V o u (xw p2) (o2 o y)).2
  | fn f a b =>
   cases O with
   | fn _ _ _ B M hf hc J Y =>
    simp only[snap];refine⟨.fn f _ _ B M (by simpa using hf) (by simpa using hc) (λi d x y e2=>?_) (λi d x y e2=>?_),?_⟩
    . obtain⟨o,e3,rfl⟩:=ji y;exact(V o x (J i o x e3 e2) (T.1 o (Ym e3))).1
    . obtain⟨o,e3,rfl⟩:=ji y;exact(V o x (Y i o x e3 e2) (T.2 o (Ym e3))).1
    simp only[D.nr,XU];refine⟨Dx λd m=>?_,Dx λd m=>?_⟩
    .
     obtain⟨o,y,rfl⟩:=Yp.1 m;let⟨i,hi⟩:=Zy y;have K:i<B.size:=by rw[<-hf];exact(X8.1 hi).1
     exact(V o _ (J i o _ hi (ZK K)) (T.1 o y)).2
    obtain⟨o,y,rfl⟩:=Yp.1 m;let⟨i,hi⟩:=Zy y;have K:i<M.size:=by rw[<-hc];exact(X8.1 hi).1
    exact(V o _ (Y i o _ hi (ZK K)) (T.2 o y)).2
  | _=>exact⟨O.clean T λb p=>p,T⟩
def TF(f:HM P h g w){k:FuncId}{m:List D}{res:D}(n:aF w g m vs)(hct:PureCt P k (m.map (jr h)) res)(o:flat res=true)(hso : ∀y∈m,dU h 5 y) :
  CallsIn Fence.wide 0 P k vs.toArray w λe w'=>∃v g',e = .returned v/\ae w' g' res v/\HM P h g' w'/\ay g g' w w' /\ ∀r,g'.U r->g.U r:=by
 let⟨z,B,hct⟩:=hct;have t:aF w (Pf g) (m.map (jr h)) vs:=by refine⟨by simpa using n.1,λi d x J Y=>?_⟩;obtain⟨y,A,rfl⟩:=ji J;exact(J3 f 5 y x (xw (n.2 i y x A Y)) (hso y (Ym A))).1.wk
 refine(hct w (λb=>g.I b \/ ∃r c s,g.M r=some (some b,c,s)) _ (λb p=>?_) (f.gr.later λb p=>⟨.inl p,rfl⟩) t).mono ?_
 .
  rcases p with p|⟨r,c,s,p⟩
  . exact f.imm b p
  exact(pY f p).1
 rintro e w' ⟨v,rfl,a,E⟩;have mono:ay g g w w':=⟨a.os,a.tape,a.output,a.size,a.drawn,λ_ h=>h,λ_ _=>.inl rfl,λr b c s h=>.inl ⟨r,c,s,h⟩,λ_ h=>h,λ_ h=>.inl h,λb p _=>a.block b p⟩;refine⟨v,g,rfl,Qo E o,⟨f.dead,λr R O=>?_,f.inj,f.used,λb p=>YG (f.imm b p) a.size,f.gr.later (f.kept mono)⟩,mono,λ_ h=>h⟩;let⟨G,c,J,Y,A,F,U⟩:=f.blk r R O;refine⟨G,c,J,Y,A,F,?_⟩;rcases U with U|⟨b,L,rfl,W,I,T,V⟩
 . exact .inl U
 refine .inr ⟨b,L,rfl,by rw[a.block b (pY f J).1];exact W,I,T,λi row hi=>⟨(V i row hi).1,λj d K=>?_⟩⟩;let⟨u,M,N,X⟩:=(V i row hi).2 j d K;exact⟨u,M,N,X.later f mono⟩
theorem Zo0{f:Operand}{xs:List D}{b:Nat}(a:C.cf=true)(j:(kZ (words P) C f xs h b).2.2):kZ (words P) C f xs h b=((kZ (words P) { C with cf:=false,dp:=false } f xs h b).1,(kZ (words P) { C with cf:=false,dp:=false } f xs h b).2.1,(kZ (words P) C f xs h b).2.2)/\(kZ (words P) { C with cf:=false,dp:=false } f xs h b).2.2:=by
 unfold kZ at j ⊢;split at j
 .
  rename_i k d m;by_cases F:C.pure k=true
  . simp only[F,a,Zm,Yn,Y8]at j ⊢;rw[Zaf j.2];exact⟨rfl,j.1,λh=>by rw[j.2]at h;cases h⟩
  simp only[F,a,Zm,Y8,Yn]at j
 .
  rename_i k first g m c
  by_cases F:C.pure k=true
  .
   cases f<;>simp only[F,a,Zm,Yn,Y8]at j ⊢ <;> first
    | (rw[Zaf j.2];exact⟨rfl,j.1,λh=>by rw[j.2]at h;cases h⟩)
    | exact absurd rfl (c _)
  simp only[F,Y8]at j;exact j.elim
 exact j.elim
theorem Zb8(z:C.cf=false)(U:HM P h g w){b:Nat}(p : ¬g.U b)(hn : ∀r,g.U r->r<n){f:Operand}{xs:List D}(t:o.op = .call { callee:=.value f,args,argTypes })(hρ : ∀k,ρ (.func k) = .func (.func k) #[] #[])(hr:aF w g xs (ρ f::args.toList.map ρ))(j:(kZ (words P) C f xs h b).2.2) :
  ∃k vs,(execOp ρ o).run P w = .ok (.enter k vs) w/\CallsIn Fence.wide 0 P k vs w λe w'=>∃v g',e = .returned v/\ae w' g' (kZ (words P) C f xs h b).1 v/\HM P (kZ (words P) C f xs h b).2.1 g' w'/\ay g g' w w' /\ ∀r,g'.U r->g.U r\/r=b:=by
 have G : ∀k B M,ρ f = .func (.func k) B M->fE P k=true->(execOp ρ o).run P w = .ok (.enter k (B++args.map ρ++M)) w:=by intro k B M Z c;simp[execOp,t,resolve,Deferred.ofValue,Z,invoke,xX c]
 unfold kZ at j ⊢;split at j
 .
  rename_i k d m;have K:aF w g m (args.toList.map ρ):=hr.tail;by_cases F:C.pure k=true
  .
   cases I:C.dp with
   | true =>
    simp only[F,z,I,Zm,Yn,Y8]at j ⊢;let⟨⟨c,L,E⟩,N,ab⟩:=j;have e:=G k #[] #[] (hρ k) c;simp only[Array.empty_append,Array.append_empty]at e;refine⟨k,_,e,?_⟩;have V:args.map ρ=(args.toList.map ρ).toArray:=by apply Zr;simp
    rw[V];exact(TF U K ⟨c,L,E⟩ N ab).mono λe w'⟨v,g',O,W,R,a,T⟩=>⟨v,g',O,W,R,a,λr hr=>.inl (T r hr)⟩
   | false =>
   simp only[F,z,I,Zm,Yn,Y8]at j ⊢;let⟨⟨c,L,E⟩,N⟩:=j;have e:=G k #[] #[] (hρ k) c;simp only[Array.empty_append,Array.append_empty]at e;refine⟨k,_,e,?_⟩;have V:args.map ρ=(args.toList.map ρ).toArray:=by apply Zr;simp
   rw[V];exact(Vk U K ⟨c,L,E⟩ N).mono λe w'⟨v,g',O,W,R,a,T⟩=>⟨v,g',O,W,R,a,λr hr=>.inl (T r hr)⟩
  simp only[F,z,Y8,Yn]at j ⊢;have j:=j b;have e:=G k #[] #[] (hρ k) j.1;simp only[Array.empty_append,Array.append_empty]at e;refine⟨k,_,e,?_⟩;have V:args.map ρ=(args.toList.map ρ).toArray:=by apply Zr;simp
  rw[V];refine j.2 w g _ n U hn p ⟨by simpa using K.1,λi d x J Y=>?_⟩;obtain⟨y,A,rfl⟩:=ji J;exact(K.2 i y x A Y).wk
 .
  rename_i k first aD m _
  have Z:=hr.head;generalize u:ρ f=vf at Z hr;cases Z with|fn _ _ _ B M l1 l2 r1 r2 =>
  have e:B++args.map ρ++M=(B.toList++args.toList.map ρ++M.toList).toArray:=by apply Zr;simp
  have X:aF w g (first++m++aD) (B.toList++args.toList.map ρ++M.toList):=aF.append (aF.append ⟨by simpa using l1,λi d x J Y=>r1 i d x J (by simpa using Y)⟩ hr.tail) ⟨by simpa using l2,λi d x J Y=>r2 i d x J (by simpa using Y)⟩;by_cases F:C.pure k=true
  .
   cases I:C.dp with
   | true =>
    simp only[F,z,I,Zm,Yn,Y8]at j ⊢;refine⟨k,_,G k B M u j.1.1,?_⟩;rw[e];exact(TF U X j.1 j.2.1 j.2.2).mono λe w'⟨v,g',O,W,R,a,T⟩=>⟨v,g',O,W,R,a,λr hr=>.inl (T r hr)⟩
   | false =>
   simp only[F,z,I,Zm,Yn,Y8]at j ⊢;refine⟨k,_,G k B M u j.1.1,?_⟩;rw[e];exact(Vk U X j.1 j.2).mono λe w'⟨v,g',O,W,R,a,T⟩=>⟨v,g',O,W,R,a,λr hr=>.inl (T r hr)⟩
  simp only[F,Y8,Yn]at j
 exact j.elim
theorem ZoZ(c:HM P h g w){b:Nat}(p : ¬g.U b)(hn : ∀r,g.U r->r<n){f:Operand}{xs:List D}(t:o.op = .call { callee:=.value f,args,argTypes })(m : ∀k,ρ (.func k) = .func (.func k) #[] #[])(hr:aF w g xs (ρ f::args.toList.map ρ))(j:(kZ (words P) C f xs h b).2.2) :
  ∃k vs,(execOp ρ o).run P w = .ok (.enter k vs) w/\CallsIn Fence.wide 0 P k vs w λe w'=>∃v g',e = .returned v/\ae w' g' (kZ (words P) C f xs h b).1 v/\HM P (kZ (words P) C f xs h b).2.1 g' w'/\ay g g' w w' /\ ∀r,g'.U r->g.U r\/r=b:=by
 cases a:C.cf with
 | false=>exact Zb8 a c p hn t m hr j
 | true =>
  let⟨e,Y⟩:=Zo0 a j;rw[e];exact Zb8 (C:={ C with cf:=false,dp:=false }) rfl c p hn t m hr Y
def Marks(B:Nat)(g:Mem):List Deferred->World->Prop
 | [],_=>True
 | d::ds,w=>(∃D,d.target = .collected D/\w.heap[D]? = some (.deferred (some []))/\(∀u∈ds,u.target ≠ .collected D)/\B<=D /\ ¬g.I D)/\Marks B g ds w
theorem zO(v:HM P h g w){D:Nat}{o:Obj}(k:w.heap[D]? = some o)(t : ∀c e f,o ≠ .cells c e f)(j : ∀c e,o ≠ .map c e:=by intro c e;simp):∀r c s,g.M r≠some (some D,c,s):=by
 intro r c s e;cases O:h r with
 | none=>rw[v.dead r O]at e;cases e
 | some R =>
  let⟨G,n,J,_,_,_,U⟩:=v.blk r R O;rw[e]at J;simp only[Yj,YL]at J;rcases U with⟨W,_⟩|⟨p,L,W,m,_⟩
  . rw[<-J.1]at W;cases W
  rw[<-J.1]at W;cases W;let⟨x,E,a⟩:=m.some;rw[k]at E;cases E;rcases a with⟨_,_,_,a⟩|⟨_,_,a⟩
  . exact t _ _ _ a
  exact j _ _ a
def Hl(v:HM P h g w)(k:ay g g' w w'){D:Nat}{o:Obj}(a:w.heap[D]? = some o)(t : ∀c e f,o ≠ .cells c e f)(j : ∀c e,o ≠ .map c e:=by intro c e;simp):w'.heap[D]? = some o:=by rw[k.same D (Yo.1 a).1 (zO v a t j)];exact a
theorem Marks.later [Glob P]{h:H}{g g':Mem}{w w':World}(v:HM P h g w)(k:ay g g' w w'){B:Nat}:∀{ds:List Deferred},Marks B g ds w->Marks B g' ds w'
 | [],_=>trivial
 | d::ds,⟨⟨D,J,h2,A,Y,h5⟩,W⟩=>⟨⟨D,J,Hl v k h2 (λc e f=>by simp),A,Y,λa=>by
   rcases k.inew D a with e|e|⟨r,c,s,e⟩
   . exact h5 e
   . have:=(Yo.1 h2).1;omega
   exact zO v h2 (λc e f=>by simp) (λc e=>by simp) r c s e⟩,W.later v k⟩
structure dn where
 n:Nat
 ds:List Deferred
 fn : ∀d∈ds,∀D,d.target ≠ .collected D
def dn.of(n:Nat):dn:=⟨n,[],λ_ h=>by simp at h⟩
def kJ(B:dn)(g:Mem)(ds:List Deferred)(w:World):Prop:=∃a,ds=a++B.ds/\Marks B.n g a w
theorem kJ.map{B:dn}{ds:List Deferred}(h:kJ B g ds w)(k : ∀a,Marks B.n g a w->Marks B.n g' a w'):kJ B g' ds w' :=
 let⟨a,J,Y⟩:=h;⟨a,J,k a Y⟩
def kJ.start{B:dn}:kJ B g B.ds w:=⟨[],rfl,trivial⟩
theorem kJ.later(v:HM P h g w)(k:ay g g' w w'){B:dn}{ds:List Deferred}(m:kJ B g ds w):kJ B g' ds w':=m.map λ_ h=>h.later v k
def kJ.marks{ds:List Deferred}(h:kJ (dn.of n) g ds w):Marks n g ds w:=by let⟨a,J,Y⟩:=h;rw[J];show Marks n g (a++[]) w;rw[YH];exact Y
variable{B:dn}{K:Act->World->Prop}{L:List Oper}{Q:Exit->Act->World->Prop}{dst:Option Tmp}{op:Op}{ops:Array Oper}{ro:Option Nat}{s:S}
structure St(P:Program)[Glob P](B:dn)(s:S)(g:Mem)(a:Act)(w:World):Prop where
 sz:a.tmps.size=s.n
 tm : ∀i,ae w g (s.t i) (a.tmps.getD i undef)
 mem:HM P s.h g w
 df:kJ B g a.defers w
 en:s.e.p g w
 bd:B.n<=w.heap.size
def Fw(ro:Option Nat):Fence:={ Fence.wide with round:=ro }
def AA{f:FuncId}{args:Array Value}{R:Ending->World->Prop}{m:Nat}(h:CallsIn Fence.wide n P f args w R):CallsIn (Fw ro) m P f args w R :=
 ⟨trivial,λM _=>h.2 M (room_wide _)⟩
theorem bT{a:Act}(hs:St P B s g a w)(x:Operand):ae w g (s.ev x) (a.eval x):=by
 cases x with
 | tmp t=>exact hs.tm t
 | const v=>exact KQ w g v
 | global i=>exact .v _
 | func f=>exact .fn (.func f) [] [] #[] #[] rfl rfl (by simp) (by simp)
theorem xP [Glob P]{s:S}{g:Mem}{a:Act}{w:World}(hs:St P B s g a w):∀z:List Operand,aF w g (z.map s.ev) (z.map a.eval)
 | []=>.nil
 | x::z=>.cons (bT hs x) (xP hs z)
theorem ZeE{d:D}(h:ae w g d v)(hs:sg d=true):ae w g (sd d) v:=by
 cases d<;>first|exact h|skip
 cases h with
 | cond _ _ _ n a=>exact n hs
theorem ym{w:World}{g:Mem}:∀{ds:List D}{vs:List Value},aF w g ds vs->ds.all sg=true->aF w g (ds.map sd) vs
 | [],vs,h,_=>by rw[h.of_nil];exact .nil
 | d::ds,vs,h,N=>by obtain⟨x,z,rfl,J,Y⟩:=h.of_cons;simp only[List.all_cons,XU]at N;exact .cons (ZeE J N.1) (ym Y N.2)
theorem nL{a:Act}(hs:St P B s g a w)(k:ay g g' w w')(c:HM P h' g' w')(m:dN s.n dst=true){d:D}(hv:ae w' g' d v)(ok:Prop) :
  St P B { s with t:=s.put dst d,h:=h',ok:=ok } g' (a.put dst v) w':=by
 refine⟨?_,λi=>?_,c,?_,Env.later hs.mem k hs.en,Yd hs.bd k.size⟩
 . cases dst<;>simp[Act.put,hs.sz]
 .
  cases dst with
  | none=>exact(hs.tm i).later hs.mem k
  | some j =>
   simp only[dN,XY]at m;simp only[S.put,Act.put];by_cases e:i=j
   .
    subst e;rw[bI];have:(a.tmps.setIfInBounds i v).getD i undef=v:=by
     have:i<a.tmps.size:=by rw[hs.sz];exact m
     simp[this]
    rw[this];exact hv
   rw[aI _ _ _ _ e];have:(a.tmps.setIfInBounds j v).getD i undef=a.tmps.getD i undef:=by simp[Ne.symm e]
   rw[this];exact(hs.tm i).later hs.mem k
 have:(a.put dst v).defers=a.defers:=by cases dst<;>rfl
 rw[this];exact hs.df.later hs.mem k
theorem QE{xs:List D}{b:Nat}(j:bW C op ≠ .writes):(bz P W C op xs h b).2.1=h:=by
 unfold bz;split<;>first
  | rfl
  | (exfalso;exact j rfl)
  | skip
 .
  have p:C.bs=false:=by
   cases p:C.bs with
   | false=>rfl
   | true=>exact absurd (by simp[bW,p]) j
  simp only[p,Yn,Y8];rfl
 rename_i f M argTypes;unfold kZ;split
 . split<;>first|rfl|(split<;>first|rfl|(split<;>rfl))
 . split<;>first|rfl|(split<;>first|rfl|(split<;>rfl))
 rfl
def ZlE(h:D6 op=true):∃f args argTypes,op = .call { callee:=.value f,args,argTypes }:=by
 unfold D6 at h;split at h
 . exact⟨_,_,_,rfl⟩
 cases h
def QF{a:Act}(hs:St P B s g a w){b N:Nat}(p : ¬g.U b)(G : ∀r,g.U r->r<N)(j:(aW P (words P) C true o.op ((aU o.op).map s.ev) s.h b).2.2)(u : ∀v g' w',ae w' g' (aW P (words P) C true o.op ((aU o.op).map s.ev) s.h b).1 v->HM P (aW P (words P) C true o.op ((aU o.op).map s.ev) s.h b).2.1 g' w'->ay g g' w w'->(∀r,g'.U r->g.U r\/r=b)->K (a.put o.dst v) w') :
  o.wpIn (Fw ro) n P a w K Q:=by
 have x : ∀c,o.op ≠ .defer c:=by intro c e;rw[e]at j;simp[aW,fC,bz]at j
 have I:o.semAt (Fw ro).round a.eval=execOp a.eval o:=Oper.semAt_eq _ _ _ x;refine⟨λ_ _=>trivial,?_⟩;rw[I];have done:Does P g w b ((execOp a.eval o).run P w) (aW P (words P) C true o.op ((aU o.op).map s.ev) s.h b).1 (aW P (words P) C true o.op ((aU o.op).map s.ev) s.h b).2.1->o.uponIn (Fw ro) n P a K Q ((execOp a.eval o).run P w):=by
  rintro⟨v,g',w',O,J,Y,A,z⟩;rcases O with O|⟨O,rfl⟩
  . rw[O,Oper.uponIn_value];exact u v g' w' J Y A z
  rw[O,Oper.uponIn_skip];exact u undef g' w' J Y A z
 by_cases F:fC o.op=true
 . simp only[aW,F,Zm]at j u done ⊢;exact done (Ziz hs.mem (xP hs _) F rfl j)
 simp only[aW,F,Y8,Yn]at j u done;let⟨J,Y⟩:=j;have E:=ym (xP hs (aU o.op)) (J trivial);by_cases m:D6 o.op=true
 . let⟨f,M,argTypes,t⟩:=ZlE m;rw[t]at Y E u;simp only[bz,aU]at Y E u;let⟨k,V,U,y⟩:=ZoZ hs.mem p G t (λk=>rfl) E Y;rw[U,Oper.uponIn_enter];refine⟨λh=>by simp[Fw,Fence.wide]at h,AA (y.mono ?_)⟩;rintro e w' ⟨v,g',rfl,L,W,R,T⟩;exact u v g' w' L W R T
 exact done (ZmW hs.mem p E (by simpa using m) Y)
def ZdE{a:Act}(hs:St P B s g a w)(m:dN s.n dst=true)(d:D)(ok:Prop) :
  St P B { s with t:=s.put dst (.cond false d),ok:=ok } g (a.put dst undef) w :=
 nL hs (ay.refl g w) hs.mem m (.cond false d undef (λh=>by cases h) (λ_=>rfl)) ok
theorem Zl5{a:Act}(hs:St P B s g a w){want:Bool}(hk:vW (((ops.toList[j]?).bind (·.dst)).elim .junk s.t)=true) :
  (yielded ops a.tmps j==some want)=l5 (((ops.toList[j]?).bind (·.dst)).elim .junk s.t) want:=by
 rw[Zf]at hk ⊢;unfold yielded;cases m:(ops[j]?).bind (·.dst)with
 | none=>rw[m]at hk;simp[vW]at hk
 | some d =>
  rw[m]at hk;simp only[Option.elim,Option.bind_some]at hk ⊢;have O:=hs.tm d;have u : ∀v,a.tmps.getD d undef=v->v≠undef->a.tmps[d]? = some v:=by
   intro v e N;cases f:a.tmps[d]? with
   | none =>
    have h:=Array.getElem?_eq_none_iff.1 f;simp only[Array.getD]at e;rw[dif_neg (by omega)]at e;exact absurd e.symm N
   | some x=>simp[f]at e;rw[e]
  generalize c:a.tmps.getD d undef=v0 at O u;generalize k:s.t d=d0 at O hk;cases O with
  | v x =>
   cases v0<;>simp only[vW]at hk<;>try (cases hk;done)
   rename_i bv;rw[u _ rfl (by simp[undef])];simp[l5]
  | cond o p _ n r =>
   cases o with
   | true =>
    have J:=n rfl;cases J with
    | v x =>
     cases v0<;>simp only[vW]at hk<;>try (cases hk;done)
     rename_i bv;rw[u _ rfl (by simp[undef])];simp[l5]
    | _=>simp[vW]at hk
   | false =>
    have J:=r rfl;subst J;split
    . rename_i b e;have K:=(Yo.1 e).1;rw[ZK K]at e;simp only[Array.getD,dif_pos K]at c;simp only[Yj]at e;have:=c.symm.trans e;simp[undef]at this
    have V:l5 (.cond false p) want=false:=by
     unfold l5;split
     . rename_i e;cases e
     . rename_i e;cases e;simp
     rfl
    rw[V];rfl
  | _=>simp[vW]at hk
theorem I1{a:Act}(hs:St P B s g a w){b i N:Nat}(p : ¬g.U (b+i))(y : ∀r,g.U r->r<N)(hi:ops[i]? = some o)(hok:(dM P (words P) C ops.toList b i o s).ok)(f : ∀g' t T,St P B (dM P (words P) C ops.toList b i o s) g' t T->ay g g' w T->(∀r,g'.U r->g.U r\/r=b+i)->K t T):wpOpIn (Fw ro) n P ops Q i K a w:=by
 unfold wpOpIn;rw[hi];simp only;unfold dM at hok f;cases M:o.guard with
 | none =>
  rw[M]at hok f;simp only at hok f;let⟨_,Y,A⟩:=hok;have E:Region.wanted o (yielded ops a.tmps)=true:=by simp[Region.wanted,M]
  rw[X0 E];exact QF hs p y A λv g' T m U W F=>f g' _ T (nL hs W U Y m _) W F
 | some G =>
  let⟨j,c⟩:=G;rw[M]at hok f;simp only at hok f;let⟨_,Y,A,m,U⟩:=hok;have u:=Zl5 hs (want:=c) A;have x:Region.wanted o (yielded ops a.tmps)=l5 (((ops.toList[j]?).bind (·.dst)).elim .junk s.t) c:=by simp only[Region.wanted,M];exact u
  rw[x];generalize l5 (((ops.toList[j]?).bind (·.dst)).elim .junk s.t) c=gv at *
  cases gv with
  | false =>
   rw[XV (by simp)];exact⟨λ_ _=>trivial,f g _ w (ZdE hs Y _ _) (ay.refl g w) λ_ h=>.inl h⟩
  | true =>
   rw[X0 rfl];have J:(aW P (words P) C true o.op ((aU o.op).map s.ev) s.h (b+i)).2.1=s.h:=by
    unfold aW;split
    . rfl
    exact QE m
   refine QF hs p y (U rfl) λv g' T I z k L=>?_;rw[J]at z;exact f g' _ T (nL hs k z Y (.cond true _ v (λ_=>I) (λh=>by cases h)) _) k L
def QA{b i:Nat}(h:(dM P W C L b i o s).ok):s.ok:=by
 unfold dM at h;split at h
 . exact h.1
 exact h.1
def Et{b i:Nat}:(dM P W C L b i o s).n=s.n/\(dM P W C L b i o s).nx=s.nx:=by unfold dM;split<;>exact⟨rfl,rfl⟩
theorem Mg [Glob P]{W:cu}{L:List Oper}{b:Nat}:∀{a:List Oper}{i:Nat}{s:S},(bu P W C L b i a s).ok->s.ok
 | [],_,_,h=>h
 | _::_,_,_,h=>QA (Mg (by exact h))
theorem ZmO{b:Nat}{w0:World}{g0:Mem}:∀(k i:Nat)(s:S)(g:Mem)(a:Act)(w:World),St P B s g a w->ay g0 g w0 w->(∀r,g.U r->r<b+i) ->
  i+k=ops.size->(bu P (words P) C ops.toList b i (ops.toList.drop i) s).ok ->
  (∀g' t T,St P B (bu P (words P) C ops.toList b i (ops.toList.drop i) s) g' t T->ay g0 g' w0 T->(∀r,g'.U r->r<b+ops.size)->Q .normal t T) ->
  wpOpsIn (Fw ro) n P ops Q (List.range' i k) a w:=by
 intro k;induction k with
 | zero =>
  intro i s g a w f v Z X G c;have:ops.toList.drop i=[]:=Y5 (by simp;omega);rw[this]at c;exact c g a w f v (λr O=>by have:=Z r O;omega)
 | succ k j =>
  intro i s g a w f v Z X G c;have K:i<ops.size:=by omega
  have m:ops.toList.drop i=ops[i]::ops.toList.drop (i+1):=by rw[YE (by simpa using K)];simp
  rw[m]at G c;simp only[bu]at G c;rw[Zd,wpOpsIn_cons];refine I1 f (b:=b) (N:=b+i) (λh=>by have:=Z _ h;omega) Z (by simp[K]) (Mg G) λg' t T J Y A=>?_;exact j (i+1) _ g' t T J (v.trans Y) (λr O=>by
                                 rcases A r O with h|h;· have:=Z r h;omega
                                 omega) om G c
variable{a:Option Nat}{y:Oper}
def tmpOf:Operand->Option Tmp
 | .tmp t=>some t
 | _=>none
def looks(L:List Oper)(o:Oper):List Tmp :=
 (aU o.op).filterMap tmpOf++(match o.guard with|some (j,_)=>((L[j]?).bind (·.dst)).toList|none=>[])
def meets:Gm->Gm->Bool
 | .none,_|_,.none=>false
 | .reads,.reads=>false
 | _,_=>true
def Cy(C:aO)(L:List Oper)(x y:Oper):Bool :=
 (match x.dst with|some d=>!(looks L y).contains d&&y.dst != some d|none=>true) &&
 (match y.dst with|some d=>!(looks L x).contains d|none=>true) && !meets (bW C x.op) (bW C y.op)
def maker(o:Oper):Bool:=(match o.op with | .alloc _ | .box _ _ | .makeSlice .. | .buildSlice .. => true|_=>false)&&o.guard.isNone
def Bf(op:Op):Bool:=match op with
 | .load .. | .indexAddr .. | .slice .. | .lookup .. => true
 | _=>false
def reader(o:Oper):Bool:=Bf o.op&&o.guard.isNone
def y8(C:aO)(o:Oper):Bool:=match o.op with
 | .call { callee:=.value f,.. }=>HY f
 | _=>true
def iL(L:List Oper)(x y:Oper):Bool :=
 (match x.dst with|some d=>!(looks L y).contains d&&y.dst != some d|none=>true) &&
 (match y.dst with|some d=>!(looks L x).contains d|none=>true)
def nk(C:aO)(L:List Oper)(x y:Oper):Bool :=
 Cy C L x y||(iL L x y&&L.all (y8 C)&&((maker x&&reader y)||(reader x&&maker y)||(maker x&&maker y)))
def MP(a:List Nat)(o:Oper):Nat:=o.after.toList.foldl (λs e=>if Region.binds .any e then s ||| 2^e.on ||| a.getD e.on 0 else s) 0
def eF:List Oper->List Nat->List Nat
 | [],a=>a
 | o::c,a=>eF c (a++[MP a o])
def EA(C:aO)(L:List Oper):Bool :=
 let B:=eF L []
 (List.range L.length).all λi=>(List.range i).all λj=>(B.getD i 0).testBit j||nk C L (L.getD j default) (L.getD i default)
theorem Zcl : ∀(c:List Oper)(a:List Nat),∃B,eF c a=a++B/\B.length=c.length /\ ∀(k:Nat)o,c[k]? = some o->B[k]? = some (MP (a++B.take k) o)
 | [],a=>⟨[],by simp[eF],rfl,λk o h=>by simp at h⟩
 | o::c,a=>by
  let⟨B,J,Y,A⟩:=Zcl c (a++[MP a o]);refine⟨MP a o::B,by simp[eF,J],by simp[Y],λk f X=>?_⟩;cases k with
  | zero=>simp at X;subst X;simp
  | succ k =>
   simp at X;have:=A k f X;simpa using this
theorem ZaI(a:List Nat)(j:Nat):∀(c:List Edge)(s:Nat),(c.foldl (λs e=>if Region.binds .any e then s ||| 2^e.on ||| a.getD e.on 0 else s) s).testBit j=true ->
  s.testBit j=true \/ ∃e∈c,Region.binds .any e=true/\(e.on=j\/(a.getD e.on 0).testBit j=true)
 | [],s,h=>.inl h
 | e::c,s,h=>by
  simp only[YM]at h;rcases ZaI a j c _ h with h|⟨f,J,Y,A⟩
  .
   split at h
   .
    rename_i p;simp only[Nat.testBit_or,Yc]at h;rcases h with(h|h)|h
    . exact .inl h
    . rw[Nat.testBit_two_pow]at h;exact .inr ⟨e,by simp,p,.inl (by simpa using h)⟩
    exact .inr ⟨e,by simp,p,.inr h⟩
   exact .inl h
  exact .inr ⟨f,by simp[J],Y,A⟩
theorem AL{X:Nat->Prop}(g : ∀(i:Nat)o,L[i]? = some o->X i -> ∀e∈o.after.toList,Region.binds .any e=true->X e.on) :
  ∀(i:Nat)o,L[i]? = some o->(∀e∈o.after.toList,Region.binds .any e=true->X e.on) -> ∀j,((eF L []).getD i 0).testBit j=true->X j:=by
 let⟨m,J,Y,A⟩:=Zcl L [];simp only[XZ]at J A;rw[J];intro i;induction i using Nat.strongRecOn with
 | _ i k =>
  intro o hi F j c;have a:=A i o hi;rw[List.getD,a,YV]at c;rcases ZaI _ j _ _ c with h|⟨e,f,p,h⟩
  . simp at h
  rcases h with rfl|h
  . exact F e f p
  rw[List.getD,Zc]at h;split at h
  .
   rename_i K;have n:i<m.length:=by have:=(X8.1 a).1;exact this
   have r:e.on<L.length:=by omega
   exact k e.on K L[e.on] (by simp) (g e.on _ (by simp) (F e f p)) j h
  simp at h
def aJ(P:Program)[Glob P](W:cu)(C:aO)(L:List Oper)(b i:Nat)(o:Oper)(n:Nat)(ev:Operand->D)(t:Nat->D)(h:H):D×H×Prop :=
 match o.guard with
 | none=>let r:=aW P W C true o.op ((aU o.op).map ev) h (b+i);(r.1,r.2.1,dN n o.dst=true/\r.2.2)
 | some (j,a) =>
  let c:=((L[j]?).bind (·.dst)).elim .junk t;let r:=aW P W C (l5 c a) o.op ((aU o.op).map ev) h (b+i)
  (.cond (l5 c a) r.1,h,dN n o.dst=true/\vW c=true/\bW C o.op ≠ .writes/\(l5 c a=true->r.2.2))
theorem mU{b i:Nat}:dM P W C L b i o s =
  { s with t:=s.put o.dst (aJ P W C L b i o s.n s.ev s.t s.h).1,h:=(aJ P W C L b i o s.n s.ev s.t s.h).2.1,ok:=s.ok/\(aJ P W C L b i o s.n s.ev s.t s.h).2.2 }:=by
 unfold dM aJ;cases o.guard<;>rfl
theorem Fq{b i:Nat}{s':S}(J : ∀x∈looks L o,s.t x=s'.t x):aJ P W C L b i o n s.ev s.t h=aJ P W C L b i o n s'.ev s'.t h:=by
 have a:(aU o.op).map s.ev=(aU o.op).map s'.ev:=by
  refine Y3 λx E=>?_;cases x with
  | tmp t=>exact J t (Yu.2 (.inl (Zz.2 ⟨.tmp t,E,rfl⟩)))
  | _=>rfl
 unfold aJ;cases M:o.guard with
 | none=>simp only[a]
 | some f =>
  let⟨j,c⟩:=f;have Y:((L[j]?).bind (·.dst)).elim D.junk s.t=((L[j]?).bind (·.dst)).elim D.junk s'.t:=by
   cases m:(L[j]?).bind (·.dst)with
   | none=>rfl
   | some d=>exact J d (Yu.2 (.inr (by rw[M];simp[m])))
  simp only[a,Y]
theorem QD{xs:List D}{b:Nat}(j:bW C op = .none):bz P W C op xs h b=((bz P W C op xs h' b).1,h,(bz P W C op xs h' b).2.2):=by
 unfold bz;split<;>first
  | rfl
  | (exfalso;exact Gm.noConfusion j)
  | skip
 .
  rename_i t n g;have p:C.bs=false:=by
   cases p:C.bs with
   | false=>rfl
   | true=>simp[bW,p]at j
  simp only[p,Yn,Y8];rfl
 rename_i f M argTypes;have a:C.cf=true:=by
  cases a:C.cf with
  | true=>rfl
  | false=>simp[bW,a,HY]at j
 unfold kZ;split
 . simp only[a,Zm];split<;>rfl
 . simp only[a,Zm];split<;>rfl
 rfl
theorem Za3{g:Bool}{xs:List D}{b:Nat}(j:bW C op = .none):aW P W C g op xs h b=((aW P W C g op xs h' b).1,h,(aW P W C g op xs h' b).2.2):=by
 unfold aW;split
 . rfl
 simp only;rw[QD (h:=h) (h':=h') j]
theorem OC{b i:Nat}{ev:Operand->D}{t:Nat->D}(j:bW C o.op = .none) :
  aJ P W C L b i o n ev t h=((aJ P W C L b i o n ev t h').1,h,(aJ P W C L b i o n ev t h').2.2):=by
 unfold aJ;cases o.guard with
 | none=>simp only;rw[Za3 (h:=h) (h':=h') j]
 | some a=>simp only;rw[Za3 (h:=h) (h':=h') j]
theorem Fp{b i:Nat}{ev:Operand->D}{t:Nat->D}(j:bW C o.op ≠ .writes):(aJ P W C L b i o n ev t h).2.1=h:=by
 unfold aJ;cases o.guard with
 | none =>
  simp only;unfold aW;split
  . rfl
  exact QE j
 | some a=>rfl
def Zj1{y:Gm}(h:meets .writes y=false):y = .none:=by cases y<;>simp[meets]at h ⊢
def Zj0{x:Gm}(h:meets x .writes=false):x = .none:=by cases x<;>simp[meets]at h ⊢
theorem Mh{b i:Nat}{x:Oper}(hs:iL L x y=true)(key : ∀(A B:D)(E v:H)(F K:Prop),(aJ P W C L b i x s.n s.ev s.t s.h)=(A,E,F)->(aJ P W C L b j y s.n s.ev s.t s.h)=(B,v,K) ->
   ∃V,aJ P W C L b j y s.n s.ev s.t E=(B,V,K)/\aJ P W C L b i x s.n s.ev s.t v=(A,V,F)):dM P W C L b j y (dM P W C L b i x s)=dM P W C L b i x (dM P W C L b j y s):=by
 simp only[iL,XU]at hs;let⟨J,Y⟩:=hs;have Z : ∀d,x.dst=some d->d ∉ looks L y/\y.dst≠some d:=by intro d m;rw[m]at J;simp only[XU,Ya,ZN]at J;exact⟨by simpa using J.1,J.2⟩
 have ny : ∀d,y.dst=some d->d ∉ looks L x:=by intro d m;rw[m]at Y;simpa using Y
 have k : ∀{u:Oper}{s:S}{g:Option Tmp}{r:D},(∀d,g=some d->d ∉ looks L u) -> ∀z∈looks L u,s.t z=(S.put s g r) z:=by
  intro u s g r m z V;cases g with
  | none=>rfl
  | some d=>exact(aI _ _ _ _ (λe=>m d rfl (by rw[<-e];exact V))).symm
 have ly : ∀{I:H}{f:Prop}{r:D}{n:Nat}{h:H},aJ P W C L b j y n (S.ev { s with t:=s.put x.dst r,h:=I,ok:=f }) (s.put x.dst r) h=aJ P W C L b j y n s.ev s.t h :=
  λ{I f r n h}=>(Fq (s:=s) (s':={ s with t:=s.put x.dst r,h:=I,ok:=f }) (k λd m=>(Z d m).1)).symm
 have lx : ∀{I:H}{f:Prop}{r:D}{n:Nat}{h:H},aJ P W C L b i x n (S.ev { s with t:=s.put y.dst r,h:=I,ok:=f }) (s.put y.dst r) h=aJ P W C L b i x n s.ev s.t h :=
  λ{I f r n h}=>(Fq (s:=s) (s':={ s with t:=s.put y.dst r,h:=I,ok:=f }) (k λd m=>ny d m)).symm
 rw[mU (s:=s) (o:=x),mU (s:=s) (o:=y),mU (o:=y),mU (o:=x)];simp only[ly,lx];have w : ∀r q,S.put { s with t:=s.put x.dst r } y.dst q=S.put { s with t:=s.put y.dst q } x.dst r:=by
  intro r q;cases E:x.dst with
  | none=>rfl
  | some d =>
   cases v:y.dst with
   | none=>rfl
   | some X =>
    have N:d≠X:=λe=>(Z d E).2 (by rw[v,e]);funext z;simp only[S.put,upd];by_cases M:z=d
    . have:z≠X:=λe=>N (M▸e);simp[M,N]
    simp[M]
 have p : ∀r q J O Y R,S.put { s with t:=s.put x.dst r,h:=J,ok:=O } y.dst q=S.put { s with t:=s.put y.dst q,h:=Y,ok:=R } x.dst r:=λr q _ _ _ _=>w r q;rcases T:aJ P W C L b i x s.n s.ev s.t s.h with⟨A,E,F⟩
 rcases U:aJ P W C L b j y s.n s.ev s.t s.h with⟨B,v,K⟩
 let⟨V,G,k2⟩:=key A B E v F K T U;simp only[G,k2];congr 1
 . exact p _ _ _ _ _ _
 exact propext ⟨λ⟨⟨a,b⟩,c⟩=>⟨⟨a,c⟩,b⟩,λ⟨⟨a,b⟩,c⟩=>⟨⟨a,c⟩,b⟩⟩
def ZaV{b i:Nat}{x:Oper}(m:Cy C L x y=true):dM P W C L b j y (dM P W C L b i x s)=dM P W C L b i x (dM P W C L b j y s):=by
 simp only[Cy,XU,Ya]at m;let⟨⟨J,Y⟩,A⟩:=m;refine Mh (by simp only[iL,XU];exact⟨J,Y⟩) ?_;generalize k:bW C x.op=cx at A;generalize g:bW C y.op=cy at A;intro p r E o t u c O;have n:E=(aJ P W C L b i x s.n s.ev s.t s.h).2.1:=by rw[c]
 have f:o=(aJ P W C L b j y s.n s.ev s.t s.h).2.1:=by rw[O]
 by_cases w:cx = .writes
 . have I:cy = .none:=Zj1 (w▸A);subst I;rw[Fp (by rw[g];simp)]at f;subst f;refine⟨E,?_,c⟩;rw[OC (h:=E) (h':=s.h) g,O]
 rw[Fp (by rw[k];exact w)]at n;subst n;by_cases I:cy = .writes
 . have a:cx = .none:=Zj0 (I▸A);refine⟨o,O,?_⟩;rw[OC (h:=o) (h':=s.h) (by rw[k,a]),c]
 rw[Fp (by rw[g];exact I)]at f;subst f;exact⟨s.h,O,c⟩
def bF(P:Program)[Glob P](W:cu)(C:aO)(L:List Oper)(b:Nat)(s:S)(i:Nat):S:=match L[i]? with
 | some o=>dM P W C L b i o s
 | none=>s
theorem GN [Glob P]{W:cu}{L:List Oper}{b:Nat}:∀{l:List Nat}{s:S},(l.foldl (bF P W C L b) s).ok->s.ok
 | [],_,h=>h
 | i::l,s,h=>by
  have J:=GN (l:=l) h;unfold bF at J;split at J
  . exact QA J
  exact J
theorem ZaT{b:Nat}:∀(k i:Nat)(s:S),i+k=L.length->bu P W C L b i (L.drop i) s=(List.range' i k).foldl (bF P W C L b) s:=by
 intro k;induction k with
 | zero =>
  intro i s X;rw[Y5 (by omega)];simp[bu]
 | succ k a =>
  intro i s X;have K:i<L.length:=by omega
  rw[YE K,Zd];simp only[bu,YM];rw[a (i+1) _ (by omega)];congr 1;simp[bF,K]
def named(n:Nat):D->Bool
 | .mrow r _ _=>r==n
 | .mptr r _ _=>r==n
 | .mp r=>r==n
 | _=>false
theorem ZkW{a:D}(hn:named n a=false):zW (upd h n (some bl)) a=zW h a:=by
 cases a with
 | mp r =>
  have:r≠n:=by simpa[named]using hn
  show(upd h n (some bl) r).bind rZ=(h r).bind rZ;rw[aI _ _ _ _ this]
 | _=>rfl
theorem WS{ok:Bool}{m k:D}(hn:named n m=false):tZ P t ok m k (upd h n (some bl))=tZ P t ok m k h:=by unfold tZ;rw[ZkW hn]
theorem Zkz{a:D}(hn:named n a=false):iN a (upd h n (some bl))=iN a h:=by
 cases a with
 | mptr r i off =>
  have:r≠n:=by simpa[named]using hn
  simp only[iN,aI _ _ _ _ this]
 | _=>rfl
theorem Xg{a:D}(hn:named n a=false):jG P a (upd h n (some bl))=jG P a h:=by
 unfold jG;split
 . rfl
 exact Zkz hn
theorem Zaj{x K:D}(hn:named n x=false):jH P t x K (upd h n (some bl))=jH P t x K h:=by
 unfold jH;cases bS P t with
 | none=>rfl
 | some e =>
  cases x with
  | mrow r off W =>
   have:r≠n:=by simpa[named]using hn
   cases K with
   | v y=>cases y<;>first|rfl|simp only[aI _ _ _ _ this]
   | _=>rfl
  | list f V =>
   cases K with
   | v y=>cases y<;>rfl
   | _=>rfl
  | _=>cases K<;>rfl
theorem TR{x:D}{l hh m:Option D}(hn:named n x=false):rE P t x l hh m (upd h n (some bl))=rE P t x l hh m h:=by
 cases x with
 | mrow r off W =>
  have:r≠n:=by simpa[named]using hn
  simp only[rE,aI _ _ _ _ this]
 | v y=>cases y<;>rfl
 | list f V=>simp only[rE]
 | _=>rfl
theorem Kw(j:Bf op=true):(∃t x,op = .load t x)\/(∃t x y,op = .indexAddr t x y)\/(∃t x l hh m,op = .slice t x l hh m)\/(∃t m k a,op = .lookup t m k a):=by
 unfold Bf at j;split at j<;>first
  | cases j
  | skip
 . exact .inl ⟨_,_,rfl⟩
 . exact .inr (.inl ⟨_,_,_,rfl⟩)
 . exact .inr (.inr (.inl ⟨_,_,_,_,_,rfl⟩))
 exact .inr (.inr (.inr ⟨_,_,_,_,rfl⟩))
theorem ZhL{xs:List D}{b:Nat}(j:Bf op=true)(hn : ∀d∈xs,named n d=false) :
  bz P W C op xs (upd h n (some bl)) b=((bz P W C op xs h b).1,upd h n (some bl),(bz P W C op xs h b).2.2):=by
 rcases Kw j with⟨t,x,rfl⟩|⟨t,x,y,rfl⟩|⟨t,x,l,p,m,rfl⟩|⟨t,m,k,g,rfl⟩
 .
  match xs,hn with
  | [],_=>rfl
  | [a],hn=>simp only[bz,still,nU,Xg (hn a (by simp))]
  | _::_::_,_=>rfl
 .
  match xs,hn with
  | [],_=>rfl
  | [_],_=>rfl
  | [a,c],hn=>simp only[bz,still,Zaj (hn a (by simp))]
  | _::_::_::_,_=>rfl
 .
  match xs,hn with
  | [],_=>rfl
  | a::f,hn=>simp only[bz,still,TR (hn a (by simp))]
 match xs,hn with
 | [],_=>rfl
 | [_],_=>rfl
 | [a,c],hn=>simp only[bz,still,WS (hn a (by simp))]
 | _::_::_::_,_=>rfl
theorem KU{a:D}(hn:named n a=true):(∃off W,a = .mrow n off W)\/(∃i off,a = .mptr n i off)\/a = .mp n:=by
 cases a with
 | mrow r off W =>
           have:r=n:=by simpa[named]using hn
           subst this;exact .inl ⟨_,_,rfl⟩
 | mptr r i off =>
          have:r=n:=by simpa[named]using hn
          subst this;exact .inr (.inl ⟨_,_,rfl⟩)
 | mp r =>
      have:r=n:=by simpa[named]using hn
      subst this;exact .inr (.inr rfl)
 | _=>cases hn
theorem ZhK{xs:List D}{b:Nat}(j:Bf op=true)(g:h n=none)(hok:(bz P W C op xs h b).2.2) :
  bz P W C op xs (upd h n (some bl)) b=((bz P W C op xs h b).1,upd h n (some bl),(bz P W C op xs h b).2.2):=by
 rcases Kw j with⟨t,x,rfl⟩|⟨t,x,y,rfl⟩|⟨t,x,l,p,m,rfl⟩|⟨t,m,k,u,rfl⟩
 .
  match xs,hok with
  | [a],hok =>
   cases f:named n a with
   | false=>simp only[bz,still,nU,Xg f]
   | true =>
    exfalso;simp only[bz,still,nU]at hok;let⟨B,v,_⟩:=hok;rcases KU f with⟨off,o,rfl⟩|⟨i,off,rfl⟩|rfl<;>simp[jG,iN,g]at B<;>omega
 .
  match xs,hok with
  | [a,c],hok =>
   cases f:named n a with
   | false=>simp only[bz,still,Zaj f]
   | true =>
    rcases KU f with⟨off,o,rfl⟩|⟨i,off,rfl⟩|rfl
    .
     exfalso;simp only[bz,still]at hok;unfold jH at hok;split at hok
     .
      unfold yM at hok;split at hok
      . exact absurd hok.1 (by simp[BJ])
      exact hok
     split at hok
     . rename_i e;cases e
     . rename_i e;cases e;rw[g]at hok;exact hok.2.2.2
     exact hok
    .
     have e : ∀I,jH P t (.mptr n i off) c I=jH P t (.mptr n i off) c h:=by intro I;unfold jH;cases bS P t<;>rfl
     simp only[bz,still,e]
    exfalso;simp only[bz,still]at hok;unfold jH at hok;split at hok
    .
     unfold yM at hok;split at hok
     . exact absurd hok.1 (by simp[BJ])
     exact hok
    exact hok
 .
  match xs,hok with
  | a::r,hok =>
   cases f:named n a with
   | false=>simp only[bz,still,TR f]
   | true =>
    exfalso;simp only[bz,still]at hok;rcases KU f with⟨off,o,rfl⟩|⟨i,off,rfl⟩|rfl
    .
     simp only[rE]at hok;split at hok
     . exact hok
     simp only[g]at hok;exact hok.2.2.2
    . exact hok
    exact hok
 match xs,hok with
 | [a,c],hok =>
  cases f:named n a with
  | false=>simp only[bz,still,WS f]
  | true =>
   exfalso;simp only[bz,still]at hok;rcases KU f with⟨off,o,rfl⟩|⟨i,off,rfl⟩|rfl
   .
    unfold tZ at hok;split at hok
    . rename_i e;cases e
    exact hok
   .
    unfold tZ at hok;split at hok
    . rename_i e;cases e
    exact hok
   unfold tZ at hok;split at hok
   . rename_i e;simp only[zW,g]at e;cases e
   exact hok
theorem Zj8(v:(match op with | .alloc _ | .box _ _ | .makeSlice .. | .buildSlice .. => true|_=>false)=true)(xs:List D)(b:Nat) :
  ∃r p,(∃R,∀h,bz P W C op xs h b=(r,upd h b (some R),p)) \/ ∀h,bz P W C op xs h b=(r,h,p):=by
 cases op with
 | alloc e =>
  match xs with
  | []=>exact⟨_,_,.inl ⟨_,λh=>rfl⟩⟩
  | _::_=>exact⟨_,_,.inr λh=>rfl⟩
 | box e x =>
  match xs with
  | []=>exact⟨_,_,.inr λh=>rfl⟩
  | [a]=>exact⟨_,_,.inl ⟨_,λh=>rfl⟩⟩
  | _::_::_=>exact⟨_,_,.inr λh=>rfl⟩
 | buildSlice t n g =>
  cases f:C.bs with
  | false=>exact⟨_,_,.inr λh=>by simp only[bz,f,Yn,Y8,still];rfl⟩
  | true =>
   cases J:bS P t with
   | none=>exact⟨_,_,.inr λh=>by simp only[bz,f,Zm,wM,J];rfl⟩
   | some e=>exact⟨_,_,.inl ⟨_,λh=>by simp only[bz,f,Zm,wM,J];rfl⟩⟩
 | makeSlice t x y =>
  match xs with
  | []=>exact⟨_,_,.inr λh=>rfl⟩
  | [_]=>exact⟨_,_,.inr λh=>rfl⟩
  | _::_::_::_=>exact⟨_,_,.inr λh=>rfl⟩
  | [a,c] =>
   have O : ∃r p,(∃R,∀h,rW P t h b a c=(r,upd h b (some R),p)) \/ ∀h,rW P t h b a c=(r,h,p):=by
    by_cases v : ∃k n w m,a = .v (.int k n)/\c = .v (.int w m)
    .
     obtain⟨k,n,w,m,rfl,rfl⟩:=v;cases J:bS P t with
     | none=>exact⟨_,_,.inr λh=>by simp only[rW,J];rfl⟩
     | some e=>exact⟨_,_,.inl ⟨_,λh=>by simp only[rW,J];rfl⟩⟩
    refine⟨.junk,False,.inr λh=>?_⟩;unfold rW;split
    . exact absurd ⟨_,_,_,_,rfl,rfl⟩ v
    rfl
   exact O
 | _=>cases v
theorem ZaJ [Glob P]{W:cu}{L:List Oper}{b i:Nat}:∀(a:List Nat)(s:S),(∀j∈a,∀x y,L[j]? = some x->L[i]? = some y->Cy C L x y=true) ->
  bF P W C L b (a.foldl (bF P W C L b) s) i=a.foldl (bF P W C L b) (bF P W C L b s i)
 | [],s,_=>rfl
 | j::a,s,h=>by
  simp only[YM];rw[ZaJ a _ (λf c=>h f (by simp[c]))];congr 1;unfold bF;cases A:L[j]? with
  | none=>rfl
  | some x =>
   cases hi:L[i]? with
   | none=>rfl
   | some y=>exact ZaV (h j (by simp) x y A hi)
def K3{b i:Nat}{ev:Operand->D}{t:Nat->D}(v:maker o=true) :
  ∃r p,(∃R,∀h,aJ P W C L b i o n ev t h=(r,upd h (b+i) (some R),p)) \/ ∀h,aJ P W C L b i o n ev t h=(r,h,p):=by
 simp only[maker,XU,Zi]at v;let⟨J,Y⟩:=v;have F:fC o.op=false:=by cases a:o.op<;>rw[a]at J<;>first|rfl|cases J
 let⟨r,p,h⟩:=Zj8 (P:=P) (C:=C) (W:=W) J (((aU o.op).map ev).map sd) (b+i);refine⟨r,dN n o.dst=true/\((true:Bool)=true->((aU o.op).map ev).all sg=true)/\p,?_⟩;rcases h with⟨R,h⟩|h
 . refine .inl ⟨R,λc=>?_⟩;unfold aJ;simp only[Y];unfold aW;simp only[F,Yn,Y8,h]
 refine .inr λc=>?_;unfold aJ;simp only[Y];unfold aW;simp only[F,Yn,Y8,h]
theorem Oe(j:Bf op=true):fC op=false:=by rcases Kw j with⟨t,x,rfl⟩|⟨t,x,y,rfl⟩|⟨t,x,l,p,m,rfl⟩|⟨t,m,k,a,rfl⟩<;>rfl
def GY(hr:reader o=true):Bf o.op=true/\o.guard=none:=by simp only[reader,XU,Zi]at hr;exact hr
def UZ(hr:reader o=true):bW C o.op ≠ .writes:=by rcases Kw (GY hr).1 with⟨t,x,e⟩|⟨t,x,y,e⟩|⟨t,x,l,p,m,e⟩|⟨t,m,k,a,e⟩<;>simp[e,bW]
def UY{b i m:Nat}{ev:Operand->D}{t:Nat->D}(hr:reader o=true)(hn:(∀d∈(aU o.op).map ev,named m (sd d)=false)\/(h m=none/\(aJ P W C L b i o n ev t h).2.2)) :
  aJ P W C L b i o n ev t (upd h m (some bl))=((aJ P W C L b i o n ev t h).1,upd h m (some bl),(aJ P W C L b i o n ev t h).2.2):=by
 let⟨j,M⟩:=GY hr;have F:=Oe j;have O:bz P W C o.op (((aU o.op).map ev).map sd) (upd h m (some bl)) (b+i)=((bz P W C o.op (((aU o.op).map ev).map sd) h (b+i)).1,upd h m (some bl),(bz P W C o.op (((aU o.op).map ev).map sd) h (b+i)).2.2):=by
  rcases hn with hn|⟨J,Y⟩
  . refine ZhL j λd a=>?_;obtain⟨u,J,rfl⟩:=Yp.1 a;exact hn u J
  refine ZhK j J ?_;simp only[aJ,M,aW,F,Yn,Y8]at Y;exact Y.2.2
 simp only[aJ,M,aW,F,Yn,Y8,O]
def Sv{m k x:D}(hn:h r=none):(vD P t m k x h).1 r=none:=by
 unfold vD;split
 .
  split
  .
   rename_i q R K;split
   . exact(aI _ _ _ _ (λe=>by subst e;rw[hn]at K;cases K)).trans hn
   exact hn
  exact hn
 exact hn
theorem ZmZ{xs:List D}{b:Nat}(j:(match op with | .call { callee:=.value f,.. }=>HY f|_=>true)=true)(hr:r≠b)(hn:h r=none):(bz P W C op xs h b).2.1 r=none:=by
 by_cases o:bW C op ≠ .writes
 . rw[QE o];exact hn
 have o:bW C op = .writes:=by simpa using o
 cases op with
 | alloc e =>
  match xs with
  | []=>simp only[bz,aI _ _ _ _ hr];exact hn
  | _::_=>exact hn
 | box e x =>
  match xs with
  | []=>exact hn
  | [a]=>simp only[bz,aI _ _ _ _ hr];exact hn
  | _::_::_=>exact hn
 | buildSlice t n g =>
  have p:C.bs=true:=by
   cases p:C.bs with
   | true=>rfl
   | false=>simp[bW,p]at o
  simp only[bz,p,Zm,wM];split
  . simp only[aI _ _ _ _ hr];exact hn
  exact hn
 | store t x y =>
  match xs with
  | []=>exact hn
  | [_]=>exact hn
  | _::_::_::_=>exact hn
  | [a,x] =>
   simp only[bz,lS];cases a with
   | mptr u i off =>
    simp only;cases K:h u with
    | none=>exact hn
    | some R =>
     have:r≠u:=λe=>by subst e;rw[hn]at K;cases K
     simp only[aI _ _ _ _ this];exact hn
   | _=>exact hn
 | makeMap t ro=>simp only[bz,DF,aI _ _ _ _ hr];exact hn
 | makeSlice t x y =>
  match xs with
  | []|[_]|_::_::_::_=>exact hn
  | [a,c] =>
   simp only[bz];unfold rW;split
   .
    split
    . simp only[aI _ _ _ _ hr];exact hn
    exact hn
   exact hn
 | mapUpdate t m k x =>
  match xs with
  | []|[_]|[_,_]|_::_::_::_::_=>exact hn
  | [a,c,d]=>exact Sv hn
 | insert t m k x =>
  match xs with
  | []|[_]|[_,_]|_::_::_::_::_=>exact hn
  | [a,c,d]=>exact Sv hn
 | call c =>
  let⟨callee,M,z⟩:=c;cases callee with
  | value f =>
   simp only at j;cases v:C.cf<;>simp[bW,j,v]at o
  | builtin w =>
   cases w with
   | append =>
    match xs with
    | []=>exact hn
    | [_]=>exact hn
    | _::_::_::_=>exact hn
    | [x,y] =>
     simp only[bz];split
     .
      simp only[jm];split
      . exact hn
      split
      . simp only[aI _ _ _ _ hr];exact hn
      .
       rename_i u A;cases K:h u with
       | none=>exact hn
       | some R =>
        simp only[aI _ _ _ _ hr];by_cases e:r=u
        . subst e;exact bI _ _ _
        rw[aI _ _ _ _ e];exact hn
      exact hn
     exact hn
   | _=>simp[bW]at o
  | _=>simp[bW]at o
 | _=>simp[bW]at o
theorem QB{b i:Nat}(j:y8 C o=true)(hr:r≠b+i)(hn:s.h r=none):(dM P W C L b i o s).h r=none:=by
 rw[mU];show(aJ P W C L b i o s.n s.ev s.t s.h).2.1 r=none;unfold aJ;cases o.guard with
 | some a=>exact hn
 | none =>
  simp only[aW];split
  . exact hn
  exact ZmZ j hr hn
theorem TQ{b i:Nat}{x:Oper}(hs:iL L x y=true):(aU y.op).map (dM P W C L b i x s).ev=(aU y.op).map s.ev:=by
 simp only[iL,XU]at hs;refine Y3 λz V=>?_;cases z with
 | tmp t =>
  rw[mU];show S.put s x.dst _ t=s.t t;cases m:x.dst with
  | none=>rfl
  | some d =>
   have J:=hs.1;rw[m]at J;simp only[XU,Ya,ZN]at J;have Y:d ∉ looks L y:=by simpa using J.1
   refine aI _ _ _ _ λe=>Y ?_;subst e;exact Yu.2 (.inl (Zz.2 ⟨.tmp t,V,rfl⟩))
 | _=>rfl
theorem Jp{x:Oper}(h:nk C L x y=true):iL L x y=true:=by
 unfold nk at h;simp only[Yc,XU]at h;rcases h with h|h
 . simp only[Cy,XU]at h;simp only[iL,XU];exact h.1
 exact h.1.1
def ZaU{b i:Nat}{x:Oper}(T:j≠i)(m:nk C L x y=true)(h1:maker x=true->reader y=true -> ∀d∈(aU y.op).map s.ev,named (b+j) (sd d)=false)(h2:reader x=true->maker y=true->s.h (b+i)=none/\(aJ P W C L b j x s.n s.ev s.t s.h).2.2) :
  dM P W C L b i y (dM P W C L b j x s)=dM P W C L b j x (dM P W C L b i y s):=by
 have N:=Jp m;unfold nk at m;simp only[Yc,XU]at m;rcases m with m|⟨_,(⟨v,u⟩|⟨u,v⟩)|⟨v,z⟩⟩
 . exact ZaV m
 .
  refine Mh N λI J E w K M f O=>?_;obtain⟨r,p,⟨R,h⟩|h⟩:=K3 (P:=P) (C:=C) (W:=W) (L:=L) (b:=b) (i:=j) (ev:=s.ev) (t:=s.t) (n:=s.n) v
  .
   have A:=UY (P:=P) (C:=C) (W:=W) (L:=L) (b:=b) (i:=i) (t:=s.t) (n:=s.n) (h:=s.h) (bl:=R) u (.inl (h1 v u));have a:=h s.h;rw[f]at a;cases a;refine⟨upd s.h (b+j) (some R),by rw[A,O],?_⟩;have:w=s.h:=by have:=Fp (P:=P) (W:=W) (L:=L) (b:=b) (i:=i) (ev:=s.ev) (t:=s.t) (n:=s.n) (h:=s.h) (C:=C) (o:=y) (UZ u);rw[O]at this;exact this
   rw[h w,this]
  have a:=h s.h;rw[f]at a;cases a;exact⟨w,O,h w⟩
 .
  refine Mh N λI J E w K M f O=>?_;have F:E=s.h:=by have:=Fp (P:=P) (W:=W) (L:=L) (b:=b) (i:=j) (ev:=s.ev) (t:=s.t) (n:=s.n) (h:=s.h) (C:=C) (o:=x) (UZ u);rw[f]at this;exact this
  subst F;obtain⟨r,p,⟨R,h⟩|h⟩:=K3 (P:=P) (C:=C) (W:=W) (L:=L) (b:=b) (i:=i) (ev:=s.ev) (t:=s.t) (n:=s.n) v
  . have A:=UY (P:=P) (C:=C) (W:=W) (L:=L) (b:=b) (i:=j) (t:=s.t) (n:=s.n) (h:=s.h) (bl:=R) u (.inr (h2 u v));have a:=h s.h;rw[O]at a;cases a;exact⟨_,O,by rw[A,f]⟩
  have a:=h s.h;rw[O]at a;cases a;exact⟨_,O,f⟩
 refine Mh N λI J E w K M f O=>?_;let⟨Y,g,G⟩:=K3 (P:=P) (C:=C) (W:=W) (L:=L) (b:=b) (i:=j) (ev:=s.ev) (t:=s.t) (n:=s.n) v;let⟨Z,k,c⟩:=K3 (P:=P) (C:=C) (W:=W) (L:=L) (b:=b) (i:=i) (ev:=s.ev) (t:=s.t) (n:=s.n) z;rcases G with⟨U,G⟩|G<;>rcases c with⟨V,c⟩|c<;>rw[G]at f<;>rw[c]at O<;>cases f<;>cases O
 . refine⟨_,c _,?_⟩;rw[G];congr 2;funext q;by_cases B:q=b+j<;>by_cases X:q=b+i<;>simp[upd,B,X]<;>omega
 . exact⟨_,c _,G _⟩
 . exact⟨_,c _,G _⟩
 exact⟨_,c _,G _⟩
theorem Zg5{b:Nat}(h : ∀x,L[j]? = some x->iL L x y=true):(aU y.op).map (bF P W C L b s j).ev=(aU y.op).map s.ev:=by
 unfold bF;cases A:L[j]? with
 | none=>rfl
 | some x=>exact TQ (h x A)
theorem LQ [Glob P]{W:cu}{L:List Oper}{b:Nat}{y:Oper}:∀(a:List Nat)(s:S),(∀j∈a,∀x,L[j]? = some x->iL L x y=true)->(aU y.op).map (a.foldl (bF P W C L b) s).ev=(aU y.op).map s.ev
 | [],s,_=>rfl
 | j::a,s,h=>by simp only[YM];rw[LQ a _ λk X=>h k (by simp[X]),Zg5 (h j (by simp))]
theorem Qm [Glob P]{W:cu}{L:List Oper}{b i:Nat}{y:Oper}(hi:L[i]? = some y):∀(a:List Nat)(s:S),(∀j∈a,j≠i /\ ∀x,L[j]? = some x->nk C L x y=true) ->
  (reader y=true -> ∀j∈a,∀d∈(aU y.op).map s.ev,named (b+j) (sd d)=false)->s.h (b+i)=none->(a.foldl (bF P W C L b) s).ok ->
  bF P W C L b (a.foldl (bF P W C L b) s) i=a.foldl (bF P W C L b) (bF P W C L b s i)
 | [],s,_,_,_,_=>rfl
 | j::a,s,h,O,hh,hok=>by
  simp only[YM]at hok ⊢;have t:=(h j (by simp)).1;have c:=GN hok;cases A:L[j]? with
  | none =>
   have e : ∀u,bF P W C L b u j=u:=λu=>by simp only[bF,A]
   rw[e s,e]at *;exact Qm hi a s (λk X=>h k (by simp[X])) (λg k X=>O g k (by simp[X])) hh hok
  | some x =>
   have m:=(h j (by simp)).2 x A;have e : ∀u,bF P W C L b u j=dM P W C L b j x u:=λu=>by simp only[bF,A]
   have z : ∀u,bF P W C L b u i=dM P W C L b i y u:=λu=>by simp only[bF,hi]
   have f:bF P W C L b (bF P W C L b s j) i=bF P W C L b (bF P W C L b s i) j:=by rw[e,e,z,z];refine ZaU t m (λ_ g=>O g j (by simp)) λ_ _=>⟨hh,?_⟩;rw[e,mU]at c;exact c.2
   rw[<-f];unfold nk at m;by_cases n:L.all (y8 C)=true
   .
    refine Qm hi a _ (λk X=>h k (by simp[X])) (λg k X=>?_) ?_ hok
    . rw[e,TQ (Jp ((h j (by simp)).2 x A))];exact O g k (by simp[X])
    rw[e];refine QB (YA.1 n x (Ym A)) om hh
   have o : ∀k∈a,∀x v,L[k]? = some x->L[i]? = some v->Cy C L x v=true:=by
    intro k X B v w p;rw[hi]at p;cases p;have:=(h k (by simp[X])).2 B w;unfold nk at this;have r:L.all (y8 C)=false:=by simpa using n
    simpa[r]using this
   exact ZaJ a _ o
theorem UR{d:D}(hr:ae w g d v)(M:sg d=true)(hn:named n (sd d)=true):g.U n:=by
 have O : ∀{d:D},ae w g d v->named n d=true->g.U n:=by
  intro d hr hn;cases hr with
  | mrow r off W x E Z h=>exact(show r=n by simpa[named]using hn)▸Z
  | mptr r i off x E Z h=>exact(show r=n by simpa[named]using hn)▸Z
  | mp r x E Z h=>exact(show r=n by simpa[named]using hn)▸Z
  | _=>cases hn
 cases d with
 | cond g d =>
  cases hr with
  | cond _ _ _ c a=>exact O (c M) hn
 | _=>exact O hr hn
def Mq{a:Act}(hs:St P B s g a w):St P B s g a { w with drawn:=w.drawn+1 }/\ay g g w { w with drawn:=w.drawn+1 }:=by
 have m:ay g g w { w with drawn:=w.drawn+1 }:=⟨rfl,rfl,rfl,XW _,λ_=>Nat.le_succ _,λ_ h=>h,λ_ _=>.inl rfl,λr _ c s h=>.inl ⟨r,c,s,h⟩,λ_ h=>h,λ_ h=>.inl h,λ_ _ _=>rfl⟩;refine⟨⟨hs.sz,λi=>(hs.tm i).later hs.mem m,⟨hs.mem.dead,λr R O=>?_,hs.mem.inj,hs.mem.used,hs.mem.imm,hs.mem.gr.later (hs.mem.kept m)⟩,hs.df.later hs.mem m,Env.later hs.mem m hs.en,hs.bd⟩,m⟩;let⟨G,c,J,Y,A,f,U⟩:=hs.mem.blk r R O;refine⟨G,c,J,Y,A,f,?_⟩;rcases U with U|⟨b,L,rfl,W,k,T,V⟩
 . exact .inl U
 exact .inr ⟨b,L,rfl,W,k,T,λi row hi=>⟨(V i row hi).1,λj d n=>by let⟨u,o,p,t⟩:=(V i row hi).2 j d n;exact⟨u,o,p,t.later hs.mem m⟩⟩⟩
def todo(n:Nat)(F:Array Bool):List Nat:=(List.range n).filter λi=>!F.getD i false
def Po(L:List Oper)(k:Nat)(z:Tmp):Bool:=(List.range L.length).all λm=>decide (m<k)||(L.getD m default).dst != some z
theorem keep1{b:Nat}{z:Tmp}{k:Nat}(h : ∀o,L[k]? = some o->o.dst≠some z):(bF P W C L b s k).t z=s.t z:=by
 unfold bF;cases X:L[k]? with
 | none=>rfl
 | some o =>
  have:=h o X;simp only;rw[mU];show S.put s o.dst _ z=s.t z;cases m:o.dst with
  | none=>rfl
  | some d=>exact aI _ _ _ _ λe=>this (by rw[m,e])
theorem keeps [Glob P]{W:cu}{L:List Oper}{b:Nat}{z:Tmp}:∀(l:List Nat)(s:S),(∀k∈l,∀o,L[k]? = some o->o.dst≠some z)->(l.foldl (bF P W C L b) s).t z=s.t z
 | [],s,_=>rfl
 | k::l,s,h=>by simp only[YM];rw[keeps l _ λm v=>h m (by simp[v]),keep1 (h k (by simp))]
def XB{k:Nat}{z:Tmp}(h:Po L k z=true){m:Nat}(v:k<=m):∀o,L[m]? = some o->o.dst≠some z:=by
 intro o t;have a:m<L.length:=(X8.1 t).1;simp only[Po,YA,Zk,Yc,XY,ZN]at h;rcases h m a with h|h
 . omega
 simpa only[List.getD,t,YV]using h
theorem Mf{b:Nat}:∀(k i:Nat)(s:S),i+k<=L.length->bu P W C L b i ((L.drop i).take k) s=(List.range' i k).foldl (bF P W C L b) s:=by
 intro k;induction k with
 | zero=>intro i s _;simp[bu]
 | succ k a =>
  intro i s X;have K:i<L.length:=by omega
  rw[YE K,X5,Zd];simp only[bu,YM];rw[a (i+1) _ (by omega)];congr 1;simp[bF,K]
theorem ZkA{a:D}(hn : ∀r,named r a=true->h' r=h r):iN a h'=iN a h:=by
 cases a with
 | mptr r i off =>
  have:=hn r (by simp[named]);simp only[iN,this]
 | _=>rfl
theorem Xh{a:D}(hn : ∀r,named r a=true->h' r=h r):jG P a h'=jG P a h:=by
 unfold jG;split
 . rfl
 exact ZkA hn
def Mem.only(g:Mem)(h':H):Mem:={ M:=λr=>if(h' r).isSome then g.M r else none,U:=g.U,I:=g.I }
def VQ(r:Nat)(_:g.U r):(g.only h').M r=g.M r\/(g.only h').M r=none:=by
 show(if(h' r).isSome then g.M r else none)=g.M r\/(if(h' r).isSome then g.M r else none)=none;split
 . exact .inl rfl
 exact .inr rfl
def xx:ay g (g.only h') w w:=by
 refine⟨rfl,rfl,rfl,XW _,λ_=>XW _,λ_ h=>h,VQ,λr b c s h=>.inl ⟨r,c,s,?_⟩,λ_ h=>h,λ_ h=>.inl h,λ_ _ _=>rfl⟩;have h':(if(h' r).isSome then g.M r else none)=some (some b,c,s):=h;split at h'
 . exact h'
 cases h'
theorem ae.only{d:D}(h:ae w g d v):ae w (g.only h') d v :=
 ae.mono (g:=g) (g':=g.only h') (λ_ p=>⟨p,rfl⟩) (λ_ h=>h) VQ h
theorem HM.only(v:HM P h g w)(hh : ∀r,h' r=h r\/h' r=none):HM P h' (g.only h') w:=by
 have a : ∀{r x},(g.only h').M r=some x->g.M r=some x:=by
  intro r x e;have e:(if(h' r).isSome then g.M r else none)=some x:=e;split at e
  . exact e
  cases e
 refine⟨λr O=>?_,λr R O=>?_,λr y b c z s E B W=>v.inj _ _ _ _ _ _ _ (a B) (a W),λr O=>?_,v.imm,v.gr⟩
 . show(if(h' r).isSome then g.M r else none)=none;rw[O];rfl
 .
  have e:h r=some R:=by
   rcases hh r with e|e
   . rw[<-e];exact O
   rw[e]at O;cases O
  let⟨G,c,J,Y,A,f,U⟩:=v.blk r R e;refine⟨G,c,by show(if(h' r).isSome then g.M r else none)=_;rw[O];exact J,Y,A,f,?_⟩;rcases U with U|⟨b,L,rfl,k,n,T,V⟩
  . exact .inl U
  refine .inr ⟨b,L,rfl,k,n,T,λi row hi=>⟨(V i row hi).1,λj d m=>?_⟩⟩;let⟨u,o,p,t⟩:=(V i row hi).2 j d m;exact⟨u,o,p,t.only⟩
 cases e:(g.only h').M r with
 | none=>exact absurd e O
 | some x=>exact v.used r (by rw[a e];simp)
def ol(g:Mem)(r:Nat):Mem:={ M:=λx=>if x=r then none else g.M x,U:=g.U,I:=λb=>g.I b \/ ∃c s,g.M r=some (some b,c,s) }
theorem LP{x:Nat}{y}(e:(ol g r).M x=some y):x≠r/\g.M x=some y:=by
 have e:(if x=r then none else g.M x)=some y:=e;split at e
 . cases e
 exact⟨‹_›,e⟩
def Eo(g:Mem)(r:Nat)(w:World):ay g (ol g r) w w:=by
 refine⟨rfl,rfl,rfl,XW _,λ_=>XW _,λ_ h=>h,λx _=>?_,λx b c s e=>.inl ⟨x,c,s,(LP e).2⟩,λ_ h=>.inl h,λb p=>?_,λ_ _ _=>rfl⟩
 .
  show(if x=r then none else g.M x)=g.M x\/(if x=r then none else g.M x)=none;split
  . exact .inr rfl
  exact .inl rfl
 rcases p with p|⟨c,s,p⟩
 . exact .inl p
 exact .inr (.inr ⟨r,c,s,p⟩)
theorem FY(v:HM P h g w)(r:Nat):HM P (upd h r none) (ol g r) w:=by
 have mono:=Eo g r w;refine⟨λx E=>?_,λx R E=>?_,λx K b c f s k B W=>v.inj _ _ _ _ _ _ _ (LP B).2 (LP W).2,λx E=>?_,λb p=>?_,v.gr.later (v.kept mono)⟩
 .
  show(if x=r then none else g.M x)=none;split
  . rfl
  rename_i e;rw[aI _ _ _ _ e]at E;exact v.dead x E
 .
  by_cases e:x=r
  . subst e;rw[bI]at E;cases E
  rw[aI _ _ _ _ e]at E;let⟨G,c,J,Y,A,n,U⟩:=v.blk x R E;refine⟨G,c,by show(if x=r then none else g.M x)=_;rw[XV e];exact J,Y,A,n,?_⟩;rcases U with U|⟨b,L,rfl,o,t,T,V⟩
  . exact .inl U
  refine .inr ⟨b,L,rfl,o,t,λa=>?_,λi row hi=>⟨(V i row hi).1,λj d m=>?_⟩⟩
  .
   rcases a with a|⟨f,k,a⟩
   . exact T a
   exact e (v.inj _ _ _ _ _ _ _ J a)
  let⟨u,z,F,I⟩:=(V i row hi).2 j d m;exact⟨u,z,F,I.later v mono⟩
 .
  cases e:(ol g r).M x with
  | none=>exact absurd e E
  | some y=>exact v.used x (by rw[(LP e).2];simp)
 rcases p with p|⟨c,s,p⟩
 . exact v.imm b p
 exact(pY v p).1
def Zje : ∀{rows rows':List (List D)},aQ rows=true->(∀r∈rows',r∈rows)->aQ rows'=true:=by intro rows rows' h N;exact OV λr O=>Hg h (N r O)
def Qg(n:HM P h g w){rows:List (List D)}(hr:h r=some ⟨ty,rows⟩)(hn:aQ rows=true){k:Nat}(hk:off+k<=rows.length)(hv:ae w g (.mrow r off k) v):ae w (ol g r) (.list false ((rows.drop off).take k)) v:=by
 let J:H:=λx=>if x=r then h r else none
 have f : ∀x,J x=h x\/J x=none:=λx=>by
  by_cases e:x=r
  . subst e;exact .inl (X0 rfl)
  exact .inr (XV e)
 have j:=n.only f;have y:J r=some ⟨ty,rows⟩:=by show(if r=r then h r else none)=_;rw[X0 rfl];exact hr
 have O:aG (.mrow r off k) J=(rows.drop off).take k:=by simp only[aG,y]
 have:=Mw j (xw hv.only) ⟨by rw[y];rfl,by rw[O];simp;omega⟩;rw[O]at this;refine this.clean (Zje hn λx E=>List.mem_of_mem_drop (List.mem_of_mem_take E)) λb p=>?_;rcases p with p|⟨x,c,m,p⟩
 . exact .inl p
 have a:(if(J x).isSome then g.M x else none)=some (some b,c,m):=p;split at a
 .
  rename_i E;have:x=r:=by refine YW λe=>?_;have:J x=none:=XV e;rw[this]at E;cases E
  subst this;exact .inr ⟨c,m,a⟩
 cases a
def tX:D->List Nat
 | .mrow r _ _ | .mptr r _ _ | .mp r=>[r]
 | _=>[]
def foot(op:Op)(xs:List D)(b:Nat):List Nat:=match op,xs with
 | .load ..,[a]=>tX a
 | .alloc _,_=>[b]
 | .makeMap ..,_=>[b]
 | .call { callee:=.builtin .append,.. },[x,y]=>b::(tX x++tX y)
 | .store ..,[a,_]=>tX a
 | _,_=>[]
def Cc(C:aO)(o:Oper):Bool:=(match o.op with
 | .load .. | .alloc _ | .store .. => true
 | .makeMap .. => true
 | .call { callee:=.builtin .append,.. }=>true
 | op=>bW C op == .none)
structure Loc(f:H->D×H×Prop)(F:List Nat):Prop where
 out : ∀h r,r ∉ F->(f h).2.1 r=h r
 same : ∀h h',(∀r∈F,h r=h' r)->(f h).1=(f h').1/\(f h).2.2=(f h').2.2 /\ ∀r∈F,(f h).2.1 r=(f h').2.1 r
def Loc.comm{f g:H->D×H×Prop}{F G:List Nat}(j:Loc f F)(M:Loc g G)(m : ∀r∈F,r ∉ G)(h:H) :
  (g (f h).2.1).1=(g h).1/\(g (f h).2.1).2.2=(g h).2.2/\(f (g h).2.1).1=(f h).1/\(f (g h).2.1).2.2=(f h).2.2/\(g (f h).2.1).2.1=(f (g h).2.1).2.1:=by
 have a:=M.same (f h).2.1 h λr O=>j.out h r λq=>m r q O;have c:=j.same (g h).2.1 h λr O=>M.out h r (m r O);refine⟨a.1,a.2.1,c.1,c.2.1,?_⟩;funext r;by_cases B:r∈F
 . rw[c.2.2 r B,M.out _ r (m r B)]
 by_cases W:r∈G
 . rw[a.2.2 r W,j.out _ r B]
 rw[M.out _ r W,j.out _ r B,j.out _ r B,M.out _ r W]
def xB{f:H->D×H×Prop}(h1 : ∀h,(f h).2.1=h)(h2 : ∀h I,(f h).1=(f I).1/\(f h).2.2=(f I).2.2):Loc f [] :=
 ⟨λh r _=>by rw[h1],λh I _=>⟨(h2 h I).1,(h2 h I).2,λr O=>by cases O⟩⟩
theorem Zkf{x:Operand}{xs:List D}{b:Nat}:Loc (λh=>bz P W C (.load t x) xs h b) (foot (.load t x) xs b):=by
 match xs with
 | []=>exact xB (λ_=>rfl) λ_ _=>⟨rfl,rfl⟩
 | a::c::l=>exact xB (λ_=>rfl) λ_ _=>⟨rfl,rfl⟩
 | [a] =>
  refine⟨λh r _=>rfl,λh I p=>?_⟩;have O:nU P t a h=nU P t a I:=by
   have:jG P a h=jG P a I:=Xh λr f=>p r (by
    cases a<;>first|(simp only[named,YF]at f;subst f;exact Yk.2 rfl)|(cases f))
   unfold nU;simp only[this]
  refine⟨?_,?_,λr f=>p r f⟩
  . show(nU P t a h).1=(nU P t a I).1;rw[O]
  show(nU P t a h).2=(nU P t a I).2;rw[O]
theorem Zkh{xs:List D}{b:Nat}:Loc (λh=>bz P W C (.alloc t) xs h b) (foot (.alloc t) xs b):=by
 match xs with
 | a::l=>exact⟨λh r _=>rfl,λh I p=>⟨rfl,rfl,λr O=>p r O⟩⟩
 | [] =>
  refine⟨λh r O=>?_,λh I p=>⟨rfl,rfl,λr O=>?_⟩⟩
  . exact aI _ _ _ _ λe=>O o3f
  have:r=b:=Yk.1 O;subst this;show upd h r _ r=upd I r _ r;rw[bI,bI]
def Zke{o:Option Operand}{xs:List D}{b:Nat}:Loc (λh=>bz P W C (.makeMap t o) xs h b) (foot (.makeMap t o) xs b):=by
 refine⟨λh r O=>?_,λh I p=>⟨rfl,rfl,λr O=>?_⟩⟩
 . exact aI _ _ _ _ λe=>O o3f
 have:r=b:=Yk.1 O;subst this;show upd h r _ r=upd I r _ r;rw[bI,bI]
theorem Zkd{x y:Operand}{xs:List D}{b:Nat}:Loc (λh=>bz P W C (.store t x y) xs h b) (foot (.store t x y) xs b):=by
 match xs with
 | []=>exact xB (λ_=>rfl) λ_ _=>⟨rfl,rfl⟩
 | [a]=>exact xB (λ_=>rfl) λ_ _=>⟨rfl,rfl⟩
 | a::c::d::l=>exact xB (λ_=>rfl) λ_ _=>⟨rfl,rfl⟩
 | [a,c] =>
  cases a with
  | mptr r k off =>
   refine⟨λh q K=>?_,λh I p=>?_⟩
   .
    show(lS P t (.mptr r k off) c h).1 q=h q;have:q≠r:=λe=>K o3f;cases O:h r with
    | none=>simp only[lS,O]
    | some R=>simp only[lS,O];exact aI _ _ _ _ this
   have O:=p r (Yk.2 rfl);refine⟨rfl,?_,λq K=>?_⟩
   . show(lS P t (.mptr r k off) c h).2=(lS P t (.mptr r k off) c I).2;simp only[lS,O];cases I r<;>rfl
   have:q=r:=Yk.1 K;subst this;show(lS P t (.mptr q k off) c h).1 q=(lS P t (.mptr q k off) c I).1 q;simp only[lS,O];cases I q with
   | none=>exact O
   | some R=>simp only[bI]
  | _=>exact⟨λh q _=>rfl,λh I p=>⟨rfl,rfl,λq K=>p q K⟩⟩
theorem Zhs{y:D}(hh : ∀r∈tX y,h r=h' r):aG y h=aG y h':=by
 cases y with
 | mrow r off W=>simp only[aG,hh r (Yk.2 rfl)]
 | v x=>cases x<;>rfl
 | _=>rfl
theorem Zfc{y:D}(hh : ∀r∈tX y,h r=h' r):iy P u h y=iy P u h' y:=by
 cases y with
 | mrow r off W=>simp only[iy,hh r (Yk.2 rfl)]
 | v x=>cases x<;>rfl
 | _=>rfl
theorem Zkg{x y:D}{b:Nat}:Loc (λh=>jm P t u x y h b) (b::(tX x++tX y)):=by
 refine⟨λh r O=>?_,λh I p=>?_⟩
 .
  have a:r≠b:=λe=>O (by rw[e];simp);have E:r ∉ tX x:=λe=>O (by simp[e]);show(jm P t u x y h b).2.1 r=h r;unfold jm;cases bS P t with
  | none=>rfl
  | some e =>
   simp only;split
   . exact aI _ _ _ _ a
   .
    rename_i q n;split
    . have:r≠q:=λe=>E o3f;show upd (upd h q none) b _ r=h r;rw[aI _ _ _ _ a,aI _ _ _ _ this]
    rfl
   rfl
 have c:aG y h=aG y I:=Zhs λr O=>p r (by simp[O]);have f:iy P u h y=iy P u I y:=Zfc λr O=>p r (by simp[O]);show(jm P t u x y h b).1=(jm P t u x y I b).1/\(jm P t u x y h b).2.2=(jm P t u x y I b).2.2 /\ ∀r∈_,(jm P t u x y h b).2.1 r=(jm P t u x y I b).2.1 r;unfold jm;cases bS P t with
 | none=>exact⟨rfl,rfl,λr O=>p r O⟩
 | some e =>
  simp only[c,f];split
  .
   refine⟨rfl,rfl,λr O=>?_⟩;show upd h b _ r=upd I b _ r;by_cases q:r=b
   . subst q;rw[bI,bI]
   rw[aI _ _ _ _ q,aI _ _ _ _ q];exact p r O
  .
   rename_i q n;have g:h q=I q:=p q (by simp[tX]);rw[g];cases I q with
   | none=>exact⟨rfl,rfl,λr O=>p r O⟩
   | some R =>
    refine⟨rfl,rfl,λr O=>?_⟩;show upd (upd h q none) b _ r=upd (upd I q none) b _ r;by_cases B:r=b
    . subst B;rw[bI,bI]
    rw[aI _ _ _ _ B,aI _ _ _ _ B];by_cases W:r=q
    . subst W;rw[bI,bI]
    rw[aI _ _ _ _ W,aI _ _ _ _ W];exact p r O
  exact⟨rfl,rfl,λr O=>p r O⟩
theorem ZmY{xs:List D}{b:Nat}(g:Cc C o=true):Loc (λh=>bz P W C o.op xs h b) (foot o.op xs b):=by
 have f:bW C o.op = .none->foot o.op xs b=[]->Loc (λh=>bz P W C o.op xs h b) (foot o.op xs b):=by
  intro j k;rw[k];refine xB (λh=>?_) λh I=>?_
  . rw[QD (h':=h) j]
  rw[QD (h:=h) (h':=I) j];exact⟨rfl,rfl⟩
 unfold Cc at g;generalize o.op=op at g f;split at g
 . exact Zkf
 . exact Zkh
 . exact Zkd
 . exact Zke
 .
  rename_i M m
  match xs with
  | []=>exact xB (λ_=>rfl) λ_ _=>⟨rfl,rfl⟩
  | [a]=>exact xB (λ_=>rfl) λ_ _=>⟨rfl,rfl⟩
  | a::c::d::l=>exact xB (λ_=>rfl) λ_ _=>⟨rfl,rfl⟩
  | [x,y] =>
   show Loc (λh=>match m.toList with|[t,u]=>jm P t u x y h b|_=>(.junk,h,False)) (b::(tX x++tX y));split
   . exact Zkg
   exact⟨λh r _=>rfl,λh I p=>⟨rfl,rfl,p⟩⟩
 refine f (by simpa using g) ?_;unfold foot;split<;>first|rfl|(exfalso;simp_all)
def jV(b:Nat)(r:D×H×Prop):D×H×Prop:=match r.1 with
 | .mrow q 0 m=>if q=b then(match r.2.1 b with
  | some R=>(.list false (R.rows.take m),upd r.2.1 b none,r.2.2/\m<=R.rows.length/\aQ R.rows=true)
  | none=>(.junk,r.2.1,False))else(.junk,r.2.1,False)
 | _=>(.junk,r.2.1,False)
theorem Qi{b m:Nat}(a:h b=some bl):jV b (.mrow b 0 m,h,p)=(.list false (bl.rows.take m),upd h b none,p/\m<=bl.rows.length/\aQ bl.rows=true):=by simp only[jV,Zm,a]
theorem Zmt{b:Nat}{r:D×H×Prop}(h:(jV b r).2.2):∃m R,r.1 = .mrow b 0 m/\r.2.1 b=some R/\r.2.2/\m<=R.rows.length/\aQ R.rows=true/\jV b r=(.list false (R.rows.take m),upd r.2.1 b none,r.2.2/\m<=R.rows.length/\aQ R.rows=true):=by
 let⟨d,I,p⟩:=r;cases d with
 | mrow q off m =>
  cases off with
  | zero =>
   by_cases e:q=b
   .
    subst e;cases a:I q with
    | none=>simp only[jV,Zm,a]at h
    | some R =>
     rw[Qi a]at h;exact⟨m,R,rfl,a,h.1,h.2.1,h.2.2,Qi a⟩
   simp only[jV,XV e]at h
  | succ k=>exact h.elim
 | _=>exact h.elim
theorem Loc.frz{f:H->D×H×Prop}{F:List Nat}{b:Nat}(a:Loc f F)(g:b∈F):Loc (λh=>jV b (f h)) F:=by
 have O : ∀h,(∃m R,(f h).1 = .mrow b 0 m/\(f h).2.1 b=some R/\jV b (f h)=(.list false (R.rows.take m),upd (f h).2.1 b none,(f h).2.2/\m<=R.rows.length/\aQ R.rows=true))\/(jV b (f h)=(.junk,(f h).2.1,False) /\ ∀m R,(f h).1 = .mrow b 0 m->(f h).2.1 b≠some R):=by
  intro h;rcases j:f h with⟨d,I,p⟩
  cases d with
  | mrow q off m =>
   cases off with
   | zero =>
    by_cases e:q=b
    .
     subst e;cases g:I q with
     | none=>exact .inr ⟨by simp only[jV,Zm,g],λm R _ q=>by simp only[g]at q;cases q⟩
     | some R=>exact .inl ⟨m,R,rfl,g,Qi g⟩
    exact .inr ⟨by simp only[jV,XV e],λm R q=>absurd (by cases q;rfl) e⟩
   | succ k=>exact .inr ⟨rfl,λm R q=>by cases q⟩
  | _=>exact .inr ⟨rfl,λm R q=>by cases q⟩
 refine⟨λh r j=>?_,λh I A=>?_⟩
 .
  show(jV b (f h)).2.1 r=h r;have N:r≠b:=λe=>j (by rw[e];exact g);rcases O h with⟨m,R,_,_,e⟩|⟨e,_⟩
  . rw[e];show upd _ b none r=h r;rw[aI _ _ _ _ N];exact a.out h r j
  rw[e];exact a.out h r j
 show(jV b (f h)).1=(jV b (f I)).1/\(jV b (f h)).2.2=(jV b (f I)).2.2 /\ ∀r∈F,(jV b (f h)).2.1 r=(jV b (f I)).2.1 r;let⟨s1,B,n⟩:=a.same h I A;rcases O h with⟨m,R,G,c,e⟩|⟨e,k⟩<;>rcases O I with⟨z,o,t,u,x⟩|⟨x,w⟩
 .
  have v:m=z:=by rw[G,t]at s1;cases s1;rfl
  have y:R=o:=by have:=n b g;rw[c,u]at this;exact Zu this
  subst v;subst y;rw[e,x];refine⟨rfl,by show(_/\_)=(_/\_);rw[B],λr j=>?_⟩;show upd _ b none r=upd _ b none r;by_cases q:r=b
  . subst q;rw[bI,bI]
  rw[aI _ _ _ _ q,aI _ _ _ _ q];exact n r j
 . exact absurd (by rw[<-n b g];exact c) (w m R (by rw[<-s1];exact G))
 . exact absurd (by rw[n b g];exact u) (k z o (by rw[s1];exact t))
 rw[e,x];exact⟨rfl,rfl,n⟩
def outG(P:Program)[Glob P](W:cu)(C:aO)(L:List Oper)(b:Nat)(a:Option Nat)(i:Nat)(o:Oper)(n:Nat)(ev:Operand->D)(t:Nat->D)(h:H):D×H×Prop :=
 if a=some i then jV (b+i) (aJ P W C L b i o n ev t h)else aJ P W C L b i o n ev t h
def stepG(P:Program)[Glob P](W:cu)(C:aO)(L:List Oper)(b:Nat)(a:Option Nat)(s:S)(i:Nat):S:=match L[i]? with
 | none=>s
 | some o=>{ s with t:=s.put o.dst (outG P W C L b a i o s.n s.ev s.t s.h).1,h:=(outG P W C L b a i o s.n s.ev s.t s.h).2.1,ok:=s.ok/\(outG P W C L b a i o s.n s.ev s.t s.h).2.2 }
theorem zA{b i:Nat}(h:a≠some i):stepG P W C L b a s i=bF P W C L b s i:=by
 unfold stepG bF;cases L[i]? with
 | none=>rfl
 | some o=>simp only[outG,XV h,mU]
def VG{b i:Nat}{s':S}(J : ∀x∈looks L o,s.t x=s'.t x):outG P W C L b a i o n s.ev s.t h=outG P W C L b a i o n s'.ev s'.t h:=by unfold outG;rw[Fq J]
theorem VF{b i:Nat}{ev:Operand->D}{t:Nat->D}(g:Cc C o=true):Loc (λh=>aJ P W C L b i o n ev t h) (foot o.op (((aU o.op).map ev).map sd) (b+i)):=by
 have J:=ZmY (P:=P) (W:=W) (xs:=((aU o.op).map ev).map sd) (b:=b+i) g;cases F:fC o.op with
 | true =>
  have a:foot o.op (((aU o.op).map ev).map sd) (b+i)=[]:=by cases c:o.op<;>simp only[c,fC,Yn]at F;rfl
  rw[a];cases M:o.guard with
  | none =>
   refine xB (λh=>?_) λh I=>?_
   . simp only[aJ,M,aW,F,Zm];rfl
   simp only[aJ,M,aW,F,Zm];exact⟨rfl,rfl⟩
  | some q =>
   refine xB (λh=>?_) λh I=>?_
   . simp only[aJ,M]
   simp only[aJ,M,aW,F,Zm];exact⟨rfl,rfl⟩
 | false =>
  cases M:o.guard with
  | none =>
   refine⟨λh r O=>?_,λh I p=>?_⟩
   . show(aJ P W C L b i o n ev t h).2.1 r=h r;simp only[aJ,M,aW,F,Yn,Y8];exact J.out h r O
   show(aJ P W C L b i o n ev t h).1=(aJ P W C L b i o n ev t I).1/\(aJ P W C L b i o n ev t h).2.2=(aJ P W C L b i o n ev t I).2.2 /\ ∀r∈_,(aJ P W C L b i o n ev t h).2.1 r=(aJ P W C L b i o n ev t I).2.1 r;let⟨B,f,k⟩:=J.same h I p;simp only[aJ,M,aW,F,Yn,Y8];exact⟨B,by rw[f],k⟩
  | some q =>
   refine⟨λh r O=>?_,λh I p=>?_⟩
   . show(aJ P W C L b i o n ev t h).2.1 r=h r;simp only[aJ,M]
   show(aJ P W C L b i o n ev t h).1=(aJ P W C L b i o n ev t I).1/\(aJ P W C L b i o n ev t h).2.2=(aJ P W C L b i o n ev t I).2.2 /\ ∀r∈_,(aJ P W C L b i o n ev t h).2.1 r=(aJ P W C L b i o n ev t I).2.1 r;let⟨B,f,k⟩:=J.same h I p;simp only[aJ,M,aW,F,Yn,Y8];exact⟨by rw[B],by rw[f],λr O=>p r O⟩
def AO(o:Oper):Bool:=match o.op with
 | .call { callee:=.builtin .append,args,.. }=>args.toList.length==2
 | _=>false
def Zpx(h:AO o=true)(hr:Bf o.op=true):False:=by
 unfold AO at h;split at h
 . rename_i e;rw[e]at hr;cases hr
 cases h
theorem Zpy{ev:Operand->D}{b:Nat}(h:AO o=true):b∈foot o.op (((aU o.op).map ev).map sd) b:=by
 unfold AO at h;split at h
 .
  rename_i M a e;have Y:M.toList.length=2:=by simpa using h
  rw[e]
  match hq:M.toList,Y with
  | [x,y],_ =>
   show b∈foot _ ((M.toList.map ev).map sd) b;rw[hq];exact List.mem_cons_self
 cases h
def VH{b i:Nat}{ev:Operand->D}{t:Nat->D}(c:Cc C o=true)(hz:a=some i->AO o=true):Loc (λh=>outG P W C L b a i o n ev t h) (foot o.op (((aU o.op).map ev).map sd) (b+i)):=by
 by_cases e:a=some i
 .
  have:(λh=>outG P W C L b a i o n ev t h)=λh=>jV (b+i) (aJ P W C L b i o n ev t h):=by funext h;simp only[outG,X0 e]
  rw[this];exact(VF c).frz (Zpy (hz e))
 have:(λh=>outG P W C L b a i o n ev t h)=λh=>aJ P W C L b i o n ev t h:=by funext h;simp only[outG,XV e]
 rw[this];exact VF c
theorem Zia{x y:Option Tmp}{t:Nat->D}{n':Nat}{nx nx':Nat}{ok a:Prop}{e f:Env}{r q:D}(N : ∀d,x=some d->y≠some d):S.put { n:=n,t:=S.put { n:=n,t:=t,h:=h,nx:=nx,ok:=ok,e:=e } x r,h:=h,nx:=nx,ok:=ok,e:=e } y q=S.put { n:=n',t:=S.put { n:=n',t:=t,h:=h',nx:=nx',ok:=a,e:=f } y q,h:=h',nx:=nx',ok:=a,e:=f } x r:=by
 cases x with
 | none=>rfl
 | some d =>
  cases y with
  | none=>rfl
  | some u =>
   have N:d≠u:=λe=>N d rfl (by rw[e]);funext z;simp only[S.put,upd];by_cases c:z=d
   . have:z≠u:=λe=>N (c▸e);simp[c,N]
   simp[c]
theorem ZeK{b i:Nat}{f:Option Nat}{x:Oper}(hi:L[i]? = some x)(A:L[j]? = some y)(hs:iL L x y=true)(fx:Cc C x=true)(B:Cc C y=true)(E:f=some i->AO x=true)(F:f=some j->AO y=true)(m : ∀r∈foot x.op (((aU x.op).map s.ev).map sd) (b+i),r ∉ foot y.op (((aU y.op).map s.ev).map sd) (b+j)):stepG P W C L b f (stepG P W C L b f s i) j=stepG P W C L b f (stepG P W C L b f s j) i:=by
 simp only[iL,XU]at hs;let⟨J,Y⟩:=hs;have Z : ∀d,x.dst=some d->d ∉ looks L y/\y.dst≠some d:=by intro d m;rw[m]at J;simp only[XU,Ya,ZN]at J;exact⟨by simpa using J.1,J.2⟩
 have G : ∀d,y.dst=some d->d ∉ looks L x:=by intro d m;rw[m]at Y;simpa using Y
 have k : ∀{u:Oper}{s:S}{g:Option Tmp}{r:D},(∀d,g=some d->d ∉ looks L u) -> ∀z∈looks L u,s.t z=(S.put s g r) z:=by
  intro u s g r m z V;cases g with
  | none=>rfl
  | some d=>exact(aI _ _ _ _ (λe=>m d rfl (by rw[<-e];exact V))).symm
 have K:=(VH (P:=P) (W:=W) (L:=L) (b:=b) (i:=i) (n:=s.n) (ev:=s.ev) (t:=s.t) fx E).comm (VH (P:=P) (W:=W) (L:=L) (b:=b) (i:=j) (n:=s.n) (ev:=s.ev) (t:=s.t) B F) m s.h;let⟨w,M,N,R,T⟩:=K;have o : ∀u,stepG P W C L b f u i={ u with t:=u.put x.dst (outG P W C L b f i x u.n u.ev u.t u.h).1,h:=(outG P W C L b f i x u.n u.ev u.t u.h).2.1,ok:=u.ok/\(outG P W C L b f i x u.n u.ev u.t u.h).2.2 }:=λu=>by simp only[stepG,hi]
 have O : ∀u,stepG P W C L b f u j={ u with t:=u.put y.dst (outG P W C L b f j y u.n u.ev u.t u.h).1,h:=(outG P W C L b f j y u.n u.ev u.t u.h).2.1,ok:=u.ok/\(outG P W C L b f j y u.n u.ev u.t u.h).2.2 }:=λu=>by simp only[stepG,A]
 have U : ∀I,outG P W C L b f j y s.n (S.ev (stepG P W C L b f s i)) (stepG P W C L b f s i).t I=outG P W C L b f j y s.n s.ev s.t I:=λI=>by refine(VG (s:=s) (s':=stepG P W C L b f s i) λz V=>?_).symm;rw[o];exact k (λd m=>(Z d m).1) z V
 have X : ∀I,outG P W C L b f i x s.n (S.ev (stepG P W C L b f s j)) (stepG P W C L b f s j).t I=outG P W C L b f i x s.n s.ev s.t I:=λI=>by refine(VG (s:=s) (s':=stepG P W C L b f s j) λz V=>?_).symm;rw[O];exact k (λd m=>G d m) z V
 have p:(stepG P W C L b f s i).h=(outG P W C L b f i x s.n s.ev s.t s.h).2.1:=by rw[o]
 have v:(stepG P W C L b f s j).h=(outG P W C L b f j y s.n s.ev s.t s.h).2.1:=by rw[O]
 have ni:(stepG P W C L b f s i).n=s.n:=by rw[o]
 have nj:(stepG P W C L b f s j).n=s.n:=by rw[O]
 rw[O (stepG P W C L b f s i),o (stepG P W C L b f s j),ni,nj,U,X,p,v,w,M,N,R,T,o s,O s];congr 1
 . exact Zia λd m=>(Z d m).2
 exact propext ⟨λ⟨⟨a,b⟩,c⟩=>⟨⟨a,c⟩,b⟩,λ⟨⟨a,b⟩,c⟩=>⟨⟨a,c⟩,b⟩⟩
structure Pr where
 (j i:Nat)
def Pp(L:List Oper)(k:Nat):Bool:=(looks L (L.getD k default)).all λz=>Po L k z
def Dj(C:aO)(L:List Oper)(p:Pr):Bool:=Cc C (L.getD p.j default)&&Cc C (L.getD p.i default)&&iL L (L.getD p.j default) (L.getD p.i default)&&Pp L p.j&&Pp L p.i
def FJ(ps:List Pr)(j i:Nat):Bool:=ps.any λp=>p.j==j&&p.i==i
def LK(a:Option Nat)(i:Nat):Bool:=match a with
 | some k=>k==i
 | none=>false
def LJ(L:List Oper)(a:Option Nat):Bool:=match a with
 | some k=>AO (L.getD k default)
 | none=>true
def xW(C:aO)(L:List Oper)(a:Option Nat)(ps:List Pr):Bool :=
 let B:=eF L []
 L.all (y8 C)&&ps.all (Dj C L)&&LJ L a&&(List.range L.length).all λi=>(List.range i).all λj=>(B.getD i 0).testBit j||FJ ps j i||(!LK a i && !LK a j&&nk C L (L.getD j default) (L.getD i default))
def kW(L:List Oper)(b i:Nat)(s:S):List Nat:=foot (L.getD i default).op (((aU (L.getD i default).op).map s.ev).map sd) (b+i)
def Zax{i:Nat}(h:LK a i=false):a≠some i:=by rintro rfl;simp[LK]at h
def Qd(h:LJ L a=true){i:Nat}(e:a=some i):AO (L.getD i default)=true:=by subst e;exact h
theorem Ql{b i:Nat}{s':S}(h : ∀z∈looks L (L.getD i default),s.t z=s'.t z):kW L b i s=kW L b i s':=by
 unfold kW;congr 2;refine Y3 λx E=>?_;cases x with
 | tmp t=>exact h t (Yu.2 (.inl (Zz.2 ⟨.tmp t,E,rfl⟩)))
 | _=>rfl
theorem Tn{b k z:Nat}(h : ∀o,L[k]? = some o->o.dst≠some z):(stepG P W C L b a s k).t z=s.t z:=by
 unfold stepG;cases X:L[k]? with
 | none=>rfl
 | some o =>
  have:=h o X;show S.put s o.dst _ z=s.t z;cases m:o.dst with
  | none=>rfl
  | some d=>exact aI _ _ _ _ λe=>this (by rw[m,e])
theorem LV [Glob P]{W:cu}{L:List Oper}{b z:Nat}{a:Option Nat}:∀(l:List Nat)(s:S),(∀k∈l,∀o,L[k]? = some o->o.dst≠some z)->(l.foldl (stepG P W C L b a) s).t z=s.t z
 | [],s,_=>rfl
 | k::l,s,h=>by simp only[YM];rw[LV l _ λm v=>h m (by simp[v]),Tn (h k (by simp))]
theorem Tp{b i:Nat}(h:(stepG P W C L b a s i).ok):s.ok:=by
 unfold stepG at h;cases X:L[i]? with
 | none=>rw[X]at h;exact h
 | some o=>rw[X]at h;exact h.1
theorem LW [Glob P]{W:cu}{L:List Oper}{b:Nat}{a:Option Nat}:∀{l:List Nat}{s:S},(l.foldl (stepG P W C L b a) s).ok->s.ok
 | [],_,h=>h
 | _::l,_,h=>Tp (LW (l:=l) h)
theorem ZeM{b i:Nat}(j:L.all (y8 C)=true)(hr:r≠b+i)(hn:s.h r=none):(stepG P W C L b a s i).h r=none:=by
 by_cases e:a=some i
 .
  unfold stepG;cases X:L[i]? with
  | none=>exact hn
  | some o =>
   show(outG P W C L b a i o s.n s.ev s.t s.h).2.1 r=none;have J:=QB (P:=P) (W:=W) (C:=C) (L:=L) (b:=b) (i:=i) (o:=o) (s:=s) (YA.1 j o (Ym X)) hr hn;rw[mU]at J;have J:(aJ P W C L b i o s.n s.ev s.t s.h).2.1 r=none:=J;simp only[outG,X0 e];generalize aJ P W C L b i o s.n s.ev s.t s.h=x at J;unfold jV;split
   .
    split
    .
     split
     . show upd x.2.1 (b+i) none r=none;rw[aI _ _ _ _ hr];exact J
     exact J
    exact J
   exact J
 rw[zA e];unfold bF;cases X:L[i]? with
 | none=>exact hn
 | some o=>exact QB (YA.1 j o (Ym X)) hr hn
def WR{x:Oper}(h:iL L x y=true):∀z∈looks L y,x.dst≠some z:=by intro z V e;simp only[iL,e,XU]at h;simp[V]at h
theorem Qn [Glob P]{W:cu}{L:List Oper}{b i:Nat}{y:Oper}{g:Option Nat}{ps:List Pr}(B:L.all (y8 C)=true)(hz:LJ L g=true)(n : ∀p∈ps,Dj C L p=true)(hi:L[i]? = some y):∀(f:List Nat)(s:S),(∀j∈f,j≠i /\ ∀x,L[j]? = some x->(FJ ps j i=true\/(g≠some i/\g≠some j/\nk C L x y=true))) ->
  (∀p∈ps,p.i=i -> ∀K M,f=K++p.j::M -> ∀r∈kW L b p.j (K.foldl (stepG P W C L b g) s),r ∉ kW L b p.i s) ->
  (reader y=true -> ∀j∈f,∀d∈(aU y.op).map s.ev,named (b+j) (sd d)=false)->s.h (b+i)=none->(f.foldl (stepG P W C L b g) s).ok ->
  stepG P W C L b g (f.foldl (stepG P W C L b g) s) i=f.foldl (stepG P W C L b g) (stepG P W C L b g s i)
 | [],s,_,_,_,_,_=>rfl
 | j::f,s,h,a,O,Z,hok=>by
  simp only[YM]at hok ⊢;have ab:=(h j (by simp)).1;have w:=LW hok;have N:L.getD i default=y:=by simp only[List.getD,hi,YV]
  cases A:L[j]? with
  | none =>
   have e : ∀u,stepG P W C L b g u j=u:=λu=>by simp only[stepG,A]
   rw[e s,e]at *;refine Qn B hz n hi f s (λk X=>h k (by simp[X])) (λp F v K M G=>?_) (λR k X=>O R k (by simp[X])) Z hok;have:=a p F v (j::K) M (by simp[G]);simp only[YM,e]at this;exact this
  | some x =>
   have c:=(h j (by simp)).2 x A;have V:L.getD j default=x:=by simp only[List.getD,A,YV]
   have T:iL L x y=true:=by
    rcases c with c|c
    . simp only[FJ,ZY,XU,YF]at c;let⟨p,F,J,Y⟩:=c;have:=n p F;simp only[Dj,XU,J,Y,V,N]at this;exact this.1.1.2
    exact Jp c.2.2
   have I:stepG P W C L b g (stepG P W C L b g s j) i=stepG P W C L b g (stepG P W C L b g s i) j:=by
    rcases c with c|⟨z1,z2,c⟩
    . simp only[FJ,ZY,XU,YF]at c;let⟨p,F,J,Y⟩:=c;have X:=n p F;simp only[Dj,XU,J,Y,V,N]at X;have m:=a p F Y [] f (by simp[J]);simp only[ZH,kW,J,Y,V,N]at m;exact ZeK A hi T X.1.1.1.1 X.1.1.1.2 (λe=>by have:=Qd hz e;rwa [V]at this) (λe=>by have:=Qd hz e;rwa [N]at this) m
    rw[zA z2,zA z1,zA z1,zA z2];have e : ∀u,bF P W C L b u j=dM P W C L b j x u:=λu=>by simp only[bF,A]
    have e' : ∀u,bF P W C L b u i=dM P W C L b i y u:=λu=>by simp only[bF,hi]
    rw[e,e,e',e'];refine ZaU ab c (λ_ R=>O R j (by simp)) λ_ _=>⟨Z,?_⟩;rw[zA z2,e,mU]at w;exact w.2
   have U : ∀z∈looks L y,(stepG P W C L b g s j).t z=s.t z:=λz hz=>Tn λo ho=>by rw[A]at ho;cases ho;exact WR T z hz
   rw[<-I];refine Qn B hz n hi f _ (λk X=>h k (by simp[X])) (λp F v K M G=>?_) (λR k X=>?_) ?_ hok
   . have J:=a p F v (j::K) M (by simp[G]);simp only[YM]at J;rw[show kW L b p.i (stepG P W C L b g s j)=kW L b p.i s from Ql (by rw[v,N];exact U)];exact J
   .
    have:(aU y.op).map (stepG P W C L b g s j).ev=(aU y.op).map s.ev:=Y3 λx E=>by
     cases x with
     | tmp t=>exact U t (Yu.2 (.inl (Zz.2 ⟨.tmp t,E,rfl⟩)))
     | _=>rfl
    rw[this];exact O R k (by simp[X])
   exact ZeM B om Z
theorem ZeL{a:Act}(hs:St P B s g a w){b i N:Nat}{u:Option Nat}(p : ¬g.U (b+i))(E : ∀r,g.U r->r<N)(hi:ops[i]? = some o)(hok:(stepG P (words P) C ops.toList b u s i).ok)(v : ∀g' x T,St P B (stepG P (words P) C ops.toList b u s i) g' x T->ay g g' w T->(∀r,g'.U r->g.U r\/r=b+i)->K x T):wpOpIn (Fw ro) n P ops Q i K a w:=by
 have y:ops.toList[i]? = some o:=by rw[Zf];exact hi
 by_cases e:u=some i
 .
  have I:stepG P (words P) C ops.toList b u s i={ s with t:=s.put o.dst (jV (b+i) (aJ P (words P) C ops.toList b i o s.n s.ev s.t s.h)).1,h:=(jV (b+i) (aJ P (words P) C ops.toList b i o s.n s.ev s.t s.h)).2.1,ok:=s.ok/\(jV (b+i) (aJ P (words P) C ops.toList b i o s.n s.ev s.t s.h)).2.2 }:=by simp only[stepG,y,outG,X0 e]
  rw[I]at hok v;let⟨m,R,G,c,Y,U,J,L⟩:=Zmt hok.2;rw[L]at v;refine I1 hs p E hi (by rw[mU];exact⟨hok.1,Y⟩) λg' x T f W M=>?_;rw[mU]at f;have mono:=Eo g' (b+i) T;refine v (ol g' (b+i)) x T ⟨f.sz,λj=>?_,FY f.mem (b+i),f.df.later f.mem mono,Env.later f.mem mono f.en,f.bd⟩ (W.trans mono) M;have A:=f.tm j;show ae T _ (S.put s o.dst (.list false (R.rows.take m)) j) _;have A:ae T g' (S.put s o.dst (aJ P (words P) C ops.toList b i o s.n s.ev s.t s.h).1 j) (x.tmps.getD j undef):=A;cases F:o.dst with
  | none=>rw[F]at A;exact A.later f.mem mono
  | some d =>
   rw[F]at A;by_cases z:j=d
   . subst z;have A:ae T g' (upd s.t j _ j) _:=A;rw[bI,G]at A;show ae T _ (upd s.t j _ j) _;rw[bI];have:=Qg (ty:=R.ty) (rows:=R.rows) f.mem c J (off:=0) (k:=m) om A;simpa only[X4]using this
   have A:ae T g' (upd s.t d _ j) _:=A;rw[aI _ _ _ _ z]at A;show ae T _ (upd s.t d _ j) _;rw[aI _ _ _ _ z];exact A.later f.mem mono
 have O:stepG P (words P) C ops.toList b u s i=dM P (words P) C ops.toList b i o s:=by rw[zA e];simp only[bF,y]
 rw[O]at hok v;exact I1 hs p E hi hok v
theorem Znk{b:Nat}{w0:World}{g0:Mem}{fin:S}{fz:Option Nat}{ps:List Pr}(f:xW C ops.toList fz ps=true)(Ah : ∀p∈ps,∀r∈kW ops.toList b p.j fin,r ∉ kW ops.toList b p.i fin) :
  ∀(ac:Nat)(F:Array Bool)(s:S)(g:Mem)(a:Act)(w:World),F.size=ops.size->(todo ops.size F).length<=ac->(∀(i:Nat)o,ops.toList[i]? = some o->F.getD i false=true -> ∀e∈o.after.toList,Region.binds .any e=true->F.getD e.on false=true) ->
   (∀(i:Nat)o,ops.toList[i]? = some o -> ∀e∈o.after.toList,Region.binds .any e=true->e.on<i) ->
   St P B s g a w->ay g0 g w0 w->(∀r,g.U r->r<b \/ ∃i,F.getD i false=true/\i<ops.size/\r=b+i)->(todo ops.size F).foldl (stepG P (words P) C ops.toList b fz) s=fin->fin.ok ->
   (∀g' a' T,St P B fin g' a' T->ay g0 g' w0 T->(∀r,g'.U r->r<b+ops.size)->Q .normal a' T) ->
   wpAnyIn (Fw ro) n P .any ops Q ac F a w:=by
 have cm:ops.toList.all (y8 C)=true:=by unfold xW at f;simp only[XU]at f;exact f.1.1.1
 have ca : ∀p∈ps,Dj C ops.toList p=true:=by unfold xW at f;simp only[XU,YA]at f;exact f.1.1.2
 have V:LJ ops.toList fz=true:=by unfold xW at f;simp only[XU]at f;exact f.1.2
 have bb:=f;unfold xW at bb;simp only[XU]at bb;have bb:=bb.2;simp only[YA,Zk,Yc,XU,Ya]at bb;intro ac;induction ac with
 | zero =>
  intro F s g a w E co hX am hs v Z I G hQ;have aw:todo ops.size F=[]:=Yb om;rw[aw]at I;simp only[ZH]at I;subst I;refine⟨?_,hQ g a w hs v λr O=>?_⟩
  .
   unfold Region.ready;rw[List.filter_eq_nil_iff];intro i hi;have J:i ∉ todo ops.size F:=by rw[aw];simp
   simp only[todo,Zq,hi,true_and,Ya,Bool.not_eq_false]at J;have br:i<F.size:=by rw[E];simpa using hi
   have Y:F.getD i true=true:=by simp[Array.getD,br]at J ⊢;exact J
   simp[Y]
  rcases Z r O with h|⟨i,_,h,rfl⟩<;>omega
 | succ ac ih =>
  intro F s g a w E co hX am hs v Z I G hQ;refine⟨λcp=>?_,λi hi=>?_⟩
  .
   have aw:todo ops.size F=[]:=by
    rw[todo,List.filter_eq_nil_iff];intro i hi;simp only[Ya,Bool.not_eq_false];have K:i<ops.size:=by simpa using hi
    have : ∀k,k<ops.size->F.getD k false=true:=by
     intro k;induction k using Nat.strongRecOn with
     | _ k cq =>
      intro U;have h0:k ∉ Region.ready .any ops F:=by rw[cp];simp
      unfold Region.ready at h0;simp only[Zq,Zk,U,true_and]at h0;have aq:k<F.size:=by omega
      cases hq:F.getD k false with
      | true=>rfl
      | false =>
       exfalso;apply h0;have Y:F.getD k true=false:=by simp[Array.getD,aq]at hq ⊢;exact hq
       have h3:ops[k]? = some ops[k]:=by simp[U]
       simp only[Y,Bool.not_false,h3,YZ,YV,ZE];rw[Array.all_eq_true];intro q cG;simp only[Yc,Ya];cases hb:Region.binds .any (ops[k].after[q])with
       | false=>exact .inl rfl
       | true =>
        have b7:ops[k].after[q]∈ops[k].after.toList:=by simp
        have h4:=am k ops[k] (by simp[U]) _ b7 hb;exact .inr (cq _ h4 om)
    exact this i K
   rw[aw]at I;simp only[ZH]at I;subst I;exact hQ g a w hs v λr O=>by rcases Z r O with h|⟨i,_,h,rfl⟩<;>omega
  unfold Region.ready at hi;simp only[Zq,Zk,XU,Ya]at hi;let⟨K,J,Y⟩:=hi;have h3:ops[i]? = some ops[i]:=by simp[K]
  have vV:ops.toList[i]? = some ops[i]:=by simp[K]
  simp only[h3,YZ,YV]at Y;have br:i<F.size:=by omega
  have yQ:F.getD i false=false:=by simp[Array.getD,br]at J ⊢;exact J
  have uT : ∀e∈(ops[i]).after.toList,Region.binds .any e=true->F.getD e.on false=true:=by intro e he hb;rw[Array.all_eq_true]at Y;obtain⟨q,hq,rfl⟩:=Array.mem_iff_getElem.1 (Array.mem_toList_iff.1 he);have:=Y q hq;simp only[hb,Bool.not_true,Bool.false_or]at this;exact this
  have b7:i∈todo ops.size F:=by simp[todo,K];simpa using yQ
  let⟨M,ab,c⟩:=List.append_of_mem b7;have sD:(todo ops.size F).Pairwise (· < ·):=Z6 _ ZW;rw[c]at sD;have be : ∀j∈M,j<i:=λj A=>(Zh.1 sD).2.2 j A i (by simp);have ar : ∀j∈ab,i<j:=λj A=>(YJ.1 (Zh.1 sD).2.1).1 j A;have ci : ∀j∈M,j≠i /\ ∀x,ops.toList[j]? = some x->(FJ ps j i=true\/(fz≠some i/\fz≠some j/\nk C ops.toList x ops[i]=true)):=by
   intro j A;have cr:=be j A;refine⟨om,λx hx=>?_⟩;have bh:j∈todo ops.size F:=by rw[c];simp[A]
   have cb:F.getD j false=false:=by simp only[todo,Zq,Ya]at bh;exact bh.2
   have y:ops.toList.getD j default=x:=by simp only[List.getD,hx,YV]
   have e2:ops.toList.getD i default=ops[i]:=by simp only[List.getD,vV,YV]
   rcases bb i (by simpa using K) j cr with(h|h)|h
   . exfalso;have:=AL (L:=ops.toList) (X:=λk=>F.getD k false=true) hX i _ vV uT j h;rw[cb]at this;cases this
   . exact .inl h
   rw[y,e2]at h;exact .inr ⟨Zax h.1.1,Zax h.1.2,h.2⟩
  have Ad : ∀j∈M,∀x,ops.toList[j]? = some x->iL ops.toList x ops[i]=true:=by
   intro j A x hx;have y:ops.toList.getD j default=x:=by simp only[List.getD,hx,YV]
   have e2:ops.toList.getD i default=ops[i]:=by simp only[List.getD,vV,YV]
   rcases(ci j A).2 x hx with h|h
   . simp only[FJ,ZY,XU,YF]at h;let⟨p,hp,J,Y⟩:=h;have:=ca p hp;simp only[Dj,XU,J,Y,y,e2]at this;exact this.1.1.2
   exact Jp h.2.2
  have Ik : ∀j,j∈todo ops.size F -> ¬g.U (b+j):=by
   intro j bh hu;have cb:F.getD j false=false:=by simp only[todo,Zq,Ya]at bh;exact bh.2
   rcases Z _ hu with h|⟨k,U,_,e⟩
   . omega
   have:k=j:=by omega
   subst this;rw[cb]at U;cases U
  have cw:s.h (b+i)=none:=by
   cases hq:s.h (b+i)with
   | none=>rfl
   | some R =>
    let⟨cH,c',q1,_⟩:=hs.mem.blk _ R hq;exact absurd (hs.mem.used _ (by rw[q1];simp)) (Ik i b7)
  have bx:=G;rw[<-I,c,Za,YM]at bx;have bm:=LW bx;have PD:(M.foldl (stepG P (words P) C ops.toList b fz) s).ok:=Tp bm;have b8 : ∀z∈looks ops.toList ops[i],(M.foldl (stepG P (words P) C ops.toList b fz) s).t z=s.t z:=λz V=>LV _ _ λk U o ho=>WR (Ad k U o ho) z V;have PH:reader ops[i]=true -> ∀j∈M,∀d∈(aU (ops[i]).op).map s.ev,named (b+j) (sd d)=false:=by
   intro O j A d m;have cA:sg d=true:=by
    have e:(aU (ops[i]).op).map (M.foldl (stepG P (words P) C ops.toList b fz) s).ev=(aU (ops[i]).op).map s.ev:=Y3 λx hx=>by
     cases x with
     | tmp t=>exact b8 t (Yu.2 (.inl (Zz.2 ⟨.tmp t,hx,rfl⟩)))
     | _=>rfl
    have cC:fz≠some i:=λe=>by have:=Qd V e;simp only[List.getD,vV,YV]at this;let⟨r1,r2⟩:=GY O;exact Zpx this r1
    have cg : ∀u,stepG P (words P) C ops.toList b fz u i=dM P (words P) C ops.toList b i ops[i] u:=λu=>by rw[zA cC];simp[bF,K]
    rw[cg,mU]at bm;have Y:=bm.2;let⟨r1,r2⟩:=GY O;simp only[aJ,r2,aW,Oe r1,Yn,Y8]at Y;have h4:=Y.2.1 trivial;rw[e]at h4;exact YA.1 h4 d m
   cases hq:named (b+j) (sd d)with
   | false=>rfl
   | true =>
    exfalso;obtain⟨z,_,rfl⟩:=Yp.1 m;exact Ik j (by rw[c];simp[A]) (UR (bT hs z) cA hq)
  have cD : ∀p∈ps,p.i=i -> ∀xk Bl,M=xk++p.j::Bl -> ∀r∈kW ops.toList b p.j (xk.foldl (stepG P (words P) C ops.toList b fz) s),r ∉ kW ops.toList b p.i s:=by
   intro p hp cE xk Bl ch;have U:=ca p hp;simp only[Dj,Pp,XU,YA]at U;have f1:=Ah p hp;have cj:=(Zh.1 sD).1;rw[ch]at cj;have cl:=(YJ.1 (Zh.1 cj).2.1).1;have g1 : ∀z∈looks ops.toList (ops.toList.getD p.j default),fin.t z=(xk.foldl (stepG P (words P) C ops.toList b fz) s).t z:=by
    intro z V;rw[<-I,c,ch,YR,Za];refine LV _ _ λk bw=>XB (U.1.2 z V) ?_;have cI:p.j<i:=be p.j (by rw[ch];simp);simp only[XX,Yl,Yu]at bw;rcases bw with h|h|h|h
    . omega
    . have:=cl k h;omega
    . omega
    have:=ar k h;omega
   have e2:ops.toList.getD p.i default=ops[i]:=by rw[cE];simp only[List.getD,vV,YV]
   have g2 : ∀z∈looks ops.toList (ops.toList.getD p.i default),fin.t z=s.t z:=by
    intro z V;rw[<-I,c,Za];refine(LV (i::ab) _ λk bw=>XB (U.2 z V) ?_).trans (b8 z (by rw[<-e2];exact V));rcases Yl.1 bw with h|h
    . omega
    have:=ar k h;omega
   rw[<-Ql g1,<-Ql g2];exact f1
  have Iq:(M++ab).foldl (stepG P (words P) C ops.toList b fz) (stepG P (words P) C ops.toList b fz s i)=fin:=by rw[<-I,c,Za,Za,YM,Qn cm V ca vV M s ci cD PH cw PD]
  have b9 : ∀k,(F.setIfInBounds i true).getD k false=(F.getD k false||k==i):=by
   intro k;by_cases e:k=i
   . subst e;simp[Array.getD,br]
   rw[getD_set_ne false (Ne.symm e)];have:(k==i)=false:=by simpa using e
   rw[this,ZT]
  have bp:todo ops.size (F.setIfInBounds i true)=M++ab:=by
   have y:todo ops.size (F.setIfInBounds i true)=(todo ops.size F).filter (· != i):=by
    unfold todo;rw[List.filter_filter];refine Z5 λk _=>?_;rw[b9 k];by_cases e:k=i
    . simp[e]
    have e2:(k==i)=false:=by simpa using e
    have e3:(k != i)=true:=by simpa using e
    rw[e2,e3,ZT,ZE]
   rw[y,c,List.filter_append,List.filter_cons];have p1:M.filter (· != i)=M:=Y1.2 λj A=>by have:=be j A;simp;omega
   have p2:ab.filter (· != i)=ab:=Y1.2 λj A=>by have:=ar j A;simp;omega
   simp[p1,p2]
  refine ZeL hs (b:=b) (N:=b+ops.size) (λh=>?_) (λr O=>?_) h3 (LW (by rw[Iq];exact G)) λg' a' T q1 W q3=>?_
  .
   rcases Z _ h with h|⟨k,U,_,e⟩
   . omega
   have:k=i:=by omega
   subst this;rw[yQ]at U;cases U
  . rcases Z r O with h|⟨k,_,h,rfl⟩<;>omega
  refine ih (F.setIfInBounds i true) _ g' a' T (by simp[E]) (by rw[bp];have:=congrArg List.length c;simp at this;simp;omega) (λk o U aq e he hb=>?_) am q1 (v.trans W) (λr O=>?_) (by rw[bp];exact Iq) G hQ
  .
   rw[b9]at aq ⊢;simp only[Yc,YF]at aq ⊢;rcases aq with aq|rfl
   . exact .inl (hX k o U aq e he hb)
   rw[vV]at U;cases U;exact .inl (uT e he hb)
  rcases q3 r O with h|rfl
  .
   rcases Z r h with h|⟨k,U,cF,rfl⟩
   . exact .inl h
   exact .inr ⟨k,by rw[b9,U];rfl,cF,rfl⟩
  exact .inr ⟨i,by rw[b9];simp,K,rfl⟩
end Go.DL
