/-
  MANY TEXTS OF MINE IN ONE (a claim has a limit of files): DSimp, Types, DWalk, DRange, Str, Rec, Cmp, Rec2, Rec3, Rec4, Rec5, Sym, Rec6, Zon, Zon2, Zon3, Zdl, Zdm, Zdn, Zdo, Zdp, Zdq, Zla, Zlb, Zlc, Zld, Zdr, Zds, Jn, Jnl. Conditions: none.
-/
import Derived.Test.YtjngdcldglkolaaGreatDoorProg
import Derived.KernelRfl
import Derived.Lib.Bytealg
import Derived.Shelf.Small.Strs
import Derived.Test.YtjngdcldglkolaaGreatDoorMQY1
set_option linter.unusedVariables false
set_option linter.unusedSimpArgs false
set_option linter.unusedSectionVars false
set_option linter.defProp false
namespace Go.DL
open Go.RowKit
variable {P : Program} {W : Words} {C : Con}
attribute [go_sem_proc] Nat.reduceEqDiff Nat.reduceAdd Nat.reduceLeDiff Nat.reduceBEq Nat.reduceSub Nat.reduceMul Int.reduceLT Int.reduceLE Int.reduceEq Int.reduceNeg Int.reduceToNat reduceIte Nat.reduceLT reduceCtorEq
attribute [go_sem] decide_true decide_false Bool.not_true Bool.not_false Int.toNat_natCast
def S.out (s:S) (dst:Option Tmp) (r:D×H×Prop):S:={ n:=s.n,t:=s.put dst r.1,h:=r.2.1,nx:=s.nx,ok:=s.ok/\bE s.n dst=true/\r.2.2,e:=s.e }
def S.outG (s:S) (dst:Option Tmp) (op:Op) (C:Con) (gd:D) (want:Bool) (r:D×H×Prop):S :=
 { n:=s.n,t:=s.put dst (.cond (gG gd want) r.1),h:=s.h,nx:=s.nx,ok:=s.ok/\bE s.n dst=true/\lc gd=true/\aS C op ≠ .writes/\(gG gd want=true->r.2.2),e:=s.e }
@[go_sem] theorem exec_eq [Glob P] {L:List Oper}{s:S}:exec P W C L s=aH P W C L s.nx 0 L { n:=s.n,t:=s.t,h:=s.h,nx:=s.nx+L.length,ok:=s.ok,e:=s.e }:=rfl
@[go_sem] theorem ZbZ [Glob P] {L:List Oper}{b i:Nat}{s:S}:aH P W C L b i [] s=s:=rfl
@[go_sem] theorem Zb0 [Glob P] {L:List Oper}{b i:Nat}{o:Oper}{os:List Oper}{s:S}:aH P W C L b i (o::os) s=aH P W C L b (i+1) os (bq P W C L b i o s):=rfl
@[go_sem] theorem Zb1 [Glob P] {L:List Oper}{b i:Nat}{dst:Option Tmp}{op:Op}{ty:TypeId}{pos:String}{af:Array Edge}{s:S} :
  bq P W C L b i { dst:=dst,op:=op,type:=ty,pos:=pos,after:=af,guard:=none } s=s.out dst (aG P W C true op ((aM op).map s.ev) s.h (b+i)):=rfl
def ut (L:List Oper) (j:Nat) (t:Nat->D):D:=((L[j]?).bind (·.dst)).elim .junk t
@[go_sem] theorem Zb2 [Glob P] {L:List Oper}{b i j:Nat}{want:Bool}{dst:Option Tmp}{op:Op}{ty:TypeId}{pos:String}{af:Array Edge}{s:S} :
  bq P W C L b i { dst:=dst,op:=op,type:=ty,pos:=pos,after:=af,guard:=some (j,want) } s =
   s.outG dst op C (ut L j s.t) want (aG P W C (gG (ut L j s.t) want) op ((aM op).map s.ev) s.h (b+i)):=rfl
@[go_sem] theorem ZbX {dst:Option Tmp}{op:Op}{ty:TypeId}{pos:String}{af:Array Edge}{gd:Option (Nat×Bool)}{L:List Oper}{t:Nat->D} :
  ut ({ dst:=dst,op:=op,type:=ty,pos:=pos,after:=af,guard:=gd }::L) 0 t=dst.elim .junk t:=rfl
@[go_sem] theorem ZbY {o:Oper}{L:List Oper}{j:Nat}{t:Nat->D}:ut (o::L) (j+1) t=ut L j t:=by simp[ut]
@[go_sem] theorem out_some {n nx:Nat}{t:Nat->D}{h:H}{ok:Prop}{e:Env}{d:Tmp}{x:D}{h':H}{p:Prop}:S.out { n,t,h,nx,ok,e } (some d) (x,h',p)={ n,t:=upd t d x,h:=h',nx,ok:=ok/\decide (d<n)=true/\p,e }:=rfl
@[go_sem] theorem Zba {n nx:Nat}{t:Nat->D}{h:H}{ok:Prop}{e:Env}{x:D}{h':H}{p:Prop}:S.out { n,t,h,nx,ok,e } none (x,h',p)={ n,t,h:=h',nx,ok:=ok/\p,e }:=by simp[S.out,S.put,bE]
@[go_sem] theorem Zbb {n nx:Nat}{t:Nat->D}{h:H}{ok:Prop}{e:Env}{d:Tmp}{op:Op}{gd:D}{want:Bool}{x:D}{h':H}{p:Prop} :
  S.outG { n,t,h,nx,ok,e } (some d) op C gd want (x,h',p)={ n,t:=upd t d (.cond (gG gd want) x),h,nx,ok:=ok/\decide (d<n)=true/\lc gd=true/\aS C op ≠ .writes/\(gG gd want=true->p),e }:=rfl
@[go_sem] theorem aF {n nx:Nat}{t:Nat->D}{h:H}{ok:Prop}{e:Env}:S.clear { n,t,h,nx,ok,e }={ n,t,h,nx,ok:=True,e }:=rfl
@[go_sem] theorem Uu {n:Nat}{args:List D}:S.init n args={ n,t:=fun i=>args.getD i .junk,h:=fun _=>none,nx:=0,ok:=True,e:=Env.tt }:=rfl
@[go_sem] theorem ev_tmp {s:S}{i:Tmp}:s.ev (.tmp i)=s.t i:=rfl
@[go_sem] theorem ev_const {s:S}{x:Value}:s.ev (.const x)=il x:=rfl
@[go_sem] theorem Zb3 {s:S}{g:Nat}:s.ev (.global g) = .v (.pointer (some ⟨g,0,none⟩)):=rfl
@[go_sem] theorem ev_func {s:S}{f:FuncId}:s.ev (.func f) = .fn (.func f) [] []:=rfl
@[go_sem] theorem ofV_int {k:IntKind}{n:Int}:il (.int k n) = .v (.int k n):=rfl
@[go_sem] theorem ofV_bool {b:Bool}:il (.bool b) = .v (.bool b):=rfl
@[go_sem] theorem Zbh {s:ByteArray}:il (.string s) = .v (.string s):=rfl
@[go_sem] theorem ofV_nil:il (.slice none 0 0) = .list true []:=rfl
@[go_sem] theorem Zbj:il .nilFunc = .v .nilFunc:=rfl
@[go_sem] theorem Zbi:il .nilIface = .v .nilIface:=rfl
@[go_sem] theorem Zbg {vs:Array Value}:il (.tuple vs) = .v (.tuple vs):=rfl
@[go_sem] theorem ofV_ptr {p:Option Addr}:il (.pointer p) = .v (.pointer p):=rfl
@[go_sem] theorem upd_hit {α:Type}{f:Nat->α}{i:Nat}{x:α}:upd f i x i=x:=by simp[upd]
@[go_sem] theorem upd_miss {α:Type}{f:Nat->α}{i j:Nat}{x:α}(h:(j=i)=False):upd f i x j=f j:=by simp only[upd];rw[XZ (by rw[h];exact id)]
attribute [go_sem] List.take_succ_cons List.take_zero List.take_nil List.drop_zero List.drop_succ_cons List.drop_nil List.set_cons_zero List.set_cons_succ List.cons_append List.nil_append List.append_nil Bool.false_eq_true Nat.zero_add Nat.add_zero Nat.add_assoc List.length_map List.headD_cons
attribute [go_sem] ne_eq imp_self Bool.not_eq_true' Bool.not_eq_false' Bool.and_self and_self
attribute [go_sem] eq_self not_false_eq_true and_true true_and List.length_cons List.length_nil List.getD_cons_zero List.getD_cons_succ List.getD_nil implies_true true_implies
@[go_sem] theorem size_lit {α:Type}{l:List α}:l.toArray.size=l.length:=rfl
attribute [go_sem] aM List.map_cons List.map_nil
@[go_sem] theorem sd_v {x:Value}:sd (.v x) = .v x:=rfl
@[go_sem] theorem sd_agg {x:List D}:sd (.agg x) = .agg x:=rfl
@[go_sem] theorem sd_list {f:Bool}{x:List (List D)}:sd (.list f x) = .list f x:=rfl
@[go_sem] theorem sd_eptr {x:List D}:sd (.eptr x) = .eptr x:=rfl
@[go_sem] theorem sd_mrow {a b c:Nat}:sd (.mrow a b c) = .mrow a b c:=rfl
@[go_sem] theorem sd_mptr {a b c:Nat}:sd (.mptr a b c) = .mptr a b c:=rfl
@[go_sem] theorem sd_fn {f:Fn}{a b:List D}:sd (.fn f a b) = .fn f a b:=rfl
@[go_sem] theorem sd_tuple {a:List D}:sd (.tuple a) = .tuple a:=rfl
@[go_sem] theorem sd_iface {t:TypeId}{d:D}:sd (.iface t d) = .iface t d:=rfl
@[go_sem] theorem sd_cond {g:Bool}{d:D}:sd (.cond g d)=d:=rfl
@[go_sem] theorem sd_mp {r:Nat}:sd (.mp r) = .mp r:=rfl
@[go_sem] theorem sd_fmap {kv:List D}:sd (.fmap kv) = .fmap kv:=rfl
@[go_sem] theorem sg_mp {r:Nat}:sg (.mp r)=true:=rfl
@[go_sem] theorem sg_fmap {kv:List D}:sg (.fmap kv)=true:=rfl
@[go_sem] theorem sg_v {x:Value}:sg (.v x)=true:=rfl
@[go_sem] theorem sg_agg {x:List D}:sg (.agg x)=true:=rfl
@[go_sem] theorem sg_list {f:Bool}{x:List (List D)}:sg (.list f x)=true:=rfl
@[go_sem] theorem sg_eptr {x:List D}:sg (.eptr x)=true:=rfl
@[go_sem] theorem sg_mrow {a b c:Nat}:sg (.mrow a b c)=true:=rfl
@[go_sem] theorem sg_mptr {a b c:Nat}:sg (.mptr a b c)=true:=rfl
@[go_sem] theorem sg_fn {f:Fn}{a b:List D}:sg (.fn f a b)=true:=rfl
@[go_sem] theorem sg_tuple {a:List D}:sg (.tuple a)=true:=rfl
@[go_sem] theorem sg_iface {t:TypeId}{d:D}:sg (.iface t d)=true:=rfl
@[go_sem] theorem sg_cond {g:Bool}{d:D}:sg (.cond g d)=g:=rfl
attribute [go_sem] List.all_cons List.all_nil Bool.and_true Bool.true_and
@[go_sem] theorem gval_v {b want:Bool}:gG (.v (.bool b)) want=(b==want):=rfl
@[go_sem] theorem gval_c {g b want:Bool}:gG (.cond g (.v (.bool b))) want=(g&&(b==want)):=rfl
@[go_sem] theorem gok_v {b:Bool}:lc (.v (.bool b))=true:=rfl
@[go_sem] theorem gok_c {g b:Bool}:lc (.cond g (.v (.bool b)))=true:=rfl
attribute [go_sem] Option.elim beq_true beq_false
@[go_sem] theorem e_move [Glob P] {g:Bool}{x:Operand}{d:D}{h:H}{b:Nat}:aG P W C g (.move x) [d] h b=(sd d,h,(g=true->sg d=true)/\True):=by simp[aG,cz,aJ]
@[go_sem] theorem e_assign [Glob P] {g:Bool}{x:Operand}{d:D}{h:H}{b:Nat}:aG P W C g (.assign x) [d] h b=(sd d,h,(g=true->sg d=true)/\True):=by simp[aG,cz,aJ]
@[go_sem] theorem e_alloc [Glob P] {g:Bool}{e:TypeId}{h:H}{b:Nat}:aG P W C g (.alloc e) [] h b=(.mptr b 0 0,upd h b (some ⟨e,[zeroCells P e]⟩),(zeroCells P e).length=P.cellsOf e/\(zeroCells P e).all D.one=true/\0<P.cellsOf e):=by simp[aG,cz,aJ]
@[go_sem] theorem e_box [Glob P] {g:Bool}{e:TypeId}{x:Operand}{d:D}{h:H}{b:Nat}:aG P W C g (.box e x) [d] h b=(.mptr b 0 0,upd h b (some ⟨e,[(sd d).cells]⟩),(g=true->sg d=true)/\(sd d).cells.length=P.cellsOf e/\(sd d).cells.all D.one=true/\0<P.cellsOf e):=by simp[aG,cz,aJ]
@[go_sem] theorem e_build [Glob P] {g:Bool}{t:TypeId}{ps:Array (Nat×Operand)}{xs:List D}{h:H}{b:Nat}:aG P W C g (.build t ps) xs h b=((uJ P t ps.toList (xs.map sd)).1,h,(g=true->xs.all sg=true)/\(uJ P t ps.toList (xs.map sd)).2):=by simp[aG,cz,aJ,still]
@[go_sem] theorem Zcd [Glob P] {g:Bool}{t:TypeId}{n:Nat}{ps:Array (Nat×Operand)}{xs:List D}{h:H}{b:Nat}:aG P W C g (.buildSlice t n ps) xs h b=if C.bs then ((lw P t n ps.toList (xs.map sd) h b).1,(lw P t n ps.toList (xs.map sd) h b).2.1,(g=true->xs.all sg=true)/\(lw P t n ps.toList (xs.map sd) h b).2.2) else ((sM P t n ps.toList (xs.map sd)).1,h,(g=true->xs.all sg=true)/\(sM P t n ps.toList (xs.map sd)).2):=by cases hb:C.bs<;>simp[aG,cz,aJ,still,hb]
@[go_sem] theorem e_load [Glob P] {g:Bool}{t:TypeId}{x:Operand}{d:D}{h:H}{b:Nat}:aG P W C g (.load t x) [d] h b=(nU P t (fF P (sd d) h),h,(g=true->sg d=true)/\P.cellsOf t<=(fF P (sd d) h).length/\0<P.cellsOf t/\(P.underlying t).isSome=true):=by simp[aG,cz,aJ,still,lQ]
@[go_sem] theorem e_store [Glob P] {g:Bool}{t:TypeId}{x y:Operand}{d d':D}{h:H}{b:Nat}:aG P W C g (.store t x y) [d,d'] h b=(.v undef,(lK P t (sd d) (sd d') h).1,(g=true->(sg d&&sg d')=true)/\(lK P t (sd d) (sd d') h).2):=by simp[aG,cz,aJ]
@[go_sem] theorem Zb4 [Glob P] {g:Bool}{x:Operand}{d:D}{h:H}{b:Nat}:aG P W C g (.nilCheck x) [d] h b=(sd d,h,(g=true->sg d=true)/\mI (sd d)=true):=by simp[aG,cz,aJ]
@[go_sem] theorem e_binOp [Glob P] {g:Bool}{op:BinOp}{t u:TypeId}{x y:Operand}{d d':D}{h:H}{b:Nat}:aG P W C g (.binOp op t x y u) [d,d'] h b=((o7 P t op (sd d) (sd d')).1,h,(g=true->(sg d&&sg d')=true)/\(o7 P t op (sd d) (sd d')).2):=by simp[aG,cz,aJ,still]
@[go_sem] theorem e_unOp [Glob P] {g:Bool}{op:UnOp}{t:TypeId}{x:Operand}{d:D}{h:H}{b:Nat}:aG P W C g (.unOp op t x) [d] h b=((pI op (sd d)).1,h,(g=true->sg d=true)/\(pI op (sd d)).2):=by simp[aG,cz,aJ,still]
@[go_sem] theorem Zcc [Glob P] {g:Bool}{s t:TypeId}{x:Operand}{d:D}{h:H}{b:Nat}:aG P W C g (.convert s t x) [d] h b=((sJ P s t (sd d)).1,h,(g=true->sg d=true)/\(sJ P s t (sd d)).2):=by simp[aG,cz,aJ,still]
@[go_sem] theorem Zb8 [Glob P] {g:Bool}{f:Fn}{a c:Array Operand}{xs:List D}{h:H}{b:Nat}:aG P W C g (.makeFunc f a c) xs h b=(.fn f ((xs.map sd).take a.size) ((xs.map sd).drop a.size),h,(g=true->xs.all sg=true)/\True):=by simp[aG,cz,aJ]
@[go_sem] theorem e_slice [Glob P] {g:Bool}{t:TypeId}{x:Operand}{l hi m:Option Operand}{d:D}{xs:List D}{h:H}{b:Nat}:aG P W C g (.slice t x l hi m) (d::xs) h b =
  ((iZ P t (sd d) (fP l (xs.map sd)).1 (fP hi (fP l (xs.map sd)).2).1 (fP m (fP hi (fP l (xs.map sd)).2).2).1 h).1,h,(g=true->(sg d&&xs.all sg)=true)/\(iZ P t (sd d) (fP l (xs.map sd)).1 (fP hi (fP l (xs.map sd)).2).1 (fP m (fP hi (fP l (xs.map sd)).2).2).1 h).2):=by simp[aG,cz,aJ,still]
@[go_sem] theorem Zca [Glob P] {g:Bool}{t:TypeId}{x:Operand}{f:Nat}{d:D}{h:H}{b:Nat}:aG P W C g (.fieldAddr t x f) [d] h b=((sH P t f (sd d)).1,h,(g=true->sg d=true)/\(sH P t f (sd d)).2):=by simp[aG,cz,aJ,still]
@[go_sem] theorem Zb9 [Glob P] {g:Bool}{t:TypeId}{x y:Operand}{d d':D}{h:H}{b:Nat}:aG P W C g (.indexAddr t x y) [d,d'] h b=((fI P t (sd d) (sd d') h).1,h,(g=true->(sg d&&sg d')=true)/\(fI P t (sd d) (sd d') h).2):=by simp[aG,cz,aJ,still]
@[go_sem] theorem e_index [Glob P] {g:Bool}{t:TypeId}{x y:Operand}{d d':D}{h:H}{b:Nat}:aG P W C g (.index t x y) [d,d'] h b=((sj P t (sd d) (sd d')).1,h,(g=true->(sg d&&sg d')=true)/\(sj P t (sd d) (sd d')).2):=by simp[aG,cz,aJ,still]
@[go_sem] theorem Zcb [Glob P] {g:Bool}{x:Operand}{i:Nat}{ds:List D}{h:H}{b:Nat}:aG P W C g (.extract x i) [.tuple ds] h b=(ds.getD i .junk,h,i<ds.length):=by simp[aG,cz,aJ,sd,sg]
@[go_sem] theorem e_len [Glob P] {g:Bool}{args:Array Operand}{t:TypeId}{d:D}{h:H}{b:Nat}:aG P W C g (.call { callee:=.builtin .len,args:=args,argTypes:=#[t] }) [d] h b=(.v (.int .i64 (aU (sd d))),h,(g=true->sg d=true)/\rU P t (sd d)=true):=by simp[aG,cz,aJ]
@[go_sem] theorem e_append [Glob P] {g:Bool}{args:Array Operand}{t u:TypeId}{d d':D}{h:H}{b:Nat}:aG P W C g (.call { callee:=.builtin .append,args:=args,argTypes:=#[t,u] }) [d,d'] h b=((kG P t u (sd d) (sd d') h b).1,(kG P t u (sd d) (sd d') h b).2.1,(g=true->(sg d&&sg d')=true)/\(kG P t u (sd d) (sd d') h b).2.2):=by simp[aG,cz,aJ]
@[go_sem] theorem e_call [Glob P] {g:Bool}{f:Operand}{args:Array Operand}{ts:Array TypeId}{xs:List D}{h:H}{b:Nat}:aG P W C g (.call { callee:=.value f,args:=args,argTypes:=ts }) xs h b=((fV W C f (xs.map sd) h b).1,(fV W C f (xs.map sd) h b).2.1,(g=true->xs.all sg=true)/\(fV W C f (xs.map sd) h b).2.2):=by simp[aG,cz,aJ]
@[go_sem] theorem Zb7 [Glob P] {g:Bool}{t:TypeId}{r:Option Operand}{xs:List D}{h:H}{b:Nat}:aG P W C g (.makeMap t r) xs h b=(.mp b,upd h b (some ⟨t,eY []⟩),(g=true->xs.all sg=true)/\(ko P t).isSome=true/\P.cellsOf t=1/\zw (xs.map sd)=true):=by simp[aG,cz,aJ,rQ]
@[go_sem] theorem Zb5 [Glob P] {g:Bool}{t:TypeId}{x y z:Operand}{m k d:D}{h:H}{b:Nat}:aG P W C g (.mapUpdate t x y z) [m,k,d] h b=(.v undef,(mf P t (sd m) (sd k) (sd d) h).1,(g=true->(sg m&&(sg k&&sg d))=true)/\(mf P t (sd m) (sd k) (sd d) h).2):=by simp[aG,cz,aJ]
@[go_sem] theorem e_lookup [Glob P] {g ok:Bool}{t:TypeId}{x y:Operand}{m k:D}{h:H}{b:Nat}:aG P W C g (.lookup t x y ok) [m,k] h b=((jM P t ok (sd m) (sd k) h).1,h,(g=true->(sg m&&sg k)=true)/\(jM P t ok (sd m) (sd k) h).2):=by simp[aG,cz,aJ,still]
@[go_sem] theorem Zb6 [Glob P] {g:Bool}{t:TypeId}{x y:Operand}{d d':D}{h:H}{b:Nat}:aG P W C g (.makeSlice t x y) [d,d'] h b=((jg P t h b (sd d) (sd d')).1,(jg P t h b (sd d) (sd d')).2.1,(g=true->(sg d&&sg d')=true)/\(jg P t h b (sd d) (sd d')).2.2):=by simp[aG,cz,aJ]
@[go_sem] theorem mkSl_i [Glob P] {t:TypeId}{h:H}{b:Nat}{k k':IntKind}{n m:Int}:jg P t h b (.v (.int k n)) (.v (.int k' m))=(match aX P t with
  | some e=>(.mrow b 0 n.toNat,upd h b (some ⟨e,List.replicate n.toNat (zeroCells P e)⟩),n=m/\0<=n/\P.bytesOf e*n<=281474976710656/\n<=9223372036854775807/\ay P e=true/\(zeroCells P e).length=P.cellsOf e/\(zeroCells P e).all D.one=true/\0<P.cellsOf e)
  | none=>(.junk,h,False)):=rfl
@[go_sem] theorem Zbl {t:TypeId}{x y:Operand}{ok:Bool}:(aS C (.lookup t x y ok) = .writes)=False:=by simp[aS]
@[go_sem] theorem ZbQ:zw []=true:=rfl
@[go_sem] theorem ZbR {k:IntKind}{n:Int}:zw [.v (.int k n)]=true:=rfl
@[go_sem] theorem Zau [Glob P] {t:TypeId}{r:Nat}{k d:D}{h:H}:mf P t (.mp r) k d h=(match ko P t with
 | some (kt,_)=>match h r with
  | some bl=>match jl bl with
   | some kv=>(upd h r (some ⟨bl.ty,eY (fG kv k d)⟩),gX P kt k=true/\gD P kt kv=true/\kr P kt=true)
   | none=>(h,False)
  | none=>(h,False)
 | _=>(h,False)):=by unfold mf;cases ko P t<;>rfl
@[go_sem] theorem lookD_eq [Glob P] {t:TypeId}{ok:Bool}{m k:D}{h:H}:jM P t ok m k h=(match ko P t with
 | some (kt,e)=>match nX h m with
  | some kv=>(if ok then .tuple [(gB kv k).getD (pE P e),.b (gB kv k).isSome] else (gB kv k).getD (pE P e),gX P kt k=true/\gD P kt kv=true/\kr P kt=true/\zA P e=true)
  | none=>(.junk,False)
 | _=>(.junk,False)):=by unfold jM;cases ko P t<;>cases nX h m<;>rfl
@[go_sem] theorem kvH_fmap {h:H}{kv:List D}:nX h (.fmap kv)=some kv:=rfl
@[go_sem] theorem kvH_mp {h:H}{r:Nat}:nX h (.mp r)=(match h r with|some bl=>jl bl|none=>none):=by show (h r).bind jl=_;cases h r<;>rfl
@[go_sem] theorem kvB_rows {t:TypeId}{kv:List D}:jl ⟨t,eY kv⟩=some kv:=rfl
@[go_sem] theorem bv_v {b:Bool}:bv (.v (.bool b))=b:=rfl
@[go_sem] theorem isB_v {b:Bool}:ol (.v (.bool b))=true:=rfl
@[go_sem] theorem e_pick [Glob P] {g:Bool}{x y z:Operand}{c a b:D}{h:H}{n:Nat} :
  aG P W C g (.pick x y z) [c,a,b] h n=(.v (.bool (bif bv (sd c) then bv (sd a) else bv (sd b))),h,(g=true->(sg c=true/\ol (sd c)=true)/\(bv (sd c)=true->sg a=true/\ol (sd a)=true)/\(bv (sd c)=false->sg b=true/\ol (sd b)=true))):=rfl
attribute [go_sem] cond_true cond_false
@[go_sem] theorem nw_move {x:Operand}:(aS C (.move x) = .writes)=False:=by simp[aS]
@[go_sem] theorem nw_load {t:TypeId}{x:Operand}:(aS C (.load t x) = .writes)=False:=by simp[aS]
@[go_sem] theorem nw_binOp {op:BinOp}{t u:TypeId}{x y:Operand}:(aS C (.binOp op t x y u) = .writes)=False:=by simp[aS]
@[go_sem] theorem nw_unOp {op:UnOp}{t:TypeId}{x:Operand}:(aS C (.unOp op t x) = .writes)=False:=by simp[aS]
@[go_sem] theorem Zbn {t:TypeId}{x:Operand}{f:Nat}:(aS C (.fieldAddr t x f) = .writes)=False:=by simp[aS]
@[go_sem] theorem Zbm {t:TypeId}{x y:Operand}:(aS C (.indexAddr t x y) = .writes)=False:=by simp[aS]
@[go_sem] theorem nw_index {t:TypeId}{x y:Operand}:(aS C (.index t x y) = .writes)=False:=by simp[aS]
@[go_sem] theorem nw_pick {x y z:Operand}:(aS C (.pick x y z) = .writes)=False:=by simp[aS]
@[go_sem] theorem Zbo {t u:TypeId}{x:Operand}:(aS C (.convert t u x) = .writes)=False:=by simp[aS]
@[go_sem] theorem nw_slice {t:TypeId}{x:Operand}{a b c:Option Operand}:(aS C (.slice t x a b c) = .writes)=False:=by simp[aS]
@[go_sem] theorem Zbk {x:Operand}:(aS C (.nilCheck x) = .writes)=False:=by simp[aS]
@[go_sem] theorem nw_build {t:TypeId}{ps:Array (Nat×Operand)}:(aS C (.build t ps) = .writes)=False:=by simp[aS]
@[go_sem] theorem nw_len {args:Array Operand}{ts:Array TypeId}:(aS C (.call { callee:=.builtin .len,args:=args,argTypes:=ts }) = .writes)=False:=by simp[aS]
@[go_sem] theorem nw_call {f:Operand}{args:Array Operand}{ts:Array TypeId}:(aS C (.call { callee:=.value f,args:=args,argTypes:=ts }) = .writes)=False:=by
 cases h:C.cf<;>simp[aS,wy,h]
@[go_sem] theorem bif_or {c b:Bool}:(bif c then true else b)=(c||b):=by cases c<;>rfl
@[go_sem] theorem bif_and {c b:Bool}:(bif c then b else false)=(c&&b):=by cases c<;>rfl
@[go_sem] theorem ZcY {cs:List D}:D.cells (.agg cs)=cs:=rfl
@[go_sem] theorem cells_v {x:Value}:D.cells (.v x)=[.v x]:=rfl
@[go_sem] theorem ZcU {f:Bool}{x:List (List D)}:D.cells (.list f x)=[.list f x]:=rfl
@[go_sem] theorem ZcS {a b c:Nat}:D.cells (.mrow a b c)=[.mrow a b c]:=rfl
@[go_sem] theorem ZcT {a b c:Nat}:D.cells (.mptr a b c)=[.mptr a b c]:=rfl
@[go_sem] theorem ZcX {a:List D}:D.cells (.eptr a)=[.eptr a]:=rfl
@[go_sem] theorem cells_fn {f:Fn}{a b:List D}:D.cells (.fn f a b)=[.fn f a b]:=rfl
@[go_sem] theorem ZcV {t:TypeId}{d:D}:D.cells (.iface t d)=[.iface t d]:=rfl
@[go_sem] theorem one_int {k:IntKind}{n:Int}:D.one (.v (.int k n))=true:=rfl
@[go_sem] theorem one_bool {b:Bool}:D.one (.v (.bool b))=true:=rfl
@[go_sem] theorem Zbc {b:ByteArray}:D.one (.v (.string b))=true:=rfl
@[go_sem] theorem Zbe:D.one (.v .nilFunc)=true:=rfl
@[go_sem] theorem Zbd:D.one (.v .nilIface)=true:=rfl
@[go_sem] theorem one_list {f:Bool}{x:List (List D)}:D.one (.list f x)=true:=rfl
@[go_sem] theorem one_mrow {a b c:Nat}:D.one (.mrow a b c)=true:=rfl
@[go_sem] theorem one_mptr {a b c:Nat}:D.one (.mptr a b c)=true:=rfl
@[go_sem] theorem one_eptr {a:List D}:D.one (.eptr a)=true:=rfl
@[go_sem] theorem one_fn {f:Fn}{a b:List D}:D.one (.fn f a b)=true:=rfl
@[go_sem] theorem Zbf {t:TypeId}{d:D}:D.one (.iface t d)=true:=rfl
@[go_sem] theorem ldc_eptr [Glob P] {cs:List D}{h:H}:fF P (.eptr cs) h=cs:=rfl
@[go_sem] theorem ldc_mptr [Glob P] {r i off:Nat}{h:H}:fF P (.mptr r i off) h=match h r with|some b=>(b.rows.getD i []).drop off|none=>[]:=rfl
@[go_sem] theorem ldD_eq [Glob P] {t:TypeId}{a:D}{h:H}:lQ P t a h=(nU P t (fF P a h),P.cellsOf t<=(fF P a h).length/\0<P.cellsOf t/\(P.underlying t).isSome=true):=rfl
theorem Jc [Glob P] {x o:Nat}{h:H}:fF P (.v (.pointer (some ⟨x,o,none⟩))) h=match Glob.tab P x with|some cs=>(cs.drop o).map D.v|none=>[]:=rfl
@[go_sem] theorem Zbx {cs:List D}{h:H}:dO (.eptr cs) h=cs:=rfl
@[go_sem] theorem Zbw {r i off:Nat}{h:H}:dO (.mptr r i off) h=match h r with|some b=>(b.rows.getD i []).drop off|none=>[]:=rfl
attribute [go_sem] nU sH wK splice
@[go_sem] theorem Za4 {n:Nat}{cs:List D}:pY n (.eptr cs) = .eptr (cs.drop n):=rfl
@[go_sem] theorem Za3 {n r i off:Nat}:pY n (.mptr r i off) = .mptr r i (off+n):=rfl
@[go_sem] theorem Za2 {n x o:Nat}:pY n (.v (.pointer (some ⟨x,o,none⟩))) = .v (.pointer (some ⟨x,o+n,none⟩)):=by simp only[pY,jr]
@[go_sem] theorem ZbD {p:Addr}:mI (.v (.pointer (some p)))=true:=rfl
@[go_sem] theorem ZbF {cs:List D}:mI (.eptr cs)=true:=rfl
@[go_sem] theorem ZbE {r i off:Nat}:mI (.mptr r i off)=true:=rfl
@[go_sem] theorem stH_mptr [Glob P] {t:TypeId}{r i off:Nat}{x:D}{h:H}:lK P t (.mptr r i off) x h=match h r with
  | some b=>(upd h r (some { b with rows:=b.rows.set i (splice (b.rows.getD i []) off x.cells) }),x.cells.length=P.cellsOf t/\0<P.cellsOf t/\i<b.rows.length/\off+x.cells.length<=(b.rows.getD i []).length/\x.cells.all D.one=true)
  | none=>(h,False):=rfl
@[go_sem] theorem ZbU [Glob P] {t:TypeId}{f:Bool}{rows:List (List D)}{k:IntKind}{n:Int}{h:H}:fI P t (.list f rows) (.v (.int k n)) h=match aX P t with
  | none=>ow P t (.list f rows) (.v (.int k n))
  | some e=>(.eptr (rows.getD n.toNat []),0<=n/\n<rows.length/\0<P.cellsOf e/\(rows.getD n.toNat []).length=P.cellsOf e):=by unfold fI;cases aX P t<;>rfl
@[go_sem] theorem ZbT [Glob P] {t:TypeId}{r off len:Nat}{k:IntKind}{n:Int}{h:H}:fI P t (.mrow r off len) (.v (.int k n)) h=match aX P t with
  | none=>ow P t (.mrow r off len) (.v (.int k n))
  | some e=>(.mptr r (off+n.toNat) 0,0<=n/\n<len/\0<P.cellsOf e/\match h r with|some bl=>bl.ty=e|none=>False):=by unfold fI;cases aX P t<;>rfl
@[go_sem] theorem ZbS [Glob P] {t:TypeId}{p:Option Addr}{k:IntKind}{n:Int}{h:H}:fI P t (.v (.pointer p)) (.v (.int k n)) h=match aX P t with
  | none=>ow P t (.v (.pointer p)) (.v (.int k n))
  | some _=>(.junk,False):=by unfold fI;cases aX P t<;>rfl
@[go_sem] theorem isGp_ptr {p:Addr}:oh (.v (.pointer (some p)))=true:=rfl
@[go_sem] theorem ZbO {cs:List D}:oh (.eptr cs)=true:=rfl
@[go_sem] theorem ZbN {r i off:Nat}:oh (.mptr r i off)=true:=rfl
@[go_sem] theorem ZbV [Glob P] {t:TypeId}{x:D}{k:IntKind}{n:Int}:ow P t x (.v (.int k n))=match jS P t with
  | some (m,e)=>(pY (n.toNat*P.cellsOf e) x,oh x=true/\0<=n/\n<m/\0<P.cellsOf e)
  | none=>(.junk,False):=by unfold ow;cases jS P t<;>rfl
@[go_sem] theorem ZaZ {f:Bool}{rows:List (List D)}{h:H}:rowsOf (.list f rows) h=rows:=rfl
@[go_sem] theorem ZaY {r off len:Nat}{h:H}:rowsOf (.mrow r off len) h=match h r with|some b=>(b.rows.drop off).take len|none=>[]:=rfl
@[go_sem] theorem Zbv {f:Bool}{rows:List (List D)}:aU (.list f rows)=rows.length:=rfl
@[go_sem] theorem Zbu {r off len:Nat}:aU (.mrow r off len)=len:=rfl
@[go_sem] theorem Zbt {s:ByteArray}:aU (.v (.string s))=s.size:=rfl
@[go_sem] theorem Zbs [Glob P] {t:TypeId}{f:Bool}{rows:List (List D)}:rU P t (.list f rows)=(aX P t).isSome:=rfl
@[go_sem] theorem Zbr [Glob P] {t:TypeId}{r off len:Nat}:rU P t (.mrow r off len)=(aX P t).isSome:=rfl
@[go_sem] theorem Zbq [Glob P] {t:TypeId}{s:ByteArray}:rU P t (.v (.string s))=match P.underlying t with|some .string=>true|_=>false:=rfl
attribute [go_sem] Option.isSome_some
@[go_sem] theorem ZaB [Glob P] {t:TypeId}{h:H}{f:Bool}{rows:List (List D)}:gP P t h (.list f rows)=(aX P t).isSome:=rfl
@[go_sem] theorem ZaA [Glob P] {t:TypeId}{h:H}{r off len:Nat}:gP P t h (.mrow r off len)=((aX P t).isSome&&(h r).isSome):=rfl
@[go_sem] theorem Zaz [Glob P] {t:TypeId}{h:H}{s:ByteArray}:gP P t h (.v (.string s))=match P.underlying t with|some .string=>true|_=>false:=rfl
@[go_sem] theorem Zdb [Glob P] {t u:TypeId}{rows:List (List D)}{y:D}{h:H}{b:Nat}:kG P t u (.list true rows) y h b=match aX P t with
  | none=>(.junk,h,False)
  | some e=>(.mrow b 0 (rows.length+(rowsOf y h).length),upd h b (some ⟨e,rows++rowsOf y h⟩),(0<P.cellsOf e/\(rows.length+(rowsOf y h).length)*P.bytesOf e<=140737488355328/\rows.length+(rowsOf y h).length<=9223372036854775807) /\
    ((rowsOf y h).length=aU y/\gP P u h y=true/\ay P e=true /\ ∀ r∈rowsOf y h,r.length=P.cellsOf e)/\(rowsOf y h=[]->rows=[]) /\ ∀ r∈rows,r.length=P.cellsOf e):=by
 unfold kG;cases aX P t<;>rfl
@[go_sem] theorem Zda [Glob P] {t u:TypeId}{r n:Nat}{y:D}{h:H}{b:Nat}:kG P t u (.mrow r 0 n) y h b=match aX P t with
  | none=>(.junk,h,False)
  | some e=>match h r with
   | none=>(.junk,h,False)
   | some bl=>(.mrow b 0 (n+(rowsOf y h).length),upd (upd h r none) b (some ⟨e,bl.rows++rowsOf y h⟩),(0<P.cellsOf e/\(n+(rowsOf y h).length)*P.bytesOf e<=140737488355328/\n+(rowsOf y h).length<=9223372036854775807) /\
    ((rowsOf y h).length=aU y/\gP P u h y=true/\ay P e=true /\ ∀ r∈rowsOf y h,r.length=P.cellsOf e)/\bl.ty=e/\bl.rows.length=n/\r≠b):=by
 unfold kG;cases aX P t with
 | none=>rfl
 | some e=>cases hr:h r with
  | none=>simp only[hr]
  | some bl=>simp only[aU,hr]
attribute [go_sem] uJ oZ qJ sM lw rA
@[go_sem] theorem binD_v [Glob P] {t:TypeId}{op:BinOp}{a b:Value}:o7 P t op (.v a) (.v b)=(.v (cB P t op a b).1,(cB P t op a b).2):=rfl
@[go_sem] theorem binV_lss [Glob P] {t:TypeId}{k k':IntKind}{a b:Int}:cB P t .lss (.int k a) (.int k' b)=(.bool (decide (a<b)),k=k'):=rfl
@[go_sem] theorem binV_leq [Glob P] {t:TypeId}{k k':IntKind}{a b:Int}:cB P t .leq (.int k a) (.int k' b)=(.bool (decide (a<=b)),k=k'):=rfl
@[go_sem] theorem binV_gtr [Glob P] {t:TypeId}{k k':IntKind}{a b:Int}:cB P t .gtr (.int k a) (.int k' b)=(.bool (decide (b<a)),k=k'):=rfl
@[go_sem] theorem binV_geq [Glob P] {t:TypeId}{k k':IntKind}{a b:Int}:cB P t .geq (.int k a) (.int k' b)=(.bool (decide (b<=a)),k=k'):=rfl
@[go_sem] theorem binV_eql [Glob P] {t:TypeId}{k k':IntKind}{a b:Int}:cB P t .eql (.int k a) (.int k' b)=(.bool (a==b),k=k'):=rfl
@[go_sem] theorem binV_neq [Glob P] {t:TypeId}{k k':IntKind}{a b:Int}:cB P t .neq (.int k a) (.int k' b)=(.bool (a != b),k=k'):=rfl
@[go_sem] theorem binV_add [Glob P] {t:TypeId}{k k':IntKind}{a b:Int}:cB P t .add (.int k a) (.int k' b)=if k.signed then (.int k (a+b),k=k'/\iM k (a+b)) else (.int k (k.wrap (a+b)),k=k'):=rfl
@[go_sem] theorem binV_sub [Glob P] {t:TypeId}{k k':IntKind}{a b:Int}:cB P t .sub (.int k a) (.int k' b)=if k.signed then (.int k (a-b),k=k'/\iM k (a-b)) else (.int k (k.wrap (a-b)),k=k'):=rfl
@[go_sem] theorem binV_mul [Glob P] {t:TypeId}{k k':IntKind}{a b:Int}:cB P t .mul (.int k a) (.int k' b)=if k.signed then (.int k (a*b),k=k'/\iM k (a*b)) else (.int k (k.wrap (a*b)),k=k'):=rfl
@[go_sem] theorem binV_quo [Glob P] {t:TypeId}{k k':IntKind}{a b:Int}:cB P t .quo (.int k a) (.int k' b)=(.int k (a / b),k=k'/\0<=a/\1<=b/\iM k a):=rfl
@[go_sem] theorem binV_rem [Glob P] {t:TypeId}{k k':IntKind}{a b:Int}:cB P t .rem (.int k a) (.int k' b)=(.int k (a % b),k=k'/\0<=a/\1<=b):=rfl
@[go_sem] theorem binV_eqb [Glob P] {t:TypeId}{a b:Bool}:cB P t .eql (.bool a) (.bool b)=(.bool (a==b),P.underlying t=some .bool):=rfl
@[go_sem] theorem binV_neb [Glob P] {t:TypeId}{a b:Bool}:cB P t .neq (.bool a) (.bool b)=(.bool (a != b),P.underlying t=some .bool):=rfl
@[go_sem] theorem binV_eqs [Glob P] {t:TypeId}{a b:ByteArray}:cB P t .eql (.string a) (.string b)=(.bool (a.data.toList==b.data.toList),True):=rfl
@[go_sem] theorem binV_nes [Glob P] {t:TypeId}{a b:ByteArray}:cB P t .neq (.string a) (.string b)=(.bool (a.data.toList != b.data.toList),True):=rfl
@[go_sem] theorem Zc9 [Glob P] {t:TypeId}{a b:ByteArray}:cB P t .add (.string a) (.string b)=(.string (a++b),a.size+b.size<=9223372036854775807):=rfl
@[go_sem] theorem Zc5 [Glob P] {t:TypeId}{a b:ByteArray}:cB P t .lss (.string a) (.string b)=(.bool (Go.Op.bytesLess a.data.toList b.data.toList),True):=rfl
@[go_sem] theorem Zc6 [Glob P] {t:TypeId}{a b:ByteArray}:cB P t .leq (.string a) (.string b)=(.bool (Go.Op.bytesLess a.data.toList b.data.toList||a.data.toList==b.data.toList),True):=rfl
@[go_sem] theorem Zc7 [Glob P] {t:TypeId}{a b:ByteArray}:cB P t .gtr (.string a) (.string b)=(.bool !(Go.Op.bytesLess a.data.toList b.data.toList||a.data.toList==b.data.toList),True):=rfl
@[go_sem] theorem Zc8 [Glob P] {t:TypeId}{a b:ByteArray}:cB P t .geq (.string a) (.string b)=(.bool !(Go.Op.bytesLess a.data.toList b.data.toList),True):=rfl
@[go_sem] theorem binV_shl [Glob P] {t:TypeId}{k k':IntKind}{a b:Int}:cB P t .shl (.int k a) (.int k' b)=(.int k (k.wrap (a*2^(min b.toNat k.bits))),0<=b):=rfl
@[go_sem] theorem binV_shr [Glob P] {t:TypeId}{k k':IntKind}{a b:Int}:cB P t .shr (.int k a) (.int k' b)=(.int k (a.fdiv (2^(min b.toNat k.bits))),0<=b):=rfl
@[go_sem] theorem binV_or [Glob P] {t:TypeId}{k k':IntKind}{a b:Int}:cB P t .or (.int k a) (.int k' b)=(.int k (k.wrap (BitVec.ofInt k.bits a ||| BitVec.ofInt k.bits b).toNat),k=k'):=rfl
def uZ (k:IntKind) (a b:Int):Int:=k.wrap (BitVec.ofInt k.bits a ^^^ BitVec.ofInt k.bits b).toNat
@[go_sem] theorem binV_xor [Glob P] {t:TypeId}{k k':IntKind}{a b:Int}:cB P t .xor (.int k a) (.int k' b)=(.int k (uZ k a b),k=k'):=rfl
@[go_sem] theorem binD_eq [Glob P] {t:TypeId}{xs ys:List D}:o7 P t .eql (.agg xs) (.agg ys)=(.v (.bool (iO xs ys)),match kD P t with|some ks=>jQ ks xs ys=true|none=>False):=rfl
@[go_sem] theorem binD_ne [Glob P] {t:TypeId}{xs ys:List D}:o7 P t .neq (.agg xs) (.agg ys)=(.v (.bool (!iO xs ys)),match kD P t with|some ks=>jQ ks xs ys=true|none=>False):=rfl
attribute [go_sem] iO jQ
@[go_sem] theorem eqCell_i {k k':IntKind}{a b:Int}:iP (.v (.int k a)) (.v (.int k' b))=(a==b):=rfl
@[go_sem] theorem eqCell_b {a b:Bool}:iP (.v (.bool a)) (.v (.bool b))=(a==b):=rfl
@[go_sem] theorem eqCell_s {a b:ByteArray}:iP (.v (.string a)) (.v (.string b))=(a.data.toList==b.data.toList):=rfl
@[go_sem] theorem Za6 {k k':IntKind}{a b:Int}:p9 .i (.v (.int k a)) (.v (.int k' b))=(k==k'):=rfl
@[go_sem] theorem Za7 {a b:Bool}:p9 .b (.v (.bool a)) (.v (.bool b))=true:=rfl
@[go_sem] theorem Za5 {a b:ByteArray}:p9 .s (.v (.string a)) (.v (.string b))=true:=rfl
@[go_sem] theorem ZaT:IntKind.i64.signed=true:=rfl
@[go_sem] theorem ZaP:IntKind.u8.signed=false:=rfl
@[go_sem] theorem ZaS:IntKind.u16.signed=false:=rfl
@[go_sem] theorem ZaR:IntKind.u32.signed=false:=rfl
@[go_sem] theorem ZaQ:IntKind.u64.signed=false:=rfl
@[go_sem] theorem inK_i64 {n:Int}:iM .i64 n=(-9223372036854775808<=n/\n<=9223372036854775807):=by simp[iM,IntKind.min,IntKind.max,IntKind.signed,IntKind.bits]
@[go_sem] theorem unD_not {b:Bool}:pI .not (.v (.bool b))=(.v (.bool !b),True):=rfl
@[go_sem] theorem unD_neg {k:IntKind}{n:Int}:pI .neg (.v (.int k n))=(.v (.int k (-n)),iM k (-n)):=rfl
attribute [go_sem] sJ
@[go_sem] theorem idxV_s [Glob P] {t:TypeId}{s:ByteArray}{k:IntKind}{n:Int}:sj P t (.v (.string s)) (.v (.int k n))=(.v (.int .u8 (s.data.toList.getD n.toNat 0).toNat),0<=n/\n<s.size/\P.underlying t=some .string):=rfl
@[go_sem] theorem bnd_none {d:Nat}:bnd none d=d:=rfl
@[go_sem] theorem bnd_some {d:Nat}{k:IntKind}{n:Int}:bnd (some (.v (.int k n))) d=n:=rfl
@[go_sem] theorem Zc4:sO none=true:=rfl
@[go_sem] theorem Zc3 {k:IntKind}{n:Int}:sO (some (.v (.int k n)))=true:=rfl
attribute [go_sem] Option.toList_some Option.toList_none fP iZ
attribute [go_sem] jm
@[go_sem] theorem wk_v {x:Value}:wk (.v x) = .v x:=rfl
@[go_sem] theorem wk_agg {cs:List D}:wk (.agg cs) = .agg (bU cs):=rfl
@[go_sem] theorem wk_list {f:Bool}{rows:List (List D)}:wk (.list f rows) = .list false (bV rows):=rfl
@[go_sem] theorem wk_eptr {cs:List D}:wk (.eptr cs) = .eptr (bU cs):=rfl
@[go_sem] theorem wk_tuple {cs:List D}:wk (.tuple cs) = .tuple (bU cs):=rfl
@[go_sem] theorem wk_mrow {a b c:Nat}:wk (.mrow a b c) = .mrow a b c:=rfl
@[go_sem] theorem wk_mptr {a b c:Nat}:wk (.mptr a b c) = .mptr a b c:=rfl
@[go_sem] theorem wk_fn {f:Fn}{a b:List D}:wk (.fn f a b) = .fn f a b:=rfl
@[go_sem] theorem wk_iface {t:TypeId}{d:D}:wk (.iface t d) = .iface t (wk d):=rfl
@[go_sem] theorem wk_fmap {kv:List D}:wk (.fmap kv) = .fmap (bU kv):=rfl
@[go_sem] theorem Zcj {kv:List D}{h:H}:deref h (.fmap kv) = .fmap kv:=rfl
@[go_sem] theorem ZcK {kv:List D}{h:H}:jR h (.fmap kv) = .fmap kv:=rfl
@[go_sem] theorem ZcP {kv:List D}{h:H}:kE h (.fmap kv) = .fmap kv:=rfl
@[go_sem] theorem ZbK {kv:List D}:fH (.fmap kv)=false:=rfl
@[go_sem] theorem ZbB {kv:List D}:kw (.fmap kv)=false:=rfl
@[go_sem] theorem Zcr {kv:List D}{h:H}:iB h (.fmap kv)=True:=rfl
@[go_sem] theorem Zcz {kv:List D}{h:H}:lq h (.fmap kv)=True:=rfl
@[go_sem] theorem ZcF {kv:List D}{h:H}:lu h (.fmap kv)=True:=rfl
attribute [go_sem] bU bV
@[go_sem] theorem Zci {f:Bool}{rows:List (List D)}{h:H}:deref h (.list f rows) = .list f rows:=rfl
@[go_sem] theorem deref_v {x:Value}{h:H}:deref h (.v x) = .v x:=rfl
@[go_sem] theorem Zcl {x:List D}{h:H}:deref h (.agg x) = .agg x:=rfl
@[go_sem] theorem deref_fn {f:Fn}{a b:List D}{h:H}:deref h (.fn f a b) = .fn f (a.map (jR h)) (b.map (jR h)):=rfl
@[go_sem] theorem Zch {a b c:Nat}{h:H}:deref h (.mptr a b c) = .eptr ((dO (.mptr a b c) h).map (kE h)):=rfl
@[go_sem] theorem ZcH {a b c:Nat}{h:H}:jR h (.mptr a b c) = .eptr ((dO (.mptr a b c) h).map (kE h)):=rfl
@[go_sem] theorem ZcG {a b c:Nat}{h:H}:jR h (.mrow a b c) = .list false (rowsOf (.mrow a b c) h):=rfl
@[go_sem] theorem ZcM {a b c:Nat}{h:H}:kE h (.mrow a b c) = .list false (rowsOf (.mrow a b c) h):=rfl
@[go_sem] theorem deref1_v {x:Value}{h:H}:jR h (.v x) = .v x:=rfl
@[go_sem] theorem ZcI {f:Bool}{rows:List (List D)}{h:H}:jR h (.list f rows) = .list f rows:=rfl
@[go_sem] theorem ZcL {x:List D}{h:H}:jR h (.eptr x) = .eptr x:=rfl
@[go_sem] theorem ZcJ {f:Fn}{a b:List D}{h:H}:jR h (.fn f a b) = .fn f a b:=rfl
@[go_sem] theorem deref0_v {x:Value}{h:H}:kE h (.v x) = .v x:=rfl
@[go_sem] theorem ZcN {f:Bool}{rows:List (List D)}{h:H}:kE h (.list f rows) = .list f rows:=rfl
@[go_sem] theorem ZcO {f:Fn}{a b:List D}{h:H}:kE h (.fn f a b) = .fn f a b:=rfl
@[go_sem] theorem Zck {x:List D}{h:H}:deref h (.eptr x) = .eptr x:=rfl
@[go_sem] theorem ZbL {x:List D}:fH (.eptr x)=false:=rfl
@[go_sem] theorem Zcs {x:List D}{h:H}:iB h (.eptr x)=True:=rfl
@[go_sem] theorem Zcg {a b c:Nat}{h:H}:deref h (.mrow a b c) = .list false (rowsOf (.mrow a b c) h):=rfl
@[go_sem] theorem ZbI {f:Bool}{rows:List (List D)}:fH (.list f rows)=false:=rfl
@[go_sem] theorem isMrow_v {x:Value}:fH (.v x)=false:=rfl
@[go_sem] theorem ZbM {x:List D}:fH (.agg x)=false:=rfl
@[go_sem] theorem ZbJ {f:Fn}{a b:List D}:fH (.fn f a b)=(a.any kw||b.any kw):=rfl
@[go_sem] theorem ZbH {a b c:Nat}:fH (.mptr a b c)=true:=rfl
@[go_sem] theorem Zbz {a b c:Nat}:kw (.mptr a b c)=true:=rfl
@[go_sem] theorem Zby {a b c:Nat}:kw (.mrow a b c)=true:=rfl
@[go_sem] theorem isRef_v {x:Value}:kw (.v x)=false:=rfl
@[go_sem] theorem ZbA {f:Bool}{rows:List (List D)}:kw (.list f rows)=false:=rfl
@[go_sem] theorem ZbC {x:List D}:kw (.eptr x)=false:=rfl
@[go_sem] theorem isRef_fn {f:Fn}{a b:List D}:kw (.fn f a b)=false:=rfl
@[go_sem] theorem ZbG {a b c:Nat}:fH (.mrow a b c)=true:=rfl
@[go_sem] theorem Zcp {f:Bool}{rows:List (List D)}{h:H}:iB h (.list f rows)=True:=rfl
@[go_sem] theorem Zcm {x:Value}{h:H}:iB h (.v x)=True:=rfl
@[go_sem] theorem Zct {x:List D}{h:H}:iB h (.agg x)=True:=rfl
@[go_sem] theorem Zcq {f:Fn}{a b:List D}{h:H}:iB h (.fn f a b)=((∀ c∈a,lq h c) /\ ∀ c∈b,lq h c):=rfl
@[go_sem] theorem Zco {r i off:Nat}{h:H}:iB h (.mptr r i off)=((h r).isSome=true /\ ∀ c∈dO (.mptr r i off) h,lu h c):=rfl
@[go_sem] theorem Zcw {r i off:Nat}{h:H}:lq h (.mptr r i off)=((h r).isSome=true /\ ∀ c∈dO (.mptr r i off) h,lu h c):=rfl
@[go_sem] theorem Zcv {r off len:Nat}{h:H}:lq h (.mrow r off len)=((h r).isSome=true/\(rowsOf (.mrow r off len) h).length=len):=rfl
@[go_sem] theorem ZcC {r off len:Nat}{h:H}:lu h (.mrow r off len)=((h r).isSome=true/\(rowsOf (.mrow r off len) h).length=len):=rfl
@[go_sem] theorem Zcu {x:Value}{h:H}:lq h (.v x)=True:=rfl
@[go_sem] theorem Zcx {f:Bool}{rows:List (List D)}{h:H}:lq h (.list f rows)=True:=rfl
@[go_sem] theorem ZcA {x:List D}{h:H}:lq h (.eptr x)=True:=rfl
@[go_sem] theorem Zcy {f:Fn}{a b:List D}{h:H}:lq h (.fn f a b)=True:=rfl
@[go_sem] theorem ZcB {x:Value}{h:H}:lu h (.v x)=True:=rfl
@[go_sem] theorem ZcD {f:Bool}{rows:List (List D)}{h:H}:lu h (.list f rows)=True:=rfl
@[go_sem] theorem ZcE {f:Fn}{a b:List D}{h:H}:lu h (.fn f a b)=True:=rfl
@[go_sem] theorem Zcn {r off len:Nat}{h:H}:iB h (.mrow r off len)=((h r).isSome=true/\(rowsOf (.mrow r off len) h).length=len):=rfl
attribute [go_sem] List.any_cons List.any_nil Bool.or_false Bool.or_true Bool.false_or Bool.true_or
@[go_sem] theorem ZcZ {k:FuncId}{d:D}{ys:List D}{h:H}{b:Nat}:fV W C (.func k) (d::ys) h b=if C.pure k then
   (if C.cf then (C.pf k (ys.map wk),h,W.pureCt k (ys.map wk) (C.pf k (ys.map wk))/\ys.any fH=false)
   else if C.dp then (C.pf k (ys.map (kK h)),h,W.pureCt k (ys.map (kK h)) (C.pf k (ys.map (kK h)))/\flat (C.pf k (ys.map (kK h)))=true /\ ∀ y∈ys,cK h 5 y)
   else (C.pf k (ys.map (jm h)),h,W.pureCt k (ys.map (jm h)) (C.pf k (ys.map (jm h)))/\(ys.any fH=true->flat (C.pf k (ys.map (jm h)))=true /\ ∀ y∈ys,iB h y)))
  else (.junk,h,False):=rfl
@[go_sem] theorem call_tmp {k:FuncId}{t:Tmp}{first caps ys:List D}{h:H}{b:Nat}:fV W C (.tmp t) (.fn (.func k) first caps::ys) h b=if C.pure k then
   (if C.cf then (C.pf k ((first++ys++caps).map wk),h,W.pureCt k ((first++ys++caps).map wk) (C.pf k ((first++ys++caps).map wk))/\(first++ys++caps).any fH=false)
   else if C.dp then (C.pf k ((first++ys++caps).map (kK h)),h,W.pureCt k ((first++ys++caps).map (kK h)) (C.pf k ((first++ys++caps).map (kK h)))/\flat (C.pf k ((first++ys++caps).map (kK h)))=true /\ ∀ y∈first++ys++caps,cK h 5 y)
   else (C.pf k ((first++ys++caps).map (jm h)),h,W.pureCt k ((first++ys++caps).map (jm h)) (C.pf k ((first++ys++caps).map (jm h)))/\((first++ys++caps).any fH=true->flat (C.pf k ((first++ys++caps).map (jm h)))=true /\ ∀ y∈first++ys++caps,iB h y)))
  else (.junk,h,False):=rfl
@[go_sem] theorem Zas [Glob P] {k:FuncId}{xs:List D}{r:D}:(words P).pureCt k xs r=PureCt P k xs r:=rfl
@[go_sem] theorem words_ct [Glob P] {k:FuncId}{xs:List D}{h h':H}{b:Nat}{r:D}:(words P).ct k xs h b r h'=Ct P k xs h b r h':=rfl
@[go_sem] theorem flat_v {x:Value}:flat (.v x)=true:=rfl
attribute [go_sem] jb Gp vJ jG
attribute [go_sem] List.forall_mem_cons List.not_mem_nil false_implies forall_const
@[go_sem] theorem snap_v {h:H}{k:Nat}{x:Value}:bL h k (.v x) = .v x:=by cases k<;>rfl
@[go_sem] theorem ZaF {h:H}{k:Nat}{f:Bool}{x:List (List D)}:bL h k (.list f x) = .list f x:=by cases k<;>rfl
@[go_sem] theorem ZaD {h:H}{k:Nat}{r off len:Nat}:bL h (k+1) (.mrow r off len) = .list false ((rowsOf (.mrow r off len) h).map fun row=>row.map (bL h k)):=rfl
@[go_sem] theorem snap_agg {h:H}{k:Nat}{cs:List D}:bL h (k+1) (.agg cs) = .agg (cs.map (bL h k)):=rfl
@[go_sem] theorem ZaC {h:H}{k:Nat}{cs:List D}:bL h (k+1) (.tuple cs) = .tuple (cs.map (bL h k)):=rfl
@[go_sem] theorem snapOk_v {h:H}{k:Nat}{x:Value}:cK h k (.v x)=True:=by cases k<;>simp[cK,D.nr]
@[go_sem] theorem ZaK {h:H}{k:Nat}{f:Bool}{x:List (List D)}:cK h k (.list f x)=(aR x=true):=by cases k<;>rfl
@[go_sem] theorem ZaI {h:H}{k:Nat}{r off len:Nat}:cK h (k+1) (.mrow r off len)=(iB h (.mrow r off len) /\ ∀ row∈rowsOf (.mrow r off len) h,∀ c∈row,cK h k c):=rfl
@[go_sem] theorem ZaM {h:H}{k:Nat}{cs:List D}:cK h (k+1) (.agg cs) = ∀ c∈cs,cK h k c:=rfl
@[go_sem] theorem ZaG {h:H}{k:Nat}{cs:List D}:cK h (k+1) (.tuple cs) = ∀ c∈cs,cK h k c:=rfl
@[go_sem] theorem ZaE {h:H}{k:Nat}{r i off:Nat}:bL h (k+1) (.mptr r i off) = .eptr ((dO (.mptr r i off) h).map (bL h k)):=rfl
@[go_sem] theorem snap_fn {h:H}{k:Nat}{f:Fn}{a b:List D}:bL h (k+1) (.fn f a b) = .fn f (a.map (bL h k)) (b.map (bL h k)):=rfl
@[go_sem] theorem ZaJ {h:H}{k:Nat}{r i off:Nat}:cK h (k+1) (.mptr r i off)=((h r).isSome=true /\ ∀ c∈dO (.mptr r i off) h,cK h k c):=rfl
@[go_sem] theorem ZaL {h:H}{k:Nat}{f:Fn}{a b:List D}:cK h (k+1) (.fn f a b)=((∀ c∈a,cK h k c) /\ ∀ c∈b,cK h k c):=rfl
theorem OQ {h:H}(rows:List (List D)):(rows.map fun row=>row.map (bL h 0))=rows:=by
 have:(fun row:List D=>row.map (bL h 0))=id:=by funext row;exact List.map_id row
 rw[this];exact List.map_id rows
theorem OT {h:H}{rows:List (List D)}(hn:aR rows=true):∀ row∈rows,∀ c∈row,cK h 0 c:=fun _ h1 _ h2=>jK (uh hn h1) h2
theorem KU [Glob P] {ro:Option Nat}{Q:Exit->S->Prop}{s s':S}{id:Nat}{ops:Array Oper}{draw:Bool}(he:exec P (words P) C ops.toList s=s') (hd:draw=true->P.follows .mixedOrders=true/\jo C ops.toList=true/\gH ops.toList=true) (hok:s'.ok) (hq:Q .normal s'.clear):DW P ro (.region id ops draw) Q s :=
 Vz (C:=C) hd (by rw[he];exact hok) (by rw[he];exact hq)
end Go.DL
namespace Go.Proofs.YtjngdcldglkolaaGreatDoor
open Go.DL
def rulesTab:List Value:=[.int .i64 0,.int .i64 0,.int .i64 0,.int .i64 0,.int .i64 0,.bool false,.bool false,.bool false,.int .i64 0,.int .i64 1,.int .i64 1000000,.int .i64 0,.int .i64 0,.bool false,.bool false,.bool true,.int .i64 1,.int .i64 0,.int .i64 0,.int .i64 0,.int .i64 0,.bool false,.bool false,.bool false,.int .i64 1,.int .i64 0,.int .i64 0,.int .i64 0,.int .i64 0,.bool false,.bool true,.bool false,.int .i64 0,.int .i64 0,.int .i64 65535,.int .i64 0,.int .i64 100000,.bool false,.bool true,.bool false,.int .i64 3,.int .i64 0,.int .i64 0,.int .i64 0,.int .i64 0,.bool false,.bool false,.bool true,.int .i64 0,.int .i64 1,.int .i64 1000000,.int .i64 1,.int .i64 3,.bool false,.bool false,.bool false,.int .i64 0,.int .i64 1,.int .i64 1000000,.int .i64 1,.int .i64 3,.bool false,.bool false,.bool false,.int .i64 2,.int .i64 2,.int .i64 510,.int .i64 0,.int .i64 0,.bool true,.bool false,.bool true]
def fJ (a:Addr):Value:=.iface 290 (.pointer (some a))
def toldF (a:Addr) (x:Nat):Option (List Value):=if x=1 then some rulesTab else if x=0 then some [fJ a] else none
class Told [Glob Tryz.prog]:Prop where
 tab : ∃ a:Addr,∀ x,Glob.tab Tryz.prog x=toldF a x
section
variable [Glob Tryz.prog] [Told]
noncomputable def dZ:Addr:=(Told.tab (self:=inferInstance)).choose
theorem EY (x:Nat):Glob.tab Tryz.prog x=toldF dZ x:=(Told.tab (self:=inferInstance)).choose_spec x
theorem UL:Glob.tab Tryz.prog 1=some rulesTab:=EY 1
theorem UK:Glob.tab Tryz.prog 0=some [fJ dZ]:=EY 0
end
variable [Glob Tryz.prog]
theorem jL:Tryz.prog.follows .mixedOrders=true:=by kernel_rfl
@[go_sem] theorem ty_1:aD Tryz.prog 1=false/\Tryz.prog.cellsOf 1=1/\Tryz.prog.bytesOf 1=8/\zeroCells Tryz.prog 1=[.v .nilFunc]/\ay Tryz.prog 1=true/\(Tryz.prog.underlying 1).isSome=true/\aD Tryz.prog 2=false/\Tryz.prog.cellsOf 2=1/\Tryz.prog.bytesOf 2=8/\zeroCells Tryz.prog 2=[.v (.int .i64 0)]/\ay Tryz.prog 2=true/\Tryz.prog.underlying 2=some (.int .i64)/\aD Tryz.prog 3=false/\Tryz.prog.cellsOf 3=1/\Tryz.prog.bytesOf 3=8/\zeroCells Tryz.prog 3=[.v (.int .i64 0)]/\ay Tryz.prog 3=true/\Tryz.prog.underlying 3=some (.int .i64)/\aD Tryz.prog 4=false/\Tryz.prog.cellsOf 4=1/\zeroCells Tryz.prog 4=[.v (.bool false)]/\ay Tryz.prog 4=true/\Tryz.prog.underlying 4=some .bool/\pE Tryz.prog 4 = .v (.bool false)/\zA Tryz.prog 4=true:=by and_intros<;>kernel_rfl
@[go_sem] theorem qR:Tryz.prog.bytesOf 4=1:=by kernel_rfl
@[go_sem] theorem ty_2:aD Tryz.prog 5=false/\Tryz.prog.cellsOf 5=1/\Tryz.prog.bytesOf 5=1/\zeroCells Tryz.prog 5=[.v (.int .u8 0)]/\ay Tryz.prog 5=true/\Tryz.prog.underlying 5=some (.int .u8)/\aD Tryz.prog 9=false/\Tryz.prog.cellsOf 9=1/\Tryz.prog.bytesOf 9=16/\zeroCells Tryz.prog 9=[.v (.string ⟨⟨[]⟩⟩)]/\Tryz.prog.underlying 9=some .string/\kr Tryz.prog 9=true:=by and_intros<;>kernel_rfl
@[go_sem] theorem pz:ay Tryz.prog 9=true:=by kernel_rfl
@[go_sem] theorem ty_3:aD Tryz.prog 20=false/\Tryz.prog.cellsOf 20=1/\Tryz.prog.bytesOf 20=16/\zeroCells Tryz.prog 20=[.v .nilIface]/\ay Tryz.prog 20=true/\(Tryz.prog.underlying 20).isSome=true/\aD Tryz.prog 22=false/\Tryz.prog.cellsOf 22=1/\Tryz.prog.bytesOf 22=24/\zeroCells Tryz.prog 22=[.list true []]/\ay Tryz.prog 22=true/\(Tryz.prog.underlying 22).isSome=true/\aX Tryz.prog 22=some 5/\aD Tryz.prog 23=false/\Tryz.prog.cellsOf 23=1/\Tryz.prog.bytesOf 23=24/\zeroCells Tryz.prog 23=[.list true []]/\ay Tryz.prog 23=true/\(Tryz.prog.underlying 23).isSome=true/\aX Tryz.prog 23=some 22/\aD Tryz.prog 24=true/\Tryz.prog.cellsOf 24=2/\Tryz.prog.bytesOf 24=48/\zeroCells Tryz.prog 24=[.list true [],.list true []]/\ay Tryz.prog 24=true/\(Tryz.prog.underlying 24).isSome=true/\aP Tryz.prog 24 0=some (0,22)/\aP Tryz.prog 24 1=some (1,23)/\fB Tryz.prog 24=true/\aD Tryz.prog 25=true/\Tryz.prog.cellsOf 25=2/\Tryz.prog.bytesOf 25=48/\zeroCells Tryz.prog 25=[.list true [],.list true []]/\ay Tryz.prog 25=true/\(Tryz.prog.underlying 25).isSome=true/\aP Tryz.prog 25 0=some (0,22)/\aP Tryz.prog 25 1=some (1,23)/\fB Tryz.prog 25=true/\aD Tryz.prog 26=false/\Tryz.prog.cellsOf 26=1:=by and_intros<;>kernel_rfl
@[go_sem] theorem ty_4:Tryz.prog.bytesOf 26=24/\zeroCells Tryz.prog 26=[.list true []]/\ay Tryz.prog 26=true/\(Tryz.prog.underlying 26).isSome=true/\aX Tryz.prog 26=some 66/\aD Tryz.prog 28=true/\Tryz.prog.cellsOf 28=2/\Tryz.prog.bytesOf 28=40/\zeroCells Tryz.prog 28=[.v (.string ⟨⟨[]⟩⟩),.list true []]/\ay Tryz.prog 28=true/\(Tryz.prog.underlying 28).isSome=true/\aP Tryz.prog 28 0=some (0,9)/\aP Tryz.prog 28 1=some (1,26)/\fB Tryz.prog 28=true/\aD Tryz.prog 29=false/\Tryz.prog.cellsOf 29=1/\Tryz.prog.bytesOf 29=24/\zeroCells Tryz.prog 29=[.list true []]/\ay Tryz.prog 29=true/\(Tryz.prog.underlying 29).isSome=true/\aX Tryz.prog 29=some 86/\aD Tryz.prog 31=true/\Tryz.prog.cellsOf 31=5/\Tryz.prog.bytesOf 31=80/\zeroCells Tryz.prog 31=[.v (.string ⟨⟨[]⟩⟩),.v (.int .i64 0),.v (.int .i64 0),.list true [],.list true []]/\ay Tryz.prog 31=true/\(Tryz.prog.underlying 31).isSome=true/\aP Tryz.prog 31 0=some (0,9)/\aP Tryz.prog 31 1=some (1,3)/\aP Tryz.prog 31 2=some (2,3)/\aP Tryz.prog 31 3=some (3,29)/\aP Tryz.prog 31 4=some (4,26)/\fB Tryz.prog 31=true/\aD Tryz.prog 32=false/\Tryz.prog.cellsOf 32=1/\Tryz.prog.bytesOf 32=8/\zeroCells Tryz.prog 32=[.v .nilFunc]/\ay Tryz.prog 32=true/\(Tryz.prog.underlying 32).isSome=true/\aD Tryz.prog 36=false:=by and_intros<;>kernel_rfl
@[go_sem] theorem ty_5:Tryz.prog.cellsOf 36=1/\Tryz.prog.bytesOf 36=8/\zeroCells Tryz.prog 36=[.v (.int .i64 0)]/\ay Tryz.prog 36=true/\Tryz.prog.underlying 36=some (.int .i64)/\aD Tryz.prog 40=false/\Tryz.prog.cellsOf 40=1/\Tryz.prog.bytesOf 40=8/\zeroCells Tryz.prog 40=[.v .nilFunc]/\ay Tryz.prog 40=true/\(Tryz.prog.underlying 40).isSome=true/\aD Tryz.prog 47=false/\Tryz.prog.cellsOf 47=1/\Tryz.prog.bytesOf 47=24/\zeroCells Tryz.prog 47=[.list true []]/\ay Tryz.prog 47=true/\(Tryz.prog.underlying 47).isSome=true/\aX Tryz.prog 47=some 28/\aD Tryz.prog 50=false/\Tryz.prog.cellsOf 50=1/\Tryz.prog.bytesOf 50=8/\zeroCells Tryz.prog 50=[.v .nilFunc]/\ay Tryz.prog 50=true/\(Tryz.prog.underlying 50).isSome=true/\aD Tryz.prog 54=false/\Tryz.prog.cellsOf 54=1/\Tryz.prog.bytesOf 54=2/\zeroCells Tryz.prog 54=[.v (.int .u16 0)]/\ay Tryz.prog 54=true/\Tryz.prog.underlying 54=some (.int .u16)/\aD Tryz.prog 55=false/\Tryz.prog.cellsOf 55=1/\Tryz.prog.bytesOf 55=24/\zeroCells Tryz.prog 55=[.list true []]/\ay Tryz.prog 55=true/\(Tryz.prog.underlying 55).isSome=true/\aX Tryz.prog 55=some 3/\aD Tryz.prog 61=false/\Tryz.prog.cellsOf 61=1/\Tryz.prog.bytesOf 61=24:=by and_intros<;>kernel_rfl
@[go_sem] theorem ty_6:zeroCells Tryz.prog 61=[.list true []]/\ay Tryz.prog 61=true/\(Tryz.prog.underlying 61).isSome=true/\aX Tryz.prog 61=some 110/\aD Tryz.prog 63=true/\Tryz.prog.cellsOf 63=4/\Tryz.prog.bytesOf 63=56/\zeroCells Tryz.prog 63=[.v (.string ⟨⟨[]⟩⟩),.v (.int .i64 0),.v (.int .i64 0),.list true []]/\ay Tryz.prog 63=true/\(Tryz.prog.underlying 63).isSome=true/\aP Tryz.prog 63 0=some (0,9)/\aP Tryz.prog 63 1=some (1,3)/\aP Tryz.prog 63 2=some (2,3)/\aP Tryz.prog 63 3=some (3,61)/\fB Tryz.prog 63=true/\aD Tryz.prog 64=false/\Tryz.prog.cellsOf 64=1/\Tryz.prog.bytesOf 64=24/\zeroCells Tryz.prog 64=[.list true []]/\ay Tryz.prog 64=true/\(Tryz.prog.underlying 64).isSome=true/\aX Tryz.prog 64=some 160/\aD Tryz.prog 66=true/\Tryz.prog.cellsOf 66=5/\Tryz.prog.bytesOf 66=80/\zeroCells Tryz.prog 66=[.v (.string ⟨⟨[]⟩⟩),.v (.int .i64 0),.v (.int .i64 0),.list true [],.list true []]/\ay Tryz.prog 66=true/\(Tryz.prog.underlying 66).isSome=true/\aP Tryz.prog 66 0=some (0,63)/\aP Tryz.prog 66 1=some (4,64)/\fB Tryz.prog 66=true/\pE Tryz.prog 66 = .agg [.v (.string ⟨⟨[]⟩⟩),.v (.int .i64 0),.v (.int .i64 0),.list true [],.list true []]/\zA Tryz.prog 66=true/\aD Tryz.prog 70=true/\Tryz.prog.cellsOf 70=3/\Tryz.prog.bytesOf 70=48/\zeroCells Tryz.prog 70=[.v (.bool false),.v (.string ⟨⟨[]⟩⟩),.list true []]/\ay Tryz.prog 70=true/\(Tryz.prog.underlying 70).isSome=true/\aP Tryz.prog 70 0=some (0,4):=by and_intros<;>kernel_rfl
@[go_sem] theorem ty_7:aP Tryz.prog 70 1=some (1,28)/\fB Tryz.prog 70=true/\aD Tryz.prog 72=true/\Tryz.prog.cellsOf 72=8/\Tryz.prog.bytesOf 72=128/\zeroCells Tryz.prog 72=[.list true [],.v (.int .i64 0),.v (.bool false),.v (.string ⟨⟨[]⟩⟩),.list true [],.v (.bool false),.v (.string ⟨⟨[]⟩⟩),.list true []]/\ay Tryz.prog 72=true/\(Tryz.prog.underlying 72).isSome=true/\aP Tryz.prog 72 0=some (0,22)/\aP Tryz.prog 72 1=some (1,3)/\aP Tryz.prog 72 2=some (2,70)/\aP Tryz.prog 72 3=some (5,70)/\fB Tryz.prog 72=true/\aD Tryz.prog 80=false/\Tryz.prog.cellsOf 80=1/\Tryz.prog.bytesOf 80=8/\zeroCells Tryz.prog 80=[.v .nilFunc]/\ay Tryz.prog 80=true/\(Tryz.prog.underlying 80).isSome=true/\aD Tryz.prog 83=false/\Tryz.prog.cellsOf 83=1/\Tryz.prog.bytesOf 83=8/\zeroCells Tryz.prog 83=[.v (.map none)]/\ay Tryz.prog 83=true/\(Tryz.prog.underlying 83).isSome=true/\ko Tryz.prog 83=some (86,66)/\kr Tryz.prog 86=true/\aD Tryz.prog 86=true/\Tryz.prog.cellsOf 86=2/\Tryz.prog.bytesOf 86=24/\zeroCells Tryz.prog 86=[.v (.string ⟨⟨[]⟩⟩),.v (.int .i64 0)]/\ay Tryz.prog 86=true/\(Tryz.prog.underlying 86).isSome=true/\aP Tryz.prog 86 0=some (0,9)/\aP Tryz.prog 86 1=some (1,3)/\fB Tryz.prog 86=true/\kD Tryz.prog 86=some [.s,.i]:=by and_intros<;>kernel_rfl
@[go_sem] theorem zg (x0:ByteArray) (x1:Int):gX Tryz.prog 86 (.agg [.v (.string x0),.v (.int .i64 x1)])=true:=by kernel_rfl
@[go_sem] theorem ty_8:aD Tryz.prog 89=false/\Tryz.prog.cellsOf 89=1/\Tryz.prog.bytesOf 89=8/\zeroCells Tryz.prog 89=[.v .nilFunc]/\ay Tryz.prog 89=true/\(Tryz.prog.underlying 89).isSome=true/\aD Tryz.prog 90=false/\Tryz.prog.cellsOf 90=1/\Tryz.prog.bytesOf 90=8/\zeroCells Tryz.prog 90=[.v .nilFunc]/\ay Tryz.prog 90=true/\(Tryz.prog.underlying 90).isSome=true/\aD Tryz.prog 92=false/\Tryz.prog.cellsOf 92=1/\Tryz.prog.bytesOf 92=8/\zeroCells Tryz.prog 92=[.v .nilFunc]/\ay Tryz.prog 92=true/\(Tryz.prog.underlying 92).isSome=true/\aD Tryz.prog 97=false/\Tryz.prog.cellsOf 97=1/\Tryz.prog.bytesOf 97=8/\zeroCells Tryz.prog 97=[.v (.pointer none)]/\ay Tryz.prog 97=true/\(Tryz.prog.underlying 97).isSome=true/\aD Tryz.prog 99=true/\Tryz.prog.cellsOf 99=2/\Tryz.prog.bytesOf 99=32/\zeroCells Tryz.prog 99=[.list true [],.v (.bool false)]/\ay Tryz.prog 99=true/\(Tryz.prog.underlying 99).isSome=true/\aP Tryz.prog 99 0=some (0,22)/\aP Tryz.prog 99 1=some (1,4)/\fB Tryz.prog 99=true/\aD Tryz.prog 106=false/\Tryz.prog.cellsOf 106=1/\Tryz.prog.bytesOf 106=8/\zeroCells Tryz.prog 106=[.v .nilFunc]/\ay Tryz.prog 106=true/\(Tryz.prog.underlying 106).isSome=true/\aD Tryz.prog 110=true:=by and_intros<;>kernel_rfl
@[go_sem] theorem ty_9:Tryz.prog.cellsOf 110=3/\Tryz.prog.bytesOf 110=32/\zeroCells Tryz.prog 110=[.v (.string ⟨⟨[]⟩⟩),.v (.int .i64 0),.v (.int .i64 0)]/\ay Tryz.prog 110=true/\(Tryz.prog.underlying 110).isSome=true/\aP Tryz.prog 110 0=some (0,9)/\aP Tryz.prog 110 1=some (1,3)/\aP Tryz.prog 110 2=some (2,3)/\fB Tryz.prog 110=true/\kD Tryz.prog 110=some [.s,.i,.i]/\aD Tryz.prog 111=false/\Tryz.prog.cellsOf 111=1/\Tryz.prog.bytesOf 111=8/\zeroCells Tryz.prog 111=[.v .nilFunc]/\ay Tryz.prog 111=true/\(Tryz.prog.underlying 111).isSome=true/\aD Tryz.prog 113=true/\Tryz.prog.cellsOf 113=2/\Tryz.prog.bytesOf 113=40/\zeroCells Tryz.prog 113=[.v (.string ⟨⟨[]⟩⟩),.list true []]/\ay Tryz.prog 113=true/\(Tryz.prog.underlying 113).isSome=true/\aP Tryz.prog 113 0=some (0,28)/\fB Tryz.prog 113=true/\aD Tryz.prog 114=false/\Tryz.prog.cellsOf 114=1/\Tryz.prog.bytesOf 114=24/\zeroCells Tryz.prog 114=[.list true []]/\ay Tryz.prog 114=true/\(Tryz.prog.underlying 114).isSome=true/\aX Tryz.prog 114=some 9/\aD Tryz.prog 116=true/\Tryz.prog.cellsOf 116=3/\Tryz.prog.bytesOf 116=64/\zeroCells Tryz.prog 116=[.v (.string ⟨⟨[]⟩⟩),.list true [],.list true []]/\ay Tryz.prog 116=true/\(Tryz.prog.underlying 116).isSome=true/\aP Tryz.prog 116 0=some (0,113)/\aP Tryz.prog 116 1=some (2,114)/\fB Tryz.prog 116=true:=by and_intros<;>kernel_rfl
@[go_sem] theorem ty_10:aD Tryz.prog 119=false/\Tryz.prog.cellsOf 119=1/\Tryz.prog.bytesOf 119=1/\zeroCells Tryz.prog 119=[.v (.int .i8 0)]/\ay Tryz.prog 119=true/\Tryz.prog.underlying 119=some (.int .i8)/\aD Tryz.prog 121=true/\Tryz.prog.cellsOf 121=3/\Tryz.prog.bytesOf 121=40/\zeroCells Tryz.prog 121=[.list true [],.v (.int .i64 0),.v (.int .i8 0)]/\ay Tryz.prog 121=true/\(Tryz.prog.underlying 121).isSome=true/\aP Tryz.prog 121 0=some (0,22)/\aP Tryz.prog 121 1=some (1,3)/\aP Tryz.prog 121 2=some (2,119)/\fB Tryz.prog 121=true/\aD Tryz.prog 123=true/\Tryz.prog.cellsOf 123=3/\Tryz.prog.bytesOf 123=40/\zeroCells Tryz.prog 123=[.list true [],.v (.int .i64 0),.v (.int .i8 0)]/\ay Tryz.prog 123=true/\(Tryz.prog.underlying 123).isSome=true/\aP Tryz.prog 123 0=some (0,121)/\fB Tryz.prog 123=true/\aD Tryz.prog 125=false/\Tryz.prog.cellsOf 125=1/\Tryz.prog.bytesOf 125=16/\zeroCells Tryz.prog 125=[.v .nilIface]/\ay Tryz.prog 125=true/\(Tryz.prog.underlying 125).isSome=true/\aD Tryz.prog 128=false/\Tryz.prog.cellsOf 128=1/\Tryz.prog.bytesOf 128=8/\zeroCells Tryz.prog 128=[.v .nilFunc]/\ay Tryz.prog 128=true/\(Tryz.prog.underlying 128).isSome=true/\aD Tryz.prog 129=false/\Tryz.prog.cellsOf 129=1/\Tryz.prog.bytesOf 129=8/\zeroCells Tryz.prog 129=[.v (.int .u64 0)]:=by and_intros<;>kernel_rfl
@[go_sem] theorem ty_11:ay Tryz.prog 129=true/\Tryz.prog.underlying 129=some (.int .u64)/\aD Tryz.prog 149=false/\Tryz.prog.cellsOf 149=1/\Tryz.prog.bytesOf 149=8/\zeroCells Tryz.prog 149=[.v .nilFunc]/\ay Tryz.prog 149=true/\(Tryz.prog.underlying 149).isSome=true/\aD Tryz.prog 153=false/\Tryz.prog.cellsOf 153=1/\Tryz.prog.bytesOf 153=8/\zeroCells Tryz.prog 153=[.v (.map none)]/\ay Tryz.prog 153=true/\(Tryz.prog.underlying 153).isSome=true/\ko Tryz.prog 153=some (86,4)/\aD Tryz.prog 156=false/\Tryz.prog.cellsOf 156=1/\Tryz.prog.bytesOf 156=8/\zeroCells Tryz.prog 156=[.v (.int .u64 0)]/\ay Tryz.prog 156=true/\Tryz.prog.underlying 156=some (.int .u64)/\aD Tryz.prog 160=true/\Tryz.prog.cellsOf 160=6/\Tryz.prog.bytesOf 160=56/\zeroCells Tryz.prog 160=[.v (.string ⟨⟨[]⟩⟩),.v (.int .i64 0),.v (.int .i64 0),.v (.int .i64 0),.v (.int .i64 0),.v (.int .u64 0)]/\ay Tryz.prog 160=true/\(Tryz.prog.underlying 160).isSome=true/\aP Tryz.prog 160 0=some (0,9)/\aP Tryz.prog 160 1=some (1,3)/\aP Tryz.prog 160 2=some (2,3)/\aP Tryz.prog 160 3=some (3,3)/\aP Tryz.prog 160 4=some (4,3)/\aP Tryz.prog 160 5=some (5,129)/\fB Tryz.prog 160=true/\kD Tryz.prog 160=some [.s,.i,.i,.i,.i,.i]/\aD Tryz.prog 163=false/\Tryz.prog.cellsOf 163=1/\Tryz.prog.bytesOf 163=8/\zeroCells Tryz.prog 163=[.v .nilFunc]/\ay Tryz.prog 163=true:=by and_intros<;>kernel_rfl
@[go_sem] theorem ty_12:(Tryz.prog.underlying 163).isSome=true/\aD Tryz.prog 174=false/\Tryz.prog.cellsOf 174=1/\Tryz.prog.bytesOf 174=8/\zeroCells Tryz.prog 174=[.v (.map none)]/\ay Tryz.prog 174=true/\(Tryz.prog.underlying 174).isSome=true/\ko Tryz.prog 174=some (9,4):=by and_intros<;>kernel_rfl
@[go_sem] theorem ko9 (x0:ByteArray):gX Tryz.prog 9 (.v (.string x0))=true:=by kernel_rfl
@[go_sem] theorem ty_13:aD Tryz.prog 176=false/\Tryz.prog.cellsOf 176=1/\Tryz.prog.bytesOf 176=8/\zeroCells Tryz.prog 176=[.v (.pointer none)]/\ay Tryz.prog 176=true/\(Tryz.prog.underlying 176).isSome=true/\aD Tryz.prog 179=false/\Tryz.prog.cellsOf 179=1/\Tryz.prog.bytesOf 179=8/\zeroCells Tryz.prog 179=[.v (.pointer none)]/\ay Tryz.prog 179=true/\(Tryz.prog.underlying 179).isSome=true/\aD Tryz.prog 180=false/\Tryz.prog.cellsOf 180=1/\Tryz.prog.bytesOf 180=8/\zeroCells Tryz.prog 180=[.v (.int .u64 0)]/\ay Tryz.prog 180=true/\Tryz.prog.underlying 180=some (.int .u64)/\aD Tryz.prog 187=false/\Tryz.prog.cellsOf 187=1/\Tryz.prog.bytesOf 187=24/\zeroCells Tryz.prog 187=[.list true []]/\ay Tryz.prog 187=true/\(Tryz.prog.underlying 187).isSome=true/\aX Tryz.prog 187=some 4/\aD Tryz.prog 194=false/\Tryz.prog.cellsOf 194=1/\Tryz.prog.bytesOf 194=8/\zeroCells Tryz.prog 194=[.v .nilFunc]/\ay Tryz.prog 194=true/\(Tryz.prog.underlying 194).isSome=true/\aD Tryz.prog 195=false/\Tryz.prog.cellsOf 195=1/\Tryz.prog.bytesOf 195=8/\zeroCells Tryz.prog 195=[.v (.pointer none)]/\ay Tryz.prog 195=true/\(Tryz.prog.underlying 195).isSome=true/\aD Tryz.prog 199=false/\Tryz.prog.cellsOf 199=1/\Tryz.prog.bytesOf 199=8:=by and_intros<;>kernel_rfl
@[go_sem] theorem ty_14:zeroCells Tryz.prog 199=[.v .nilFunc]/\ay Tryz.prog 199=true/\(Tryz.prog.underlying 199).isSome=true/\aD Tryz.prog 200=false/\Tryz.prog.cellsOf 200=1/\Tryz.prog.bytesOf 200=8/\zeroCells Tryz.prog 200=[.v .nilFunc]/\ay Tryz.prog 200=true/\(Tryz.prog.underlying 200).isSome=true/\aD Tryz.prog 203=false/\Tryz.prog.cellsOf 203=1/\Tryz.prog.bytesOf 203=8/\zeroCells Tryz.prog 203=[.v .nilFunc]/\ay Tryz.prog 203=true/\(Tryz.prog.underlying 203).isSome=true/\aD Tryz.prog 206=false/\Tryz.prog.cellsOf 206=1/\Tryz.prog.bytesOf 206=8/\zeroCells Tryz.prog 206=[.v .nilFunc]/\ay Tryz.prog 206=true/\(Tryz.prog.underlying 206).isSome=true/\aD Tryz.prog 209=false/\Tryz.prog.cellsOf 209=1/\Tryz.prog.bytesOf 209=8/\zeroCells Tryz.prog 209=[.v .nilFunc]/\ay Tryz.prog 209=true/\(Tryz.prog.underlying 209).isSome=true/\aD Tryz.prog 210=false/\Tryz.prog.cellsOf 210=1/\Tryz.prog.bytesOf 210=16/\zeroCells Tryz.prog 210=[.v (.string ⟨⟨[]⟩⟩)]/\ay Tryz.prog 210=true/\Tryz.prog.underlying 210=some .string/\aD Tryz.prog 214=true/\Tryz.prog.cellsOf 214=8/\Tryz.prog.bytesOf 214=48/\zeroCells Tryz.prog 214=[.v (.int .i64 0),.v (.int .i64 0),.v (.int .i64 0),.v (.int .i64 0),.v (.int .i64 0),.v (.bool false),.v (.bool false),.v (.bool false)]/\ay Tryz.prog 214=true/\(Tryz.prog.underlying 214).isSome=true/\aP Tryz.prog 214 0=some (0,3):=by and_intros<;>kernel_rfl
@[go_sem] theorem ty_15:aP Tryz.prog 214 1=some (1,3)/\aP Tryz.prog 214 2=some (2,3)/\aP Tryz.prog 214 3=some (3,3)/\aP Tryz.prog 214 4=some (4,3)/\aP Tryz.prog 214 5=some (5,4)/\aP Tryz.prog 214 6=some (6,4)/\aP Tryz.prog 214 7=some (7,4)/\fB Tryz.prog 214=true/\kD Tryz.prog 214=some [.i,.i,.i,.i,.i,.b,.b,.b]/\aD Tryz.prog 215=true/\Tryz.prog.cellsOf 215=72/\Tryz.prog.bytesOf 215=432/\zeroCells Tryz.prog 215=[.v (.int .i64 0),.v (.int .i64 0),.v (.int .i64 0),.v (.int .i64 0),.v (.int .i64 0),.v (.bool false),.v (.bool false),.v (.bool false),.v (.int .i64 0),.v (.int .i64 0),.v (.int .i64 0),.v (.int .i64 0),.v (.int .i64 0),.v (.bool false),.v (.bool false),.v (.bool false),.v (.int .i64 0),.v (.int .i64 0),.v (.int .i64 0),.v (.int .i64 0),.v (.int .i64 0),.v (.bool false),.v (.bool false),.v (.bool false),.v (.int .i64 0),.v (.int .i64 0),.v (.int .i64 0),.v (.int .i64 0),.v (.int .i64 0),.v (.bool false),.v (.bool false),.v (.bool false),.v (.int .i64 0),.v (.int .i64 0),.v (.int .i64 0),.v (.int .i64 0),.v (.int .i64 0),.v (.bool false),.v (.bool false),.v (.bool false),.v (.int .i64 0),.v (.int .i64 0),.v (.int .i64 0),.v (.int .i64 0),.v (.int .i64 0),.v (.bool false),.v (.bool false),.v (.bool false),.v (.int .i64 0),.v (.int .i64 0),.v (.int .i64 0),.v (.int .i64 0),.v (.int .i64 0),.v (.bool false),.v (.bool false),.v (.bool false),.v (.int .i64 0),.v (.int .i64 0),.v (.int .i64 0),.v (.int .i64 0),.v (.int .i64 0),.v (.bool false),.v (.bool false),.v (.bool false),.v (.int .i64 0),.v (.int .i64 0),.v (.int .i64 0),.v (.int .i64 0),.v (.int .i64 0),.v (.bool false),.v (.bool false),.v (.bool false)]/\ay Tryz.prog 215=true/\(Tryz.prog.underlying 215).isSome=true/\aX Tryz.prog 215=none/\jS Tryz.prog 215=some (9,214)/\fB Tryz.prog 215=true:=by and_intros<;>kernel_rfl
@[go_sem] theorem fn215 {f:Nat}:aP Tryz.prog 215 f=none:=by kernel_rfl
@[go_sem] theorem ty_16:aD Tryz.prog 230=false/\Tryz.prog.cellsOf 230=1/\Tryz.prog.bytesOf 230=8/\zeroCells Tryz.prog 230=[.v .nilFunc]/\ay Tryz.prog 230=true/\(Tryz.prog.underlying 230).isSome=true/\aD Tryz.prog 231=false/\Tryz.prog.cellsOf 231=1/\Tryz.prog.bytesOf 231=8/\zeroCells Tryz.prog 231=[.v (.pointer none)]/\ay Tryz.prog 231=true/\(Tryz.prog.underlying 231).isSome=true/\aD Tryz.prog 232=false/\Tryz.prog.cellsOf 232=1/\Tryz.prog.bytesOf 232=8/\zeroCells Tryz.prog 232=[.v .nilFunc]/\ay Tryz.prog 232=true/\(Tryz.prog.underlying 232).isSome=true/\aD Tryz.prog 234=true/\Tryz.prog.cellsOf 234=1/\Tryz.prog.bytesOf 234=24/\zeroCells Tryz.prog 234=[.list true []]/\ay Tryz.prog 234=true/\(Tryz.prog.underlying 234).isSome=true/\aP Tryz.prog 234 0=some (0,22)/\fB Tryz.prog 234=true/\aD Tryz.prog 238=false/\Tryz.prog.cellsOf 238=1/\Tryz.prog.bytesOf 238=16/\zeroCells Tryz.prog 238=[.v .nilIface]/\ay Tryz.prog 238=true/\(Tryz.prog.underlying 238).isSome=true/\aD Tryz.prog 241=false/\Tryz.prog.cellsOf 241=1/\Tryz.prog.bytesOf 241=24/\zeroCells Tryz.prog 241=[.list true []]/\ay Tryz.prog 241=true/\(Tryz.prog.underlying 241).isSome=true/\aX Tryz.prog 241=some 29/\aD Tryz.prog 245=false:=by and_intros<;>kernel_rfl
@[go_sem] theorem ty_17:Tryz.prog.cellsOf 245=1/\Tryz.prog.bytesOf 245=8/\zeroCells Tryz.prog 245=[.v .nilFunc]/\ay Tryz.prog 245=true/\(Tryz.prog.underlying 245).isSome=true/\aD Tryz.prog 246=false/\Tryz.prog.cellsOf 246=1/\Tryz.prog.bytesOf 246=8/\zeroCells Tryz.prog 246=[.v .nilFunc]/\ay Tryz.prog 246=true/\(Tryz.prog.underlying 246).isSome=true/\aD Tryz.prog 254=false/\Tryz.prog.cellsOf 254=1/\Tryz.prog.bytesOf 254=8/\zeroCells Tryz.prog 254=[.v (.pointer none)]/\ay Tryz.prog 254=true/\(Tryz.prog.underlying 254).isSome=true/\aD Tryz.prog 256=false/\Tryz.prog.cellsOf 256=1/\Tryz.prog.bytesOf 256=8/\zeroCells Tryz.prog 256=[.v (.pointer none)]/\ay Tryz.prog 256=true/\(Tryz.prog.underlying 256).isSome=true/\aD Tryz.prog 258=true/\Tryz.prog.cellsOf 258=3/\Tryz.prog.bytesOf 258=40/\zeroCells Tryz.prog 258=[.list true [],.v (.int .i64 0),.v (.bool false)]/\ay Tryz.prog 258=true/\(Tryz.prog.underlying 258).isSome=true/\aP Tryz.prog 258 0=some (0,22)/\aP Tryz.prog 258 1=some (1,3)/\aP Tryz.prog 258 2=some (2,4)/\fB Tryz.prog 258=true/\aD Tryz.prog 262=false/\Tryz.prog.cellsOf 262=1/\Tryz.prog.bytesOf 262=24/\zeroCells Tryz.prog 262=[.list true []]/\ay Tryz.prog 262=true/\(Tryz.prog.underlying 262).isSome=true/\aX Tryz.prog 262=some 254:=by and_intros<;>kernel_rfl
@[go_sem] theorem ty_18:aD Tryz.prog 285=true/\Tryz.prog.cellsOf 285=2/\Tryz.prog.bytesOf 285=32/\zeroCells Tryz.prog 285=[.list true [],.v (.bool false)]/\ay Tryz.prog 285=true/\(Tryz.prog.underlying 285).isSome=true/\aP Tryz.prog 285 0=some (0,22)/\aP Tryz.prog 285 1=some (1,4)/\fB Tryz.prog 285=true/\aD Tryz.prog 288=false/\Tryz.prog.cellsOf 288=1/\Tryz.prog.bytesOf 288=8/\zeroCells Tryz.prog 288=[.v (.pointer none)]/\ay Tryz.prog 288=true/\(Tryz.prog.underlying 288).isSome=true:=by and_intros<;>kernel_rfl
end Go.Proofs.YtjngdcldglkolaaGreatDoor
namespace Go.DL
open Go.RowKit
variable {P : Program} {C : Con} {ro : Option Nat} {Q : Exit -> S -> Prop}
theorem VA [Glob P] {s:S}{n nx:Nat}{t:Nat->D}{h:H}{ok:Prop}{e:Env}{id:Nat}{ops:Array Oper}{draw:Bool}(he:exec P (words P) C ops.toList s=⟨n,t,h,nx,ok,e⟩) (hd:draw=true->P.follows .mixedOrders=true/\jo C ops.toList=true/\gH ops.toList=true) (hok:ok) (hq:Q .normal ⟨n,t,h,nx,True,e⟩):DW P ro (.region id ops draw) Q s :=
 KU (C:=C) he hd hok hq
theorem qL [Glob P] {s:S}{n nx:Nat}{t:Nat->D}{h:H}{ok:Prop}{e:Env}{id:Nat}{ops:Array Oper}{draw:Bool}{y:Code}(he:exec P (words P) C ops.toList s=⟨n,t,h,nx,ok,e⟩) (hd:draw=true->P.follows .mixedOrders=true/\jo C ops.toList=true/\gH ops.toList=true) (hok:ok) (hq:DW P ro y Q ⟨n,t,h,nx,True,e⟩):DW P ro (.seq (.region id ops draw) y) Q s :=
 ae (KU (C:=C) he hd hok hq)
@[go_sem] theorem ne_add {r n i:Nat}(h:r<n):(r=n+i)=False:=by simp;omega
@[go_sem] theorem add_ne {r n i:Nat}(h:r<n):(n+i=r)=False:=by simp;omega
@[go_sem] theorem lI {α β:Type}{f:α->β}{l:List α}:(l.map f).take l.length=l.map f:=by rw[Yp];simp
@[go_sem] theorem Zav {α β:Type}{f:α->β}{l:List α}{x:β}:(l.map f++[x]).take (l.length+1)=l.map f++[x]:=by rw[Yp];simp
@[go_sem] theorem Nt : ∀ {a b:List (List D)},bV (a++b)=bV a++bV b
 | [],_=>rfl
 | r::a,b=>by simp only[X0,bV,Nt]
attribute [go_sem] OQ IC aR aW
@[go_sem] theorem ZaH {h:H}{rows:List (List D)}:(∀ row∈rows,∀ c∈row,cK h 0 c)=(aR rows=true):=by
 apply propext
 refine⟨fun k=>Ci fun r hr=>rO fun c hc=>k r hr c hc,fun k=>OT k⟩
@[go_sem] theorem nr_v {x:Value}:D.nr (.v x)=true:=rfl
@[go_sem] theorem nr_list {f:Bool}{rows:List (List D)}:D.nr (.list f rows)=aR rows:=rfl
def tab:List (Nat×D)->Nat->D
 | [],_=>.junk
 | (j,x)::l,i=>if i=j then x else tab l i
@[go_sem] theorem tab_hit {i:Nat}{x:D}{l:List (Nat×D)}:tab ((i,x)::l) i=x:=by simp[tab]
@[go_sem] theorem tab_miss {j i:Nat}{x:D}{l:List (Nat×D)}(h:(i=j)=False):tab ((j,x)::l) i=tab l i:=by simp only[tab];rw[XZ (by rw[h];exact id)]
def Tb (t:Nat->D) (p:Nat×D):Prop:=t p.1=p.2\/wk (t p.1)=p.2
@[go_sem] theorem tb_eq {t:Nat->D}{i:Nat}{d:D}:Tb t (i,d)=(t i=d\/wk (t i)=d):=rfl
attribute [go_sem] true_or
theorem xK {t:Nat->D}:∀ {l:List (Nat×D)},(∀ p∈l,Tb t p) -> ∀ i,tab l i=t i\/tab l i=wk (t i)\/tab l i = .junk
 | [],_,_=>.inr (.inr rfl)
 | (j,x)::l,h,i=>by
  simp only[tab]
  split
  .
   rename_i e;subst e
   rcases h (i,x) (by simp) with h|h
   .
    exact .inl h.symm
   exact .inr (.inl h.symm)
  exact xK (fun p hp=>h p (by simp[hp])) i
theorem Marks.only {B:Nat}{g:Mem}{h':H}{w:World}:∀ {ds:List Deferred},Marks B g ds w->Marks B (g.only h') ds w
 | [],_=>trivial
 | _::_,⟨h1,h2⟩=>⟨h1,Marks.only h2⟩
theorem Dfs.only {B:Bot}{g:Mem}{h':H}{w:World}{ds:List Deferred}(h:Dfs B g ds w):Dfs B (g.only h') ds w:=h.map fun _ k=>k.only
theorem St.forget [Glob P] {B:Bot}{s:S}{g:Mem}{a:Act}{w:World}(hs:St P B s g a w) {t':Nat->D}{h':H}{nx':Nat}(ht : ∀ i,t' i=s.t i\/t' i=wk (s.t i)\/t' i = .junk) (hh : ∀ r,h' r=s.h r\/h' r=none) :
  St P B { n:=s.n,t:=t',h:=h',nx:=nx',e:=s.e } (g.only h') a w:=by
 refine⟨hs.sz,fun i=>?_,hs.mem.only hh,hs.df.only,s.e.st P s.h g _ w w hs.mem only_mono hs.en,hs.bd⟩
 rcases ht i with e|e|e
 .
  show Rep w (g.only h') (t' i) _
  rw[e];exact (hs.tm i).only
 .
  show Rep w (g.only h') (t' i) _
  rw[e];exact (hs.tm i).wk.only
 show Rep w (g.only h') (t' i) _
 rw[e];exact .junk _
theorem VI [Glob P] {c:Code}{s:S}(t':Nat->D) (h':H) (nx':Nat) (ht : ∀ i,t' i=s.t i\/t' i=wk (s.t i)\/t' i = .junk) (hh : ∀ r,h' r=s.h r\/h' r=none) (hn:s.nx<=nx') (h:DW P ro c Q { n:=s.n,t:=t',h:=h',nx:=nx',e:=s.e }):DW P ro c Q s:=by
 intro B g a w hs hU
 exact wpIn_mono (h B _ a w (hs.forget ht hh) fun r hr=>YA (hU r hr) hn) fun e a' w' ⟨s',g',q,r,m,u,v⟩=>⟨s',g',q,r,only_mono.toX.trans m,u,v⟩
theorem Dz [Glob P] {c:Code}{s:S}(l:List (Nat×D)) (h':H) (nx':Nat) (ht : ∀ p∈l,Tb s.t p) (hh : ∀ r,h' r=s.h r\/h' r=none) (hn:s.nx<=nx') (h:DW P ro c Q { n:=s.n,t:=tab l,h:=h',nx:=nx',e:=s.e }):DW P ro c Q s :=
 VI _ _ _ (xK ht) hh hn h
theorem KW [Glob P] {c:Code}{s:S}{α:Type}(A:α->Prop) (μ:α->Nat) (tb:α->List (Nat×D)) (hh:α->H) (nxx:α->Nat) (a0:α) (hA:A a0) (ht : ∀ p∈tb a0,Tb s.t p) (hhp : ∀ r,hh a0 r=s.h r\/hh a0 r=none) (hn:s.nx<=nxx a0)
  (round : ∀ a,A a->DW P ro c (thenS (fun s'=>∃ a',A a'/\μ a'<μ a/\(∀ p∈tb a',Tb s'.t p)/\(∀ r,hh a' r=s'.h r\/hh a' r=none)/\s'.nx<=nxx a'/\s'.n=s.n/\s'.e=s.e) Q) { n:=s.n,t:=tab (tb a),h:=hh a,nx:=nxx a,e:=s.e }):DW P ro (.loop c) Q s:=by
 intro B g a w hs hU
 refine wpIn_loop_ghost (fun k a' w'=>∃ x g',A x/\μ x=k/\St P B { n:=s.n,t:=tab (tb x),h:=hh x,nx:=nxx x,e:=s.e } g' a' w'/\MonoX s.e.x g g' w w' /\ ∀ r,g'.U r->r<nxx x) (μ a0) ⟨a0,_,hA,rfl,hs.forget (xK ht) hhp,only_mono.toX,fun r hr=>YA (hU r hr) hn⟩ ?_
 rintro k a1 w1 ⟨x,g1,hx,rfl,hs1,hm1,hU1⟩
 refine wpIn_mono (round x hx B g1 a1 w1 hs1 hU1) ?_
 rintro e a2 w2 ⟨s2,g2,hq,hs2,hm2,hU2,hx2⟩
 cases e with
 | normal =>
  obtain⟨x',h1,h2,h3,h4,h5,h6,h7⟩:=hq;refine⟨μ x',h2,x',g2.only (hh x'),h1,rfl,?_,(hm1.trans hm2).trans only_mono.toX,fun r hr=>YA (hU2 r hr) h5⟩
  have:=hs2.forget (nx':=nxx x') (xK h3) h4;rw[h6,h7] at this;exact this
 | _=>exact⟨s2,g2,hq,hs2,hm1.trans hm2,hU2,hx2⟩
def htab:List (Nat×Blk)->H
 | []=>fun _=>none
 | (r,b)::l=>upd (htab l) r (some b)
@[go_sem] theorem htab_nil:htab []=fun _=>none:=rfl
@[go_sem] theorem ZbW {r:Nat}{b:Blk}{l:List (Nat×Blk)}:htab ((r,b)::l)=upd (htab l) r (some b):=rfl
theorem zx {h:H}:∀ {l:List (Nat×Blk)},(∀ p∈l,h p.1=some p.2) -> ∀ r,htab l r=h r\/htab l r=none
 | [],_,_=>.inr rfl
 | (j,x)::l,hl,i=>by
  simp only[htab,upd]
  split
  .
   rename_i e;subst e;exact .inl (hl (i,x) (by simp)).symm
  exact zx (fun p hp=>hl p (by simp[hp])) i
theorem Cv {s:S}{keep:List Nat}{fx:List (Nat×D)}(hfx:keep.map (fun i=>(i,s.t i))=fx):∀ p∈fx,Tb s.t p:=by
 intro p hp
 rw[<- hfx] at hp
 obtain⟨i,_,rfl⟩:=Y2.1 hp
 exact .inl rfl
theorem VC [Glob P] {c:Code}{s:S}{α:Type}(keep:List Nat) (A:α->Prop) (μ:α->Nat) (tb:α->List (Nat×D)) (hb:α->List (Nat×Blk)) (nxx:α->Nat) (a0:α) {fx:List (Nat×D)}(hfx:keep.map (fun i=>(i,s.t i))=fx) (hA:A a0) (ht : ∀ p∈tb a0,Tb s.t p) (hh : ∀ p∈hb a0,s.h p.1=some p.2) (hn:s.nx<=nxx a0)
  (round : ∀ a,A a->DW P ro c (thenS (fun s'=>∃ a',A a'/\μ a'<μ a/\(∀ p∈tb a',Tb s'.t p)/\(∀ p∈fx,Tb s'.t p)/\(∀ p∈hb a',s'.h p.1=some p.2)/\s'.nx<=nxx a'/\s'.n=s.n/\s'.e=s.e) Q) { n:=s.n,t:=tab (tb a++fx),h:=htab (hb a),nx:=nxx a,e:=s.e }):DW P ro (.loop c) Q s :=
 KW A μ (fun a=>tb a++fx) (fun a=>htab (hb a)) nxx a0 hA (fun p hp=>(Yt.1 hp).elim (ht p) (Cv hfx p)) (zx hh) hn fun a ha=>(round a ha).mono fun e s' hq=>by
  cases e with
  | normal =>
   obtain⟨a',h1,h2,h3,h4,h5,h6,h7,h8⟩:=hq;exact⟨a',h1,h2,fun p hp=>(Yt.1 hp).elim (h3 p) (h4 p),zx h5,h6,h7,h8⟩
  | _=>exact hq
theorem o5 [Glob P] {c:Code}{s:S}(keep:List Nat) (hb:List (Nat×Blk)) {fx:List (Nat×D)}(hfx:keep.map (fun i=>(i,s.t i))=fx) (hh : ∀ p∈hb,s.h p.1=some p.2) (h:DW P ro c Q { n:=s.n,t:=tab fx,h:=htab hb,nx:=s.nx,e:=s.e }):DW P ro c Q s :=
 Dz fx (htab hb) s.nx (Cv hfx) (zx hh) (XX _) h
theorem VD [Glob P] {c:Code}{s:S}(i:Nat) {f:Bool}{rows:List (List D)}(he:s.t i = .list f rows) (h:rows.length<=maxLen->DW P ro c Q s):DW P ro c Q s:=by
 intro B g a w hs hU
 refine h ?_ B g a w hs hU
 have hr:=hs.tm i
 rw[he] at hr
 generalize a.tmps.getD i undef=v at hr
 cases hr with
 | empty=>simp[maxLen]
 | list _ _ ad cap size cv hI hl hf hm hs hc hr=>omega
theorem qM [Glob P] {c:Code}{s:S}(i:Nat) (ty:TypeId) (hi:s.t i = .list true []) (hty:0<P.cellsOf ty) (h:DW P ro c Q { n:=s.n,t:=upd s.t i (.mrow s.nx 0 0),h:=upd s.h s.nx (some ⟨ty,[]⟩),nx:=s.nx+1,e:=s.e }):DW P ro c Q s:=by
 intro B g a w hs hU
 have hnu : ¬ g.U s.nx:=fun h=>Nat.lt_irrefl _ (hU _ h)
 obtain⟨g',q1,q2,q3,q4,q5⟩:=hs.mem.putNone (h':=upd s.h s.nx (some ⟨ty,[]⟩)) s.nx ⟨ty,[]⟩ hnu (upd_same _ _ _) (fun r hr=>.inl (upd_ne _ _ _ _ hr)) hty rfl
 have hst:St P B { n:=s.n,t:=upd s.t i (.mrow s.nx 0 0),h:=upd s.h s.nx (some ⟨ty,[]⟩),nx:=s.nx+1,e:=s.e } g' a w:=by
  refine⟨hs.sz,fun j=>?_,q4,hs.df.later hs.mem q5,Env.later hs.mem q5 hs.en,hs.bd⟩
  by_cases e:j=i
  .
   subst e;simp only[upd_same];have hr:=hs.tm j;rw[hi] at hr;generalize a.tmps.getD j undef=v at hr;have key : ∃ x,v = .slice x 0 0:=by
    cases hr with
    | empty _ x cap hf hm=>exact⟨x,by rw[hf rfl]⟩
    | list _ _ ad cap size cv hI hl hf=>exact⟨some ad,by rw[hf rfl];rfl⟩
   obtain⟨x,rfl⟩:=key;refine .mrow _ _ _ _ ⟨x,0,rfl,XX _,fun h=>absurd h om⟩ ((q2 _).2 (.inr rfl)) fun blk c sz he=>?_
   rw[q1] at he
   cases he
   exact⟨⟨XX _,Yl _⟩,.inl ⟨rfl,x,rfl⟩⟩
  simp only[upd_ne _ _ _ _ e];exact (hs.tm j).later hs.mem q5
 exact wpIn_mono (h B g' a w hst (fun r hr=>by
  rcases (q2 r).1 hr with h|h
  .
   exact Nat.lt_succ_of_lt (hU r h)
  subst h;exact Nat.lt_succ_self _)) fun e a' w' ⟨s',g'',q,r,m,u,v⟩=>⟨s',g'',q,r,q5.toX.trans m,u,v⟩
theorem Vt {w:World}{g:Mem}{v:Value}(hr:Rep w g (.list true []) v):∃ x,v = .slice x 0 0:=by
 cases hr with
 | empty _ x cap hf hm=>exact⟨x,by rw[hf rfl]⟩
 | list _ _ ad cap size cv hI hl hf=>exact⟨some ad,by rw[hf rfl];rfl⟩
theorem KX [Glob P] {c:Code}{s:S}(i r:Nat) {ty:TypeId}{rows:List (List D)}{len:Nat}(hi:s.t i = .mrow r 0 len) (hr:s.h r=some ⟨ty,rows⟩) (hl:rows.length=len) (hn:aR rows=true) (h:DW P ro c Q { n:=s.n,t:=upd s.t i (.list false rows),h:=upd s.h r none,nx:=s.nx,e:=s.e }):DW P ro c Q s:=by
 intro B g a w hs hU
 let g':Mem:={ M:=fun x=>if x=r then none else g.M x,U:=g.U,I:=fun b=>g.I b \/ ∃ c s,g.M r=some (some b,c,s) }
 have inv : ∀ {x y},g'.M x=some y->x≠r/\g.M x=some y:=by
  intro x y e;have e:(if x=r then none else g.M x)=some y:=e
  split at e
  .
   cases e
  exact⟨‹_›,e⟩
 have mono:Mono g g' w w:=by
  refine⟨rfl,rfl,rfl,XX _,XX _,fun _ h=>h,fun x _=>?_,fun x b c s e=>.inl ⟨x,c,s,(inv e).2⟩,fun _ h=>.inl h,fun b hb=>?_,fun _ _ _=>rfl⟩
  .
   show (if x=r then none else g.M x)=g.M x\/(if x=r then none else g.M x)=none
   split
   .
    exact .inr rfl
   exact .inl rfl
  rcases hb with hb|⟨c,s,hb⟩
  .
   exact .inl hb
  exact .inr (.inr ⟨r,c,s,hb⟩)
 have hm:HM P (upd s.h r none) g' w:=by
  refine⟨fun x hx=>?_,fun x bl hx=>?_,fun x x' b c c' s s' q1 q2=>hs.mem.inj _ _ _ _ _ _ _ (inv q1).2 (inv q2).2,fun x hx=>?_,fun b hb=>?_,hs.mem.gr.later (hs.mem.kept mono)⟩
  .
   show (if x=r then none else g.M x)=none
   split
   .
    rfl
   rename_i e;rw[upd_ne _ _ _ _ e] at hx;exact hs.mem.dead x hx
  .
   by_cases e:x=r
   .
    subst e;rw[upd_same] at hx;cases hx
   rw[upd_ne _ _ _ _ e] at hx;obtain⟨blk,c,h1,h2,h3,h4,h5⟩:=hs.mem.blk x bl hx;refine⟨blk,c,by show (if x=r then none else g.M x)=_;rw[XZ e];exact h1,h2,h3,h4,?_⟩
   rcases h5 with h5|⟨b,cur,rfl,h6,h7,h8,h9⟩
   .
    exact .inl h5
   refine .inr ⟨b,cur,rfl,h6,h7,fun hI=>?_,fun i row hi=>⟨(h9 i row hi).1,fun j d hd=>?_⟩⟩
   .
    rcases hI with hI|⟨c',s',hI⟩
    .
     exact h8 hI
    exact e (hs.mem.inj _ _ _ _ _ _ _ h1 hI)
   obtain⟨u,k3,k4,k5⟩:=(h9 i row hi).2 j d hd;exact⟨u,k3,k4,k5.later hs.mem mono⟩
  .
   cases e:g'.M x with
   | none=>exact absurd e hx
   | some y=>exact hs.mem.used x (by rw[(inv e).2];simp)
  rcases hb with hb|⟨c,s,hb⟩
  .
   exact hs.mem.imm b hb
  exact (iF hs.mem hb).1
 have hst:St P B { n:=s.n,t:=upd s.t i (.list false rows),h:=upd s.h r none,nx:=s.nx,e:=s.e } g' a w:=by
  refine⟨hs.sz,fun j=>?_,hm,hs.df.later hs.mem mono,Env.later hs.mem mono hs.en,hs.bd⟩
  by_cases e:j=i
  .
   subst e;simp only[upd_same];have hj:=hs.tm j;rw[hi] at hj
   let h1:H:=fun x=>if x=r then s.h r else none
   have hsub : ∀ x,h1 x=s.h x\/h1 x=none:=fun x=>by
    by_cases e:x=r
    .
     subst e;exact .inl (X4 rfl)
    exact .inr (XZ e)
   have hm1:=hs.mem.only hsub;have e1:h1 r=some ⟨ty,rows⟩:=by show (if r=r then s.h r else none)=_;rw[X4 rfl];exact hr
   have e2:rowsOf (.mrow r 0 len) h1=rows:=by simp only[rowsOf,e1,X8];rw[<- hl];exact YB
   have:=wP hm1 (kW hj.only) ⟨by rw[e1];rfl,by rw[e2];exact hl⟩
   rw[e2] at this;refine this.clean hn fun b hb=>?_
   rcases hb with hb|⟨x,c,sz,hb⟩
   .
    exact .inl hb
   have hb2:(if (h1 x).isSome then g.M x else none)=some (some b,c,sz):=hb
   split at hb2
   .
    rename_i hx
    have:x=r:=by
     refine YV fun e=>?_
     have:h1 x=none:=XZ e;rw[this] at hx;cases hx
    subst this;exact .inr ⟨c,sz,hb2⟩
   cases hb2
  simp only[upd_ne _ _ _ _ e];exact (hs.tm j).later hs.mem mono
 exact wpIn_mono (h B g' a w hst hU) fun e a' w' ⟨s',g'',q,r,m,u,v⟩=>⟨s',g'',q,r,mono.toX.trans m,u,v⟩
def RCt (P:Program) [Glob P] (f:FuncId) (args:List D) (h:H) (n:Nat) (R:D->H->Nat->Prop):Prop :=
 bY P f=true /\ ∀ (w:World) (g:Mem) (vs:List Value),HM P h g w->(∀ r,g.U r->r<n)->Reps w g args vs ->
  CallsIn Fence.wide 0 P f vs.toArray w fun e w'=>∃ v g' res h' n',R res h' n'/\e = .returned v/\Rep w' g' res v/\HM P h' g' w'/\Mono g g' w w' /\ ∀ r,g'.U r->r<n'
theorem RCt.mono [Glob P] {f:FuncId}{args:List D}{h:H}{n:Nat}{R R':D->H->Nat->Prop}(k:RCt P f args h n R) (i : ∀ d h' n',R d h' n'->R' d h' n'):RCt P f args h n R' :=
 ⟨k.1,fun w g vs h1 h2 h3=>(k.2 w g vs h1 h2 h3).mono fun _ _ ⟨v,g',res,h',n',q,r⟩=>⟨v,g',res,h',n',i _ _ _ q,r⟩⟩
theorem uj [Glob P] {h:H}{g:Mem}{w:World}{n:Nat}(hm:HM P h g w) (hU : ∀ r,g.U r->r<n):∀ r,n<=r->h r=none:=by
 intro r hr
 cases hq:h r with
 | none=>rfl
 | some bl =>
  obtain⟨blk,c',h1,_⟩:=hm.blk r bl hq;have:=hU r (hm.used r (by rw[h1];simp))
  omega
theorem QJ [Glob P] {f:FuncId}{fn:Func}{c:Code}{args:List D}{h:H}{n:Nat}{R:D->H->Nat->Prop}(hf:P.funcs[f]? = some fn) (hb:fn.body=some c) (hbd:bY P f=true) (hn:args.length<=fn.ntmps)
  (hw:(∀ r,n<=r->h r=none)->DW P none c (fun e s=>(e = .normal\/e = .ret)/\jb P s fn.results.toList /\ ∃ h' n',(∀ r,h' r=s.h r\/h' r=none)/\s.nx<=n'/\R (jG P fn.results.toList s) h' n') { n:=fn.ntmps,t:=fun i=>args.getD i .junk,h:=h,nx:=n }):RCt P f args h n R:=by
 refine⟨hbd,fun w g vs hm hU hr=>?_⟩
 have hs:=qx (P:=P) (n:=fn.ntmps) hr hn hm (nx:=n)
 refine callsIn_of_wp_marks (n:=0) hf hb trivial (wpIn_mono (F:=Fence.wide) (hw (uj hm hU) (Bot.of w.heap.size) g _ w hs hU) ?_)
 rintro e a' w' ⟨s',g',⟨he,ho,h',n',hh,hn',hR⟩,hs',hm',hU',_⟩
 have hm':=hm'.out
 have hlast:LeavesInM Fence.wide 0 P fn a'.tmps (fun e w'=>∃ v g' res h' n',R res h' n'/\e = .returned v/\Rep w' g' res v/\HM P h' g' w'/\Mono g g' w w' /\ ∀ r,g'.U r->r<n') a'.defers .returning w':=by
  refine ze (P:=P) a'.defers w' hs'.df.marks fun w2 e0 e1 e2 e3 e4 e5 e6 e7=>?_
  have hs2:=hs'.marks e4 e6 e7;obtain⟨v,h1,h2⟩:=tV (fn:=fn) hs2 ho;have mono2:Mono g g' w w2:=by
   refine⟨by rw[e1,hm'.os],by rw[e2,hm'.tape],by rw[e3,hm'.output],by rw[e4];exact hm'.size,by rw[e0];exact hm'.drawn,hm'.U,hm'.M,hm'.new,hm'.I,hm'.inew,fun k hk hne=>?_⟩
   rw[e5 k hk];exact hm'.same k hk hne
  exact⟨v,h1,v,g'.only h',_,h',n',hR,rfl,h2.only,hs2.mem.only hh,mono2.trans only_mono,fun r hr=>YA (hU' r hr) hn'⟩
 rcases he with rfl|rfl<;>exact hlast
theorem PureCt.rct [Glob P] {f:FuncId}{args:List D}{res:D}(k:PureCt P f args res) (h:H) (n:Nat):RCt P f args h n (fun d h' n'=>d=res/\h'=h/\n'=n):=by
 obtain⟨hbd,hnr,hct⟩:=k
 refine⟨hbd,fun w g vs hm hU hr=>?_⟩
 refine (hct w g.I _ hm.imm hm.gr (hr.clean hnr fun _ h=>h)).mono ?_
 rintro e w' ⟨v,rfl,hbel,hv⟩
 let g':Mem:={ g with I:=fun b=>g.I b\/(w.heap.size<=b/\b<w'.heap.size) }
 have mono:Mono g g' w w':=⟨hbel.os,hbel.tape,hbel.output,hbel.size,hbel.drawn,fun _ h=>h,fun _ _=>.inl rfl,fun r b c s h=>.inl ⟨r,c,s,h⟩,fun _ h=>.inl h,fun b h=>by rcases h with h|h;exact .inl h;exact .inr (.inl h.1),fun b hb _=>hbel.block b hb⟩
 refine⟨v,g',res,h,n,⟨rfl,rfl,rfl⟩,rfl,by refine Rep.mono ?_ ?_ ?_ hv;exact fun b hb=>⟨hb,rfl⟩;exact fun _ h=>False.elim h;exact fun _ h=>False.elim h,⟨hm.dead,fun r bl hr=>?_,hm.inj,hm.used,fun b hb=>?_,hm.gr.later (hm.kept mono)⟩,mono,hU⟩
 .
  obtain⟨blk,c,h1,h2,h3,h4,h5⟩:=hm.blk r bl hr;refine⟨blk,c,h1,h2,h3,h4,?_⟩
  rcases h5 with h5|⟨b,cur,rfl,h6,h7,h8,h9⟩
  .
   exact .inl h5
  have hlt:=(iF hm h1).1;refine .inr ⟨b,cur,rfl,by rw[hbel.block b hlt];exact h6,h7,fun hI=>?_,fun i row hi=>⟨(h9 i row hi).1,fun j d hd=>?_⟩⟩
  .
   rcases hI with hI|hI
   .
    exact h8 hI
   omega
  obtain⟨u,k3,k4,k5⟩:=(h9 i row hi).2 j d hd;exact⟨u,k3,k4,k5.later hm mono⟩
 rcases hb with hb|hb
 .
  exact YA (hm.imm b hb) hbel.size
 exact hb.2
theorem bN {α:Type}{a:Array α}{k:Nat}{o:α}(h:a.toList[k]? = some o):a[k]? = some o:=by rwa [Zh] at h
theorem lX [Glob P] {B:Bot}{ops:Array Oper}{b:Nat}{n:Nat}{Q:Exit->Act->World->Prop}{w0:World}{g0:Mem}{rest:List Nat}:∀ (k i:Nat) (s:S) (g:Mem) (a:Act) (w:World),St P B s g a w->Mono g0 g w0 w->(∀ r,g.U r->r<b+i) ->
  i+k<=ops.size->(aH P (words P) C ops.toList b i ((ops.toList.drop i).take k) s).ok ->
  (∀ g' a' w',St P B (aH P (words P) C ops.toList b i ((ops.toList.drop i).take k) s) g' a' w'->Mono g0 g' w0 w'->(∀ r,g'.U r->r<b+(i+k))->wpOpsIn (Fw ro) n P ops Q rest a' w') ->
  wpOpsIn (Fw ro) n P ops Q (List.range' i k++rest) a w:=by
 intro k
 induction k with
 | zero =>
  intro i s g a w hs hm hU hk hok hQ;exact hQ g a w hs hm hU
 | succ k ih =>
  intro i s g a w hs hm hU hk hok hQ;have hlt:i<ops.size:=by omega
  have hd:(ops.toList.drop i).take (k+1)=ops[i]::(ops.toList.drop (i+1)).take k:=by rw[Yu (by simpa using hlt)];simp
  rw[hd] at hok hQ;simp only[aH] at hok hQ;rw[Y5,X0,wpOpsIn_cons];refine zW hs (b:=b) (N:=b+i) (fun h=>by have:=hU _ h;omega) hU (by simp[hlt]) (zU hok) fun g' a' w' h1 h2 h3=>?_
  refine ih (i+1) _ g' a' w' h1 (hm.trans h2) (fun r hr=>by
                                 rcases h3 r hr with h|h;· have:=hU r h;omega
                                 omega) om hok fun g'' a'' w'' q1 q2 q3=>hQ g'' a'' w'' q1 q2 fun r hr=>by have:=q3 r hr;omega
theorem Reps.wk {w:World}{g:Mem}{ds:List D}{vs:List Value}(h:Reps w g ds vs):Reps w g (ds.map wk) vs :=
 ⟨by simpa using h.1,fun i d x h1 h2=>by obtain⟨y,h3,rfl⟩:=fT h1;exact (h.2 i y x h3 h2).wk⟩
theorem VN [Glob P] {s s1:S}{id:Nat}{ops:Array Oper}(k:Nat) {o:Oper}{f:Operand}{args:Array Operand}{ts:Array TypeId}{fid:FuncId}{first caps xs:List D}(R:D->H->Nat->Prop)
  (ho:ops[k]? = some o) (hop:o.op = .call { callee:=.value f,args:=args,argTypes:=ts }) (hg:o.guard=none)
  (he:aH P (words P) C ops.toList s.nx 0 (ops.toList.take k) { n:=s.n,t:=s.t,h:=s.h,nx:=s.nx+k,ok:=s.ok,e:=s.e }=s1) (hok:s1.ok) (hd:bE s1.n o.dst=true)
  (hf:s1.ev f = .fn (.func fid) first caps) (hxg:(args.toList.map s1.ev).all sg=true) (hx:((args.toList.map s1.ev).map sd).map wk=xs) (hct:RCt P fid (first++xs++caps) s1.h (s.nx+k) R)
  (hk : ∀ res h' n',R res h' n' -> ∃ s2,aH P (words P) C ops.toList n' (k+1) (ops.toList.drop (k+1)) { n:=s1.n,t:=s1.put o.dst res,h:=h',nx:=n'+ops.size,ok:=True,e:=s1.e }=s2/\s2.ok/\Q .normal s2.clear) :
  DW P ro (.region id ops false) Q s:=by
 intro B g a w hs hU
 have hlt:k<ops.size:=(Ym.1 ho).1
 refine wpIn_region ?_
 have hr:List.range ops.size=List.range' 0 k++(k::List.range' (k+1) (ops.size-(k+1))):=by
  rw[Y9];have:ops.size=k+((ops.size-(k+1))+1):=by omega
  conv=>lhs;rw[this]
  rw[<- Zj,Y5]
  simp
 rw[hr]
 have hs0:St P B { n:=s.n,t:=s.t,h:=s.h,nx:=s.nx+k,ok:=s.ok,e:=s.e } g a w:=⟨hs.sz,hs.tm,hs.mem,hs.df,hs.en,hs.bd⟩
 have e0:(ops.toList.drop 0).take k=ops.toList.take k:=rfl
 refine lX (C:=C) (b:=s.nx) k 0 _ g a w hs0 (Mono.refl _ _) (fun r hr=>by have:=hU r hr;omega) (by omega) (by rw[e0,he];exact hok) fun g1 a1 w1 hs1 hm1 hU1=>?_
 rw[e0,he] at hs1
 rw[wpOpsIn_cons]
 unfold wpOpIn
 rw[ho]
 simp only
 have hw:Region.wanted o (yielded ops a1.tmps)=true:=by simp[Region.wanted,hg]
 rw[X4 hw]
 have hdef : ∀ c,o.op ≠ .defer c:=by intro c e;rw[e] at hop;cases hop
 have hsem:o.semAt (Fw ro).round a1.eval=execOp a1.eval o:=Oper.semAt_eq _ _ _ hdef
 refine⟨fun _ _=>trivial,?_⟩
 rw[hsem]
 obtain⟨hbd,hct⟩:=hct
 have hfr:=bC hs1 f
 rw[hf] at hfr
 have hxr:=Reps.wk (nE (mU hs1 args.toList) hxg)
 rw[hx] at hxr
 generalize hv:a1.eval f=vf at hfr
 cases hfr with|fn _ _ _ fs cs l1 l2 r1 r2 =>
 have hrun:(execOp a1.eval o).run P w1 = .ok (.enter fid (fs++args.map a1.eval++cs)) w1:=by
  simp[execOp,hop,resolve,Deferred.ofValue,hv,invoke,mZ hbd]
 rw[hrun,Oper.uponIn_enter]
 have e:fs++args.map a1.eval++cs=(fs.toList++args.toList.map a1.eval++cs.toList).toArray:=by apply Zo;simp
 rw[e]
 refine⟨fun h=>by simp[Fw,Fence.wide] at h,qQ ((hct w1 g1 _ hs1.mem (fun r hr=>by have:=hU1 r hr;omega) (Reps.append (Reps.append ⟨by simpa using l1,fun i d x h1 h2=>r1 i d x h1 (by simpa using h2)⟩ hxr) ⟨by simpa using l2,fun i d x h1 h2=>r2 i d x h1 (by simpa using h2)⟩)).mono ?_)⟩
 rintro e w' ⟨v,g',res,h',n',hR,rfl,q1,q2,q3,q4⟩
 obtain⟨s2,e2,ok2,hQ⟩:=hk res h' n' hR
 have hs2:=ig hs1 q3 q2 hd q1 True
 have hs3:St P B { n:=s1.n,t:=s1.put o.dst res,h:=h',nx:=n'+ops.size,ok:=True,e:=s1.e } g' (a1.put o.dst v) w':=⟨hs2.sz,hs2.tm,hs2.mem,hs2.df,hs2.en,hs2.bd⟩
 have hnx : ∀ (l:List Oper) (i:Nat) (u:S),(aH P (words P) C ops.toList n' i l u).nx=u.nx:=by
  intro l
  induction l with
  | nil=>intro i u;rfl
  | cons x l ih=>intro i u;simp only[aH];rw[ih,exec1_n.2]
 have hex : ∀ (l:List Oper) (i b:Nat) (u:S),(aH P (words P) C ops.toList b i l u).e=u.e:=by
  intro l
  induction l with
  | nil=>intro i b u;rfl
  | cons x l ih =>
   intro i b u;simp only[aH];rw[ih];unfold bq
   split<;>rfl
 have e3:(ops.toList.drop (k+1)).take (ops.size-(k+1))=ops.toList.drop (k+1):=Yp (by simp)
 have:=lX (ro:=ro) (P:=P) (C:=C) (B:=B) (ops:=ops) (b:=n') (n:=0) (rest:=[]) (g0:=g) (w0:=w) (Q:=fun e a' w'=>∃ s' g',Q e s'/\St P B s' g' a' w'/\MonoX s.e.x g g' w w'/\(∀ r,g'.U r->r<s'.nx)/\s'.e.x=s.e.x) (ops.size-(k+1)) (k+1) _ g' _ w' hs3 (hm1.trans q3) (fun r hr=>by have:=q4 r hr;omega) om
  (by rw[e3,e2];exact ok2) fun g'' a'' w'' p1 p2 p3=>by
   rw[e3,e2] at p1;refine⟨_,g'',hQ,p1.clear,p2.toX,fun r hr=>?_,?_⟩
   .
    have h3:=p3 r hr;have h4:=hnx (ops.toList.drop (k+1)) (k+1) { n:=s1.n,t:=s1.put o.dst res,h:=h',nx:=n'+ops.size,ok:=True,e:=s1.e };rw[e2] at h4
    show r<s2.nx
    rw[h4]
    show r<n'+ops.size
    omega
   have h5:=hex (ops.toList.drop (k+1)) (k+1) n' { n:=s1.n,t:=s1.put o.dst res,h:=h',nx:=n'+ops.size,ok:=True,e:=s1.e };rw[e2] at h5;have h6:=hex (ops.toList.take k) 0 s.nx { n:=s.n,t:=s.t,h:=s.h,nx:=s.nx+k,ok:=s.ok,e:=s.e };rw[he] at h6
   show s2.e.x=s.e.x
   rw[h5]
   show s1.e.x=s.e.x
   rw[h6]
 rw[Yy] at this
 exact this
end Go.DL
namespace Go.DL
open Go.RowKit
variable {P : Program} {C : Con} {Q : Exit -> S -> Prop}
def recAt (r:Loop) (j:Option Code):Loop:={ r with state:=if j.isNone then .ready else .done,pending:=j }
def Env.loop (l:Nat) (r:Loop) (t:Nat->D):Env where
 p g w:=w.heap[l]? = some (.loop r) /\ ¬ g.I l /\ ∀ i,Rep w g (t i) (r.tmps.getD i undef)
 x:=some l
 st P _ h g g' w w' hm k:=fun ⟨h1,h2,h3⟩=>⟨vV hm k h1 (fun c e f=>by simp),fun hI=>by
   rcases k.inew l hI with e|e|⟨r,c,s,e⟩
   .
    exact h2 e
   .
    have:=(Ym.1 h1).1;omega
   .
    exact nS hm h1 (fun c e f=>by simp) (fun c e=>by simp) r c s e,fun i=>(h3 i).later hm k⟩
theorem HM.keptX [Glob P] {h:H}{g g':Mem}{w w':World}{l:Nat}(hm:HM P h g w) (k:MonoX (some l) g g' w w') (hl : ¬ g.I l):∀ b,g.I b->g'.I b/\w'.heap[b]? = w.heap[b]? := by
 refine fun b hb=>⟨k.I b hb,k.same b (hm.imm b hb) (fun r c s e=>?_) (fun e=>hl (by cases e;exact hb))⟩
 cases hr:h r with
 | none=>rw[hm.dead r hr] at e;cases e
 | some bl =>
  obtain⟨blk,c',e1,_,_,_,h5⟩:=hm.blk r bl hr;rw[e] at e1;simp only[Yg,YH] at e1
  rcases h5 with⟨h6,_⟩|⟨b',cur,h6,_,_,h7,_⟩
  .
   rw[<- e1.1] at h6;cases h6
  rw[<- e1.1] at h6;cases h6;exact h7 hb
theorem Cj [Glob P] {h:H}{g g':Mem}{w w':World}{l:Nat}(hm:HM P h g w) (k:MonoX (some l) g g' w w') {D:Nat}{o:Obj}(hD:w.heap[D]? = some o) (ho : ∀ c e f,o ≠ .cells c e f) (hl:l≠D) (ho2 : ∀ c e,o ≠ .map c e:=by intro c e;simp):w'.heap[D]? = some o:=by
 rw[k.same D (Ym.1 hD).1 (nS hm hD ho ho2) (fun e=>hl (by cases e;rfl))];exact hD
theorem Marks.laterX [Glob P] {h:H}{g g':Mem}{w w':World}{l:Nat}(hm:HM P h g w) (k:MonoX (some l) g g' w w') {r:Loop}(hl:w.heap[l]? = some (.loop r)) {B:Nat}:∀ {ds:List Deferred},Marks B g ds w->Marks B g' ds w'
 | [],_=>trivial
 | d::ds,⟨⟨D,h1,h2,h3,h4,h5⟩,h6⟩=>⟨⟨D,h1,Cj hm k h2 (fun c e f=>by simp) (fun e=>by subst e;rw[hl] at h2;cases h2),h3,h4,fun hI=>by
   rcases k.inew D hI with e|e|⟨r,c,s,e⟩
   .
    exact h5 e
   .
    have:=(Ym.1 h2).1;omega
   exact nS hm h2 (fun c e f=>by simp) (fun c e=>by simp) r c s e⟩,h6.laterX hm k hl⟩
theorem Dfs.laterX [Glob P] {h:H}{g g':Mem}{w w':World}{l:Nat}(hm:HM P h g w) (k:MonoX (some l) g g' w w') {r:Loop}(hl:w.heap[l]? = some (.loop r)) {B:Bot}{ds:List Deferred}(hd:Dfs B g ds w):Dfs B g' ds w':=hd.map fun _ h=>h.laterX hm k hl
theorem Cu {g:Mem}{w:World}{l:Nat}(o:Obj):MonoX (some l) g g w (w.putObj l o) :=
 ⟨rfl,rfl,rfl,by simp,XX _,fun _ h=>h,fun _ _=>.inl rfl,fun r _ c s h=>.inl ⟨r,c,s,h⟩,fun _ h=>h,fun _ h=>.inl h,fun _ _ _ hx=>World.putObj_heap_other (fun e=>hx (by rw[e]))⟩
theorem HM.putLoop [Glob P] {h:H}{g:Mem}{w:World}{l:Nat}{r:Loop}(hm:HM P h g w) (hl:w.heap[l]? = some (.loop r)) (hI : ¬ g.I l) (o:Obj):HM P h g (w.putObj l o) :=
 hm.marks (by simp) (fun k hk=>World.putObj_heap_other (fun e=>hI (e ▸ hk))) fun k o hk ho=>World.putObj_heap_other (fun e'=>by subst e';rw[hl] at hk;cases hk;exact ho)
def pO (t:Nat->D) (ps:List Nat) (ds:List D):Nat->D:=(ps.zip ds).foldl (fun t p=>upd t p.1 p.2) t
@[go_sem] theorem FX {t:Nat->D}{ds:List D}:pO t [] ds=t:=rfl
@[go_sem] theorem FY {t:Nat->D}{p:Nat}{ps:List Nat}{d:D}{ds:List D}:pO t (p::ps) (d::ds)=pO (upd t p d) ps ds:=rfl
theorem FW {w:World}{g:Mem}:∀ (ps:List Nat) (ds:List D) (vs:List Value) (t:Nat->D) (tmps:Array Value),Reps w g ds vs->(∀ p∈ps,p<tmps.size)->(∀ i,Rep w g (t i) (tmps.getD i undef)) ->
  ((ps.zip vs).foldl (fun tmps (p:Nat×Value)=>tmps.setIfInBounds p.1 p.2) tmps).size=tmps.size /\ ∀ i,Rep w g (pO t ps ds i) (((ps.zip vs).foldl (fun tmps (p:Nat×Value)=>tmps.setIfInBounds p.1 p.2) tmps).getD i undef)
 | [],_,_,_,_,_,_,h=>⟨rfl,h⟩
 | p::ps,ds,vs,t,tmps,hr,hp,h=>by
  cases ds with
  | nil=>rw[hr.of_nil];exact⟨rfl,h⟩
  | cons d ds =>
   obtain⟨x,xs,rfl,h1,h2⟩:=hr.of_cons;have:=FW ps ds xs (upd t p d) (tmps.setIfInBounds p x) h2 (fun q hq=>by simpa using hp q (by simp[hq])) (fun i=>by
    by_cases e:i=p
    .
     subst e;have hlt:=hp i (by simp)
     rw[upd_same]
     simpa [hlt] using h1
    rw[upd_ne _ _ _ _ e];have:(tmps.setIfInBounds p x).getD i undef=tmps.getD i undef:=by simp[Ne.symm e]
    rw[this];exact h i)
   refine⟨by simpa using this.1,this.2⟩
theorem KS [Glob P] {s s1:S}{id:Nat}{ops:Array Oper}(k:Nat) {o:Oper}{f:Operand}{args:Array Operand}{ts:Array TypeId}{l:Nat}{r:Loop}{t:Nat->D}{xs:List D}
  (ho:ops[k]? = some o) (hop:o.op = .call { callee:=.value f,args:=args,argTypes:=ts }) (hg:o.guard=none) (hse:s.e=Env.loop l (recAt r none) t)
  (he:aH P (words P) C ops.toList s.nx 0 (ops.toList.take k) { n:=s.n,t:=s.t,h:=s.h,nx:=s.nx+k,ok:=s.ok,e:=s.e }=s1) (hok:s1.ok) (hd:bE s1.n o.dst=true)
  (hf:s1.ev f = .fn (.yield l) [] []) (hxg:(args.toList.map s1.ev).all sg=true) (hx:(args.toList.map s1.ev).map sd=xs) (hps:xs.length=r.params.size) (hpn : ∀ p∈r.params.toList,p<r.tmps.size)
  (hbody:DW P (some l) r.assign (thenS (fun s2=>s2.e=Env.tt/\DW P (some l) r.body (fun e s'=>s'.e=Env.tt /\ ∃ b j,(match e with | .normal=>b=true/\j=none | .ret=>b=false/\j=some .ret | .exit i=>b=false/\j=some (.exit i)|_=>False) /\
    ∃ s2,aH P (words P) C ops.toList s'.nx (k+1) (ops.toList.drop (k+1)) { n:=s1.n,t:=s1.put o.dst (.v (.bool b)),h:=s'.h,nx:=s'.nx+ops.size,ok:=True,e:=Env.loop l (recAt r j) t }=s2/\s2.ok/\Q .normal s2.clear) s2) (fun _ _=>False))
   { n:=r.tmps.size,t:=pO t r.params.toList xs,h:=s1.h,nx:=s.nx+k }) :
  DW P none (.region id ops false) Q s:=by
 intro B g a w hs hU
 have hlt:k<ops.size:=(Ym.1 ho).1
 have hex : ∀ (l:List Oper) (i b:Nat) (u:S),(aH P (words P) C ops.toList b i l u).e=u.e:=by
  intro l
  induction l with
  | nil=>intro i b u;rfl
  | cons x l ih =>
   intro i b u;simp only[aH];rw[ih];unfold bq
   split<;>rfl
 have hnxx : ∀ (l:List Oper) (i b:Nat) (u:S),(aH P (words P) C ops.toList b i l u).nx=u.nx:=by
  intro l
  induction l with
  | nil=>intro i b u;rfl
  | cons x l ih=>intro i b u;simp only[aH];rw[ih,exec1_n.2]
 refine wpIn_region ?_
 have hr:List.range ops.size=List.range' 0 k++(k::List.range' (k+1) (ops.size-(k+1))):=by
  rw[Y9];have:ops.size=k+((ops.size-(k+1))+1):=by omega
  conv=>lhs;rw[this]
  rw[<- Zj,Y5]
  simp
 rw[hr]
 have hs0:St P B { n:=s.n,t:=s.t,h:=s.h,nx:=s.nx+k,ok:=s.ok,e:=s.e } g a w:=⟨hs.sz,hs.tm,hs.mem,hs.df,hs.en,hs.bd⟩
 have e0:(ops.toList.drop 0).take k=ops.toList.take k:=rfl
 refine lX (C:=C) (b:=s.nx) k 0 _ g a w hs0 (Mono.refl _ _) (fun r hr=>by have:=hU r hr;omega) (by omega) (by rw[e0,he];exact hok) fun g1 a1 w1 hs1 hm1 hU1=>?_
 rw[e0,he] at hs1
 have hs1e:s1.e=Env.loop l (recAt r none) t:=by
  have h6:=hex (ops.toList.take k) 0 s.nx { n:=s.n,t:=s.t,h:=s.h,nx:=s.nx+k,ok:=s.ok,e:=s.e };rw[he] at h6;rw[h6];exact hse
 obtain⟨hl1,hI1,ht1⟩:(Env.loop l (recAt r none) t).p g1 w1:=by rw[<- hs1e];exact hs1.en
 rw[wpOpsIn_cons]
 unfold wpOpIn
 rw[ho]
 simp only
 have hw:Region.wanted o (yielded ops a1.tmps)=true:=by simp[Region.wanted,hg]
 rw[X4 hw]
 have hdef : ∀ c,o.op ≠ .defer c:=by intro c e;rw[e] at hop;cases hop
 have hsem:o.semAt (Fw none).round a1.eval=execOp a1.eval o:=Oper.semAt_eq _ _ _ hdef
 refine⟨fun _ _=>trivial,?_⟩
 rw[hsem]
 have hfr:=bC hs1 f
 rw[hf] at hfr
 have hxr:=nE (mU hs1 args.toList) hxg
 rw[hx] at hxr
 generalize hv:a1.eval f=vf at hfr
 cases hfr with|fn _ _ _ fs cs l1 l2 r1 r2 =>
 have hfs:fs = #[]:=by apply ZR;simpa using l1.symm
 have hcs:cs = #[]:=by apply ZR;simpa using l2.symm
 subst hfs;subst hcs
 have hsz:(args.map a1.eval).size=(recAt r none).params.size:=by
  have h1:=hxr.1
  show (args.map a1.eval).size=r.params.size
  rw[<- hps,h1];simp
 have hrun:(execOp a1.eval o).run P w1 = .ok (.round l r.fn ((r.params.zip (args.map a1.eval)).foldl (fun tmps (t,a)=>tmps.setIfInBounds t a) r.tmps) r.assign r.body) w1:=by
  have:=run_yield (P:=P) (w:=w1) (l:=l) (r:=recAt r none) (args:=args.map a1.eval) hl1 hsz;have e1:(execOp a1.eval o).run P w1=(Instr.yield l (args.map a1.eval)).run P w1:=by simp[execOp,hop,resolve,Deferred.ofValue,hv,invoke]
  rw[e1];exact this
 rw[hrun,Oper.uponIn_round]
 refine⟨fun h=>by simp[Fw,Fence.wide] at h,?_⟩
 obtain⟨hz1,hz2⟩:=FW r.params.toList xs _ t r.tmps hxr hpn ht1
 have hzip:(r.params.zip (args.map a1.eval)).foldl (fun tmps (t,a)=>tmps.setIfInBounds t a) r.tmps=(r.params.toList.zip (args.toList.map a1.eval)).foldl (fun tmps (p:Nat×Value)=>tmps.setIfInBounds p.1 p.2) r.tmps:=by
  rw[<- Array.foldl_toList];simp
 rw[hzip]
 generalize (r.params.toList.zip (args.toList.map a1.eval)).foldl (fun tmps (p:Nat×Value)=>tmps.setIfInBounds p.1 p.2) r.tmps=tm at hz1 hz2
 have hsb:St P (Bot.of 0) { n:=r.tmps.size,t:=pO t r.params.toList xs,h:=s1.h,nx:=s.nx+k } g1 { tmps:=tm,defers:=[] } w1:=⟨hz1,hz2,hs1.mem,Dfs.start,trivial,Yl _⟩
 refine roundIn_of_wpIn trivial (wpIn_mono (hbody (Bot.of 0) g1 _ w1 hsb (fun r hr=>by have:=hU1 r hr;show r<s.nx+k;omega)) ?_)
 rintro e a2 w2 ⟨s2,g2,hq,hs2,hm2,hU2,hx2⟩
 cases e with
 | normal =>
  have hm2':Mono g1 g2 w1 w2:=hm2.out;have hl2:=vV hs1.mem hm2' hl1 (fun c e f=>by simp)
  have hI2 : ¬ g2.I l:=fun hI=>by
   rcases hm2'.inew l hI with e|e|⟨r,c,s,e⟩
   .
    exact hI1 e
   .
    have:=(Ym.1 hl1).1;omega
   exact nS hs1.mem hl1 (fun c e f=>by simp) (fun c e=>by simp) r c s e
  refine⟨_,run_beginRound hl2 rfl,?_⟩;have hlt2:l<w2.heap.size:=(Ym.1 hl2).1;obtain⟨he2,hbd⟩:=hq;have hb2:St P (Bot.of 0) s2 g2 a2 (w2.putObj l (.loop { recAt r none with state:=.busy })):=by
   refine⟨hs2.sz,fun i=>(hs2.tm i).mono (fun b hb=>⟨hb,World.putObj_heap_other (fun e=>hI2 (by rw[<- e];exact hb))⟩) (fun _ h=>h) (fun _ _=>.inl rfl),hs2.mem.putLoop hl2 hI2 _,hs2.df.laterX hs2.mem (Cu _) hl2,?_,Yl _⟩
   rw[he2];trivial
  refine wpIn_mono (hbd (Bot.of 0) g2 a2 _ hb2 hU2) ?_;rintro e a3 w3 ⟨s3,g3,⟨_,b,j,hcase,s4,e4,ok4,hQ⟩,hs3,hm3,hU3,_⟩;rw[he2] at hm3;have hm3':=hm3.out;have hl2':(w2.putObj l (.loop { recAt r none with state:=.busy })).heap[l]? = some (.loop { recAt r none with state:=.busy }):=World.putObj_heap_same hlt2
  have hl3:=vV hb2.mem hm3' hl2' (fun c e f=>by simp)
  have hI3 : ¬ g3.I l:=fun hI=>by
   rcases hm3'.inew l hI with e|e|⟨r,c,s,e⟩
   .
    exact hI2 e
   .
    simp at e;omega
   exact nS hb2.mem hl2' (fun c e f=>by simp) (fun c e=>by simp) r c s e
  have hlt3:l<w3.heap.size:=(Ym.1 hl3).1;have fin:b=j.isNone -> ∃ v w',(Instr.endRound l j).run P w3 = .ok v w'/\(fun e w''=>match e with
    | Ending.returned v=>wpOpsIn (Fw none) 0 P ops (fun e a' w'=>∃ s' g',Q e s'/\St P B s' g' a' w'/\MonoX s.e.x g g' w w'/\(∀ r,g'.U r->r<s'.nx)/\s'.e.x=s.e.x) (List.range' (k+1) (ops.size-(k+1))) (a1.put o.dst v) w''
    | Ending.panicked chain=>∃ s' g',Q (.panic chain) s'/\St P B s' g' a1 w''/\MonoX s.e.x g g' w w''/\(∀ r,g'.U r->r<s'.nx)/\s'.e.x=s.e.x
    | Ending.outgrown=>LetsOut (fun e a' w'=>∃ s' g',Q e s'/\St P B s' g' a' w'/\MonoX s.e.x g g' w w'/\(∀ r,g'.U r->r<s'.nx)/\s'.e.x=s.e.x)) (.returned v) w':=by
   rintro rfl;refine⟨_,_,run_endRound j hl3,?_⟩;have mX:MonoX (some l) g1 g3 w1 (w3.putObj l (.loop (recAt r j))):=hm2'.toX.trans ((Cu _).trans (hm3'.toX.trans (Cu _)));have kept:=hs1.mem.keptX mX hI1;have hbase:St P B { n:=s1.n,t:=s1.t,h:=s3.h,nx:=s3.nx+ops.size,ok:=True,e:=Env.loop l (recAt r j) t } g3 a1 (w3.putObj l (.loop (recAt r j))) :=
    ⟨hs1.sz,fun i=>(hs1.tm i).mono kept mX.U mX.M,hs3.mem.putLoop hl3 hI3 _,hs1.df.laterX hs1.mem mX hl1,⟨World.putObj_heap_same hlt3,hI3,fun i=>(ht1 i).mono kept mX.U mX.M⟩,Yb hs1.bd mX.size⟩
   have hput:=ig hbase (Mono.refl _ _) hbase.mem hd (.v (.bool j.isNone)) True;have e3:(ops.toList.drop (k+1)).take (ops.size-(k+1))=ops.toList.drop (k+1):=Yp (by simp)
   have:=lX (ro:=none) (P:=P) (C:=C) (B:=B) (ops:=ops) (b:=s3.nx) (n:=0) (rest:=[]) (g0:=g3) (w0:=w3.putObj l (.loop (recAt r j))) (Q:=fun e a' w'=>∃ s' g',Q e s'/\St P B s' g' a' w'/\MonoX s.e.x g g' w w'/\(∀ r,g'.U r->r<s'.nx)/\s'.e.x=s.e.x) (ops.size-(k+1)) (k+1) _ g3 _ _ hput (Mono.refl _ _) (fun r hr=>by have:=hU3 r hr;omega) om
    (by rw[e3];exact e4 ▸ ok4) fun g'' a'' w'' p1 p2 p3=>by
     rw[e3] at p1;have p1:St P B s4 g'' a'' w'':=e4 ▸ p1;have hx:s.e.x=some l:=by rw[hse];rfl
     refine⟨_,g'',hQ,p1.clear,?_,fun r' hr'=>?_,?_⟩
     .
      rw[hx];exact hm1.toX.trans (mX.trans p2.toX)
     .
      have h3:=p3 r' hr';have h4:=hnxx (ops.toList.drop (k+1)) (k+1) s3.nx { n:=s1.n,t:=s1.put o.dst (.v (.bool j.isNone)),h:=s3.h,nx:=s3.nx+ops.size,ok:=True,e:=Env.loop l (recAt r j) t };rw[e4] at h4
      show r'<s4.nx
      rw[h4]
      show r'<s3.nx+ops.size
      omega
     have h5:=hex (ops.toList.drop (k+1)) (k+1) s3.nx { n:=s1.n,t:=s1.put o.dst (.v (.bool j.isNone)),h:=s3.h,nx:=s3.nx+ops.size,ok:=True,e:=Env.loop l (recAt r j) t };rw[e4] at h5
     show s4.e.x=s.e.x
     rw[h5,hx];rfl
   rw[Yy] at this;exact this
  cases e with
  | normal=>obtain⟨rfl,rfl⟩:=hcase;exact fin rfl
  | ret=>obtain⟨rfl,rfl⟩:=hcase;exact fin rfl
  | exit i=>obtain⟨rfl,rfl⟩:=hcase;exact fin rfl
  | _=>exact hcase.elim
 | _=>exact hq.elim
theorem HM.lay [Glob P] {h:H}{g:Mem}{w:World}(hm:HM P h g w) (o:Obj):HM P h g (w.alloc o)/\Mono g g w (w.alloc o):=by
 have mono:Mono g g w (w.alloc o) :=
  ⟨rfl,rfl,rfl,by simp,XX _,fun _ h=>h,fun _ _=>.inl rfl,fun r b c s h=>.inl ⟨r,c,s,h⟩,fun _ h=>h,fun b h=>.inl h,fun b hb _=>Below.heap_alloc w o b hb⟩
 refine⟨⟨hm.dead,fun r bl hr=>?_,hm.inj,hm.used,fun b hb=>YA (hm.imm b hb) (by simp),hm.gr.later (hm.kept mono)⟩,mono⟩
 obtain⟨blk,c,h1,h2,h3,h4,h5⟩:=hm.blk r bl hr
 refine⟨blk,c,h1,h2,h3,h4,?_⟩
 rcases h5 with h5|⟨b,cur,rfl,h6,h7,h8,h9⟩
 .
  exact .inl h5
 have hlt:=(iF hm h1).1
 refine .inr ⟨b,cur,rfl,by rw[Below.heap_alloc w o b hlt];exact h6,h7,h8,fun i row hi=>⟨(h9 i row hi).1,fun j d hd=>?_⟩⟩
 obtain⟨u,k3,k4,k5⟩:=(h9 i row hi).2 j d hd
 exact⟨u,k3,k4,k5.later hm mono⟩
theorem KV [Glob P] {s:S}{gf:Operand}{ps:Array Tmp}{assign body:Code}{f:FuncId}{fn:Func}{c:Code}{first caps:List D}(he:s.e=Env.tt) (hev:s.ev gf = .fn (.func f) first caps) (hf:P.funcs[f]? = some fn) (hb:fn.body=some c) (hbd:bY P f=true)
  (hn:(first++[D.fn (.yield 0) [] []]++caps).length<=fn.ntmps) (hres:fn.results = #[])
  (walk : ∀ l r,r.params=ps->r.assign=assign->r.body=body->r.tmps.size=s.n->DW P none c (fun e s'=>(e = .normal\/e = .ret) /\ ∃ j,s'.e=Env.loop l (recAt r j) s.t /\
    (match j with|none=>Q .normal { n:=s.n,t:=s.t,h:=s'.h,nx:=s'.nx }|some .ret=>Q .ret { n:=s.n,t:=s.t,h:=s'.h,nx:=s'.nx }|some (.exit i)=>Q (.exit i) { n:=s.n,t:=s.t,h:=s'.h,nx:=s'.nx }|_=>False))
   { n:=fn.ntmps,t:=fun i=>(first++[D.fn (.yield l) [] []]++caps).getD i .junk,h:=s.h,nx:=s.nx,e:=Env.loop l (recAt r none) s.t }):DW P none (.rangeFunc gf ps assign body) Q s:=by
 intro B g a w hs hU
 refine wpIn_rangeFunc fun fn' _=>?_
 let Dk:=w.heap.size
 let l:=w.heap.size+1
 let r:Loop:={ state:=.ready,pending:=none,fn:=fn',tmps:=a.tmps,params:=ps,assign:=assign,body:=body,defers:=w.heap.size }
 let w1:=(w.alloc (.deferred (some []))).alloc (.loop r)
 have hfr:=bC hs gf
 rw[hev] at hfr
 generalize hv:a.eval gf=vf at hfr
 cases hfr with|fn _ _ _ fs cs l1 l2 r1 r2 =>
 obtain⟨q1,q2⟩:=hs.mem.lay (.deferred (some []))
 obtain⟨q3,q4⟩:=q1.lay (.loop r)
 have mono1:Mono g g w w1:=q2.trans q4
 have hl1:w1.heap[l]? = some (.loop r):=by
  have:=World.alloc_heap_new (w.alloc (.deferred (some []))) (.loop r)
  simpa [l,w1] using this
 have hD1:w1.heap[Dk]? = some (.deferred (some [])):=by
  have h1:=World.alloc_heap_new w (.deferred (some []));have h2:=Below.heap_alloc (w.alloc (.deferred (some []))) (.loop r) Dk (by simp[Dk])
  exact h2.trans h1
 have hsz1:w1.heap.size=w.heap.size+2:=by simp[w1]
 have hIl : ¬ g.I l:=fun h=>by have:=hs.mem.imm l h;simp[l] at this;omega
 have hID : ¬ g.I Dk:=fun h=>by have:=hs.mem.imm Dk h;simp[Dk] at this
 refine⟨l,_,w1,⟨.fn (.func f) cs,fs ++ #[.func (.yield l) #[] #[]]⟩,w1,f,fs ++ #[.func (.yield l) #[] #[]]++cs,w1,run_enterLoop_outer _ _ _ _ _,?_,fun _ _=>trivial,?_,fun h=>by simp[Fw,Fence.wide] at h,?_⟩
 .
  have:a.eval (.const (Value.func (.yield l) #[] #[]))=Value.func (.yield l) #[] #[]:=rfl
  simp[resolve,Deferred.ofValue,hv,this]
 .
  simp[invoke,mZ hbd]
 have hargs:Reps w1 g (first++[D.fn (.yield l) [] []]++caps) (fs.toList++[Value.func (.yield l) #[] #[]]++cs.toList):=by
  refine Reps.append (Reps.append ⟨by simpa using l1,fun i d x h1 h2=>(r1 i d x h1 (by simpa using h2)).later hs.mem mono1⟩ (.cons (x:=Value.func (.yield l) #[] #[]) (.fn (.yield l) [] [] #[] #[] rfl rfl (fun _ _ _ h=>by simp at h) (fun _ _ _ h=>by simp at h)) .nil)) ⟨by simpa using l2,fun i d x h1 h2=>(r2 i d x h1 (by simpa using h2)).later hs.mem mono1⟩
 have e:fs ++ #[.func (.yield l) #[] #[]]++cs=(fs.toList++[Value.func (.yield l) #[] #[]]++cs.toList).toArray:=by apply Zo;simp
 rw[e]
 have hn':(first++[D.fn (.yield l) [] []]++caps).length<=fn.ntmps:=by simpa using hn
 have hinit:=qx (P:=P) (n:=fn.ntmps) hargs hn' q3 (nx:=s.nx)
 have hst:St P (Bot.of w1.heap.size) { n:=fn.ntmps,t:=fun i=>(first++[D.fn (.yield l) [] []]++caps).getD i .junk,h:=s.h,nx:=s.nx,e:=Env.loop l (recAt r none) s.t } g _ w1 :=
  ⟨hinit.sz,hinit.tm,hinit.mem,hinit.df,⟨hl1,hIl,fun i=>(hs.tm i).later hs.mem mono1⟩,hinit.bd⟩
 refine qQ (callsIn_of_wp_marks (n:=0) hf hb trivial (wpIn_mono (F:=Fence.wide) (walk l r rfl rfl rfl hs.sz (Bot.of w1.heap.size) g _ w1 hst hU) ?_))
 rintro e a' w' ⟨s',g',⟨hne,j,hse,hq⟩,hs',hm',hU',_⟩
 have hm':MonoX (some l) g g' w1 w':=hm'
 obtain⟨hl',hIl',_⟩:(Env.loop l (recAt r j) s.t).p g' w':=by rw[<- hse];exact hs'.en
 have hlast:LeavesInM Fence.wide 0 P fn a'.tmps (rangePost (Fw none) 0 P l (fun e a' w'=>∃ s' g',Q e s'/\St P B s' g' a' w'/\MonoX s.e.x g g' w w'/\(∀ r,g'.U r->r<s'.nx)/\s'.e.x=s.e.x) { a with defers:=[{ target:=.collected w.heap.size,args:=#[] }]++a.defers }) a'.defers .returning w':=by
  refine ze (P:=P) a'.defers w' hs'.df.marks fun w2 e0 e1 e2 e3 e4 e5 e6 e7=>?_
  refine⟨.tuple #[],by simp[results,hres],?_⟩
  have hll:l<w1.heap.size:=by rw[hsz1];simp[l]
  have hl2:w2.heap[l]? = some (.loop (recAt r j)):=by rw[e5 l hll];exact hl'
  have hl2lt:l<w2.heap.size:=(Ym.1 hl2).1;refine⟨_,_,run_endLoop hl2 (by cases j<;>simp[recAt]),?_⟩
  have same4 : ∀ b,b≠l->b<w1.heap.size->(w2.putObj l (.loop { recAt r j with state:=.exhausted })).heap[b]? = w'.heap[b]? := fun b h1 h2=>by
   rw[World.putObj_heap_other h1,e5 b h2]
  have kept : ∀ b,g.I b->g'.I b/\(w2.putObj l (.loop { recAt r j with state:=.exhausted })).heap[b]? = w.heap[b]? := fun b hb=>by
   obtain⟨k1,k2⟩:=q3.keptX hm' hIl b hb;refine⟨k1,?_⟩;rw[same4 b (fun e=>hIl (e ▸ hb)) (q3.imm b hb),k2]
   exact (hs.mem.kept mono1 b hb).2
  have hIDk' : ¬ g'.I Dk:=fun hI=>by
   rcases hm'.inew Dk hI with e|e|⟨r,c,s,e⟩
   .
    exact hID e
   .
    rw[hsz1] at e;simp[Dk] at e;omega
   exact nS q3 hD1 (fun c e f=>by simp) (fun c e=>by simp) r c s e
  have marks : ∀ ds:List Deferred,Marks B.n g ds w->(∀ d∈ds,d.target ≠ .collected Dk)/\Marks B.n g' ds (w2.putObj l (.loop { recAt r j with state:=.exhausted })):=by
   intro ds
   induction ds with
   | nil=>intro _;exact⟨fun _ h=>by simp at h,trivial⟩
   | cons d ds ih =>
    rintro⟨⟨Dd,h1,h2,h3,h4,h5⟩,h6⟩;obtain⟨i1,i2⟩:=ih h6;have hlt:Dd<w.heap.size:=(Ym.1 h2).1;have hne:Dd≠l:=by simp[l];omega
    have h21:w1.heap[Dd]? = some (.deferred (some [])):=vV hs.mem mono1 h2 (fun c e f=>by simp)
    refine⟨fun d' hd'=>?_,⟨Dd,h1,?_,h3,h4,fun hI=>?_⟩,i2⟩
    .
     rcases YL.1 hd' with rfl|h
     .
      rw[h1];intro e;cases e;simp[Dk] at hlt
     exact i1 d' h
    .
     rw[same4 Dd hne (by rw[hsz1];omega)]
     exact Cj q3 hm' h21 (fun c e f=>by simp) (Ne.symm hne)
    rcases hm'.inew Dd hI with e|e|⟨r,c,s,e⟩
    .
     exact h5 e
    .
     rw[hsz1] at e;omega
    exact nS q3 h21 (fun c e f=>by simp) (fun c e=>by simp) r c s e
  obtain⟨ms,hms,hmk⟩:=hs.df;obtain⟨mk1,mk2⟩:=marks ms hmk;have fin:St P B { n:=s.n,t:=s.t,h:=s'.h,nx:=s'.nx } g' { a with defers:=[{ target:=.collected w.heap.size,args:=#[] }]++a.defers } (w2.putObj l (.loop { recAt r j with state:=.exhausted })):=by
   refine⟨hs.sz,fun i=>(hs.tm i).mono kept hm'.U hm'.M,(hs'.mem.marks e4 e6 e7).putLoop hl2 hIl' _,⟨{ target:=.collected w.heap.size,args:=#[] }::ms,by rw[hms];rfl,⟨Dk,rfl,?_,mk1,hs.bd,hIDk'⟩,mk2⟩,trivial,?_⟩
   .
    rw[same4 Dk (by simp[Dk,l]) (by rw[hsz1];simp[Dk])]
    exact Cj q3 hm' hD1 (fun c e f=>by simp) (by simp[Dk,l])
   simp only[World.putObj_size];rw[e4];exact Yb hs.bd (Yb mono1.size hm'.size)
  have mono4:MonoX s.e.x g g' w (w2.putObj l (.loop { recAt r j with state:=.exhausted })):=by
   refine⟨by show w2.os=_;rw[e1,hm'.os,mono1.os],by show w2.tape=_;rw[e2,hm'.tape,mono1.tape],by show w2.output=_;rw[e3,hm'.output,mono1.output],by simp only[World.putObj_size];rw[e4];exact Yb mono1.size hm'.size,by show w.drawn<=w2.drawn;rw[e0];exact Yb mono1.drawn hm'.drawn,hm'.U,hm'.M,fun r b c s h=>?_,hm'.I,fun b h=>?_,fun b h1 h2 _=>?_⟩
   .
    rcases hm'.new r b c s h with h|h
    .
     exact .inl h
    exact .inr (Yb mono1.size h)
   .
    rcases hm'.inew b h with h|h|h
    .
     exact .inl h
    .
     exact .inr (.inl (Yb mono1.size h))
    exact .inr (.inr h)
   have hne:b≠l:=by simp[l];omega
   rw[same4 b hne (by rw[hsz1];omega),hm'.same b (by rw[hsz1];omega) h2 (fun e=>hne (by cases e;rfl))]
   exact mono1.same b h1 h2
  have hx:({ n:=s.n,t:=s.t,h:=s'.h,nx:=s'.nx }:S).e.x=s.e.x:=by rw[he]
  match j,hq with
  | none,hq=>exact⟨_,g',hq,fin,mono4,hU',hx⟩
  | some .ret,hq=>exact wpIn_ret ⟨_,g',hq,fin,mono4,hU',hx⟩
  | some (.exit i),hq=>exact wpIn_exit ⟨_,g',hq,fin,mono4,hU',hx⟩
 rcases hne with rfl|rfl<;>exact hlast
end Go.DL
namespace Go.Str
open Go.DL
abbrev Str:=List UInt8
def bs (l:Str):ByteArray:=⟨l.toArray⟩
@[go_sem] theorem bs_mk (l:Str):(ByteArray.mk l.toArray)=bs l:=rfl
@[go_sem] theorem nk (l:Str):(bs l).data.toList=l:=by simp[bs]
@[go_sem] theorem bs_size (l:Str):(bs l).size=l.length:=by simp[bs,ByteArray.size]
theorem Ea {a b:ByteArray}(h:a.data.toList=b.data.toList):a=b:=by
 cases a;cases b;congr 1;exact Zo h
@[go_sem] theorem Zc1 (l:Str) (i j:Nat):(bs l).extract i j=bs ((l.take j).drop i):=by
 apply Ea
 rw[ByteArray.data_extract]
 simp[bs,List.drop_take]
@[go_sem] theorem Zc2 (a b:Str):bs a++bs b=bs (a++b):=by
 apply Ea
 rw[ByteArray.data_append]
 simp[bs]
theorem bs_of (a:ByteArray):a=bs a.data.toList:=by apply Ea;simp[bs]
def bD (b:UInt8):List D:=[.v (.int .u8 b.toNat)]
def sR (s:Str):List D:=[.v (.string (bs s))]
def str1:D->Str
 | .v (.string s)=>s.data.toList
 | _=>[]
def int1:D->Int
 | .v (.int _ n)=>n
 | _=>0
def bool1:D->Bool
 | .v (.bool b)=>b
 | _=>false
def Cg:List D->Str
 | [d]=>str1 d
 | _=>[]
def Bf:D->List Str
 | .list _ rows=>rows.map Cg
 | _=>[]
def bytes1:D->Str
 | .list _ rows=>rows.map Go.DL.byteOf
 | _=>[]
@[go_sem] theorem str1_v {s:ByteArray}:str1 (.v (.string s))=s.data.toList:=rfl
@[go_sem] theorem int1_v {k:IntKind}{n:Int}:int1 (.v (.int k n))=n:=rfl
@[go_sem] theorem bool1_v {b:Bool}:bool1 (.v (.bool b))=b:=rfl
theorem lM {α β:Type}{f:α->β}{g:β->α}(h : ∀ x,g (f x)=x) (l:List α):(l.map f).map g=l:=by
 rw[List.map_map]
 exact (Zy fun x _=>h x).trans (List.map_id l)
@[go_sem] theorem Zay {f:Bool}{l:List Str}:Bf (.list f (l.map sR))=l:=lM (f:=sR) (g:=Cg) (fun x=>nk x) l
@[go_sem] theorem Xe {f:Bool}{l:Str}:bytes1 (.list f (l.map bD))=l:=lM (f:=bD) (g:=Go.DL.byteOf) (fun x=>by simp[Go.DL.byteOf,bD]) l
@[go_sem] theorem Zax {f:Bool}:Bf (.list f [])=[]:=rfl
@[go_sem] theorem Zc0 {f:Bool}:bytes1 (.list f [])=[]:=rfl
attribute [go_sem] sR bD
theorem iA {l:List Str}{n:Nat}(h:n<l.length):(l.map sR).getD n []=[.v (.string (bs l[n]!))]:=by
 simp[List.getD,h,getElem!_pos,sR]
@[go_sem] theorem wkr_sR {l:List Str}:bV (l.map sR)=l.map sR:=by
 induction l with
 | nil=>rfl
 | cons x l ih=>simp only[X9,bV,ih];rfl
@[go_sem] theorem nrr_sR {l:List Str}:aR (l.map sR)=true:=by
 induction l with
 | nil=>rfl
 | cons x l ih=>simp only[X9,aR,ih];rfl
@[go_sem] theorem wkr_bD {l:Str}:bV (l.map bD)=l.map bD:=by
 induction l with
 | nil=>rfl
 | cons x l ih=>simp only[X9,bV,ih];rfl
@[go_sem] theorem nrr_bD {l:Str}:aR (l.map bD)=true:=by
 induction l with
 | nil=>rfl
 | cons x l ih=>simp only[X9,aR,ih];rfl
def av (n:Nat) (p:Nat->Bool) (k:Nat):Bool:=if k<n then p k&&av n p (k+1) else true
termination_by n-k
theorem dR (n:Nat) (p:Nat->Bool) (k:Nat):av n p k=if k<n then p k&&av n p (k+1) else true:=by rw[av]
theorem dJ (n:Nat) (p:Nat->Bool) (k:Nat):av n p k=true ↔ ∀ i,k<=i->i<n->p i=true:=by
 rw[dR]
 split
 .
  rename_i h
  rw[XV,dJ n p (k+1)];refine⟨fun ⟨h1,h2⟩ i hi hn=>?_,fun h1=>⟨h1 k (XX _) h,fun i hi hn=>h1 i om hn⟩⟩
  by_cases e:i=k
  .
   subst e;exact h1
  exact h2 i om hn
 rename_i h
 exact⟨fun _ i hi hn=>by omega,fun _=>rfl⟩
termination_by n-k
def jT (c:UInt8):Bool:=(decide (97<=c.toNat)&&decide (c.toNat<=122))||(decide (48<=c.toNat)&&decide (c.toNat<=57))
def jf (l:Str) (i:Nat):Bool:=jT (l.getD i 0)||(decide ((l.getD i 0).toNat=45)&&decide (0<i)&&decide (i+1<l.length))
def labelOk (l:Str):Bool:=av l.length (jf l) 0&&decide (1<=l.length)&&decide (l.length<=12)
def nR (l:Str) (i:Nat):Bool:=jT (l.getD i 0)||decide ((l.getD i 0).toNat=45)
theorem Tv (l:Str):labelOk l=if l.length<1 then false else if 12<l.length then false else if (l.getD 0 0).toNat=45 then false else if (l.getD (l.length-1) 0).toNat=45 then false else av l.length (nR l) 0:=by
 by_cases h1:l.length<1
 .
  rw[X4 h1];unfold labelOk;rw[YE (by omega : ¬ 1<=l.length)];simp
 rw[XZ h1]
 by_cases h2:12<l.length
 .
  rw[X4 h2];unfold labelOk;rw[YE (by omega : ¬ l.length<=12)];simp
 rw[XZ h2]
 have e:labelOk l=av l.length (jf l) 0:=by
  unfold labelOk;rw[YX (by omega:1<=l.length),YX (by omega:l.length<=12)];simp
 rw[e]
 have not45 : ∀ c:UInt8,c.toNat=45->jT c=false:=by
  intro c hc;simp[jT,hc]
 by_cases h3:(l.getD 0 0).toNat=45
 .
  rw[X4 h3]
  cases h:av l.length (jf l) 0 with
  | false=>rfl
  | true =>
   have:=(dJ _ _ _).1 h 0 (XX _) om;simp only[jf,not45 _ h3,Nat.lt_irrefl,decide_false,Bool.and_false,Bool.false_and,ZU] at this;exact this.symm
 rw[XZ h3]
 by_cases h4:(l.getD (l.length-1) 0).toNat=45
 .
  rw[X4 h4]
  cases h:av l.length (jf l) 0 with
  | false=>rfl
  | true =>
   have:=(dJ _ _ _).1 h (l.length-1) (Yl _) om;simp only[jf,not45 _ h4,Bool.false_or,XV,XW] at this;omega
 rw[XZ h4,Zb,dJ,dJ]
 refine⟨fun h i hi hn=>?_,fun h i hi hn=>?_⟩
 .
  have:=h i hi hn;simp only[jf,nR,Yc,XV,XW] at this ⊢;exact this.imp id fun h=>h.1.1
 have:=h i hi hn
 simp only[jf,nR,Yc,XV,XW] at this ⊢
 rcases this with h5|h5
 .
  exact .inl h5
 refine .inr ⟨⟨h5,?_⟩,?_⟩
 .
  rcases Nat.eq_zero_or_pos i with e|e
  .
   subst e;exact absurd h5 h3
  exact e
 rcases Zd (i+1) l.length with e|e
 .
  exact e
 have:i=l.length-1:=by omega
 subst this;exact absurd h5 h4
def split (l:Str):List Str:=match l with
 | []=>[[]]
 | c::r=>if c=46 then []::split r else match split r with
  | []=>[[c]]
  | p::ps=>(c::p)::ps
def iH (out:List Str) (c:UInt8):List Str:=if c=46 then out++[[]] else out.set (out.length-1) (out[out.length-1]! ++ [c])
theorem Oz {out:List Str}{c:UInt8}(h:(c.toNat:Int)=46):iH out c=out++[[]]:=by
 have:c=46:=by apply ZH.1;simpa using Int.ofNat.inj h
 unfold iH;rw[X4 this]
theorem OB {out:List Str}{c:UInt8}(h : ¬ (c.toNat:Int)=46):iH out c=out.set (out.length-1) (out[out.length-1]! ++ [c]):=by
 unfold iH;rw[XZ];intro e;subst e;exact h rfl
theorem R3 {l:Str}{k:Nat}(h:k<l.length):(l.take (k+1)).drop k=[l.getD k 0]:=by
 rw[Y1,List.drop_append_of_le_length (by simp;omega),YU (by simp;omega)]
 simp[List.getD,h]
def mi (l:Str) (k:Nat) (out:List Str):List Str:=if k<l.length then mi l (k+1) (iH out (l.getD k 0)) else out
termination_by l.length-k
theorem vB (l:Str) (k:Nat) (out:List Str):mi l k out=if k<l.length then mi l (k+1) (iH out (l.getD k 0)) else out:=by rw[mi]
def splitF (l:Str):List Str:=mi l 0 [[]]
def gW (l:Str) (c:Int):Nat->Int
 | 0=>-1
 | k+1=>if ((l.getD k 0).toNat:Int)=c then k else gW l c k
theorem Jf {l:Str}{c:Int}{k:Nat}(h:0<k):gW l c k=if ((l.getD (k-1) 0).toNat:Int)=c then ((k-1:Nat):Int) else gW l c (k-1):=by
 obtain⟨j,rfl⟩:∃ j,k=j+1:=⟨k-1,om⟩
 rw[gW];rfl
def lastIx (l:Str) (c:Int):Int:=gW l c l.length
theorem CK (l:Str) (c:Int):∀ k,gW l c k<k /\ -1<=gW l c k
 | 0=>by simp[gW]
 | k+1=>by
  have:=CK l c k;unfold gW
  split<;>omega
theorem zf (l:Str) (c:Int):lastIx l c<l.length /\ -1<=lastIx l c:=CK l c l.length
theorem OA {out:List Str}{c:UInt8}{k:Nat}(h : ∀ x∈out,x.length<=k):(∀ x∈iH out c,x.length<=k+1)/\(iH out c).length<=out.length+1:=by
 unfold iH
 split
 .
  refine⟨fun x hx=>?_,by simp⟩
  rcases Yt.1 hx with hx|hx
  .
   exact Nat.le_succ_of_le (h x hx)
  simp at hx;subst hx;exact Yl _
 refine⟨fun x hx=>?_,by simp⟩
 rcases List.mem_or_eq_of_mem_set hx with hx|hx
 .
  exact Nat.le_succ_of_le (h x hx)
 subst hx
 rw[XY]
 refine Nat.succ_le_succ ?_
 by_cases ho:out.length-1<out.length
 .
  exact h _ (by rw[getElem!_pos out _ ho];exact YD _)
 rw[getElem!_neg out _ ho];exact Yl _
theorem Fu (l:Str) (k:Nat) (out:List Str) (hk:k<=l.length) (h : ∀ x∈out,x.length<=k):(∀ x∈mi l k out,x.length<=l.length)/\(mi l k out).length<=out.length+(l.length-k):=by
 rw[vB]
 split
 .
  rename_i hlt
  obtain⟨h1,h2⟩:=OA (c:=l.getD k 0) h;obtain⟨h3,h4⟩:=Fu l (k+1) _ om h1;exact⟨h3,om⟩
 exact⟨fun x hx=>Yb (h x hx) hk,om⟩
termination_by l.length-k
theorem xO (l:Str):(∀ x∈splitF l,x.length<=l.length)/\(splitF l).length<=l.length+1:=by
 obtain⟨h1,h2⟩:=Fu l 0 [[]] (Yl _) (by simp)
 exact⟨h1,by unfold splitF;simp only[YN,YW] at h2;omega⟩
theorem OC (l:Str) (i:Nat):(splitF l)[i]!.length<=l.length:=by
 by_cases h:i<(splitF l).length
 .
  exact (xO l).1 _ (by rw[getElem!_pos (splitF l) i h];exact YD _)
 rw[getElem!_neg (splitF l) i h];exact Yl _
def ja (l:Str):List Str:=l.drop (lastIx l 46+1).toNat::(if _h:lastIx l 46<0 then [] else ja (l.take (lastIx l 46).toNat))
termination_by l.length
decreasing_by
 have:=CK l 46 l.length
 unfold lastIx at *
 simp
 omega
theorem jX (l:Str):ja l=l.drop (lastIx l 46+1).toNat::(if lastIx l 46<0 then [] else ja (l.take (lastIx l 46).toNat)):=by
 rw[ja];split<;>rfl
def kT (ps:List Str) (i:Nat):Bool:=labelOk ps[i]! || (decide (i=0)&&ps[i]! == [42])
def nameOk (l:Str):Bool:=if l=[46] then true else if 60<l.length then false else av (splitF l).length (kT (splitF l)) 0&&decide ((splitF l).length<=8)
def partsOf (l:Str):List Str:=if l=[46] then [] else splitF l
def jy:List Str->Nat->Bool->Bool
 | [],_,_=>true
 | x::r,n,wild=>if wild||decide (8<n+1) then false else if !(x==[42]) && !labelOk x then false else jy r (n+1) (x==[42])
theorem mh (l:Str):split l≠[]:=by
 cases l with
 | nil=>simp[split]
 | cons c r =>
  unfold split
  split
  .
   simp
  split<;>simp
theorem Bl {x:Str}{xs:List Str}(c:UInt8) (h:xs≠[]):iH (x::xs) c=x::iH xs c:=by
 unfold iH
 split
 .
  rfl
 have hl:0<xs.length:=Zi.2 h
 obtain⟨n,hn⟩:∃ n,xs.length=n+1:=⟨xs.length-1,om⟩
 simp[hn]
theorem Fq (c:UInt8):∀ p:Str,split (p++[c])=iH (split p) c
 | []=>by
  by_cases h:c=46
  .
   subst h;rfl
  simp[split,iH,h]
 | a::p=>by
  have ih:=Fq c p
  show split (a::(p++[c]))=_
  rw[split,split.eq_2 a p]
  by_cases h:a=46
  .
   rw[X4 h,X4 h,ih,Bl c (mh p)]
  rw[XZ h,XZ h,ih]
  cases hq:split p with
  | nil=>exact absurd hq (mh p)
  | cons q qs =>
   by_cases hc:c=46
   .
    simp[iH,hc]
   cases qs with
   | nil=>simp[iH,hc]
   | cons r rs =>
    rw[Bl (x:=q) (xs:=r::rs) c (by simp),Bl (x:=a::q) (xs:=r::rs) c (by simp)]
theorem Fs (l:Str) (k:Nat) (hk:k<=l.length):mi l k (split (l.take k))=split l:=by
 rw[vB]
 split
 .
  rename_i h
  rw[<- Fq,<- Fs l (k+1) (by omega)]
  congr 2
  rw[Y1]
  simp[List.getD,h]
 rw[Yp (by omega)]
termination_by l.length-k
theorem vC (l:Str):splitF l=split l:=Fs l 0 (Yl _)
theorem Bi : ∀ l:Str,(∀ x∈l,x≠46)->split l=[l]
 | [],_=>rfl
 | c::r,h=>by
  rw[split,XZ (h c (by simp)),Bi r (fun x hx=>h x (by simp[hx]))]
theorem Bj (b:Str):∀ a:Str,split (a++46::b)=split a++split b
 | []=>by rfl
 | x::a=>by
  show split (x::(a++46::b))=_
  rw[split,split.eq_2 x a,Bj b a]
  by_cases h:x=46
  .
   rw[X4 h,X4 h];rfl
  rw[XZ h,XZ h]
  cases hq:split a with
  | nil=>exact absurd hq (mh a)
  | cons q qs=>rfl
theorem Jg (l:Str) (c:Int):∀ k,(gW l c k<0 -> ∀ j,j<k -> ¬ ((l.getD j 0).toNat:Int)=c)/\(0<=gW l c k->((l.getD (gW l c k).toNat 0).toNat:Int)=c /\ ∀ j,(gW l c k).toNat<j->j<k -> ¬ ((l.getD j 0).toNat:Int)=c)
 | 0=>by simp[gW]
 | k+1=>by
  obtain⟨h1,h2⟩:=Jg l c k;unfold gW
  by_cases h:((l.getD k 0).toNat:Int)=c
  .
   rw[X4 h];exact⟨fun h3=>by omega,fun _=>⟨by simpa using h,fun j h4 h5=>by simp at h4;omega⟩⟩
  rw[XZ h];refine⟨fun h3 j hj=>?_,fun h3=>⟨(h2 h3).1,fun j h4 h5=>?_⟩⟩
  .
   by_cases e:j=k
   .
    subst e;exact h
   exact h1 h3 j om
  by_cases e:j=k
  .
   subst e;exact h
  exact (h2 h3).2 j h4 om
theorem IE {l:Str}{n:Nat}(h : ∀ j,n<=j->j<l.length -> ¬ ((l.getD j 0).toNat:Int)=46):∀ x∈l.drop n,x≠46:=by
 intro x hx e
 subst e
 obtain⟨i,hi,he⟩:=Zf hx
 rw[List.getElem_drop] at he
 have hi':n+i<l.length:=by simp at hi;omega
 refine h (n+i) om hi' ?_
 have:l.getD (n+i) 0=46:=by simp only[List.getD,Ye hi',YT];exact he
 rw[this];rfl
theorem pU (l:Str):ja l=(split l).reverse:=by
 rw[jX]
 obtain⟨h1,h2⟩:=Jg l 46 l.length
 obtain⟨h3,h4⟩:=zf l 46
 by_cases h:lastIx l 46<0
 .
  rw[X4 h];have e:(lastIx l 46+1).toNat=0:=by omega
  have hs:=Bi l (fun x hx=>by have:=IE (l:=l) (n:=0) (fun j _ hj=>h1 h j hj) x;exact this (by simpa using hx))
  rw[e,hs];rfl
 rw[XZ h]
 obtain⟨h5,h6⟩:=h2 (by unfold lastIx at h;omega)
 generalize hi:(lastIx l 46).toNat=i at *
 have hi':(gW l 46 l.length).toNat=i:=hi
 have e:(lastIx l 46+1).toNat=i+1:=by omega
 have hlt:i<l.length:=by omega
 rw[hi'] at h5 h6
 have hl:l=l.take i++46::l.drop (i+1):=by
  have hc:l[i]=46:=by
   have:l.getD i 0=l[i]:=by simp[List.getD,hlt]
   rw[this] at h5
   apply ZH.1;simpa using Int.ofNat.inj h5
  conv=>lhs;rw[<- Ze i l]
  rw[Yu hlt,hc]
 have hs:=Bi (l.drop (i+1)) (IE fun j hj hn=>h6 j (by omega) hn)
 have ih:=pU (l.take i)
 rw[e,ih]
 conv=>rhs;rw[hl]
 rw[Bj,hs]
 simp
termination_by l.length
decreasing_by
 simp;omega
theorem EN {x:Str}{r:List Str}{n:Nat}{w:Bool}(h:(w||decide (8<(n:Int)+1))=true):jy (x::r) n w=false:=by
 unfold jy
 rw[X4]
 rw[<- h,ZI.2 (by omega:8<n+1 ↔ 8<(n:Int)+1)]
theorem WO {n:Nat}{w:Bool}(h:(w||decide (8<(n:Int)+1))=false):n+1<=8:=by
 rw[Yh,X6] at h
 omega
theorem EM {x:Str}{r:List Str}{n:Nat}{w:Bool}(h:(w||decide (8<(n:Int)+1))=false) (k:(!(x==[42]) && !labelOk x)=true):jy (x::r) n w=false:=by
 unfold jy
 rw[XZ,X4 k]
 rw[ZI.2 (by omega:8<n+1 ↔ 8<(n:Int)+1),h]
 simp
theorem EL {x:Str}{r:List Str}{n:Nat}{w:Bool}(h:(w||decide (8<(n:Int)+1))=false) (k:(!(x==[42]) && !labelOk x)=false):jy (x::r) n w=jy r (n+1) (x==[42]):=by
 conv=>lhs;unfold jy
 rw[XZ,XZ]
 .
  rw[k];simp
 rw[ZI.2 (by omega:8<n+1 ↔ 8<(n:Int)+1),h]
 simp
theorem Ov:labelOk [42]=false:=by
 unfold labelOk
 rw[dR]
 rfl
theorem EK (h:Str):∀ (ys:List Str) (n:Nat) (w:Bool),jy (ys++[h]) n w=(!w&&ys.all labelOk&&(labelOk h||h==[42])&&decide (n+ys.length+1<=8))
 | [],n,w=>by
  simp only[X3,jy,List.all_nil,YW,Zu]
  cases w<;>cases h1:labelOk h<;>cases h2:(h==[42])<;>by_cases h3:n+1<=8<;>simp[h3,show ¬ 8<n+1 ↔ n+1<=8 by omega]<;>omega
 | y::ys,n,w=>by
  have ih:=EK h ys (n+1) (y==[42]);simp only[X0,jy,List.all_cons,YN];rw[ih];have e:n+1+ys.length+1=n+(ys.length+1)+1:=by omega
  rw[e]
  by_cases hs:y=[42]
  .
   subst hs;rw[Ov]
   cases w<;>simp
  have hs':(y==[42])=false:=by simpa using hs
  rw[hs']
  by_cases h3:8<n+1
  .
   have h4 : ¬ n+(ys.length+1)+1<=8:=by omega
   simp[h3,h4]
  cases w<;>cases labelOk y<;>simp[h3]
theorem Zag (h:Str) (t:List Str):av (h::t).length (kT (h::t)) 0=(t.all labelOk&&(labelOk h||h==[42])):=by
 rw[Zb,dJ]
 simp only[kT,XV,Yc,YP,XW,YG]
 refine⟨fun q=>⟨fun x hx=>?_,?_⟩,fun ⟨q1,q2⟩ i _ hi=>?_⟩
 .
  obtain⟨i,hi,rfl⟩:=Zf hx;have:=q (i+1) (Yl _) (by simp;omega)
  rcases this with h1|h1
  .
   simpa [hi] using h1
  omega
 .
  have:=q 0 (XX _) (by simp)
  simpa using this
 cases i with
 | zero=>simpa using q2
 | succ i =>
  have hi':i<t.length:=by simpa using hi
  exact .inl (by simpa [hi'] using q1 t[i] (YD hi'))
theorem IV (l:Str):nameOk l=if l=[46] then true else if 60<l.length then false else jy (ja l) 0 false:=by
 unfold nameOk
 rw[pU,<- vC]
 cases hq:splitF l with
 | nil=>exact absurd (by rw[<- vC];exact hq) (mh l)
 | cons h t =>
  rw[Zag,List.reverse_cons,EK]
  simp
theorem RG {ps:List Str}{k:Nat}(h1:labelOk ps[k]! = false) (h2:0<k \/ ¬ ps[k]! = [42]):kT ps k=false:=by
 unfold kT
 rw[h1,Bool.false_or,Yz,X6,Zx]
 rcases h2 with h|h
 .
  exact .inl om
 exact .inr h
theorem RF {ps:List Str}{k:Nat}(h:labelOk ps[k]! = true\/(¬ 0<k/\ps[k]! = [42])):kT ps k=true:=by
 unfold kT
 rw[Yc,XV,XW,YG]
 rcases h with h|⟨h1,h2⟩
 .
  exact .inl h
 exact .inr ⟨om,h2⟩
def dG (l:Str):List Str:=if l=[46] then [] else ja l
def pl (more:Bool) (rest:Str):List Str:=if more then ja rest else []
def nO (more:Bool) (rest:Str):Str:=if more then rest.drop (lastIx rest 46+1).toNat else []
def j4 (more:Bool) (rest:Str):Bool:=more&&decide (0<=lastIx rest 46)
def jZ (more:Bool) (rest:Str):Str:=if j4 more rest then rest.take (lastIx rest 46).toNat else rest
theorem Hw {rest:Str}:pl true rest=nO true rest::pl (j4 true rest) (jZ true rest):=by
 unfold pl nO j4 jZ j4
 rw[X4 rfl,X4 rfl,jX]
 by_cases h:lastIx rest 46<0
 .
  have : ¬ 0<=lastIx rest 46:=by omega
  simp[h,this]
 have:0<=lastIx rest 46:=by omega
 simp[h,this]
theorem Rm (more:Bool) (rest:Str):(jZ more rest).length<=rest.length:=by
 unfold jZ
 split
 .
  simp;omega
 exact XX _
def lv:List Str->List Str->Int
 | [],_=>-1
 | _::_,[]=>1
 | x::xs,y::ys=>if Go.Lib.compareBytes x y != 0 then Go.Lib.compareBytes x y else lv xs ys
def nmCmp (a b:Str):Int:=if a=b then 0 else lv (dG a) (dG b)
theorem dN {l:Str}(h:nameOk l=true):l.length<=60:=by
 unfold nameOk at h
 split at h
 .
  rename_i e;subst e;decide
 split at h
 .
  cases h
 omega
theorem Qr (l:Str):dG l=pl (l != [46]) l:=by
 unfold dG pl
 by_cases h:l=[46]
 .
  subst h;rfl
 have:(l != [46])=true:=by simpa using h
 rw[XZ h,this];rfl
theorem Ak {more:Bool}{rest r2:Str}(h:(!more)=true):lv (ja rest) (pl more r2)=1:=by
 cases more with
 | true=>cases h
 | false=>rw[jX];rfl
theorem LY {more:Bool}{rest r2:Str}(h:(!more)=false) (k:(Go.Lib.compareBytes (rest.drop (lastIx rest 46+1).toNat) (nO more r2) != 0)=true):lv (ja rest) (pl more r2)=Go.Lib.compareBytes (rest.drop (lastIx rest 46+1).toNat) (nO more r2):=by
 cases more with
 | false=>cases h
 | true=>rw[jX,Hw,lv,X4 k]
theorem DY {more:Bool}{rest r2:Str}(h:(!more)=false) (k:(Go.Lib.compareBytes (rest.drop (lastIx rest 46+1).toNat) (nO more r2) != 0)=false):lv (ja rest) (pl more r2)=lv (if lastIx rest 46<0 then [] else ja (rest.take (lastIx rest 46).toNat)) (pl (j4 more r2) (jZ more r2)):=by
 cases more with
 | false=>cases h
 | true=>rw[jX,Hw,lv,XZ (by rw[k];simp)]
def mE:List Str->List Str->Int
 | [],[]=>0
 | [],_::_=>-1
 | _::_,[]=>1
 | x::xs,y::ys=>if Go.Op.bytesLess x y then -1 else if !(Go.Op.bytesLess x y||x==y) then 1 else mE xs ys
def nmOrd (a b:Str):Int:=mE (dG a) (dG b)
def qa (l m:List Str) (i:Nat):Int:=if i<=l.length/\i<=m.length then (if Go.Op.bytesLess l[l.length-i]! m[m.length-i]! then -1 else if !(Go.Op.bytesLess l[l.length-i]! m[m.length-i]! || l[l.length-i]! == m[m.length-i]!) then 1 else qa l m (i+1)) else if l.length<m.length then -1 else if m.length<l.length then 1 else 0
termination_by l.length+1-i
theorem rJ (l m:List Str) (i:Nat):qa l m i=if i<=l.length/\i<=m.length then (if Go.Op.bytesLess l[l.length-i]! m[m.length-i]! then -1 else if !(Go.Op.bytesLess l[l.length-i]! m[m.length-i]! || l[l.length-i]! == m[m.length-i]!) then 1 else qa l m (i+1)) else if l.length<m.length then -1 else if m.length<l.length then 1 else 0:=by rw[qa]
theorem yu {l:List Str}{k:Nat}(h:k<l.length):l.reverse.drop k=l[l.length-(k+1)]! :: l.reverse.drop (k+1):=by
 rw[Yu (by simpa using h),List.getElem_reverse]
 congr 1
 have h2:l.length-1-k<l.length:=by omega
 have e:l.length-(k+1)=l.length-1-k:=by omega
 rw[e,getElem!_pos l _ h2]
theorem Ie (l m:List Str) (k:Nat) (h1:k<=l.length) (h2:k<=m.length):qa l m (k+1)=mE (l.reverse.drop k) (m.reverse.drop k):=by
 rw[rJ]
 by_cases h:k+1<=l.length/\k+1<=m.length
 .
  rw[X4 h,yu (by omega:k<l.length),yu (by omega:k<m.length),mE,Ie l m (k+1) h.1 h.2]
 rw[XZ h]
 by_cases e1:k=l.length
 .
  rw[YU (by simp;omega)]
  by_cases e2:k=m.length
  .
   rw[YU (by simp;omega),XZ (by omega),XZ (by omega)];rfl
  rw[yu (by omega:k<m.length),X4 (by omega)];rfl
 have e2:k=m.length:=by omega
 have hm:m.reverse.drop k=[]:=YU (by simp;omega)
 rw[hm,yu (by omega:k<l.length),XZ (by omega),X4 (by omega)];rfl
termination_by l.length-k
theorem yM (l:Str):(partsOf l).reverse=dG l:=by
 unfold partsOf dG
 split
 .
  rfl
 rw[pU,vC]
theorem Sk (a b:Str):nmOrd a b=qa (partsOf a) (partsOf b) 1:=by
 rw[Ie _ _ 0 (Yl _) (Yl _),X8,X8,yM,yM];rfl
theorem wX : ∀ a:Str,Go.Op.bytesLess a a=false
 | []=>rfl
 | c::r=>by simp[Go.Op.bytesLess,wX r]
theorem wV : ∀ a b:Str,Go.Lib.compareBytes a b=if Go.Op.bytesLess a b then -1 else if a==b then 0 else 1
 | [],[]=>rfl
 | [],_::_=>rfl
 | _::_,[]=>by simp[Go.Lib.compareBytes,Go.Op.bytesLess]
 | x::a,y::b=>by
  unfold Go.Lib.compareBytes Go.Op.bytesLess
  by_cases h1:x<y
  .
   simp[h1]
  by_cases h2:y<x
  .
   have h3 : ¬ x=y:=fun e=>by subst e;exact h1 h2
   simp[h1,h2,h3]
  have h3:x=y:=by
   apply ZH.1
   have h4 : ¬ x.toNat<y.toNat:=h1;have h5 : ¬ y.toNat<x.toNat:=h2;omega
  subst h3
  simp[h1,wV a b]
theorem L6 : ∀ xs ys:List Str,xs≠ys->lv xs ys=mE xs ys
 | [],[],h=>absurd rfl h
 | [],_::_,_=>rfl
 | _::_,[],_=>rfl
 | x::xs,y::ys,h=>by
  unfold lv mE;rw[wV]
  by_cases h1:Go.Op.bytesLess x y=true
  .
   simp[h1]
  by_cases h2:x=y
  .
   subst h2
   simp[wX]
   exact L6 xs ys fun e=>h (by rw[e])
  have h3:(x==y)=false:=by simpa using h2
  simp[h1,h3]
theorem Ic : ∀ xs:List Str,mE xs xs=0
 | []=>rfl
 | x::xs=>by simp[mE,wX,Ic xs]
def lU:List Str->Str
 | []=>[]
 | [p]=>p
 | p::q::r=>p++46::lU (q::r)
theorem rX : ∀ l:Str,lU (split l)=l
 | []=>rfl
 | c::r=>by
  have ih:=rX r;unfold split
  by_cases h:c=46
  .
   rw[X4 h]
   cases hs:split r with
   | nil=>exact absurd hs (mh r)
   | cons q qs=>rw[hs] at ih;rw[lU,ih,h];rfl
  rw[XZ h]
  cases hs:split r with
  | nil=>exact absurd hs (mh r)
  | cons q qs =>
   rw[hs] at ih
   cases qs with
   | nil=>simp only[lU] at ih ⊢;rw[ih]
   | cons q2 qs2=>simp only[lU] at ih ⊢;rw[<- ih];rfl
theorem BC {a b:Str}(h:dG a=dG b):a=b:=by
 unfold dG at h
 have ne : ∀ l:Str,ja l≠[]:=fun l e=>by rw[jX] at e;cases e
 by_cases ha:a=[46]<;>by_cases hb:b=[46]
 .
  rw[ha,hb]
 .
  rw[X4 ha,XZ hb] at h;exact absurd h.symm (ne b)
 .
  rw[XZ ha,X4 hb] at h;exact absurd h (ne a)
 rw[XZ ha,XZ hb,pU,pU] at h
 rw[<- rX a,<- rX b,List.reverse_inj.1 h]
theorem Ck (a b:Str):nmCmp a b=nmOrd a b:=by
 unfold nmCmp nmOrd
 by_cases h:a=b
 .
  subst h;rw[X4 rfl,Ic]
 rw[XZ h,L6 _ _ fun e=>h (BC e)]
theorem H6 (l:Str):(∀ x∈partsOf l,x.length<=l.length)/\(partsOf l).length<=l.length+1:=by
 unfold partsOf
 split
 .
  exact⟨by simp,Yl _⟩
 exact xO l
end Go.Str
namespace Go.Rec
open Go.DL Go.Str
structure Dat where
 t:Str
 n:Int
 m:Int
 deriving Inhabited,DecidableEq
structure RSet where
 name:Str
 ty:Int
 life:Int
 data:List Dat
 deriving Inhabited,DecidableEq
structure Rule where
 text:Int
 n0:Int
 n1:Int
 m0:Int
 m1:Int
 even:Bool
 single:Bool
 wild:Bool
 deriving Inhabited,DecidableEq
def Dat.d (x:Dat):List D:=[.v (.string (bs x.t)),.i x.n,.i x.m]
def Dat.of:List D->Dat
 | [.v (.string s),.v (.int _ n),.v (.int _ m)]=>⟨s.data.toList,n,m⟩
 | _=>default
def RSet.d (x:RSet):List D:=[.v (.string (bs x.name)),.i x.ty,.i x.life,.list false (x.data.map Dat.d)]
def RSet.of:List D->RSet
 | [.v (.string s),.v (.int _ t),.v (.int _ l),.list _ rows]=>⟨s.data.toList,t,l,rows.map Dat.of⟩
 | _=>default
def Rule.d (r:Rule):List D:=[.i r.text,.i r.n0,.i r.n1,.i r.m0,.i r.m1,.b r.even,.b r.single,.b r.wild]
def Rule.of:List D->Rule
 | [.v (.int _ a),.v (.int _ b),.v (.int _ c),.v (.int _ d),.v (.int _ e),.v (.bool f),.v (.bool g),.v (.bool h)]=>⟨a,b,c,d,e,f,g,h⟩
 | _=>default
def nu {α:Type}(f:List D->α) (z:α):D->α
 | .agg cs=>f cs
 | _=>z
def ul {α:Type}(f:List D->α):D->List α
 | .list _ rows=>rows.map f
 | _=>[]
def iR (n:Int):List D:=[.i n]
def ofI:List D->Int
 | [.v (.int _ n)]=>n
 | _=>0
def ints1:D->List Int:=ul ofI
def dat1:D->Dat:=nu Dat.of default
def dats1:D->List Dat:=ul Dat.of
def set1:D->RSet:=nu RSet.of default
def rule1:D->Rule:=nu Rule.of default
attribute [go_sem] Dat.d RSet.d Rule.d iR
theorem Ir (x:Dat):Dat.of x.d=x:=by simp[Dat.of,Dat.d,nk]
@[go_sem] theorem ZcR {f:Bool}{l:List Dat}:dats1 (.list f (l.map Dat.d))=l:=lM Ir l
@[go_sem] theorem ZcQ {f:Bool}:dats1 (.list f [])=[]:=rfl
@[go_sem] theorem dat1_agg {s:ByteArray}{n m:Int}{k k':IntKind}:dat1 (.agg [.v (.string s),.v (.int k n),.v (.int k' m)])=⟨s.data.toList,n,m⟩:=rfl
@[go_sem] theorem set1_agg {s:ByteArray}{n m:Int}{k k':IntKind}{f:Bool}{rows:List (List D)}:set1 (.agg [.v (.string s),.v (.int k n),.v (.int k' m),.list f rows])=⟨s.data.toList,n,m,dats1 (.list f rows)⟩:=rfl
@[go_sem] theorem ZaW {r:Rule}:rule1 (.agg [.i r.text,.i r.n0,.i r.n1,.i r.m0,.i r.m1,.b r.even,.b r.single,.b r.wild])=r:=rfl
def inR (x lo hi:Int):Bool:=decide (lo<=x)&&decide (x<=hi)
def cmpI (x y:Int):Int:=if x<y then -1 else if y<x then 1 else 0
def lN (a b:Str):Bool:=Go.Op.bytesLess a b
def cmpS (a b:Str):Int:=if lN a b then -1 else if !(lN a b||a==b) then 1 else 0
def hasPre (s p:Str):Bool:=decide (p.length<=s.length)&&s.take p.length==p
def wildB (s:Str):Bool:=decide (0<s.length)&&decide ((s.getD 0 0).toNat=42)
theorem qX (s:Str):hasPre s [42]=wildB s:=by
 cases s with
 | nil=>rfl
 | cons c r =>
  simp only[hasPre,wildB,YN,YW,Ya,Yj,List.getD_cons_zero];have h1:decide (0+1<=r.length+1)=true:=by simp
  have h2:decide (0<r.length+1)=true:=by simp
  rw[h1,h2,Zt,Zt,Zb,YG,XW]
  constructor
  .
   intro h;have:=(List.cons.inj h).1;subst this;rfl
  intro h;have:c=42:=ZH.1 h;subst this;rfl
def orFrom (l:List Int) (k:Nat):Int:=if k<l.length then if l[k]! != 0 then l[k]! else orFrom l (k+1) else 0
termination_by l.length-k
theorem rM (l:List Int) (k:Nat):orFrom l k=if k<l.length then if l[k]! != 0 then l[k]! else orFrom l (k+1) else 0:=by rw[orFrom]
def ky (l:Str) (i:Nat):Bool:=jT (l.getD i 0)||decide ((l.getD i 0).toNat=32)
def freeB (l:Str):Bool:=if l.length<1 then false else if 40<l.length then false else if (l.getD 0 0).toNat=32 then false else if (l.getD (l.length-1) 0).toNat=32 then false else av l.length (ky l) 0
def less (a b:Dat):Bool:=if a.t != b.t then lN a.t b.t else if a.n != b.n then decide (a.n<b.n) else decide (a.m<b.m)
end Go.Rec
namespace Go.Cmp
open Go.Str
structure Cm {α:Type} (c:α->α->Int):Prop where
 anti : ∀ x y,c y x = - c x y
 tr : ∀ x y z,c x y<=0->c y z<=0->c x z<=0
 lo : ∀ x y, -1<=c x y
namespace Cm
variable {α : Type} {c : α -> α -> Int} (h : Cm c)
include h
theorem hi (x y:α):c x y<=1:=by have:=h.lo y x;have:=h.anti x y;omega
theorem self (x:α):c x x=0:=by have:=h.anti x x;omega
theorem lt_le {x y z:α}(a:c x y<0) (b:c y z<=0):c x z<0:=by
 have h1:=h.tr x y z (by omega) b
 by_cases e:c x z=0
 .
  have h2:=h.tr y z x b (by have:=h.anti x z;omega)
  have:=h.anti x y;omega
 omega
theorem le_lt {x y z:α}(a:c x y<=0) (b:c y z<0):c x z<0:=by
 have h1:=h.tr x y z a (by omega)
 by_cases e:c x z=0
 .
  have h2:=h.tr z x y (by have:=h.anti x z;omega) a
  have:=h.anti y z;omega
 omega
theorem eq_eq {x y z:α}(a:c x y=0) (b:c y z=0):c x z=0:=by
 have h1:=h.tr x y z (by omega) (by omega)
 have h2:=h.tr z y x (by have:=h.anti y z;omega) (by have:=h.anti x y;omega)
 have:=h.anti x z;omega
end Cm
def iY (a b:Int):Int:=if a != 0 then a else b
theorem DZ {α:Type}{c d:α->α->Int}(h:Cm c) (k:Cm d):Cm fun x y=>iY (c x y) (d x y):=by
 have e : ∀ x y,iY (c x y) (d x y)=if c x y=0 then d x y else c x y:=by
  intro x y;unfold iY;by_cases q:c x y=0<;>simp[q]
 refine⟨fun x y=>?_,fun x y z=>?_,fun x y=>?_⟩
 .
  simp only[e];have:=h.anti x y;have:=k.anti x y
  split<;>split<;>omega
 .
  simp only[e];intro a b
  by_cases e1:c x y=0<;>by_cases e2:c y z=0
  .
   rw[if_pos e1] at a;rw[if_pos e2] at b;rw[if_pos (h.eq_eq e1 e2)];exact k.tr _ _ _ a b
  .
   rw[if_neg e2] at b;have:=h.le_lt (x:=x) (by omega:c x y<=0) (by omega:c y z<0)
   rw[if_neg (by omega)];omega
  .
   rw[if_neg e1] at a;have:=h.lt_le (by omega:c x y<0) (by omega:c y z<=0)
   rw[if_neg (by omega)];omega
  rw[if_neg e1] at a;rw[if_neg e2] at b;have:=h.lt_le (by omega:c x y<0) (by omega:c y z<=0)
  rw[if_neg (by omega)];omega
 simp only[e]
 have:=h.lo x y;have:=k.lo x y
 split<;>omega
theorem o6 {α β:Type}{c:β->β->Int}(h:Cm c) (f:α->β):Cm fun x y=>c (f x) (f y) :=
 ⟨fun x y=>h.anti _ _,fun x y z=>h.tr _ _ _,fun x y=>h.lo _ _⟩
def cmpI (x y:Int):Int:=if x<y then -1 else if y<x then 1 else 0
theorem Al:Cm cmpI:=by
 refine⟨fun x y=>?_,fun x y z=>?_,fun x y=>?_⟩<;>unfold cmpI<;>(repeat' split)<;>omega
theorem cmpI_eq {x y:Int}:cmpI x y=0 ↔ x=y:=by
 unfold cmpI;(repeat' split)<;>omega
def lex {α:Type}(c:α->α->Int):List α->List α->Int
 | [],[]=>0
 | [],_::_=>-1
 | _::_,[]=>1
 | x::xs,y::ys=>iY (c x y) (lex c xs ys)
theorem ib {a b:Int}:iY a b=if a=0 then b else a:=by
 unfold iY;by_cases q:a=0<;>simp[q]
theorem L8 {α:Type}{c:α->α->Int}(h:Cm c):Cm (lex c):=by
 refine⟨?_,?_,?_⟩
 .
  intro x
  induction x with
  | nil=>intro y;cases y<;>rfl
  | cons x xs ih =>
   intro y
   cases y with
   | nil=>rfl
   | cons y ys =>
    simp only[lex,ib];have:=h.anti x y;have:=ih ys
    split<;>split<;>omega
 .
  intro x
  induction x with
  | nil =>
   intro y z _ _
   cases z
   .
    simp[lex]
   simp[lex]
  | cons x xs ih =>
   intro y z a b
   cases y with
   | nil=>simp[lex] at a
   | cons y ys =>
    cases z with
    | nil=>simp[lex] at b
    | cons z zs =>
     simp only[lex,ib] at a b ⊢
     by_cases e1:c x y=0<;>by_cases e2:c y z=0
     .
      rw[if_pos e1] at a;rw[if_pos e2] at b;rw[if_pos (h.eq_eq e1 e2)];exact ih _ _ a b
     .
      rw[if_neg e2] at b;have:=h.le_lt (x:=x) (by omega:c x y<=0) (by omega:c y z<0)
      rw[if_neg (by omega)];omega
     .
      rw[if_neg e1] at a;have:=h.lt_le (by omega:c x y<0) (by omega:c y z<=0)
      rw[if_neg (by omega)];omega
     rw[if_neg e1] at a;rw[if_neg e2] at b;have:=h.lt_le (by omega:c x y<0) (by omega:c y z<=0)
     rw[if_neg (by omega)];omega
 intro x
 induction x with
 | nil=>intro y;cases y<;>simp[lex]
 | cons x xs ih =>
  intro y
  cases y with
  | nil=>simp[lex]
  | cons y ys =>
   simp only[lex,ib];have:=h.lo x y;have:=ih ys
   split<;>omega
theorem CB {α:Type}{c:α->α->Int}(h : ∀ x y,c x y=0->x=y):∀ xs ys:List α,lex c xs ys=0->xs=ys
 | [],[],_=>rfl
 | [],_::_,e=>by simp[lex] at e
 | _::_,[],e=>by simp[lex] at e
 | x::xs,y::ys,e=>by
  simp only[lex,ib] at e
  split at e
  .
   rename_i q;rw[h _ _ q,CB h xs ys e]
  rename_i q;exact absurd e q
def wU (x y:UInt8):Int:=cmpI x.toNat y.toNat
theorem cm_u:Cm wU:=o6 Al fun x:UInt8=>(x.toNat:Int)
theorem WR {x y:UInt8}(h:wU x y=0):x=y:=UInt8.toNat_inj.1 (by have:=cmpI_eq.1 h;omega)
theorem DX : ∀ a b:Str,Go.Lib.compareBytes a b=lex wU a b
 | [],[]=>rfl
 | [],_::_=>rfl
 | _::_,[]=>rfl
 | x::a,y::b=>by
  unfold Go.Lib.compareBytes lex;have ih:=DX a b;simp only[ib,wU,cmpI]
  by_cases h1:x<y
  .
   have:(x.toNat:Int)<y.toNat:=by have:x.toNat<y.toNat:=h1;omega
   simp[h1,this]
  have h1' : ¬ (x.toNat:Int)<y.toNat:=by have : ¬ x.toNat<y.toNat:=h1;omega
  by_cases h2:y<x
  .
   have:(y.toNat:Int)<x.toNat:=by have:y.toNat<x.toNat:=h2;omega
   simp[h1,h2,h1',this]
  have h2' : ¬ (y.toNat:Int)<x.toNat:=by have : ¬ y.toNat<x.toNat:=h2;omega
  simp[h1,h2,h1',h2',ih]
theorem Am:Cm (Go.Lib.compareBytes):=by
 have:Go.Lib.compareBytes=lex wU:=by funext a b;exact DX a b
 rw[this];exact L8 cm_u
theorem Mf {a b:Str}(h:Go.Lib.compareBytes a b=0):a=b:=by
 rw[DX] at h;exact CB (fun _ _=>WR) a b h
theorem yQ : ∀ xs ys:List Str,mE xs ys=lex Go.Lib.compareBytes xs ys
 | [],[]=>rfl
 | [],_::_=>rfl
 | _::_,[]=>rfl
 | x::xs,y::ys=>by
  unfold mE lex;have ih:=yQ xs ys;rw[wV,ib,ih]
  by_cases h1:Go.Op.bytesLess x y=true
  .
   simp[h1]
  by_cases h2:x=y
  .
   subst h2;simp[wX]
  have h3:(x==y)=false:=by simpa using h2
  simp[h1,h3]
theorem cm_nm:Cm nmOrd:=by
 have:nmOrd=fun a b=>lex Go.Lib.compareBytes (dG a) (dG b):=by funext a b;exact yQ _ _
 rw[this];exact o6 (L8 Am) dG
theorem vW {a b:Str}(h:nmOrd a b=0):a=b:=by
 unfold nmOrd at h
 rw[yQ] at h
 exact BC (CB (fun _ _=>Mf) _ _ h)
section
variable {α : Type} (c : α -> α -> Int) (m : α -> α -> α)
def ins:List α->α->List α
 | [],x=>[x]
 | y::r,x=>if c y x<0 then y::ins r x else if 0<c y x then x::y::r else m y x::r
structure Un:Prop where
 left : ∀ x y,c x y=0->c (m x y) x=0
 comm : ∀ x y,c x y=0->m x y=m y x
 swap : ∀ x y z,c x y=0->c x z=0->m (m x y) z=m (m x z) y
variable {c m}
def jv (c:α->α->Int) (l:List α):Prop:=l.Pairwise fun x y=>c x y<0
end
end Go.Cmp
namespace Go.Rec
open Go.DL Go.Str Go.Cmp
def ed (k:Nat):Rule:=match k with
 | 1=>⟨0,1,1000000,0,0,false,false,true⟩
 | 2=>⟨1,0,0,0,0,false,false,false⟩
 | 3=>⟨1,0,0,0,0,false,true,false⟩
 | 4=>⟨0,0,65535,0,100000,false,true,false⟩
 | 5=>⟨3,0,0,0,0,false,false,true⟩
 | 6=>⟨0,1,1000000,1,3,false,false,false⟩
 | 7=>⟨0,1,1000000,1,3,false,false,false⟩
 | 8=>⟨2,2,510,0,0,true,false,true⟩
 | _=>⟨0,0,0,0,0,false,false,false⟩
def pM (k:Int) (t:Str):Bool:=if k=1 then nameOk t && !wildB t else if k=2 then nameOk t else if k=3 then freeB t else t==[]
def datOk (r:Rule) (d:Dat):Bool:=inR d.n r.n0 r.n1&&inR d.m r.m0 r.m1 && !(r.even&&d.n % 2 != 0)&&pM r.text d.t
def rDatOk (k:Int) (d:Dat):Bool :=
 if k=1 then d.t==[]&&inR d.n 1 1000000&&d.m==0
 else if k=2\/k=3 then nameOk d.t && !wildB d.t&&d.n==0&&d.m==0
 else if k=4 then d.t==[]&&inR d.n 0 65535&&inR d.m 0 100000
 else if k=5 then freeB d.t&&d.n==0&&d.m==0
 else if k=6\/k=7 then d.t==[]&&inR d.n 1 1000000&&inR d.m 1 3
 else if k=8 then nameOk d.t&&inR d.n 2 510&&d.n % 2==0&&d.m==0
 else false
theorem Uv (n:Int):inR n 0 0=(n==0):=by
 unfold inR
 rw[Zb,XV,XW,XW,YG]
 omega
theorem inR_iff {n a b:Int}:inR n a b=true ↔ a<=n/\n<=b:=by
 unfold inR
 rw[XV,XW,XW]
theorem kinds {k:Int}(h:inR k 1 8=true):k=1\/k=2\/k=3\/k=4\/k=5\/k=6\/k=7\/k=8:=by
 have:=inR_iff.1 h
 omega
theorem LC {k:Int}(h:inR k 1 8=true) (d:Dat):rDatOk k d=datOk (ed k.toNat) d:=by
 rw[Zb]
 rcases kinds h with h|h|h|h|h|h|h|h<;>subst h<;>simp[rDatOk,datOk,ed,pM,Uv]<;>constructor<;>intro q<;>simp_all
def singleB (k:Int):Bool:=decide (k=3)||decide (k=4)
theorem FC {k:Int}(h:inR k 1 8=true):singleB k=(ed k.toNat).single:=by
 rcases kinds h with h|h|h|h|h|h|h|h<;>subst h<;>rfl
theorem Nu {k:Int}(h:inR k 1 8=true):(k != 1&&k != 5&&k != 8) = !(ed k.toNat).wild:=by
 rcases kinds h with h|h|h|h|h|h|h|h<;>subst h<;>rfl
def datC (a b:Dat):Int:=iY (Go.Lib.compareBytes a.t b.t) (iY (Go.Cmp.cmpI a.n b.n) (Go.Cmp.cmpI a.m b.m))
theorem cm_dat:Cm datC:=DZ (o6 Am Dat.t) (DZ (o6 Al Dat.n) (o6 Al Dat.m))
theorem I9 (a b:Dat):less a b=decide (datC a b<0):=by
 unfold less datC lN
 rw[ib,ib,wV]
 by_cases h1:a.t=b.t
 .
  rw[h1]
  simp[wX]
  by_cases h2:a.n=b.n
  .
   rw[h2];simp[Go.Cmp.cmpI]
   by_cases h3:a.m<b.m
   .
    simp[h3]
   simp[h3];split<;>omega
  simp[h2,Go.Cmp.cmpI]
  by_cases h3:a.n<b.n
  .
   simp[h3]
  have:b.n<a.n:=by omega
  simp[h3,this]
 have h2:(a.t==b.t)=false:=by simpa using h1
 simp[h1,h2]
 cases h3:Go.Op.bytesLess a.t b.t<;>simp
theorem WS (a b:Str):cmpS a b=Go.Lib.compareBytes a b:=by
 rw[wV]
 unfold cmpS lN
 by_cases h:Go.Op.bytesLess a b=true
 .
  simp[h]
 cases h2:(a==b)<;>simp[h]
theorem RX (a b c:Int):orFrom [a,b,c] 0=if a != 0 then a else if b != 0 then b else if c != 0 then c else 0:=by
 rw[rM,rM _ (0+1),rM _ (0+1+1),rM _ (0+1+1+1)]
 simp
theorem RV (a b:Dat):orFrom [cmpS a.t b.t,cmpI a.n b.n,cmpI a.m b.m] 0=datC a b:=by
 rw[RX,WS]
 unfold datC iY
 show (if _ then _ else if _ then _ else if Go.Cmp.cmpI a.m b.m != 0 then Go.Cmp.cmpI a.m b.m else 0)=_
 by_cases h:Go.Cmp.cmpI a.m b.m=0
 .
  simp[h];rfl
 simp[h];rfl
def iQ (k:Nat) (l:List Dat) (i:Nat):Bool:=datOk (ed k) l[i]! && (decide (i=0)||decide (datC l[i-1]! l[i]! < 0))
def setOk (s:RSet):Bool:=nameOk s.name&&inR s.ty 1 8&&inR s.life 0 100000&&inR s.data.length 1 8 && !((ed s.ty.toNat).single&&(s.data.length:Int) != 1) && !(wildB s.name && !(ed s.ty.toNat).wild)&&av s.data.length (iQ s.ty.toNat s.data) 0
structure nz (s:RSet):Prop where
 name:nameOk s.name=true
 ty:inR s.ty 1 8=true
 life:inR s.life 0 100000=true
 len:1<=s.data.length/\s.data.length<=8
 single:(ed s.ty.toNat).single=true->s.data.length=1
 wild:wildB s.name=true->(ed s.ty.toNat).wild=true
 dat : ∀ d∈s.data,datOk (ed s.ty.toNat) d=true
 sorted:jv datC s.data
theorem N8 {l:List Dat}(h : ∀ i,0<i->i<l.length->datC l[i-1]! l[i]! < 0):jv datC l:=by
 induction l with
 | nil=>exact .nil
 | cons x r ih =>
  have ih:=ih fun i h1 h2=>by
   have:=h (i+1) om (by simp;omega)
   obtain⟨j,rfl⟩:∃ j,i=j+1:=⟨i-1,om⟩
   simpa using this
  refine Y3.2 ⟨fun y hy=>?_,ih⟩
  cases r with
  | nil=>cases hy
  | cons z r =>
   have hxz:datC x z<0:=by simpa using h 1 om (by simp)
   rcases YL.1 hy with e|e
   .
    subst e;exact hxz
   have:=(Y3.1 ih).1 y e;exact cm_dat.lt_le hxz om
theorem XJ {l:List Dat}(h:jv datC l) {i j:Nat}(h1:i<j) (h2:j<l.length):datC l[i]! l[j]! < 0:=by
 rw[getElem!_pos l i (by omega),getElem!_pos l j h2]
 exact ZO.1 h i j om h2 h1
theorem eO (s:RSet):setOk s=true ↔ nz s:=by
 unfold setOk
 simp only[XV,Yd,Yz,Zw,Yv,dJ]
 constructor
 .
  rintro⟨⟨⟨⟨⟨⟨h1,h2⟩,h3⟩,h4⟩,h5⟩,h6⟩,h7⟩;have h4:=inR_iff.1 h4;have hd : ∀ i,i<s.data.length->datOk (ed s.ty.toNat) s.data[i]! = true:=fun i hi=>by
   have:=h7 i (Yl _) hi;unfold iQ at this;exact (XV _ _ ▸ this).1
  refine⟨h1,h2,h3,om,fun q=>?_,fun q=>?_,fun d hd'=>?_,N8 fun i hi hl=>?_⟩
  .
   rcases h5 with h|h
   .
    rw[q] at h;cases h
   omega
  .
   rcases h6 with h|h
   .
    rw[q] at h;cases h
   exact h
  .
   obtain⟨i,hi,rfl⟩:=Zf hd';have:=hd i hi;rwa [getElem!_pos s.data i hi] at this
  have:=h7 i (Yl _) hl;unfold iQ at this;rw[XV,Yc,XW,XW] at this;exact this.2.resolve_left om
 intro ⟨h1,h2,h3,h4,h5,h6,h7,h8⟩
 refine⟨⟨⟨⟨⟨⟨h1,h2⟩,h3⟩,inR_iff.2 om⟩,?_⟩,?_⟩,fun i _ hi=>?_⟩
 .
  by_cases q:(ed s.ty.toNat).single=true
  .
   right;have:=h5 q;omega
  left;simpa using q
 .
  by_cases q:wildB s.name=true
  .
   right;exact h6 q
  left;simpa using q
 unfold iQ
 rw[XV,Yc,XW,XW]
 refine⟨by rw[getElem!_pos s.data i hi];exact h7 _ (YD _),?_⟩
 by_cases e:i=0
 .
  exact .inl e
 exact .inr (XJ h8 om hi)
instance (s:RSet):Decidable (nz s):=decidable_of_iff _ (eO s)
def qg (a b:Str):Int:=if nameOk a&&nameOk b then nmCmp a b else 0
def plC (a b:RSet):Int:=if a.name=b.name then cmpI a.ty b.ty else qg a.name b.name
def rOrd (a b:RSet):Int:=iY (qg a.name b.name) (cmpI a.ty b.ty)
def nM (a b:RSet):Int:=iY (nmOrd a.name b.name) (cmpI a.ty b.ty)
theorem WY:Cm nM:=DZ (o6 cm_nm RSet.name) (o6 Al RSet.ty)
theorem Rj {a b:RSet}:nM a b=0 ↔ a.name=b.name/\a.ty=b.ty:=by
 unfold nM
 rw[ib]
 constructor
 .
  intro h
  split at h
  .
   exact⟨vW ‹_›,cmpI_eq.1 h⟩
  exact absurd h ‹_›
 rintro⟨h1,h2⟩
 rw[h1,h2,X4 (cm_nm.self _)]
 exact cmpI_eq.2 rfl
theorem Rn {a b:RSet}(ha:nameOk a.name=true) (hb:nameOk b.name=true):plC a b=nM a b:=by
 unfold plC nM qg
 rw[ha,hb,ib]
 by_cases h:a.name=b.name
 .
  rw[X4 h,h,X4 (cm_nm.self _)]
 rw[XZ h,XZ (fun e=>h (vW e)),Ck];rfl
theorem GN {a b:RSet}(ha:nameOk a.name=true) (hb:nameOk b.name=true):rOrd a b=nM a b:=by
 unfold rOrd nM qg
 rw[ha,hb,Ck];rfl
def uN (n:Int):Nat:=(n % 18446744073709551616).toNat
def dE (u sh:Nat):UInt8:=UInt8.ofNat (u / 2^sh)
def aT (n:Int):Str:=[dE (uN n) 56,dE (uN n) 48,dE (uN n) 40,dE (uN n) 32,dE (uN n) 24,dE (uN n) 16,dE (uN n) 8,dE (uN n) 0]
theorem eu (n:Int):(aT n).length=8:=rfl
theorem pJ (n:Int):uN n<18446744073709551616:=by unfold uN;omega
def bG (n:Nat) (c:UInt8):Nat:=(n*256+c.toNat) % 18446744073709551616
def bO (l:Str):Nat:=l.foldl bG 0
def sN (n:Nat):Int:=IntKind.i64.wrap (n:Int)
def numOf (l:Str):Int:=sN (bO l)
theorem Aq (u sh:Nat):(dE u sh).toNat=u / 2^sh % 256:=by simp[dE]
theorem nI (u s:Nat) (h:u<18446744073709551616):bG (u / 2^(s+8)) (dE u s)=u / 2^s:=by
 unfold bG
 rw[Aq]
 have e:u / 2^(s+8)=u / 2^s / 256:=by rw[Nat.pow_add,<- Nat.div_div_eq_div_mul]
 have l:u / 2^s<=u:=Nat.div_le_self _ _
 rw[e]
 omega
theorem Sa (n:Int):bO (aT n)=uN n:=by
 have h:=pJ n
 unfold aT
 generalize uN n=u at h
 have a7:bG 0 (dE u 56)=u / 2^56:=by
  have:=nI u 56 h;rwa [Nat.div_eq_of_lt (show u<2^(56+8) from h)] at this
 have a6:bG (u / 2^56) (dE u 48)=u / 2^48:=nI u 48 h
 have a5:bG (u / 2^48) (dE u 40)=u / 2^40:=nI u 40 h
 have a4:bG (u / 2^40) (dE u 32)=u / 2^32:=nI u 32 h
 have a3:bG (u / 2^32) (dE u 24)=u / 2^24:=nI u 24 h
 have a2:bG (u / 2^24) (dE u 16)=u / 2^16:=nI u 16 h
 have a1:bG (u / 2^16) (dE u 8)=u / 2^8:=nI u 8 h
 have a0:bG (u / 2^8) (dE u 0)=u / 2^0:=nI u 0 h
 simp only[bO,YJ,ZC]
 rw[a7,a6,a5,a4,a3,a2,a1,a0]
 simp
theorem Iy : ∀ l:Str,bO l<18446744073709551616:=by
 intro l
 unfold bO
 rcases List.eq_nil_or_concat l with e|⟨p,z,e⟩
 .
  subst e;decide
 rw[e,List.concat_eq_append,Y7,YJ,ZC]
 unfold bG
 omega
theorem NH {u:Nat}(h:u<18446744073709551616):uN (sN u)=u:=by
 unfold uN sN
 rw[IntKind.wrap_i64]
 omega
theorem D9 {l:Str}(h:l.length=8):aT (numOf l)=l:=by
 unfold numOf aT
 rw[NH (Iy l)]
 match l,h with
 | [c0,c1,c2,c3,c4,c5,c6,c7],_ =>
  have h0:=c0.toNat_lt;have h1:=c1.toNat_lt;have h2:=c2.toNat_lt;have h3:=c3.toNat_lt;have h4:=c4.toNat_lt;have h5:=c5.toNat_lt;have h6:=c6.toNat_lt;have h7:=c7.toNat_lt;have e:bO [c0,c1,c2,c3,c4,c5,c6,c7]=((((((c0.toNat*256+c1.toNat)*256+c2.toNat)*256+c3.toNat)*256+c4.toNat)*256+c5.toNat)*256+c6.toNat)*256+c7.toNat:=by
   simp only[bO,YJ,ZC,bG];omega
  have k : ∀ (s:Nat) (c:UInt8),bO [c0,c1,c2,c3,c4,c5,c6,c7] / 2^s % 256=c.toNat->dE (bO [c0,c1,c2,c3,c4,c5,c6,c7]) s=c:=fun s c q=>ZH.1 (by rw[Aq];exact q)
  rw[k 56 c0 (by rw[e];omega),k 48 c1 (by rw[e];omega),k 40 c2 (by rw[e];omega),k 32 c3 (by rw[e];omega),k 24 c4 (by rw[e];omega),k 16 c5 (by rw[e];omega),k 8 c6 (by rw[e];omega),k 0 c7 (by rw[e];omega)]
theorem rf {n:Int}(h : -9223372036854775808<=n/\n<=9223372036854775807):sN (uN n)=n:=by
 unfold sN uN
 rw[IntKind.wrap_i64]
 omega
theorem Sc {n:Int}(h : -9223372036854775808<=n/\n<=9223372036854775807):numOf (aT n)=n:=by
 unfold numOf;rw[Sa,rf h]
def eZ (n:Nat):UInt8:=UInt8.ofNat n
def aQ (t:Str):Str:=eZ t.length::t
def fU (d:Dat):Str:=aQ d.t++aT d.n++aT d.m
def setB (s:RSet):Str:=aQ s.name++aT s.ty++aT s.life++eZ s.data.length::s.data.flatMap fU
abbrev RS:=Str×Bool
def aC (n:Int) (st:RS):Str×RS:=if st.2||decide ((st.1.length:Int)<n) then ([],(st.1,true)) else (st.1.take n.toNat,(st.1.drop n.toNat,false))
def aV (st:RS):Nat×RS:=(if (aC 1 st).1.length=1 then ((aC 1 st).1.getD 0 0).toNat else 0,(aC 1 st).2)
def aK (st:RS):Str×RS:=aC (aV st).1 (aV st).2
def ax (st:RS):Int×RS:=(numOf (aC 8 st).1,(aC 8 st).2)
def bS (st:RS):Dat×RS:=(⟨(aK st).1,(ax (aK st).2).1,(ax (ax (aK st).2).2).1⟩,(ax (ax (aK st).2).2).2)
def cO:Nat->List Dat->RS->List Dat×RS
 | 0,out,st=>(out,st)
 | k+1,out,st=>if (bS st).2.2 then (out,(bS st).2) else cO k (out++[(bS st).1]) (bS st).2
def fO (st:RS):RSet×RS :=
 let a:=aK st
 let b:=ax a.2
 let c:=ax b.2
 let n:=aV c.2
 let d:=cO n.1 [] n.2
 (⟨a.1,b.1,c.1,d.1⟩,d.2)
def yZ:RSet:=⟨[],0,0,[]⟩
def readF (x:Str):RSet×Int:=if (fO (x,false)).2.2||decide (0<(fO (x,false)).2.1.length) || !setOk (fO (x,false)).1 then (yZ,10) else ((fO (x,false)).1,0)
abbrev RT:=Nat×Bool
def bg (b:Str) (st:RT):UInt8×RT:=if b.length<=st.1 then (0,(st.1,true)) else (b.getD st.1 0,(st.1+1,st.2))
def jH (b:Str):Nat->Str->RT->Str×RT
 | 0,s,st=>(s,st)
 | k+1,s,st=>if st.2 then (s,st) else jH b k (s++[(bg b st).1]) (bg b st).2
def bJ (b:Str) (st:RT):Str×RT:=jH b (bg b st).1.toNat [] (bg b st).2
def jI (b:Str):Nat->Nat->RT->Nat×RT
 | 0,n,st=>(n,st)
 | k+1,n,st=>jI b k (bG n (bg b st).1) (bg b st).2
def bz (b:Str) (st:RT):Int×RT:=(sN (jI b 8 0 st).1,(jI b 8 0 st).2)
def ic (b:Str) (st:RT):Dat×RT:=(⟨(bJ b st).1,(bz b (bJ b st).2).1,(bz b (bz b (bJ b st).2).2).1⟩,(bz b (bz b (bJ b st).2).2).2)
def jd (b:Str):Nat->List Dat->RT->List Dat×RT
 | 0,out,st=>(out,st)
 | k+1,out,st=>if st.2 then (out,st) else jd b k (out++[(ic b st).1]) (ic b st).2
def jc (b:Str) (st:RT):RSet×RT :=
 let a:=bJ b st
 let t:=bz b a.2
 let c:=bz b t.2
 let n:=bg b c.2
 let d:=jd b n.1.toNat [] n.2
 (⟨a.1,t.1,c.1,d.1⟩,d.2)
def yC (x:Str):RSet×Int:=if (jc x (0,false)).2.2||decide ((jc x (0,false)).2.1≠x.length) || !setOk (jc x (0,false)).1 then (yZ,10) else ((jc x (0,false)).1,0)
def Alike (b:Str) (s:RS) (t:RT):Prop:=t.1<=b.length/\((s.2=false/\t.2=false/\s.1=b.drop t.1)\/(s.2=true/\t.2=true))
theorem MM {b:Str}{s:RS}{t:RT}(h:Alike b s t):Alike b (aV s).2 (bg b t).2/\((aV s).2.2=false->(aV s).1=(bg b t).1.toNat):=by
 obtain⟨h0,⟨h1,h2,h3⟩|⟨h1,h2⟩⟩:=h
 .
  unfold aV aC bg;rw[h1,h3,Bool.false_or]
  by_cases h:b.length<=t.1
  .
   have e:(b.drop t.1).length=0:=by simp;omega
   rw[X4 h,e];exact⟨⟨h0,.inr ⟨rfl,rfl⟩⟩,fun q=>by cases q⟩
  have e : ¬ ((b.drop t.1).length:Int)<1:=by simp;omega
  rw[XZ h,YE e];have e1:((b.drop t.1).take 1).length=1:=by simp;omega
  refine⟨⟨by show t.1+1<=_;omega,.inl ⟨rfl,h2,by show ((b.drop t.1).drop 1)=b.drop (t.1+1);rw[Zm]⟩⟩,fun _=>?_⟩
  show (if ((b.drop t.1).take 1).length=1 then (((b.drop t.1).take 1).getD 0 0).toNat else 0)=(b.getD t.1 0).toNat
  rw[X4 e1]
  congr 1
  simp[List.getD,YZ]
 unfold aV aC bg
 rw[h1,Bool.true_or]
 refine⟨?_,fun q=>by cases q⟩
 by_cases h:b.length<=t.1
 .
  rw[X4 h];exact⟨h0,.inr ⟨rfl,rfl⟩⟩
 rw[XZ h];exact⟨by show t.1+1<=_;omega,.inr ⟨rfl,h2⟩⟩
theorem gu {st:RS}{n:Nat}(h1:st.2=false) (h2:n<=st.1.length):aC n st=(st.1.take n,(st.1.drop n,false)):=by
 unfold aC
 rw[h1,Bool.false_or,YE (by omega)]
 rfl
theorem gy {st:RS}{n:Int}(h:st.2=true\/(st.1.length:Int)<n):aC n st=([],(st.1,true)):=by
 unfold aC
 have:(st.2||decide ((st.1.length:Int)<n))=true:=by rw[Yc,XW];exact h
 rw[this];rfl
theorem AQ {b:Str}:∀ (k:Nat) (s:Str) (t:RT),t.2=true->jH b k s t=(s,t)
 | 0,_,_,_=>rfl
 | k+1,s,t,h=>by unfold jH;rw[X4 h]
theorem Co {b:Str}{t:RT}(h:t.1<b.length):bg b t=(b.getD t.1 0,(t.1+1,t.2)):=by unfold bg;rw[XZ (by omega)]
theorem Cn {b:Str}{t:RT}(h:b.length<=t.1):bg b t=(0,(t.1,true)):=by unfold bg;rw[X4 h]
theorem EC {b:Str}:∀ (k:Nat) (s:Str) (t:RT),t.2=false->t.1<=b.length->(t.1+k<=b.length->jH b k s t=(s++(b.drop t.1).take k,(t.1+k,false)))/\(b.length<t.1+k->(jH b k s t).2.2=true/\(jH b k s t).2.1<=b.length)
 | 0,s,t,h,h2=>⟨fun _=>by unfold jH;simp[<- h],fun q=>by omega⟩
 | k+1,s,t,h,h2=>by
  unfold jH;rw[XZ (by rw[h];simp)]
  by_cases q:t.1<b.length
  .
   rw[Co q];obtain⟨i1,i2⟩:=EC (b:=b) k (s++[b.getD t.1 0]) (t.1+1,t.2) h (by show t.1+1<=_;omega)
   refine⟨fun p=>?_,fun p=>i2 (by show b.length<t.1+1+k;omega)⟩
   rw[i1 (by show t.1+1+k<=_;omega)]
   have e:(b.drop t.1).take (k+1)=b.getD t.1 0::(b.drop (t.1+1)).take k:=by
    rw[Yu q,Ya]
    congr 1
    simp[List.getD,q]
   rw[e];refine Prod.ext (by simp) (Prod.ext (by show t.1+1+k=t.1+(k+1);omega) rfl)
  rw[Cn (by omega),AQ k _ _ rfl]
  exact⟨fun p=>by omega,fun _=>⟨rfl,h2⟩⟩
theorem ML {b:Str}{s:RS}{t:RT}(h:Alike b s t):Alike b (aK s).2 (bJ b t).2/\((aK s).2.2=false->(aK s).1=(bJ b t).1):=by
 obtain⟨h1,h2⟩:=MM h
 unfold aK bJ
 obtain⟨h0,⟨k1,k2,k3⟩|⟨k1,k2⟩⟩:=h1
 .
  rw[h2 k1];obtain⟨i1,i2⟩:=EC (b:=b) (bg b t).1.toNat [] (bg b t).2 k2 h0;have hl:(aV s).2.1.length=b.length-(bg b t).2.1:=by rw[k3];simp
  by_cases q:(bg b t).2.1+(bg b t).1.toNat<=b.length
  .
   rw[i1 q,gu k1 (by omega)]
   exact⟨⟨q,.inl ⟨rfl,rfl,by show (aV s).2.1.drop _=_;rw[k3,Zm]⟩⟩,fun _=>by show (aV s).2.1.take _=_;rw[k3];rfl⟩
  rw[gy (.inr (by omega))]
  obtain⟨j1,j2⟩:=i2 om;exact⟨⟨j2,.inr ⟨rfl,j1⟩⟩,fun q=>by cases q⟩
 rw[gy (.inl k1),AQ _ _ _ k2]
 exact⟨⟨h0,.inr ⟨rfl,k2⟩⟩,fun q=>by cases q⟩
theorem val_ok {b:Str}:∀ (k n:Nat) (t:RT),t.1<=b.length->(jI b k n t).2.1<=b.length/\(t.2=true->(jI b k n t).2.2=true)/\(t.2=false->(t.1+k<=b.length->jI b k n t=(((b.drop t.1).take k).foldl bG n,(t.1+k,false)))/\(b.length<t.1+k->(jI b k n t).2.2=true))
 | 0,n,t,h=>⟨h,fun q=>q,fun q=>⟨fun _=>by unfold jI;simp[<- q],fun p=>by omega⟩⟩
 | k+1,n,t,h=>by
  unfold jI
  by_cases q:t.1<b.length
  .
   rw[Co q];obtain⟨i1,i2,i3⟩:=val_ok (b:=b) k (bG n (b.getD t.1 0)) (t.1+1,t.2) (by show t.1+1<=_;omega)
   refine⟨i1,i2,fun e=>⟨fun p=>?_,fun p=>(i3 e).2 (by show b.length<t.1+1+k;omega)⟩⟩
   rw[(i3 e).1 (by show t.1+1+k<=_;omega)]
   have e:(b.drop t.1).take (k+1)=b.getD t.1 0::(b.drop (t.1+1)).take k:=by
    rw[Yu q,Ya]
    congr 1
    simp[List.getD,q]
   rw[e];refine Prod.ext rfl (Prod.ext (by show t.1+1+k=t.1+(k+1);omega) rfl)
  rw[Cn (by omega)]
  obtain⟨i1,i2,i3⟩:=val_ok (b:=b) k (bG n 0) (t.1,true) h;exact⟨i1,fun _=>i2 rfl,fun e=>⟨fun p=>by omega,fun _=>i2 rfl⟩⟩
theorem Az {b:Str}{s:RS}{t:RT}(h:Alike b s t):Alike b (ax s).2 (bz b t).2/\((ax s).2.2=false->(ax s).1=(bz b t).1):=by
 unfold ax bz
 have hh:=h.1
 obtain⟨i1,i2,i3⟩:=val_ok (b:=b) 8 0 t hh
 obtain⟨h0,⟨k1,k2,k3⟩|⟨k1,k2⟩⟩:=h
 .
  have hl:s.1.length=b.length-t.1:=by rw[k3];simp
  by_cases q:t.1+8<=b.length
  .
   have e:=gu (n:=8) k1 (by omega)
   rw[show ((8:Nat):Int)=8 from rfl] at e
   rw[(i3 k2).1 q,e];exact⟨⟨q,.inl ⟨rfl,rfl,by show s.1.drop 8=_;rw[k3,Zm]⟩⟩,fun _=>by show numOf (s.1.take 8)=_;rw[k3];rfl⟩
  rw[gy (.inr (by omega))]
  exact⟨⟨i1,.inr ⟨rfl,(i3 k2).2 om⟩⟩,fun q=>by cases q⟩
 rw[gy (.inl k1)]
 exact⟨⟨i1,.inr ⟨rfl,i2 k2⟩⟩,fun q=>by cases q⟩
theorem Be {n:Int}{s:RS}(h:s.2=true):(aC n s).2.2=true:=by rw[gy (.inl h)]
theorem Ch {s:RS}(h:s.2=true):(ax s).2.2=true:=Be h
theorem LU {s:RS}(h:s.2=true):(aV s).2.2=true:=Be h
theorem NN {s:RS}(h:s.2=true):(aK s).2.2=true:=Be (LU h)
theorem qd {s:RS}(h:(ax s).2.2=false):s.2=false:=by
 cases q:s.2 with
 | false=>rfl
 | true=>rw[Ch q] at h;cases h
theorem Im {s:RS}(h:(aV s).2.2=false):s.2=false:=by
 cases q:s.2 with
 | false=>rfl
 | true=>rw[LU q] at h;cases h
theorem Zak {b:Str}{s:RS}{t:RT}(h:Alike b s t):Alike b (bS s).2 (ic b t).2/\((bS s).2.2=false->(bS s).1=(ic b t).1):=by
 obtain⟨a1,a2⟩:=ML h
 obtain⟨b1,b2⟩:=Az a1
 obtain⟨c1,c2⟩:=Az b1
 unfold bS ic
 refine⟨c1,fun q=>?_⟩
 have q1:=qd q
 have q2:=qd q1
 show Dat.mk _ _ _=Dat.mk _ _ _
 rw[a2 q2,b2 q1,c2 q]
theorem Ed {b:Str}{s:RS}{t:RT}(h:Alike b s t):s.2=t.2:=by
 obtain⟨_,⟨k1,k2,_⟩|⟨k1,k2⟩⟩:=h<;>rw[k1,k2]
theorem Lx : ∀ (k:Nat) (out:List Dat) (s:RS),s.2=true->(cO k out s).2.2=true
 | 0,_,_,h=>h
 | k+1,out,s,h=>by
  unfold cO;have:(bS s).2.2=true:=Ch (Ch (NN h));rw[X4 this];exact this
theorem BG {b:Str}:∀ (k:Nat) (out:List Dat) (t:RT),t.2=true->jd b k out t=(out,t)
 | 0,_,_,_=>rfl
 | k+1,out,t,h=>by unfold jd;rw[X4 h]
theorem MN {b:Str}:∀ (k:Nat) (out:List Dat) (s:RS) (t:RT),Alike b s t->s.2=false->Alike b (cO k out s).2 (jd b k out t).2/\((cO k out s).2.2=false->(cO k out s).1=(jd b k out t).1)
 | 0,out,s,t,h,_=>⟨h,fun _=>rfl⟩
 | k+1,out,s,t,h,hs=>by
  obtain⟨a1,a2⟩:=Zak h;have ht:t.2=false:=by rw[<- Ed h,hs]
  have er:jd b (k+1) out t=jd b k (out++[(ic b t).1]) (ic b t).2:=by rw[jd,XZ (by rw[ht];simp)]
  rw[er]
  cases q:(bS s).2.2 with
  | true =>
   have ep:cO (k+1) out s=(out,(bS s).2):=by rw[cO,X4 q]
   rw[ep,BG k _ _ (by rw[<- Ed a1,q])]
   exact⟨a1,fun q'=>by rw[show (out,(bS s).2).2.2=(bS s).2.2 from rfl,q] at q';cases q'⟩
  | false =>
   have ep:cO (k+1) out s=cO k (out++[(bS s).1]) (bS s).2:=by rw[cO,XZ (by rw[q];simp)]
   rw[ep,a2 q];exact MN k _ _ _ a1 q
theorem Zaj {b:Str}{s:RS}{t:RT}(h:Alike b s t):Alike b (fO s).2 (jc b t).2/\((fO s).2.2=false->(fO s).1=(jc b t).1):=by
 obtain⟨a1,a2⟩:=ML h
 obtain⟨b1,b2⟩:=Az a1
 obtain⟨c1,c2⟩:=Az b1
 obtain⟨d1,d2⟩:=MM c1
 cases q:(aV (ax (ax (aK s).2).2).2).2.2 with
 | false =>
  have q3:=Im q;have q2:=qd q3;have q1:=qd q2;obtain⟨e1,e2⟩:=MN (aV (ax (ax (aK s).2).2).2).1 [] _ _ d1 q;have e:=d2 q;rw[e] at e1 e2;refine⟨?_,fun q'=>?_⟩
  .
   simp only[fO,jc];rw[e];exact e1
  simp only[fO,jc] at q' ⊢;rw[e] at q' ⊢;rw[a2 q1,b2 q2,c2 q3,e2 q']
 | true =>
  have h1:=Lx (aV (ax (ax (aK s).2).2).2).1 [] _ q;have h2:(bg b (bz b (bz b (bJ b t).2).2).2).2.2=true:=by rw[<- Ed d1,q]
  simp only[fO,jc];rw[BG _ [] _ h2,h1];exact⟨⟨d1.1,.inr ⟨h1,h2⟩⟩,fun q'=>by cases q'⟩
theorem GG (x:Str):yC x=readF x:=by
 obtain⟨h0,h1⟩:=Zaj (b:=x) (s:=(x,false)) (t:=(0,false)) ⟨Yl _,.inl ⟨rfl,rfl,rfl⟩⟩
 unfold yC readF
 rcases h0 with⟨k0,⟨k1,k2,k3⟩|⟨k1,k2⟩⟩
 .
  rw[k1,k2,h1 k1,k3];have:decide ((jc x (0,false)).2.1≠x.length)=decide (0<(x.drop (jc x (0,false)).2.1).length):=ZI.2 (by simp;omega)
  rw[this]
 rw[k1,k2];rfl
def i64 (n:Int):Prop:=-9223372036854775808<=n/\n<=9223372036854775807
structure sQ (d:Dat):Prop where
 t:d.t.length<=255
 n:i64 d.n
 m:i64 d.m
structure Ei (s:RSet):Prop where
 name:s.name.length<=255
 ty:i64 s.ty
 life:i64 s.life
 len:s.data.length<=255
 dat : ∀ d∈s.data,sQ d
theorem Sb (l:Str):i64 (numOf l):=by
 unfold i64 numOf sN
 rw[IntKind.wrap_i64]
 omega
theorem CF {n:Nat}(h:n<=255):(eZ n).toNat=n:=by
 unfold eZ
 simp
 omega
theorem Ja (c:UInt8):eZ c.toNat=c:=by
 apply ZH.1
 rw[CF (by have:=c.toNat_lt;omega)]
theorem count_cons (c:UInt8) (r:Str):aV (c::r,false)=(c.toNat,(r,false)):=by
 have e:=gu (st:=(c::r,false)) (n:=1) rfl (by simp)
 rw[show ((1:Nat):Int)=1 from rfl] at e
 unfold aV
 rw[e]
 rfl
theorem E5 {t more:Str}(h:t.length<=255):aK (aQ t++more,false)=(t,(more,false)):=by
 unfold aK aQ
 rw[X0,count_cons]
 show aC ((eZ t.length).toNat:Nat) (t++more,false)=_
 rw[CF h,gu rfl (by simp)]
 simp
theorem yX {n:Int}{more:Str}(h:i64 n):ax (aT n++more,false)=(n,(more,false)):=by
 have e:=gu (st:=(aT n++more,false)) (n:=8) rfl (by simp[eu])
 rw[show ((8:Nat):Int)=8 from rfl] at e
 unfold ax
 rw[e]
 show (numOf ((aT n++more).take 8),((aT n++more).drop 8,false))=_
 rw[List.take_left' (eu n),List.drop_left' (eu n),Sc h]
theorem Wx {d:Dat}{more:Str}(h:sQ d):bS (fU d++more,false)=(d,(more,false)):=by
 unfold bS fU
 rw[Yw,Yw,E5 h.t,yX h.n,yX h.m]
theorem Lv : ∀ (l out:List Dat) (more:Str),(∀ d∈l,sQ d)->cO l.length out (l.flatMap fU++more,false)=(out++l,(more,false))
 | [],out,more,_=>by simp[cO]
 | d::l,out,more,h=>by
  have e:((d::l).flatMap fU++more)=fU d++(l.flatMap fU++more):=by simp
  rw[e,YN,cO,Wx (h d (by simp))]
  show (if false=true then _ else cO l.length (out++[d]) (l.flatMap fU++more,false))=_
  rw[XZ (by simp),Lv l _ more fun x hx=>h x (by simp[hx])]
  simp
theorem Pm {s:RSet}{more:Str}(h:Ei s):fO (setB s++more,false)=(s,(more,false)):=by
 unfold fO setB
 have e:aQ s.name++aT s.ty++aT s.life++eZ s.data.length::s.data.flatMap fU++more=aQ s.name++(aT s.ty++(aT s.life++(eZ s.data.length::(s.data.flatMap fU++more)))):=by simp
 rw[e]
 simp only[E5 h.name,yX h.ty,yX h.life,count_cons,CF h.len,Lv s.data [] more h.dat]
 rfl
theorem xI {n:Nat}{s:RS}(h:(aC n s).2.2=false):s.2=false/\n<=s.1.length:=by
 by_cases q:s.2=true\/(s.1.length:Int)<n
 .
  rw[gy q] at h;cases h
 have : ¬ s.2=true /\ ¬ (s.1.length:Int)<n:=not_or.1 q
 exact⟨by simpa using this.1,om⟩
theorem LP {s:RS}(h:(aV s).2.2=false):∃ c r,s=(c::r,false)/\aV s=(c.toNat,(r,false)):=by
 obtain⟨h1,h2⟩:=xI (n:=1) (s:=s) h
 obtain⟨l,b⟩:=s
 simp only at h1 h2
 subst h1
 cases l with
 | nil=>simp at h2
 | cons c r=>exact⟨c,r,rfl,count_cons c r⟩
theorem EZ {s:RS}(h:(aK s).2.2=false):s.1=aQ (aK s).1++(aK s).2.1/\(aK s).1.length<=255:=by
 have hc:(aV s).2.2=false:=(xI (n:=(aV s).1) (s:=(aV s).2) h).1
 obtain⟨c,r,rfl,e⟩:=LP hc
 have hl:=(xI (n:=(aV (c::r,false)).1) (s:=(aV (c::r,false)).2) h).2
 unfold aK
 rw[e] at hl ⊢
 have hl:c.toNat<=r.length:=hl
 have e2:aC (((c.toNat,(r,false)):Nat×RS).1:Nat) ((c.toNat,(r,false)):Nat×RS).2=(r.take c.toNat,(r.drop c.toNat,false)):=gu (st:=(r,false)) rfl hl
 rw[e2]
 have hcl:=c.toNat_lt
 refine⟨?_,by show (r.take c.toNat).length<=255;simp;omega⟩
 show c::r=eZ (r.take c.toNat).length::r.take c.toNat++r.drop c.toNat
 have:(r.take c.toNat).length=c.toNat:=by simp;omega
 rw[this,Ja]
 simp
theorem yV {s:RS}(h:(ax s).2.2=false):s.1=aT (ax s).1++(ax s).2.1/\i64 (ax s).1:=by
 obtain⟨h1,h2⟩:=xI (n:=8) (s:=s) h
 have e:=gu (n:=8) h1 h2
 rw[show ((8:Nat):Int)=8 from rfl] at e
 unfold ax
 rw[e]
 refine⟨?_,Sb _⟩
 show s.1=aT (numOf (s.1.take 8))++s.1.drop 8
 rw[D9 (by simp;omega),Ze]
theorem Ww {s:RS}(h:(bS s).2.2=false):s.1=fU (bS s).1++(bS s).2.1/\sQ (bS s).1:=by
 have q1:(ax (aK s).2).2.2=false:=qd h
 have q2:=qd q1
 obtain⟨a1,a2⟩:=EZ q2
 obtain⟨b1,b2⟩:=yV q1
 obtain⟨c1,c2⟩:=yV (s:=(ax (aK s).2).2) h
 refine⟨?_,⟨a2,b2,c2⟩⟩
 unfold bS fU
 rw[a1,b1,c1]
 simp
theorem Lu : ∀ (k:Nat) (out:List Dat) (s:RS),s.2=false->(cO k out s).2.2=false -> ∃ l,(cO k out s).1=out++l/\l.length=k/\s.1=l.flatMap fU++(cO k out s).2.1 /\ ∀ d∈l,sQ d
 | 0,out,s,_,_=>⟨[],by simp[cO]⟩
 | k+1,out,s,hs,h=>by
  unfold cO at h ⊢
  cases q:(bS s).2.2 with
  | true=>rw[q,X4 rfl,q] at h;cases h
  | false =>
   rw[q,XZ (by simp)] at h
   rw[XZ (by simp)]
   obtain⟨a1,a2⟩:=Ww q;obtain⟨l,b1,b2,b3,b4⟩:=Lu k _ _ q h;refine⟨(bS s).1::l,by rw[b1];simp,by simp[b2],by (rw[a1];(conv=>lhs;rw[b3]);simp),fun d hd=>?_⟩
   rcases YL.1 hd with e|e
   .
    subst e;exact a2
   exact b4 d e
theorem Pk {s:RS}(h:(fO s).2.2=false):s.1=setB (fO s).1++(fO s).2.1/\Ei (fO s).1:=by
 have hd:(cO (aV (ax (ax (aK s).2).2).2).1 [] (aV (ax (ax (aK s).2).2).2).2).2.2=false:=h
 have q4:(aV (ax (ax (aK s).2).2).2).2.2=false:=by
  cases q:(aV (ax (ax (aK s).2).2).2).2.2 with
  | false=>rfl
  | true=>rw[Lx _ _ _ q] at hd;cases hd
 have q3:=Im q4
 have q2:=qd q3
 have q1:=qd q2
 obtain⟨a1,a2⟩:=EZ q1
 obtain⟨b1,b2⟩:=yV q2
 obtain⟨c1,c2⟩:=yV q3
 obtain⟨c,r,d1,d2⟩:=LP q4
 obtain⟨l,e1,e2,e3,e4⟩:=Lu _ _ _ q4 hd
 have hcl:=c.toNat_lt
 have hl:l.length=c.toNat:=by rw[e2,d2]
 have hs:(fO s).1=⟨(aK s).1,(ax (aK s).2).1,(ax (ax (aK s).2).2).1,l⟩:=by
  show RSet.mk _ _ _ _=_
  rw[e1];rfl
 rw[hs]
 refine⟨?_,⟨a2,b2,c2,by show l.length<=255;omega,e4⟩⟩
 have e5:(fO s).2.1=(cO (aV (ax (ax (aK s).2).2).2).1 [] (aV (ax (ax (aK s).2).2).2).2).2.1:=rfl
 rw[e5,a1]
 conv=>lhs;rw[b1,c1,d1]
 have e6:r=(aV (ax (ax (aK s).2).2).2).2.1:=by rw[d2]
 show aQ _++(aT _++(aT _++c::r))=(aQ _++aT _++aT _++eZ l.length::l.flatMap fU)++_
 rw[hl,Ja,e6]
 conv=>lhs;rw[e3]
 simp
theorem NQ {k:Int}{t:Str}(h:pM k t=true):t.length<=60:=by
 unfold pM at h
 split at h
 .
  rw[XV] at h;exact dN h.1
 split at h
 .
  exact dN h
 split at h
 .
  unfold freeB at h
  split at h
  .
   cases h
  split at h
  .
   cases h
  omega
 rw[YG] at h;subst h;simp
theorem DI {k:Int}(hk:inR k 1 8=true) {d:Dat}(h:datOk (ed k.toNat) d=true):sQ d/\d.t.length<=60/\0<=d.n/\0<=d.m:=by
 unfold datOk at h
 simp only[XV,inR_iff] at h
 have ht:=NQ h.2
 have hn:=h.1.1.1
 have hm:=h.1.1.2
 refine⟨⟨om,?_,?_⟩,ht,?_,?_⟩<;>(try unfold i64)<;>rcases kinds hk with e|e|e|e|e|e|e|e<;>subst e<;>simp[ed] at hn hm<;>omega
theorem Pn {s:RSet}(h:nz s):Ei s:=by
 have h1:=dN h.name
 have h2:=inR_iff.1 h.ty
 have h3:=inR_iff.1 h.life
 refine⟨om,?_,?_,by have:=h.len;omega,fun d hd=>(DI h.ty (h.dat d hd)).1⟩<;>unfold i64<;>omega
def bytesF (s:RSet):Str×Int:=if setOk s then (setB s,0) else ([],1)
theorem QA {s:RSet}(h:nz s):readF (setB s)=(s,0):=by
 have e:=Pm (more:=[]) (Pn h)
 rw[Yy] at e
 unfold readF
 rw[e]
 simp[(eO s).2 h]
theorem Xd {x:Str}(h:(readF x).2=0):nz (readF x).1/\setB (readF x).1=x:=by
 unfold readF at h ⊢
 split at h
 .
  cases h
 rename_i q
 rw[XZ q]
 simp only[Yc,not_or,XW,Yd,Bool.not_eq_false] at q
 obtain⟨⟨q1,q2⟩,q3⟩:=q
 have q1:(fO (x,false)).2.2=false:=by simpa using q1
 obtain⟨h1,_⟩:=Pk q1
 have h2:(fO (x,false)).2.1=[]:=X5 om
 rw[h2,Yy] at h1
 exact⟨(eO _).1 q3,h1.symm⟩
def sameB (a b:RSet):Bool:=decide (a=b)
theorem UX {l:List Int}{n:Nat}(h:n<l.length):(l.map iR).getD n []=[.i l[n]!]:=by
 simp[List.getD,h,getElem!_pos,iR]
theorem oM {l:List Dat}{n:Nat}(h:n<l.length):(l.map Dat.d).getD n []=l[n]!.d:=by
 simp[List.getD,h,getElem!_pos]
theorem getD_set {l:List RSet}{n:Nat}(h:n<l.length):(l.map RSet.d).getD n []=l[n]!.d:=by
 simp[List.getD,h,getElem!_pos]
@[go_sem] theorem nrr_iR {l:List Int}:aR (l.map iR)=true:=by
 induction l with
 | nil=>rfl
 | cons x l ih=>simp only[X9,aR,ih];rfl
@[go_sem] theorem ui {l:List Dat}:aR (l.map Dat.d)=true:=by
 induction l with
 | nil=>rfl
 | cons x l ih=>simp only[X9,aR,ih];rfl
@[go_sem] theorem AU {l:List Dat}:bV (l.map Dat.d)=l.map Dat.d:=by
 induction l with
 | nil=>rfl
 | cons x l ih=>simp only[X9,bV,ih];rfl
theorem Br {s:RSet}(c1:(nameOk s.name=true/\inR s.ty 1 8=true)/\inR s.life 0 100000=true) (c2:inR s.data.length 1 8=true) (c3:((ed s.ty.toNat).single=false\/(s.data.length:Int)=1)/\(wildB s.name=false\/(ed s.ty.toNat).wild=true)):setOk s=av s.data.length (iQ s.ty.toNat s.data) 0:=by
 obtain⟨h1,h2⟩:=c3
 unfold setOk
 rw[c2,c1.1.1,c1.1.2,c1.2]
 rcases h1 with h1|h1<;>rcases h2 with h2|h2<;>simp[h1,h2]
theorem LA {l:List Dat}{t k:Nat}(h:datOk (ed t) l[k]! = true/\(¬ (0:Int)<k \/ ¬ 0<=datC l[k-1]! l[k]!)):iQ t l k=true:=by
 unfold iQ
 rw[XV,Yc,XW,XW]
 exact⟨h.1,h.2.imp (fun q=>by omega) fun q=>by omega⟩
theorem LB {l:List Dat}{t k:Nat}(h:datOk (ed t) l[k]! = false\/((0:Int)<k/\0<=datC l[k-1]! l[k]!)):iQ t l k=false:=by
 unfold iQ
 rw[Yz,Yh,X6,X6]
 exact h.imp id fun q=>⟨om,om⟩
theorem EG {k:Int}(w:Bool) (h:inR k 1 8=true):(((w&&(k != 1))&&(k != 5))&&(k != 8))=(w && !(ed k.toNat).wild):=by
 rw[<- Nu h,Z0,Z0,Z0]
theorem FT {s:RSet}(c1:(((nameOk s.name=true/\inR s.ty 1 8=true)/\inR s.life 0 100000=true)/\inR s.data.length 1 8=true)/\(singleB s.ty=false \/ ¬ (1:Int)<s.data.length)) (c2:wildB s.name=false\/(ed s.ty.toNat).wild=true):setOk s=av s.data.length (iQ s.ty.toNat s.data) 0:=by
 obtain⟨⟨⟨⟨h1,h2⟩,h3⟩,h4⟩,h5⟩:=c1
 refine Br ⟨⟨h1,h2⟩,h3⟩ h4 ⟨?_,c2⟩
 rw[FC h2] at h5
 have:=inR_iff.1 h4
 exact h5.imp id fun q=>by omega
theorem Pj {s:RSet}(c1:(((nameOk s.name=false\/inR s.ty 1 8=false)\/inR s.life 0 100000=false)\/inR s.data.length 1 8=false)\/(singleB s.ty=true/\(1:Int)<s.data.length)):setOk s=false:=by
 cases q:setOk s with
 | false=>rfl
 | true =>
  have h:=(eO s).1 q
  rcases c1 with (((c1|c1)|c1)|c1)|⟨c1,c2⟩
  .
   rw[h.name] at c1;cases c1
  .
   rw[h.ty] at c1;cases c1
  .
   rw[h.life] at c1;cases c1
  .
   have:=inR_iff.2 (show (1:Int)<=s.data.length/\(s.data.length:Int)<=8 by have:=h.len;omega)
   rw[this] at c1;cases c1
  rw[FC h.ty] at c1;have:=h.single c1;omega
theorem Pi {s:RSet}(c:wildB s.name=true/\(ed s.ty.toNat).wild=false):setOk s=false:=by
 cases q:setOk s with
 | false=>rfl
 | true =>
  have h:=((eO s).1 q).wild c.1;rw[c.2] at h;cases h
theorem Wt {l:List Dat}{t:Int}{k:Nat}(ht:inR t 1 8=true) (h:rDatOk t l[k]! = true/\(¬ (0:Int)<k\/less l[k-1]! l[k]! = true)):iQ t.toNat l k=true:=by
 rw[LC ht,I9] at h
 exact LA ⟨h.1,h.2.imp id fun q=>by have:=Zl q;omega⟩
theorem Wv {l:List Dat}{t:Int}{k:Nat}(ht:inR t 1 8=true) (h:rDatOk t l[k]! = false\/((0:Int)<k/\less l[k-1]! l[k]! = false)):iQ t.toNat l k=false:=by
 rw[LC ht,I9] at h
 exact LB (h.imp id fun q=>⟨q.1,by have:=of_decide_eq_false q.2;omega⟩)
theorem PX {a b:RSet}(h1:((a.name=b.name/\a.ty=b.ty)/\a.life=b.life)/\(a.data.length:Int)=b.data.length) (h2 : ∀ i,i<a.data.length->a.data[i]! = b.data[i]!):sameB a b=true:=by
 unfold sameB
 rw[XW]
 obtain⟨an,at',al,ad⟩:=a
 obtain⟨bn,bt,bl,bd⟩:=b
 simp only at h1 h2
 obtain⟨⟨⟨rfl,rfl⟩,rfl⟩,h3⟩:=h1
 congr 1
 refine List.ext_getElem om fun i hi hj=>?_
 have:=h2 i hi
 rwa [getElem!_pos ad i hi,getElem!_pos bd i hj] at this
theorem PY {a b:RSet}(h:((a.name≠b.name\/a.ty≠b.ty)\/a.life≠b.life)\/(a.data.length:Int)≠b.data.length):sameB a b=false:=by
 unfold sameB
 rw[X6]
 rintro rfl
 simp at h
theorem P5 {a b:RSet}{k:Nat}(h:a.data[k]! ≠ b.data[k]!):sameB a b=false:=by
 unfold sameB
 rw[X6]
 rintro rfl
 exact h rfl
theorem Wu {x y:Dat}(h:(!(x.t==y.t&&(x.n==y.n&&x.m==y.m)))=false):x=y:=by
 obtain⟨a,b,c⟩:=x
 obtain⟨d,e,f⟩:=y
 simp at h
 simp[h]
theorem Wy {x y:Dat}(h:(!(x.t==y.t&&(x.n==y.n&&x.m==y.m)))=true):x≠y:=by
 rintro rfl
 simp at h
@[go_sem] theorem ZaX {t:Str}{h:H}:rowsOf (.v (.string (bs t))) h=t.map bD:=by
 simp only[rowsOf,nk];rfl
@[go_sem] theorem Nq (n:Nat):IntKind.u8.wrap (n:Int)=((eZ n).toNat:Int):=by
 rw[IntKind.wrap_u8]
 simp[eZ]
theorem Ga (k:Nat):(ed k).even=true->0<=(ed k).n0:=by
 unfold ed
 split<;>simp
end Go.Rec
namespace Go.Cmp
variable {α : Type} [Inhabited α] {c : α -> α -> Int}
end Go.Cmp
namespace Go.Rec
open Go.DL Go.Str Go.Cmp
def keepD (y _:Dat):Dat:=y
def canon (l:List Dat):List Dat:=l.foldl (ins datC keepD) []
end Go.Rec
namespace Go.Zon
open Go.DL Go.Str Go.Rec
structure RSig where
 zone:Str
 key:Int
 alg:Int
 frm:Int
 unt:Int
 sum:Int
 deriving Inhabited,DecidableEq
structure Sgd where
 set:RSet
 sigs:List RSig
 deriving Inhabited,DecidableEq
structure Qst where
 name:Str
 ty:Int
 deriving Inhabited,DecidableEq
structure Zon where
 apex:Str
 sets:List Sgd
 deriving Inhabited,DecidableEq
def Sgd.q (s:Sgd):Qst:=⟨s.set.name,s.set.ty⟩
def RSig.d (x:RSig):List D:=[.v (.string (bs x.zone)),.i x.key,.i x.alg,.i x.frm,.i x.unt,.v (.int .u64 x.sum)]
def RSig.of:List D->RSig
 | [.v (.string s),.v (.int _ a),.v (.int _ b),.v (.int _ c),.v (.int _ d),.v (.int _ e)]=>⟨s.data.toList,a,b,c,d,e⟩
 | _=>default
def Sgd.d (x:Sgd):List D:=[.v (.string (bs x.set.name)),.i x.set.ty,.i x.set.life,.list false (x.set.data.map Dat.d),.list false (x.sigs.map RSig.d)]
def Sgd.of:List D->Sgd
 | [.v (.string s),.v (.int _ t),.v (.int _ l),.list _ rows,.list _ sigs]=>⟨⟨s.data.toList,t,l,rows.map Dat.of⟩,sigs.map RSig.of⟩
 | _=>default
def Qst.d (x:Qst):List D:=[.v (.string (bs x.name)),.i x.ty]
def Qst.of:List D->Qst
 | [.v (.string s),.v (.int _ t)]=>⟨s.data.toList,t⟩
 | _=>default
def Zon.d (x:Zon):List D:=[.v (.string (bs x.apex)),.list false (x.sets.map Sgd.d)]
def Zon.of:List D->Zon
 | [.v (.string s),.list _ rows]=>⟨s.data.toList,rows.map Sgd.of⟩
 | _=>default
structure Lay where
 z:Zon
 b:List Str
 deriving Inhabited,DecidableEq
def Lay.d (x:Lay):List D:=[.v (.string (bs x.z.apex)),.list false (x.z.sets.map Sgd.d),.list false (x.b.map sR)]
def Lay.of:List D->Lay
 | [.v (.string s),.list _ rows,.list _ b]=>⟨⟨s.data.toList,rows.map Sgd.of⟩,b.map Cg⟩
 | _=>default
def sgd1:D->Sgd:=nu Sgd.of default
def sgds1:D->List Sgd:=ul Sgd.of
def sigs1:D->List RSig:=ul RSig.of
def qst1:D->Qst:=nu Qst.of default
def qsts1:D->List Qst:=ul Qst.of
def zon1:D->Zon:=nu Zon.of default
def lay1:D->Lay:=nu Lay.of default
attribute [go_sem] RSig.d Sgd.d Qst.d Zon.d Lay.d
theorem Ip (x:RSig):RSig.of x.d=x:=by simp[RSig.of,RSig.d,nk]
theorem yR (x:Sgd):Sgd.of x.d=x:=by simp[Sgd.of,Sgd.d,nk,lM Ir,lM Ip]
theorem Iq (x:Qst):Qst.of x.d=x:=by simp[Qst.of,Qst.d,nk]
@[go_sem] theorem ZaV {f:Bool}{l:List Sgd}:sgds1 (.list f (l.map Sgd.d))=l:=lM yR l
@[go_sem] theorem ZaU {f:Bool}:sgds1 (.list f [])=[]:=rfl
@[go_sem] theorem ZaO {f:Bool}{l:List RSig}:sigs1 (.list f (l.map RSig.d))=l:=lM Ip l
@[go_sem] theorem ZaN {f:Bool}:sigs1 (.list f [])=[]:=rfl
@[go_sem] theorem Za1 {f:Bool}{l:List Qst}:qsts1 (.list f (l.map Qst.d))=l:=lM Iq l
@[go_sem] theorem Za0 {f:Bool}:qsts1 (.list f [])=[]:=rfl
@[go_sem] theorem sgd1_agg {s:ByteArray}{t l:Int}{k k':IntKind}{f f':Bool}{rows sigs:List (List D)}:sgd1 (.agg [.v (.string s),.v (.int k t),.v (.int k' l),.list f rows,.list f' sigs])=⟨⟨s.data.toList,t,l,dats1 (.list f rows)⟩,sigs1 (.list f' sigs)⟩:=rfl
@[go_sem] theorem qst1_agg {s:ByteArray}{t:Int}{k:IntKind}:qst1 (.agg [.v (.string s),.v (.int k t)])=⟨s.data.toList,t⟩:=rfl
@[go_sem] theorem zon1_agg {s:ByteArray}{f:Bool}{rows:List (List D)}:zon1 (.agg [.v (.string s),.list f rows])=⟨s.data.toList,sgds1 (.list f rows)⟩:=rfl
@[go_sem] theorem lay1_agg {s:ByteArray}{f f':Bool}{rows b:List (List D)}:lay1 (.agg [.v (.string s),.list f rows,.list f' b])=⟨⟨s.data.toList,sgds1 (.list f rows)⟩,Bf (.list f' b)⟩:=rfl
@[go_sem] theorem qst_eta {x:Qst}:(⟨x.name,x.ty⟩:Qst)=x:=rfl
@[go_sem] theorem set_eta {x:RSet}:(⟨x.name,x.ty,x.life,x.data⟩:RSet)=x:=rfl
@[go_sem] theorem dat_eta {x:Dat}:(⟨x.t,x.n,x.m⟩:Dat)=x:=rfl
@[go_sem] theorem sgd_eta {x:Sgd}:(⟨x.set,x.sigs⟩:Sgd)=x:=rfl
@[go_sem] theorem zon_eta {x:Zon}:(⟨x.apex,x.sets⟩:Zon)=x:=rfl
@[go_sem] theorem lay_eta {x:Lay}:(⟨x.z,x.b⟩:Lay)=x:=rfl
theorem JZ {α:Type}{f:α->List D}{l:List α}{n:Nat}(h:l.length<=n):(l.map f).getD n []=[]:=by
 simp[List.getD,h]
theorem bI {l:List Sgd}{n:Nat}(h:n<l.length):(l.map Sgd.d).getD n []=[.v (.string (bs l[n]!.set.name)),.i l[n]!.set.ty,.i l[n]!.set.life,.list false (l[n]!.set.data.map Dat.d),.list false (l[n]!.sigs.map RSig.d)]:=by
 simp[List.getD,h,Sgd.d,getElem!_pos]
theorem oG {l:List RSig}{n:Nat}(h:n<l.length):(l.map RSig.d).getD n []=[.v (.string (bs l[n]!.zone)),.i l[n]!.key,.i l[n]!.alg,.i l[n]!.frm,.i l[n]!.unt,.v (.int .u64 l[n]!.sum)]:=by
 simp[List.getD,h,RSig.d,getElem!_pos]
theorem sD {l:List Qst}{n:Nat}(h:n<l.length):(l.map Qst.d).getD n []=[.v (.string (bs l[n]!.name)),.i l[n]!.ty]:=by
 simp[List.getD,h,Qst.d,getElem!_pos]
@[go_sem] theorem vU {l:List RSig}:aR (l.map RSig.d)=true:=by
 induction l with
 | nil=>rfl
 | cons x l ih=>simp only[X9,aR,ih,RSig.d,aW,D.nr];rfl
@[go_sem] theorem AR {l:List RSig}:bV (l.map RSig.d)=l.map RSig.d:=by
 induction l with
 | nil=>rfl
 | cons x l ih=>simp only[X9,bV,ih,RSig.d,wk,bU]
@[go_sem] theorem ug {l:List Sgd}:aR (l.map Sgd.d)=true:=by
 induction l with
 | nil=>rfl
 | cons x l ih=>simp only[X9,aR,ih,Sgd.d,aW,D.nr,ui,vU];rfl
@[go_sem] theorem wkr_sgd {l:List Sgd}:bV (l.map Sgd.d)=l.map Sgd.d:=by
 induction l with
 | nil=>rfl
 | cons x l ih=>simp only[X9,bV,ih,Sgd.d,wk,bU,AU,AR]
@[go_sem] theorem IB {l:List Qst}:aR (l.map Qst.d)=true:=by
 induction l with
 | nil=>rfl
 | cons x l ih=>simp only[X9,aR,ih,Qst.d,aW,D.nr];rfl
@[go_sem] theorem wkr_qst {l:List Qst}:bV (l.map Qst.d)=l.map Qst.d:=by
 induction l with
 | nil=>rfl
 | cons x l ih=>simp only[X9,bV,ih,Qst.d,wk,bU]
@[go_sem] theorem all_sgd {l:List Sgd}:(∀ r∈l.map Sgd.d,r.length=5)=True:=by
 apply eq_true
 intro r hr
 obtain⟨x,_,rfl⟩:=Y2.1 hr
 rfl
@[go_sem] theorem all_sig {l:List RSig}:(∀ r∈l.map RSig.d,r.length=6)=True:=by
 apply eq_true
 intro r hr
 obtain⟨x,_,rfl⟩:=Y2.1 hr
 rfl
def hasSuf (s p:Str):Bool:=decide (p.length<=s.length)&&s.drop (s.length-p.length)==p
def under (s z:Str):Bool:=s==z||z==[46]||(decide (z.length<s.length)&&hasSuf s z&&decide ((s.getD (s.length-z.length-1) 0).toNat=46))
def underV (s z:Str):Bool:=nameOk s&&nameOk z&&under s z
def ou (l m:List Str) (i:Nat):Bool:=l[l.length-m.length+i]! == m[i]!
def inB (s z:Str):Bool:=decide ((partsOf z).length<=(partsOf s).length)&&av (partsOf z).length (ou (partsOf s) (partsOf z)) 0
def wild1 (s:Str):Bool:=decide (0<(partsOf s).length)&&(partsOf s)[0]! == [42]
theorem H7 (s:Str):(partsOf s).length<=s.length+1:=by
 unfold partsOf
 split
 .
  exact Yl _
 exact (xO s).2
def qC (a b:Qst):Int:=if a.name=b.name then cmpI a.ty b.ty else (if nameOk a.name&&nameOk b.name then nmCmp a.name b.name else 0)
def qOk (q:Qst):Bool:=nameOk q.name&&inR q.ty 1 8
def fits (t:Int) (apex:Bool):Bool:=if t=3\/t=6 then !apex else if t=4\/t=7 then apex else true
def gz (apex:Str) (l:List RSig) (i:Nat):Bool :=
 l[i]!.zone==apex&&inR l[i]!.key 1 1000000&&inR l[i]!.alg 1 3&&decide (0<=l[i]!.frm)&&decide (l[i]!.frm<=l[i]!.unt)&&decide (l[i]!.unt<=20000000) &&
 (decide (i=0)||(decide (l[i]!.frm=l[0]!.frm)&&decide (l[i]!.unt=l[0]!.unt)&&decide (l[i-1]!.key<l[i]!.key)))
def sigsOk (l:List RSig) (apex:Str):Bool:=decide (l.length<=6)&&av l.length (gz apex l) 0
def sameSgd (a b:Sgd):Bool:=decide (a=b)
def sameList (a b:List Sgd):Bool:=decide (a=b)
def sameZ (a b:Zon):Bool:=decide (a=b)
theorem Pe {a b:Sgd}(h1:a.set=b.set) (h2:a.sigs=b.sigs):a=b:=by cases a;cases b;simp_all
theorem zb! {α:Type}[Inhabited α] {a b:List α}(hl:a.length=b.length) (h : ∀ i,i<a.length->a[i]! = b[i]!):a=b:=by
 refine List.ext_getElem hl fun i h1 h2=>?_
 have:=h i h1
 rwa [getElem!_pos a i h1,getElem!_pos b i h2] at this
theorem gI {n k:Nat}{p:Nat->Bool}(h:n<=k):av n p k=true:=by rw[dR,XZ (by omega)]
theorem bT {n k:Nat}{p:Nat->Bool}(h:k<n) (hF:p k=false):av n p k=false:=by rw[dR,X4 h,hF];rfl
theorem aY {n k:Nat}{p:Nat->Bool}(h:k<n) (hF:p k=true):av n p k=av n p (k+1):=by rw[dR,X4 h,hF];rfl
def jq (c:Nat->Int) (i j:Nat):Nat:=if i<j then (if c ((i+j) / 2)<0 then jq c ((i+j) / 2+1) j else jq c i ((i+j) / 2)) else i
termination_by j-i
theorem uK (c:Nat->Int) (i j:Nat):jq c i j=if i<j then (if c ((i+j) / 2)<0 then jq c ((i+j) / 2+1) j else jq c i ((i+j) / 2)) else i:=by rw[jq]
theorem Xk (c:Nat->Int):∀ (n i j:Nat),j-i<=n->i<=j->jq c i j<=j/\i<=jq c i j:=by
 intro n
 induction n with
 | zero=>intro i j h1 h2;rw[uK,XZ (by omega)];omega
 | succ n ih =>
  intro i j h1 h2;rw[uK]
  split
  .
   split
   .
    have:=ih ((i+j) / 2+1) j om om;omega
   have:=ih i ((i+j) / 2) om om;omega
  omega
def findIx (l:List Sgd) (q:Qst):Nat:=jq (fun k=>qC l[k]!.q q) 0 l.length
def findOk (l:List Sgd) (q:Qst):Bool:=decide (findIx l q<l.length)&&qC l[findIx l q]!.q q==0
theorem SH {i j:Nat}(h:i+j<=9223372036854775807):IntKind.i64.wrap ((IntKind.u64.wrap ((i:Int)+j)).fdiv (2^(min 1 64)))=(((i+j) / 2:Nat):Int):=by
 have e:IntKind.u64.wrap ((i:Int)+j)=(i:Int)+j:=by rw[IntKind.wrap_u64];omega
 have e2:((2:Int)^(min 1 64))=2:=rfl
 rw[e,e2,Int.fdiv_eq_ediv_of_nonneg _ (by omega),IntKind.wrap_i64]
 omega
def lS (m:List Str):List D:=m.flatMap fun s=>[.v (.string (bs s)),.b true]
def iw (m:List Str) (n:Str):Bool:=decide (n∈m)
def mg (m:List Str) (n:Str):List Str:=if iw m n then m else m++[n]
theorem rW (s:Str) (m:List Str):lS (s::m) = .v (.string (bs s)) :: .b true::lS m:=rfl
theorem Jp {a b:Str}:iL (.v (.string (bs a))) (.v (.string (bs b)))=(a==b):=by simp[iL,iP,nk]
@[go_sem] theorem kvT_nil:lS []=[]:=rfl
@[go_sem] theorem Sd {m:List Str}:aW (lS m)=true:=by
 induction m with
 | nil=>rfl
 | cons s m ih=>rw[rW];simp only[aW,ih];rfl
@[go_sem] theorem wks_kvT {m:List Str}:bU (lS m)=lS m:=by
 induction m with
 | nil=>rfl
 | cons s m ih=>rw[rW];simp only[bU,ih];rfl
@[go_sem] theorem kvGetD_T {m:List Str}{n:Str}:(gB (lS m) (.v (.string (bs n)))).getD (.v (.bool false)) = .v (.bool (iw m n)):=by
 induction m with
 | nil=>rfl
 | cons s m ih =>
  rw[rW];simp only[gB,Jp]
  by_cases h:n=s
  .
   subst h;simp[iw]
  .
   have:(n==s)=false:=by simp[h]
   rw[this];simp only[Yo,Y8,ih,iw,YL,h,false_or]
@[go_sem] theorem kvSet_T {m:List Str}{n:Str}:fG (lS m) (.v (.string (bs n))) (.v (.bool true))=lS (mg m n):=by
 induction m with
 | nil=>rfl
 | cons s m ih =>
  rw[rW];simp only[fG,Jp]
  by_cases h:n=s
  .
   subst h;have:mg (n::m) n=n::m:=by simp[mg,iw]
   rw[this,rW]
   simp
  .
   have h1:(n==s)=false:=by simp[h]
   rw[h1,ih];have h2:mg (s::m) n=s::mg m n:=by
    unfold mg iw
    by_cases q:n∈m<;>simp[h,q]
   rw[h2,rW];rfl
def iJ (apex:Str) (l:List Sgd) (i:Nat):Bool:=setOk l[i]!.set&&underV l[i]!.set.name apex&&(decide (i=0)||decide (qC l[i-1]!.q l[i]!.q<0))
def ordered (z:Zon):Bool:=nameOk z.apex && !wildB z.apex&&decide (z.sets.length<=20000)&&av z.sets.length (iJ z.apex z.sets) 0
def jO (apex:Str) (l:List Sgd) (i:Nat):Bool:=fits l[i]!.set.ty (l[i]!.set.name==apex)
def iU (z:Zon) (i:Nat):Bool:=findOk z.sets ⟨z.apex,if i=0 then 4 else 2⟩
def apexHolds (z:Zon):Bool:=av 2 (iU z) 0&&av z.sets.length (jO z.apex z.sets) 0
def bP (z:Zon):Nat->List Str
 | 0=>[]
 | k+1=>if z.sets[k]!.set.ty=2/\z.sets[k]!.set.name≠z.apex then mg (bP z k) z.sets[k]!.set.name else bP z k
def stepC (m:List Str) (cut n:Str):Str :=
 let c:=if cut≠[]/\underV n cut=false then [] else cut
 if c=[]/\iw m n=true then n else c
def bM (m:List Str) (l:List Sgd):Nat->List Str×Str
 | 0=>([],[])
 | k+1=>let c:=stepC m (bM m l k).2 l[k]!.set.name;((bM m l k).1++[c],c)
def uM (z:Zon):List Str:=(bM (bP z z.sets.length) z.sets z.sets.length).1
theorem LD {z:Zon}{k:Nat}(h:z.sets[k]!.set.ty=2 /\ ¬ z.sets[k]!.set.name=z.apex):bP z (k+1)=mg (bP z k) z.sets[k]!.set.name:=X4 h
theorem LF {z:Zon}{k:Nat}(h : ¬ (z.sets[k]!.set.ty=2 /\ ¬ z.sets[k]!.set.name=z.apex)):bP z (k+1)=bP z k:=XZ h
theorem qU (m:List Str) (l:List Sgd):∀ k,(bM m l k).1.length=k
 | 0=>rfl
 | k+1=>by simp[bM,qU m l k]
def jE (m:List Str) (l:List Sgd) (n k:Nat):List Str:=(bM m l k).1++List.replicate (n-k) []
theorem Bz {m:List Str}{l:List Sgd}{n k:Nat}(h:k<=n):(jE m l n k).length=n:=by simp[jE,qU];omega
theorem Qo {m:List Str}{l:List Sgd}{n k:Nat}{c:Str}(h:k<n) (hc:c=(bM m l (k+1)).2):(jE m l n k).set k c=jE m l n (k+1):=by
 have e:n-k=(n-(k+1))+1:=by omega
 unfold jE
 rw[e,List.replicate_succ,List.set_append_right _ _ (by rw[qU];exact XX _),qU,YC,YF]
 have:(bM m l (k+1)).1=(bM m l k).1++[c]:=by rw[hc];rfl
 rw[this,Yw]
 rfl
@[go_sem] theorem rowsB_0 {m:List Str}{l:List Sgd}{n:Nat}:(jE m l n 0).map sR=List.replicate n [.v (.string (bs []))]:=by simp[jE,bM,sR]
theorem tO {m:List Str}{l:List Sgd}{n k:Nat}{c:Str}(h:k<n) (hc:(bM m l (k+1)).2=c):((jE m l n k).map sR).set k [.v (.string (bs c))]=(jE m l n (k+1)).map sR:=by
 rw[<- Qo h hc.symm,List.map_set];rfl
@[go_sem] theorem cutsTo_0 {z:Zon}:bP z 0=[]:=rfl
theorem Qp (m:List Str) (l:List Sgd) (n:Nat):jE m l n n=(bM m l n).1:=by simp[jE]
def layOf (z:Zon):Lay:=⟨z,uM z⟩
def iE (l:List Sgd) (i:Nat):Bool:=!decide (l[i]!.set.ty=3)||(!(decide (0<i)&&l[i-1]!.set.name==l[i]!.set.name) && !(decide (i+1<l.length)&&l[i+1]!.set.name==l[i]!.set.name && !decide (l[i+1]!.set.ty=8)))
def aliasB (x:Lay):Bool:=av x.z.sets.length (iE x.z.sets) 0
def cutAt (x:Lay) (i:Nat):Bool:=let t:=x.z.sets[i]!.set.ty
 if x.b[i]! = [] then !decide (t=6) else if x.b[i]! = x.z.sets[i]!.set.name then decide (t=2)||decide (t=6)||decide (t=8)||decide (t=1) else decide (t=1)
def cutB (x:Lay):Bool:=av x.z.sets.length (cutAt x) 0
def mO (x:Lay) (i:Nat):Bool:=!(!(x.b[i]! == [])&&(decide (x.z.sets[i]!.set.ty=2)||decide (x.z.sets[i]!.set.ty=1))&&decide (0<x.z.sets[i]!.sigs.length))
def glueB (x:Lay):Bool:=av x.z.sets.length (mO x) 0
def kz (z:Zon) (i:Nat):Bool:=sigsOk z.sets[i]!.sigs z.apex
def formB (x:Lay):Bool:=av x.z.sets.length (kz x.z) 0
def zoneOk (z:Zon):Bool:=ordered z&&apexHolds z&&aliasB (layOf z)&&cutB (layOf z)&&glueB (layOf z)&&formB (layOf z)
theorem wZ (z:Zon):(layOf z).b.length=(layOf z).z.sets.length:=qU _ _ _
theorem Cc {z:Zon}(h:ordered z=true):z.sets.length<=1000000:=by
 simp only[ordered,XV,XW] at h
 omega
theorem R5 {z:Zon}(h:zoneOk z=true):z.sets.length<=1000000:=by
 simp only[zoneOk,XV] at h
 exact Cc h.1.1.1.1.1
theorem Ou {z:Zon}(h:zoneOk z=true):findIx z.sets ⟨z.apex,4⟩<z.sets.length/\0<z.sets[findIx z.sets ⟨z.apex,4⟩]!.set.data.length:=by
 simp only[zoneOk,XV] at h
 obtain⟨⟨⟨⟨⟨h1,h2⟩,_⟩,_⟩,_⟩,_⟩:=h
 simp only[apexHolds,XV] at h2
 have h3:=(dJ _ _ _).1 h2.1 0 (XX _) (by omega)
 simp only[iU,ZL,findOk,XV,XW] at h3
 refine⟨h3.1,?_⟩
 simp only[ordered,XV] at h1
 have h4:=(dJ _ _ _).1 h1.2 _ (Yl _) h3.1
 simp only[iJ,XV] at h4
 have:=((eO _).1 h4.1.1).len
 omega
def serialOf (z:Zon):Int:=z.sets[findIx z.sets ⟨z.apex,4⟩]!.set.data[0]!.n
end Go.Zon
namespace Go.Zon
open Go.DL Go.Str Go.Rec Go.Cmp
end Go.Zon
namespace Go.Zon
open Go.DL Go.Str Go.Rec Go.Cmp
def sG (x:Sgd):Prop:=x.set.data.length<=100000/\x.sigs.length<=100000
def dY (l:List Sgd):Prop:=l.length<=1000000 /\ ∀ k,k<l.length->sG l[k]!
def kX (z:Zon):Prop:=z.sets.length<=1000000 /\ ∀ k,k<z.sets.length->z.sets[k]!.set.name.length<=1000
theorem O5 {a b:Sgd}(h1:a.set=b.set) (hl:a.sigs.length=b.sigs.length) (h : ∀ i,i<a.sigs.length->a.sigs[i]! = b.sigs[i]!):sameSgd a b=true :=
 YX (Pe h1 (zb! hl h))
theorem O8 {a b:Sgd}(h : ¬ (a.set=b.set/\a.sigs.length=b.sigs.length)):sameSgd a b=false :=
 YE fun e=>h ⟨by rw[e],by rw[e]⟩
theorem O7 {a b:Sgd}{k:Nat}(h:a.sigs[k]! ≠ b.sigs[k]!):sameSgd a b=false :=
 YE fun e=>h (by rw[e])
theorem O6 {a b:List Sgd}{k:Nat}(h:sameSgd a[k]! b[k]! = false):sameList a b=false :=
 YE fun e=>(of_decide_eq_false h) (by rw[e])
theorem O3 {a b:List Sgd}(hl:a.length=b.length) (h : ∀ i,i<a.length->sameSgd a[i]! b[i]! = true):sameList a b=true :=
 YX (zb! hl fun i hi=>Zl (h i hi))
theorem O4 {a b:List Sgd}(h:a.length≠b.length):sameList a b=false:=YE fun e=>h (by rw[e])
theorem PV (a b:Zon):sameZ a b=(a.apex==b.apex&&sameList a.sets b.sets):=by
 cases a;cases b
 rw[Zb]
 simp[sameZ,sameList]
def lL (apex:Str) (l:List Sgd) (i:Nat):Bool:=setOk l[i]!.set&&inB l[i]!.set.name apex&&(decide (i=0)||decide (rOrd l[i-1]!.set l[i]!.set<0))
def oneB (z:Zon):Bool:=nameOk z.apex && !wild1 z.apex&&decide (z.sets.length<=20000)&&av z.sets.length (lL z.apex z.sets) 0
theorem qc {z:Zon}(h:oneB z=true):kX z:=by
 simp only[oneB,XV,XW] at h
 refine⟨om,fun k hk=>?_⟩
 have:=(dJ _ _ _).1 h.2 k (Yl _) hk
 simp only[lL,XV] at this
 have:=dN ((eO _).1 this.1.1).name
 omega
theorem FU {s:RSet}(h:setOk s=true):s.name.length<=1000:=by
 have:=dN ((eO _).1 h).name
 omega
def ku (l:List Sgd) (q:Qst) (k:Nat):Int:=if k<l.length then (if l[k]!.q=q then (k:Int) else ku l q (k+1)) else -1
termination_by l.length-k
theorem mH (l:List Sgd) (q:Qst) (k:Nat):ku l q k=if k<l.length then (if l[k]!.q=q then (k:Int) else ku l q (k+1)) else -1:=by rw[ku]
def atF (l:List Sgd) (q:Qst):Int:=ku l q 0
theorem Ua (l:List Sgd) (q:Qst):∀ n k,l.length-k<=n->ku l q k<l.length/\(0<=ku l q k->l[(ku l q k).toNat]!.q=q):=by
 intro n
 induction n with
 | zero=>intro k h;rw[mH,XZ (by omega)];exact⟨om,fun h=>by omega⟩
 | succ n ih =>
  intro k h;rw[mH]
  split
  .
   split
   .
    rename_i h1 h2
    exact⟨om,fun _=>by simpa using h2⟩
   exact ih (k+1) om
  exact⟨om,fun h=>by omega⟩
theorem MC (l:List Sgd) (q:Qst):atF l q<l.length:=(Ua l q _ 0 (XX _)).1
def twoB (z:Zon):Bool:=decide (0<=atF z.sets ⟨z.apex,4⟩)&&decide (0<=atF z.sets ⟨z.apex,2⟩)&&av z.sets.length (jO z.apex z.sets) 0
def eT (l:List Sgd):Nat->Str
 | 0=>[]
 | k+1=>if l[k]!.set.ty=3 then l[k]!.set.name else eT l k
def gU (l:List Sgd) (i:Nat):Str:=if 0<i/\l[i-1]!.set.name=l[i]!.set.name then l[i]!.set.name else []
def fZ (l:List Sgd) (i:Nat):Bool:=!((!(gU l i==[])&&decide (l[i]!.set.ty=3))||(!(gU l i==[])&&(gU l i==eT l (i+1)) && !decide (l[i]!.set.ty=3) && !decide (l[i]!.set.ty=8)))
def threeB (z:Zon):Bool:=av z.sets.length (fZ z.sets) 0
def iC (z:Zon):Nat->List Str
 | 0=>[]
 | k+1=>if z.sets[k]!.set.ty=2/\z.sets[k]!.set.name≠z.apex then iC z k++[z.sets[k]!.set.name] else iC z k
def cutsF (z:Zon):List Str:=iC z z.sets.length
def bA (cs:List Str):Nat->List Str
 | 0=>[]
 | k+1=>if bA cs k=[]\/inB cs[k]! (bA cs k)[(bA cs k).length-1]! = false then bA cs k++[cs[k]!] else bA cs k
def highF (z:Zon):List Str:=bA (cutsF z) (cutsF z).length
def jU (hs:List Str) (n:Str) (i:Nat):Nat:=if i<hs.length then (if nmOrd hs[i]! n<=0 then jU hs n (i+1) else i) else i
termination_by hs.length-i
theorem qW (hs:List Str) (n:Str) (i:Nat):jU hs n i=if i<hs.length then (if nmOrd hs[i]! n<=0 then jU hs n (i+1) else i) else i:=by rw[jU]
theorem Zap (hs:List Str) (n:Str):∀ m i,hs.length-i<=m->i<=hs.length->i<=jU hs n i/\jU hs n i<=hs.length:=by
 intro m
 induction m with
 | zero=>intro i h h2;rw[qW,XZ (by omega)];omega
 | succ m ih =>
  intro i h h2;rw[qW]
  split
  .
   split
   .
    have:=ih (i+1) om om;omega
   omega
  omega
def eQ (hs:List Str) (n:Str) (j:Nat):Str:=if 0<j/\inB n hs[j-1]! = true then hs[j-1]! else []
def eG (hs:List Str) (l:List Sgd):Nat->Nat
 | 0=>0
 | k+1=>jU hs l[k]!.set.name (eG hs l k)
def iT (hs:List Str) (l:List Sgd):Nat->List Str
 | 0=>[]
 | k+1=>iT hs l k++[eQ hs l[k]!.set.name (eG hs l (k+1))]
def behR (z:Zon):List Str:=iT (highF z) z.sets z.sets.length
theorem o8 (hs:List Str) (l:List Sgd):∀ k,(iT hs l k).length=k
 | 0=>rfl
 | k+1=>by simp[iT,o8 hs l k]
def gT (hs:List Str) (l:List Sgd) (n k:Nat):List Str:=iT hs l k++List.replicate (n-k) []
theorem Bu {hs:List Str}{l:List Sgd}{n k:Nat}(h:k<=n):(gT hs l n k).length=n:=by simp[gT,o8];omega
theorem Ql {hs:List Str}{l:List Sgd}{n k:Nat}{c:Str}(h:k<n) (hc:eQ hs l[k]!.set.name (eG hs l (k+1))=c):(gT hs l n k).set k c=gT hs l n (k+1):=by
 have e:n-k=(n-(k+1))+1:=by omega
 unfold gT
 rw[e,List.replicate_succ,List.set_append_right _ _ (by rw[o8];exact XX _),o8,YC,YF,<- hc]
 have:iT hs l (k+1)=iT hs l k++[eQ hs l[k]!.set.name (eG hs l (k+1))]:=rfl
 rw[this,Yw]
 rfl
theorem yn {hs:List Str}{l:List Sgd}{n k:Nat}{c:Str}(h:k<n) (hc:eQ hs l[k]!.set.name (eG hs l (k+1))=c):((gT hs l n k).map sR).set k [.v (.string (bs c))]=(gT hs l n (k+1)).map sR:=by
 rw[<- Ql h hc,List.map_set];rfl
theorem yo {hs:List Str}{l:List Sgd}{n k:Nat}(h:k<n) (hc:eQ hs l[k]!.set.name (eG hs l (k+1))=[]):gT hs l n (k+1)=gT hs l n k:=by
 have e:n-k=(n-(k+1))+1:=by omega
 have:iT hs l (k+1)=iT hs l k++[eQ hs l[k]!.set.name (eG hs l (k+1))]:=rfl
 unfold gT
 rw[e,List.replicate_succ,this,hc,Yw]
 rfl
@[go_sem] theorem rowsR_0 {hs:List Str}{l:List Sgd}{n:Nat}:(gT hs l n 0).map sR=List.replicate n [.v (.string (bs []))]:=by simp[gT,iT,sR]
theorem Qm (hs:List Str) (l:List Sgd) (n:Nat):gT hs l n n=iT hs l n:=by simp[gT]
def fourB (z:Zon):Bool:=cutB ⟨z,behR z⟩
def nQ (x:Lay) (i:Nat):Bool:=x.b[i]! == []||(!decide (x.z.sets[i]!.set.ty=2) && !decide (x.z.sets[i]!.set.ty=1))
def kU (x:Lay):Nat->List Bool
 | 0=>[]
 | k+1=>kU x k++[nQ x k]
def ownF (z:Zon):List Bool:=kU ⟨z,behR z⟩ z.sets.length
theorem rG (x:Lay):∀ k,(kU x k).length=k
 | 0=>rfl
 | k+1=>by simp[kU,rG x k]
theorem RN (x:Lay):∀ n k,k<n->(kU x n)[k]! = nQ x k:=by
 intro n
 induction n with
 | zero=>intro k h;omega
 | succ n ih =>
  intro k h;have hl:=rG x n
  by_cases e:k=n
  .
   subst e;simp[kU,hl]
  have hk:k<n:=by omega
  rw[<- ih k hk];simp only[kU];rw[getElem!_pos _ _ (by simp[hl];omega),getElem!_pos _ _ (by omega),List.getElem_append_left]
def bR (b:Bool):List D:=[.b b]
def jD (x:Lay) (n k:Nat):List Bool:=kU x k++List.replicate (n-k) false
theorem Bw {x:Lay}{n k:Nat}(h:k<=n):(jD x n k).length=n:=by simp[jD,rG];omega
theorem Bv {x:Lay}{n k:Nat}{c:Bool}(h:k<n) (hc:nQ x k=c):((jD x n k).map bR).set k [.b c]=(jD x n (k+1)).map bR:=by
 have e:n-k=(n-(k+1))+1:=by omega
 have:kU x (k+1)=kU x k++[c]:=by rw[<- hc];rfl
 have e2:(jD x n k).set k c=jD x n (k+1):=by
  unfold jD;rw[e,List.replicate_succ,List.set_append_right _ _ (by rw[rG];exact XX _),rG,YC,YF,this,Yw]
  rfl
 rw[<- e2,List.map_set];rfl
@[go_sem] theorem rowsO_0 {x:Lay}{n:Nat}:(jD x n 0).map bR=List.replicate n [.b false]:=by simp[jD,kU,bR]
theorem Qn (x:Lay) (n:Nat):jD x n n=kU x n:=by simp[jD]
@[go_sem] theorem nrr_bR {l:List Bool}:aR (l.map bR)=true:=by
 induction l with
 | nil=>rfl
 | cons x l ih=>simp only[X9,aR,ih,bR,aW];rfl
@[go_sem] theorem wkr_bR {l:List Bool}:bV (l.map bR)=l.map bR:=by
 induction l with
 | nil=>rfl
 | cons x l ih=>simp only[X9,bV,ih,bR,bU];rfl
theorem J2 {l:List Bool}{n:Nat}(h:n<l.length):(l.map bR).getD n []=[.b l[n]!]:=by
 simp[List.getD,h,bR,getElem!_pos]
def oU (x:Lay) (i:Nat):Bool:=kz x.z i&&mO x i
def fiveB (z:Zon):Bool:=av z.sets.length (oU ⟨z,behR z⟩) 0
def refOk (z:Zon):Bool:=oneB z&&twoB z&&threeB z&&fourB z&&fiveB z
def serialR (z:Zon):Int:=z.sets[(atF z.sets ⟨z.apex,4⟩).toNat]!.set.data[0]!.n
def fewZ (z:Zon):Bool:=decide (z.sets.length<=100)&&av z.sets.length (fun i=>decide (z.sets[i]!.set.data.length<=20)&&decide (z.sets[i]!.sigs.length<=20)) 0
structure Dlt where
 apex:Str
 frm:Int
 too:Int
 drop:List Qst
 put:List Sgd
 deriving Inhabited,DecidableEq
def Dlt.d (x:Dlt):List D:=[.v (.string (bs x.apex)),.i x.frm,.i x.too,.list false (x.drop.map Qst.d),.list false (x.put.map Sgd.d)]
def Dlt.of:List D->Dlt
 | [.v (.string s),.v (.int _ a),.v (.int _ b),.list _ q,.list _ r]=>⟨s.data.toList,a,b,q.map Qst.of,r.map Sgd.of⟩
 | _=>default
def dlt1:D->Dlt:=nu Dlt.of default
attribute [go_sem] Dlt.d
@[go_sem] theorem dlt1_agg {s:ByteArray}{a b:Int}{k k':IntKind}{f f':Bool}{q r:List (List D)}:dlt1 (.agg [.v (.string s),.v (.int k a),.v (.int k' b),.list f q,.list f' r])=⟨s.data.toList,a,b,qsts1 (.list f q),sgds1 (.list f' r)⟩:=rfl
@[go_sem] theorem dlt_eta {x:Dlt}:(⟨x.apex,x.frm,x.too,x.drop,x.put⟩:Dlt)=x:=rfl
def serB (x:Int):Bool:=decide (0<=x)&&decide (x<65536)
def befB (a b:Int):Bool:=decide (1<=(b-a+65536) % 65536)&&decide ((b-a+65536) % 65536<=32767)
def qO (a b:Qst):Int:=rOrd ⟨a.name,a.ty,0,[]⟩ ⟨b.name,b.ty,0,[]⟩
def askB (l:List Qst) (q:Qst):Bool:=decide (q∈l)
theorem XL {l:List Qst}{q:Qst}{k:Nat}(hk:k<l.length) (h:l[k]! = q):askB l q=true:=by
 rw[getElem!_pos l k hk] at h
 exact YX (h ▸ YD hk)
theorem XM {l:List Qst}{q:Qst}(h : ∀ i,i<l.length->l[i]! ≠ q):askB l q=false:=by
 refine YE fun hm=>?_
 obtain⟨i,hi,e⟩:=Zf hm
 exact h i hi (by rw[getElem!_pos l i hi,e])
def di {α:Type}[Inhabited α] (gt:α->Bool) (l:List α) (s:α):Nat->List α×Bool
 | 0=>([],false)
 | k+1=>if (di gt l s k).2=false/\gt l[k]! = true then ((di gt l s k).1++[s]++[l[k]!],true) else ((di gt l s k).1++[l[k]!],(di gt l s k).2)
def oq {α:Type}[Inhabited α] (gt:α->Bool) (l:List α) (s:α):List α:=if (di gt l s l.length).2=false then (di gt l s l.length).1++[s] else (di gt l s l.length).1
theorem CY {α:Type}[Inhabited α] (gt:α->Bool) (l:List α) (s:α):∀ k,(di gt l s k).1.length=k+(if (di gt l s k).2 then 1 else 0)
 | 0=>rfl
 | k+1=>by
  have ih:=CY gt l s k;simp only[di]
  split
  .
   rename_i h;rw[h.1] at ih;simp at ih;simp;omega
  simp only[XY,ih];simp;omega
theorem JF {α:Type}[Inhabited α] {gt:α->Bool}{l:List α}{s:α}{k:Nat}(h:(di gt l s k).2=false/\gt l[k]! = true):di gt l s (k+1)=((di gt l s k).1++[s]++[l[k]!],true):=X4 h
theorem JH {α:Type}[Inhabited α] {gt:α->Bool}{l:List α}{s:α}{k:Nat}(h : ¬ ((di gt l s k).2=false/\gt l[k]! = true)):di gt l s (k+1)=((di gt l s k).1++[l[k]!],(di gt l s k).2):=XZ h
def sortedF (l:List Sgd) (s:Sgd):List Sgd:=oq (fun x=>decide (0<qO x.q s.q)) l s
def lm (l:List Qst) (i:Nat):Bool:=qOk l[i]! && (decide (i=0)||decide (qO l[i-1]! l[i]! < 0))
def putAt (d:Dlt) (i:Nat):Bool:=setOk d.put[i]!.set&&(decide (i=0)||decide (qO d.put[i-1]!.q d.put[i]!.q<0)) && !askB d.drop d.put[i]!.q
def dltOk (d:Dlt):Bool:=nameOk d.apex && !wildB d.apex&&serB d.frm&&serB d.too&&befB d.frm d.too&&decide (d.drop.length<=20000)&&decide (d.put.length<=20000)&&av d.drop.length (lm d.drop) 0&&av d.put.length (putAt d) 0
def fewD (d:Dlt):Bool:=av (min d.put.length 50) (fun i=>decide (d.put[i]!.sigs.length<=10)&&decide (d.put[i]!.set.data.length<=20)) 0&&decide (d.drop.length<=50)&&decide (d.put.length<=50)
theorem yz {z:Zon}(h:refOk z=true):oneB z=true/\twoB z=true/\threeB z=true/\fourB z=true/\fiveB z=true:=by
 simp only[refOk,XV] at h
 exact⟨h.1.1.1.1,h.1.1.1.2,h.1.1.2,h.1.2,h.2⟩
theorem Gv {z:Zon}(h:refOk z=true) {k:Nat}(hk:k<z.sets.length):nz z.sets[k]!.set:=by
 have h1:=(yz h).1
 simp only[oneB,XV] at h1
 have:=(dJ _ _ _).1 h1.2 k (Yl _) hk
 simp only[lL,XV] at this
 exact (eO _).1 this.1.1
theorem vL {z:Zon}(h:refOk z=true):z.sets.length<=20000:=by
 have h1:=(yz h).1
 simp only[oneB,XV,XW] at h1
 exact h1.1.2
theorem Qv {z:Zon}(h:refOk z=true) {k:Nat}(hk:k<z.sets.length):z.sets[k]!.sigs.length<=6:=by
 have h1:=(yz h).2.2.2.2
 simp only[fiveB] at h1
 have:=(dJ _ _ _).1 h1 k (Yl _) hk
 simp only[oU,kz,sigsOk,XV,XW] at this
 exact this.1.1
theorem Qw {z:Zon}(h:refOk z=true):dY z.sets:=by
 have hl:=vL h
 refine⟨om,fun k hk=>⟨?_,?_⟩⟩
 .
  have:=(Gv h hk).len;omega
 have:=Qv h hk;omega
theorem vK {z:Zon}(h:refOk z=true):0<=atF z.sets ⟨z.apex,4⟩:=by
 have h1:=(yz h).2.1
 simp only[twoB,XV,XW] at h1
 exact h1.1.1
theorem Qu {z:Zon}(h:refOk z=true):(atF z.sets ⟨z.apex,4⟩).toNat<z.sets.length:=by
 have:=vK h
 have:=MC z.sets ⟨z.apex,4⟩
 omega
theorem BD {z:Zon}(h:refOk z=true):0<z.sets[(atF z.sets ⟨z.apex,4⟩).toNat]!.set.data.length:=by
 have:=(Gv h (Qu h)).len
 omega
def dlt0:Dlt:=⟨[],0,0,[],[]⟩
def zon0:Zon:=⟨[],[]⟩
def cZ (a:Zon) (d:Dlt):Nat->List Sgd
 | 0=>[]
 | k+1=>if askB d.drop a.sets[k]!.q=false/\atF d.put a.sets[k]!.q<0 then cZ a d k++[a.sets[k]!] else cZ a d k
theorem CL {a:Zon}{d:Dlt}{k:Nat}(h:askB d.drop a.sets[k]!.q=false/\atF d.put a.sets[k]!.q<0):cZ a d (k+1)=cZ a d k++[a.sets[k]!]:=X4 h
theorem CO {a:Zon}{d:Dlt}{k:Nat}(h : ¬ (askB d.drop a.sets[k]!.q=false/\atF d.put a.sets[k]!.q<0)):cZ a d (k+1)=cZ a d k:=XZ h
@[go_sem] theorem keptTo_0 {a:Zon}{d:Dlt}:cZ a d 0=[]:=rfl
theorem zi (a:Zon) (d:Dlt):∀ k,(cZ a d k).length<=k
 | 0=>XX _
 | k+1=>by
  have:=zi a d k
  by_cases h:askB d.drop a.sets[k]!.q=false/\atF d.put a.sets[k]!.q<0
  .
   rw[CL h];simp;omega
  rw[CO h];omega
def fu (put l:List Sgd):Nat->List Sgd
 | 0=>l
 | k+1=>sortedF (fu put l k) put[k]!
theorem Ut {α:Type}[Inhabited α] (gt:α->Bool) (l:List α) (s:α):(oq gt l s).length=l.length+1:=by
 have:=CY gt l s l.length
 unfold oq
 split
 .
  rename_i h;rw[h] at this;simp at this;simp[this]
 rename_i h;rw[show (di gt l s l.length).2=true by simpa using h] at this;simpa using this
theorem Ee (put l:List Sgd):∀ k,(fu put l k).length=l.length+k
 | 0=>rfl
 | k+1=>by
  show (oq _ _ _).length=_
  rw[Ut,Ee put l k];omega
def uP (a:Zon) (d:Dlt):Zon:=⟨a.apex,fu d.put (cZ a d a.sets.length) d.put.length⟩
def applyR (a:Zon) (d:Dlt):Zon×Int :=
 if refOk a=false\/dltOk d=false\/a.apex≠d.apex then (zon0,1) else if serialR a≠d.frm then (zon0,23) else
 if 20000<(uP a d).sets.length then (zon0,2) else if refOk (uP a d)=false\/serialR (uP a d)≠d.too then (zon0,35) else (uP a d,0)
theorem VY {d:Dlt}(h:dltOk d=true):d.drop.length<=20000/\d.put.length<=20000:=by
 simp only[dltOk,XV,XW] at h
 exact⟨h.1.1.1.2,h.1.1.2⟩
end Go.Zon
namespace Go.Zon
open Go.DL Go.Str Go.Rec Go.Cmp
end Go.Zon
namespace Go.Zon
open Go.DL Go.Str Go.Rec Go.Cmp
end Go.Zon
namespace Go.Zon
open Go.DL Go.Str Go.Rec Go.Cmp
def lT (m:List Sgd):List D:=m.flatMap fun s=>[.agg s.q.d,.agg s.d]
theorem wm (s:Sgd) (m:List Sgd):lT (s::m) = .agg s.q.d :: .agg s.d::lT m:=rfl
theorem TA:lT []=[]:=rfl
theorem wu {a b:Qst}:iL (.agg a.d) (.agg b.d)=decide (a=b):=by
 cases a;cases b
 rw[Zb]
 simp[iL,iO,iP,Qst.d,nk]
def fQ:List Sgd->Qst->Option Sgd
 | s::m,q=>if s.q=q then some s else fQ m q
 | [],_=>none
def rP:List Sgd->Sgd->List Sgd
 | x::m,s=>if x.q=s.q then s::m else x::rP m s
 | [],s=>[s]
theorem Ty {m:List Sgd}{s:Sgd}:fG (lT m) (.agg s.q.d) (.agg s.d)=lT (rP m s):=by
 induction m with
 | nil=>rfl
 | cons x m ih =>
  rw[wm];simp only[fG,wu,rP]
  by_cases h:x.q=s.q
  .
   rw[X4 h,h];simp[wm]
  have h2 : ¬ s.q=x.q:=fun e=>h e.symm
  rw[XZ h];simp only[h2,decide_false,Yo,Y8,ih,wm]
def nW (l:List Sgd):Nat->List Sgd
 | 0=>[]
 | k+1=>rP (nW l k) l[k]!
def vX (l:List Sgd):List Sgd:=nW l l.length
theorem Sz {m:List Sgd}{s:Sgd}{q:Qst}:fQ (rP m s) q=if s.q=q then some s else fQ m q:=by
 induction m with
 | nil=>rfl
 | cons x m ih =>
  simp only[rP,fQ]
  by_cases h:x.q=s.q
  .
   rw[X4 h];simp only[fQ]
   by_cases h2:s.q=q
   .
    simp[h2]
   rw[XZ h2,XZ h2,XZ (by rw[h];exact h2)]
  rw[XZ h];simp only[fQ,ih]
  by_cases h2:s.q=q
  .
   rw[X4 h2,X4 h2,XZ (by rw[<- h2];exact h)]
  rw[XZ h2,XZ h2]
abbrev PM:=List (Qst×Sgd)
theorem CE {h h2:H}{n r:Nat}{y:Option Blk}(hn : ∀ q,n<=q->h q=none) (hr:h2 r=y) (hk : ∀ q,q<n->h2 q=h q):∀ q,upd h r y q=h2 q\/upd h r y q=none:=by
 intro q
 by_cases e:q=r
 .
  subst e;left;rw[upd_same,hr]
 rw[upd_ne _ _ _ _ e]
 by_cases q2:q<n
 .
  left;exact (hk q q2).symm
 right;exact hn q om
def kvP (m:PM):List D:=m.flatMap fun p=>[.agg p.1.d,.agg p.2.d]
theorem um (p:Qst×Sgd) (m:PM):kvP (p::m) = .agg p.1.d :: .agg p.2.d::kvP m:=rfl
def eD:PM->Qst->Option Sgd
 | p::m,q=>if p.1=q then some p.2 else eD m q
 | [],_=>none
def vO:PM->Qst->Sgd->PM
 | p::m,q,s=>if p.1=q then (q,s)::m else p::vO m q s
 | [],q,s=>[(q,s)]
theorem TE {m:PM}{q:Qst}:gB (kvP m) (.agg q.d)=(eD m q).map fun s=>.agg s.d:=by
 induction m with
 | nil=>rfl
 | cons p m ih =>
  rw[um];simp only[gB,wu,eD]
  by_cases h:p.1=q
  .
   subst h;simp
  have h2 : ¬ q=p.1:=fun e=>h e.symm
  simp only[h,h2,decide_false,Yo,Y8,ih]
@[go_sem] theorem kvGet_P {m:PM}{q:Qst}:gB (kvP m) (.agg [.v (.string (bs q.name)),.i q.ty])=(eD m q).map fun s=>.agg [.v (.string (bs s.set.name)),.i s.set.ty,.i s.set.life,.list false (s.set.data.map Dat.d),.list false (s.sigs.map RSig.d)]:=TE
@[go_sem] theorem nrs_kvP {m:PM}:aW (kvP m)=true:=by
 induction m with
 | nil=>rfl
 | cons p m ih =>
  rw[um];simp only[aW,ih,D.nr,Qst.d,Sgd.d,ui,vU,ZV]
@[go_sem] theorem wks_kvP {m:PM}:bU (kvP m)=kvP m:=by
 induction m with
 | nil=>rfl
 | cons p m ih =>
  rw[um];simp only[bU,wk,ih,Qst.d,Sgd.d,AU,AR]
def PM.of:List D->PM
 | .agg k :: .agg v::l=>(Qst.of k,Sgd.of v)::PM.of l
 | _=>[]
theorem R6 (m:PM):PM.of (kvP m)=m:=by
 induction m with
 | nil=>rfl
 | cons p m ih=>rw[um,PM.of,ih,Iq,yR]
def U8:D->PM
 | .fmap kv=>PM.of kv
 | _=>[]
def mapc1:D->PM
 | .eptr [d]=>U8 d
 | _=>[]
def capm1:D->PM
 | .fn _ _ [d]=>mapc1 d
 | _=>[]
@[go_sem] theorem mapc1_kv {m:PM}:mapc1 (.eptr [.fmap (kvP m)])=m:=R6 m
theorem Rh {m:PM}{q x:Qst}{s:Sgd}:eD (vO m q s) x=if q=x then some s else eD m x:=by
 induction m with
 | nil=>rfl
 | cons p m ih =>
  simp only[vO,eD]
  by_cases h:p.1=q
  .
   rw[X4 h];simp only[eD]
   by_cases h2:q=x
   .
    simp[h2]
   rw[XZ h2,XZ h2,XZ (by rw[h];exact h2)]
  rw[XZ h];simp only[eD,ih]
  by_cases h2:q=x
  .
   rw[X4 h2,X4 h2,XZ (by rw[<- h2];exact h)]
  rw[XZ h2,XZ h2]
def mapP (l:List Sgd):PM:=(vX l).map fun s=>(s.q,s)
theorem Rv (l:List Sgd) (q:Qst):eD (l.map fun s=>(s.q,s)) q=fQ l q:=by
 induction l with
 | nil=>rfl
 | cons s l ih=>simp only[X9,eD,fQ,ih]
theorem Ru (l:List Sgd) (q:Qst):eD (mapP l) q=fQ (vX l) q:=Rv _ _
abbrev PZ:=List (Qst×Option Sgd)
def vZ:Option Sgd->List D
 | some s=>s.d
 | none=>[.v (.string (bs [])),.i 0,.i 0,.list true [],.list true []]
def ji (m:PZ):List D:=m.flatMap fun p=>[.agg p.1.d,.agg (vZ p.2)]
theorem rV (p:Qst×Option Sgd) (m:PZ):ji (p::m) = .agg p.1.d :: .agg (vZ p.2)::ji m:=rfl
def nC:PZ->Qst->Option Sgd->PZ
 | p::m,q,s=>if p.1=q then (q,s)::m else p::nC m q s
 | [],q,s=>[(q,s)]
theorem Tw {m:PZ}{q:Qst}{s:Option Sgd}:fG (ji m) (.agg q.d) (.agg (vZ s))=ji (nC m q s):=by
 induction m with
 | nil=>rfl
 | cons p m ih =>
  rw[rV];simp only[fG,wu,nC]
  by_cases h:p.1=q
  .
   rw[X4 h,h];simp[rV]
  have h2 : ¬ q=p.1:=fun e=>h e.symm
  rw[XZ h];simp only[h2,decide_false,Yo,Y8,ih,rV]
@[go_sem] theorem kvSet_Z {m:PZ}{q:Qst}:fG (ji m) (.agg [.v (.string (bs q.name)),.i q.ty]) (.agg [.v (.string (bs [])),.i 0,.i 0,.list true [],.list true []])=ji (nC m q none):=Tw (s:=none)
@[go_sem] theorem IA {m:PZ}:aW (ji m)=true:=by
 induction m with
 | nil=>rfl
 | cons p m ih =>
  rw[rV]
  cases hp:p.2 with
  | none=>simp only[aW,ih,D.nr,Qst.d,vZ,aR,ZV]
  | some s=>simp only[aW,ih,D.nr,Qst.d,vZ,Sgd.d,ui,vU,ZV]
def vG:Sgd:=⟨⟨[],0,0,[]⟩,[]⟩
def zp (m:PZ):PM:=m.map fun p=>(p.1,p.2.getD vG)
@[go_sem] theorem wks_kvZ {m:PZ}:bU (ji m)=kvP (zp m):=by
 induction m with
 | nil=>rfl
 | cons p m ih =>
  rw[rV];have:zp (p::m)=(p.1,p.2.getD vG)::zp m:=rfl;rw[this,um]
  cases hp:p.2 with
  | none=>simp only[bU,wk,ih,Qst.d,vZ,Option.getD_none,vG,Sgd.d,bV,Yx]
  | some s=>simp only[bU,wk,ih,Qst.d,vZ,YT,Sgd.d,AU,AR]
theorem MW (m:PZ) (q:Qst) (s:Option Sgd):zp (nC m q s)=vO (zp m) q (s.getD vG):=by
 induction m with
 | nil=>rfl
 | cons p m ih =>
  have e:zp (p::m)=(p.1,p.2.getD vG)::zp m:=rfl;unfold nC;rw[e];unfold vO
  by_cases h:p.1=q
  .
   rw[X4 h,X4 h];rfl
  rw[XZ h,XZ h,<- ih];rfl
def mF (l:List Sgd):PZ:=(vX l).map fun s=>(s.q,some s)
theorem TC (l:List Sgd):lT l=ji (l.map fun s=>(s.q,some s)):=by
 induction l with
 | nil=>rfl
 | cons s l ih=>rw[wm,X9,rV,ih];rfl
theorem TB (l:List Sgd):lT (vX l)=ji (mF l):=TC _
theorem MX (l:List Sgd):zp (mF l)=mapP l:=by
 unfold zp mF mapP
 rw[List.map_map]
 rfl
def mK (m:PZ) (l:List Qst):Nat->PZ
 | 0=>m
 | k+1=>nC (mK m l k) l[k]! none
@[go_sem] theorem goesZ_0 {m:PZ}{l:List Qst}:mK m l 0=m:=rfl
def mM (put:List Sgd) (drop:List Qst):PM:=zp (mK (mF put) drop drop.length)
theorem JU (m:PZ) (l:List Qst) (q:Qst):∀ k,k<=l.length->((eD (zp (mK m l k)) q).isSome=true ↔ (q∈l.take k\/(eD (zp m) q).isSome=true))
 | 0,_=>by simp[mK]
 | k+1,h=>by
  have ih:=JU m l q k (by omega)
  have hk:k<l.length:=by omega
  have e:l.take (k+1)=l.take k++[l[k]!]:=by
   rw[Y1,Ye hk,getElem!_pos l k hk];rfl
  show (eD (zp (nC (mK m l k) l[k]! none)) q).isSome=true ↔ _
  rw[MW,Rh,e,Yt]
  by_cases h2:l[k]! = q
  .
   rw[X4 h2];simp[h2]
  rw[XZ h2,ih];have:(q∈[l[k]!])=False:=Y6 fun x=>h2 (Yq.1 x).symm
  rw[this,or_false]
def PW (a b:Sgd):Bool:=decide (a.set.life=b.set.life)&&decide (a.set.data=b.set.data)&&decide (a.sigs=b.sigs)
def newB (m:PM) (q:Qst):Bool:=!(eD m q).isSome
def V9 (o:Option Sgd) (s:Sgd):Bool:=match o with
 | none=>true
 | some x=>!PW x s
def d2S (m:PM) (s:Sgd):Option Sgd:=if V9 (eD m s.q) s=true then some s else none
def fq (m:PM) (s:Sgd):Option Sgd:=if newB m s.q=true then some s else none
def j3S (m:PM) (q:Qst):Option Qst:=if newB m q=true then some q else none
theorem Dj {α β:Type}[Inhabited α] {f:α->Option β}{l:List α}{k:Nat}(hk:k<l.length) {y:β}(h:f l[k]! = some y):(l.take (k+1)).filterMap f=(l.take k).filterMap f++[y]:=by
 rw[Y1,Ye hk,List.filterMap_append]
 rw[getElem!_pos l k hk] at h
 simp[h]
theorem Dl {α β:Type}[Inhabited α] {f:α->Option β}{l:List α}{k:Nat}(hk:k<l.length) (h:f l[k]! = none):(l.take (k+1)).filterMap f=(l.take k).filterMap f:=by
 rw[Y1,Ye hk,List.filterMap_append]
 rw[getElem!_pos l k hk] at h
 simp[h]
theorem Kw {α β:Type}(f:α->Option β) (l:List α) (k:Nat):((l.take k).filterMap f).length<=k:=by
 have:=List.length_filterMap_le f (l.take k)
 rw[Yr] at this
 omega
attribute [go_sem] List.filterMap_nil Option.map_some Option.map_none Option.getD_some Option.getD_none Option.isSome_some Option.isSome_none
theorem Kv {α:Type}(l:List α):l.filterMap some=l:=by simp
def qS (a:Qst):RSet:=⟨a.name,a.ty,0,[]⟩
theorem Rc (a b:Qst):qC a b=plC (qS a) (qS b):=rfl
theorem Hl (a b:Qst):qO a b=rOrd (qS a) (qS b):=rfl
theorem vN {a b:Qst}(ha:nameOk a.name=true) (hb:nameOk b.name=true):qC a b=qO a b:=by
 rw[Rc,Hl,Rn (a:=qS a) (b:=qS b) ha hb,GN (a:=qS a) (b:=qS b) ha hb]
theorem Rb {a b:Qst}(ha:nameOk a.name=true) (hb:nameOk b.name=true):qO a b=nM (qS a) (qS b):=by
 rw[Hl,GN (a:=qS a) (b:=qS b) ha hb]
theorem Xj (c:Nat->Int) (n:Nat) (mono : ∀ i j,i<=j->j<n->c j<0->c i<0):∀ m i j,j-i<=m->i<=j->j<=n->(∀ k,k<i->c k<0)->(∀ k,j<=k->k<n -> ¬ c k<0) ->
  (∀ k,k<jq c i j->c k<0)/\(∀ k,jq c i j<=k->k<n -> ¬ c k<0):=by
 intro m
 induction m with
 | zero =>
  intro i j h1 h2 h3 ha hb;rw[uK,XZ (by omega)]
  exact⟨ha,fun k hk hn=>hb k om hn⟩
 | succ m ih =>
  intro i j h1 h2 h3 ha hb;rw[uK]
  by_cases hij:i<j
  .
   rw[X4 hij]
   by_cases hc:c ((i+j) / 2)<0
   .
    rw[X4 hc];exact ih _ _ om om h3 (fun k hk=>mono k ((i+j) / 2) om om hc) hb
   rw[XZ hc];exact ih _ _ om om om ha (fun k hk hn hk2=>hc (mono _ k hk hn hk2))
  rw[XZ hij];exact⟨ha,fun k hk hn=>hb k om hn⟩
theorem I7 {α:Type}{c:α->α->Int}(h:Cm c):∀ p r:List α,lex c p (p++r)<=0
 | [],[]=>by simp[lex]
 | [],_::_=>by simp[lex]
 | x::p,r=>by
  show iY (c x x) (lex c p (p++r))<=0
  rw[ib,X4 (h.self x)];exact I7 h p r
theorem I8 {α:Type}{c:α->α->Int}(h:Cm c) (he : ∀ x y,c x y=0->x=y):∀ p r x:List α,lex c p x<=0->lex c x (p++r)<=0->p <+: x
 | [],r,x,_,_=>List.nil_prefix
 | a::p,r,[],h1,_=>by simp[lex] at h1
 | a::p,r,b::x,h1,h2=>by
  have h1':iY (c a b) (lex c p x)<=0:=h1;have h2':iY (c b a) (lex c x (p++r))<=0:=h2;rw[ib] at h1' h2';have ha:=h.anti a b
  by_cases e:c a b=0
  .
   have e2:c b a=0:=by omega
   rw[X4 e] at h1';rw[X4 e2] at h2';obtain rfl:=he _ _ e;obtain⟨t,rfl⟩:=I8 h he p r x h1' h2';exact⟨t,rfl⟩
  rw[XZ e] at h1';rw[XZ (by omega)] at h2'
  omega
def bQ (n c:Str):Prop:=dG c <+: dG n
theorem A7 (n:Str):bQ n n:=List.prefix_rfl
theorem AZ {a b c:Str}(h:bQ a b) (k:bQ b c):bQ a c:=List.IsPrefix.trans k h
theorem ES {a b:Str}(h:bQ a b) (k:bQ b a):a=b :=
 BC (List.IsPrefix.eq_of_length k (Nat.le_antisymm (List.IsPrefix.length_le k) (List.IsPrefix.length_le h)))
theorem ND {n a b:Str}(h:bQ n a) (k:bQ n b):bQ a b\/bQ b a:=List.prefix_or_prefix_of_prefix k h
theorem IG (a b:Str):nmOrd a b=lex Go.Lib.compareBytes (dG a) (dG b):=yQ _ _
theorem A9 {n c:Str}(h:bQ n c):nmOrd c n<=0:=by
 obtain⟨r,hr⟩:=h
 rw[IG,<- hr]
 exact I7 Am _ _
theorem A8 {n c x:Str}(h:bQ n c) (h1:nmOrd c x<=0) (h2:nmOrd x n<=0):bQ x c:=by
 obtain⟨r,hr⟩:=h
 rw[IG] at h1 h2
 rw[<- hr] at h2
 exact I8 Am (fun _ _=>Mf) _ _ _ h1 h2
theorem inB_und {s z:Str}:inB s z=true ↔ bQ s z:=by
 unfold bQ
 rw[<- yM,<- yM,List.reverse_prefix]
 unfold inB
 rw[XV,XW,dJ]
 constructor
 .
  rintro⟨h1,h2⟩;refine⟨(partsOf s).take ((partsOf s).length-(partsOf z).length),?_⟩
  conv=>rhs;rw[<- Ze ((partsOf s).length-(partsOf z).length) (partsOf s)]
  congr 1
  refine List.ext_getElem (by simp;omega) fun i hi hj=>?_
  have:=h2 i (Yl _) hi;unfold ou at this;rw[YG,getElem!_pos (partsOf s) _ (by omega),getElem!_pos (partsOf z) _ hi] at this
  rw[List.getElem_drop,this]
 rintro⟨a,ha⟩
 have hl:(partsOf s).length=a.length+(partsOf z).length:=by rw[<- ha,XY]
 refine⟨om,fun i _ hi=>?_⟩
 unfold ou
 have e:(partsOf s).length-(partsOf z).length+i=a.length+i:=by omega
 rw[YG,e,getElem!_pos (partsOf s) _ (by omega),getElem!_pos (partsOf z) _ hi]
 have:(partsOf s)[a.length+i]? = some (partsOf z)[i]:=by
  rw[<- ha,YR (by omega)]
  simp[hi]
 exact (X7.1 this).2
theorem Ji:labelOk []=false:=by
 unfold labelOk
 simp
theorem Cr:nameOk []=false:=by
 rw[IV,XZ (by simp),XZ (by simp),pU]
 simp[split,jy,Ji]
theorem Jy : ∀ (a b:List Str),a≠[]->b≠[]->lU (a++b)=lU a++46::lU b
 | [],_,h,_=>absurd rfl h
 | [p],[],_,h=>absurd rfl h
 | [p],q::r,_,_=>rfl
 | p::q::r,b,_,hb=>by
  have ih:=Jy (q::r) b (by simp) hb
  show p++46::lU ((q::r)++b)=_
  rw[ih]
  simp[lU]
theorem NZ {s z:Str}:split z <:+ split s ↔ s=z \/ ∃ a,s=a++46::z:=by
 constructor
 .
  rintro⟨a,ha⟩
  by_cases h:a=[]
  .
   subst h
   left
   rw[<- rX s,<- rX z,<- ha];rfl
  right
  refine⟨lU a,?_⟩;rw[<- rX s,<- ha,Jy a _ h (mh z),rX]
 rintro (h|⟨a,h⟩)
 .
  rw[h];exact List.suffix_rfl
 rw[h,Bj];exact List.suffix_append _ _
theorem NB {s z:Str}:(decide (z.length<s.length)&&hasSuf s z&&decide ((s.getD (s.length-z.length-1) 0).toNat=46))=true ↔ ∃ a,s=a++46::z:=by
 rw[XV,XV,XW,XW]
 unfold hasSuf
 rw[XV,XW,YG]
 constructor
 .
  rintro⟨⟨h1,h2,h3⟩,h4⟩;refine⟨s.take (s.length-z.length-1),?_⟩;have hlt:s.length-z.length-1<s.length:=by omega
  have hc:s[s.length-z.length-1]=46:=by
   apply ZH.1
   show _=46
   rw[<- h4]
   simp[List.getD,hlt]
  conv=>lhs;rw[<- Ze (s.length-z.length-1) s]
  rw[Yu hlt,hc,show s.length-z.length-1+1=s.length-z.length by omega,h3]
 rintro⟨a,rfl⟩
 have hl:(a++46::z).length=a.length+1+z.length:=by simp;omega
 refine⟨⟨om,om,?_⟩,?_⟩
 .
  rw[hl,show a.length+1+z.length-z.length=a.length+1 by omega]
  simp
 rw[hl,show a.length+1+z.length-z.length-1=a.length by omega]
 simp
theorem NA {s z:Str}(hs:nameOk s=true) (hz:nameOk z=true):under s z=true ↔ bQ s z:=by
 unfold under bQ
 rw[Yc,Yc,YG,YG,NB]
 by_cases ez:z=[46]
 .
  subst ez;have:dG [46]=[]:=by simp[dG]
  rw[this]
  simp
 by_cases es:s=[46]
 .
  subst es;have h1:dG [46]=[]:=by simp[dG]
  rw[h1]
  constructor
  .
   rintro ((h|h)|⟨a,h⟩)
   .
    exact absurd h.symm ez
   .
    exact absurd h ez
   cases a with
   | nil =>
    have:z=[]:=by simpa using h
    subst this;rw[Cr] at hz;cases hz
   | cons x a=>simp at h
  intro h;have:=List.prefix_nil.1 h;unfold dG at this;rw[XZ ez,jX] at this
  cases this
 have e1:dG s=(split s).reverse:=by unfold dG;rw[XZ es,pU]
 have e2:dG z=(split z).reverse:=by unfold dG;rw[XZ ez,pU]
 rw[e1,e2,List.reverse_prefix,NZ]
 constructor
 .
  rintro ((h|h)|h)
  .
   exact .inl h
  .
   exact absurd h ez
  exact .inr h
 rintro (h|h)
 .
  exact .inl (.inl h)
 exact .inr h
theorem xB {s z:Str}(hs:nameOk s=true) (hz:nameOk z=true):underV s z=true ↔ bQ s z:=by
 unfold underV
 rw[hs,hz,Zt,Zt,NA hs hz]
theorem EF {s:Str}(h:nameOk s=true):wildB s=wild1 s:=by
 by_cases e:s=[46]
 .
  subst e;rfl
 have hp:partsOf s=split s:=by unfold partsOf;rw[XZ e,vC]
 have h0:kT (split s) 0=true:=by
  unfold nameOk at h;rw[XZ e] at h
  split at h
  .
   cases h
  rw[XV,vC] at h;have:=Zi.2 (mh s);exact (dJ _ _ _).1 h.1 0 (XX _) this
 unfold wild1
 rw[hp]
 have hpos:=Zi.2 (mh s)
 rw[YX hpos,Zt]
 cases s with
 | nil=>rw[Cr] at h;cases h
 | cons c r =>
  obtain⟨p,ps,hq⟩:∃ p ps,split r=p::ps:=by
   cases hq:split r with
   | nil=>exact absurd hq (mh r)
   | cons p ps=>exact⟨p,ps,rfl⟩
  by_cases hc:c=46
  .
   subst hc;have hs:split (46::r)=[]::split r:=by rw[split,X4 rfl]
   rw[hs] at h0
   simp[kT,Ji] at h0
  have hs:split (c::r)=(c::p)::ps:=by rw[split,XZ hc,hq]
  rw[hs] at h0 ⊢;simp only[kT,List.getElem!_cons_zero,decide_true,Zt] at h0 ⊢;rw[Zb];unfold wildB;simp only[YN,List.getD_cons_zero,XV,XW,YG]
  constructor
  .
   rintro⟨_,h1⟩;rw[Yc] at h0
   rcases h0 with h2|h2
   .
    exfalso
    unfold labelOk at h2;rw[XV,XV] at h2;have:=(dJ _ _ _).1 h2.1.1 0 (XX _) (by simp)
    simp[jf,jT,h1] at this
   exact YG.1 h2
  intro h1;have:=(List.cons.inj h1).1;subst this;exact⟨om,rfl⟩
def qp (a b:Qst):Int:=nM (qS a) (qS b)
theorem cm_q:Cm qp:=o6 WY qS
theorem qp_eq {a b:Qst}:qp a b=0 ↔ a=b:=by
 unfold qp
 rw[Rj]
 cases a;cases b
 simp[qS]
theorem pX {a b:Qst}(ha:nameOk a.name=true) (hb:nameOk b.name=true):qO a b=qp a b:=Rb ha hb
theorem yJ {a b:Qst}(ha:nameOk a.name=true) (hb:nameOk b.name=true):qC a b=qp a b:=by rw[vN ha hb,pX ha hb]
theorem Ha {a b:Qst}(h:qp a b<0):nmOrd a.name b.name<=0/\(a.name=b.name->a.ty<b.ty):=by
 have h1:iY (nmOrd a.name b.name) (Go.Cmp.cmpI a.ty b.ty)<0:=h
 rw[ib] at h1
 split at h1
 .
  rename_i e
  refine⟨om,fun _=>?_⟩
  unfold Go.Cmp.cmpI at h1
  split at h1
  .
   assumption
  split at h1<;>omega
 rename_i e
 refine⟨om,fun e2=>?_⟩
 rw[e2,cm_nm.self] at e
 exact absurd rfl e
def sp (a b:Sgd):Int:=qp a.q b.q
theorem cm_s:Cm sp:=o6 cm_q Sgd.q
def Ord (l:List Sgd):Prop:=jv sp l
theorem xL {α:Type}[Inhabited α] {c:α->α->Int}(h:Cm c) {l:List α}(k : ∀ i,0<i->i<l.length->c l[i-1]! l[i]! < 0):jv c l:=by
 induction l with
 | nil=>exact .nil
 | cons x r ih =>
  have ih:=ih fun i h1 h2=>by
   have:=k (i+1) om (by simp;omega)
   obtain⟨j,rfl⟩:∃ j,i=j+1:=⟨i-1,om⟩
   simpa using this
  refine Y3.2 ⟨?_,ih⟩
  cases r with
  | nil=>simp
  | cons y r =>
   have h1:=k 1 (by omega) (by simp)
   have h1':c x y<0:=by simpa using h1
   intro z hz
   rcases YL.1 hz with e|e
   .
    subst e;exact h1'
   have:=(Y3.1 ih).1 z e;exact h.lt_le h1' om
theorem lJ {α:Type}[Inhabited α] {c:α->α->Int}{l:List α}(h:jv c l) {i j:Nat}(hij:i<j) (hj:j<l.length):c l[i]! l[j]! < 0:=by
 rw[getElem!_pos l i (by omega),getElem!_pos l j hj]
 exact ZO.1 h i j om hj hij
theorem Bg {α:Type}{c:α->α->Int}(h:Cm c):∀ {l m:List α},jv c l->jv c m->(∀ x,x∈l ↔ x∈m)->l=m
 | [],[],_,_,_=>rfl
 | [],y::s,_,_,k=>by have:=(k y).2 (by simp);simp at this
 | x::r,[],_,_,k=>by have:=(k x).1 (by simp);simp at this
 | x::r,y::s,hl,hm,k=>by
  have hl':=Y3.1 hl;have hm':=Y3.1 hm;have e:x=y:=by
   rcases YL.1 ((k x).1 (by simp)) with e|e
   .
    exact e
   rcases YL.1 ((k y).2 (by simp)) with e2|e2
   .
    exact e2.symm
   have h1:=hm'.1 x e;have h2:=hl'.1 y e2;have:=h.anti x y;omega
  subst e
  congr 1
  refine Bg h hl'.2 hm'.2 fun z=>⟨fun hz=>?_,fun hz=>?_⟩
  .
   rcases YL.1 ((k z).1 (by simp[hz])) with e|e
   .
    subst e;have:=hl'.1 z hz;have:=h.self z;omega
   exact e
  rcases YL.1 ((k z).2 (by simp[hz])) with e|e
  .
   subst e;have:=hm'.1 z hz;have:=h.self z;omega
  exact e
theorem mem_ix {α:Type}[Inhabited α] {l:List α}{x:α}:x∈l ↔ ∃ i,i<l.length/\l[i]! = x:=by
 constructor
 .
  intro h;obtain⟨i,hi,e⟩:=Zf h;exact⟨i,hi,by rw[getElem!_pos l i hi,e]⟩
 rintro⟨i,hi,e⟩
 rw[getElem!_pos l i hi] at e
 exact e ▸ YD hi
theorem dX {α:Type}[Inhabited α] {l:List α}{i:Nat}(h:i<l.length):l[i]! ∈ l:=mem_ix.2 ⟨i,h,rfl⟩
theorem all_ix {α:Type}[Inhabited α] {l:List α}{p:α->Prop}:(∀ x∈l,p x) ↔ ∀ i,i<l.length->p l[i]! :=
 ⟨fun h i hi=>h _ (dX hi),fun h x hx=>by obtain⟨i,hi,rfl⟩:=mem_ix.1 hx;exact h i hi⟩
theorem IX {l:List Sgd}{q:Qst}:fQ l q=none ↔ ∀ s∈l,s.q≠q:=by
 induction l with
 | nil=>simp[fQ]
 | cons x l ih =>
  unfold fQ
  split
  .
   rename_i e;simp[e]
  rename_i e;rw[ih];simp[e]
theorem SI {l:List Sgd}(h:Ord l) {s:Sgd}(hs:s∈l):fQ l s.q=some s:=by
 induction l with
 | nil=>cases hs
 | cons x l ih =>
  have h':=Y3.1 h;unfold fQ
  rcases YL.1 hs with e|e
  .
   subst e;rw[X4 rfl]
  have:=h'.1 s e;rw[XZ,ih h'.2 e];intro e2;unfold sp at this;rw[qp_eq.2 e2] at this;omega
theorem T9 (l:List Sgd) (q:Qst):∀ n k,l.length-k<=n->fQ (l.drop k) q=if ku l q k<0 then none else some l[(ku l q k).toNat]! := by
 intro n
 induction n with
 | zero =>
  intro k h;have e:ku l q k = -1:=by rw[mH,XZ (by omega)]
  rw[e,YU (by omega),X4 (by omega)]
  rfl
 | succ n ih =>
  intro k h;rw[mH]
  by_cases hk:k<l.length
  .
   rw[X4 hk,Yu hk];unfold fQ;rw[getElem!_pos l k hk]
   by_cases e:l[k].q=q
   .
    rw[X4 e,X4 e,XZ (by omega),show ((k:Int)).toNat=k by omega,getElem!_pos l k hk]
   rw[XZ e,XZ e,ih (k+1) (by omega)]
  rw[XZ hk,YU (by omega),X4 (by omega)]
  rfl
theorem Eb (l:List Sgd) (q:Qst):fQ l q=if atF l q<0 then none else some l[(atF l q).toNat]! := T9 l q _ 0 (XX _)
theorem XK {l:List Sgd}{q:Qst}:atF l q<0 ↔ fQ l q=none:=by
 rw[Eb]
 split<;>simp_all
theorem KG {l:List Sgd}{q:Qst}(ho:Ord l) (hn : ∀ s∈l,nameOk s.set.name=true) (hq:nameOk q.name=true):fQ l q=if findOk l q=true then some l[findIx l q]! else none:=by
 have hc : ∀ k,k<l.length->qC l[k]!.q q=qp l[k]!.q q:=fun k hk=>yJ (hn _ (dX hk)) hq
 obtain⟨h1,h2⟩:=Xj (fun k=>qC l[k]!.q q) l.length (fun i j hij hj h=>by
   rw[hc _ (by omega)]
   rw[hc _ hj] at h
   by_cases e:i=j
   .
    subst e;exact h
   exact cm_q.lt_le (lJ ho (by omega:i<j) hj) om) _ 0 l.length (XX _) (Yl _) (XX _) (fun k hk=>by omega) (fun k h1 h2=>by omega)
 have h1 : ∀ k,k<findIx l q->qC l[k]!.q q<0:=h1
 have h2 : ∀ k,findIx l q<=k->k<l.length -> ¬ qC l[k]!.q q<0:=h2
 have hle:findIx l q<=l.length:=(Xk _ _ 0 l.length (XX _) (Yl _)).1
 by_cases h:findOk l q=true
 .
  rw[X4 h];unfold findOk at h;rw[XV,XW,YG] at h;obtain⟨h3,h4⟩:=h;rw[hc _ h3,qp_eq] at h4;have h5:=SI ho (dX h3);rw[h4] at h5;exact h5
 rw[XZ h,IX]
 intro s hs e
 apply h
 obtain⟨k,hk,rfl⟩:=mem_ix.1 hs
 have hz:qC l[k]!.q q=0:=by rw[hc _ hk,qp_eq,e]
 have hk2:findIx l q<=k:=by
  rcases Zd k (findIx l q) with h5|h5
  .
   have:=h1 k h5;omega
  exact h5
 have hk3:findIx l q=k:=by
  rcases Zd (findIx l q) k with h5|h5
  .
   have h6:=h2 (findIx l q) (XX _) (by omega)
   rw[hc _ (by omega)] at h6
   have h7:=lJ ho h5 hk;have h8:qp l[findIx l q]!.q l[k]!.q<0:=h7;rw[e] at h8;omega
  omega
 unfold findOk
 rw[hk3,YX hk,hz]
 rfl
structure ZOrd (z:Zon):Prop where
 apex:nameOk z.apex=true
 wild:wildB z.apex=false
 len:z.sets.length<=20000
 ok : ∀ s∈z.sets,nz s.set
 und : ∀ s∈z.sets,bQ s.set.name z.apex
 ord:Ord z.sets
theorem ZOrd.nms {z:Zon}(h:ZOrd z):∀ s∈z.sets,nameOk s.set.name=true:=fun s hs=>(h.ok s hs).name
theorem ordered_iff {z:Zon}:ordered z=true ↔ ZOrd z:=by
 unfold ordered
 rw[XV,XV,XV,XW,Yd,dJ]
 have hO : ∀ i,iJ z.apex z.sets i=true ↔ (setOk z.sets[i]!.set=true/\underV z.sets[i]!.set.name z.apex=true)/\(i=0\/qC z.sets[i-1]!.q z.sets[i]!.q<0):=by
  intro i;simp[iJ]
 constructor
 .
  rintro⟨⟨⟨h1,h2⟩,h3⟩,h4⟩;have h4 : ∀ i,i<z.sets.length->_:=fun i hi=>(hO i).1 (h4 i (Yl _) hi)
  refine⟨h1,h2,h3,all_ix.2 fun i hi=>(eO _).1 (h4 i hi).1.1,all_ix.2 fun i hi=>?_,xL cm_s fun i h0 hi=>?_⟩
  .
   exact (xB ((eO _).1 (h4 i hi).1.1).name h1).1 (h4 i hi).1.2
  have h5:=(h4 i hi).2;rw[yJ ((eO _).1 (h4 (i-1) (by omega)).1.1).name ((eO _).1 (h4 i hi).1.1).name] at h5
  exact h5.resolve_left om
 intro h
 refine⟨⟨⟨h.apex,h.wild⟩,h.len⟩,fun i _ hi=>(hO i).2 ⟨⟨(eO _).2 (h.ok _ (dX hi)),(xB (h.nms _ (dX hi)) h.apex).2 (h.und _ (dX hi))⟩,?_⟩⟩
 by_cases e:i=0
 .
  exact .inl e
 right
 have hi1:i-1<z.sets.length:=by omega
 have n1:nameOk z.sets[i-1]!.q.name=true:=h.nms _ (dX hi1)
 have n2:nameOk z.sets[i]!.q.name=true:=h.nms _ (dX hi)
 rw[yJ n1 n2]
 exact lJ h.ord (by omega:i-1<i) hi
theorem QR (a b:Sgd):rOrd a.set b.set=qO a.q b.q:=rfl
theorem one_iff {z:Zon}:oneB z=true ↔ ZOrd z:=by
 unfold oneB
 rw[XV,XV,XV,XW,Yd,dJ]
 have hO : ∀ i,lL z.apex z.sets i=true ↔ (setOk z.sets[i]!.set=true/\inB z.sets[i]!.set.name z.apex=true)/\(i=0\/qO z.sets[i-1]!.q z.sets[i]!.q<0):=by
  intro i;simp[lL,QR]
 constructor
 .
  rintro⟨⟨⟨h1,h2⟩,h3⟩,h4⟩;have h4 : ∀ i,i<z.sets.length->_:=fun i hi=>(hO i).1 (h4 i (Yl _) hi)
  refine⟨h1,by rw[EF h1];exact h2,h3,all_ix.2 fun i hi=>(eO _).1 (h4 i hi).1.1,all_ix.2 fun i hi=>?_,xL cm_s fun i h0 hi=>?_⟩
  .
   exact inB_und.1 (h4 i hi).1.2
  have h5:=(h4 i hi).2;rw[pX ((eO _).1 (h4 (i-1) (by omega)).1.1).name ((eO _).1 (h4 i hi).1.1).name] at h5
  exact h5.resolve_left om
 intro h
 refine⟨⟨⟨h.apex,by rw[<- EF h.apex];exact h.wild⟩,h.len⟩,fun i _ hi=>(hO i).2 ⟨⟨(eO _).2 (h.ok _ (dX hi)),inB_und.2 (h.und _ (dX hi))⟩,?_⟩⟩
 by_cases e:i=0
 .
  exact .inl e
 right
 have hi1:i-1<z.sets.length:=by omega
 have n1:nameOk z.sets[i-1]!.q.name=true:=h.nms _ (dX hi1)
 have n2:nameOk z.sets[i]!.q.name=true:=h.nms _ (dX hi)
 rw[pX n1 n2]
 exact lJ h.ord (by omega:i-1<i) hi
theorem Ia (z:Zon):ordered z=oneB z:=by rw[Zb,ordered_iff,one_iff]
theorem Dr {z:Zon}(h:ZOrd z) {q:Qst}(hq:nameOk q.name=true):findOk z.sets q=decide (0<=atF z.sets q):=by
 have h1:=KG h.ord h.nms hq
 have h2:=Eb z.sets q
 rw[h1] at h2
 rw[Zb,XW]
 by_cases e:findOk z.sets q=true
 .
  rw[X4 e] at h2
  split at h2
  .
   cases h2
  exact⟨fun _=>by omega,fun _=>e⟩
 rw[XZ e] at h2
 split at h2
 .
  exact⟨fun h=>absurd h e,fun h=>by omega⟩
 cases h2
theorem Vf {z:Zon}(h:ZOrd z) {q:Qst}(hq:nameOk q.name=true) (hf:0<=atF z.sets q):z.sets[findIx z.sets q]! = z.sets[(atF z.sets q).toNat]! := by
 have h1:=KG h.ord h.nms hq
 have h2:=Eb z.sets q
 rw[Dr h hq,X4 (YX hf)] at h1
 rw[XZ (by omega),h1] at h2
 exact Z8 h2
theorem Zac {z:Zon}(h:ZOrd z):apexHolds z=twoB z:=by
 unfold apexHolds twoB
 congr 1
 have e:av 2 (iU z) 0=(iU z 0&&iU z 1):=by
  rw[dR,X4 (by omega),dR,X4 (by omega),dR,XZ (by omega),Bool.and_true]
 rw[e]
 unfold iU
 rw[Dr h h.apex,Dr h h.apex]
 rfl
end Go.Zon
namespace Go.Zon
open Go.DL Go.Str Go.Rec Go.Cmp
theorem MK {n:Nat}{p:Nat->Bool}:av n p 0=false ↔ ∃ i,i<n/\p i=false:=by
 constructor
 .
  intro h
  apply YV
  intro k;have:av n p 0=true:=(dJ _ _ _).2 fun i _ hi=>by
   cases e:p i with
   | true=>rfl
   | false=>exact absurd ⟨i,hi,e⟩ k
  rw[this] at h
  cases h
 rintro⟨i,hi,h⟩
 cases e:av n p 0 with
 | false=>rfl
 | true=>rw[(dJ _ _ _).1 e i (Yl _) hi] at h;cases h
theorem Zah {n:Nat}{p q:Nat->Bool}:av n (fun i=>p i&&q i) 0=(av n p 0&&av n q 0):=by
 rw[Zb,XV,dJ,dJ,dJ]
 simp only[XV]
 exact⟨fun h=>⟨fun i h1 h2=>(h i h1 h2).1,fun i h1 h2=>(h i h1 h2).2⟩,fun h i h1 h2=>⟨h.1 i h1 h2,h.2 i h1 h2⟩⟩
section
variable {z : Zon} (h : ZOrd z)
include h
theorem rH {i j:Nat}(hij:i<=j) (hj:j<z.sets.length):nmOrd z.sets[i]!.set.name z.sets[j]!.set.name<=0:=by
 by_cases e:i=j
 .
  subst e;rw[cm_nm.self];exact Int.le_refl _
 exact (Ha (lJ h.ord (by omega:i<j) hj)).1
theorem Cb {i j:Nat}(hij:i<j) (hj:j<z.sets.length) (e:z.sets[i]!.set.name=z.sets[j]!.set.name):z.sets[i]!.set.ty<z.sets[j]!.set.ty :=
 (Ha (lJ h.ord hij hj)).2 e
theorem RQ {i k j:Nat}(hik:i<=k) (hkj:k<=j) (hj:j<z.sets.length) (e:z.sets[i]!.set.name=z.sets[j]!.set.name):z.sets[k]!.set.name=z.sets[j]!.set.name:=by
 have h1:=rH h hik (by omega)
 have h2:=rH h hkj hj
 rw[e] at h1
 have:=cm_nm.anti z.sets[k]!.set.name z.sets[j]!.set.name
 exact vW om
theorem Cq {i:Nat}(hi:i<z.sets.length):z.sets[i]!.set.name≠[]:=by
 intro e
 have:=h.nms _ (dX hi)
 rw[e,Cr] at this
 cases this
theorem NJ {i:Nat}(hi:i<z.sets.length):1<=z.sets[i]!.set.ty/\z.sets[i]!.set.ty<=8:=inR_iff.1 (h.ok _ (dX hi)).ty
def Em (l:List Sgd):Prop:=∃ i,i+1<l.length/\l[i]!.set.name=l[i+1]!.set.name/\(l[i+1]!.set.ty=3\/(l[i]!.set.ty=3/\l[i+1]!.set.ty≠8))
omit h in
theorem MO (l:List Sgd):∀ k,eT l k≠[] -> ∃ j,j<k/\l[j]!.set.ty=3/\l[j]!.set.name=eT l k
 | 0,hk=>absurd rfl hk
 | k+1,hk=>by
  unfold eT at hk ⊢
  split at hk
  .
   rename_i e;exact⟨k,om,e,by rw[X4 e]⟩
  rename_i e
  obtain⟨j,h1,h2,h3⟩:=MO l k hk;exact⟨j,om,h2,by rw[XZ e,h3]⟩
omit h in
theorem Zam:aliasB (layOf z)=false ↔ Em z.sets:=by
 unfold aliasB
 rw[MK]
 show (∃ i,i<z.sets.length/\iE z.sets i=false) ↔ _
 unfold iE Em
 constructor
 .
  rintro⟨i,hi,k⟩;simp only[Yh,Yz,Yv,Yd,XW,X6,YG,XV,Yd,ZM,ne_eq] at k;obtain⟨k1,k2|⟨k2,k3⟩⟩:=k
  .
   exact⟨i-1,om,by rw[show i-1+1=i by omega];exact k2.2,.inl (by rw[show i-1+1=i by omega];exact k1)⟩
  exact⟨i,om,k2.2.symm,.inr ⟨k1,k3⟩⟩
 rintro⟨i,hi,k1,k2⟩
 rcases k2 with k2|⟨k2,k3⟩
 .
  refine⟨i+1,hi,?_⟩;have hb:(z.sets[i]!.set.name==z.sets[i+1]!.set.name)=true:=YG.2 k1;rw[YX k2,Nat.add_sub_cancel,hb,YX (show 0<i+1 by omega)]
  rfl
 refine⟨i,om,?_⟩
 have hb:(z.sets[i+1]!.set.name==z.sets[i]!.set.name)=true:=YG.2 k1.symm
 rw[YX k2,YX hi,hb,YE k3]
 simp
theorem NM:threeB z=false ↔ Em z.sets:=by
 unfold threeB
 rw[MK]
 have hp : ∀ i,gU z.sets i≠[] ↔ (0<i/\z.sets[i-1]!.set.name=z.sets[i]!.set.name/\z.sets[i]!.set.name≠[]):=by
  intro i;unfold gU;split
  .
   rename_i q;exact⟨fun k=>⟨q.1,q.2,k⟩,fun k=>k.2.2⟩
  rename_i q;exact⟨fun k=>absurd rfl k,fun k=>absurd ⟨k.1,k.2.1⟩ q⟩
 have hpe : ∀ i,0<i->z.sets[i-1]!.set.name=z.sets[i]!.set.name->gU z.sets i=z.sets[i]!.set.name:=fun i h1 h2=>X4 ⟨h1,h2⟩
 have key : ∀ i,fZ z.sets i=false ↔ (gU z.sets i≠[]/\(z.sets[i]!.set.ty=3\/(gU z.sets i=eT z.sets (i+1)/\z.sets[i]!.set.ty≠3/\z.sets[i]!.set.ty≠8))):=by
  intro i;unfold fZ
  by_cases a1:gU z.sets i=[]<;>by_cases a2:z.sets[i]!.set.ty=3<;>by_cases a3:gU z.sets i=eT z.sets (i+1)<;>by_cases a4:z.sets[i]!.set.ty=8<;>simp_all
 constructor
 .
  rintro⟨i,hi,k⟩;rw[key] at k;obtain⟨k1,k2⟩:=k;obtain⟨k0,k3,k4⟩:=(hp i).1 k1
  rcases k2 with k2|⟨k5,k6,k7⟩
  .
   exact⟨i-1,om,by rw[show i-1+1=i by omega];exact k3,.inl (by rw[show i-1+1=i by omega];exact k2)⟩
  rw[hpe i k0 k3] at k5;obtain⟨j,j1,j2,j3⟩:=MO z.sets (i+1) (by rw[<- k5];exact k4)
  rw[<- k5] at j3;have hji:j<i:=by
   rcases Zd j i with e|e
   .
    exact e
   have:j=i:=by omega
   subst this;exact absurd j2 k6
  have hm:=RQ h (i:=j) (k:=j+1) (j:=i) (by omega) (by omega) hi j3
  refine⟨j,om,by rw[hm,j3],.inr ⟨j2,?_⟩⟩
  have:=NJ h hi
  by_cases e:j+1=i
  .
   rw[e];exact k7
  have:=Cb h (i:=j+1) (j:=i) om hi hm;omega
 rintro⟨i,hi,k1,k2⟩
 refine⟨i+1,hi,(key _).2 ⟨(hp _).2 ⟨om,k1,Cq h hi⟩,?_⟩⟩
 rcases k2 with k2|⟨k2,k3⟩
 .
  exact .inl k2
 have ht:=Cb h (i:=i) (j:=i+1) (by omega) hi k1
 by_cases e:z.sets[i+1]!.set.ty=3
 .
  exact .inl e
 refine .inr ⟨?_,e,k3⟩
 rw[hpe (i+1) (by omega) k1]
 show _=(if z.sets[i+1]!.set.ty=3 then _ else eT z.sets (i+1))
 rw[XZ e]
 show _=(if z.sets[i]!.set.ty=3 then z.sets[i]!.set.name else _)
 rw[X4 k2,k1]
theorem Zal:aliasB (layOf z)=threeB z:=by
 have h1:=Zam (z:=z)
 have h2:=NM h
 cases e1:aliasB (layOf z)<;>cases e2:threeB z
 .
  rfl
 .
  rw[e1] at h1;rw[e2] at h2;have:=h2.2 (h1.1 rfl);cases this
 .
  rw[e1] at h1;rw[e2] at h2;have:=h1.2 (h2.1 rfl);cases this
 rfl
end
def Top (C:Str->Prop) (n c:Str):Prop:=C c/\bQ n c /\ ∀ c',C c'->bQ c c'->c'=c
def sV (C:Str->Prop) (n b:Str):Prop:=(b=[] /\ ∀ c,C c -> ¬ bQ n c)\/(b≠[]/\Top C n b)
theorem Bb {C:Str->Prop}{n c c':Str}(h:Top C n c) (h1:C c') (h2:bQ n c'):bQ c' c:=by
 rcases ND h.2.1 h2 with k|k
 .
  rw[h.2.2 c' h1 k];exact A7 _
 exact k
theorem XB {C:Str->Prop}{n b b':Str}(h:sV C n b) (h':sV C n b'):b=b':=by
 rcases h with⟨h1,h2⟩|⟨h1,h2⟩<;>rcases h' with⟨k1,k2⟩|⟨k1,k2⟩
 .
  rw[h1,k1]
 .
  exact absurd k2.2.1 (h2 _ k2.1)
 .
  exact absurd h2.2.1 (k2 _ h2.1)
 exact ES (Bb k2 h2.1 h2.2.1) (Bb h2 k2.1 k2.2.1)
def iV (z:Zon) (c:Str):Prop:=∃ i,i<z.sets.length/\z.sets[i]!.set.ty=2/\z.sets[i]!.set.name≠z.apex/\z.sets[i]!.set.name=c
theorem SL {m:List Str}{a b:Str}:iw (mg m a) b=true ↔ b=a\/iw m b=true:=by
 unfold mg
 split
 .
  rename_i h
  constructor
  .
   exact fun k=>.inr k
  rintro (k|k)
  .
   rw[k];exact h
  exact k
 unfold iw
 simp only[XW,Yt,YL,ZK,or_false]
 exact⟨fun k=>k.symm,fun k=>k.symm⟩
theorem LG (z:Zon) (c:Str):∀ k,iw (bP z k) c=true ↔ ∃ i,i<k/\z.sets[i]!.set.ty=2/\z.sets[i]!.set.name≠z.apex/\z.sets[i]!.set.name=c
 | 0=>by simp[bP,iw]
 | k+1=>by
  have ih:=LG z c k
  by_cases e:z.sets[k]!.set.ty=2 /\ ¬ z.sets[k]!.set.name=z.apex
  .
   rw[LD e,SL,ih]
   constructor
   .
    rintro (k1|⟨i,k1,k2⟩)
    .
     exact⟨k,om,e.1,e.2,k1.symm⟩
    exact⟨i,om,k2⟩
   rintro⟨i,k1,k2⟩
   by_cases e2:i=k
   .
    subst e2;exact .inl k2.2.2.symm
   exact .inr ⟨i,om,k2⟩
  rw[LF e,ih]
  constructor
  .
   rintro⟨i,k1,k2⟩;exact⟨i,om,k2⟩
  rintro⟨i,k1,k2⟩
  by_cases e2:i=k
  .
   subst e2;exact absurd ⟨k2.1,k2.2.1⟩ e
  exact⟨i,om,k2⟩
theorem cutZ_mem {z:Zon}{c:Str}:iw (bP z z.sets.length) c=true ↔ iV z c:=LG z c _
theorem Ah (z:Zon) (c:Str):∀ k,c∈iC z k ↔ ∃ i,i<k/\z.sets[i]!.set.ty=2/\z.sets[i]!.set.name≠z.apex/\z.sets[i]!.set.name=c
 | 0=>by simp[iC]
 | k+1=>by
  have ih:=Ah z c k;unfold iC
  by_cases e:z.sets[k]!.set.ty=2/\z.sets[k]!.set.name≠z.apex
  .
   rw[X4 e,Yt,ih]
   constructor
   .
    rintro (⟨i,k1,k2⟩|k1)
    .
     exact⟨i,om,k2⟩
    exact⟨k,om,e.1,e.2,by simpa using (Yq.1 k1).symm⟩
   rintro⟨i,k1,k2⟩
   by_cases e2:i=k
   .
    subst e2;exact .inr (Yq.2 k2.2.2.symm)
   exact .inl ⟨i,om,k2⟩
  rw[XZ e,ih]
  constructor
  .
   rintro⟨i,k1,k2⟩;exact⟨i,om,k2⟩
  rintro⟨i,k1,k2⟩
  by_cases e2:i=k
  .
   subst e2;exact absurd ⟨k2.1,k2.2.1⟩ e
  exact⟨i,om,k2⟩
section
variable {z : Zon} (h : ZOrd z)
include h
theorem DR {c:Str}(hc:iV z c):nameOk c=true/\c≠[]:=by
 obtain⟨i,hi,_,_,rfl⟩:=hc
 exact⟨h.nms _ (dX hi),Cq h hi⟩
theorem Mo : ∀ k,k<=z.sets.length->(k=0\/sV (iV z) z.sets[k-1]!.set.name (bM (bP z z.sets.length) z.sets k).2)
 | 0,_=>.inl rfl
 | k+1,hk=>by
  have hk':k<z.sets.length:=by omega
  have hn:=h.nms _ (dX hk');have hne:=Cq h hk'
  right
  show sV (iV z) z.sets[k]!.set.name (stepC (bP z z.sets.length) (bM (bP z z.sets.length) z.sets k).2 z.sets[k]!.set.name)
  have ih:=Mo k (by omega)
  generalize hcut:(bM (bP z z.sets.length) z.sets k).2=cut at ih;generalize hN:z.sets[k]!.set.name=n at *;have A : ∀ c',iV z c'->bQ n c'->c'≠n->cut≠[]/\Top (iV z) n cut:=by
   intro c' hc hu hne';obtain⟨i,hi,hi2,hi3,hi4⟩:=hc;have hik:i<k:=by
    rcases Zd i k with e|e
    .
     exact e
    have h1:=rH h e hi;rw[hN,hi4] at h1;have h2:=A9 hu;have:=cm_nm.anti n c';exact absurd (vW (by omega:nmOrd c' n=0)) hne'
   have h1:bQ z.sets[k-1]!.set.name c':=by
    refine A8 hu ?_ ?_
    .
     rw[<- hi4];exact rH h (by omega) (by omega)
    rw[<- hN];exact rH h (by omega) hk'
   rcases ih with e|⟨e,e2⟩|⟨e,e2⟩
   .
    omega
   .
    exact absurd h1 (e2 _ ⟨i,hi,hi2,hi3,hi4⟩)
   have h3:=Bb e2 ⟨i,hi,hi2,hi3,hi4⟩ h1;exact⟨e,e2.1,AZ hu h3,e2.2.2⟩
  have B:(∀ c',iV z c'->bQ n c'->c'=n)->sV (iV z) n (if iw (bP z z.sets.length) n=true then n else []):=by
   intro hall
   by_cases e:iw (bP z z.sets.length) n=true
   .
    rw[X4 e];exact .inr ⟨hne,cutZ_mem.1 e,A7 _,hall⟩
   rw[XZ e];exact .inl ⟨rfl,fun c hc hu=>e (by rw[hall c hc hu] at hc;exact cutZ_mem.2 hc)⟩
  unfold stepC;dsimp only
  by_cases e1:cut≠[]/\underV n cut=false
  .
   rw[X4 e1];have hCc:iV z cut:=by
    rcases ih with e|⟨e,_⟩|⟨_,e⟩
    .
     subst e;exact absurd (show cut=[] from hcut.symm) e1.1
    .
     exact absurd e e1.1
    exact e.1
   have hall : ∀ c',iV z c'->bQ n c'->c'=n:=by
    intro c' hc hu
    apply YV
    intro hne';obtain⟨_,a2⟩:=A c' hc hu hne';have:=(xB hn (DR h hCc).1).2 a2.2.1;rw[e1.2] at this;cases this
   have:=B hall
   by_cases e:iw (bP z z.sets.length) n=true
   .
    rw[X4 ⟨rfl,e⟩];rw[X4 e] at this;exact this
   rw[XZ (fun q=>e q.2)];rw[XZ e] at this;exact this
  rw[XZ e1]
  by_cases e2:cut=[]
  .
   have hall : ∀ c',iV z c'->bQ n c'->c'=n:=by
    intro c' hc hu
    apply YV
    intro hne';exact (A c' hc hu hne').1 e2
   have:=B hall
   by_cases e:iw (bP z z.sets.length) n=true
   .
    rw[X4 ⟨e2,e⟩];rw[X4 e] at this;exact this
   rw[XZ (fun q=>e q.2),e2];rw[XZ e] at this;exact this
  rw[XZ (fun q=>e2 q.1)]
  have hT:Top (iV z) z.sets[k-1]!.set.name cut:=by
   rcases ih with e|⟨e,_⟩|⟨_,e⟩
   .
    subst e;exact absurd (show cut=[] from hcut.symm) e2
   .
    exact absurd e e2
   exact e
  have hu:underV n cut=true:=by
   cases e:underV n cut with
   | true=>rfl
   | false=>exact absurd ⟨e2,e⟩ e1
  exact .inr ⟨e2,hT.1,(xB hn (DR h hT.1).1).1 hu,hT.2.2⟩
omit h in
theorem XC (m:List Str) (l:List Sgd):∀ n k,k<n->(bM m l n).1[k]! = (bM m l (k+1)).2:=by
 intro n
 induction n with
 | zero=>intro k h;omega
 | succ n ih =>
  intro k h;have hl:=qU m l n;have e1:(bM m l (n+1)).1=(bM m l n).1++[(bM m l (n+1)).2]:=rfl
  by_cases e:k=n
  .
   subst e;rw[e1];simp[hl]
  rw[<- ih k (by omega),e1,getElem!_pos _ _ (by simp[hl];omega),getElem!_pos _ _ (by omega),List.getElem_append_left]
theorem XF {k:Nat}(hk:k<z.sets.length):sV (iV z) z.sets[k]!.set.name (uM z)[k]! := by
 unfold uM
 rw[XC _ _ _ _ hk]
 exact (Mo h (k+1) hk).resolve_left om
theorem LH : ∀ k,k<=z.sets.length->jv nmOrd (iC z k)
 | 0,_=>.nil
 | k+1,hk=>by
  have ih:=LH k (by omega)
  unfold iC
  split
  .
   rename_i e
   refine Zk.2 ⟨ih,ZB _ _,fun a ha b hb=>?_⟩
   rw[Yq] at hb;subst hb;obtain⟨i,hi,hi2,hi3,rfl⟩:=(Ah z a k).1 ha;have h1:=rH h (show i<=k by omega) (by omega)
   by_cases e2:nmOrd z.sets[i]!.set.name z.sets[k]!.set.name=0
   .
    have:=Cb h hi om (vW e2);omega
   omega
  exact ih
structure High (cs hs:List Str):Prop where
 sub : ∀ x∈hs,x∈cs
 cov : ∀ c∈cs,∃ x∈hs,bQ c x
 pair:hs.Pairwise fun a b=>nmOrd a b<0 /\ ¬ bQ b a
omit h in
theorem Je {α:Type}[Inhabited α] {l:List α}(h:l≠[]):l[l.length-1]! ∈ l:=dX (by have:=Zi.2 h;omega)
omit h in
theorem vz! {α:Type}[Inhabited α] {l:List α}{k:Nat}(h:k<l.length):l.take (k+1)=l.take k++[l[k]!]:=by
 rw[Y1,Ye h,getElem!_pos l k h]
 rfl
omit h in
theorem RH {α:Type}[Inhabited α] {r:α->α->Prop}{l:List α}(h:l.Pairwise r) {x:α}(hx:x∈l):x=l[l.length-1]! \/ r x l[l.length-1]! := by
 obtain⟨i,hi,rfl⟩:=mem_ix.1 hx
 by_cases e:i=l.length-1
 .
  left;rw[<- e]
 right
 rw[getElem!_pos l i hi,getElem!_pos l _ (by omega)]
 exact ZO.1 h i (l.length-1) hi om om
omit h in
theorem JM {cs:List Str}(hc:jv nmOrd cs):∀ k,k<=cs.length->High (cs.take k) (bA cs k)
 | 0,_=>⟨fun x hx=>(by simp[bA] at hx),fun c hc=>(by simp at hc),(by simp[bA])⟩
 | k+1,hk=>by
  have ih:=JM hc k (by omega)
  have hkl:k<cs.length:=by omega
  have ht:cs.take (k+1)=cs.take k++[cs[k]!]:=vz! hkl;have hlt : ∀ x∈cs.take k,nmOrd x cs[k]! < 0:=by
   intro x hx;obtain⟨i,hi,e⟩:=mem_ix.1 hx;rw[Yr] at hi;have e2:(cs.take k)[i]! = cs[i]! := by
    rw[getElem!_pos _ _ (by rw[Yr];omega),getElem!_pos _ _ (by omega),List.getElem_take]
   rw[<- e,e2];exact lJ hc om hkl
  unfold bA
  by_cases e:bA cs k=[]\/inB cs[k]! (bA cs k)[(bA cs k).length-1]! = false
  .
   rw[X4 e,ht];refine⟨fun x hx=>?_,fun c hc'=>?_,Zk.2 ⟨ih.pair,ZB _ _,fun a ha b hb=>?_⟩⟩
   .
    rcases Yt.1 hx with hx|hx
    .
     exact ZW _ (ih.sub x hx)
    exact List.mem_append_right _ hx
   .
    rcases Yt.1 hc' with hc'|hc'
    .
     obtain⟨x,hx,hu⟩:=ih.cov c hc';exact⟨x,ZW _ hx,hu⟩
    exact⟨c,List.mem_append_right _ hc',A7 _⟩
   rw[Yq] at hb;subst hb;refine⟨hlt a (ih.sub a ha),fun hu=>?_⟩
   have hne:bA cs k≠[]:=fun q=>by rw[q] at ha;cases ha
   have hin:=e.resolve_left hne;have hnl : ¬ bQ cs[k]! (bA cs k)[(bA cs k).length-1]! := fun q=>by rw[inB_und.2 q] at hin;cases hin
   rcases RH ih.pair ha with q|q
   .
    rw[<- q] at hnl;exact hnl hu
   have hl:=hlt _ (ih.sub _ (Je hne));exact q.2 (A8 hu om om)
  rw[XZ e,ht];have hne:bA cs k≠[]:=fun q=>e (.inl q)
  have hin:bQ cs[k]! (bA cs k)[(bA cs k).length-1]! := by
   apply inB_und.1
   cases q:inB cs[k]! (bA cs k)[(bA cs k).length-1]! with
   | true=>rfl
   | false=>exact absurd (.inr q) e
  refine⟨fun x hx=>ZW _ (ih.sub x hx),fun c hc'=>?_,ih.pair⟩
  rcases Yt.1 hc' with hc'|hc'
  .
   exact ih.cov c hc'
  rw[Yq] at hc';subst hc';exact⟨_,Je hne,hin⟩
theorem UA:(∀ x∈highF z,iV z x)/\(∀ c,iV z c -> ∃ x∈highF z,bQ c x)/\(highF z).Pairwise fun a b=>nmOrd a b<0 /\ ¬ bQ b a:=by
 have hh:=JM (LH h z.sets.length (XX _)) _ (XX _)
 rw[YB] at hh
 exact⟨fun x hx=>(Ah z x _).1 (hh.sub x hx),fun c hc=>hh.cov c ((Ah z c _).2 hc),hh.pair⟩
omit h in
theorem Zao (hs:List Str) (n:Str):∀ m i,hs.length-i<=m->i<=hs.length->(∀ k,k<i->nmOrd hs[k]! n<=0)->(∀ k,k<jU hs n i->nmOrd hs[k]! n<=0)/\(jU hs n i<hs.length -> ¬ nmOrd hs[jU hs n i]! n<=0):=by
 intro m
 induction m with
 | zero=>intro i h1 h2 h3;rw[qW,XZ (by omega)];exact⟨h3,fun h=>by omega⟩
 | succ m ih =>
  intro i h1 h2 h3;rw[qW]
  by_cases e:i<hs.length
  .
   rw[X4 e]
   by_cases e2:nmOrd hs[i]! n<=0
   .
    rw[X4 e2];refine ih (i+1) om om fun k hk=>?_
    by_cases e3:k=i
    .
     subst e3;exact e2
    exact h3 k om
   rw[XZ e2];exact⟨h3,fun _=>e2⟩
  rw[XZ e];exact⟨h3,fun h=>absurd h e⟩
theorem MP (hs:List Str):∀ k,k<=z.sets.length->eG hs z.sets k<=hs.length/\(0<k->(∀ i,i<eG hs z.sets k->nmOrd hs[i]! z.sets[k-1]!.set.name<=0)/\(eG hs z.sets k<hs.length -> ¬ nmOrd hs[eG hs z.sets k]! z.sets[k-1]!.set.name<=0))
 | 0,_=>⟨Yl _,fun h=>by omega⟩
 | k+1,hk=>by
  obtain⟨h1,h2⟩:=MP hs k om;have h3 : ∀ i,i<eG hs z.sets k->nmOrd hs[i]! z.sets[k]!.set.name<=0:=by
   intro i hi
   by_cases e:k=0
   .
    subst e;exact absurd hi (Nat.not_lt_zero _)
   exact cm_nm.tr _ _ _ ((h2 om).1 i hi) (rH h om om)
  exact⟨(Zap hs _ _ _ (XX _) h1).2,fun _=>Zao hs z.sets[k]!.set.name _ _ (XX _) h1 h3⟩
omit h in
theorem XE (hs:List Str) (l:List Sgd):∀ n k,k<n->(iT hs l n)[k]! = eQ hs l[k]!.set.name (eG hs l (k+1)):=by
 intro n
 induction n with
 | zero=>intro k h;omega
 | succ n ih =>
  intro k h;have hl:=o8 hs l n;have e1:iT hs l (n+1)=iT hs l n++[eQ hs l[n]!.set.name (eG hs l (n+1))]:=rfl
  by_cases e:k=n
  .
   subst e;rw[e1];simp[hl]
  rw[<- ih k (by omega),e1,getElem!_pos (iT hs l n++_) k (by simp[hl];omega),getElem!_pos (iT hs l n) k (by omega),List.getElem_append_left]
theorem XD {k:Nat}(hk:k<z.sets.length):sV (iV z) z.sets[k]!.set.name (behR z)[k]! := by
 unfold behR
 rw[XE _ _ _ _ hk]
 obtain⟨g1,g2,g3⟩:=UA h
 obtain⟨a1,a2⟩:=MP h (highF z) (k+1) hk
 obtain⟨a3,a4⟩:=a2 om
 rw[show k+1-1=k from rfl] at a3 a4
 generalize eG (highF z) z.sets (k+1)=j at *
 generalize z.sets[k]!.set.name=n at *
 have pr : ∀ i i',i<i'->i'<(highF z).length->nmOrd (highF z)[i]! (highF z)[i']! < 0 /\ ¬ bQ (highF z)[i']! (highF z)[i]! := by
  intro i i' h1 h2;rw[getElem!_pos _ i (by omega),getElem!_pos _ i' h2]
  exact ZO.1 g3 i i' om h2 h1
 unfold eQ
 by_cases e:0<j/\inB n (highF z)[j-1]! = true
 .
  rw[X4 e];have hm:(highF z)[j-1]! ∈ highF z:=dX om;refine .inr ⟨(DR h (g1 _ hm)).2,g1 _ hm,inB_und.1 e.2,fun c' hc' hu=>?_⟩
  obtain⟨x,hx,hxu⟩:=g2 c' hc';have hxx:bQ (highF z)[j-1]! x:=AZ hu hxu;obtain⟨i,hi,rfl⟩:=mem_ix.1 hx;have hij:i=j-1:=by
   rcases Nat.lt_trichotomy i (j-1) with q|q|q
   .
    exact absurd hxx (pr i (j-1) q om).2
   .
    exact q
   have:=(pr (j-1) i q hi).1;have:=A9 hxx;have:=cm_nm.anti (highF z)[j-1]! (highF z)[i]!;omega
  rw[hij] at hxu;exact ES hxu hu
 rw[XZ e]
 refine .inl ⟨rfl,fun c hc hu=>?_⟩
 obtain⟨x,hx,hxu⟩:=g2 c hc
 have hnx:bQ n x:=AZ hu hxu
 obtain⟨i,hi,rfl⟩:=mem_ix.1 hx
 have hle:=A9 hnx
 have hij:i<j:=by
  rcases Zd i j with q|q
  .
   exact q
  exfalso
  have h5:=a4 (by omega)
  by_cases q2:i=j
  .
   subst q2;exact h5 hle
  have h6:=(pr j i (by omega) hi).1
  exact h5 (cm_nm.tr _ _ _ om hle)
 by_cases q:i=j-1
 .
  exact e ⟨om,by rw[<- q];exact inB_und.2 hnx⟩
 have h6:=pr i (j-1) (by omega) (by omega)
 exact h6.2 (A8 hnx om (a3 (j-1) om))
theorem Mq:uM z=behR z:=by
 have l1:(uM z).length=z.sets.length:=qU _ _ _
 have l2:(behR z).length=z.sets.length:=o8 _ _ _
 exact zb! om fun i hi=>XB (XF h om) (XD h om)
theorem U7:(glueB (layOf z)&&formB (layOf z))=fiveB z:=by
 unfold fiveB oU glueB formB layOf
 rw[Zah,Mq h,Bool.and_comm]
theorem WH:cutB (layOf z)=fourB z:=by
 unfold fourB layOf
 rw[Mq h]
end
theorem uV (z:Zon):zoneOk z=refOk z:=by
 unfold zoneOk refOk
 by_cases e:ordered z=true
 .
  have h:=ordered_iff.1 e;rw[<- Ia,Zac h,Zal h,WH h,<- U7 h];simp only[Z0]
 rw[<- Ia]
 have:ordered z=false:=by simpa using e
 rw[this]
 simp
theorem lG {z:Zon}(h:zoneOk z=true):ZOrd z:=by
 unfold zoneOk at h
 simp only[XV] at h
 exact ordered_iff.1 h.1.1.1.1.1
theorem F3 {z:Zon}(h:zoneOk z=true):serialOf z=serialR z:=by
 have ho:=lG h
 unfold serialOf serialR
 rw[Vf ho (q:=⟨z.apex,4⟩) ho.apex (vK (by rw[<- uV];exact h))]
end Go.Zon
namespace Go.Zon
open Go.DL Go.Str Go.Rec Go.Cmp
@[go_sem] theorem ZcW {kv:List D}:(D.fmap kv).cells=[.fmap kv]:=rfl
@[go_sem] theorem one_fmap {kv:List D}:(D.fmap kv).one=true:=rfl
@[go_sem] theorem cells_mp {r:Nat}:(D.mp r).cells=[.mp r]:=rfl
@[go_sem] theorem one_mp {r:Nat}:(D.mp r).one=true:=rfl
@[go_sem] theorem one_map {o:Option Nat}:(D.v (.map o)).one=true:=rfl
theorem Sg {m:PZ}:aW [.fmap (ji m)]=true:=by simp only[aW,D.nr,IA,ZV]
theorem xu {z:Zon}(h:zoneOk z=true):dY z.sets:=Qw (by rw[<- uV];exact h)
theorem KE {l:List Sgd}(h:dY l) {x:Sgd}(hx:x∈l):sG x:=by
 obtain⟨i,hi,rfl⟩:=mem_ix.1 hx
 exact h.2 i hi
theorem KD {l:List Sgd}(hl:l.length<=1000000) (h : ∀ x∈l,sG x):dY l:=⟨hl,fun k hk=>h _ (dX hk)⟩
theorem IZ {l:List Sgd}{q:Qst}:∀ k,k<=l.length->((fQ (nW l k) q).isSome=true ↔ ∃ s∈l.take k,s.q=q)
 | 0,_=>by simp[nW,fQ]
 | k+1,hk=>by
  have ih:=IZ (l:=l) (q:=q) k (by omega)
  have e:l.take (k+1)=l.take k++[l[k]!]:=by
   rw[Y1,Ye (by omega),getElem!_pos l k (by omega)];rfl
  show (fQ (rP (nW l k) l[k]!) q).isSome=true ↔ _
  rw[Sz,e]
  by_cases h2:l[k]!.q=q
  .
   rw[X4 h2];exact⟨fun _=>⟨l[k]!,by simp,h2⟩,fun _=>rfl⟩
  rw[XZ h2,ih]
  constructor
  .
   rintro⟨s,h3,h4⟩;exact⟨s,ZW _ h3,h4⟩
  rintro⟨s,h3,h4⟩
  rcases Yt.1 h3 with h5|h5
  .
   exact⟨s,h5,h4⟩
  rw[Yq] at h5;subst h5;exact absurd h4 h2
theorem SY {l:List Sgd}{q:Qst}:(eD (mapP l) q).isSome=true ↔ ∃ s∈l,s.q=q:=by
 rw[Ru]
 unfold vX
 rw[IZ _ (XX _),YB]
theorem JS {put:List Sgd}{drop:List Qst}{q:Qst}:(eD (mM put drop) q).isSome=true ↔ (q∈drop \/ ∃ s∈put,s.q=q):=by
 unfold mM
 rw[JU _ _ _ _ (XX _),YB,MX,SY]
def leS (a b:Sgd):Bool:=decide (sp a b<=0)
def leQ (a b:Qst):Bool:=decide (qp a b<=0)
def uo {α:Type}(le:α->α->Bool) (a:α):List α->List α
 | []=>[a]
 | b::l=>if le a b then a::b::l else b::uo le a l
def xQ {α:Type}(le:α->α->Bool) (l:List α):List α:=l.foldr (uo le) []
theorem JI {α:Type}(le:α->α->Bool) (a:α) (l:List α):(uo le a l).Perm (a::l):=by
 induction l with
 | nil=>exact .refl _
 | cons b l ih =>
  unfold uo
  split
  .
   exact .refl _
  exact (List.Perm.cons b ih).trans (List.Perm.swap a b l)
theorem OO {α:Type}(le:α->α->Bool) (l:List α):(xQ le l).Perm l:=by
 induction l with
 | nil=>exact .refl _
 | cons a l ih=>exact (JI le a _).trans (List.Perm.cons a ih)
theorem Ur {α:Type}{le:α->α->Bool}(tr : ∀ a b c,le a b=true->le b c=true->le a c=true) (tot : ∀ a b,(le a b||le b a)=true) (a:α) (l:List α) (h:l.Pairwise fun a b=>le a b=true):(uo le a l).Pairwise fun a b=>le a b=true:=by
 induction l with
 | nil=>exact ZB _ _
 | cons b l ih =>
  have h':=Y3.1 h;unfold uo
  split
  .
   rename_i e
   refine Y3.2 ⟨fun z hz=>?_,h⟩
   rcases YL.1 hz with q|q
   .
    rw[q];exact e
   exact tr a b z e (h'.1 z q)
  rename_i e
  refine Y3.2 ⟨fun z hz=>?_,ih h'.2⟩
  rcases YL.1 ((JI le a l).mem_iff.1 hz) with q|q
  .
   rw[q];have:=tot a b;rw[Yc] at this;exact this.resolve_left e
  exact h'.1 z q
theorem OM {α:Type}{le:α->α->Bool}(tr : ∀ a b c,le a b=true->le b c=true->le a c=true) (tot : ∀ a b,(le a b||le b a)=true) (l:List α):(xQ le l).Pairwise fun a b=>le a b=true:=by
 induction l with
 | nil=>exact .nil
 | cons a l ih=>exact Ur tr tot a _ ih
def dS (l:List Sgd):List Sgd:=xQ leS l
def OL (l:List Qst):List Qst:=xQ leQ l
theorem WX {α:Type}{c:α->α->Int}(h:Cm c) (a b:α):(decide (c a b<=0)||decide (c b a<=0))=true:=by
 have:=h.anti a b
 by_cases e:c a b<=0
 .
  simp[e]
 have:c b a<=0:=by omega
 simp[this]
theorem vD (l:List Sgd):(dS l).Perm l:=OO _ l
theorem OI (l:List Sgd):(dS l).Pairwise fun a b=>sp a b<=0 :=
 (OM (le:=leS) (fun a b c h1 h2=>YX (cm_s.tr a b c (Zl h1) (Zl h2))) (fun a b=>WX cm_s a b) l).imp fun h=>Zl h
def Once (l:List Sgd):Prop:=l.Pairwise fun a b=>a.q≠b.q
theorem Il {l m:List Sgd}(h:Once l) (p:m.Perm l):Once m:=p.symm.pairwise h fun e=>e.symm
theorem Ib {l:List Sgd}(h:Ord l):Once l:=h.imp fun {a b} k e=>by unfold sp at k;rw[qp_eq.2 e] at k;omega
theorem Ik {l:List Sgd}(h:Once l) (hs:l.Pairwise fun a b=>sp a b<=0):Ord l:=(hs.and h).imp fun {a b} k=>by
 by_cases e:sp a b=0
 .
  exact absurd (qp_eq.1 e) k.2
 have:=k.1;omega
theorem Fx {l:List Sgd}(h:Once l):Ord (dS l):=Ik (Il h (vD l)) (OI l)
theorem OJ {l m:List Sgd}(ho:Once l) (hp:m.Perm l) (hs:m.Pairwise fun a b=>sp a b<=0):m=dS l :=
 Bg cm_s (Ik (Il ho hp) hs) (Fx ho) fun x=>by rw[hp.mem_iff,(vD l).mem_iff]
theorem sortS_mem {l:List Sgd}{x:Sgd}:x∈dS l ↔ x∈l:=(vD l).mem_iff
theorem xP (l:List Sgd):(dS l).length=l.length:=(vD l).length_eq
theorem Qk {α:Type}{d:α->List D}{of:List D->α}(hof : ∀ x,of (d x)=x) {l:List α}{rows:List (List D)}(p:rows.Perm (l.map d)):(rows.map of).map d=rows/\(rows.map of).Perm l:=by
 constructor
 .
  rw[List.map_map]
  conv=>rhs;rw[<- List.map_id rows]
  refine Zy fun x hx=>?_
  obtain⟨y,_,rfl⟩:=Y2.1 (p.mem_iff.1 hx)
  show d (of (d y))=d y
  rw[hof]
 have:=p.map of
 rwa [lM hof] at this
structure DOk (d:Dlt):Prop where
 apex:nameOk d.apex=true
 wild:wildB d.apex=false
 frm:serB d.frm=true
 too:serB d.too=true
 bef:befB d.frm d.too=true
 dlen:d.drop.length<=20000
 plen:d.put.length<=20000
 dok : ∀ q∈d.drop,qOk q=true
 dord:jv qp d.drop
 pok : ∀ s∈d.put,nz s.set
 pord:Ord d.put
 apart : ∀ s∈d.put,s.q ∉ d.drop
theorem mr {q:Qst}(h:qOk q=true):nameOk q.name=true:=by unfold qOk at h;rw[XV] at h;exact h.1
theorem dlt_iff {d:Dlt}:dltOk d=true ↔ DOk d:=by
 have hd : ∀ i,lm d.drop i=true ↔ (qOk d.drop[i]! = true/\(i=0\/qO d.drop[i-1]! d.drop[i]! < 0)):=by intro i;simp[lm]
 have hp : ∀ i,putAt d i=true ↔ ((setOk d.put[i]!.set=true/\(i=0\/qO d.put[i-1]!.q d.put[i]!.q<0))/\askB d.drop d.put[i]!.q=false):=by intro i;simp[putAt]
 unfold dltOk
 simp only[XV,Yd,XW,dJ]
 constructor
 .
  rintro⟨⟨⟨⟨⟨⟨⟨⟨h1,h2⟩,h3⟩,h4⟩,h5⟩,h6⟩,h7⟩,h8⟩,h9⟩;have h8 : ∀ i,i<d.drop.length->_:=fun i hi=>(hd i).1 (h8 i (Yl _) hi)
  have h9 : ∀ i,i<d.put.length->_:=fun i hi=>(hp i).1 (h9 i (Yl _) hi)
  refine⟨h1,h2,h3,h4,h5,h6,h7,all_ix.2 fun i hi=>(h8 i hi).1,xL cm_q fun i h0 hi=>?_,all_ix.2 fun i hi=>(eO _).1 (h9 i hi).1.1,xL cm_s fun i h0 hi=>?_,all_ix.2 fun i hi=>of_decide_eq_false (h9 i hi).2⟩
  .
   have:=(h8 i hi).2.resolve_left om;rwa [pX (mr (h8 (i-1) om).1) (mr (h8 i hi).1)] at this
  have:=(h9 i hi).1.2.resolve_left om;have n1:nameOk d.put[i-1]!.q.name=true:=((eO _).1 (h9 (i-1) om).1.1).name;have n2:nameOk d.put[i]!.q.name=true:=((eO _).1 (h9 i hi).1.1).name;rwa [pX n1 n2] at this
 intro h
 refine⟨⟨⟨⟨⟨⟨⟨⟨h.apex,h.wild⟩,h.frm⟩,h.too⟩,h.bef⟩,h.dlen⟩,h.plen⟩,fun i _ hi=>(hd i).2 ⟨h.dok _ (dX hi),?_⟩⟩,fun i _ hi=>(hp i).2 ⟨⟨(eO _).2 (h.pok _ (dX hi)),?_⟩,YE (h.apart _ (dX hi))⟩⟩
 .
  by_cases e:i=0
  .
   exact .inl e
  right
  rw[pX (mr (h.dok _ (dX (by omega)))) (mr (h.dok _ (dX hi)))]
  exact lJ h.dord om hi
 by_cases e:i=0
 .
  exact .inl e
 right
 have n1:nameOk d.put[i-1]!.q.name=true:=(h.pok _ (dX (show i-1<d.put.length by omega))).name
 have n2:nameOk d.put[i]!.q.name=true:=(h.pok _ (dX hi)).name
 rw[pX n1 n2]
 exact lJ h.pord om hi
def ll (l:List Qst) (i:Nat):Bool:=qOk l[i]! && (decide (i=0)||decide (qC l[i-1]! l[i]! < 0))
def kR (d:Dlt) (i:Nat):Bool:=setOk d.put[i]!.set && !askB d.drop d.put[i]!.q&&(decide (i=0)||decide (qC d.put[i-1]!.q d.put[i]!.q<0))
def mY (d:Dlt):Bool:=nameOk d.apex && !wildB d.apex&&serB d.frm&&serB d.too&&befB d.frm d.too&&decide (d.drop.length<=20000)&&decide (d.put.length<=20000)&&av d.drop.length (ll d.drop) 0&&av d.put.length (kR d) 0
theorem qN (d:Dlt):mY d=dltOk d:=by
 have e1:av d.drop.length (ll d.drop) 0=av d.drop.length (lm d.drop) 0:=by
  rw[Zb,dJ,dJ];have hC : ∀ i,ll d.drop i=true ↔ (qOk d.drop[i]! = true/\(i=0\/qC d.drop[i-1]! d.drop[i]! < 0)):=by intro i;simp[ll]
  have hO : ∀ i,lm d.drop i=true ↔ (qOk d.drop[i]! = true/\(i=0\/qO d.drop[i-1]! d.drop[i]! < 0)):=by intro i;simp[lm]
  constructor
  .
   intro h i _ hi;have h1:=(hC i).1 (h i (Yl _) hi);have h2:=(hC (i-1)).1 (h (i-1) (Yl _) (by omega))
   exact (hO i).2 ⟨h1.1,h1.2.imp id fun k=>by rwa [<- vN (mr h2.1) (mr h1.1)]⟩
  intro h i _ hi;have h1:=(hO i).1 (h i (Yl _) hi);have h2:=(hO (i-1)).1 (h (i-1) (Yl _) (by omega))
  exact (hC i).2 ⟨h1.1,h1.2.imp id fun k=>by rwa [vN (mr h2.1) (mr h1.1)]⟩
 have e2:av d.put.length (kR d) 0=av d.put.length (putAt d) 0:=by
  rw[Zb,dJ,dJ];have hC : ∀ i,kR d i=true ↔ ((setOk d.put[i]!.set=true/\askB d.drop d.put[i]!.q=false)/\(i=0\/qC d.put[i-1]!.q d.put[i]!.q<0)):=by intro i;simp[kR]
  have hO : ∀ i,putAt d i=true ↔ ((setOk d.put[i]!.set=true/\(i=0\/qO d.put[i-1]!.q d.put[i]!.q<0))/\askB d.drop d.put[i]!.q=false):=by intro i;simp[putAt]
  have nm : ∀ i:Nat,setOk d.put[i]!.set=true->nameOk d.put[i]!.q.name=true:=fun i h=>((eO _).1 h).name
  constructor
  .
   intro h i _ hi;have h1:=(hC i).1 (h i (Yl _) hi);have h2:=(hC (i-1)).1 (h (i-1) (Yl _) (by omega))
   exact (hO i).2 ⟨⟨h1.1.1,h1.2.imp id fun k=>by rwa [<- vN (nm _ h2.1.1) (nm _ h1.1.1)]⟩,h1.1.2⟩
  intro h i _ hi;have h1:=(hO i).1 (h i (Yl _) hi);have h2:=(hO (i-1)).1 (h (i-1) (Yl _) (by omega))
  exact (hC i).2 ⟨⟨h1.1.1,h1.2⟩,h1.1.2.imp id fun k=>by rwa [vN (nm _ h2.1.1) (nm _ h1.1.1)]⟩
 unfold mY dltOk
 rw[e1,e2]
def kY (m:List Qst):List D:=m.flatMap fun q=>[.agg q.d,.b true]
theorem wh (q:Qst) (m:List Qst):kY (q::m) = .agg q.d :: .b true::kY m:=rfl
@[go_sem] theorem kvS_nil:kY []=[]:=rfl
def kQ (m:List Qst) (q:Qst):List Qst:=if askB m q then m else m++[q]
theorem TF {m:List Qst}{q:Qst}:(gB (kY m) (.agg q.d)).getD (.v (.bool false)) = .v (.bool (askB m q)):=by
 induction m with
 | nil=>rfl
 | cons s m ih =>
  rw[wh];simp only[gB,wu]
  by_cases h:q=s
  .
   subst h;simp[askB]
  simp only[h,decide_false,Yo,Y8,ih,askB,YL,false_or]
@[go_sem] theorem kvGetD_S {m:List Qst}{q:Qst}:(gB (kY m) (.agg [.v (.string (bs q.name)),.i q.ty])).getD (.v (.bool false)) = .v (.bool (askB m q)):=TF
theorem Tx {m:List Qst}{q:Qst}:fG (kY m) (.agg q.d) (.v (.bool true))=kY (kQ m q):=by
 induction m with
 | nil=>rfl
 | cons s m ih =>
  rw[wh];simp only[fG,wu]
  by_cases h:q=s
  .
   subst h;have:kQ (q::m) q=q::m:=by simp[kQ,askB]
   rw[this,wh]
   simp
  have h2:kQ (s::m) q=s::kQ m q:=by
   unfold kQ askB
   by_cases e:q∈m<;>simp[h,e]
  rw[h2,wh];simp only[h,decide_false,Yo,Y8,ih]
@[go_sem] theorem kvSet_S {m:List Qst}{q:Qst}:fG (kY m) (.agg [.v (.string (bs q.name)),.i q.ty]) (.v (.bool true))=kY (kQ m q):=Tx
def nL (l:List Qst):Nat->List Qst
 | 0=>[]
 | k+1=>kQ (nL l k) l[k]!
@[go_sem] theorem qsTo_0 {l:List Qst}:nL l 0=[]:=rfl
theorem Q7 {m:List Qst}{q x:Qst}:x∈kQ m q ↔ x=q\/x∈m:=by
 unfold kQ askB
 by_cases e:q∈m
 .
  simp only[e,decide_true,ZL];exact⟨fun h=>.inr h,fun h=>h.elim (fun k=>k ▸ e) id⟩
 simp only[e,decide_false,Yo,Y8,Yt,Yq]
 exact⟨fun h=>h.symm,fun h=>h.symm⟩
theorem G8 {l:List Qst}{x:Qst}:∀ k,k<=l.length->(x∈nL l k ↔ x∈l.take k)
 | 0,_=>by simp[nL]
 | k+1,hk=>by
  have e:l.take (k+1)=l.take k++[l[k]!]:=by
   rw[Y1,Ye (by omega),getElem!_pos l k (by omega)];rfl
  show x∈kQ _ _ ↔ _
  rw[Q7,G8 k (by omega),e,Yt,Yq]
  exact⟨fun h=>h.symm,fun h=>h.symm⟩
@[go_sem] theorem ask_qs {l:List Qst}{q:Qst}:askB (nL l l.length) q=askB l q:=by
 unfold askB
 rw[ZI,G8 _ (XX _),YB]
def bW (z:Zon) (d:Dlt):List Sgd:=z.sets.filterMap (fq (mM d.put d.drop))
def iq (z:Zon) (d:Dlt):Zon:=⟨z.apex,dS (bW z d++d.put)⟩
def applyP (z:Zon) (d:Dlt):Zon×Int :=
 if zoneOk z=false\/dltOk d=false\/z.apex≠d.apex then (zon0,1) else if serialOf z≠d.frm then (zon0,23) else
 if 20000<(bW z d).length+d.put.length then (zon0,2) else
 if zoneOk (iq z d)=false\/serialOf (iq z d)≠d.too then (zon0,35) else (iq z d,0)
theorem UH {m:PM}{l:List Sgd}{x:Sgd}:x∈l.filterMap (fq m) ↔ x∈l/\eD m x.q=none:=by
 rw[Z9]
 unfold fq newB
 constructor
 .
  rintro⟨y,hy,h⟩
  cases e:eD m y.q with
  | none=>simp[e] at h;subst h;exact⟨hy,e⟩
  | some v=>simp[e] at h
 rintro⟨h1,h2⟩;exact⟨x,h1,by simp[h2]⟩
theorem stay_mem {z:Zon}{d:Dlt}{x:Sgd}:x∈bW z d ↔ x∈z.sets/\x.q ∉ d.drop /\ ∀ s∈d.put,s.q≠x.q:=by
 unfold bW
 rw[UH]
 have:eD (mM d.put d.drop) x.q=none ↔ ¬ (eD (mM d.put d.drop) x.q).isSome=true:=by cases eD (mM d.put d.drop) x.q<;>simp
 rw[this,JS]
 constructor
 .
  rintro⟨h1,h2⟩;exact⟨h1,fun h=>h2 (.inl h),fun s hs e=>h2 (.inr ⟨s,hs,e⟩)⟩
 rintro⟨h1,h2,h3⟩;exact⟨h1,fun h=>h.elim h2 fun ⟨s,hs,e⟩=>h3 s hs e⟩
theorem U9 {α:Type}{r:α->α->Prop}{f:α->Option α}(hf : ∀ x y,f x=some y->y=x) {l:List α}(h:l.Pairwise r):(l.filterMap f).Pairwise r:=by
 induction l with
 | nil=>exact .nil
 | cons x l ih =>
  have h':=Y3.1 h;rw[List.filterMap_cons]
  split
  .
   exact ih h'.2
  rename_i y hy
  refine Y3.2 ⟨fun z hz=>?_,ih h'.2⟩
  obtain⟨w,hw,hwz⟩:=Z9.1 hz;rw[hf x y hy,hf w z hwz];exact h'.1 w hw
theorem JV (m:PM) (x y:Sgd) (h:fq m x=some y):y=x:=by
 unfold fq at h
 split at h
 .
  exact (Z8 h).symm
 cases h
theorem Fp {z:Zon}{d:Dlt}(h:Ord z.sets):Ord (bW z d):=U9 (JV _) h
theorem IL {z:Zon}{d:Dlt}(hz:Ord z.sets) (hd:Ord d.put):Once (bW z d++d.put) :=
 Zk.2 ⟨Ib (Fp hz),Ib hd,fun a ha b hb e=>(stay_mem.1 ha).2.2 b hb e.symm⟩
theorem Oq (z:Zon) (d:Dlt):(bW z d).length<=z.sets.length:=List.length_filterMap_le _ _
theorem Sv (z:Zon) (d:Dlt):(iq z d).sets.length=(bW z d).length+d.put.length:=by
 show (dS _).length=_
 rw[xP,XY]
theorem Pd {s:Sgd}(h:s.set.data.length<=100000) (k:s.sigs.length<=100000):sG s:=⟨h,k⟩
end Go.Zon
namespace Go.Zon
open Go.DL Go.Str Go.Rec Go.Cmp
@[go_sem] theorem Zar:zon0.apex=[]:=rfl
@[go_sem] theorem Zaq:zon0.sets=[]:=rfl
@[go_sem] theorem dlt0_put:dlt0.put=[]:=rfl
@[go_sem] theorem Zce:dlt0.drop=[]:=rfl
@[go_sem] theorem Zcf:dlt0.apex=[]:=rfl
@[go_sem] theorem dlt0_frm:dlt0.frm=0:=rfl
@[go_sem] theorem dlt0_too:dlt0.too=0:=rfl
section
variable {a b : Zon}
end
structure AOk (z:Zon) (d:Dlt):Prop where
 zok:zoneOk z=true
 dok:dltOk d=true
 apex:z.apex=d.apex
 frm:serialOf z=d.frm
 new:zoneOk (iq z d)=true
 too:serialOf (iq z d)=d.too
theorem XN (z:Zon) (d:Dlt):applyP z d=(zon0,1)\/(applyP z d=(zon0,23)/\serialOf z≠d.frm)\/applyP z d=(zon0,2)\/applyP z d=(zon0,35)\/(applyP z d=(iq z d,0)/\AOk z d):=by
 unfold applyP
 by_cases h1:zoneOk z=false\/dltOk d=false\/z.apex≠d.apex
 .
  exact .inl (X4 h1)
 rw[XZ h1]
 by_cases h2:serialOf z≠d.frm
 .
  exact .inr (.inl ⟨X4 h2,h2⟩)
 rw[XZ h2]
 by_cases h3:20000<(bW z d).length+d.put.length
 .
  exact .inr (.inr (.inl (X4 h3)))
 rw[XZ h3]
 by_cases h4:zoneOk (iq z d)=false\/serialOf (iq z d)≠d.too
 .
  exact .inr (.inr (.inr (.inl (X4 h4))))
 refine .inr (.inr (.inr (.inr ⟨XZ h4,?_,?_,?_,?_,?_,?_⟩)))
 .
  cases q:zoneOk z with|true=>rfl|false=>exact absurd (.inl q) h1
 .
  cases q:dltOk d with|true=>rfl|false=>exact absurd (.inr (.inl q)) h1
 .
  exact YV fun q=>h1 (.inr (.inr q))
 .
  exact YV fun q=>h2 q
 .
  cases q:zoneOk (iq z d) with|true=>rfl|false=>exact absurd (.inl q) h4
 exact YV fun q=>h4 (.inr q)
theorem Mt {a b:Int}(h:befB a b=true) (hb:serB b=true):b≠a:=by
 rintro rfl
 unfold befB at h
 simp at h
theorem Vk {d:Dlt}(h:fewD d=true):dY d.put:=by
 unfold fewD at h
 simp only[XV,XW] at h
 refine⟨om,fun k hk=>?_⟩
 have:=(dJ _ _ _).1 h.1.1 k (Yl _) om
 simp only[XV,XW] at this
 exact⟨om,om⟩
theorem pQ (z:Zon):sameZ z z=true:=YX rfl
end Go.Zon
namespace Go.Jn
open Go.DL Go.Str Go.Rec Go.Cmp Go.Zon
structure Dsk where
 safe:Str
 pend:List Str
 deriving Inhabited,DecidableEq
def byR (s:Str):List D:=[.list false (s.map bD)]
def ofBy:List D->Str
 | [x]=>bytes1 x
 | _=>[]
def Dsk.d (x:Dsk):List D:=[.list false (x.safe.map bD),.list false (x.pend.map byR)]
def Dsk.of:List D->Dsk
 | [x,.list _ rows]=>⟨bytes1 x,rows.map ofBy⟩
 | _=>default
def dsk1:D->Dsk:=nu Dsk.of default
def byte1:D->UInt8
 | .v (.int _ n)=>UInt8.ofNat n.toNat
 | _=>0
@[go_sem] theorem byte1_v {k:IntKind}{n:Int}:byte1 (.v (.int k n))=UInt8.ofNat n.toNat:=rfl
def pend1:D->List Str:=ul ofBy
def dsk0:Dsk:=⟨[],[]⟩
def dP (d:Nat) (c:UInt8):Nat:=((d ^^^ c.toNat)*1099511628211) % 18446744073709551616
def qP:Nat:=14695981039346656037
def dig (l:Str):Nat:=l.foldl dP qP
def bB (u:Nat):Nat->Str
 | 0=>[]
 | k+1=>dE u (8*k)::bB u k
theorem bZ (u:Nat):∀ k,(bB u k).length=k
 | 0=>rfl
 | k+1=>by simp[bB,bZ u k]
theorem XI (n:Int):bB (uN n) 8=aT n:=rfl
theorem Mg (u:Nat):dE u 0=eZ u:=by simp[dE,eZ]
theorem Au (u:Nat):bB u 1=[eZ u]:=by
 show [dE u (8*0)]=_
 rw[Nat.mul_zero,Mg]
def dU (g:RSig):Str:=aQ g.zone++aT g.key++aT g.alg++aT g.frm++aT g.unt++aT g.sum
def bK (s:Sgd):Str:=bB (setB s.set).length 2++setB s.set++eZ s.sigs.length::s.sigs.flatMap dU
def eH (l:List Sgd):Str:=bB l.length 4++l.flatMap bK
def zonB (z:Zon):Str:=aQ z.apex++eH z.sets
def gq (q:Qst):Str:=aQ q.name++[dE (uN q.ty) 0]
def dltB (d:Dlt):Str:=aQ d.apex++aT d.frm++aT d.too++bB d.drop.length 4++d.drop.flatMap gq++eH d.put
def jN (k:UInt8) (n:Nat):Str:=k::bB n 4
def frmB (k:UInt8) (w:Str):Str:=jN k w.length++bB (dig (jN k w.length)) 8++w++bB (dig w) 8
def ag (k:Int) (st:RS):Nat×RS:=(bO (aC k st).1,(aC k st).2)
def aj (st:RS):Str×RS:=aC (ag 1 st).1 (ag 1 st).2
def ek (st:RS):RSig×RS :=
 let z:=aj st
 let a:=ag 8 z.2
 let b:=ag 8 a.2
 let c:=ag 8 b.2
 let e:=ag 8 c.2
 let s:=ag 8 e.2
 (⟨z.1,sN a.1,sN b.1,sN c.1,sN e.1,s.1⟩,s.2)
def dV:Nat->List RSig->RS->List RSig×RS
 | 0,out,st=>(out,st)
 | k+1,out,st=>if st.2 then (out,st) else dV k (out++[(ek st).1]) (ek st).2
def dD (st:RS):Str×RS:=aC (ag 2 st).1 (ag 2 st).2
def dz (st:RS):RSet×RS:=((readF (dD st).1).1,if (readF (dD st).1).2=0 then (dD st).2 else ((dD st).2.1,true))
def dB (st:RS):Sgd×RS :=
 let s:=dz st
 let n:=ag 1 s.2
 let g:=dV n.1 [] n.2
 (⟨s.1,g.1⟩,g.2)
def dW:Nat->List Sgd->RS->List Sgd×RS
 | 0,out,st=>(out,st)
 | k+1,out,st=>if st.2 then (out,st) else dW k (out++[(dB st).1]) (dB st).2
def dL (st:RS):List Sgd×RS:=dW (ag 4 st).1 [] (ag 4 st).2
def bX (st:RS):Zon×RS:=(⟨(aj st).1,(dL (aj st).2).1⟩,(dL (aj st).2).2)
def fE (st:RS):Qst×RS:=(⟨(aj st).1,sN (ag 1 (aj st).2).1⟩,(ag 1 (aj st).2).2)
def dM:Nat->List Qst->RS->List Qst×RS
 | 0,out,st=>(out,st)
 | k+1,out,st=>if st.2 then (out,st) else dM k (out++[(fE st).1]) (fE st).2
def aZ (st:RS):Dlt×RS :=
 let a:=aj st
 let f:=ag 8 a.2
 let t:=ag 8 f.2
 let n:=ag 4 t.2
 let q:=dM n.1 [] n.2
 let p:=dL q.2
 (⟨a.1,sN f.1,sN t.1,q.1,p.1⟩,p.2)
def cu (st:RS):Bool:=st.2||decide (0<st.1.length)
def kN (w:Str):Option Zon:=if cu (bX (w,false)).2 then none else some (bX (w,false)).1
def kP (w:Str):Option Dlt:=if cu (aZ (w,false)).2 then none else some (aZ (w,false)).1
def fst1 (k:Nat) (b:Str):Nat×Str :=
 if b.length<13\/(b.getD 0 0).toNat≠k then (0,[]) else
 let n:=ag 4 (b.drop 1,false)
 let h:=ag 8 n.2
 let w:=aC n.1 h.2
 let t:=ag 8 w.2
 if t.2.2=true\/h.1≠dig (b.take 5)\/t.1≠dig w.1 then (0,[]) else (13+n.1+8,w.1)
def eX (b:Str):Option (Zon×Nat) :=
 if (fst1 1 b).1=0 then none else
 match kN (fst1 1 b).2 with
 | none=>none
 | some z=>if zoneOk z then some (z,(fst1 1 b).1) else none
def dF (z:Zon) (b:Str):Option (Zon×Nat) :=
 if (fst1 2 b).1=0 then none else
 match kP (fst1 2 b).2 with
 | none=>none
 | some d=>if (applyP z d).2=0 then some ((applyP z d).1,(fst1 2 b).1) else none
theorem J8 (k:Nat) (b:Str) (h:(fst1 k b).1≠0):21<=(fst1 k b).1/\13<=b.length:=by
 unfold fst1 at h ⊢
 split
 .
  rename_i q;rw[X4 q] at h;exact absurd rfl h
 rename_i q
 rw[XZ q] at h
 simp only at h ⊢
 split
 .
  rename_i r;rw[X4 r] at h;exact absurd rfl h
 rename_i r;exact⟨by show 21<=13+_+8;omega,om⟩
theorem Oh {z:Zon}{b:Str}{y:Zon}{n:Nat}(h:dF z b=some (y,n)):0<n/\0<b.length:=by
 unfold dF at h
 split at h
 .
  cases h
 rename_i q
 obtain⟨h1,h2⟩:=J8 2 b q
 split at h
 .
  cases h
 split at h
 .
  simp only[Yg,YH] at h;omega
 cases h
def more (z:Zon) (b:Str):List (Zon×Nat) :=
 match _h:dF z b with
 | none=>[]
 | some (y,n)=>(y,n)::more y (b.drop n)
termination_by b.length
decreasing_by
 have:=Oh _h
 rw[Yi]
 omega
theorem SC {z:Zon}{b:Str}(h:dF z b=none):more z b=[]:=by
 rw[more]
 split
 .
  rfl
 rename_i q;rw[h] at q;cases q
theorem SB {z y:Zon}{b:Str}{n:Nat}(h:dF z b=some (y,n)):more z b=(y,n)::more y (b.drop n):=by
 rw[more]
 split
 .
  rename_i q;rw[h] at q;cases q
 rename_i q
 rw[h] at q
 simp only[Yg,YH] at q
 obtain⟨rfl,rfl⟩:=q
 rfl
def frs (b:Str):List (Zon×Nat):=match eX b with
 | none=>[]
 | some (y,n)=>(y,n)::more y (b.drop n)
def sumL (l:List (Zon×Nat)):Nat:=(l.map (·.2)).sum
def dn:Nat->List (Zon×Nat)->List Nat
 | _,[]=>[]
 | a,x::l=>(a+x.2)::dn (a+x.2) l
def CJ (z:Zon) (l:List (Zon×Nat)):Zon:=(l.getLast?.map (·.1)).getD z
def wholeZ (b:Str):Zon:=CJ zon0 (frs b)
def endsB (b:Str):List Nat:=dn 0 (frs b)
def partB (b:Str):Str:=b.take (sumL (frs b))
abbrev Cnt:=Option Zon
def Cnt.d (c:Cnt):List D:=.b c.isSome::(c.getD zon0).d
def Cnt.of:List D->Cnt
 | [.v (.bool b),.v (.string s),.list _ rows]=>if b then some ⟨s.data.toList,rows.map Sgd.of⟩ else none
 | _=>none
def cnt1:D->Cnt:=nu Cnt.of none
def stepC (c:Cnt) (b:Str):Option (Zon×Nat):=match c with
 | none=>eX b
 | some z=>dF z b
def nextF (c:Cnt) (b:Str):Cnt×Nat:=match stepC c b with
 | none=>(c,0)
 | some (y,n)=>(some y,n)
def wholeC (b:Str):Cnt:=(frs b).getLast?.map (·.1)
structure Opn where
 whole:Str
 size:Int
 saved:Cnt
 all:Cnt
 deriving Inhabited
def bH (c:Cnt):List Str->Option Cnt
 | []=>some c
 | p::l=>if (nextF c p).2≠0/\(nextF c p).2=p.length then bH (nextF c p).1 l else none
def catB (l:List Str):Str:=l.flatten
def openF (d:Dsk):Option Opn :=
 if 1000000<d.safe.length\/200<d.pend.length then none else
 match bH (wholeC d.safe) d.pend with
 | none=>none
 | some c=>some ⟨partB d.safe,(partB d.safe).length+(catB d.pend).length,wholeC d.safe,c⟩
def beginF (z:Zon):Dsk×Int:=if zoneOk z=false then (dsk0,1) else if 1000000<(frmB 1 (zonB z)).length then (dsk0,41) else (⟨[],[frmB 1 (zonB z)]⟩,0)
def appendF (d:Dsk) (x:Dlt):Dsk×Int:=match openF d with
 | none=>(dsk0,1)
 | some o=>if dltOk x=false then (dsk0,1) else match o.all with
  | none=>(dsk0,42)
  | some z =>
   if (applyP z x).2≠0 then (dsk0,(applyP z x).2)
   else if 200<=d.pend.length then (dsk0,2)
   else if 1000000<o.size+(frmB 2 (dltB x)).length then (dsk0,41)
   else (⟨o.whole,d.pend++[frmB 2 (dltB x)]⟩,0)
def syncF (d:Dsk):Dsk×Int:=match openF d with
 | none=>(dsk0,1)
 | some o=>if 1000000<o.size then (dsk0,41) else (⟨o.whole++catB d.pend,[]⟩,0)
def gM (d:Dsk) (n:Int):Str:=if n<d.pend.length then d.pend[n.toNat]! else []
def iX (o:Opn) (d:Dsk) (n cut:Int):Str:=o.whole++catB (d.pend.take n.toNat)++(gM d n).take cut.toNat
def crashF (d:Dsk) (n cut:Int):Dsk×Int:=match openF d with
 | none=>(dsk0,1)
 | some o =>
  if n<0\/(d.pend.length:Int)<n then (dsk0,1)
  else if cut<0\/((gM d n).length:Int)<cut then (dsk0,1)
  else if 1000000<(iX o d n cut).length then (dsk0,41)
  else (⟨iX o d n cut,[]⟩,0)
def loadF (d:Dsk):Zon×Int:=match openF d with
 | none=>(zon0,1)
 | some o=>match o.saved with
  | none=>(zon0,42)
  | some z=>(z,0)
def allR (d:Dsk):Option Str:=(openF d).map fun o=>o.whole++catB d.pend
def sameK (a b:Dsk):Bool:=decide (a=b)
theorem Ku {u:Nat}(h:u<18446744073709551616):∀ k,(bB u k).foldl bG (u / 2^(8*k))=u
 | 0=>by simp[bB]
 | k+1=>by
  show (bB u k).foldl bG (bG (u / 2^(8*(k+1))) (dE u (8*k)))=u
  rw[show 8*(k+1)=8*k+8 by omega,nI u (8*k) h]
  exact Ku h k
theorem yY {u k:Nat}(h:u<18446744073709551616) (hk:u<2^(8*k)):bO (bB u k)=u:=by
 have:=Ku h k
 rwa [Nat.div_eq_of_lt hk] at this
theorem vv {u k:Nat}{more:Str}(h:u<18446744073709551616) (hk:u<2^(8*k)):ag k (bB u k++more,false)=(u,(more,false)):=by
 unfold ag
 rw[gu rfl (by simp[bZ])]
 show (bO ((bB u k++more).take k),((bB u k++more).drop k,false))=_
 rw[List.take_left' (bZ u k),List.drop_left' (bZ u k),yY h hk]
theorem ET {n:Int}{more:Str}:ag 8 (aT n++more,false)=(uN n,(more,false)):=by
 have:=vv (u:=uN n) (k:=8) (more:=more) (pJ n) (pJ n)
 rwa [XI] at this
theorem Ba {n:Nat}{more:Str}(h:n<=255):ag 1 (eZ n::more,false)=(n,(more,false)):=by
 have:=vv (u:=n) (k:=1) (more:=more) om (show n<256 by omega)
 rwa [Au] at this
theorem xG {t more:Str}(h:t.length<=255):aj (aQ t++more,false)=(t,(more,false)):=by
 unfold aj aQ
 rw[X0,Ba h]
 show aC (t.length:Nat) (t++more,false)=_
 rw[gu rfl (by simp)]
 simp
structure AA (g:RSig):Prop where
 zone:g.zone.length<=255
 key:i64 g.key
 alg:i64 g.alg
 frm:i64 g.frm
 unt:i64 g.unt
 sum:0<=g.sum/\g.sum<18446744073709551616
theorem OY {g:RSig}{more:Str}(h:AA g):ek (dU g++more,false)=(g,(more,false)):=by
 unfold ek dU
 simp only[Yw,xG h.zone,ET]
 have e1:=rf (n:=g.key) h.key
 have e2:=rf (n:=g.alg) h.alg
 have e3:=rf (n:=g.frm) h.frm
 have e4:=rf (n:=g.unt) h.unt
 have e5:((uN g.sum:Nat):Int)=g.sum:=by have:=h.sum;unfold uN;omega
 rw[e1,e2,e3,e4,e5]
theorem FE : ∀ (l out:List RSig) (more:Str),(∀ d∈l,AA d)->dV l.length out (l.flatMap dU++more,false)=(out++l,(more,false))
 | [],out,more,_=>by simp[dV]
 | d::l,out,more,h=>by
  have e:((d::l).flatMap dU++more)=dU d++(l.flatMap dU++more):=by simp
  rw[e,YN,dV,XZ (by simp),OY (h d (by simp))]
  show dV l.length (out++[d]) (l.flatMap dU++more,false)=_
  rw[FE l _ more fun x hx=>h x (by simp[hx])]
  simp
structure pg (s:Sgd):Prop where
 set:nz s.set
 len:s.sigs.length<=255
 sig : ∀ g∈s.sigs,AA g
theorem Wz {d:Dat}(h:sQ d/\d.t.length<=60/\0<=d.n/\0<=d.m):(fU d).length<=77:=by
 simp[fU,aQ,eu]
 omega
theorem flat_len {α:Type}{f:α->Str}{n:Nat}:∀ {l:List α},(∀ x∈l,(f x).length<=n)->(l.flatMap f).length<=l.length*n
 | [],_=>by simp
 | x::l,h=>by
  rw[ZX,XY,YN,Zp,Nat.one_mul];have h1:=h x (by simp)
  have h2:=flat_len (f:=f) (n:=n) (l:=l) fun y hy=>h y (by simp[hy])
  omega
theorem yf {s:RSet}(h:nz s):(setB s).length<=1000:=by
 have h1:=dN h.name
 have h2:=flat_len (f:=fU) (n:=77) (l:=s.data) fun d hd=>Wz (DI h.ty (h.dat d hd))
 have h3:=h.len
 simp[setB,aQ,eu] at h2 ⊢
 omega
theorem O9 {s:Sgd}{more:Str}(h:pg s):dB (bK s++more,false)=(s,(more,false)):=by
 have hl:=yf h.set
 have e:bK s++more=bB (setB s.set).length 2++(setB s.set++(eZ s.sigs.length::(s.sigs.flatMap dU++more))):=by simp[bK]
 have e0:=vv (u:=(setB s.set).length) (k:=2) (more:=setB s.set++(eZ s.sigs.length::(s.sigs.flatMap dU++more))) (by omega) (show _<65536 by omega)
 have e1:dD (bK s++more,false)=(setB s.set,(eZ s.sigs.length::(s.sigs.flatMap dU++more),false)):=by
  unfold dD;rw[e,show ((2:Int))=((2:Nat):Int) from rfl,e0]
  show aC ((setB s.set).length:Nat) _=_
  rw[gu rfl (by simp)]
  simp
 have e2:dz (bK s++more,false)=(s.set,(eZ s.sigs.length::(s.sigs.flatMap dU++more),false)):=by
  unfold dz;rw[e1,QA h.set];rfl
 unfold dB
 simp only[e2,Ba h.len,FE s.sigs [] more h.sig,X3]
theorem FJ : ∀ (l out:List Sgd) (more:Str),(∀ d∈l,pg d)->dW l.length out (l.flatMap bK++more,false)=(out++l,(more,false))
 | [],out,more,_=>by simp[dW]
 | d::l,out,more,h=>by
  have e:((d::l).flatMap bK++more)=bK d++(l.flatMap bK++more):=by simp
  rw[e,YN,dW,XZ (by simp),O9 (h d (by simp))]
  show dW l.length (out++[d]) (l.flatMap bK++more,false)=_
  rw[FJ l _ more fun x hx=>h x (by simp[hx])]
  simp
theorem FP {l:List Sgd}{more:Str}(hl:l.length<4294967296) (h : ∀ d∈l,pg d):dL (eH l++more,false)=(l,(more,false)):=by
 unfold dL eH
 have:=vv (u:=l.length) (k:=4) (more:=l.flatMap bK++more) om (show _<4294967296 by omega)
 rw[Yw,show ((4:Int))=((4:Nat):Int) from rfl,this]
 show dW l.length [] _=_
 rw[FJ l [] more h]
 rfl
theorem M9 {z:Zon}{more:Str}(ha:z.apex.length<=255) (hl:z.sets.length<4294967296) (h : ∀ d∈z.sets,pg d):bX (zonB z++more,false)=(z,(more,false)):=by
 unfold bX zonB
 rw[Yw,xG ha,FP hl h]
structure xe (q:Qst):Prop where
 name:q.name.length<=255
 ty:0<=q.ty/\q.ty<=255
theorem Q3 {q:Qst}{more:Str}(h:xe q):fE (gq q++more,false)=(q,(more,false)):=by
 have ht:=h.ty
 have e:uN q.ty=q.ty.toNat:=by unfold uN;rw[Int.emod_eq_of_lt (by omega) (by omega)]
 have e1:=Ba (n:=q.ty.toNat) (more:=more) (by omega)
 have e2:sN q.ty.toNat=q.ty:=by unfold sN;rw[IntKind.wrap_i64];omega
 unfold fE gq
 rw[Yw,xG h.name,e,Mg,List.singleton_append]
 simp only[e1,e2]
theorem G5 : ∀ (l out:List Qst) (more:Str),(∀ d∈l,xe d)->dM l.length out (l.flatMap gq++more,false)=(out++l,(more,false))
 | [],out,more,_=>by simp[dM]
 | d::l,out,more,h=>by
  have e:((d::l).flatMap gq++more)=gq d++(l.flatMap gq++more):=by simp
  rw[e,YN,dM,XZ (by simp),Q3 (h d (by simp))]
  show dM l.length (out++[d]) (l.flatMap gq++more,false)=_
  rw[G5 l _ more fun x hx=>h x (by simp[hx])]
  simp
structure sP (d:Dlt):Prop where
 apex:d.apex.length<=255
 frm:i64 d.frm
 too:i64 d.too
 drop:d.drop.length<4294967296
 dropq : ∀ q∈d.drop,xe q
 put:d.put.length<4294967296
 puts : ∀ s∈d.put,pg s
theorem VZ {d:Dlt}{more:Str}(h:sP d):aZ (dltB d++more,false)=(d,(more,false)):=by
 have e:dltB d++more=aQ d.apex++(aT d.frm++(aT d.too++(bB d.drop.length 4++(d.drop.flatMap gq++(eH d.put++more))))):=by simp[dltB]
 have e1:=vv (u:=d.drop.length) (k:=4) (more:=d.drop.flatMap gq++(eH d.put++more)) (by have:=h.drop;omega) (show _<4294967296 from h.drop)
 rw[show ((4:Nat):Int)=4 from rfl] at e1
 unfold aZ
 rw[e]
 simp only[xG h.apex,ET,e1,G5 d.drop [] _ h.dropq,FP h.put h.puts,rf h.frm,rf h.too,X3]
structure w9 (z:Zon):Prop where
 apex:z.apex.length<=255
 len:z.sets.length<4294967296
 sets : ∀ d∈z.sets,pg d
theorem QC {z:Zon}(h:w9 z):kN (zonB z)=some z:=by
 have e:=M9 (more:=[]) h.apex h.len h.sets
 rw[Yy] at e
 unfold kN cu
 rw[e]
 rfl
theorem QG {d:Dlt}(h:sP d):kP (dltB d)=some d:=by
 have e:=VZ (more:=[]) h
 rw[Yy] at e
 unfold kP cu
 rw[e]
 rfl
def mJ (k m:Nat) (p:Str):Prop:=(p.getD 0 0).toNat=k/\bO ((p.drop 1).take 4)=m/\bO ((p.drop 5).take 8)=dig (p.take 5)/\bO ((p.drop (13+m)).take 8)=dig ((p.drop 13).take m)
theorem uC {α:Type}(b:List α) {i j n:Nat}(h:i+j<=n):((b.take n).drop i).take j=(b.drop i).take j:=by
 rw[List.drop_take,List.take_take,ZN (by omega)]
theorem CX {k m n:Nat}{b:Str}(h:21+m<=n):mJ k m (b.take n) ↔ mJ k m b:=by
 unfold mJ
 rw[uC b (by omega),uC b (by omega),uC b (by omega),uC b (by omega),List.take_take,ZN (by omega)]
 have:(b.take n).getD 0 0=b.getD 0 0:=by
  simp only[List.getD];rw[YZ,X4 (by omega)]
 rw[this]
theorem fst1_iff {k m:Nat}{b w:Str}:fst1 k b=(21+m,w) ↔ 21+m<=b.length/\mJ k m b/\w=(b.drop 13).take m:=by
 unfold fst1
 by_cases h1:b.length<13\/(b.getD 0 0).toNat≠k
 .
  rw[X4 h1]
  constructor
  .
   intro h;simp only[YH] at h;omega
  rintro⟨h2,h3,_⟩;have:=h3.1;omega
 rw[XZ h1]
 have a1:ag 4 (b.drop 1,false)=(bO ((b.drop 1).take 4),(b.drop 5,false)):=by
  unfold ag;rw[show (4:Int)=((4:Nat):Int) from rfl,gu rfl (by simp;omega)]
  show (_,((b.drop 1).drop 4,false))=_
  rw[Zm]
 have a2:ag 8 (b.drop 5,false)=(bO ((b.drop 5).take 8),(b.drop 13,false)):=by
  unfold ag;rw[show (8:Int)=((8:Nat):Int) from rfl,gu rfl (by simp;omega)]
  show (_,((b.drop 5).drop 8,false))=_
  rw[Zm]
 simp only[a1,a2]
 generalize hN:bO ((b.drop 1).take 4)=N
 by_cases h2:N<=(b.drop 13).length
 .
  rw[gu rfl h2]
  show (if (ag 8 ((b.drop 13).drop N,false)).2.2=true\/_ then _ else _)=_ ↔ _
  rw[Zm]
  by_cases h3:8<=(b.drop (13+N)).length
  .
   have a3:ag 8 (b.drop (13+N),false)=(bO ((b.drop (13+N)).take 8),((b.drop (13+N)).drop 8,false)):=by
    unfold ag;rw[show (8:Int)=((8:Nat):Int) from rfl,gu rfl h3]
   rw[a3];simp only[Yi] at h2 h3
   split
   .
    rename_i h4
    constructor
    .
     intro h;simp only[YH] at h;omega
    rintro⟨h5,⟨h6,h7,h8,h9⟩,_⟩;rw[hN] at h7;subst h7
    rcases h4 with h4|h4|h4
    .
     cases h4
    .
     exact absurd h8 h4
    exact absurd h9 h4
   rename_i h4
   simp only[YH]
   constructor
   .
    rintro⟨h5,h6⟩;have hm:N=m:=by omega
    subst hm;refine⟨om,⟨om,hN,?_,?_⟩,h6.symm⟩
    .
     exact YV fun q=>h4 (.inr (.inl q))
    exact YV fun q=>h4 (.inr (.inr q))
   rintro⟨h5,⟨h6,h7,h8,h9⟩,h10⟩;rw[hN] at h7;subst h7;exact⟨om,h10.symm⟩
  have a3:(ag 8 (b.drop (13+N),false)).2.2=true:=by
   unfold ag;rw[gy (.inr (by show ((List.drop (13+N) b).length:Int)<8;omega))]
  rw[X4 (.inl a3)];simp only[Yi] at h2 h3
  constructor
  .
   intro h;simp only[YH] at h;omega
  rintro⟨h5,⟨_,h7,_⟩,_⟩;rw[hN] at h7;omega
 rw[gy (.inr (by show ((List.drop 13 b).length:Int)<N;omega))]
 have a3:(ag 8 (b.drop 13,true)).2.2=true:=by
  unfold ag;rw[gy (.inl rfl)]
 simp only[Yi] at h2
 show (if (ag 8 (b.drop 13,true)).2.2=true\/_ then _ else _)=_ ↔ _
 rw[X4 (.inl a3)]
 constructor
 .
  intro h;simp only[YH] at h;omega
 rintro⟨h5,⟨_,h7,_⟩,_⟩
 rw[hN] at h7
 omega
theorem sF (k:Nat) (b:Str):fst1 k b=(0,[]) \/ ∃ m,21+m<=b.length/\mJ k m b/\fst1 k b=(21+m,(b.drop 13).take m):=by
 by_cases h:(fst1 k b).1=0
 .
  refine .inl ?_;unfold fst1 at h ⊢
  split
  .
   rfl
  rename_i q
  rw[XZ q] at h;simp only at h ⊢
  split
  .
   rfl
  rename_i r;rw[XZ r] at h;simp at h
 obtain⟨h1,_⟩:=J8 k b h
 obtain⟨m,hm⟩:∃ m,(fst1 k b).1=21+m:=⟨_,(by omega:(fst1 k b).1=21+((fst1 k b).1-21))⟩
 have e:fst1 k b=(21+m,(fst1 k b).2):=Prod.ext hm rfl
 obtain⟨h2,h3,h4⟩:=fst1_iff.1 e
 exact .inr ⟨m,h2,h3,by rw[e,h4]⟩
theorem Ka {k n:Nat}{b w r:Str}(h:fst1 k b=(n,w)) (h0:n≠0):fst1 k (b.take n++r)=(n,w):=by
 obtain h1|⟨m,h1,h2,h3⟩:=sF k b
 .
  rw[h] at h1;cases h1;exact absurd rfl h0
 rw[h] at h3
 cases h3
 have hl:(b.take (21+m)).length=21+m:=by simp;omega
 have ht:(b.take (21+m)++r).take (21+m)=b.take (21+m):=List.take_left' hl
 refine fst1_iff.2 ⟨by rw[XY];omega,?_,?_⟩
 .
  rw[<- CX (n:=21+m) (XX _),ht,CX (XX _)];exact h2
 rw[<- uC (b.take (21+m)++r) (n:=21+m) (by omega),ht,uC b (by omega)]
theorem Kc {k n:Nat}{b w:Str}(h:fst1 k b=(n,w)):n<=b.length:=by
 obtain h1|⟨m,h1,h2,h3⟩:=sF k b
 .
  rw[h] at h1;cases h1;exact Yl _
 rw[h] at h3;cases h3;exact h1
theorem lh (k:UInt8) (w:Str):(frmB k w).length=21+w.length:=by
 simp[frmB,jN,bZ]
 omega
theorem uE (l:Str):dig l<18446744073709551616:=by
 unfold dig
 rcases List.eq_nil_or_concat l with e|⟨p,z,e⟩
 .
  subst e;decide
 rw[e,List.concat_eq_append,Y7,YJ,ZC]
 unfold dP
 omega
theorem Kj {k:UInt8}{w r:Str}(hw:w.length<4294967296):fst1 k.toNat (frmB k w++r)=(21+w.length,w):=by
 have e:frmB k w++r=jN k w.length++(bB (dig (jN k w.length)) 8++(w++(bB (dig w) 8++r))):=by simp[frmB]
 have hh:(jN k w.length).length=5:=by simp[jN,bZ]
 have n1:=yY (u:=w.length) (k:=4) (by omega) (show _<4294967296 from hw)
 have n2:=yY (u:=dig (jN k w.length)) (k:=8) (uE _) (uE _)
 have n3:=yY (u:=dig w) (k:=8) (uE _) (uE _)
 have d5:(frmB k w++r).drop 5=bB (dig (jN k w.length)) 8++(w++(bB (dig w) 8++r)):=by rw[e,List.drop_left' hh]
 have d13:(frmB k w++r).drop 13=w++(bB (dig w) 8++r):=by
  rw[show 13=5+8 from rfl,<- Zm,d5,List.drop_left' (bZ _ 8)]
 have dw:(frmB k w++r).drop (13+w.length)=bB (dig w) 8++r:=by rw[<- Zm,d13,List.drop_left' rfl]
 refine fst1_iff.2 ⟨by rw[XY,lh];omega,⟨?_,?_,?_,?_⟩,?_⟩
 .
  rw[e];rfl
 .
  have:((frmB k w++r).drop 1).take 4=bB w.length 4:=by
   rw[e]
   show ((bB w.length 4++_)).take 4=_
   rw[List.take_left' (bZ _ 4)]
  rw[this,n1]
 .
  rw[d5,List.take_left' (bZ _ 8),n2]
  congr 1
 .
  rw[dw,List.take_left' (bZ _ 8),n3,d13,List.take_left' rfl]
 rw[d13,List.take_left' rfl]
theorem stepZ_iff {b:Str}{z:Zon}{n:Nat}:eX b=some (z,n) ↔ n≠0 /\ ∃ w,fst1 1 b=(n,w)/\kN w=some z/\zoneOk z=true:=by
 unfold eX
 constructor
 .
  intro h
  split at h
  .
   cases h
  rename_i q
  split at h
  .
   cases h
  rename_i z' hz
  split at h
  .
   rename_i hv
   simp only[Yg,YH] at h;obtain⟨rfl,rfl⟩:=h;exact⟨q,_,rfl,hz,hv⟩
  cases h
 rintro⟨h0,w,h1,h2,h3⟩
 rw[h1]
 rw[XZ h0]
 simp only[h2]
 rw[X4 h3]
theorem stepD_iff {y:Zon}{b:Str}{z:Zon}{n:Nat}:dF y b=some (z,n) ↔ n≠0 /\ ∃ w d,fst1 2 b=(n,w)/\kP w=some d/\applyP y d=(z,0):=by
 unfold dF
 constructor
 .
  intro h
  split at h
  .
   cases h
  rename_i q
  split at h
  .
   cases h
  rename_i d hd
  split at h
  .
   rename_i hv
   simp only[Yg,YH] at h;obtain⟨rfl,rfl⟩:=h;exact⟨q,_,d,rfl,hd,Prod.ext rfl hv⟩
  cases h
 rintro⟨h0,w,d,h1,h2,h3⟩
 rw[h1]
 rw[XZ h0]
 simp only[h2,h3]
 exact X4 trivial
theorem qY {c:Cnt}{b r:Str}{z:Zon}{n:Nat}(h:stepC c b=some (z,n)):stepC c (b.take n++r)=some (z,n):=by
 cases c with
 | none =>
  obtain⟨h0,w,h1,h2,h3⟩:=stepZ_iff.1 (show eX b=_ from h)
  exact stepZ_iff.2 ⟨h0,w,Ka h1 h0,h2,h3⟩
 | some y =>
  obtain⟨h0,w,d,h1,h2,h3⟩:=stepD_iff.1 (show dF y b=_ from h)
  exact stepD_iff.2 ⟨h0,w,d,Ka h1 h0,h2,h3⟩
theorem gN {c:Cnt}{b:Str}{z:Zon}{n:Nat}(h:stepC c b=some (z,n)):n<=b.length/\0<n:=by
 cases c with
 | none =>
  obtain⟨h0,w,h1,_⟩:=stepZ_iff.1 (show eX b=_ from h)
  exact⟨Kc h1,Nat.pos_of_ne_zero h0⟩
 | some y =>
  obtain⟨h0,w,d,h1,_⟩:=stepD_iff.1 (show dF y b=_ from h)
  exact⟨Kc h1,Nat.pos_of_ne_zero h0⟩
def fr (c:Cnt) (b:Str):List (Zon×Nat):=match c with
 | none=>frs b
 | some z=>more z b
theorem gY {c:Cnt}{b:Str}(h:stepC c b=none):fr c b=[]:=by
 cases c with
 | none=>unfold fr frs;simp only;rw[show eX b=none from h]
 | some z=>exact SC h
theorem gL {c:Cnt}{b:Str}{y:Zon}{n:Nat}(h:stepC c b=some (y,n)):fr c b=(y,n)::fr (some y) (b.drop n):=by
 cases c with
 | none=>unfold fr frs;simp only;rw[show eX b=some (y,n) from h]
 | some z=>exact SB h
def jh (c:Cnt) (l:List (Zon×Nat)):Cnt:=match l.getLast? with
 | none=>c
 | some x=>some x.1
theorem qm (c:Cnt) (x:Zon×Nat) (l:List (Zon×Nat)):jh c (x::l)=jh (some x.1) l:=by
 unfold jh
 cases l with
 | nil=>rfl
 | cons y l =>
  rw[List.getLast?_cons_cons]
  cases h:(y::l).getLast? with
  | none=>simp at h
  | some z=>rfl
theorem iG (x:Zon×Nat) (l:List (Zon×Nat)):sumL (x::l)=x.2+sumL l:=by simp[sumL]
theorem uu : ∀ (n:Nat) (c:Cnt) (b:Str),b.length<=n->sumL (fr c b)<=b.length:=by
 intro n
 induction n with
 | zero =>
  intro c b hb
  cases h:stepC c b with
  | none=>rw[gY h];exact Yl _
  | some x=>have:=gN (z:=x.1) (n:=x.2) h;omega
 | succ n ih =>
  intro c b hb
  cases h:stepC c b with
  | none=>rw[gY h];exact Yl _
  | some x =>
   obtain⟨y,k⟩:=x;obtain⟨h1,h2⟩:=gN h;rw[gL h,iG];have:=ih (some y) (b.drop k) (by rw[Yi];omega)
   rw[Yi] at this
   show k+_<=_
   omega
theorem Kn : ∀ (n:Nat) (c:Cnt) (a r:Str),a.length<=n->sumL (fr c a)=a.length->fr c (a++r)=fr c a++fr (jh c (fr c a)) r:=by
 intro n
 induction n with
 | zero =>
  intro c a r ha hs;have:a=[]:=X5 om;subst this;have h0:fr c []=[]:=by
   cases h:stepC c [] with
   | none=>exact gY h
   | some x=>have:=gN (z:=x.1) (n:=x.2) h;simp at this;omega
  rw[h0];rfl
 | succ n ih =>
  intro c a r ha hs
  cases h:stepC c a with
  | none =>
   have h0:=gY h;rw[h0] at hs ⊢;have:a=[]:=X5 (by simpa [sumL] using hs.symm)
   subst this;rfl
  | some x =>
   obtain⟨y,k⟩:=x;obtain⟨h1,h2⟩:=gN h;have hl:stepC c (a++r)=some (y,k):=by
    have:=qY (r:=a.drop k++r) h;rwa [<- Yw,Ze] at this
   rw[gL h,iG] at hs;have hd:(a++r).drop k=a.drop k++r:=List.drop_append_of_le_length h1;rw[gL h,gL hl,hd,qm,X0]
   congr 1
   refine ih (some y) (a.drop k) r (by rw[Yi];omega) ?_
   rw[Yi];simp only at hs;omega
theorem U3 : ∀ (n:Nat) (c:Cnt) (a:Str),a.length<=n->fr c (a.take (sumL (fr c a)))=fr c a:=by
 intro n
 induction n with
 | zero =>
  intro c a ha;have:a=[]:=X5 om;subst this
  simp
 | succ n ih =>
  intro c a ha
  cases h:stepC c a with
  | none =>
   rw[gY h];have:fr c (a.take (sumL []))=[]:=by
    show fr c (a.take 0)=[]
    rw[Yj]
    cases h':stepC c [] with
    | none=>exact gY h'
    | some x=>have:=gN (z:=x.1) (n:=x.2) h';simp at this;omega
   exact this
  | some x =>
   obtain⟨y,k⟩:=x;obtain⟨h1,h2⟩:=gN h;have hs:=uu _ (some y) (a.drop k) (XX _);rw[Yi] at hs;rw[gL h,iG];have e:a.take (k+sumL (fr (some y) (a.drop k)))=a.take k++(a.drop k).take (sumL (fr (some y) (a.drop k))):=List.take_add;have hl:=qY (r:=(a.drop k).take (sumL (fr (some y) (a.drop k)))) h;rw[<- e] at hl;have hd:(a.take (k+sumL (fr (some y) (a.drop k)))).drop k=(a.drop k).take (sumL (fr (some y) (a.drop k))):=by rw[List.drop_take];congr 1;omega
   rw[show ((y,k):Zon×Nat).2=k from rfl,gL hl,hd,ih (some y) (a.drop k) (by rw[Yi];omega)]
end Go.Jn
