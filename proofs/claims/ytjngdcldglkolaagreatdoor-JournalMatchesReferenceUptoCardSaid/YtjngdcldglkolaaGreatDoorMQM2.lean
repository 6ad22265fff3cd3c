/-
  MANY TEXTS OF MINE IN ONE (a claim has a limit of files): DSimp, Types, DWalk, DRange, Str, Rec, Cmp, Rec2, Rec3, Rec4, Rec5, Sym, Rec6, Zon, Zon2, Zon3, Zdl, Zdm, Zdn, Zdo, Zdp, Zdq, Zla, Zlb, Zlc, Zld, Zdr, Zds, Jn, Jnl. Conditions: none.
-/
import Derived.Test.YtjngdcldglkolaaGreatDoorProg
import Derived.KernelRfl
import Derived.Lib.Bytealg
import Derived.Shelf.Small.Strs
import Derived.Test.YtjngdcldglkolaaGreatDoorMQM1
set_option linter.unusedVariables false
set_option linter.unusedSimpArgs false
set_option linter.unusedSectionVars false
set_option linter.defProp false
namespace Go.DL
open Go.RowKit
variable {P : Program} {W : Words} {C : Con}
attribute [go_sem_proc] Nat.reduceEqDiff Nat.reduceAdd Nat.reduceLeDiff Nat.reduceBEq Nat.reduceSub Nat.reduceMul Int.reduceLT Int.reduceLE Int.reduceEq Int.reduceNeg Int.reduceToNat reduceIte Nat.reduceLT reduceCtorEq
attribute [go_sem] decide_true decide_false Bool.not_true Bool.not_false Int.toNat_natCast
def S.out (s:S) (dst:Option Tmp) (r:D×H×Prop):S:={ n:=s.n,t:=s.put dst r.1,h:=r.2.1,nx:=s.nx,ok:=s.ok/\bB s.n dst=true/\r.2.2,e:=s.e }
def S.outG (s:S) (dst:Option Tmp) (op:Op) (C:Con) (gd:D) (want:Bool) (r:D×H×Prop):S :=
 { n:=s.n,t:=s.put dst (.cond (gD gd want) r.1),h:=s.h,nx:=s.nx,ok:=s.ok/\bB s.n dst=true/\kX gd=true/\aT C op ≠ .writes/\(gD gd want=true->r.2.2),e:=s.e }
@[go_sem] theorem exec_eq [Glob P] {L:List Oper}{s:S}:exec P W C L s=aF P W C L s.nx 0 L { n:=s.n,t:=s.t,h:=s.h,nx:=s.nx+L.length,ok:=s.ok,e:=s.e }:=rfl
@[go_sem] theorem ZbD [Glob P] {L:List Oper}{b i:Nat}{s:S}:aF P W C L b i [] s=s:=rfl
@[go_sem] theorem ZbE [Glob P] {L:List Oper}{b i:Nat}{o:Oper}{os:List Oper}{s:S}:aF P W C L b i (o::os) s=aF P W C L b (i+1) os (bu P W C L b i o s):=rfl
@[go_sem] theorem ZbF [Glob P] {L:List Oper}{b i:Nat}{dst:Option Tmp}{op:Op}{ty:TypeId}{pos:String}{af:Array Edge}{s:S} :
  bu P W C L b i { dst:=dst,op:=op,type:=ty,pos:=pos,after:=af,guard:=none } s=s.out dst (aL P W C true op ((aQ op).map s.ev) s.h (b+i)):=rfl
def uw (L:List Oper) (j:Nat) (t:Nat->D):D:=((L[j]?).bind (·.dst)).elim .junk t
@[go_sem] theorem ZbG [Glob P] {L:List Oper}{b i j:Nat}{want:Bool}{dst:Option Tmp}{op:Op}{ty:TypeId}{pos:String}{af:Array Edge}{s:S} :
  bu P W C L b i { dst:=dst,op:=op,type:=ty,pos:=pos,after:=af,guard:=some (j,want) } s =
   s.outG dst op C (uw L j s.t) want (aL P W C (gD (uw L j s.t) want) op ((aQ op).map s.ev) s.h (b+i)):=rfl
@[go_sem] theorem ZbB {dst:Option Tmp}{op:Op}{ty:TypeId}{pos:String}{af:Array Edge}{gd:Option (Nat×Bool)}{L:List Oper}{t:Nat->D} :
  uw ({ dst:=dst,op:=op,type:=ty,pos:=pos,after:=af,guard:=gd }::L) 0 t=dst.elim .junk t:=rfl
@[go_sem] theorem ZbC {o:Oper}{L:List Oper}{j:Nat}{t:Nat->D}:uw (o::L) (j+1) t=uw L j t:=by simp[uw]
@[go_sem] theorem out_some {n nx:Nat}{t:Nat->D}{h:H}{ok:Prop}{e:Env}{d:Tmp}{x:D}{h':H}{p:Prop}:S.out { n,t,h,nx,ok,e } (some d) (x,h',p)={ n,t:=upd t d x,h:=h',nx,ok:=ok/\decide (d<n)=true/\p,e }:=rfl
@[go_sem] theorem ZaO {n nx:Nat}{t:Nat->D}{h:H}{ok:Prop}{e:Env}{x:D}{h':H}{p:Prop}:S.out { n,t,h,nx,ok,e } none (x,h',p)={ n,t,h:=h',nx,ok:=ok/\p,e }:=by simp[S.out,S.put,bB]
@[go_sem] theorem ZaP {n nx:Nat}{t:Nat->D}{h:H}{ok:Prop}{e:Env}{d:Tmp}{op:Op}{gd:D}{want:Bool}{x:D}{h':H}{p:Prop} :
  S.outG { n,t,h,nx,ok,e } (some d) op C gd want (x,h',p)={ n,t:=upd t d (.cond (gD gd want) x),h,nx,ok:=ok/\decide (d<n)=true/\kX gd=true/\aT C op ≠ .writes/\(gD gd want=true->p),e }:=rfl
@[go_sem] theorem aG {n nx:Nat}{t:Nat->D}{h:H}{ok:Prop}{e:Env}:S.clear { n,t,h,nx,ok,e }={ n,t,h,nx,ok:=True,e }:=rfl
@[go_sem] theorem TY {n:Nat}{args:List D}:S.init n args={ n,t:=fun i=>args.getD i .junk,h:=fun _=>none,nx:=0,ok:=True,e:=Env.tt }:=rfl
@[go_sem] theorem ev_tmp {s:S}{i:Tmp}:s.ev (.tmp i)=s.t i:=rfl
@[go_sem] theorem ev_const {s:S}{x:Value}:s.ev (.const x)=ic x:=rfl
@[go_sem] theorem ZbH {s:S}{g:Nat}:s.ev (.global g) = .v (.pointer (some ⟨g,0,none⟩)):=rfl
@[go_sem] theorem ev_func {s:S}{f:FuncId}:s.ev (.func f) = .fn (.func f) [] []:=rfl
@[go_sem] theorem ofV_int {k:IntKind}{n:Int}:ic (.int k n) = .v (.int k n):=rfl
@[go_sem] theorem ofV_bool {b:Bool}:ic (.bool b) = .v (.bool b):=rfl
@[go_sem] theorem ZaV {s:ByteArray}:ic (.string s) = .v (.string s):=rfl
@[go_sem] theorem ofV_nil:ic (.slice none 0 0) = .list true []:=rfl
@[go_sem] theorem ZaX:ic .nilFunc = .v .nilFunc:=rfl
@[go_sem] theorem ZaW:ic .nilIface = .v .nilIface:=rfl
@[go_sem] theorem ZaU {vs:Array Value}:ic (.tuple vs) = .v (.tuple vs):=rfl
@[go_sem] theorem ofV_ptr {p:Option Addr}:ic (.pointer p) = .v (.pointer p):=rfl
@[go_sem] theorem upd_hit {α:Type}{f:Nat->α}{i:Nat}{x:α}:upd f i x i=x:=by simp[upd]
@[go_sem] theorem XR {α:Type}{f:Nat->α}{i j:Nat}{x:α}(h:(j=i)=False):upd f i x j=f j:=by simp only[upd];rw[XZ (by rw[h];exact id)]
attribute [go_sem] List.take_succ_cons List.take_zero List.take_nil List.drop_zero List.drop_succ_cons List.drop_nil List.set_cons_zero List.set_cons_succ List.cons_append List.nil_append List.append_nil Bool.false_eq_true Nat.zero_add Nat.add_zero Nat.add_assoc List.length_map List.headD_cons
attribute [go_sem] ne_eq imp_self Bool.not_eq_true' Bool.not_eq_false' Bool.and_self and_self
attribute [go_sem] eq_self not_false_eq_true and_true true_and List.length_cons List.length_nil List.getD_cons_zero List.getD_cons_succ List.getD_nil implies_true true_implies
@[go_sem] theorem size_lit {α:Type}{l:List α}:l.toArray.size=l.length:=rfl
attribute [go_sem] aQ List.map_cons List.map_nil
@[go_sem] theorem sd_v {x:Value}:sd (.v x) = .v x:=rfl
@[go_sem] theorem sd_agg {x:List D}:sd (.agg x) = .agg x:=rfl
@[go_sem] theorem sd_list {f:Bool}{x:List (List D)}:sd (.list f x) = .list f x:=rfl
@[go_sem] theorem sd_eptr {x:List D}:sd (.eptr x) = .eptr x:=rfl
@[go_sem] theorem sd_mrow {a b c:Nat}:sd (.mrow a b c) = .mrow a b c:=rfl
@[go_sem] theorem sd_mptr {a b c:Nat}:sd (.mptr a b c) = .mptr a b c:=rfl
@[go_sem] theorem sd_fn {f:Fn}{a b:List D}:sd (.fn f a b) = .fn f a b:=rfl
@[go_sem] theorem sd_tuple {a:List D}:sd (.tuple a) = .tuple a:=rfl
@[go_sem] theorem sd_iface {t:TypeId}{d:D}:sd (.iface t d) = .iface t d:=rfl
@[go_sem] theorem sd_cond {g:Bool}{d:D}:sd (.cond g d)=d:=rfl
@[go_sem] theorem sd_mp {r:Nat}:sd (.mp r) = .mp r:=rfl
@[go_sem] theorem sd_fmap {kv:List D}:sd (.fmap kv) = .fmap kv:=rfl
@[go_sem] theorem sg_mp {r:Nat}:sg (.mp r)=true:=rfl
@[go_sem] theorem sg_fmap {kv:List D}:sg (.fmap kv)=true:=rfl
@[go_sem] theorem sg_v {x:Value}:sg (.v x)=true:=rfl
@[go_sem] theorem sg_agg {x:List D}:sg (.agg x)=true:=rfl
@[go_sem] theorem sg_list {f:Bool}{x:List (List D)}:sg (.list f x)=true:=rfl
@[go_sem] theorem sg_eptr {x:List D}:sg (.eptr x)=true:=rfl
@[go_sem] theorem sg_mrow {a b c:Nat}:sg (.mrow a b c)=true:=rfl
@[go_sem] theorem sg_mptr {a b c:Nat}:sg (.mptr a b c)=true:=rfl
@[go_sem] theorem sg_fn {f:Fn}{a b:List D}:sg (.fn f a b)=true:=rfl
@[go_sem] theorem sg_tuple {a:List D}:sg (.tuple a)=true:=rfl
@[go_sem] theorem sg_iface {t:TypeId}{d:D}:sg (.iface t d)=true:=rfl
@[go_sem] theorem sg_cond {g:Bool}{d:D}:sg (.cond g d)=g:=rfl
attribute [go_sem] List.all_cons List.all_nil Bool.and_true Bool.true_and
@[go_sem] theorem gval_v {b want:Bool}:gD (.v (.bool b)) want=(b==want):=rfl
@[go_sem] theorem gval_c {g b want:Bool}:gD (.cond g (.v (.bool b))) want=(g&&(b==want)):=rfl
@[go_sem] theorem gok_v {b:Bool}:kX (.v (.bool b))=true:=rfl
@[go_sem] theorem gok_c {g b:Bool}:kX (.cond g (.v (.bool b)))=true:=rfl
attribute [go_sem] Option.elim beq_true beq_false
@[go_sem] theorem e_move [Glob P] {g:Bool}{x:Operand}{d:D}{h:H}{b:Nat}:aL P W C g (.move x) [d] h b=(sd d,h,(g=true->sg d=true)/\True):=by simp[aL,bX,aN]
@[go_sem] theorem e_assign [Glob P] {g:Bool}{x:Operand}{d:D}{h:H}{b:Nat}:aL P W C g (.assign x) [d] h b=(sd d,h,(g=true->sg d=true)/\True):=by simp[aL,bX,aN]
@[go_sem] theorem e_alloc [Glob P] {g:Bool}{e:TypeId}{h:H}{b:Nat}:aL P W C g (.alloc e) [] h b=(.mptr b 0 0,upd h b (some ⟨e,[zeroCells P e]⟩),(zeroCells P e).length=P.cellsOf e/\(zeroCells P e).all D.one=true/\0<P.cellsOf e):=by simp[aL,bX,aN]
@[go_sem] theorem e_box [Glob P] {g:Bool}{e:TypeId}{x:Operand}{d:D}{h:H}{b:Nat}:aL P W C g (.box e x) [d] h b=(.mptr b 0 0,upd h b (some ⟨e,[(sd d).cells]⟩),(g=true->sg d=true)/\(sd d).cells.length=P.cellsOf e/\(sd d).cells.all D.one=true/\0<P.cellsOf e):=by simp[aL,bX,aN]
@[go_sem] theorem e_build [Glob P] {g:Bool}{t:TypeId}{ps:Array (Nat×Operand)}{xs:List D}{h:H}{b:Nat}:aL P W C g (.build t ps) xs h b=((uG P t ps.toList (xs.map sd)).1,h,(g=true->xs.all sg=true)/\(uG P t ps.toList (xs.map sd)).2):=by simp[aL,bX,aN,still]
@[go_sem] theorem ZbR [Glob P] {g:Bool}{t:TypeId}{n:Nat}{ps:Array (Nat×Operand)}{xs:List D}{h:H}{b:Nat}:aL P W C g (.buildSlice t n ps) xs h b=if C.bs then ((lu P t n ps.toList (xs.map sd) h b).1,(lu P t n ps.toList (xs.map sd) h b).2.1,(g=true->xs.all sg=true)/\(lu P t n ps.toList (xs.map sd) h b).2.2) else ((sK P t n ps.toList (xs.map sd)).1,h,(g=true->xs.all sg=true)/\(sK P t n ps.toList (xs.map sd)).2):=by cases hb:C.bs<;>simp[aL,bX,aN,still,hb]
@[go_sem] theorem e_load [Glob P] {g:Bool}{t:TypeId}{x:Operand}{d:D}{h:H}{b:Nat}:aL P W C g (.load t x) [d] h b=(nW P t (fD P (sd d) h),h,(g=true->sg d=true)/\P.cellsOf t<=(fD P (sd d) h).length/\0<P.cellsOf t/\(P.underlying t).isSome=true):=by simp[aL,bX,aN,still,lN]
@[go_sem] theorem e_store [Glob P] {g:Bool}{t:TypeId}{x y:Operand}{d d':D}{h:H}{b:Nat}:aL P W C g (.store t x y) [d,d'] h b=(.v undef,(lH P t (sd d) (sd d') h).1,(g=true->(sg d&&sg d')=true)/\(lH P t (sd d) (sd d') h).2):=by simp[aL,bX,aN]
@[go_sem] theorem ZbI [Glob P] {g:Bool}{x:Operand}{d:D}{h:H}{b:Nat}:aL P W C g (.nilCheck x) [d] h b=(sd d,h,(g=true->sg d=true)/\mM (sd d)=true):=by simp[aL,bX,aN]
@[go_sem] theorem e_binOp [Glob P] {g:Bool}{op:BinOp}{t u:TypeId}{x y:Operand}{d d':D}{h:H}{b:Nat}:aL P W C g (.binOp op t x y u) [d,d'] h b=((o8 P t op (sd d) (sd d')).1,h,(g=true->(sg d&&sg d')=true)/\(o8 P t op (sd d) (sd d')).2):=by simp[aL,bX,aN,still]
@[go_sem] theorem e_unOp [Glob P] {g:Bool}{op:UnOp}{t:TypeId}{x:Operand}{d:D}{h:H}{b:Nat}:aL P W C g (.unOp op t x) [d] h b=((pK op (sd d)).1,h,(g=true->sg d=true)/\(pK op (sd d)).2):=by simp[aL,bX,aN,still]
@[go_sem] theorem ZbQ [Glob P] {g:Bool}{s t:TypeId}{x:Operand}{d:D}{h:H}{b:Nat}:aL P W C g (.convert s t x) [d] h b=((sJ P s t (sd d)).1,h,(g=true->sg d=true)/\(sJ P s t (sd d)).2):=by simp[aL,bX,aN,still]
@[go_sem] theorem ZbM [Glob P] {g:Bool}{f:Fn}{a c:Array Operand}{xs:List D}{h:H}{b:Nat}:aL P W C g (.makeFunc f a c) xs h b=(.fn f ((xs.map sd).take a.size) ((xs.map sd).drop a.size),h,(g=true->xs.all sg=true)/\True):=by simp[aL,bX,aN]
@[go_sem] theorem e_slice [Glob P] {g:Bool}{t:TypeId}{x:Operand}{l hi m:Option Operand}{d:D}{xs:List D}{h:H}{b:Nat}:aL P W C g (.slice t x l hi m) (d::xs) h b =
  ((iY P t (sd d) (fM l (xs.map sd)).1 (fM hi (fM l (xs.map sd)).2).1 (fM m (fM hi (fM l (xs.map sd)).2).2).1 h).1,h,(g=true->(sg d&&xs.all sg)=true)/\(iY P t (sd d) (fM l (xs.map sd)).1 (fM hi (fM l (xs.map sd)).2).1 (fM m (fM hi (fM l (xs.map sd)).2).2).1 h).2):=by simp[aL,bX,aN,still]
@[go_sem] theorem ZbO [Glob P] {g:Bool}{t:TypeId}{x:Operand}{f:Nat}{d:D}{h:H}{b:Nat}:aL P W C g (.fieldAddr t x f) [d] h b=((sG P t f (sd d)).1,h,(g=true->sg d=true)/\(sG P t f (sd d)).2):=by simp[aL,bX,aN,still]
@[go_sem] theorem ZbN [Glob P] {g:Bool}{t:TypeId}{x y:Operand}{d d':D}{h:H}{b:Nat}:aL P W C g (.indexAddr t x y) [d,d'] h b=((fG P t (sd d) (sd d') h).1,h,(g=true->(sg d&&sg d')=true)/\(fG P t (sd d) (sd d') h).2):=by simp[aL,bX,aN,still]
@[go_sem] theorem e_index [Glob P] {g:Bool}{t:TypeId}{x y:Operand}{d d':D}{h:H}{b:Nat}:aL P W C g (.index t x y) [d,d'] h b=((sj P t (sd d) (sd d')).1,h,(g=true->(sg d&&sg d')=true)/\(sj P t (sd d) (sd d')).2):=by simp[aL,bX,aN,still]
@[go_sem] theorem ZbP [Glob P] {g:Bool}{x:Operand}{i:Nat}{ds:List D}{h:H}{b:Nat}:aL P W C g (.extract x i) [.tuple ds] h b=(ds.getD i .junk,h,i<ds.length):=by simp[aL,bX,aN,sd,sg]
@[go_sem] theorem e_len [Glob P] {g:Bool}{args:Array Operand}{t:TypeId}{d:D}{h:H}{b:Nat}:aL P W C g (.call { callee:=.builtin .len,args:=args,argTypes:=#[t] }) [d] h b=(.v (.int .i64 (aV (sd d))),h,(g=true->sg d=true)/\rV P t (sd d)=true):=by simp[aL,bX,aN]
@[go_sem] theorem e_append [Glob P] {g:Bool}{args:Array Operand}{t u:TypeId}{d d':D}{h:H}{b:Nat}:aL P W C g (.call { callee:=.builtin .append,args:=args,argTypes:=#[t,u] }) [d,d'] h b=((kI P t u (sd d) (sd d') h b).1,(kI P t u (sd d) (sd d') h b).2.1,(g=true->(sg d&&sg d')=true)/\(kI P t u (sd d) (sd d') h b).2.2):=by simp[aL,bX,aN]
@[go_sem] theorem e_call [Glob P] {g:Bool}{f:Operand}{args:Array Operand}{ts:Array TypeId}{xs:List D}{h:H}{b:Nat}:aL P W C g (.call { callee:=.value f,args:=args,argTypes:=ts }) xs h b=((fQ W C f (xs.map sd) h b).1,(fQ W C f (xs.map sd) h b).2.1,(g=true->xs.all sg=true)/\(fQ W C f (xs.map sd) h b).2.2):=by simp[aL,bX,aN]
@[go_sem] theorem ZbL [Glob P] {g:Bool}{t:TypeId}{r:Option Operand}{xs:List D}{h:H}{b:Nat}:aL P W C g (.makeMap t r) xs h b=(.mp b,upd h b (some ⟨t,eX []⟩),(g=true->xs.all sg=true)/\(kr P t).isSome=true/\P.cellsOf t=1/\zq (xs.map sd)=true):=by simp[aL,bX,aN,rU]
@[go_sem] theorem ZbJ [Glob P] {g:Bool}{t:TypeId}{x y z:Operand}{m k d:D}{h:H}{b:Nat}:aL P W C g (.mapUpdate t x y z) [m,k,d] h b=(.v undef,(ma P t (sd m) (sd k) (sd d) h).1,(g=true->(sg m&&(sg k&&sg d))=true)/\(ma P t (sd m) (sd k) (sd d) h).2):=by simp[aL,bX,aN]
@[go_sem] theorem e_lookup [Glob P] {g ok:Bool}{t:TypeId}{x y:Operand}{m k:D}{h:H}{b:Nat}:aL P W C g (.lookup t x y ok) [m,k] h b=((jM P t ok (sd m) (sd k) h).1,h,(g=true->(sg m&&sg k)=true)/\(jM P t ok (sd m) (sd k) h).2):=by simp[aL,bX,aN,still]
@[go_sem] theorem ZbK [Glob P] {g:Bool}{t:TypeId}{x y:Operand}{d d':D}{h:H}{b:Nat}:aL P W C g (.makeSlice t x y) [d,d'] h b=((jh P t h b (sd d) (sd d')).1,(jh P t h b (sd d) (sd d')).2.1,(g=true->(sg d&&sg d')=true)/\(jh P t h b (sd d) (sd d')).2.2):=by simp[aL,bX,aN]
@[go_sem] theorem mkSl_i [Glob P] {t:TypeId}{h:H}{b:Nat}{k k':IntKind}{n m:Int}:jh P t h b (.v (.int k n)) (.v (.int k' m))=(match bf P t with
  | some e=>(.mrow b 0 n.toNat,upd h b (some ⟨e,List.replicate n.toNat (zeroCells P e)⟩),n=m/\0<=n/\P.bytesOf e*n<=281474976710656/\n<=9223372036854775807/\aC P e=true/\(zeroCells P e).length=P.cellsOf e/\(zeroCells P e).all D.one=true/\0<P.cellsOf e)
  | none=>(.junk,h,False)):=rfl
@[go_sem] theorem ZaZ {t:TypeId}{x y:Operand}{ok:Bool}:(aT C (.lookup t x y ok) = .writes)=False:=by simp[aT]
@[go_sem] theorem Zbu:zq []=true:=rfl
@[go_sem] theorem Zbv {k:IntKind}{n:Int}:zq [.v (.int k n)]=true:=rfl
@[go_sem] theorem XT [Glob P] {t:TypeId}{r:Nat}{k d:D}{h:H}:ma P t (.mp r) k d h=(match kr P t with
 | some (kt,_)=>match h r with
  | some bl=>match jm bl with
   | some kv=>(upd h r (some ⟨bl.ty,eX (fE kv k d)⟩),gU P kt k=true/\gB P kt kv=true/\ku P kt=true)
   | none=>(h,False)
  | none=>(h,False)
 | _=>(h,False)):=by unfold ma;cases kr P t<;>rfl
@[go_sem] theorem lookD_eq [Glob P] {t:TypeId}{ok:Bool}{m k:D}{h:H}:jM P t ok m k h=(match kr P t with
 | some (kt,e)=>match nY h m with
  | some kv=>(if ok then .tuple [(gz kv k).getD (pF P e),.b (gz kv k).isSome] else (gz kv k).getD (pF P e),gU P kt k=true/\gB P kt kv=true/\ku P kt=true/\zy P e=true)
  | none=>(.junk,False)
 | _=>(.junk,False)):=by unfold jM;cases kr P t<;>cases nY h m<;>rfl
@[go_sem] theorem kvH_fmap {h:H}{kv:List D}:nY h (.fmap kv)=some kv:=rfl
@[go_sem] theorem kvH_mp {h:H}{r:Nat}:nY h (.mp r)=(match h r with|some bl=>jm bl|none=>none):=by show (h r).bind jm=_;cases h r<;>rfl
@[go_sem] theorem kvB_rows {t:TypeId}{kv:List D}:jm ⟨t,eX kv⟩=some kv:=rfl
@[go_sem] theorem bv_v {b:Bool}:bv (.v (.bool b))=b:=rfl
@[go_sem] theorem isB_v {b:Bool}:oq (.v (.bool b))=true:=rfl
@[go_sem] theorem e_pick [Glob P] {g:Bool}{x y z:Operand}{c a b:D}{h:H}{n:Nat} :
  aL P W C g (.pick x y z) [c,a,b] h n=(.v (.bool (bif bv (sd c) then bv (sd a) else bv (sd b))),h,(g=true->(sg c=true/\oq (sd c)=true)/\(bv (sd c)=true->sg a=true/\oq (sd a)=true)/\(bv (sd c)=false->sg b=true/\oq (sd b)=true))):=rfl
attribute [go_sem] cond_true cond_false
@[go_sem] theorem nw_move {x:Operand}:(aT C (.move x) = .writes)=False:=by simp[aT]
@[go_sem] theorem nw_load {t:TypeId}{x:Operand}:(aT C (.load t x) = .writes)=False:=by simp[aT]
@[go_sem] theorem nw_binOp {op:BinOp}{t u:TypeId}{x y:Operand}:(aT C (.binOp op t x y u) = .writes)=False:=by simp[aT]
@[go_sem] theorem nw_unOp {op:UnOp}{t:TypeId}{x:Operand}:(aT C (.unOp op t x) = .writes)=False:=by simp[aT]
@[go_sem] theorem Za1 {t:TypeId}{x:Operand}{f:Nat}:(aT C (.fieldAddr t x f) = .writes)=False:=by simp[aT]
@[go_sem] theorem Za0 {t:TypeId}{x y:Operand}:(aT C (.indexAddr t x y) = .writes)=False:=by simp[aT]
@[go_sem] theorem nw_index {t:TypeId}{x y:Operand}:(aT C (.index t x y) = .writes)=False:=by simp[aT]
@[go_sem] theorem nw_pick {x y z:Operand}:(aT C (.pick x y z) = .writes)=False:=by simp[aT]
@[go_sem] theorem Za2 {t u:TypeId}{x:Operand}:(aT C (.convert t u x) = .writes)=False:=by simp[aT]
@[go_sem] theorem nw_slice {t:TypeId}{x:Operand}{a b c:Option Operand}:(aT C (.slice t x a b c) = .writes)=False:=by simp[aT]
@[go_sem] theorem ZaY {x:Operand}:(aT C (.nilCheck x) = .writes)=False:=by simp[aT]
@[go_sem] theorem nw_build {t:TypeId}{ps:Array (Nat×Operand)}:(aT C (.build t ps) = .writes)=False:=by simp[aT]
@[go_sem] theorem nw_len {args:Array Operand}{ts:Array TypeId}:(aT C (.call { callee:=.builtin .len,args:=args,argTypes:=ts }) = .writes)=False:=by simp[aT]
@[go_sem] theorem nw_call {f:Operand}{args:Array Operand}{ts:Array TypeId}:(aT C (.call { callee:=.value f,args:=args,argTypes:=ts }) = .writes)=False:=by
 cases h:C.cf<;>simp[aT,wu,h]
@[go_sem] theorem bif_or {c b:Bool}:(bif c then true else b)=(c||b):=by cases c<;>rfl
@[go_sem] theorem bif_and {c b:Bool}:(bif c then b else false)=(c&&b):=by cases c<;>rfl
@[go_sem] theorem ZcC {cs:List D}:D.cells (.agg cs)=cs:=rfl
@[go_sem] theorem cells_v {x:Value}:D.cells (.v x)=[.v x]:=rfl
@[go_sem] theorem Zcy {f:Bool}{x:List (List D)}:D.cells (.list f x)=[.list f x]:=rfl
@[go_sem] theorem Zcw {a b c:Nat}:D.cells (.mrow a b c)=[.mrow a b c]:=rfl
@[go_sem] theorem Zcx {a b c:Nat}:D.cells (.mptr a b c)=[.mptr a b c]:=rfl
@[go_sem] theorem ZcB {a:List D}:D.cells (.eptr a)=[.eptr a]:=rfl
@[go_sem] theorem cells_fn {f:Fn}{a b:List D}:D.cells (.fn f a b)=[.fn f a b]:=rfl
@[go_sem] theorem Zcz {t:TypeId}{d:D}:D.cells (.iface t d)=[.iface t d]:=rfl
@[go_sem] theorem one_int {k:IntKind}{n:Int}:D.one (.v (.int k n))=true:=rfl
@[go_sem] theorem one_bool {b:Bool}:D.one (.v (.bool b))=true:=rfl
@[go_sem] theorem ZaQ {b:ByteArray}:D.one (.v (.string b))=true:=rfl
@[go_sem] theorem ZaS:D.one (.v .nilFunc)=true:=rfl
@[go_sem] theorem ZaR:D.one (.v .nilIface)=true:=rfl
@[go_sem] theorem one_list {f:Bool}{x:List (List D)}:D.one (.list f x)=true:=rfl
@[go_sem] theorem one_mrow {a b c:Nat}:D.one (.mrow a b c)=true:=rfl
@[go_sem] theorem one_mptr {a b c:Nat}:D.one (.mptr a b c)=true:=rfl
@[go_sem] theorem one_eptr {a:List D}:D.one (.eptr a)=true:=rfl
@[go_sem] theorem one_fn {f:Fn}{a b:List D}:D.one (.fn f a b)=true:=rfl
@[go_sem] theorem ZaT {t:TypeId}{d:D}:D.one (.iface t d)=true:=rfl
@[go_sem] theorem ldc_eptr [Glob P] {cs:List D}{h:H}:fD P (.eptr cs) h=cs:=rfl
@[go_sem] theorem ldc_mptr [Glob P] {r i off:Nat}{h:H}:fD P (.mptr r i off) h=match h r with|some b=>(b.rows.getD i []).drop off|none=>[]:=rfl
@[go_sem] theorem ldD_eq [Glob P] {t:TypeId}{a:D}{h:H}:lN P t a h=(nW P t (fD P a h),P.cellsOf t<=(fD P a h).length/\0<P.cellsOf t/\(P.underlying t).isSome=true):=rfl
theorem IV [Glob P] {x o:Nat}{h:H}:fD P (.v (.pointer (some ⟨x,o,none⟩))) h=match Glob.tab P x with|some cs=>(cs.drop o).map D.v|none=>[]:=rfl
@[go_sem] theorem Zbb {cs:List D}{h:H}:dP (.eptr cs) h=cs:=rfl
@[go_sem] theorem Zba {r i off:Nat}{h:H}:dP (.mptr r i off) h=match h r with|some b=>(b.rows.getD i []).drop off|none=>[]:=rfl
attribute [go_sem] nW sG wL splice
@[go_sem] theorem ZaI {n:Nat}{cs:List D}:pY n (.eptr cs) = .eptr (cs.drop n):=rfl
@[go_sem] theorem ZaH {n r i off:Nat}:pY n (.mptr r i off) = .mptr r i (off+n):=rfl
@[go_sem] theorem ZaG {n x o:Nat}:pY n (.v (.pointer (some ⟨x,o,none⟩))) = .v (.pointer (some ⟨x,o+n,none⟩)):=by simp only[pY,jy]
@[go_sem] theorem Zbh {p:Addr}:mM (.v (.pointer (some p)))=true:=rfl
@[go_sem] theorem Zbj {cs:List D}:mM (.eptr cs)=true:=rfl
@[go_sem] theorem Zbi {r i off:Nat}:mM (.mptr r i off)=true:=rfl
@[go_sem] theorem stH_mptr [Glob P] {t:TypeId}{r i off:Nat}{x:D}{h:H}:lH P t (.mptr r i off) x h=match h r with
  | some b=>(upd h r (some { b with rows:=b.rows.set i (splice (b.rows.getD i []) off x.cells) }),x.cells.length=P.cellsOf t/\0<P.cellsOf t/\i<b.rows.length/\off+x.cells.length<=(b.rows.getD i []).length/\x.cells.all D.one=true)
  | none=>(h,False):=rfl
@[go_sem] theorem Zby [Glob P] {t:TypeId}{f:Bool}{rows:List (List D)}{k:IntKind}{n:Int}{h:H}:fG P t (.list f rows) (.v (.int k n)) h=match bf P t with
  | none=>oz P t (.list f rows) (.v (.int k n))
  | some e=>(.eptr (rows.getD n.toNat []),0<=n/\n<rows.length/\0<P.cellsOf e/\(rows.getD n.toNat []).length=P.cellsOf e):=by unfold fG;cases bf P t<;>rfl
@[go_sem] theorem Zbx [Glob P] {t:TypeId}{r off len:Nat}{k:IntKind}{n:Int}{h:H}:fG P t (.mrow r off len) (.v (.int k n)) h=match bf P t with
  | none=>oz P t (.mrow r off len) (.v (.int k n))
  | some e=>(.mptr r (off+n.toNat) 0,0<=n/\n<len/\0<P.cellsOf e/\match h r with|some bl=>bl.ty=e|none=>False):=by unfold fG;cases bf P t<;>rfl
@[go_sem] theorem Zbw [Glob P] {t:TypeId}{p:Option Addr}{k:IntKind}{n:Int}{h:H}:fG P t (.v (.pointer p)) (.v (.int k n)) h=match bf P t with
  | none=>oz P t (.v (.pointer p)) (.v (.int k n))
  | some _=>(.junk,False):=by unfold fG;cases bf P t<;>rfl
@[go_sem] theorem isGp_ptr {p:Addr}:ol (.v (.pointer (some p)))=true:=rfl
@[go_sem] theorem Zbs {cs:List D}:ol (.eptr cs)=true:=rfl
@[go_sem] theorem Zbr {r i off:Nat}:ol (.mptr r i off)=true:=rfl
@[go_sem] theorem Zbz [Glob P] {t:TypeId}{x:D}{k:IntKind}{n:Int}:oz P t x (.v (.int k n))=match jS P t with
  | some (m,e)=>(pY (n.toNat*P.cellsOf e) x,ol x=true/\0<=n/\n<m/\0<P.cellsOf e)
  | none=>(.junk,False):=by unfold oz;cases jS P t<;>rfl
@[go_sem] theorem ZaD {f:Bool}{rows:List (List D)}{h:H}:rowsOf (.list f rows) h=rows:=rfl
@[go_sem] theorem ZaC {r off len:Nat}{h:H}:rowsOf (.mrow r off len) h=match h r with|some b=>(b.rows.drop off).take len|none=>[]:=rfl
@[go_sem] theorem Za9 {f:Bool}{rows:List (List D)}:aV (.list f rows)=rows.length:=rfl
@[go_sem] theorem Za8 {r off len:Nat}:aV (.mrow r off len)=len:=rfl
@[go_sem] theorem Za7 {s:ByteArray}:aV (.v (.string s))=s.size:=rfl
@[go_sem] theorem Za6 [Glob P] {t:TypeId}{f:Bool}{rows:List (List D)}:rV P t (.list f rows)=(bf P t).isSome:=rfl
@[go_sem] theorem Za5 [Glob P] {t:TypeId}{r off len:Nat}:rV P t (.mrow r off len)=(bf P t).isSome:=rfl
@[go_sem] theorem Za4 [Glob P] {t:TypeId}{s:ByteArray}:rV P t (.v (.string s))=match P.underlying t with|some .string=>true|_=>false:=rfl
attribute [go_sem] Option.isSome_some
@[go_sem] theorem Zaf [Glob P] {t:TypeId}{h:H}{f:Bool}{rows:List (List D)}:gK P t h (.list f rows)=(bf P t).isSome:=rfl
@[go_sem] theorem Zae [Glob P] {t:TypeId}{h:H}{r off len:Nat}:gK P t h (.mrow r off len)=((bf P t).isSome&&(h r).isSome):=rfl
@[go_sem] theorem Zad [Glob P] {t:TypeId}{h:H}{s:ByteArray}:gK P t h (.v (.string s))=match P.underlying t with|some .string=>true|_=>false:=rfl
@[go_sem] theorem ZcP [Glob P] {t u:TypeId}{rows:List (List D)}{y:D}{h:H}{b:Nat}:kI P t u (.list true rows) y h b=match bf P t with
  | none=>(.junk,h,False)
  | some e=>(.mrow b 0 (rows.length+(rowsOf y h).length),upd h b (some ⟨e,rows++rowsOf y h⟩),(0<P.cellsOf e/\(rows.length+(rowsOf y h).length)*P.bytesOf e<=140737488355328/\rows.length+(rowsOf y h).length<=9223372036854775807) /\
    ((rowsOf y h).length=aV y/\gK P u h y=true/\aC P e=true /\ ∀ r∈rowsOf y h,r.length=P.cellsOf e)/\(rowsOf y h=[]->rows=[]) /\ ∀ r∈rows,r.length=P.cellsOf e):=by
 unfold kI;cases bf P t<;>rfl
@[go_sem] theorem ZcO [Glob P] {t u:TypeId}{r n:Nat}{y:D}{h:H}{b:Nat}:kI P t u (.mrow r 0 n) y h b=match bf P t with
  | none=>(.junk,h,False)
  | some e=>match h r with
   | none=>(.junk,h,False)
   | some bl=>(.mrow b 0 (n+(rowsOf y h).length),upd (upd h r none) b (some ⟨e,bl.rows++rowsOf y h⟩),(0<P.cellsOf e/\(n+(rowsOf y h).length)*P.bytesOf e<=140737488355328/\n+(rowsOf y h).length<=9223372036854775807) /\
    ((rowsOf y h).length=aV y/\gK P u h y=true/\aC P e=true /\ ∀ r∈rowsOf y h,r.length=P.cellsOf e)/\bl.ty=e/\bl.rows.length=n/\r≠b):=by
 unfold kI;cases bf P t with
 | none=>rfl
 | some e=>cases hr:h r with
  | none=>simp only[hr]
  | some bl=>simp only[aV,hr]
attribute [go_sem] uG oU qJ sK lu rE
@[go_sem] theorem binD_v [Glob P] {t:TypeId}{op:BinOp}{a b:Value}:o8 P t op (.v a) (.v b)=(.v (bY P t op a b).1,(bY P t op a b).2):=rfl
@[go_sem] theorem binV_lss [Glob P] {t:TypeId}{k k':IntKind}{a b:Int}:bY P t .lss (.int k a) (.int k' b)=(.bool (decide (a<b)),k=k'):=rfl
@[go_sem] theorem binV_leq [Glob P] {t:TypeId}{k k':IntKind}{a b:Int}:bY P t .leq (.int k a) (.int k' b)=(.bool (decide (a<=b)),k=k'):=rfl
@[go_sem] theorem binV_gtr [Glob P] {t:TypeId}{k k':IntKind}{a b:Int}:bY P t .gtr (.int k a) (.int k' b)=(.bool (decide (b<a)),k=k'):=rfl
@[go_sem] theorem binV_geq [Glob P] {t:TypeId}{k k':IntKind}{a b:Int}:bY P t .geq (.int k a) (.int k' b)=(.bool (decide (b<=a)),k=k'):=rfl
@[go_sem] theorem binV_eql [Glob P] {t:TypeId}{k k':IntKind}{a b:Int}:bY P t .eql (.int k a) (.int k' b)=(.bool (a==b),k=k'):=rfl
@[go_sem] theorem binV_neq [Glob P] {t:TypeId}{k k':IntKind}{a b:Int}:bY P t .neq (.int k a) (.int k' b)=(.bool (a != b),k=k'):=rfl
@[go_sem] theorem binV_add [Glob P] {t:TypeId}{k k':IntKind}{a b:Int}:bY P t .add (.int k a) (.int k' b)=if k.signed then (.int k (a+b),k=k'/\gV k (a+b)) else (.int k (k.wrap (a+b)),k=k'):=rfl
@[go_sem] theorem binV_sub [Glob P] {t:TypeId}{k k':IntKind}{a b:Int}:bY P t .sub (.int k a) (.int k' b)=if k.signed then (.int k (a-b),k=k'/\gV k (a-b)) else (.int k (k.wrap (a-b)),k=k'):=rfl
@[go_sem] theorem binV_mul [Glob P] {t:TypeId}{k k':IntKind}{a b:Int}:bY P t .mul (.int k a) (.int k' b)=if k.signed then (.int k (a*b),k=k'/\gV k (a*b)) else (.int k (k.wrap (a*b)),k=k'):=rfl
@[go_sem] theorem binV_quo [Glob P] {t:TypeId}{k k':IntKind}{a b:Int}:bY P t .quo (.int k a) (.int k' b)=(.int k (a / b),k=k'/\0<=a/\1<=b/\gV k a):=rfl
@[go_sem] theorem binV_rem [Glob P] {t:TypeId}{k k':IntKind}{a b:Int}:bY P t .rem (.int k a) (.int k' b)=(.int k (a % b),k=k'/\0<=a/\1<=b):=rfl
@[go_sem] theorem binV_eqb [Glob P] {t:TypeId}{a b:Bool}:bY P t .eql (.bool a) (.bool b)=(.bool (a==b),P.underlying t=some .bool):=rfl
@[go_sem] theorem binV_neb [Glob P] {t:TypeId}{a b:Bool}:bY P t .neq (.bool a) (.bool b)=(.bool (a != b),P.underlying t=some .bool):=rfl
@[go_sem] theorem binV_eqs [Glob P] {t:TypeId}{a b:ByteArray}:bY P t .eql (.string a) (.string b)=(.bool (a.data.toList==b.data.toList),True):=rfl
@[go_sem] theorem binV_nes [Glob P] {t:TypeId}{a b:ByteArray}:bY P t .neq (.string a) (.string b)=(.bool (a.data.toList != b.data.toList),True):=rfl
@[go_sem] theorem ZcN [Glob P] {t:TypeId}{a b:ByteArray}:bY P t .add (.string a) (.string b)=(.string (a++b),a.size+b.size<=9223372036854775807):=rfl
@[go_sem] theorem ZcJ [Glob P] {t:TypeId}{a b:ByteArray}:bY P t .lss (.string a) (.string b)=(.bool (Go.Op.bytesLess a.data.toList b.data.toList),True):=rfl
@[go_sem] theorem ZcK [Glob P] {t:TypeId}{a b:ByteArray}:bY P t .leq (.string a) (.string b)=(.bool (Go.Op.bytesLess a.data.toList b.data.toList||a.data.toList==b.data.toList),True):=rfl
@[go_sem] theorem ZcL [Glob P] {t:TypeId}{a b:ByteArray}:bY P t .gtr (.string a) (.string b)=(.bool !(Go.Op.bytesLess a.data.toList b.data.toList||a.data.toList==b.data.toList),True):=rfl
@[go_sem] theorem ZcM [Glob P] {t:TypeId}{a b:ByteArray}:bY P t .geq (.string a) (.string b)=(.bool !(Go.Op.bytesLess a.data.toList b.data.toList),True):=rfl
@[go_sem] theorem binV_shl [Glob P] {t:TypeId}{k k':IntKind}{a b:Int}:bY P t .shl (.int k a) (.int k' b)=(.int k (k.wrap (a*2^(min b.toNat k.bits))),0<=b):=rfl
@[go_sem] theorem binV_shr [Glob P] {t:TypeId}{k k':IntKind}{a b:Int}:bY P t .shr (.int k a) (.int k' b)=(.int k (a.fdiv (2^(min b.toNat k.bits))),0<=b):=rfl
@[go_sem] theorem binV_or [Glob P] {t:TypeId}{k k':IntKind}{a b:Int}:bY P t .or (.int k a) (.int k' b)=(.int k (k.wrap (BitVec.ofInt k.bits a ||| BitVec.ofInt k.bits b).toNat),k=k'):=rfl
def Ay (k:IntKind) (a b:Int):Int:=k.wrap (BitVec.ofInt k.bits a ^^^ BitVec.ofInt k.bits b).toNat
@[go_sem] theorem binV_xor [Glob P] {t:TypeId}{k k':IntKind}{a b:Int}:bY P t .xor (.int k a) (.int k' b)=(.int k (Ay k a b),k=k'):=rfl
@[go_sem] theorem binD_eq [Glob P] {t:TypeId}{xs ys:List D}:o8 P t .eql (.agg xs) (.agg ys)=(.v (.bool (iL xs ys)),match kF P t with|some ks=>jQ ks xs ys=true|none=>False):=rfl
@[go_sem] theorem binD_ne [Glob P] {t:TypeId}{xs ys:List D}:o8 P t .neq (.agg xs) (.agg ys)=(.v (.bool (!iL xs ys)),match kF P t with|some ks=>jQ ks xs ys=true|none=>False):=rfl
attribute [go_sem] iL jQ
@[go_sem] theorem eqCell_i {k k':IntKind}{a b:Int}:iM (.v (.int k a)) (.v (.int k' b))=(a==b):=rfl
@[go_sem] theorem eqCell_b {a b:Bool}:iM (.v (.bool a)) (.v (.bool b))=(a==b):=rfl
@[go_sem] theorem eqCell_s {a b:ByteArray}:iM (.v (.string a)) (.v (.string b))=(a.data.toList==b.data.toList):=rfl
@[go_sem] theorem ZaK {k k':IntKind}{a b:Int}:p9 .i (.v (.int k a)) (.v (.int k' b))=(k==k'):=rfl
@[go_sem] theorem ZaL {a b:Bool}:p9 .b (.v (.bool a)) (.v (.bool b))=true:=rfl
@[go_sem] theorem ZaJ {a b:ByteArray}:p9 .s (.v (.string a)) (.v (.string b))=true:=rfl
@[go_sem] theorem Zax:IntKind.i64.signed=true:=rfl
@[go_sem] theorem Zat:IntKind.u8.signed=false:=rfl
@[go_sem] theorem Zaw:IntKind.u16.signed=false:=rfl
@[go_sem] theorem Zav:IntKind.u32.signed=false:=rfl
@[go_sem] theorem Zau:IntKind.u64.signed=false:=rfl
@[go_sem] theorem inK_i64 {n:Int}:gV .i64 n=(-9223372036854775808<=n/\n<=9223372036854775807):=by simp[gV,IntKind.min,IntKind.max,IntKind.signed,IntKind.bits]
@[go_sem] theorem unD_not {b:Bool}:pK .not (.v (.bool b))=(.v (.bool !b),True):=rfl
@[go_sem] theorem unD_neg {k:IntKind}{n:Int}:pK .neg (.v (.int k n))=(.v (.int k (-n)),gV k (-n)):=rfl
attribute [go_sem] sJ
@[go_sem] theorem idxV_s [Glob P] {t:TypeId}{s:ByteArray}{k:IntKind}{n:Int}:sj P t (.v (.string s)) (.v (.int k n))=(.v (.int .u8 (s.data.toList.getD n.toNat 0).toNat),0<=n/\n<s.size/\P.underlying t=some .string):=rfl
@[go_sem] theorem bnd_none {d:Nat}:bnd none d=d:=rfl
@[go_sem] theorem bnd_some {d:Nat}{k:IntKind}{n:Int}:bnd (some (.v (.int k n))) d=n:=rfl
@[go_sem] theorem ZcI:sM none=true:=rfl
@[go_sem] theorem ZcH {k:IntKind}{n:Int}:sM (some (.v (.int k n)))=true:=rfl
attribute [go_sem] Option.toList_some Option.toList_none fM iY
attribute [go_sem] jo
@[go_sem] theorem wk_v {x:Value}:wk (.v x) = .v x:=rfl
@[go_sem] theorem wk_agg {cs:List D}:wk (.agg cs) = .agg (di cs):=rfl
@[go_sem] theorem wk_list {f:Bool}{rows:List (List D)}:wk (.list f rows) = .list false (bZ rows):=rfl
@[go_sem] theorem wk_eptr {cs:List D}:wk (.eptr cs) = .eptr (di cs):=rfl
@[go_sem] theorem XO {cs:List D}:wk (.tuple cs) = .tuple (di cs):=rfl
@[go_sem] theorem wk_mrow {a b c:Nat}:wk (.mrow a b c) = .mrow a b c:=rfl
@[go_sem] theorem wk_mptr {a b c:Nat}:wk (.mptr a b c) = .mptr a b c:=rfl
@[go_sem] theorem wk_fn {f:Fn}{a b:List D}:wk (.fn f a b) = .fn f a b:=rfl
@[go_sem] theorem XP {t:TypeId}{d:D}:wk (.iface t d) = .iface t (wk d):=rfl
@[go_sem] theorem wk_fmap {kv:List D}:wk (.fmap kv) = .fmap (di kv):=rfl
@[go_sem] theorem ZbX {kv:List D}{h:H}:deref h (.fmap kv) = .fmap kv:=rfl
@[go_sem] theorem Zco {kv:List D}{h:H}:jR h (.fmap kv) = .fmap kv:=rfl
@[go_sem] theorem Zct {kv:List D}{h:H}:kG h (.fmap kv) = .fmap kv:=rfl
@[go_sem] theorem Zbo {kv:List D}:fF (.fmap kv)=false:=rfl
@[go_sem] theorem Zbf {kv:List D}:ky (.fmap kv)=false:=rfl
@[go_sem] theorem Zb5 {kv:List D}{h:H}:iy h (.fmap kv)=True:=rfl
@[go_sem] theorem Zcd {kv:List D}{h:H}:ll h (.fmap kv)=True:=rfl
@[go_sem] theorem Zcj {kv:List D}{h:H}:lm h (.fmap kv)=True:=rfl
attribute [go_sem] di bZ
@[go_sem] theorem ZbW {f:Bool}{rows:List (List D)}{h:H}:deref h (.list f rows) = .list f rows:=rfl
@[go_sem] theorem deref_v {x:Value}{h:H}:deref h (.v x) = .v x:=rfl
@[go_sem] theorem ZbZ {x:List D}{h:H}:deref h (.agg x) = .agg x:=rfl
@[go_sem] theorem deref_fn {f:Fn}{a b:List D}{h:H}:deref h (.fn f a b) = .fn f (a.map (jR h)) (b.map (jR h)):=rfl
@[go_sem] theorem ZbV {a b c:Nat}{h:H}:deref h (.mptr a b c) = .eptr ((dP (.mptr a b c) h).map (kG h)):=rfl
@[go_sem] theorem Zcl {a b c:Nat}{h:H}:jR h (.mptr a b c) = .eptr ((dP (.mptr a b c) h).map (kG h)):=rfl
@[go_sem] theorem Zck {a b c:Nat}{h:H}:jR h (.mrow a b c) = .list false (rowsOf (.mrow a b c) h):=rfl
@[go_sem] theorem Zcq {a b c:Nat}{h:H}:kG h (.mrow a b c) = .list false (rowsOf (.mrow a b c) h):=rfl
@[go_sem] theorem deref1_v {x:Value}{h:H}:jR h (.v x) = .v x:=rfl
@[go_sem] theorem Zcm {f:Bool}{rows:List (List D)}{h:H}:jR h (.list f rows) = .list f rows:=rfl
@[go_sem] theorem Zcp {x:List D}{h:H}:jR h (.eptr x) = .eptr x:=rfl
@[go_sem] theorem Zcn {f:Fn}{a b:List D}{h:H}:jR h (.fn f a b) = .fn f a b:=rfl
@[go_sem] theorem deref0_v {x:Value}{h:H}:kG h (.v x) = .v x:=rfl
@[go_sem] theorem Zcr {f:Bool}{rows:List (List D)}{h:H}:kG h (.list f rows) = .list f rows:=rfl
@[go_sem] theorem Zcs {f:Fn}{a b:List D}{h:H}:kG h (.fn f a b) = .fn f a b:=rfl
@[go_sem] theorem ZbY {x:List D}{h:H}:deref h (.eptr x) = .eptr x:=rfl
@[go_sem] theorem Zbp {x:List D}:fF (.eptr x)=false:=rfl
@[go_sem] theorem Zb6 {x:List D}{h:H}:iy h (.eptr x)=True:=rfl
@[go_sem] theorem ZbU {a b c:Nat}{h:H}:deref h (.mrow a b c) = .list false (rowsOf (.mrow a b c) h):=rfl
@[go_sem] theorem Zbm {f:Bool}{rows:List (List D)}:fF (.list f rows)=false:=rfl
@[go_sem] theorem isMrow_v {x:Value}:fF (.v x)=false:=rfl
@[go_sem] theorem Zbq {x:List D}:fF (.agg x)=false:=rfl
@[go_sem] theorem Zbn {f:Fn}{a b:List D}:fF (.fn f a b)=(a.any ky||b.any ky):=rfl
@[go_sem] theorem Zbl {a b c:Nat}:fF (.mptr a b c)=true:=rfl
@[go_sem] theorem Zbd {a b c:Nat}:ky (.mptr a b c)=true:=rfl
@[go_sem] theorem Zbc {a b c:Nat}:ky (.mrow a b c)=true:=rfl
@[go_sem] theorem isRef_v {x:Value}:ky (.v x)=false:=rfl
@[go_sem] theorem Zbe {f:Bool}{rows:List (List D)}:ky (.list f rows)=false:=rfl
@[go_sem] theorem Zbg {x:List D}:ky (.eptr x)=false:=rfl
@[go_sem] theorem isRef_fn {f:Fn}{a b:List D}:ky (.fn f a b)=false:=rfl
@[go_sem] theorem Zbk {a b c:Nat}:fF (.mrow a b c)=true:=rfl
@[go_sem] theorem Zb3 {f:Bool}{rows:List (List D)}{h:H}:iy h (.list f rows)=True:=rfl
@[go_sem] theorem Zb0 {x:Value}{h:H}:iy h (.v x)=True:=rfl
@[go_sem] theorem Zb7 {x:List D}{h:H}:iy h (.agg x)=True:=rfl
@[go_sem] theorem Zb4 {f:Fn}{a b:List D}{h:H}:iy h (.fn f a b)=((∀ c∈a,ll h c) /\ ∀ c∈b,ll h c):=rfl
@[go_sem] theorem Zb2 {r i off:Nat}{h:H}:iy h (.mptr r i off)=((h r).isSome=true /\ ∀ c∈dP (.mptr r i off) h,lm h c):=rfl
@[go_sem] theorem Zca {r i off:Nat}{h:H}:ll h (.mptr r i off)=((h r).isSome=true /\ ∀ c∈dP (.mptr r i off) h,lm h c):=rfl
@[go_sem] theorem Zb9 {r off len:Nat}{h:H}:ll h (.mrow r off len)=((h r).isSome=true/\(rowsOf (.mrow r off len) h).length=len):=rfl
@[go_sem] theorem Zcg {r off len:Nat}{h:H}:lm h (.mrow r off len)=((h r).isSome=true/\(rowsOf (.mrow r off len) h).length=len):=rfl
@[go_sem] theorem Zb8 {x:Value}{h:H}:ll h (.v x)=True:=rfl
@[go_sem] theorem Zcb {f:Bool}{rows:List (List D)}{h:H}:ll h (.list f rows)=True:=rfl
@[go_sem] theorem Zce {x:List D}{h:H}:ll h (.eptr x)=True:=rfl
@[go_sem] theorem Zcc {f:Fn}{a b:List D}{h:H}:ll h (.fn f a b)=True:=rfl
@[go_sem] theorem Zcf {x:Value}{h:H}:lm h (.v x)=True:=rfl
@[go_sem] theorem Zch {f:Bool}{rows:List (List D)}{h:H}:lm h (.list f rows)=True:=rfl
@[go_sem] theorem Zci {f:Fn}{a b:List D}{h:H}:lm h (.fn f a b)=True:=rfl
@[go_sem] theorem Zb1 {r off len:Nat}{h:H}:iy h (.mrow r off len)=((h r).isSome=true/\(rowsOf (.mrow r off len) h).length=len):=rfl
attribute [go_sem] List.any_cons List.any_nil Bool.or_false Bool.or_true Bool.false_or Bool.true_or
@[go_sem] theorem ZcD {k:FuncId}{d:D}{ys:List D}{h:H}{b:Nat}:fQ W C (.func k) (d::ys) h b=if C.pure k then
   (if C.cf then (C.pf k (ys.map wk),h,W.pureCt k (ys.map wk) (C.pf k (ys.map wk))/\ys.any fF=false)
   else if C.dp then (C.pf k (ys.map (kL h)),h,W.pureCt k (ys.map (kL h)) (C.pf k (ys.map (kL h)))/\flat (C.pf k (ys.map (kL h)))=true /\ ∀ y∈ys,cu h 5 y)
   else (C.pf k (ys.map (jo h)),h,W.pureCt k (ys.map (jo h)) (C.pf k (ys.map (jo h)))/\(ys.any fF=true->flat (C.pf k (ys.map (jo h)))=true /\ ∀ y∈ys,iy h y)))
  else (.junk,h,False):=rfl
@[go_sem] theorem call_tmp {k:FuncId}{t:Tmp}{first caps ys:List D}{h:H}{b:Nat}:fQ W C (.tmp t) (.fn (.func k) first caps::ys) h b=if C.pure k then
   (if C.cf then (C.pf k ((first++ys++caps).map wk),h,W.pureCt k ((first++ys++caps).map wk) (C.pf k ((first++ys++caps).map wk))/\(first++ys++caps).any fF=false)
   else if C.dp then (C.pf k ((first++ys++caps).map (kL h)),h,W.pureCt k ((first++ys++caps).map (kL h)) (C.pf k ((first++ys++caps).map (kL h)))/\flat (C.pf k ((first++ys++caps).map (kL h)))=true /\ ∀ y∈first++ys++caps,cu h 5 y)
   else (C.pf k ((first++ys++caps).map (jo h)),h,W.pureCt k ((first++ys++caps).map (jo h)) (C.pf k ((first++ys++caps).map (jo h)))/\((first++ys++caps).any fF=true->flat (C.pf k ((first++ys++caps).map (jo h)))=true /\ ∀ y∈first++ys++caps,iy h y)))
  else (.junk,h,False):=rfl
@[go_sem] theorem XM [Glob P] {k:FuncId}{xs:List D}{r:D}:(words P).pureCt k xs r=PureCt P k xs r:=rfl
@[go_sem] theorem XN [Glob P] {k:FuncId}{xs:List D}{h h':H}{b:Nat}{r:D}:(words P).ct k xs h b r h'=Ct P k xs h b r h':=rfl
@[go_sem] theorem flat_v {x:Value}:flat (.v x)=true:=rfl
attribute [go_sem] jb Ga vF jH
attribute [go_sem] List.forall_mem_cons List.not_mem_nil false_implies forall_const
@[go_sem] theorem snap_v {h:H}{k:Nat}{x:Value}:bN h k (.v x) = .v x:=by cases k<;>rfl
@[go_sem] theorem Zaj {h:H}{k:Nat}{f:Bool}{x:List (List D)}:bN h k (.list f x) = .list f x:=by cases k<;>rfl
@[go_sem] theorem Zah {h:H}{k:Nat}{r off len:Nat}:bN h (k+1) (.mrow r off len) = .list false ((rowsOf (.mrow r off len) h).map fun row=>row.map (bN h k)):=rfl
@[go_sem] theorem snap_agg {h:H}{k:Nat}{cs:List D}:bN h (k+1) (.agg cs) = .agg (cs.map (bN h k)):=rfl
@[go_sem] theorem Zag {h:H}{k:Nat}{cs:List D}:bN h (k+1) (.tuple cs) = .tuple (cs.map (bN h k)):=rfl
@[go_sem] theorem snapOk_v {h:H}{k:Nat}{x:Value}:cu h k (.v x)=True:=by cases k<;>simp[cu,D.nr]
@[go_sem] theorem Zao {h:H}{k:Nat}{f:Bool}{x:List (List D)}:cu h k (.list f x)=(aS x=true):=by cases k<;>rfl
@[go_sem] theorem Zam {h:H}{k:Nat}{r off len:Nat}:cu h (k+1) (.mrow r off len)=(iy h (.mrow r off len) /\ ∀ row∈rowsOf (.mrow r off len) h,∀ c∈row,cu h k c):=rfl
@[go_sem] theorem Zaq {h:H}{k:Nat}{cs:List D}:cu h (k+1) (.agg cs) = ∀ c∈cs,cu h k c:=rfl
@[go_sem] theorem Zak {h:H}{k:Nat}{cs:List D}:cu h (k+1) (.tuple cs) = ∀ c∈cs,cu h k c:=rfl
@[go_sem] theorem Zai {h:H}{k:Nat}{r i off:Nat}:bN h (k+1) (.mptr r i off) = .eptr ((dP (.mptr r i off) h).map (bN h k)):=rfl
@[go_sem] theorem snap_fn {h:H}{k:Nat}{f:Fn}{a b:List D}:bN h (k+1) (.fn f a b) = .fn f (a.map (bN h k)) (b.map (bN h k)):=rfl
@[go_sem] theorem Zan {h:H}{k:Nat}{r i off:Nat}:cu h (k+1) (.mptr r i off)=((h r).isSome=true /\ ∀ c∈dP (.mptr r i off) h,cu h k c):=rfl
@[go_sem] theorem Zap {h:H}{k:Nat}{f:Fn}{a b:List D}:cu h (k+1) (.fn f a b)=((∀ c∈a,cu h k c) /\ ∀ c∈b,cu h k c):=rfl
theorem Oc {h:H}(rows:List (List D)):(rows.map fun row=>row.map (bN h 0))=rows:=by
 have:(fun row:List D=>row.map (bN h 0))=id:=by funext row;exact List.map_id row
 rw[this];exact List.map_id rows
theorem Od {h:H}{rows:List (List D)}(hn:aS rows=true):∀ row∈rows,∀ c∈row,cu h 0 c:=fun _ h1 _ h2=>jL (ui hn h1) h2
theorem KE [Glob P] {ro:Option Nat}{Q:Exit->S->Prop}{s s':S}{id:Nat}{ops:Array Oper}{draw:Bool}(he:exec P (words P) C ops.toList s=s') (hd:draw=true->P.follows .mixedOrders=true/\jr C ops.toList=true/\gF ops.toList=true) (hok:s'.ok) (hq:Q .normal s'.clear):DW P ro (.region id ops draw) Q s :=
 Vd (C:=C) hd (by rw[he];exact hok) (by rw[he];exact hq)
end Go.DL
namespace Go.Proofs.YtjngdcldglkolaaGreatDoor
open Go.DL
def rulesTab:List Value:=[.int .i64 0,.int .i64 0,.int .i64 0,.int .i64 0,.int .i64 0,.bool false,.bool false,.bool false,.int .i64 0,.int .i64 1,.int .i64 1000000,.int .i64 0,.int .i64 0,.bool false,.bool false,.bool true,.int .i64 1,.int .i64 0,.int .i64 0,.int .i64 0,.int .i64 0,.bool false,.bool false,.bool false,.int .i64 1,.int .i64 0,.int .i64 0,.int .i64 0,.int .i64 0,.bool false,.bool true,.bool false,.int .i64 0,.int .i64 0,.int .i64 65535,.int .i64 0,.int .i64 100000,.bool false,.bool true,.bool false,.int .i64 3,.int .i64 0,.int .i64 0,.int .i64 0,.int .i64 0,.bool false,.bool false,.bool true,.int .i64 0,.int .i64 1,.int .i64 1000000,.int .i64 1,.int .i64 3,.bool false,.bool false,.bool false,.int .i64 0,.int .i64 1,.int .i64 1000000,.int .i64 1,.int .i64 3,.bool false,.bool false,.bool false,.int .i64 2,.int .i64 2,.int .i64 510,.int .i64 0,.int .i64 0,.bool true,.bool false,.bool true]
def fH (a:Addr):Value:=.iface 290 (.pointer (some a))
def toldF (a:Addr) (x:Nat):Option (List Value):=if x=1 then some rulesTab else if x=0 then some [fH a] else none
class Told [Glob Tryz.prog]:Prop where
 tab : ∃ a:Addr,∀ x,Glob.tab Tryz.prog x=toldF a x
section
variable [Glob Tryz.prog] [Told]
noncomputable def dY:Addr:=(Told.tab (self:=inferInstance)).choose
theorem EQ (x:Nat):Glob.tab Tryz.prog x=toldF dY x:=(Told.tab (self:=inferInstance)).choose_spec x
theorem Ur:Glob.tab Tryz.prog 1=some rulesTab:=EQ 1
theorem Uq:Glob.tab Tryz.prog 0=some [fH dY]:=EQ 0
end
variable [Glob Tryz.prog]
theorem ik:Tryz.prog.follows .mixedOrders=true:=by kernel_rfl
@[go_sem] theorem ty_1:aK Tryz.prog 1=false/\Tryz.prog.cellsOf 1=1/\Tryz.prog.bytesOf 1=8/\zeroCells Tryz.prog 1=[.v .nilFunc]/\aC Tryz.prog 1=true/\(Tryz.prog.underlying 1).isSome=true/\aK Tryz.prog 2=false/\Tryz.prog.cellsOf 2=1/\Tryz.prog.bytesOf 2=8/\zeroCells Tryz.prog 2=[.v (.int .i64 0)]/\aC Tryz.prog 2=true/\Tryz.prog.underlying 2=some (.int .i64)/\aK Tryz.prog 3=false/\Tryz.prog.cellsOf 3=1/\Tryz.prog.bytesOf 3=8/\zeroCells Tryz.prog 3=[.v (.int .i64 0)]/\aC Tryz.prog 3=true/\Tryz.prog.underlying 3=some (.int .i64)/\aK Tryz.prog 4=false/\Tryz.prog.cellsOf 4=1/\zeroCells Tryz.prog 4=[.v (.bool false)]/\aC Tryz.prog 4=true/\Tryz.prog.underlying 4=some .bool/\pF Tryz.prog 4 = .v (.bool false)/\zy Tryz.prog 4=true:=by and_intros<;>kernel_rfl
@[go_sem] theorem qQ:Tryz.prog.bytesOf 4=1:=by kernel_rfl
@[go_sem] theorem ty_2:aK Tryz.prog 5=false/\Tryz.prog.cellsOf 5=1/\Tryz.prog.bytesOf 5=1/\zeroCells Tryz.prog 5=[.v (.int .u8 0)]/\aC Tryz.prog 5=true/\Tryz.prog.underlying 5=some (.int .u8)/\aK Tryz.prog 9=false/\Tryz.prog.cellsOf 9=1/\Tryz.prog.bytesOf 9=16/\zeroCells Tryz.prog 9=[.v (.string ⟨⟨[]⟩⟩)]/\aC Tryz.prog 9=true/\Tryz.prog.underlying 9=some .string/\ku Tryz.prog 9=true/\aK Tryz.prog 20=false/\Tryz.prog.cellsOf 20=1/\Tryz.prog.bytesOf 20=16/\zeroCells Tryz.prog 20=[.v .nilIface]/\aC Tryz.prog 20=true/\(Tryz.prog.underlying 20).isSome=true/\aK Tryz.prog 22=false/\Tryz.prog.cellsOf 22=1/\Tryz.prog.bytesOf 22=24/\zeroCells Tryz.prog 22=[.list true []]/\aC Tryz.prog 22=true/\(Tryz.prog.underlying 22).isSome=true/\bf Tryz.prog 22=some 5/\aK Tryz.prog 23=false/\Tryz.prog.cellsOf 23=1/\Tryz.prog.bytesOf 23=24/\zeroCells Tryz.prog 23=[.list true []]/\aC Tryz.prog 23=true/\(Tryz.prog.underlying 23).isSome=true/\bf Tryz.prog 23=some 22/\aK Tryz.prog 24=true/\Tryz.prog.cellsOf 24=2/\Tryz.prog.bytesOf 24=48/\zeroCells Tryz.prog 24=[.list true [],.list true []]/\aC Tryz.prog 24=true/\(Tryz.prog.underlying 24).isSome=true/\aR Tryz.prog 24 0=some (0,22):=by and_intros<;>kernel_rfl
@[go_sem] theorem ty_3:aR Tryz.prog 24 1=some (1,23)/\fq Tryz.prog 24=true/\aK Tryz.prog 25=true/\Tryz.prog.cellsOf 25=2/\Tryz.prog.bytesOf 25=48/\zeroCells Tryz.prog 25=[.list true [],.list true []]/\aC Tryz.prog 25=true/\(Tryz.prog.underlying 25).isSome=true/\aR Tryz.prog 25 0=some (0,22)/\aR Tryz.prog 25 1=some (1,23)/\fq Tryz.prog 25=true/\aK Tryz.prog 26=false/\Tryz.prog.cellsOf 26=1/\Tryz.prog.bytesOf 26=24/\zeroCells Tryz.prog 26=[.list true []]/\aC Tryz.prog 26=true/\(Tryz.prog.underlying 26).isSome=true/\bf Tryz.prog 26=some 66/\aK Tryz.prog 28=true/\Tryz.prog.cellsOf 28=2/\Tryz.prog.bytesOf 28=40/\zeroCells Tryz.prog 28=[.v (.string ⟨⟨[]⟩⟩),.list true []]/\aC Tryz.prog 28=true/\(Tryz.prog.underlying 28).isSome=true/\aR Tryz.prog 28 0=some (0,9)/\aR Tryz.prog 28 1=some (1,26)/\fq Tryz.prog 28=true/\aK Tryz.prog 29=false/\Tryz.prog.cellsOf 29=1/\Tryz.prog.bytesOf 29=24/\zeroCells Tryz.prog 29=[.list true []]/\aC Tryz.prog 29=true/\(Tryz.prog.underlying 29).isSome=true/\bf Tryz.prog 29=some 86/\aK Tryz.prog 31=true/\Tryz.prog.cellsOf 31=5/\Tryz.prog.bytesOf 31=80/\zeroCells Tryz.prog 31=[.v (.string ⟨⟨[]⟩⟩),.v (.int .i64 0),.v (.int .i64 0),.list true [],.list true []]/\aC Tryz.prog 31=true/\(Tryz.prog.underlying 31).isSome=true:=by and_intros<;>kernel_rfl
@[go_sem] theorem ty_4:aR Tryz.prog 31 0=some (0,9)/\aR Tryz.prog 31 1=some (1,3)/\aR Tryz.prog 31 2=some (2,3)/\aR Tryz.prog 31 3=some (3,29)/\aR Tryz.prog 31 4=some (4,26)/\fq Tryz.prog 31=true/\aK Tryz.prog 32=false/\Tryz.prog.cellsOf 32=1/\Tryz.prog.bytesOf 32=8/\zeroCells Tryz.prog 32=[.v .nilFunc]/\aC Tryz.prog 32=true/\(Tryz.prog.underlying 32).isSome=true/\aK Tryz.prog 36=false/\Tryz.prog.cellsOf 36=1/\Tryz.prog.bytesOf 36=8/\zeroCells Tryz.prog 36=[.v (.int .i64 0)]/\aC Tryz.prog 36=true/\Tryz.prog.underlying 36=some (.int .i64)/\aK Tryz.prog 40=false/\Tryz.prog.cellsOf 40=1/\Tryz.prog.bytesOf 40=8/\zeroCells Tryz.prog 40=[.v .nilFunc]/\aC Tryz.prog 40=true/\(Tryz.prog.underlying 40).isSome=true/\aK Tryz.prog 50=false/\Tryz.prog.cellsOf 50=1/\Tryz.prog.bytesOf 50=8/\zeroCells Tryz.prog 50=[.v .nilFunc]/\aC Tryz.prog 50=true/\(Tryz.prog.underlying 50).isSome=true/\aK Tryz.prog 55=false/\Tryz.prog.cellsOf 55=1/\Tryz.prog.bytesOf 55=24/\zeroCells Tryz.prog 55=[.list true []]/\aC Tryz.prog 55=true/\(Tryz.prog.underlying 55).isSome=true/\bf Tryz.prog 55=some 3/\aK Tryz.prog 61=false/\Tryz.prog.cellsOf 61=1/\Tryz.prog.bytesOf 61=24:=by and_intros<;>kernel_rfl
@[go_sem] theorem ty_5:zeroCells Tryz.prog 61=[.list true []]/\aC Tryz.prog 61=true/\(Tryz.prog.underlying 61).isSome=true/\bf Tryz.prog 61=some 110/\aK Tryz.prog 63=true/\Tryz.prog.cellsOf 63=4/\Tryz.prog.bytesOf 63=56/\zeroCells Tryz.prog 63=[.v (.string ⟨⟨[]⟩⟩),.v (.int .i64 0),.v (.int .i64 0),.list true []]/\aC Tryz.prog 63=true/\(Tryz.prog.underlying 63).isSome=true/\aR Tryz.prog 63 0=some (0,9)/\aR Tryz.prog 63 1=some (1,3)/\aR Tryz.prog 63 2=some (2,3)/\aR Tryz.prog 63 3=some (3,61)/\fq Tryz.prog 63=true/\aK Tryz.prog 64=false/\Tryz.prog.cellsOf 64=1/\Tryz.prog.bytesOf 64=24/\zeroCells Tryz.prog 64=[.list true []]/\aC Tryz.prog 64=true/\(Tryz.prog.underlying 64).isSome=true/\bf Tryz.prog 64=some 160/\aK Tryz.prog 66=true/\Tryz.prog.cellsOf 66=5/\Tryz.prog.bytesOf 66=80/\zeroCells Tryz.prog 66=[.v (.string ⟨⟨[]⟩⟩),.v (.int .i64 0),.v (.int .i64 0),.list true [],.list true []]/\aC Tryz.prog 66=true/\(Tryz.prog.underlying 66).isSome=true/\aR Tryz.prog 66 0=some (0,63)/\aR Tryz.prog 66 1=some (4,64)/\fq Tryz.prog 66=true/\pF Tryz.prog 66 = .agg [.v (.string ⟨⟨[]⟩⟩),.v (.int .i64 0),.v (.int .i64 0),.list true [],.list true []]/\zy Tryz.prog 66=true/\aK Tryz.prog 70=true/\Tryz.prog.cellsOf 70=3/\Tryz.prog.bytesOf 70=48/\zeroCells Tryz.prog 70=[.v (.bool false),.v (.string ⟨⟨[]⟩⟩),.list true []]/\aC Tryz.prog 70=true/\(Tryz.prog.underlying 70).isSome=true/\aR Tryz.prog 70 0=some (0,4):=by and_intros<;>kernel_rfl
@[go_sem] theorem ty_6:aR Tryz.prog 70 1=some (1,28)/\fq Tryz.prog 70=true/\aK Tryz.prog 72=true/\Tryz.prog.cellsOf 72=8/\Tryz.prog.bytesOf 72=128/\zeroCells Tryz.prog 72=[.list true [],.v (.int .i64 0),.v (.bool false),.v (.string ⟨⟨[]⟩⟩),.list true [],.v (.bool false),.v (.string ⟨⟨[]⟩⟩),.list true []]/\aC Tryz.prog 72=true/\(Tryz.prog.underlying 72).isSome=true/\aR Tryz.prog 72 0=some (0,22)/\aR Tryz.prog 72 1=some (1,3)/\aR Tryz.prog 72 2=some (2,70)/\aR Tryz.prog 72 3=some (5,70)/\fq Tryz.prog 72=true/\aK Tryz.prog 80=false/\Tryz.prog.cellsOf 80=1/\Tryz.prog.bytesOf 80=8/\zeroCells Tryz.prog 80=[.v .nilFunc]/\aC Tryz.prog 80=true/\(Tryz.prog.underlying 80).isSome=true/\aK Tryz.prog 83=false/\Tryz.prog.cellsOf 83=1/\Tryz.prog.bytesOf 83=8/\zeroCells Tryz.prog 83=[.v (.map none)]/\aC Tryz.prog 83=true/\(Tryz.prog.underlying 83).isSome=true/\kr Tryz.prog 83=some (86,66)/\ku Tryz.prog 86=true/\aK Tryz.prog 86=true/\Tryz.prog.cellsOf 86=2/\Tryz.prog.bytesOf 86=24/\zeroCells Tryz.prog 86=[.v (.string ⟨⟨[]⟩⟩),.v (.int .i64 0)]/\aC Tryz.prog 86=true/\(Tryz.prog.underlying 86).isSome=true/\aR Tryz.prog 86 0=some (0,9)/\aR Tryz.prog 86 1=some (1,3)/\fq Tryz.prog 86=true/\kF Tryz.prog 86=some [.s,.i]:=by and_intros<;>kernel_rfl
@[go_sem] theorem zf (x0:ByteArray) (x1:Int):gU Tryz.prog 86 (.agg [.v (.string x0),.v (.int .i64 x1)])=true:=by kernel_rfl
@[go_sem] theorem ty_7:aK Tryz.prog 89=false/\Tryz.prog.cellsOf 89=1/\Tryz.prog.bytesOf 89=8/\zeroCells Tryz.prog 89=[.v .nilFunc]/\aC Tryz.prog 89=true/\(Tryz.prog.underlying 89).isSome=true/\aK Tryz.prog 90=false/\Tryz.prog.cellsOf 90=1/\Tryz.prog.bytesOf 90=8/\zeroCells Tryz.prog 90=[.v .nilFunc]/\aC Tryz.prog 90=true/\(Tryz.prog.underlying 90).isSome=true/\aK Tryz.prog 92=false/\Tryz.prog.cellsOf 92=1/\Tryz.prog.bytesOf 92=8/\zeroCells Tryz.prog 92=[.v .nilFunc]/\aC Tryz.prog 92=true/\(Tryz.prog.underlying 92).isSome=true/\aK Tryz.prog 97=false/\Tryz.prog.cellsOf 97=1/\Tryz.prog.bytesOf 97=8/\zeroCells Tryz.prog 97=[.v (.pointer none)]/\aC Tryz.prog 97=true/\(Tryz.prog.underlying 97).isSome=true/\aK Tryz.prog 99=true/\Tryz.prog.cellsOf 99=2/\Tryz.prog.bytesOf 99=32/\zeroCells Tryz.prog 99=[.list true [],.v (.bool false)]/\aC Tryz.prog 99=true/\(Tryz.prog.underlying 99).isSome=true/\aR Tryz.prog 99 0=some (0,22)/\aR Tryz.prog 99 1=some (1,4)/\fq Tryz.prog 99=true/\aK Tryz.prog 106=false/\Tryz.prog.cellsOf 106=1/\Tryz.prog.bytesOf 106=8/\zeroCells Tryz.prog 106=[.v .nilFunc]/\aC Tryz.prog 106=true/\(Tryz.prog.underlying 106).isSome=true/\aK Tryz.prog 110=true:=by and_intros<;>kernel_rfl
@[go_sem] theorem ty_8:Tryz.prog.cellsOf 110=3/\Tryz.prog.bytesOf 110=32/\zeroCells Tryz.prog 110=[.v (.string ⟨⟨[]⟩⟩),.v (.int .i64 0),.v (.int .i64 0)]/\aC Tryz.prog 110=true/\(Tryz.prog.underlying 110).isSome=true/\aR Tryz.prog 110 0=some (0,9)/\aR Tryz.prog 110 1=some (1,3)/\aR Tryz.prog 110 2=some (2,3)/\fq Tryz.prog 110=true/\kF Tryz.prog 110=some [.s,.i,.i]/\aK Tryz.prog 111=false/\Tryz.prog.cellsOf 111=1/\Tryz.prog.bytesOf 111=8/\zeroCells Tryz.prog 111=[.v .nilFunc]/\aC Tryz.prog 111=true/\(Tryz.prog.underlying 111).isSome=true/\aK Tryz.prog 113=true/\Tryz.prog.cellsOf 113=2/\Tryz.prog.bytesOf 113=40/\zeroCells Tryz.prog 113=[.v (.string ⟨⟨[]⟩⟩),.list true []]/\aC Tryz.prog 113=true/\(Tryz.prog.underlying 113).isSome=true/\aR Tryz.prog 113 0=some (0,28)/\fq Tryz.prog 113=true/\aK Tryz.prog 114=false/\Tryz.prog.cellsOf 114=1/\Tryz.prog.bytesOf 114=24/\zeroCells Tryz.prog 114=[.list true []]/\aC Tryz.prog 114=true/\(Tryz.prog.underlying 114).isSome=true/\bf Tryz.prog 114=some 9/\aK Tryz.prog 116=true/\Tryz.prog.cellsOf 116=3/\Tryz.prog.bytesOf 116=64/\zeroCells Tryz.prog 116=[.v (.string ⟨⟨[]⟩⟩),.list true [],.list true []]/\aC Tryz.prog 116=true/\(Tryz.prog.underlying 116).isSome=true/\aR Tryz.prog 116 0=some (0,113)/\aR Tryz.prog 116 1=some (2,114)/\fq Tryz.prog 116=true:=by and_intros<;>kernel_rfl
@[go_sem] theorem ty_9:aK Tryz.prog 119=false/\Tryz.prog.cellsOf 119=1/\Tryz.prog.bytesOf 119=1/\zeroCells Tryz.prog 119=[.v (.int .i8 0)]/\aC Tryz.prog 119=true/\Tryz.prog.underlying 119=some (.int .i8)/\aK Tryz.prog 121=true/\Tryz.prog.cellsOf 121=3/\Tryz.prog.bytesOf 121=40/\zeroCells Tryz.prog 121=[.list true [],.v (.int .i64 0),.v (.int .i8 0)]/\aC Tryz.prog 121=true/\(Tryz.prog.underlying 121).isSome=true/\aR Tryz.prog 121 0=some (0,22)/\aR Tryz.prog 121 1=some (1,3)/\aR Tryz.prog 121 2=some (2,119)/\fq Tryz.prog 121=true/\aK Tryz.prog 123=true/\Tryz.prog.cellsOf 123=3/\Tryz.prog.bytesOf 123=40/\zeroCells Tryz.prog 123=[.list true [],.v (.int .i64 0),.v (.int .i8 0)]/\aC Tryz.prog 123=true/\(Tryz.prog.underlying 123).isSome=true/\aR Tryz.prog 123 0=some (0,121)/\fq Tryz.prog 123=true/\aK Tryz.prog 125=false/\Tryz.prog.cellsOf 125=1/\Tryz.prog.bytesOf 125=16/\zeroCells Tryz.prog 125=[.v .nilIface]/\aC Tryz.prog 125=true/\(Tryz.prog.underlying 125).isSome=true/\aK Tryz.prog 128=false/\Tryz.prog.cellsOf 128=1/\Tryz.prog.bytesOf 128=8/\zeroCells Tryz.prog 128=[.v .nilFunc]/\aC Tryz.prog 128=true/\(Tryz.prog.underlying 128).isSome=true/\aK Tryz.prog 129=false/\Tryz.prog.cellsOf 129=1/\Tryz.prog.bytesOf 129=8/\zeroCells Tryz.prog 129=[.v (.int .u64 0)]:=by and_intros<;>kernel_rfl
@[go_sem] theorem ty_10:aC Tryz.prog 129=true/\Tryz.prog.underlying 129=some (.int .u64)/\aK Tryz.prog 149=false/\Tryz.prog.cellsOf 149=1/\Tryz.prog.bytesOf 149=8/\zeroCells Tryz.prog 149=[.v .nilFunc]/\aC Tryz.prog 149=true/\(Tryz.prog.underlying 149).isSome=true/\aK Tryz.prog 153=false/\Tryz.prog.cellsOf 153=1/\Tryz.prog.bytesOf 153=8/\zeroCells Tryz.prog 153=[.v (.map none)]/\aC Tryz.prog 153=true/\(Tryz.prog.underlying 153).isSome=true/\kr Tryz.prog 153=some (86,4)/\aK Tryz.prog 156=false/\Tryz.prog.cellsOf 156=1/\Tryz.prog.bytesOf 156=8/\zeroCells Tryz.prog 156=[.v (.int .u64 0)]/\aC Tryz.prog 156=true/\Tryz.prog.underlying 156=some (.int .u64)/\aK Tryz.prog 160=true/\Tryz.prog.cellsOf 160=6/\Tryz.prog.bytesOf 160=56/\zeroCells Tryz.prog 160=[.v (.string ⟨⟨[]⟩⟩),.v (.int .i64 0),.v (.int .i64 0),.v (.int .i64 0),.v (.int .i64 0),.v (.int .u64 0)]/\aC Tryz.prog 160=true/\(Tryz.prog.underlying 160).isSome=true/\aR Tryz.prog 160 0=some (0,9)/\aR Tryz.prog 160 1=some (1,3)/\aR Tryz.prog 160 2=some (2,3)/\aR Tryz.prog 160 3=some (3,3)/\aR Tryz.prog 160 4=some (4,3)/\aR Tryz.prog 160 5=some (5,129)/\fq Tryz.prog 160=true/\kF Tryz.prog 160=some [.s,.i,.i,.i,.i,.i]/\aK Tryz.prog 163=false/\Tryz.prog.cellsOf 163=1/\Tryz.prog.bytesOf 163=8/\zeroCells Tryz.prog 163=[.v .nilFunc]/\aC Tryz.prog 163=true:=by and_intros<;>kernel_rfl
@[go_sem] theorem ty_11:(Tryz.prog.underlying 163).isSome=true/\aK Tryz.prog 174=false/\Tryz.prog.cellsOf 174=1/\Tryz.prog.bytesOf 174=8/\zeroCells Tryz.prog 174=[.v (.map none)]/\aC Tryz.prog 174=true/\(Tryz.prog.underlying 174).isSome=true/\kr Tryz.prog 174=some (9,4):=by and_intros<;>kernel_rfl
@[go_sem] theorem ko9 (x0:ByteArray):gU Tryz.prog 9 (.v (.string x0))=true:=by kernel_rfl
@[go_sem] theorem ty_12:aK Tryz.prog 176=false/\Tryz.prog.cellsOf 176=1/\Tryz.prog.bytesOf 176=8/\zeroCells Tryz.prog 176=[.v (.pointer none)]/\aC Tryz.prog 176=true/\(Tryz.prog.underlying 176).isSome=true/\aK Tryz.prog 179=false/\Tryz.prog.cellsOf 179=1/\Tryz.prog.bytesOf 179=8/\zeroCells Tryz.prog 179=[.v (.pointer none)]/\aC Tryz.prog 179=true/\(Tryz.prog.underlying 179).isSome=true/\aK Tryz.prog 180=false/\Tryz.prog.cellsOf 180=1/\Tryz.prog.bytesOf 180=8/\zeroCells Tryz.prog 180=[.v (.int .u64 0)]/\aC Tryz.prog 180=true/\Tryz.prog.underlying 180=some (.int .u64)/\aK Tryz.prog 187=false/\Tryz.prog.cellsOf 187=1/\Tryz.prog.bytesOf 187=24/\zeroCells Tryz.prog 187=[.list true []]/\aC Tryz.prog 187=true/\(Tryz.prog.underlying 187).isSome=true/\bf Tryz.prog 187=some 4/\aK Tryz.prog 194=false/\Tryz.prog.cellsOf 194=1/\Tryz.prog.bytesOf 194=8/\zeroCells Tryz.prog 194=[.v .nilFunc]/\aC Tryz.prog 194=true/\(Tryz.prog.underlying 194).isSome=true/\aK Tryz.prog 195=false/\Tryz.prog.cellsOf 195=1/\Tryz.prog.bytesOf 195=8/\zeroCells Tryz.prog 195=[.v (.pointer none)]/\aC Tryz.prog 195=true/\(Tryz.prog.underlying 195).isSome=true/\aK Tryz.prog 199=false/\Tryz.prog.cellsOf 199=1/\Tryz.prog.bytesOf 199=8:=by and_intros<;>kernel_rfl
@[go_sem] theorem ty_13:zeroCells Tryz.prog 199=[.v .nilFunc]/\aC Tryz.prog 199=true/\(Tryz.prog.underlying 199).isSome=true/\aK Tryz.prog 200=false/\Tryz.prog.cellsOf 200=1/\Tryz.prog.bytesOf 200=8/\zeroCells Tryz.prog 200=[.v .nilFunc]/\aC Tryz.prog 200=true/\(Tryz.prog.underlying 200).isSome=true/\aK Tryz.prog 203=false/\Tryz.prog.cellsOf 203=1/\Tryz.prog.bytesOf 203=8/\zeroCells Tryz.prog 203=[.v .nilFunc]/\aC Tryz.prog 203=true/\(Tryz.prog.underlying 203).isSome=true/\aK Tryz.prog 206=false/\Tryz.prog.cellsOf 206=1/\Tryz.prog.bytesOf 206=8/\zeroCells Tryz.prog 206=[.v .nilFunc]/\aC Tryz.prog 206=true/\(Tryz.prog.underlying 206).isSome=true/\aK Tryz.prog 209=false/\Tryz.prog.cellsOf 209=1/\Tryz.prog.bytesOf 209=8/\zeroCells Tryz.prog 209=[.v .nilFunc]/\aC Tryz.prog 209=true/\(Tryz.prog.underlying 209).isSome=true/\aK Tryz.prog 210=false/\Tryz.prog.cellsOf 210=1/\Tryz.prog.bytesOf 210=16/\zeroCells Tryz.prog 210=[.v (.string ⟨⟨[]⟩⟩)]/\aC Tryz.prog 210=true/\Tryz.prog.underlying 210=some .string/\aK Tryz.prog 214=true/\Tryz.prog.cellsOf 214=8/\Tryz.prog.bytesOf 214=48/\zeroCells Tryz.prog 214=[.v (.int .i64 0),.v (.int .i64 0),.v (.int .i64 0),.v (.int .i64 0),.v (.int .i64 0),.v (.bool false),.v (.bool false),.v (.bool false)]/\aC Tryz.prog 214=true/\(Tryz.prog.underlying 214).isSome=true/\aR Tryz.prog 214 0=some (0,3):=by and_intros<;>kernel_rfl
@[go_sem] theorem ty_14:aR Tryz.prog 214 1=some (1,3)/\aR Tryz.prog 214 2=some (2,3)/\aR Tryz.prog 214 3=some (3,3)/\aR Tryz.prog 214 4=some (4,3)/\aR Tryz.prog 214 5=some (5,4)/\aR Tryz.prog 214 6=some (6,4)/\aR Tryz.prog 214 7=some (7,4)/\fq Tryz.prog 214=true/\kF Tryz.prog 214=some [.i,.i,.i,.i,.i,.b,.b,.b]/\aK Tryz.prog 215=true/\Tryz.prog.cellsOf 215=72/\Tryz.prog.bytesOf 215=432/\zeroCells Tryz.prog 215=[.v (.int .i64 0),.v (.int .i64 0),.v (.int .i64 0),.v (.int .i64 0),.v (.int .i64 0),.v (.bool false),.v (.bool false),.v (.bool false),.v (.int .i64 0),.v (.int .i64 0),.v (.int .i64 0),.v (.int .i64 0),.v (.int .i64 0),.v (.bool false),.v (.bool false),.v (.bool false),.v (.int .i64 0),.v (.int .i64 0),.v (.int .i64 0),.v (.int .i64 0),.v (.int .i64 0),.v (.bool false),.v (.bool false),.v (.bool false),.v (.int .i64 0),.v (.int .i64 0),.v (.int .i64 0),.v (.int .i64 0),.v (.int .i64 0),.v (.bool false),.v (.bool false),.v (.bool false),.v (.int .i64 0),.v (.int .i64 0),.v (.int .i64 0),.v (.int .i64 0),.v (.int .i64 0),.v (.bool false),.v (.bool false),.v (.bool false),.v (.int .i64 0),.v (.int .i64 0),.v (.int .i64 0),.v (.int .i64 0),.v (.int .i64 0),.v (.bool false),.v (.bool false),.v (.bool false),.v (.int .i64 0),.v (.int .i64 0),.v (.int .i64 0),.v (.int .i64 0),.v (.int .i64 0),.v (.bool false),.v (.bool false),.v (.bool false),.v (.int .i64 0),.v (.int .i64 0),.v (.int .i64 0),.v (.int .i64 0),.v (.int .i64 0),.v (.bool false),.v (.bool false),.v (.bool false),.v (.int .i64 0),.v (.int .i64 0),.v (.int .i64 0),.v (.int .i64 0),.v (.int .i64 0),.v (.bool false),.v (.bool false),.v (.bool false)]/\aC Tryz.prog 215=true/\(Tryz.prog.underlying 215).isSome=true/\bf Tryz.prog 215=none/\jS Tryz.prog 215=some (9,214)/\fq Tryz.prog 215=true:=by and_intros<;>kernel_rfl
@[go_sem] theorem fn215 {f:Nat}:aR Tryz.prog 215 f=none:=by kernel_rfl
@[go_sem] theorem ty_15:aK Tryz.prog 230=false/\Tryz.prog.cellsOf 230=1/\Tryz.prog.bytesOf 230=8/\zeroCells Tryz.prog 230=[.v .nilFunc]/\aC Tryz.prog 230=true/\(Tryz.prog.underlying 230).isSome=true/\aK Tryz.prog 231=false/\Tryz.prog.cellsOf 231=1/\Tryz.prog.bytesOf 231=8/\zeroCells Tryz.prog 231=[.v (.pointer none)]/\aC Tryz.prog 231=true/\(Tryz.prog.underlying 231).isSome=true/\aK Tryz.prog 232=false/\Tryz.prog.cellsOf 232=1/\Tryz.prog.bytesOf 232=8/\zeroCells Tryz.prog 232=[.v .nilFunc]/\aC Tryz.prog 232=true/\(Tryz.prog.underlying 232).isSome=true/\aK Tryz.prog 234=true/\Tryz.prog.cellsOf 234=1/\Tryz.prog.bytesOf 234=24/\zeroCells Tryz.prog 234=[.list true []]/\aC Tryz.prog 234=true/\(Tryz.prog.underlying 234).isSome=true/\aR Tryz.prog 234 0=some (0,22)/\fq Tryz.prog 234=true/\aK Tryz.prog 238=false/\Tryz.prog.cellsOf 238=1/\Tryz.prog.bytesOf 238=16/\zeroCells Tryz.prog 238=[.v .nilIface]/\aC Tryz.prog 238=true/\(Tryz.prog.underlying 238).isSome=true/\aK Tryz.prog 241=false/\Tryz.prog.cellsOf 241=1/\Tryz.prog.bytesOf 241=24/\zeroCells Tryz.prog 241=[.list true []]/\aC Tryz.prog 241=true/\(Tryz.prog.underlying 241).isSome=true/\bf Tryz.prog 241=some 29/\aK Tryz.prog 245=false:=by and_intros<;>kernel_rfl
@[go_sem] theorem ty_16:Tryz.prog.cellsOf 245=1/\Tryz.prog.bytesOf 245=8/\zeroCells Tryz.prog 245=[.v .nilFunc]/\aC Tryz.prog 245=true/\(Tryz.prog.underlying 245).isSome=true/\aK Tryz.prog 246=false/\Tryz.prog.cellsOf 246=1/\Tryz.prog.bytesOf 246=8/\zeroCells Tryz.prog 246=[.v .nilFunc]/\aC Tryz.prog 246=true/\(Tryz.prog.underlying 246).isSome=true/\aK Tryz.prog 254=false/\Tryz.prog.cellsOf 254=1/\Tryz.prog.bytesOf 254=8/\zeroCells Tryz.prog 254=[.v (.pointer none)]/\aC Tryz.prog 254=true/\(Tryz.prog.underlying 254).isSome=true/\aK Tryz.prog 256=false/\Tryz.prog.cellsOf 256=1/\Tryz.prog.bytesOf 256=8/\zeroCells Tryz.prog 256=[.v (.pointer none)]/\aC Tryz.prog 256=true/\(Tryz.prog.underlying 256).isSome=true/\aK Tryz.prog 258=true/\Tryz.prog.cellsOf 258=3/\Tryz.prog.bytesOf 258=40/\zeroCells Tryz.prog 258=[.list true [],.v (.int .i64 0),.v (.bool false)]/\aC Tryz.prog 258=true/\(Tryz.prog.underlying 258).isSome=true/\aR Tryz.prog 258 0=some (0,22)/\aR Tryz.prog 258 1=some (1,3)/\aR Tryz.prog 258 2=some (2,4)/\fq Tryz.prog 258=true/\aK Tryz.prog 262=false/\Tryz.prog.cellsOf 262=1/\Tryz.prog.bytesOf 262=24/\zeroCells Tryz.prog 262=[.list true []]/\aC Tryz.prog 262=true/\(Tryz.prog.underlying 262).isSome=true/\bf Tryz.prog 262=some 254:=by and_intros<;>kernel_rfl
@[go_sem] theorem ty_17:aK Tryz.prog 285=true/\Tryz.prog.cellsOf 285=2/\Tryz.prog.bytesOf 285=32/\zeroCells Tryz.prog 285=[.list true [],.v (.bool false)]/\aC Tryz.prog 285=true/\(Tryz.prog.underlying 285).isSome=true/\aR Tryz.prog 285 0=some (0,22)/\aR Tryz.prog 285 1=some (1,4)/\fq Tryz.prog 285=true/\aK Tryz.prog 288=false/\Tryz.prog.cellsOf 288=1/\Tryz.prog.bytesOf 288=8/\zeroCells Tryz.prog 288=[.v (.pointer none)]/\aC Tryz.prog 288=true/\(Tryz.prog.underlying 288).isSome=true:=by and_intros<;>kernel_rfl
end Go.Proofs.YtjngdcldglkolaaGreatDoor
namespace Go.DL
open Go.RowKit
variable {P : Program} {C : Con} {ro : Option Nat} {Q : Exit -> S -> Prop}
theorem Ve [Glob P] {s:S}{n nx:Nat}{t:Nat->D}{h:H}{ok:Prop}{e:Env}{id:Nat}{ops:Array Oper}{draw:Bool}(he:exec P (words P) C ops.toList s=⟨n,t,h,nx,ok,e⟩) (hd:draw=true->P.follows .mixedOrders=true/\jr C ops.toList=true/\gF ops.toList=true) (hok:ok) (hq:Q .normal ⟨n,t,h,nx,True,e⟩):DW P ro (.region id ops draw) Q s :=
 KE (C:=C) he hd hok hq
theorem qL [Glob P] {s:S}{n nx:Nat}{t:Nat->D}{h:H}{ok:Prop}{e:Env}{id:Nat}{ops:Array Oper}{draw:Bool}{y:Code}(he:exec P (words P) C ops.toList s=⟨n,t,h,nx,ok,e⟩) (hd:draw=true->P.follows .mixedOrders=true/\jr C ops.toList=true/\gF ops.toList=true) (hok:ok) (hq:DW P ro y Q ⟨n,t,h,nx,True,e⟩):DW P ro (.seq (.region id ops draw) y) Q s :=
 ae (KE (C:=C) he hd hok hq)
@[go_sem] theorem ne_add {r n i:Nat}(h:r<n):(r=n+i)=False:=by simp;omega
@[go_sem] theorem add_ne {r n i:Nat}(h:r<n):(n+i=r)=False:=by simp;omega
@[go_sem] theorem lF {α β:Type}{f:α->β}{l:List α}:(l.map f).take l.length=l.map f:=by rw[Yp];simp
@[go_sem] theorem XU {α β:Type}{f:α->β}{l:List α}{x:β}:(l.map f++[x]).take (l.length+1)=l.map f++[x]:=by rw[Yp];simp
@[go_sem] theorem MU : ∀ {a b:List (List D)},bZ (a++b)=bZ a++bZ b
 | [],_=>rfl
 | r::a,b=>by simp only[X0,bZ,MU]
attribute [go_sem] Oc Io aS aZ
@[go_sem] theorem Zal {h:H}{rows:List (List D)}:(∀ row∈rows,∀ c∈row,cu h 0 c)=(aS rows=true):=by
 apply propext
 refine⟨fun k=>Ca fun r hr=>rQ fun c hc=>k r hr c hc,fun k=>Od k⟩
@[go_sem] theorem nr_v {x:Value}:D.nr (.v x)=true:=rfl
@[go_sem] theorem nr_list {f:Bool}{rows:List (List D)}:D.nr (.list f rows)=aS rows:=rfl
def tab:List (Nat×D)->Nat->D
 | [],_=>.junk
 | (j,x)::l,i=>if i=j then x else tab l i
@[go_sem] theorem tab_hit {i:Nat}{x:D}{l:List (Nat×D)}:tab ((i,x)::l) i=x:=by simp[tab]
@[go_sem] theorem tab_miss {j i:Nat}{x:D}{l:List (Nat×D)}(h:(i=j)=False):tab ((j,x)::l) i=tab l i:=by simp only[tab];rw[XZ (by rw[h];exact id)]
def Tb (t:Nat->D) (p:Nat×D):Prop:=t p.1=p.2\/wk (t p.1)=p.2
@[go_sem] theorem tb_eq {t:Nat->D}{i:Nat}{d:D}:Tb t (i,d)=(t i=d\/wk (t i)=d):=rfl
attribute [go_sem] true_or
theorem xG {t:Nat->D}:∀ {l:List (Nat×D)},(∀ p∈l,Tb t p) -> ∀ i,tab l i=t i\/tab l i=wk (t i)\/tab l i = .junk
 | [],_,_=>.inr (.inr rfl)
 | (j,x)::l,h,i=>by
  simp only[tab]
  split
  .
   rename_i e;subst e
   rcases h (i,x) (by simp) with h|h
   .
    exact .inl h.symm
   exact .inr (.inl h.symm)
  exact xG (fun p hp=>h p (by simp[hp])) i
theorem Marks.only {B:Nat}{g:Mem}{h':H}{w:World}:∀ {ds:List Deferred},Marks B g ds w->Marks B (g.only h') ds w
 | [],_=>trivial
 | _::_,⟨h1,h2⟩=>⟨h1,Marks.only h2⟩
theorem Dfs.only {B:Bot}{g:Mem}{h':H}{w:World}{ds:List Deferred}(h:Dfs B g ds w):Dfs B (g.only h') ds w:=h.map fun _ k=>k.only
theorem St.forget [Glob P] {B:Bot}{s:S}{g:Mem}{a:Act}{w:World}(hs:St P B s g a w) {t':Nat->D}{h':H}{nx':Nat}(ht : ∀ i,t' i=s.t i\/t' i=wk (s.t i)\/t' i = .junk) (hh : ∀ r,h' r=s.h r\/h' r=none) :
  St P B { n:=s.n,t:=t',h:=h',nx:=nx',e:=s.e } (g.only h') a w:=by
 refine⟨hs.sz,fun i=>?_,hs.mem.only hh,hs.df.only,s.e.st P s.h g _ w w hs.mem only_mono hs.en,hs.bd⟩
 rcases ht i with e|e|e
 .
  show Rep w (g.only h') (t' i) _
  rw[e];exact (hs.tm i).only
 .
  show Rep w (g.only h') (t' i) _
  rw[e];exact (hs.tm i).wk.only
 show Rep w (g.only h') (t' i) _
 rw[e];exact .junk _
theorem Vm [Glob P] {c:Code}{s:S}(t':Nat->D) (h':H) (nx':Nat) (ht : ∀ i,t' i=s.t i\/t' i=wk (s.t i)\/t' i = .junk) (hh : ∀ r,h' r=s.h r\/h' r=none) (hn:s.nx<=nx') (h:DW P ro c Q { n:=s.n,t:=t',h:=h',nx:=nx',e:=s.e }):DW P ro c Q s:=by
 intro B g a w hs hU
 exact wpIn_mono (h B _ a w (hs.forget ht hh) fun r hr=>YB (hU r hr) hn) fun e a' w' ⟨s',g',q,r,m,u,v⟩=>⟨s',g',q,r,only_mono.toX.trans m,u,v⟩
theorem Dq [Glob P] {c:Code}{s:S}(l:List (Nat×D)) (h':H) (nx':Nat) (ht : ∀ p∈l,Tb s.t p) (hh : ∀ r,h' r=s.h r\/h' r=none) (hn:s.nx<=nx') (h:DW P ro c Q { n:=s.n,t:=tab l,h:=h',nx:=nx',e:=s.e }):DW P ro c Q s :=
 Vm _ _ _ (xG ht) hh hn h
theorem KG [Glob P] {c:Code}{s:S}{α:Type}(A:α->Prop) (μ:α->Nat) (tb:α->List (Nat×D)) (hh:α->H) (nxx:α->Nat) (a0:α) (hA:A a0) (ht : ∀ p∈tb a0,Tb s.t p) (hhp : ∀ r,hh a0 r=s.h r\/hh a0 r=none) (hn:s.nx<=nxx a0)
  (round : ∀ a,A a->DW P ro c (thenS (fun s'=>∃ a',A a'/\μ a'<μ a/\(∀ p∈tb a',Tb s'.t p)/\(∀ r,hh a' r=s'.h r\/hh a' r=none)/\s'.nx<=nxx a'/\s'.n=s.n/\s'.e=s.e) Q) { n:=s.n,t:=tab (tb a),h:=hh a,nx:=nxx a,e:=s.e }):DW P ro (.loop c) Q s:=by
 intro B g a w hs hU
 refine wpIn_loop_ghost (fun k a' w'=>∃ x g',A x/\μ x=k/\St P B { n:=s.n,t:=tab (tb x),h:=hh x,nx:=nxx x,e:=s.e } g' a' w'/\MonoX s.e.x g g' w w' /\ ∀ r,g'.U r->r<nxx x) (μ a0) ⟨a0,_,hA,rfl,hs.forget (xG ht) hhp,only_mono.toX,fun r hr=>YB (hU r hr) hn⟩ ?_
 rintro k a1 w1 ⟨x,g1,hx,rfl,hs1,hm1,hU1⟩
 refine wpIn_mono (round x hx B g1 a1 w1 hs1 hU1) ?_
 rintro e a2 w2 ⟨s2,g2,hq,hs2,hm2,hU2,hx2⟩
 cases e with
 | normal =>
  obtain⟨x',h1,h2,h3,h4,h5,h6,h7⟩:=hq;refine⟨μ x',h2,x',g2.only (hh x'),h1,rfl,?_,(hm1.trans hm2).trans only_mono.toX,fun r hr=>YB (hU2 r hr) h5⟩
  have:=hs2.forget (nx':=nxx x') (xG h3) h4;rw[h6,h7] at this;exact this
 | _=>exact⟨s2,g2,hq,hs2,hm1.trans hm2,hU2,hx2⟩
def htab:List (Nat×Blk)->H
 | []=>fun _=>none
 | (r,b)::l=>upd (htab l) r (some b)
@[go_sem] theorem htab_nil:htab []=fun _=>none:=rfl
@[go_sem] theorem ZbA {r:Nat}{b:Blk}{l:List (Nat×Blk)}:htab ((r,b)::l)=upd (htab l) r (some b):=rfl
theorem zu {h:H}:∀ {l:List (Nat×Blk)},(∀ p∈l,h p.1=some p.2) -> ∀ r,htab l r=h r\/htab l r=none
 | [],_,_=>.inr rfl
 | (j,x)::l,hl,i=>by
  simp only[htab,upd]
  split
  .
   rename_i e;subst e;exact .inl (hl (i,x) (by simp)).symm
  exact zu (fun p hp=>hl p (by simp[hp])) i
theorem Cn {s:S}{keep:List Nat}{fx:List (Nat×D)}(hfx:keep.map (fun i=>(i,s.t i))=fx):∀ p∈fx,Tb s.t p:=by
 intro p hp
 rw[<- hfx] at hp
 obtain⟨i,_,rfl⟩:=Y5.1 hp
 exact .inl rfl
theorem Vg [Glob P] {c:Code}{s:S}{α:Type}(keep:List Nat) (A:α->Prop) (μ:α->Nat) (tb:α->List (Nat×D)) (hb:α->List (Nat×Blk)) (nxx:α->Nat) (a0:α) {fx:List (Nat×D)}(hfx:keep.map (fun i=>(i,s.t i))=fx) (hA:A a0) (ht : ∀ p∈tb a0,Tb s.t p) (hh : ∀ p∈hb a0,s.h p.1=some p.2) (hn:s.nx<=nxx a0)
  (round : ∀ a,A a->DW P ro c (thenS (fun s'=>∃ a',A a'/\μ a'<μ a/\(∀ p∈tb a',Tb s'.t p)/\(∀ p∈fx,Tb s'.t p)/\(∀ p∈hb a',s'.h p.1=some p.2)/\s'.nx<=nxx a'/\s'.n=s.n/\s'.e=s.e) Q) { n:=s.n,t:=tab (tb a++fx),h:=htab (hb a),nx:=nxx a,e:=s.e }):DW P ro (.loop c) Q s :=
 KG A μ (fun a=>tb a++fx) (fun a=>htab (hb a)) nxx a0 hA (fun p hp=>(Yx.1 hp).elim (ht p) (Cn hfx p)) (zu hh) hn fun a ha=>(round a ha).mono fun e s' hq=>by
  cases e with
  | normal =>
   obtain⟨a',h1,h2,h3,h4,h5,h6,h7,h8⟩:=hq;exact⟨a',h1,h2,fun p hp=>(Yx.1 hp).elim (h3 p) (h4 p),zu h5,h6,h7,h8⟩
  | _=>exact hq
theorem lc [Glob P] {c:Code}{s:S}(keep:List Nat) (hb:List (Nat×Blk)) {fx:List (Nat×D)}(hfx:keep.map (fun i=>(i,s.t i))=fx) (hh : ∀ p∈hb,s.h p.1=some p.2) (h:DW P ro c Q { n:=s.n,t:=tab fx,h:=htab hb,nx:=s.nx,e:=s.e }):DW P ro c Q s :=
 Dq fx (htab hb) s.nx (Cn hfx) (zu hh) (XY _) h
theorem Vh [Glob P] {c:Code}{s:S}(i:Nat) {f:Bool}{rows:List (List D)}(he:s.t i = .list f rows) (h:rows.length<=maxLen->DW P ro c Q s):DW P ro c Q s:=by
 intro B g a w hs hU
 refine h ?_ B g a w hs hU
 have hr:=hs.tm i
 rw[he] at hr
 generalize a.tmps.getD i undef=v at hr
 cases hr with
 | empty=>simp[maxLen]
 | list _ _ ad cap size cv hI hl hf hm hs hc hr=>omega
theorem qM [Glob P] {c:Code}{s:S}(i:Nat) (ty:TypeId) (hi:s.t i = .list true []) (hty:0<P.cellsOf ty) (h:DW P ro c Q { n:=s.n,t:=upd s.t i (.mrow s.nx 0 0),h:=upd s.h s.nx (some ⟨ty,[]⟩),nx:=s.nx+1,e:=s.e }):DW P ro c Q s:=by
 intro B g a w hs hU
 have hnu : ¬ g.U s.nx:=fun h=>Nat.lt_irrefl _ (hU _ h)
 obtain⟨g',q1,q2,q3,q4,q5⟩:=hs.mem.putNone (h':=upd s.h s.nx (some ⟨ty,[]⟩)) s.nx ⟨ty,[]⟩ hnu (upd_same _ _ _) (fun r hr=>.inl (upd_ne _ _ _ _ hr)) hty rfl
 have hst:St P B { n:=s.n,t:=upd s.t i (.mrow s.nx 0 0),h:=upd s.h s.nx (some ⟨ty,[]⟩),nx:=s.nx+1,e:=s.e } g' a w:=by
  refine⟨hs.sz,fun j=>?_,q4,hs.df.later hs.mem q5,Env.later hs.mem q5 hs.en,hs.bd⟩
  by_cases e:j=i
  .
   subst e;simp only[upd_same];have hr:=hs.tm j;rw[hi] at hr;generalize a.tmps.getD j undef=v at hr;have key : ∃ x,v = .slice x 0 0:=by
    cases hr with
    | empty _ x cap hf hm=>exact⟨x,by rw[hf rfl]⟩
    | list _ _ ad cap size cv hI hl hf=>exact⟨some ad,by rw[hf rfl];rfl⟩
   obtain⟨x,rfl⟩:=key;refine .mrow _ _ _ _ ⟨x,0,rfl,XY _,fun h=>absurd h om⟩ ((q2 _).2 (.inr rfl)) fun blk c sz he=>?_
   rw[q1] at he
   cases he
   exact⟨⟨XY _,Yo _⟩,.inl ⟨rfl,x,rfl⟩⟩
  simp only[upd_ne _ _ _ _ e];exact (hs.tm j).later hs.mem q5
 exact wpIn_mono (h B g' a w hst (fun r hr=>by
  rcases (q2 r).1 hr with h|h
  .
   exact Nat.lt_succ_of_lt (hU r h)
  subst h;exact Nat.lt_succ_self _)) fun e a' w' ⟨s',g'',q,r,m,u,v⟩=>⟨s',g'',q,r,q5.toX.trans m,u,v⟩
theorem U6 {w:World}{g:Mem}{v:Value}(hr:Rep w g (.list true []) v):∃ x,v = .slice x 0 0:=by
 cases hr with
 | empty _ x cap hf hm=>exact⟨x,by rw[hf rfl]⟩
 | list _ _ ad cap size cv hI hl hf=>exact⟨some ad,by rw[hf rfl];rfl⟩
def RCt (P:Program) [Glob P] (f:FuncId) (args:List D) (h:H) (n:Nat) (R:D->H->Nat->Prop):Prop :=
 bV P f=true /\ ∀ (w:World) (g:Mem) (vs:List Value),HM P h g w->(∀ r,g.U r->r<n)->Reps w g args vs ->
  CallsIn Fence.wide 0 P f vs.toArray w fun e w'=>∃ v g' res h' n',R res h' n'/\e = .returned v/\Rep w' g' res v/\HM P h' g' w'/\Mono g g' w w' /\ ∀ r,g'.U r->r<n'
theorem RCt.mono [Glob P] {f:FuncId}{args:List D}{h:H}{n:Nat}{R R':D->H->Nat->Prop}(k:RCt P f args h n R) (i : ∀ d h' n',R d h' n'->R' d h' n'):RCt P f args h n R' :=
 ⟨k.1,fun w g vs h1 h2 h3=>(k.2 w g vs h1 h2 h3).mono fun _ _ ⟨v,g',res,h',n',q,r⟩=>⟨v,g',res,h',n',i _ _ _ q,r⟩⟩
theorem uk [Glob P] {h:H}{g:Mem}{w:World}{n:Nat}(hm:HM P h g w) (hU : ∀ r,g.U r->r<n):∀ r,n<=r->h r=none:=by
 intro r hr
 cases hq:h r with
 | none=>rfl
 | some bl =>
  obtain⟨blk,c',h1,_⟩:=hm.blk r bl hq;have:=hU r (hm.used r (by rw[h1];simp))
  omega
theorem Qc [Glob P] {f:FuncId}{fn:Func}{c:Code}{args:List D}{h:H}{n:Nat}{R:D->H->Nat->Prop}(hf:P.funcs[f]? = some fn) (hb:fn.body=some c) (hbd:bV P f=true) (hn:args.length<=fn.ntmps)
  (hw:(∀ r,n<=r->h r=none)->DW P none c (fun e s=>(e = .normal\/e = .ret)/\jb P s fn.results.toList /\ ∃ h' n',(∀ r,h' r=s.h r\/h' r=none)/\s.nx<=n'/\R (jH P fn.results.toList s) h' n') { n:=fn.ntmps,t:=fun i=>args.getD i .junk,h:=h,nx:=n }):RCt P f args h n R:=by
 refine⟨hbd,fun w g vs hm hU hr=>?_⟩
 have hs:=qw (P:=P) (n:=fn.ntmps) hr hn hm (nx:=n)
 refine callsIn_of_wp_marks (n:=0) hf hb trivial (wpIn_mono (F:=Fence.wide) (hw (uk hm hU) (Bot.of w.heap.size) g _ w hs hU) ?_)
 rintro e a' w' ⟨s',g',⟨he,ho,h',n',hh,hn',hR⟩,hs',hm',hU',_⟩
 have hm':=hm'.out
 have hlast:LeavesInM Fence.wide 0 P fn a'.tmps (fun e w'=>∃ v g' res h' n',R res h' n'/\e = .returned v/\Rep w' g' res v/\HM P h' g' w'/\Mono g g' w w' /\ ∀ r,g'.U r->r<n') a'.defers .returning w':=by
  refine zb (P:=P) a'.defers w' hs'.df.marks fun w2 e0 e1 e2 e3 e4 e5 e6 e7=>?_
  have hs2:=hs'.marks e4 e6 e7;obtain⟨v,h1,h2⟩:=tQ (fn:=fn) hs2 ho;have mono2:Mono g g' w w2:=by
   refine⟨by rw[e1,hm'.os],by rw[e2,hm'.tape],by rw[e3,hm'.output],by rw[e4];exact hm'.size,by rw[e0];exact hm'.drawn,hm'.U,hm'.M,hm'.new,hm'.I,hm'.inew,fun k hk hne=>?_⟩
   rw[e5 k hk];exact hm'.same k hk hne
  exact⟨v,h1,v,g'.only h',_,h',n',hR,rfl,h2.only,hs2.mem.only hh,mono2.trans only_mono,fun r hr=>YB (hU' r hr) hn'⟩
 rcases he with rfl|rfl<;>exact hlast
theorem PureCt.rct [Glob P] {f:FuncId}{args:List D}{res:D}(k:PureCt P f args res) (h:H) (n:Nat):RCt P f args h n (fun d h' n'=>d=res/\h'=h/\n'=n):=by
 obtain⟨hbd,hnr,hct⟩:=k
 refine⟨hbd,fun w g vs hm hU hr=>?_⟩
 refine (hct w g.I _ hm.imm hm.gr (hr.clean hnr fun _ h=>h)).mono ?_
 rintro e w' ⟨v,rfl,hbel,hv⟩
 let g':Mem:={ g with I:=fun b=>g.I b\/(w.heap.size<=b/\b<w'.heap.size) }
 have mono:Mono g g' w w':=⟨hbel.os,hbel.tape,hbel.output,hbel.size,hbel.drawn,fun _ h=>h,fun _ _=>.inl rfl,fun r b c s h=>.inl ⟨r,c,s,h⟩,fun _ h=>.inl h,fun b h=>by rcases h with h|h;exact .inl h;exact .inr (.inl h.1),fun b hb _=>hbel.block b hb⟩
 refine⟨v,g',res,h,n,⟨rfl,rfl,rfl⟩,rfl,by refine Rep.mono ?_ ?_ ?_ hv;exact fun b hb=>⟨hb,rfl⟩;exact fun _ h=>False.elim h;exact fun _ h=>False.elim h,⟨hm.dead,fun r bl hr=>?_,hm.inj,hm.used,fun b hb=>?_,hm.gr.later (hm.kept mono)⟩,mono,hU⟩
 .
  obtain⟨blk,c,h1,h2,h3,h4,h5⟩:=hm.blk r bl hr;refine⟨blk,c,h1,h2,h3,h4,?_⟩
  rcases h5 with h5|⟨b,cur,rfl,h6,h7,h8,h9⟩
  .
   exact .inl h5
  have hlt:=(iQ hm h1).1;refine .inr ⟨b,cur,rfl,by rw[hbel.block b hlt];exact h6,h7,fun hI=>?_,fun i row hi=>⟨(h9 i row hi).1,fun j d hd=>?_⟩⟩
  .
   rcases hI with hI|hI
   .
    exact h8 hI
   omega
  obtain⟨u,k3,k4,k5⟩:=(h9 i row hi).2 j d hd;exact⟨u,k3,k4,k5.later hm mono⟩
 rcases hb with hb|hb
 .
  exact YB (hm.imm b hb) hbel.size
 exact hb.2
theorem bC {α:Type}{a:Array α}{k:Nat}{o:α}(h:a.toList[k]? = some o):a[k]? = some o:=by rwa [Zh] at h
theorem kE [Glob P] {B:Bot}{ops:Array Oper}{b:Nat}{n:Nat}{Q:Exit->Act->World->Prop}{w0:World}{g0:Mem}{rest:List Nat}:∀ (k i:Nat) (s:S) (g:Mem) (a:Act) (w:World),St P B s g a w->Mono g0 g w0 w->(∀ r,g.U r->r<b+i) ->
  i+k<=ops.size->(aF P (words P) C ops.toList b i ((ops.toList.drop i).take k) s).ok ->
  (∀ g' a' w',St P B (aF P (words P) C ops.toList b i ((ops.toList.drop i).take k) s) g' a' w'->Mono g0 g' w0 w'->(∀ r,g'.U r->r<b+(i+k))->wpOpsIn (Fw ro) n P ops Q rest a' w') ->
  wpOpsIn (Fw ro) n P ops Q (List.range' i k++rest) a w:=by
 intro k
 induction k with
 | zero =>
  intro i s g a w hs hm hU hk hok hQ;exact hQ g a w hs hm hU
 | succ k ih =>
  intro i s g a w hs hm hU hk hok hQ;have hlt:i<ops.size:=by omega
  have hd:(ops.toList.drop i).take (k+1)=ops[i]::(ops.toList.drop (i+1)).take k:=by rw[Yy (by simpa using hlt)];simp
  rw[hd] at hok hQ;simp only[aF] at hok hQ;rw[Y0,X0,wpOpsIn_cons];refine zT hs (b:=b) (N:=b+i) (fun h=>by have:=hU _ h;omega) hU (by simp[hlt]) (zR hok) fun g' a' w' h1 h2 h3=>?_
  refine ih (i+1) _ g' a' w' h1 (hm.trans h2) (fun r hr=>by
                                 rcases h3 r hr with h|h;· have:=hU r h;omega
                                 omega) om hok fun g'' a'' w'' q1 q2 q3=>hQ g'' a'' w'' q1 q2 fun r hr=>by have:=q3 r hr;omega
theorem Reps.wk {w:World}{g:Mem}{ds:List D}{vs:List Value}(h:Reps w g ds vs):Reps w g (ds.map wk) vs :=
 ⟨by simpa using h.1,fun i d x h1 h2=>by obtain⟨y,h3,rfl⟩:=fP h1;exact (h.2 i y x h3 h2).wk⟩
theorem Vr [Glob P] {s s1:S}{id:Nat}{ops:Array Oper}(k:Nat) {o:Oper}{f:Operand}{args:Array Operand}{ts:Array TypeId}{fid:FuncId}{first caps xs:List D}(R:D->H->Nat->Prop)
  (ho:ops[k]? = some o) (hop:o.op = .call { callee:=.value f,args:=args,argTypes:=ts }) (hg:o.guard=none)
  (he:aF P (words P) C ops.toList s.nx 0 (ops.toList.take k) { n:=s.n,t:=s.t,h:=s.h,nx:=s.nx+k,ok:=s.ok,e:=s.e }=s1) (hok:s1.ok) (hd:bB s1.n o.dst=true)
  (hf:s1.ev f = .fn (.func fid) first caps) (hxg:(args.toList.map s1.ev).all sg=true) (hx:((args.toList.map s1.ev).map sd).map wk=xs) (hct:RCt P fid (first++xs++caps) s1.h (s.nx+k) R)
  (hk : ∀ res h' n',R res h' n' -> ∃ s2,aF P (words P) C ops.toList n' (k+1) (ops.toList.drop (k+1)) { n:=s1.n,t:=s1.put o.dst res,h:=h',nx:=n'+ops.size,ok:=True,e:=s1.e }=s2/\s2.ok/\Q .normal s2.clear) :
  DW P ro (.region id ops false) Q s:=by
 intro B g a w hs hU
 have hlt:k<ops.size:=(Yk.1 ho).1
 refine wpIn_region ?_
 have hr:List.range ops.size=List.range' 0 k++(k::List.range' (k+1) (ops.size-(k+1))):=by
  rw[Y4];have:ops.size=k+((ops.size-(k+1))+1):=by omega
  conv=>lhs;rw[this]
  rw[<- Ze,Y0]
  simp
 rw[hr]
 have hs0:St P B { n:=s.n,t:=s.t,h:=s.h,nx:=s.nx+k,ok:=s.ok,e:=s.e } g a w:=⟨hs.sz,hs.tm,hs.mem,hs.df,hs.en,hs.bd⟩
 have e0:(ops.toList.drop 0).take k=ops.toList.take k:=rfl
 refine kE (C:=C) (b:=s.nx) k 0 _ g a w hs0 (Mono.refl _ _) (fun r hr=>by have:=hU r hr;omega) (by omega) (by rw[e0,he];exact hok) fun g1 a1 w1 hs1 hm1 hU1=>?_
 rw[e0,he] at hs1
 rw[wpOpsIn_cons]
 unfold wpOpIn
 rw[ho]
 simp only
 have hw:Region.wanted o (yielded ops a1.tmps)=true:=by simp[Region.wanted,hg]
 rw[X6 hw]
 have hdef : ∀ c,o.op ≠ .defer c:=by intro c e;rw[e] at hop;cases hop
 have hsem:o.semAt (Fw ro).round a1.eval=execOp a1.eval o:=Oper.semAt_eq _ _ _ hdef
 refine⟨fun _ _=>trivial,?_⟩
 rw[hsem]
 obtain⟨hbd,hct⟩:=hct
 have hfr:=bI hs1 f
 rw[hf] at hfr
 have hxr:=Reps.wk (mg (lX hs1 args.toList) hxg)
 rw[hx] at hxr
 generalize hv:a1.eval f=vf at hfr
 cases hfr with|fn _ _ _ fs cs l1 l2 r1 r2 =>
 have hrun:(execOp a1.eval o).run P w1 = .ok (.enter fid (fs++args.map a1.eval++cs)) w1:=by
  simp[execOp,hop,resolve,Deferred.ofValue,hv,invoke,lZ hbd]
 rw[hrun,Oper.uponIn_enter]
 have e:fs++args.map a1.eval++cs=(fs.toList++args.toList.map a1.eval++cs.toList).toArray:=by apply Zl;simp
 rw[e]
 refine⟨fun h=>by simp[Fw,Fence.wide] at h,o7 ((hct w1 g1 _ hs1.mem (fun r hr=>by have:=hU1 r hr;omega) (Reps.append (Reps.append ⟨by simpa using l1,fun i d x h1 h2=>r1 i d x h1 (by simpa using h2)⟩ hxr) ⟨by simpa using l2,fun i d x h1 h2=>r2 i d x h1 (by simpa using h2)⟩)).mono ?_)⟩
 rintro e w' ⟨v,g',res,h',n',hR,rfl,q1,q2,q3,q4⟩
 obtain⟨s2,e2,ok2,hQ⟩:=hk res h' n' hR
 have hs2:=gN hs1 q3 q2 hd q1 True
 have hs3:St P B { n:=s1.n,t:=s1.put o.dst res,h:=h',nx:=n'+ops.size,ok:=True,e:=s1.e } g' (a1.put o.dst v) w':=⟨hs2.sz,hs2.tm,hs2.mem,hs2.df,hs2.en,hs2.bd⟩
 have hnx : ∀ (l:List Oper) (i:Nat) (u:S),(aF P (words P) C ops.toList n' i l u).nx=u.nx:=by
  intro l
  induction l with
  | nil=>intro i u;rfl
  | cons x l ih=>intro i u;simp only[aF];rw[ih,exec1_n.2]
 have hex : ∀ (l:List Oper) (i b:Nat) (u:S),(aF P (words P) C ops.toList b i l u).e=u.e:=by
  intro l
  induction l with
  | nil=>intro i b u;rfl
  | cons x l ih =>
   intro i b u;simp only[aF];rw[ih];unfold bu
   split<;>rfl
 have e3:(ops.toList.drop (k+1)).take (ops.size-(k+1))=ops.toList.drop (k+1):=Yp (by simp)
 have:=kE (ro:=ro) (P:=P) (C:=C) (B:=B) (ops:=ops) (b:=n') (n:=0) (rest:=[]) (g0:=g) (w0:=w) (Q:=fun e a' w'=>∃ s' g',Q e s'/\St P B s' g' a' w'/\MonoX s.e.x g g' w w'/\(∀ r,g'.U r->r<s'.nx)/\s'.e.x=s.e.x) (ops.size-(k+1)) (k+1) _ g' _ w' hs3 (hm1.trans q3) (fun r hr=>by have:=q4 r hr;omega) om
  (by rw[e3,e2];exact ok2) fun g'' a'' w'' p1 p2 p3=>by
   rw[e3,e2] at p1;refine⟨_,g'',hQ,p1.clear,p2.toX,fun r hr=>?_,?_⟩
   .
    have h3:=p3 r hr;have h4:=hnx (ops.toList.drop (k+1)) (k+1) { n:=s1.n,t:=s1.put o.dst res,h:=h',nx:=n'+ops.size,ok:=True,e:=s1.e };rw[e2] at h4
    show r<s2.nx
    rw[h4]
    show r<n'+ops.size
    omega
   have h5:=hex (ops.toList.drop (k+1)) (k+1) n' { n:=s1.n,t:=s1.put o.dst res,h:=h',nx:=n'+ops.size,ok:=True,e:=s1.e };rw[e2] at h5;have h6:=hex (ops.toList.take k) 0 s.nx { n:=s.n,t:=s.t,h:=s.h,nx:=s.nx+k,ok:=s.ok,e:=s.e };rw[he] at h6
   show s2.e.x=s.e.x
   rw[h5]
   show s1.e.x=s.e.x
   rw[h6]
 rw[YC] at this
 exact this
end Go.DL
namespace Go.DL
open Go.RowKit
variable {P : Program} {C : Con} {Q : Exit -> S -> Prop}
def recAt (r:Loop) (j:Option Code):Loop:={ r with state:=if j.isNone then .ready else .done,pending:=j }
def Env.loop (l:Nat) (r:Loop) (t:Nat->D):Env where
 p g w:=w.heap[l]? = some (.loop r) /\ ¬ g.I l /\ ∀ i,Rep w g (t i) (r.tmps.getD i undef)
 x:=some l
 st P _ h g g' w w' hm k:=fun ⟨h1,h2,h3⟩=>⟨vT hm k h1 (fun c e f=>by simp),fun hI=>by
   rcases k.inew l hI with e|e|⟨r,c,s,e⟩
   .
    exact h2 e
   .
    have:=(Yk.1 h1).1;omega
   .
    exact nT hm h1 (fun c e f=>by simp) (fun c e=>by simp) r c s e,fun i=>(h3 i).later hm k⟩
theorem HM.keptX [Glob P] {h:H}{g g':Mem}{w w':World}{l:Nat}(hm:HM P h g w) (k:MonoX (some l) g g' w w') (hl : ¬ g.I l):∀ b,g.I b->g'.I b/\w'.heap[b]? = w.heap[b]? := by
 refine fun b hb=>⟨k.I b hb,k.same b (hm.imm b hb) (fun r c s e=>?_) (fun e=>hl (by cases e;exact hb))⟩
 cases hr:h r with
 | none=>rw[hm.dead r hr] at e;cases e
 | some bl =>
  obtain⟨blk,c',e1,_,_,_,h5⟩:=hm.blk r bl hr;rw[e] at e1;simp only[Yh,YI] at e1
  rcases h5 with⟨h6,_⟩|⟨b',cur,h6,_,_,h7,_⟩
  .
   rw[<- e1.1] at h6;cases h6
  rw[<- e1.1] at h6;cases h6;exact h7 hb
theorem Cb [Glob P] {h:H}{g g':Mem}{w w':World}{l:Nat}(hm:HM P h g w) (k:MonoX (some l) g g' w w') {D:Nat}{o:Obj}(hD:w.heap[D]? = some o) (ho : ∀ c e f,o ≠ .cells c e f) (hl:l≠D) (ho2 : ∀ c e,o ≠ .map c e:=by intro c e;simp):w'.heap[D]? = some o:=by
 rw[k.same D (Yk.1 hD).1 (nT hm hD ho ho2) (fun e=>hl (by cases e;rfl))];exact hD
theorem Marks.laterX [Glob P] {h:H}{g g':Mem}{w w':World}{l:Nat}(hm:HM P h g w) (k:MonoX (some l) g g' w w') {r:Loop}(hl:w.heap[l]? = some (.loop r)) {B:Nat}:∀ {ds:List Deferred},Marks B g ds w->Marks B g' ds w'
 | [],_=>trivial
 | d::ds,⟨⟨D,h1,h2,h3,h4,h5⟩,h6⟩=>⟨⟨D,h1,Cb hm k h2 (fun c e f=>by simp) (fun e=>by subst e;rw[hl] at h2;cases h2),h3,h4,fun hI=>by
   rcases k.inew D hI with e|e|⟨r,c,s,e⟩
   .
    exact h5 e
   .
    have:=(Yk.1 h2).1;omega
   exact nT hm h2 (fun c e f=>by simp) (fun c e=>by simp) r c s e⟩,h6.laterX hm k hl⟩
theorem Dfs.laterX [Glob P] {h:H}{g g':Mem}{w w':World}{l:Nat}(hm:HM P h g w) (k:MonoX (some l) g g' w w') {r:Loop}(hl:w.heap[l]? = some (.loop r)) {B:Bot}{ds:List Deferred}(hd:Dfs B g ds w):Dfs B g' ds w':=hd.map fun _ h=>h.laterX hm k hl
theorem Ck {g:Mem}{w:World}{l:Nat}(o:Obj):MonoX (some l) g g w (w.putObj l o) :=
 ⟨rfl,rfl,rfl,by simp,XY _,fun _ h=>h,fun _ _=>.inl rfl,fun r _ c s h=>.inl ⟨r,c,s,h⟩,fun _ h=>h,fun _ h=>.inl h,fun _ _ _ hx=>World.putObj_heap_other (fun e=>hx (by rw[e]))⟩
theorem HM.putLoop [Glob P] {h:H}{g:Mem}{w:World}{l:Nat}{r:Loop}(hm:HM P h g w) (hl:w.heap[l]? = some (.loop r)) (hI : ¬ g.I l) (o:Obj):HM P h g (w.putObj l o) :=
 hm.marks (by simp) (fun k hk=>World.putObj_heap_other (fun e=>hI (e ▸ hk))) fun k o hk ho=>World.putObj_heap_other (fun e'=>by subst e';rw[hl] at hk;cases hk;exact ho)
def pO (t:Nat->D) (ps:List Nat) (ds:List D):Nat->D:=(ps.zip ds).foldl (fun t p=>upd t p.1 p.2) t
@[go_sem] theorem FH {t:Nat->D}{ds:List D}:pO t [] ds=t:=rfl
@[go_sem] theorem FI {t:Nat->D}{p:Nat}{ps:List Nat}{d:D}{ds:List D}:pO t (p::ps) (d::ds)=pO (upd t p d) ps ds:=rfl
theorem FE {w:World}{g:Mem}:∀ (ps:List Nat) (ds:List D) (vs:List Value) (t:Nat->D) (tmps:Array Value),Reps w g ds vs->(∀ p∈ps,p<tmps.size)->(∀ i,Rep w g (t i) (tmps.getD i undef)) ->
  ((ps.zip vs).foldl (fun tmps (p:Nat×Value)=>tmps.setIfInBounds p.1 p.2) tmps).size=tmps.size /\ ∀ i,Rep w g (pO t ps ds i) (((ps.zip vs).foldl (fun tmps (p:Nat×Value)=>tmps.setIfInBounds p.1 p.2) tmps).getD i undef)
 | [],_,_,_,_,_,_,h=>⟨rfl,h⟩
 | p::ps,ds,vs,t,tmps,hr,hp,h=>by
  cases ds with
  | nil=>rw[hr.of_nil];exact⟨rfl,h⟩
  | cons d ds =>
   obtain⟨x,xs,rfl,h1,h2⟩:=hr.of_cons;have:=FE ps ds xs (upd t p d) (tmps.setIfInBounds p x) h2 (fun q hq=>by simpa using hp q (by simp[hq])) (fun i=>by
    by_cases e:i=p
    .
     subst e;have hlt:=hp i (by simp)
     rw[upd_same]
     simpa [hlt] using h1
    rw[upd_ne _ _ _ _ e];have:(tmps.setIfInBounds p x).getD i undef=tmps.getD i undef:=by simp[Ne.symm e]
    rw[this];exact h i)
   refine⟨by simpa using this.1,this.2⟩
theorem KC [Glob P] {s s1:S}{id:Nat}{ops:Array Oper}(k:Nat) {o:Oper}{f:Operand}{args:Array Operand}{ts:Array TypeId}{l:Nat}{r:Loop}{t:Nat->D}{xs:List D}
  (ho:ops[k]? = some o) (hop:o.op = .call { callee:=.value f,args:=args,argTypes:=ts }) (hg:o.guard=none) (hse:s.e=Env.loop l (recAt r none) t)
  (he:aF P (words P) C ops.toList s.nx 0 (ops.toList.take k) { n:=s.n,t:=s.t,h:=s.h,nx:=s.nx+k,ok:=s.ok,e:=s.e }=s1) (hok:s1.ok) (hd:bB s1.n o.dst=true)
  (hf:s1.ev f = .fn (.yield l) [] []) (hxg:(args.toList.map s1.ev).all sg=true) (hx:(args.toList.map s1.ev).map sd=xs) (hps:xs.length=r.params.size) (hpn : ∀ p∈r.params.toList,p<r.tmps.size)
  (hbody:DW P (some l) r.assign (thenS (fun s2=>s2.e=Env.tt/\DW P (some l) r.body (fun e s'=>s'.e=Env.tt /\ ∃ b j,(match e with | .normal=>b=true/\j=none | .ret=>b=false/\j=some .ret | .exit i=>b=false/\j=some (.exit i)|_=>False) /\
    ∃ s2,aF P (words P) C ops.toList s'.nx (k+1) (ops.toList.drop (k+1)) { n:=s1.n,t:=s1.put o.dst (.v (.bool b)),h:=s'.h,nx:=s'.nx+ops.size,ok:=True,e:=Env.loop l (recAt r j) t }=s2/\s2.ok/\Q .normal s2.clear) s2) (fun _ _=>False))
   { n:=r.tmps.size,t:=pO t r.params.toList xs,h:=s1.h,nx:=s.nx+k }) :
  DW P none (.region id ops false) Q s:=by
 intro B g a w hs hU
 have hlt:k<ops.size:=(Yk.1 ho).1
 have hex : ∀ (l:List Oper) (i b:Nat) (u:S),(aF P (words P) C ops.toList b i l u).e=u.e:=by
  intro l
  induction l with
  | nil=>intro i b u;rfl
  | cons x l ih =>
   intro i b u;simp only[aF];rw[ih];unfold bu
   split<;>rfl
 have hnxx : ∀ (l:List Oper) (i b:Nat) (u:S),(aF P (words P) C ops.toList b i l u).nx=u.nx:=by
  intro l
  induction l with
  | nil=>intro i b u;rfl
  | cons x l ih=>intro i b u;simp only[aF];rw[ih,exec1_n.2]
 refine wpIn_region ?_
 have hr:List.range ops.size=List.range' 0 k++(k::List.range' (k+1) (ops.size-(k+1))):=by
  rw[Y4];have:ops.size=k+((ops.size-(k+1))+1):=by omega
  conv=>lhs;rw[this]
  rw[<- Ze,Y0]
  simp
 rw[hr]
 have hs0:St P B { n:=s.n,t:=s.t,h:=s.h,nx:=s.nx+k,ok:=s.ok,e:=s.e } g a w:=⟨hs.sz,hs.tm,hs.mem,hs.df,hs.en,hs.bd⟩
 have e0:(ops.toList.drop 0).take k=ops.toList.take k:=rfl
 refine kE (C:=C) (b:=s.nx) k 0 _ g a w hs0 (Mono.refl _ _) (fun r hr=>by have:=hU r hr;omega) (by omega) (by rw[e0,he];exact hok) fun g1 a1 w1 hs1 hm1 hU1=>?_
 rw[e0,he] at hs1
 have hs1e:s1.e=Env.loop l (recAt r none) t:=by
  have h6:=hex (ops.toList.take k) 0 s.nx { n:=s.n,t:=s.t,h:=s.h,nx:=s.nx+k,ok:=s.ok,e:=s.e };rw[he] at h6;rw[h6];exact hse
 obtain⟨hl1,hI1,ht1⟩:(Env.loop l (recAt r none) t).p g1 w1:=by rw[<- hs1e];exact hs1.en
 rw[wpOpsIn_cons]
 unfold wpOpIn
 rw[ho]
 simp only
 have hw:Region.wanted o (yielded ops a1.tmps)=true:=by simp[Region.wanted,hg]
 rw[X6 hw]
 have hdef : ∀ c,o.op ≠ .defer c:=by intro c e;rw[e] at hop;cases hop
 have hsem:o.semAt (Fw none).round a1.eval=execOp a1.eval o:=Oper.semAt_eq _ _ _ hdef
 refine⟨fun _ _=>trivial,?_⟩
 rw[hsem]
 have hfr:=bI hs1 f
 rw[hf] at hfr
 have hxr:=mg (lX hs1 args.toList) hxg
 rw[hx] at hxr
 generalize hv:a1.eval f=vf at hfr
 cases hfr with|fn _ _ _ fs cs l1 l2 r1 r2 =>
 have hfs:fs = #[]:=by apply ZP;simpa using l1.symm
 have hcs:cs = #[]:=by apply ZP;simpa using l2.symm
 subst hfs;subst hcs
 have hsz:(args.map a1.eval).size=(recAt r none).params.size:=by
  have h1:=hxr.1
  show (args.map a1.eval).size=r.params.size
  rw[<- hps,h1];simp
 have hrun:(execOp a1.eval o).run P w1 = .ok (.round l r.fn ((r.params.zip (args.map a1.eval)).foldl (fun tmps (t,a)=>tmps.setIfInBounds t a) r.tmps) r.assign r.body) w1:=by
  have:=run_yield (P:=P) (w:=w1) (l:=l) (r:=recAt r none) (args:=args.map a1.eval) hl1 hsz;have e1:(execOp a1.eval o).run P w1=(Instr.yield l (args.map a1.eval)).run P w1:=by simp[execOp,hop,resolve,Deferred.ofValue,hv,invoke]
  rw[e1];exact this
 rw[hrun,Oper.uponIn_round]
 refine⟨fun h=>by simp[Fw,Fence.wide] at h,?_⟩
 obtain⟨hz1,hz2⟩:=FE r.params.toList xs _ t r.tmps hxr hpn ht1
 have hzip:(r.params.zip (args.map a1.eval)).foldl (fun tmps (t,a)=>tmps.setIfInBounds t a) r.tmps=(r.params.toList.zip (args.toList.map a1.eval)).foldl (fun tmps (p:Nat×Value)=>tmps.setIfInBounds p.1 p.2) r.tmps:=by
  rw[<- Array.foldl_toList];simp
 rw[hzip]
 generalize (r.params.toList.zip (args.toList.map a1.eval)).foldl (fun tmps (p:Nat×Value)=>tmps.setIfInBounds p.1 p.2) r.tmps=tm at hz1 hz2
 have hsb:St P (Bot.of 0) { n:=r.tmps.size,t:=pO t r.params.toList xs,h:=s1.h,nx:=s.nx+k } g1 { tmps:=tm,defers:=[] } w1:=⟨hz1,hz2,hs1.mem,Dfs.start,trivial,Yo _⟩
 refine roundIn_of_wpIn trivial (wpIn_mono (hbody (Bot.of 0) g1 _ w1 hsb (fun r hr=>by have:=hU1 r hr;show r<s.nx+k;omega)) ?_)
 rintro e a2 w2 ⟨s2,g2,hq,hs2,hm2,hU2,hx2⟩
 cases e with
 | normal =>
  have hm2':Mono g1 g2 w1 w2:=hm2.out;have hl2:=vT hs1.mem hm2' hl1 (fun c e f=>by simp)
  have hI2 : ¬ g2.I l:=fun hI=>by
   rcases hm2'.inew l hI with e|e|⟨r,c,s,e⟩
   .
    exact hI1 e
   .
    have:=(Yk.1 hl1).1;omega
   exact nT hs1.mem hl1 (fun c e f=>by simp) (fun c e=>by simp) r c s e
  refine⟨_,run_beginRound hl2 rfl,?_⟩;have hlt2:l<w2.heap.size:=(Yk.1 hl2).1;obtain⟨he2,hbd⟩:=hq;have hb2:St P (Bot.of 0) s2 g2 a2 (w2.putObj l (.loop { recAt r none with state:=.busy })):=by
   refine⟨hs2.sz,fun i=>(hs2.tm i).mono (fun b hb=>⟨hb,World.putObj_heap_other (fun e=>hI2 (by rw[<- e];exact hb))⟩) (fun _ h=>h) (fun _ _=>.inl rfl),hs2.mem.putLoop hl2 hI2 _,hs2.df.laterX hs2.mem (Ck _) hl2,?_,Yo _⟩
   rw[he2];trivial
  refine wpIn_mono (hbd (Bot.of 0) g2 a2 _ hb2 hU2) ?_;rintro e a3 w3 ⟨s3,g3,⟨_,b,j,hcase,s4,e4,ok4,hQ⟩,hs3,hm3,hU3,_⟩;rw[he2] at hm3;have hm3':=hm3.out;have hl2':(w2.putObj l (.loop { recAt r none with state:=.busy })).heap[l]? = some (.loop { recAt r none with state:=.busy }):=World.putObj_heap_same hlt2
  have hl3:=vT hb2.mem hm3' hl2' (fun c e f=>by simp)
  have hI3 : ¬ g3.I l:=fun hI=>by
   rcases hm3'.inew l hI with e|e|⟨r,c,s,e⟩
   .
    exact hI2 e
   .
    simp at e;omega
   exact nT hb2.mem hl2' (fun c e f=>by simp) (fun c e=>by simp) r c s e
  have hlt3:l<w3.heap.size:=(Yk.1 hl3).1;have fin:b=j.isNone -> ∃ v w',(Instr.endRound l j).run P w3 = .ok v w'/\(fun e w''=>match e with
    | Ending.returned v=>wpOpsIn (Fw none) 0 P ops (fun e a' w'=>∃ s' g',Q e s'/\St P B s' g' a' w'/\MonoX s.e.x g g' w w'/\(∀ r,g'.U r->r<s'.nx)/\s'.e.x=s.e.x) (List.range' (k+1) (ops.size-(k+1))) (a1.put o.dst v) w''
    | Ending.panicked chain=>∃ s' g',Q (.panic chain) s'/\St P B s' g' a1 w''/\MonoX s.e.x g g' w w''/\(∀ r,g'.U r->r<s'.nx)/\s'.e.x=s.e.x
    | Ending.outgrown=>LetsOut (fun e a' w'=>∃ s' g',Q e s'/\St P B s' g' a' w'/\MonoX s.e.x g g' w w'/\(∀ r,g'.U r->r<s'.nx)/\s'.e.x=s.e.x)) (.returned v) w':=by
   rintro rfl;refine⟨_,_,run_endRound j hl3,?_⟩;have mX:MonoX (some l) g1 g3 w1 (w3.putObj l (.loop (recAt r j))):=hm2'.toX.trans ((Ck _).trans (hm3'.toX.trans (Ck _)));have kept:=hs1.mem.keptX mX hI1;have hbase:St P B { n:=s1.n,t:=s1.t,h:=s3.h,nx:=s3.nx+ops.size,ok:=True,e:=Env.loop l (recAt r j) t } g3 a1 (w3.putObj l (.loop (recAt r j))) :=
    ⟨hs1.sz,fun i=>(hs1.tm i).mono kept mX.U mX.M,hs3.mem.putLoop hl3 hI3 _,hs1.df.laterX hs1.mem mX hl1,⟨World.putObj_heap_same hlt3,hI3,fun i=>(ht1 i).mono kept mX.U mX.M⟩,Yc hs1.bd mX.size⟩
   have hput:=gN hbase (Mono.refl _ _) hbase.mem hd (.v (.bool j.isNone)) True;have e3:(ops.toList.drop (k+1)).take (ops.size-(k+1))=ops.toList.drop (k+1):=Yp (by simp)
   have:=kE (ro:=none) (P:=P) (C:=C) (B:=B) (ops:=ops) (b:=s3.nx) (n:=0) (rest:=[]) (g0:=g3) (w0:=w3.putObj l (.loop (recAt r j))) (Q:=fun e a' w'=>∃ s' g',Q e s'/\St P B s' g' a' w'/\MonoX s.e.x g g' w w'/\(∀ r,g'.U r->r<s'.nx)/\s'.e.x=s.e.x) (ops.size-(k+1)) (k+1) _ g3 _ _ hput (Mono.refl _ _) (fun r hr=>by have:=hU3 r hr;omega) om
    (by rw[e3];exact e4 ▸ ok4) fun g'' a'' w'' p1 p2 p3=>by
     rw[e3] at p1;have p1:St P B s4 g'' a'' w'':=e4 ▸ p1;have hx:s.e.x=some l:=by rw[hse];rfl
     refine⟨_,g'',hQ,p1.clear,?_,fun r' hr'=>?_,?_⟩
     .
      rw[hx];exact hm1.toX.trans (mX.trans p2.toX)
     .
      have h3:=p3 r' hr';have h4:=hnxx (ops.toList.drop (k+1)) (k+1) s3.nx { n:=s1.n,t:=s1.put o.dst (.v (.bool j.isNone)),h:=s3.h,nx:=s3.nx+ops.size,ok:=True,e:=Env.loop l (recAt r j) t };rw[e4] at h4
      show r'<s4.nx
      rw[h4]
      show r'<s3.nx+ops.size
      omega
     have h5:=hex (ops.toList.drop (k+1)) (k+1) s3.nx { n:=s1.n,t:=s1.put o.dst (.v (.bool j.isNone)),h:=s3.h,nx:=s3.nx+ops.size,ok:=True,e:=Env.loop l (recAt r j) t };rw[e4] at h5
     show s4.e.x=s.e.x
     rw[h5,hx];rfl
   rw[YC] at this;exact this
  cases e with
  | normal=>obtain⟨rfl,rfl⟩:=hcase;exact fin rfl
  | ret=>obtain⟨rfl,rfl⟩:=hcase;exact fin rfl
  | exit i=>obtain⟨rfl,rfl⟩:=hcase;exact fin rfl
  | _=>exact hcase.elim
 | _=>exact hq.elim
theorem HM.lay [Glob P] {h:H}{g:Mem}{w:World}(hm:HM P h g w) (o:Obj):HM P h g (w.alloc o)/\Mono g g w (w.alloc o):=by
 have mono:Mono g g w (w.alloc o) :=
  ⟨rfl,rfl,rfl,by simp,XY _,fun _ h=>h,fun _ _=>.inl rfl,fun r b c s h=>.inl ⟨r,c,s,h⟩,fun _ h=>h,fun b h=>.inl h,fun b hb _=>Below.heap_alloc w o b hb⟩
 refine⟨⟨hm.dead,fun r bl hr=>?_,hm.inj,hm.used,fun b hb=>YB (hm.imm b hb) (by simp),hm.gr.later (hm.kept mono)⟩,mono⟩
 obtain⟨blk,c,h1,h2,h3,h4,h5⟩:=hm.blk r bl hr
 refine⟨blk,c,h1,h2,h3,h4,?_⟩
 rcases h5 with h5|⟨b,cur,rfl,h6,h7,h8,h9⟩
 .
  exact .inl h5
 have hlt:=(iQ hm h1).1
 refine .inr ⟨b,cur,rfl,by rw[Below.heap_alloc w o b hlt];exact h6,h7,h8,fun i row hi=>⟨(h9 i row hi).1,fun j d hd=>?_⟩⟩
 obtain⟨u,k3,k4,k5⟩:=(h9 i row hi).2 j d hd
 exact⟨u,k3,k4,k5.later hm mono⟩
theorem KF [Glob P] {s:S}{gf:Operand}{ps:Array Tmp}{assign body:Code}{f:FuncId}{fn:Func}{c:Code}{first caps:List D}(he:s.e=Env.tt) (hev:s.ev gf = .fn (.func f) first caps) (hf:P.funcs[f]? = some fn) (hb:fn.body=some c) (hbd:bV P f=true)
  (hn:(first++[D.fn (.yield 0) [] []]++caps).length<=fn.ntmps) (hres:fn.results = #[])
  (walk : ∀ l r,r.params=ps->r.assign=assign->r.body=body->r.tmps.size=s.n->DW P none c (fun e s'=>(e = .normal\/e = .ret) /\ ∃ j,s'.e=Env.loop l (recAt r j) s.t /\
    (match j with|none=>Q .normal { n:=s.n,t:=s.t,h:=s'.h,nx:=s'.nx }|some .ret=>Q .ret { n:=s.n,t:=s.t,h:=s'.h,nx:=s'.nx }|some (.exit i)=>Q (.exit i) { n:=s.n,t:=s.t,h:=s'.h,nx:=s'.nx }|_=>False))
   { n:=fn.ntmps,t:=fun i=>(first++[D.fn (.yield l) [] []]++caps).getD i .junk,h:=s.h,nx:=s.nx,e:=Env.loop l (recAt r none) s.t }):DW P none (.rangeFunc gf ps assign body) Q s:=by
 intro B g a w hs hU
 refine wpIn_rangeFunc fun fn' _=>?_
 let Dk:=w.heap.size
 let l:=w.heap.size+1
 let r:Loop:={ state:=.ready,pending:=none,fn:=fn',tmps:=a.tmps,params:=ps,assign:=assign,body:=body,defers:=w.heap.size }
 let w1:=(w.alloc (.deferred (some []))).alloc (.loop r)
 have hfr:=bI hs gf
 rw[hev] at hfr
 generalize hv:a.eval gf=vf at hfr
 cases hfr with|fn _ _ _ fs cs l1 l2 r1 r2 =>
 obtain⟨q1,q2⟩:=hs.mem.lay (.deferred (some []))
 obtain⟨q3,q4⟩:=q1.lay (.loop r)
 have mono1:Mono g g w w1:=q2.trans q4
 have hl1:w1.heap[l]? = some (.loop r):=by
  have:=World.alloc_heap_new (w.alloc (.deferred (some []))) (.loop r)
  simpa [l,w1] using this
 have hD1:w1.heap[Dk]? = some (.deferred (some [])):=by
  have h1:=World.alloc_heap_new w (.deferred (some []));have h2:=Below.heap_alloc (w.alloc (.deferred (some []))) (.loop r) Dk (by simp[Dk])
  exact h2.trans h1
 have hsz1:w1.heap.size=w.heap.size+2:=by simp[w1]
 have hIl : ¬ g.I l:=fun h=>by have:=hs.mem.imm l h;simp[l] at this;omega
 have hID : ¬ g.I Dk:=fun h=>by have:=hs.mem.imm Dk h;simp[Dk] at this
 refine⟨l,_,w1,⟨.fn (.func f) cs,fs ++ #[.func (.yield l) #[] #[]]⟩,w1,f,fs ++ #[.func (.yield l) #[] #[]]++cs,w1,run_enterLoop_outer _ _ _ _ _,?_,fun _ _=>trivial,?_,fun h=>by simp[Fw,Fence.wide] at h,?_⟩
 .
  have:a.eval (.const (Value.func (.yield l) #[] #[]))=Value.func (.yield l) #[] #[]:=rfl
  simp[resolve,Deferred.ofValue,hv,this]
 .
  simp[invoke,lZ hbd]
 have hargs:Reps w1 g (first++[D.fn (.yield l) [] []]++caps) (fs.toList++[Value.func (.yield l) #[] #[]]++cs.toList):=by
  refine Reps.append (Reps.append ⟨by simpa using l1,fun i d x h1 h2=>(r1 i d x h1 (by simpa using h2)).later hs.mem mono1⟩ (.cons (x:=Value.func (.yield l) #[] #[]) (.fn (.yield l) [] [] #[] #[] rfl rfl (fun _ _ _ h=>by simp at h) (fun _ _ _ h=>by simp at h)) .nil)) ⟨by simpa using l2,fun i d x h1 h2=>(r2 i d x h1 (by simpa using h2)).later hs.mem mono1⟩
 have e:fs ++ #[.func (.yield l) #[] #[]]++cs=(fs.toList++[Value.func (.yield l) #[] #[]]++cs.toList).toArray:=by apply Zl;simp
 rw[e]
 have hn':(first++[D.fn (.yield l) [] []]++caps).length<=fn.ntmps:=by simpa using hn
 have hinit:=qw (P:=P) (n:=fn.ntmps) hargs hn' q3 (nx:=s.nx)
 have hst:St P (Bot.of w1.heap.size) { n:=fn.ntmps,t:=fun i=>(first++[D.fn (.yield l) [] []]++caps).getD i .junk,h:=s.h,nx:=s.nx,e:=Env.loop l (recAt r none) s.t } g _ w1 :=
  ⟨hinit.sz,hinit.tm,hinit.mem,hinit.df,⟨hl1,hIl,fun i=>(hs.tm i).later hs.mem mono1⟩,hinit.bd⟩
 refine o7 (callsIn_of_wp_marks (n:=0) hf hb trivial (wpIn_mono (F:=Fence.wide) (walk l r rfl rfl rfl hs.sz (Bot.of w1.heap.size) g _ w1 hst hU) ?_))
 rintro e a' w' ⟨s',g',⟨hne,j,hse,hq⟩,hs',hm',hU',_⟩
 have hm':MonoX (some l) g g' w1 w':=hm'
 obtain⟨hl',hIl',_⟩:(Env.loop l (recAt r j) s.t).p g' w':=by rw[<- hse];exact hs'.en
 have hlast:LeavesInM Fence.wide 0 P fn a'.tmps (rangePost (Fw none) 0 P l (fun e a' w'=>∃ s' g',Q e s'/\St P B s' g' a' w'/\MonoX s.e.x g g' w w'/\(∀ r,g'.U r->r<s'.nx)/\s'.e.x=s.e.x) { a with defers:=[{ target:=.collected w.heap.size,args:=#[] }]++a.defers }) a'.defers .returning w':=by
  refine zb (P:=P) a'.defers w' hs'.df.marks fun w2 e0 e1 e2 e3 e4 e5 e6 e7=>?_
  refine⟨.tuple #[],by simp[results,hres],?_⟩
  have hll:l<w1.heap.size:=by rw[hsz1];simp[l]
  have hl2:w2.heap[l]? = some (.loop (recAt r j)):=by rw[e5 l hll];exact hl'
  have hl2lt:l<w2.heap.size:=(Yk.1 hl2).1;refine⟨_,_,run_endLoop hl2 (by cases j<;>simp[recAt]),?_⟩
  have same4 : ∀ b,b≠l->b<w1.heap.size->(w2.putObj l (.loop { recAt r j with state:=.exhausted })).heap[b]? = w'.heap[b]? := fun b h1 h2=>by
   rw[World.putObj_heap_other h1,e5 b h2]
  have kept : ∀ b,g.I b->g'.I b/\(w2.putObj l (.loop { recAt r j with state:=.exhausted })).heap[b]? = w.heap[b]? := fun b hb=>by
   obtain⟨k1,k2⟩:=q3.keptX hm' hIl b hb;refine⟨k1,?_⟩;rw[same4 b (fun e=>hIl (e ▸ hb)) (q3.imm b hb),k2]
   exact (hs.mem.kept mono1 b hb).2
  have hIDk' : ¬ g'.I Dk:=fun hI=>by
   rcases hm'.inew Dk hI with e|e|⟨r,c,s,e⟩
   .
    exact hID e
   .
    rw[hsz1] at e;simp[Dk] at e;omega
   exact nT q3 hD1 (fun c e f=>by simp) (fun c e=>by simp) r c s e
  have marks : ∀ ds:List Deferred,Marks B.n g ds w->(∀ d∈ds,d.target ≠ .collected Dk)/\Marks B.n g' ds (w2.putObj l (.loop { recAt r j with state:=.exhausted })):=by
   intro ds
   induction ds with
   | nil=>intro _;exact⟨fun _ h=>by simp at h,trivial⟩
   | cons d ds ih =>
    rintro⟨⟨Dd,h1,h2,h3,h4,h5⟩,h6⟩;obtain⟨i1,i2⟩:=ih h6;have hlt:Dd<w.heap.size:=(Yk.1 h2).1;have hne:Dd≠l:=by simp[l];omega
    have h21:w1.heap[Dd]? = some (.deferred (some [])):=vT hs.mem mono1 h2 (fun c e f=>by simp)
    refine⟨fun d' hd'=>?_,⟨Dd,h1,?_,h3,h4,fun hI=>?_⟩,i2⟩
    .
     rcases YK.1 hd' with rfl|h
     .
      rw[h1];intro e;cases e;simp[Dk] at hlt
     exact i1 d' h
    .
     rw[same4 Dd hne (by rw[hsz1];omega)]
     exact Cb q3 hm' h21 (fun c e f=>by simp) (Ne.symm hne)
    rcases hm'.inew Dd hI with e|e|⟨r,c,s,e⟩
    .
     exact h5 e
    .
     rw[hsz1] at e;omega
    exact nT q3 h21 (fun c e f=>by simp) (fun c e=>by simp) r c s e
  obtain⟨ms,hms,hmk⟩:=hs.df;obtain⟨mk1,mk2⟩:=marks ms hmk;have fin:St P B { n:=s.n,t:=s.t,h:=s'.h,nx:=s'.nx } g' { a with defers:=[{ target:=.collected w.heap.size,args:=#[] }]++a.defers } (w2.putObj l (.loop { recAt r j with state:=.exhausted })):=by
   refine⟨hs.sz,fun i=>(hs.tm i).mono kept hm'.U hm'.M,(hs'.mem.marks e4 e6 e7).putLoop hl2 hIl' _,⟨{ target:=.collected w.heap.size,args:=#[] }::ms,by rw[hms];rfl,⟨Dk,rfl,?_,mk1,hs.bd,hIDk'⟩,mk2⟩,trivial,?_⟩
   .
    rw[same4 Dk (by simp[Dk,l]) (by rw[hsz1];simp[Dk])]
    exact Cb q3 hm' hD1 (fun c e f=>by simp) (by simp[Dk,l])
   simp only[World.putObj_size];rw[e4];exact Yc hs.bd (Yc mono1.size hm'.size)
  have mono4:MonoX s.e.x g g' w (w2.putObj l (.loop { recAt r j with state:=.exhausted })):=by
   refine⟨by show w2.os=_;rw[e1,hm'.os,mono1.os],by show w2.tape=_;rw[e2,hm'.tape,mono1.tape],by show w2.output=_;rw[e3,hm'.output,mono1.output],by simp only[World.putObj_size];rw[e4];exact Yc mono1.size hm'.size,by show w.drawn<=w2.drawn;rw[e0];exact Yc mono1.drawn hm'.drawn,hm'.U,hm'.M,fun r b c s h=>?_,hm'.I,fun b h=>?_,fun b h1 h2 _=>?_⟩
   .
    rcases hm'.new r b c s h with h|h
    .
     exact .inl h
    exact .inr (Yc mono1.size h)
   .
    rcases hm'.inew b h with h|h|h
    .
     exact .inl h
    .
     exact .inr (.inl (Yc mono1.size h))
    exact .inr (.inr h)
   have hne:b≠l:=by simp[l];omega
   rw[same4 b hne (by rw[hsz1];omega),hm'.same b (by rw[hsz1];omega) h2 (fun e=>hne (by cases e;rfl))]
   exact mono1.same b h1 h2
  have hx:({ n:=s.n,t:=s.t,h:=s'.h,nx:=s'.nx }:S).e.x=s.e.x:=by rw[he]
  match j,hq with
  | none,hq=>exact⟨_,g',hq,fin,mono4,hU',hx⟩
  | some .ret,hq=>exact wpIn_ret ⟨_,g',hq,fin,mono4,hU',hx⟩
  | some (.exit i),hq=>exact wpIn_exit ⟨_,g',hq,fin,mono4,hU',hx⟩
 rcases hne with rfl|rfl<;>exact hlast
end Go.DL
namespace Go.Str
open Go.DL
abbrev Str:=List UInt8
def bs (l:Str):ByteArray:=⟨l.toArray⟩
@[go_sem] theorem bs_mk (l:Str):(ByteArray.mk l.toArray)=bs l:=rfl
@[go_sem] theorem nE (l:Str):(bs l).data.toList=l:=by simp[bs]
@[go_sem] theorem bs_size (l:Str):(bs l).size=l.length:=by simp[bs,ByteArray.size]
theorem DZ {a b:ByteArray}(h:a.data.toList=b.data.toList):a=b:=by
 cases a;cases b;congr 1;exact Zl h
@[go_sem] theorem ZcF (l:Str) (i j:Nat):(bs l).extract i j=bs ((l.take j).drop i):=by
 apply DZ
 rw[ByteArray.data_extract]
 simp[bs,List.drop_take]
@[go_sem] theorem ZcG (a b:Str):bs a++bs b=bs (a++b):=by
 apply DZ
 rw[ByteArray.data_append]
 simp[bs]
theorem bs_of (a:ByteArray):a=bs a.data.toList:=by apply DZ;simp[bs]
def bD (b:UInt8):List D:=[.v (.int .u8 b.toNat)]
def sR (s:Str):List D:=[.v (.string (bs s))]
def str1:D->Str
 | .v (.string s)=>s.data.toList
 | _=>[]
def int1:D->Int
 | .v (.int _ n)=>n
 | _=>0
def bool1:D->Bool
 | .v (.bool b)=>b
 | _=>false
def BX:List D->Str
 | [d]=>str1 d
 | _=>[]
def A9:D->List Str
 | .list _ rows=>rows.map BX
 | _=>[]
def bytes1:D->Str
 | .list _ rows=>rows.map Go.DL.byteOf
 | _=>[]
@[go_sem] theorem str1_v {s:ByteArray}:str1 (.v (.string s))=s.data.toList:=rfl
@[go_sem] theorem int1_v {k:IntKind}{n:Int}:int1 (.v (.int k n))=n:=rfl
@[go_sem] theorem bool1_v {b:Bool}:bool1 (.v (.bool b))=b:=rfl
theorem lL {α β:Type}{f:α->β}{g:β->α}(h : ∀ x,g (f x)=x) (l:List α):(l.map f).map g=l:=by
 rw[List.map_map]
 exact (Zz fun x _=>h x).trans (List.map_id l)
@[go_sem] theorem Zac {f:Bool}{l:List Str}:A9 (.list f (l.map sR))=l:=lL (f:=sR) (g:=BX) (fun x=>nE x) l
@[go_sem] theorem WC {f:Bool}{l:Str}:bytes1 (.list f (l.map bD))=l:=lL (f:=bD) (g:=Go.DL.byteOf) (fun x=>by simp[Go.DL.byteOf,bD]) l
@[go_sem] theorem Zab {f:Bool}:A9 (.list f [])=[]:=rfl
@[go_sem] theorem ZcE {f:Bool}:bytes1 (.list f [])=[]:=rfl
attribute [go_sem] sR bD
theorem iq {l:List Str}{n:Nat}(h:n<l.length):(l.map sR).getD n []=[.v (.string (bs l[n]!))]:=by
 simp[List.getD,h,getElem!_pos,sR]
@[go_sem] theorem wkr_sR {l:List Str}:bZ (l.map sR)=l.map sR:=by
 induction l with
 | nil=>rfl
 | cons x l ih=>simp only[Yb,bZ,ih];rfl
@[go_sem] theorem nrr_sR {l:List Str}:aS (l.map sR)=true:=by
 induction l with
 | nil=>rfl
 | cons x l ih=>simp only[Yb,aS,ih];rfl
@[go_sem] theorem wkr_bD {l:Str}:bZ (l.map bD)=l.map bD:=by
 induction l with
 | nil=>rfl
 | cons x l ih=>simp only[Yb,bZ,ih];rfl
@[go_sem] theorem nrr_bD {l:Str}:aS (l.map bD)=true:=by
 induction l with
 | nil=>rfl
 | cons x l ih=>simp only[Yb,aS,ih];rfl
def az (n:Nat) (p:Nat->Bool) (k:Nat):Bool:=if k<n then p k&&az n p (k+1) else true
termination_by n-k
theorem dS (n:Nat) (p:Nat->Bool) (k:Nat):az n p k=if k<n then p k&&az n p (k+1) else true:=by rw[az]
theorem dL (n:Nat) (p:Nat->Bool) (k:Nat):az n p k=true ↔ ∀ i,k<=i->i<n->p i=true:=by
 rw[dS]
 split
 .
  rename_i h
  rw[XW,dL n p (k+1)];refine⟨fun ⟨h1,h2⟩ i hi hn=>?_,fun h1=>⟨h1 k (XY _) h,fun i hi hn=>h1 i om hn⟩⟩
  by_cases e:i=k
  .
   subst e;exact h1
  exact h2 i om hn
 rename_i h
 exact⟨fun _ i hi hn=>by omega,fun _=>rfl⟩
termination_by n-k
def jT (c:UInt8):Bool:=(decide (97<=c.toNat)&&decide (c.toNat<=122))||(decide (48<=c.toNat)&&decide (c.toNat<=57))
def jg (l:Str) (i:Nat):Bool:=jT (l.getD i 0)||(decide ((l.getD i 0).toNat=45)&&decide (0<i)&&decide (i+1<l.length))
def labelOk (l:Str):Bool:=az l.length (jg l) 0&&decide (1<=l.length)&&decide (l.length<=12)
def nS (l:Str) (i:Nat):Bool:=jT (l.getD i 0)||decide ((l.getD i 0).toNat=45)
theorem SN (l:Str):labelOk l=if l.length<1 then false else if 12<l.length then false else if (l.getD 0 0).toNat=45 then false else if (l.getD (l.length-1) 0).toNat=45 then false else az l.length (nS l) 0:=by
 by_cases h1:l.length<1
 .
  rw[X6 h1];unfold labelOk;rw[Y6 (by omega : ¬ 1<=l.length)];simp
 rw[XZ h1]
 by_cases h2:12<l.length
 .
  rw[X6 h2];unfold labelOk;rw[Y6 (by omega : ¬ l.length<=12)];simp
 rw[XZ h2]
 have e:labelOk l=az l.length (jg l) 0:=by
  unfold labelOk;rw[Y1 (by omega:1<=l.length),Y1 (by omega:l.length<=12)];simp
 rw[e]
 have not45 : ∀ c:UInt8,c.toNat=45->jT c=false:=by
  intro c hc;simp[jT,hc]
 by_cases h3:(l.getD 0 0).toNat=45
 .
  rw[X6 h3]
  cases h:az l.length (jg l) 0 with
  | false=>rfl
  | true =>
   have:=(dL _ _ _).1 h 0 (XY _) om;simp only[jg,not45 _ h3,Nat.lt_irrefl,decide_false,Bool.and_false,Bool.false_and,ZR] at this;exact this.symm
 rw[XZ h3]
 by_cases h4:(l.getD (l.length-1) 0).toNat=45
 .
  rw[X6 h4]
  cases h:az l.length (jg l) 0 with
  | false=>rfl
  | true =>
   have:=(dL _ _ _).1 h (l.length-1) (Yo _) om;simp only[jg,not45 _ h4,Bool.false_or,XW,XX] at this;omega
 rw[XZ h4,Za,dL,dL]
 refine⟨fun h i hi hn=>?_,fun h i hi hn=>?_⟩
 .
  have:=h i hi hn;simp only[jg,nS,Yd,XW,XX] at this ⊢;exact this.imp id fun h=>h.1.1
 have:=h i hi hn
 simp only[jg,nS,Yd,XW,XX] at this ⊢
 rcases this with h5|h5
 .
  exact .inl h5
 refine .inr ⟨⟨h5,?_⟩,?_⟩
 .
  rcases Nat.eq_zero_or_pos i with e|e
  .
   subst e;exact absurd h5 h3
  exact e
 rcases YV (i+1) l.length with e|e
 .
  exact e
 have:i=l.length-1:=by omega
 subst this;exact absurd h5 h4
def split (l:Str):List Str:=match l with
 | []=>[[]]
 | c::r=>if c=46 then []::split r else match split r with
  | []=>[[c]]
  | p::ps=>(c::p)::ps
def iE (out:List Str) (c:UInt8):List Str:=if c=46 then out++[[]] else out.set (out.length-1) (out[out.length-1]! ++ [c])
theorem NQ {out:List Str}{c:UInt8}(h:(c.toNat:Int)=46):iE out c=out++[[]]:=by
 have:c=46:=by apply ZH.1;simpa using Int.ofNat.inj h
 unfold iE;rw[X6 this]
theorem NS {out:List Str}{c:UInt8}(h : ¬ (c.toNat:Int)=46):iE out c=out.set (out.length-1) (out[out.length-1]! ++ [c]):=by
 unfold iE;rw[XZ];intro e;subst e;exact h rfl
theorem Ru {l:Str}{k:Nat}(h:k<l.length):(l.take (k+1)).drop k=[l.getD k 0]:=by
 rw[Y8,List.drop_append_of_le_length (by simp;omega),YU (by simp;omega)]
 simp[List.getD,h]
def mi (l:Str) (k:Nat) (out:List Str):List Str:=if k<l.length then mi l (k+1) (iE out (l.getD k 0)) else out
termination_by l.length-k
theorem ve (l:Str) (k:Nat) (out:List Str):mi l k out=if k<l.length then mi l (k+1) (iE out (l.getD k 0)) else out:=by rw[mi]
def splitF (l:Str):List Str:=mi l 0 [[]]
def gT (l:Str) (c:Int):Nat->Int
 | 0=>-1
 | k+1=>if ((l.getD k 0).toNat:Int)=c then k else gT l c k
theorem IY {l:Str}{c:Int}{k:Nat}(h:0<k):gT l c k=if ((l.getD (k-1) 0).toNat:Int)=c then ((k-1:Nat):Int) else gT l c (k-1):=by
 obtain⟨j,rfl⟩:∃ j,k=j+1:=⟨k-1,om⟩
 rw[gT];rfl
def lastIx (l:Str) (c:Int):Int:=gT l c l.length
theorem Cx (l:Str) (c:Int):∀ k,gT l c k<k /\ -1<=gT l c k
 | 0=>by simp[gT]
 | k+1=>by
  have:=Cx l c k;unfold gT
  split<;>omega
theorem ze (l:Str) (c:Int):lastIx l c<l.length /\ -1<=lastIx l c:=Cx l c l.length
theorem NR {out:List Str}{c:UInt8}{k:Nat}(h : ∀ x∈out,x.length<=k):(∀ x∈iE out c,x.length<=k+1)/\(iE out c).length<=out.length+1:=by
 unfold iE
 split
 .
  refine⟨fun x hx=>?_,by simp⟩
  rcases Yx.1 hx with hx|hx
  .
   exact Nat.le_succ_of_le (h x hx)
  simp at hx;subst hx;exact Yo _
 refine⟨fun x hx=>?_,by simp⟩
 rcases List.mem_or_eq_of_mem_set hx with hx|hx
 .
  exact Nat.le_succ_of_le (h x hx)
 subst hx
 rw[XV]
 refine Nat.succ_le_succ ?_
 by_cases ho:out.length-1<out.length
 .
  exact h _ (by rw[getElem!_pos out _ ho];exact Yv _)
 rw[getElem!_neg out _ ho];exact Yo _
theorem E9 (l:Str) (k:Nat) (out:List Str) (hk:k<=l.length) (h : ∀ x∈out,x.length<=k):(∀ x∈mi l k out,x.length<=l.length)/\(mi l k out).length<=out.length+(l.length-k):=by
 rw[ve]
 split
 .
  rename_i hlt
  obtain⟨h1,h2⟩:=NR (c:=l.getD k 0) h;obtain⟨h3,h4⟩:=E9 l (k+1) _ om h1;exact⟨h3,om⟩
 exact⟨fun x hx=>Yc (h x hx) hk,om⟩
termination_by l.length-k
theorem xK (l:Str):(∀ x∈splitF l,x.length<=l.length)/\(splitF l).length<=l.length+1:=by
 obtain⟨h1,h2⟩:=E9 l 0 [[]] (Yo _) (by simp)
 exact⟨h1,by unfold splitF;simp only[YH,YF] at h2;omega⟩
theorem NT (l:Str) (i:Nat):(splitF l)[i]!.length<=l.length:=by
 by_cases h:i<(splitF l).length
 .
  exact (xK l).1 _ (by rw[getElem!_pos (splitF l) i h];exact Yv _)
 rw[getElem!_neg (splitF l) i h];exact Yo _
def ja (l:Str):List Str:=l.drop (lastIx l 46+1).toNat::(if _h:lastIx l 46<0 then [] else ja (l.take (lastIx l 46).toNat))
termination_by l.length
decreasing_by
 have:=Cx l 46 l.length
 unfold lastIx at *
 simp
 omega
theorem jY (l:Str):ja l=l.drop (lastIx l 46+1).toNat::(if lastIx l 46<0 then [] else ja (l.take (lastIx l 46).toNat)):=by
 rw[ja];split<;>rfl
def kS (ps:List Str) (i:Nat):Bool:=labelOk ps[i]! || (decide (i=0)&&ps[i]! == [42])
def nameOk (l:Str):Bool:=if l=[46] then true else if 60<l.length then false else az (splitF l).length (kS (splitF l)) 0&&decide ((splitF l).length<=8)
def partsOf (l:Str):List Str:=if l=[46] then [] else splitF l
def iU:List Str->Nat->Bool->Bool
 | [],_,_=>true
 | x::r,n,wild=>if wild||decide (8<n+1) then false else if !(x==[42]) && !labelOk x then false else iU r (n+1) (x==[42])
theorem mh (l:Str):split l≠[]:=by
 cases l with
 | nil=>simp[split]
 | cons c r =>
  unfold split
  split
  .
   simp
  split<;>simp
theorem Be {x:Str}{xs:List Str}(c:UInt8) (h:xs≠[]):iE (x::xs) c=x::iE xs c:=by
 unfold iE
 split
 .
  rfl
 have hl:0<xs.length:=Zr.2 h
 obtain⟨n,hn⟩:∃ n,xs.length=n+1:=⟨xs.length-1,om⟩
 simp[hn]
theorem E5 (c:UInt8):∀ p:Str,split (p++[c])=iE (split p) c
 | []=>by
  by_cases h:c=46
  .
   subst h;rfl
  simp[split,iE,h]
 | a::p=>by
  have ih:=E5 c p
  show split (a::(p++[c]))=_
  rw[split,split.eq_2 a p]
  by_cases h:a=46
  .
   rw[X6 h,X6 h,ih,Be c (mh p)]
  rw[XZ h,XZ h,ih]
  cases hq:split p with
  | nil=>exact absurd hq (mh p)
  | cons q qs =>
   by_cases hc:c=46
   .
    simp[iE,hc]
   cases qs with
   | nil=>simp[iE,hc]
   | cons r rs =>
    rw[Be (x:=q) (xs:=r::rs) c (by simp),Be (x:=a::q) (xs:=r::rs) c (by simp)]
theorem E8 (l:Str) (k:Nat) (hk:k<=l.length):mi l k (split (l.take k))=split l:=by
 rw[ve]
 split
 .
  rename_i h
  rw[<- E5,<- E8 l (k+1) (by omega)]
  congr 2
  rw[Y8]
  simp[List.getD,h]
 rw[Yp (by omega)]
termination_by l.length-k
theorem vg (l:Str):splitF l=split l:=E8 l 0 (Yo _)
theorem Bc : ∀ l:Str,(∀ x∈l,x≠46)->split l=[l]
 | [],_=>rfl
 | c::r,h=>by
  rw[split,XZ (h c (by simp)),Bc r (fun x hx=>h x (by simp[hx]))]
theorem Bd (b:Str):∀ a:Str,split (a++46::b)=split a++split b
 | []=>by rfl
 | x::a=>by
  show split (x::(a++46::b))=_
  rw[split,split.eq_2 x a,Bd b a]
  by_cases h:x=46
  .
   rw[X6 h,X6 h];rfl
  rw[XZ h,XZ h]
  cases hq:split a with
  | nil=>exact absurd hq (mh a)
  | cons q qs=>rfl
theorem IZ (l:Str) (c:Int):∀ k,(gT l c k<0 -> ∀ j,j<k -> ¬ ((l.getD j 0).toNat:Int)=c)/\(0<=gT l c k->((l.getD (gT l c k).toNat 0).toNat:Int)=c /\ ∀ j,(gT l c k).toNat<j->j<k -> ¬ ((l.getD j 0).toNat:Int)=c)
 | 0=>by simp[gT]
 | k+1=>by
  obtain⟨h1,h2⟩:=IZ l c k;unfold gT
  by_cases h:((l.getD k 0).toNat:Int)=c
  .
   rw[X6 h];exact⟨fun h3=>by omega,fun _=>⟨by simpa using h,fun j h4 h5=>by simp at h4;omega⟩⟩
  rw[XZ h];refine⟨fun h3 j hj=>?_,fun h3=>⟨(h2 h3).1,fun j h4 h5=>?_⟩⟩
  .
   by_cases e:j=k
   .
    subst e;exact h
   exact h1 h3 j om
  by_cases e:j=k
  .
   subst e;exact h
  exact (h2 h3).2 j h4 om
theorem Ip {l:Str}{n:Nat}(h : ∀ j,n<=j->j<l.length -> ¬ ((l.getD j 0).toNat:Int)=46):∀ x∈l.drop n,x≠46:=by
 intro x hx e
 subst e
 obtain⟨i,hi,he⟩:=Zd hx
 rw[List.getElem_drop] at he
 have hi':n+i<l.length:=by simp at hi;omega
 refine h (n+i) om hi' ?_
 have:l.getD (n+i) 0=46:=by simp only[List.getD,Yg hi',YT];exact he
 rw[this];rfl
theorem nL (l:Str):ja l=(split l).reverse:=by
 rw[jY]
 obtain⟨h1,h2⟩:=IZ l 46 l.length
 obtain⟨h3,h4⟩:=ze l 46
 by_cases h:lastIx l 46<0
 .
  rw[X6 h];have e:(lastIx l 46+1).toNat=0:=by omega
  have hs:=Bc l (fun x hx=>by have:=Ip (l:=l) (n:=0) (fun j _ hj=>h1 h j hj) x;exact this (by simpa using hx))
  rw[e,hs];rfl
 rw[XZ h]
 obtain⟨h5,h6⟩:=h2 (by unfold lastIx at h;omega)
 generalize hi:(lastIx l 46).toNat=i at *
 have hi':(gT l 46 l.length).toNat=i:=hi
 have e:(lastIx l 46+1).toNat=i+1:=by omega
 have hlt:i<l.length:=by omega
 rw[hi'] at h5 h6
 have hl:l=l.take i++46::l.drop (i+1):=by
  have hc:l[i]=46:=by
   have:l.getD i 0=l[i]:=by simp[List.getD,hlt]
   rw[this] at h5
   apply ZH.1;simpa using Int.ofNat.inj h5
  conv=>lhs;rw[<- Zm i l]
  rw[Yy hlt,hc]
 have hs:=Bc (l.drop (i+1)) (Ip fun j hj hn=>h6 j (by omega) hn)
 have ih:=nL (l.take i)
 rw[e,ih]
 conv=>rhs;rw[hl]
 rw[Bd,hs]
 simp
termination_by l.length
decreasing_by
 simp;omega
theorem EJ {x:Str}{r:List Str}{n:Nat}{w:Bool}(h:(w||decide (8<(n:Int)+1))=true):iU (x::r) n w=false:=by
 unfold iU
 rw[X6]
 rw[<- h,ZI.2 (by omega:8<n+1 ↔ 8<(n:Int)+1)]
theorem Wj {n:Nat}{w:Bool}(h:(w||decide (8<(n:Int)+1))=false):n+1<=8:=by
 rw[Yj,X9] at h
 omega
theorem EI {x:Str}{r:List Str}{n:Nat}{w:Bool}(h:(w||decide (8<(n:Int)+1))=false) (k:(!(x==[42]) && !labelOk x)=true):iU (x::r) n w=false:=by
 unfold iU
 rw[XZ,X6 k]
 rw[ZI.2 (by omega:8<n+1 ↔ 8<(n:Int)+1),h]
 simp
theorem EH {x:Str}{r:List Str}{n:Nat}{w:Bool}(h:(w||decide (8<(n:Int)+1))=false) (k:(!(x==[42]) && !labelOk x)=false):iU (x::r) n w=iU r (n+1) (x==[42]):=by
 conv=>lhs;unfold iU
 rw[XZ,XZ]
 .
  rw[k];simp
 rw[ZI.2 (by omega:8<n+1 ↔ 8<(n:Int)+1),h]
 simp
theorem NL:labelOk [42]=false:=by
 unfold labelOk
 rw[dS]
 rfl
theorem EG (h:Str):∀ (ys:List Str) (n:Nat) (w:Bool),iU (ys++[h]) n w=(!w&&ys.all labelOk&&(labelOk h||h==[42])&&decide (n+ys.length+1<=8))
 | [],n,w=>by
  simp only[X3,iU,List.all_nil,YF,Zv]
  cases w<;>cases h1:labelOk h<;>cases h2:(h==[42])<;>by_cases h3:n+1<=8<;>simp[h3,show ¬ 8<n+1 ↔ n+1<=8 by omega]<;>omega
 | y::ys,n,w=>by
  have ih:=EG h ys (n+1) (y==[42]);simp only[X0,iU,List.all_cons,YH];rw[ih];have e:n+1+ys.length+1=n+(ys.length+1)+1:=by omega
  rw[e]
  by_cases hs:y=[42]
  .
   subst hs;rw[NL]
   cases w<;>simp
  have hs':(y==[42])=false:=by simpa using hs
  rw[hs']
  by_cases h3:8<n+1
  .
   have h4 : ¬ n+(ys.length+1)+1<=8:=by omega
   simp[h3,h4]
  cases w<;>cases labelOk y<;>simp[h3]
theorem Xx (h:Str) (t:List Str):az (h::t).length (kS (h::t)) 0=(t.all labelOk&&(labelOk h||h==[42])):=by
 rw[Za,dL]
 simp only[kS,XW,Yd,YQ,XX,YE]
 refine⟨fun q=>⟨fun x hx=>?_,?_⟩,fun ⟨q1,q2⟩ i _ hi=>?_⟩
 .
  obtain⟨i,hi,rfl⟩:=Zd hx;have:=q (i+1) (Yo _) (by simp;omega)
  rcases this with h1|h1
  .
   simpa [hi] using h1
  omega
 .
  have:=q 0 (XY _) (by simp)
  simpa using this
 cases i with
 | zero=>simpa using q2
 | succ i =>
  have hi':i<t.length:=by simpa using hi
  exact .inl (by simpa [hi'] using q1 t[i] (Yv hi'))
theorem Ch (l:Str):nameOk l=if l=[46] then true else if 60<l.length then false else iU (ja l) 0 false:=by
 unfold nameOk
 rw[nL,<- vg]
 cases hq:splitF l with
 | nil=>exact absurd (by rw[<- vg];exact hq) (mh l)
 | cons h t =>
  rw[Xx,List.reverse_cons,EG]
  simp
theorem Rc {ps:List Str}{k:Nat}(h1:labelOk ps[k]! = false) (h2:0<k \/ ¬ ps[k]! = [42]):kS ps k=false:=by
 unfold kS
 rw[h1,Bool.false_or,YA,X9,Zy]
 rcases h2 with h|h
 .
  exact .inl om
 exact .inr h
theorem Rb {ps:List Str}{k:Nat}(h:labelOk ps[k]! = true\/(¬ 0<k/\ps[k]! = [42])):kS ps k=true:=by
 unfold kS
 rw[Yd,XW,XX,YE]
 rcases h with h|⟨h1,h2⟩
 .
  exact .inl h
 exact .inr ⟨om,h2⟩
def dH (l:Str):List Str:=if l=[46] then [] else ja l
def pl (more:Bool) (rest:Str):List Str:=if more then ja rest else []
def nQ (more:Bool) (rest:Str):Str:=if more then rest.drop (lastIx rest 46+1).toNat else []
def j6 (more:Bool) (rest:Str):Bool:=more&&decide (0<=lastIx rest 46)
def j4 (more:Bool) (rest:Str):Str:=if j6 more rest then rest.take (lastIx rest 46).toNat else rest
theorem He {rest:Str}:pl true rest=nQ true rest::pl (j6 true rest) (j4 true rest):=by
 unfold pl nQ j6 j4 j6
 rw[X6 rfl,X6 rfl,jY]
 by_cases h:lastIx rest 46<0
 .
  have : ¬ 0<=lastIx rest 46:=by omega
  simp[h,this]
 have:0<=lastIx rest 46:=by omega
 simp[h,this]
theorem QW (more:Bool) (rest:Str):(j4 more rest).length<=rest.length:=by
 unfold j4
 split
 .
  simp;omega
 exact XY _
def lq:List Str->List Str->Int
 | [],_=>-1
 | _::_,[]=>1
 | x::xs,y::ys=>if Go.Lib.compareBytes x y != 0 then Go.Lib.compareBytes x y else lq xs ys
def nmCmp (a b:Str):Int:=if a=b then 0 else lq (dH a) (dH b)
theorem dO {l:Str}(h:nameOk l=true):l.length<=60:=by
 unfold nameOk at h
 split at h
 .
  rename_i e;subst e;decide
 split at h
 .
  cases h
 omega
theorem PR (l:Str):dH l=pl (l != [46]) l:=by
 unfold dH pl
 by_cases h:l=[46]
 .
  subst h;rfl
 have:(l != [46])=true:=by simpa using h
 rw[XZ h,this];rfl
theorem Ag {more:Bool}{rest r2:Str}(h:(!more)=true):lq (ja rest) (pl more r2)=1:=by
 cases more with
 | true=>cases h
 | false=>rw[jY];rfl
theorem Lx {more:Bool}{rest r2:Str}(h:(!more)=false) (k:(Go.Lib.compareBytes (rest.drop (lastIx rest 46+1).toNat) (nQ more r2) != 0)=true):lq (ja rest) (pl more r2)=Go.Lib.compareBytes (rest.drop (lastIx rest 46+1).toNat) (nQ more r2):=by
 cases more with
 | false=>cases h
 | true=>rw[jY,He,lq,X6 k]
theorem DN {more:Bool}{rest r2:Str}(h:(!more)=false) (k:(Go.Lib.compareBytes (rest.drop (lastIx rest 46+1).toNat) (nQ more r2) != 0)=false):lq (ja rest) (pl more r2)=lq (if lastIx rest 46<0 then [] else ja (rest.take (lastIx rest 46).toNat)) (pl (j6 more r2) (j4 more r2)):=by
 cases more with
 | false=>cases h
 | true=>rw[jY,He,lq,XZ (by rw[k];simp)]
def mH:List Str->List Str->Int
 | [],[]=>0
 | [],_::_=>-1
 | _::_,[]=>1
 | x::xs,y::ys=>if Go.Op.bytesLess x y then -1 else if !(Go.Op.bytesLess x y||x==y) then 1 else mH xs ys
def nmOrd (a b:Str):Int:=mH (dH a) (dH b)
def qb (l m:List Str) (i:Nat):Int:=if i<=l.length/\i<=m.length then (if Go.Op.bytesLess l[l.length-i]! m[m.length-i]! then -1 else if !(Go.Op.bytesLess l[l.length-i]! m[m.length-i]! || l[l.length-i]! == m[m.length-i]!) then 1 else qb l m (i+1)) else if l.length<m.length then -1 else if m.length<l.length then 1 else 0
termination_by l.length+1-i
theorem rO (l m:List Str) (i:Nat):qb l m i=if i<=l.length/\i<=m.length then (if Go.Op.bytesLess l[l.length-i]! m[m.length-i]! then -1 else if !(Go.Op.bytesLess l[l.length-i]! m[m.length-i]! || l[l.length-i]! == m[m.length-i]!) then 1 else qb l m (i+1)) else if l.length<m.length then -1 else if m.length<l.length then 1 else 0:=by rw[qb]
theorem yn {l:List Str}{k:Nat}(h:k<l.length):l.reverse.drop k=l[l.length-(k+1)]! :: l.reverse.drop (k+1):=by
 rw[Yy (by simpa using h),List.getElem_reverse]
 congr 1
 have h2:l.length-1-k<l.length:=by omega
 have e:l.length-(k+1)=l.length-1-k:=by omega
 rw[e,getElem!_pos l _ h2]
theorem Hy (l m:List Str) (k:Nat) (h1:k<=l.length) (h2:k<=m.length):qb l m (k+1)=mH (l.reverse.drop k) (m.reverse.drop k):=by
 rw[rO]
 by_cases h:k+1<=l.length/\k+1<=m.length
 .
  rw[X6 h,yn (by omega:k<l.length),yn (by omega:k<m.length),mH,Hy l m (k+1) h.1 h.2]
 rw[XZ h]
 by_cases e1:k=l.length
 .
  rw[YU (by simp;omega)]
  by_cases e2:k=m.length
  .
   rw[YU (by simp;omega),XZ (by omega),XZ (by omega)];rfl
  rw[yn (by omega:k<m.length),X6 (by omega)];rfl
 have e2:k=m.length:=by omega
 have hm:m.reverse.drop k=[]:=YU (by simp;omega)
 rw[hm,yn (by omega:k<l.length),XZ (by omega),X6 (by omega)];rfl
termination_by l.length-k
theorem yN (l:Str):(partsOf l).reverse=dH l:=by
 unfold partsOf dH
 split
 .
  rfl
 rw[nL,vg]
theorem RG (a b:Str):nmOrd a b=qb (partsOf a) (partsOf b) 1:=by
 rw[Hy _ _ 0 (Yo _) (Yo _),X7,X7,yN,yN];rfl
theorem wV : ∀ a:Str,Go.Op.bytesLess a a=false
 | []=>rfl
 | c::r=>by simp[Go.Op.bytesLess,wV r]
theorem wS : ∀ a b:Str,Go.Lib.compareBytes a b=if Go.Op.bytesLess a b then -1 else if a==b then 0 else 1
 | [],[]=>rfl
 | [],_::_=>rfl
 | _::_,[]=>by simp[Go.Lib.compareBytes,Go.Op.bytesLess]
 | x::a,y::b=>by
  unfold Go.Lib.compareBytes Go.Op.bytesLess
  by_cases h1:x<y
  .
   simp[h1]
  by_cases h2:y<x
  .
   have h3 : ¬ x=y:=fun e=>by subst e;exact h1 h2
   simp[h1,h2,h3]
  have h3:x=y:=by
   apply ZH.1
   have h4 : ¬ x.toNat<y.toNat:=h1;have h5 : ¬ y.toNat<x.toNat:=h2;omega
  subst h3
  simp[h1,wS a b]
theorem LB : ∀ xs ys:List Str,xs≠ys->lq xs ys=mH xs ys
 | [],[],h=>absurd rfl h
 | [],_::_,_=>rfl
 | _::_,[],_=>rfl
 | x::xs,y::ys,h=>by
  unfold lq mH;rw[wS]
  by_cases h1:Go.Op.bytesLess x y=true
  .
   simp[h1]
  by_cases h2:x=y
  .
   subst h2
   simp[wV]
   exact LB xs ys fun e=>h (by rw[e])
  have h3:(x==y)=false:=by simpa using h2
  simp[h1,h3]
theorem Hw : ∀ xs:List Str,mH xs xs=0
 | []=>rfl
 | x::xs=>by simp[mH,wV,Hw xs]
def lT:List Str->Str
 | []=>[]
 | [p]=>p
 | p::q::r=>p++46::lT (q::r)
theorem rY : ∀ l:Str,lT (split l)=l
 | []=>rfl
 | c::r=>by
  have ih:=rY r;unfold split
  by_cases h:c=46
  .
   rw[X6 h]
   cases hs:split r with
   | nil=>exact absurd hs (mh r)
   | cons q qs=>rw[hs] at ih;rw[lT,ih,h];rfl
  rw[XZ h]
  cases hs:split r with
  | nil=>exact absurd hs (mh r)
  | cons q qs =>
   rw[hs] at ih
   cases qs with
   | nil=>simp only[lT] at ih ⊢;rw[ih]
   | cons q2 qs2=>simp only[lT] at ih ⊢;rw[<- ih];rfl
theorem Bt {a b:Str}(h:dH a=dH b):a=b:=by
 unfold dH at h
 have ne : ∀ l:Str,ja l≠[]:=fun l e=>by rw[jY] at e;cases e
 by_cases ha:a=[46]<;>by_cases hb:b=[46]
 .
  rw[ha,hb]
 .
  rw[X6 ha,XZ hb] at h;exact absurd h.symm (ne b)
 .
  rw[XZ ha,X6 hb] at h;exact absurd h (ne a)
 rw[XZ ha,XZ hb,nL,nL] at h
 rw[<- rY a,<- rY b,List.reverse_inj.1 h]
theorem Cc (a b:Str):nmCmp a b=nmOrd a b:=by
 unfold nmCmp nmOrd
 by_cases h:a=b
 .
  subst h;rw[X6 rfl,Hw]
 rw[XZ h,LB _ _ fun e=>h (Bt e)]
theorem Ho (l:Str):(∀ x∈partsOf l,x.length<=l.length)/\(partsOf l).length<=l.length+1:=by
 unfold partsOf
 split
 .
  exact⟨by simp,Yo _⟩
 exact xK l
end Go.Str
namespace Go.Rec
open Go.DL Go.Str
structure Dat where
 t:Str
 n:Int
 m:Int
 deriving Inhabited,DecidableEq
structure RSet where
 name:Str
 ty:Int
 life:Int
 data:List Dat
 deriving Inhabited,DecidableEq
structure Rule where
 text:Int
 n0:Int
 n1:Int
 m0:Int
 m1:Int
 even:Bool
 single:Bool
 wild:Bool
 deriving Inhabited,DecidableEq
def Dat.d (x:Dat):List D:=[.v (.string (bs x.t)),.i x.n,.i x.m]
def Dat.of:List D->Dat
 | [.v (.string s),.v (.int _ n),.v (.int _ m)]=>⟨s.data.toList,n,m⟩
 | _=>default
def RSet.d (x:RSet):List D:=[.v (.string (bs x.name)),.i x.ty,.i x.life,.list false (x.data.map Dat.d)]
def RSet.of:List D->RSet
 | [.v (.string s),.v (.int _ t),.v (.int _ l),.list _ rows]=>⟨s.data.toList,t,l,rows.map Dat.of⟩
 | _=>default
def Rule.d (r:Rule):List D:=[.i r.text,.i r.n0,.i r.n1,.i r.m0,.i r.m1,.b r.even,.b r.single,.b r.wild]
def Rule.of:List D->Rule
 | [.v (.int _ a),.v (.int _ b),.v (.int _ c),.v (.int _ d),.v (.int _ e),.v (.bool f),.v (.bool g),.v (.bool h)]=>⟨a,b,c,d,e,f,g,h⟩
 | _=>default
def nI {α:Type}(f:List D->α) (z:α):D->α
 | .agg cs=>f cs
 | _=>z
def um {α:Type}(f:List D->α):D->List α
 | .list _ rows=>rows.map f
 | _=>[]
def iR (n:Int):List D:=[.i n]
def ofI:List D->Int
 | [.v (.int _ n)]=>n
 | _=>0
def ints1:D->List Int:=um ofI
def dat1:D->Dat:=nI Dat.of default
def dats1:D->List Dat:=um Dat.of
def set1:D->RSet:=nI RSet.of default
def rule1:D->Rule:=nI Rule.of default
attribute [go_sem] Dat.d RSet.d Rule.d iR
theorem Ic (x:Dat):Dat.of x.d=x:=by simp[Dat.of,Dat.d,nE]
@[go_sem] theorem Zcv {f:Bool}{l:List Dat}:dats1 (.list f (l.map Dat.d))=l:=lL Ic l
@[go_sem] theorem Zcu {f:Bool}:dats1 (.list f [])=[]:=rfl
@[go_sem] theorem dat1_agg {s:ByteArray}{n m:Int}{k k':IntKind}:dat1 (.agg [.v (.string s),.v (.int k n),.v (.int k' m)])=⟨s.data.toList,n,m⟩:=rfl
@[go_sem] theorem set1_agg {s:ByteArray}{n m:Int}{k k':IntKind}{f:Bool}{rows:List (List D)}:set1 (.agg [.v (.string s),.v (.int k n),.v (.int k' m),.list f rows])=⟨s.data.toList,n,m,dats1 (.list f rows)⟩:=rfl
@[go_sem] theorem ZaA {r:Rule}:rule1 (.agg [.i r.text,.i r.n0,.i r.n1,.i r.m0,.i r.m1,.b r.even,.b r.single,.b r.wild])=r:=rfl
def inR (x lo hi:Int):Bool:=decide (lo<=x)&&decide (x<=hi)
def cmpI (x y:Int):Int:=if x<y then -1 else if y<x then 1 else 0
def lM (a b:Str):Bool:=Go.Op.bytesLess a b
def cmpS (a b:Str):Int:=if lM a b then -1 else if !(lM a b||a==b) then 1 else 0
def hasPre (s p:Str):Bool:=decide (p.length<=s.length)&&s.take p.length==p
def wildB (s:Str):Bool:=decide (0<s.length)&&decide ((s.getD 0 0).toNat=42)
theorem ru (s:Str):hasPre s [42]=wildB s:=by
 cases s with
 | nil=>rfl
 | cons c r =>
  simp only[hasPre,wildB,YH,YF,X4,Yf,List.getD_cons_zero];have h1:decide (0+1<=r.length+1)=true:=by simp
  have h2:decide (0<r.length+1)=true:=by simp
  rw[h1,h2,Zu,Zu,Za,YE,XX]
  constructor
  .
   intro h;have:=(List.cons.inj h).1;subst this;rfl
  intro h;have:c=42:=ZH.1 h;subst this;rfl
def orFrom (l:List Int) (k:Nat):Int:=if k<l.length then if l[k]! != 0 then l[k]! else orFrom l (k+1) else 0
termination_by l.length-k
theorem rP (l:List Int) (k:Nat):orFrom l k=if k<l.length then if l[k]! != 0 then l[k]! else orFrom l (k+1) else 0:=by rw[orFrom]
def kz (l:Str) (i:Nat):Bool:=jT (l.getD i 0)||decide ((l.getD i 0).toNat=32)
def freeB (l:Str):Bool:=if l.length<1 then false else if 40<l.length then false else if (l.getD 0 0).toNat=32 then false else if (l.getD (l.length-1) 0).toNat=32 then false else az l.length (kz l) 0
def less (a b:Dat):Bool:=if a.t != b.t then lM a.t b.t else if a.n != b.n then decide (a.n<b.n) else decide (a.m<b.m)
end Go.Rec
namespace Go.Cmp
open Go.Str
structure Cm {α:Type} (c:α->α->Int):Prop where
 anti : ∀ x y,c y x = - c x y
 tr : ∀ x y z,c x y<=0->c y z<=0->c x z<=0
 lo : ∀ x y, -1<=c x y
namespace Cm
variable {α : Type} {c : α -> α -> Int} (h : Cm c)
include h
theorem hi (x y:α):c x y<=1:=by have:=h.lo y x;have:=h.anti x y;omega
theorem self (x:α):c x x=0:=by have:=h.anti x x;omega
theorem lt_le {x y z:α}(a:c x y<0) (b:c y z<=0):c x z<0:=by
 have h1:=h.tr x y z (by omega) b
 by_cases e:c x z=0
 .
  have h2:=h.tr y z x b (by have:=h.anti x z;omega)
  have:=h.anti x y;omega
 omega
theorem le_lt {x y z:α}(a:c x y<=0) (b:c y z<0):c x z<0:=by
 have h1:=h.tr x y z a (by omega)
 by_cases e:c x z=0
 .
  have h2:=h.tr z x y (by have:=h.anti x z;omega) a
  have:=h.anti y z;omega
 omega
theorem eq_eq {x y z:α}(a:c x y=0) (b:c y z=0):c x z=0:=by
 have h1:=h.tr x y z (by omega) (by omega)
 have h2:=h.tr z y x (by have:=h.anti y z;omega) (by have:=h.anti x y;omega)
 have:=h.anti x z;omega
end Cm
def iV (a b:Int):Int:=if a != 0 then a else b
theorem DR {α:Type}{c d:α->α->Int}(h:Cm c) (k:Cm d):Cm fun x y=>iV (c x y) (d x y):=by
 have e : ∀ x y,iV (c x y) (d x y)=if c x y=0 then d x y else c x y:=by
  intro x y;unfold iV;by_cases q:c x y=0<;>simp[q]
 refine⟨fun x y=>?_,fun x y z=>?_,fun x y=>?_⟩
 .
  simp only[e];have:=h.anti x y;have:=k.anti x y
  split<;>split<;>omega
 .
  simp only[e];intro a b
  by_cases e1:c x y=0<;>by_cases e2:c y z=0
  .
   rw[if_pos e1] at a;rw[if_pos e2] at b;rw[if_pos (h.eq_eq e1 e2)];exact k.tr _ _ _ a b
  .
   rw[if_neg e2] at b;have:=h.le_lt (x:=x) (by omega:c x y<=0) (by omega:c y z<0)
   rw[if_neg (by omega)];omega
  .
   rw[if_neg e1] at a;have:=h.lt_le (by omega:c x y<0) (by omega:c y z<=0)
   rw[if_neg (by omega)];omega
  rw[if_neg e1] at a;rw[if_neg e2] at b;have:=h.lt_le (by omega:c x y<0) (by omega:c y z<=0)
  rw[if_neg (by omega)];omega
 simp only[e]
 have:=h.lo x y;have:=k.lo x y
 split<;>omega
theorem oZ {α β:Type}{c:β->β->Int}(h:Cm c) (f:α->β):Cm fun x y=>c (f x) (f y) :=
 ⟨fun x y=>h.anti _ _,fun x y z=>h.tr _ _ _,fun x y=>h.lo _ _⟩
def cmpI (x y:Int):Int:=if x<y then -1 else if y<x then 1 else 0
theorem Ah:Cm cmpI:=by
 refine⟨fun x y=>?_,fun x y z=>?_,fun x y=>?_⟩<;>unfold cmpI<;>(repeat' split)<;>omega
theorem cmpI_eq {x y:Int}:cmpI x y=0 ↔ x=y:=by
 unfold cmpI;(repeat' split)<;>omega
def lex {α:Type}(c:α->α->Int):List α->List α->Int
 | [],[]=>0
 | [],_::_=>-1
 | _::_,[]=>1
 | x::xs,y::ys=>iV (c x y) (lex c xs ys)
theorem gY {a b:Int}:iV a b=if a=0 then b else a:=by
 unfold iV;by_cases q:a=0<;>simp[q]
theorem LC {α:Type}{c:α->α->Int}(h:Cm c):Cm (lex c):=by
 refine⟨?_,?_,?_⟩
 .
  intro x
  induction x with
  | nil=>intro y;cases y<;>rfl
  | cons x xs ih =>
   intro y
   cases y with
   | nil=>rfl
   | cons y ys =>
    simp only[lex,gY];have:=h.anti x y;have:=ih ys
    split<;>split<;>omega
 .
  intro x
  induction x with
  | nil =>
   intro y z _ _
   cases z
   .
    simp[lex]
   simp[lex]
  | cons x xs ih =>
   intro y z a b
   cases y with
   | nil=>simp[lex] at a
   | cons y ys =>
    cases z with
    | nil=>simp[lex] at b
    | cons z zs =>
     simp only[lex,gY] at a b ⊢
     by_cases e1:c x y=0<;>by_cases e2:c y z=0
     .
      rw[if_pos e1] at a;rw[if_pos e2] at b;rw[if_pos (h.eq_eq e1 e2)];exact ih _ _ a b
     .
      rw[if_neg e2] at b;have:=h.le_lt (x:=x) (by omega:c x y<=0) (by omega:c y z<0)
      rw[if_neg (by omega)];omega
     .
      rw[if_neg e1] at a;have:=h.lt_le (by omega:c x y<0) (by omega:c y z<=0)
      rw[if_neg (by omega)];omega
     rw[if_neg e1] at a;rw[if_neg e2] at b;have:=h.lt_le (by omega:c x y<0) (by omega:c y z<=0)
     rw[if_neg (by omega)];omega
 intro x
 induction x with
 | nil=>intro y;cases y<;>simp[lex]
 | cons x xs ih =>
  intro y
  cases y with
  | nil=>simp[lex]
  | cons y ys =>
   simp only[lex,gY];have:=h.lo x y;have:=ih ys
   split<;>omega
theorem Cs {α:Type}{c:α->α->Int}(h : ∀ x y,c x y=0->x=y):∀ xs ys:List α,lex c xs ys=0->xs=ys
 | [],[],_=>rfl
 | [],_::_,e=>by simp[lex] at e
 | _::_,[],e=>by simp[lex] at e
 | x::xs,y::ys,e=>by
  simp only[lex,gY] at e
  split at e
  .
   rename_i q;rw[h _ _ q,Cs h xs ys e]
  rename_i q;exact absurd e q
def wR (x y:UInt8):Int:=cmpI x.toNat y.toNat
theorem cm_u:Cm wR:=oZ Ah fun x:UInt8=>(x.toNat:Int)
theorem Wn {x y:UInt8}(h:wR x y=0):x=y:=UInt8.toNat_inj.1 (by have:=cmpI_eq.1 h;omega)
theorem DK : ∀ a b:Str,Go.Lib.compareBytes a b=lex wR a b
 | [],[]=>rfl
 | [],_::_=>rfl
 | _::_,[]=>rfl
 | x::a,y::b=>by
  unfold Go.Lib.compareBytes lex;have ih:=DK a b;simp only[gY,wR,cmpI]
  by_cases h1:x<y
  .
   have:(x.toNat:Int)<y.toNat:=by have:x.toNat<y.toNat:=h1;omega
   simp[h1,this]
  have h1' : ¬ (x.toNat:Int)<y.toNat:=by have : ¬ x.toNat<y.toNat:=h1;omega
  by_cases h2:y<x
  .
   have:(y.toNat:Int)<x.toNat:=by have:y.toNat<x.toNat:=h2;omega
   simp[h1,h2,h1',this]
  have h2' : ¬ (y.toNat:Int)<x.toNat:=by have : ¬ y.toNat<x.toNat:=h2;omega
  simp[h1,h2,h1',h2',ih]
theorem Ai:Cm (Go.Lib.compareBytes):=by
 have:Go.Lib.compareBytes=lex wR:=by funext a b;exact DK a b
 rw[this];exact LC cm_u
theorem LM {a b:Str}(h:Go.Lib.compareBytes a b=0):a=b:=by
 rw[DK] at h;exact Cs (fun _ _=>Wn) a b h
theorem yR : ∀ xs ys:List Str,mH xs ys=lex Go.Lib.compareBytes xs ys
 | [],[]=>rfl
 | [],_::_=>rfl
 | _::_,[]=>rfl
 | x::xs,y::ys=>by
  unfold mH lex;have ih:=yR xs ys;rw[wS,gY,ih]
  by_cases h1:Go.Op.bytesLess x y=true
  .
   simp[h1]
  by_cases h2:x=y
  .
   subst h2;simp[wV]
  have h3:(x==y)=false:=by simpa using h2
  simp[h1,h3]
theorem cm_nm:Cm nmOrd:=by
 have:nmOrd=fun a b=>lex Go.Lib.compareBytes (dH a) (dH b):=by funext a b;exact yR _ _
 rw[this];exact oZ (LC Ai) dH
theorem vU {a b:Str}(h:nmOrd a b=0):a=b:=by
 unfold nmOrd at h
 rw[yR] at h
 exact Bt (Cs (fun _ _=>LM) _ _ h)
section
variable {α : Type} (c : α -> α -> Int) (m : α -> α -> α)
def ins:List α->α->List α
 | [],x=>[x]
 | y::r,x=>if c y x<0 then y::ins r x else if 0<c y x then x::y::r else m y x::r
structure Un:Prop where
 left : ∀ x y,c x y=0->c (m x y) x=0
 comm : ∀ x y,c x y=0->m x y=m y x
 swap : ∀ x y z,c x y=0->c x z=0->m (m x y) z=m (m x z) y
variable {c m}
def jA (c:α->α->Int) (l:List α):Prop:=l.Pairwise fun x y=>c x y<0
end
end Go.Cmp
namespace Go.Rec
open Go.DL Go.Str Go.Cmp
def d9 (k:Nat):Rule:=match k with
 | 1=>⟨0,1,1000000,0,0,false,false,true⟩
 | 2=>⟨1,0,0,0,0,false,false,false⟩
 | 3=>⟨1,0,0,0,0,false,true,false⟩
 | 4=>⟨0,0,65535,0,100000,false,true,false⟩
 | 5=>⟨3,0,0,0,0,false,false,true⟩
 | 6=>⟨0,1,1000000,1,3,false,false,false⟩
 | 7=>⟨0,1,1000000,1,3,false,false,false⟩
 | 8=>⟨2,2,510,0,0,true,false,true⟩
 | _=>⟨0,0,0,0,0,false,false,false⟩
def pM (k:Int) (t:Str):Bool:=if k=1 then nameOk t && !wildB t else if k=2 then nameOk t else if k=3 then freeB t else t==[]
def datOk (r:Rule) (d:Dat):Bool:=inR d.n r.n0 r.n1&&inR d.m r.m0 r.m1 && !(r.even&&d.n % 2 != 0)&&pM r.text d.t
def rDatOk (k:Int) (d:Dat):Bool :=
 if k=1 then d.t==[]&&inR d.n 1 1000000&&d.m==0
 else if k=2\/k=3 then nameOk d.t && !wildB d.t&&d.n==0&&d.m==0
 else if k=4 then d.t==[]&&inR d.n 0 65535&&inR d.m 0 100000
 else if k=5 then freeB d.t&&d.n==0&&d.m==0
 else if k=6\/k=7 then d.t==[]&&inR d.n 1 1000000&&inR d.m 1 3
 else if k=8 then nameOk d.t&&inR d.n 2 510&&d.n % 2==0&&d.m==0
 else false
theorem TZ (n:Int):inR n 0 0=(n==0):=by
 unfold inR
 rw[Za,XW,XX,XX,YE]
 omega
theorem inR_iff {n a b:Int}:inR n a b=true ↔ a<=n/\n<=b:=by
 unfold inR
 rw[XW,XX,XX]
theorem kinds {k:Int}(h:inR k 1 8=true):k=1\/k=2\/k=3\/k=4\/k=5\/k=6\/k=7\/k=8:=by
 have:=inR_iff.1 h
 omega
theorem Lg {k:Int}(h:inR k 1 8=true) (d:Dat):rDatOk k d=datOk (d9 k.toNat) d:=by
 rw[Za]
 rcases kinds h with h|h|h|h|h|h|h|h<;>subst h<;>simp[rDatOk,datOk,d9,pM,TZ]<;>constructor<;>intro q<;>simp_all
def singleB (k:Int):Bool:=decide (k=3)||decide (k=4)
theorem Fh {k:Int}(h:inR k 1 8=true):singleB k=(d9 k.toNat).single:=by
 rcases kinds h with h|h|h|h|h|h|h|h<;>subst h<;>rfl
theorem MV {k:Int}(h:inR k 1 8=true):(k != 1&&k != 5&&k != 8) = !(d9 k.toNat).wild:=by
 rcases kinds h with h|h|h|h|h|h|h|h<;>subst h<;>rfl
def datC (a b:Dat):Int:=iV (Go.Lib.compareBytes a.t b.t) (iV (Go.Cmp.cmpI a.n b.n) (Go.Cmp.cmpI a.m b.m))
theorem cm_dat:Cm datC:=DR (oZ Ai Dat.t) (DR (oZ Ah Dat.n) (oZ Ah Dat.m))
theorem IQ (a b:Dat):less a b=decide (datC a b<0):=by
 unfold less datC lM
 rw[gY,gY,wS]
 by_cases h1:a.t=b.t
 .
  rw[h1]
  simp[wV]
  by_cases h2:a.n=b.n
  .
   rw[h2];simp[Go.Cmp.cmpI]
   by_cases h3:a.m<b.m
   .
    simp[h3]
   simp[h3];split<;>omega
  simp[h2,Go.Cmp.cmpI]
  by_cases h3:a.n<b.n
  .
   simp[h3]
  have:b.n<a.n:=by omega
  simp[h3,this]
 have h2:(a.t==b.t)=false:=by simpa using h1
 simp[h1,h2]
 cases h3:Go.Op.bytesLess a.t b.t<;>simp
theorem Wo (a b:Str):cmpS a b=Go.Lib.compareBytes a b:=by
 rw[wS]
 unfold cmpS lM
 by_cases h:Go.Op.bytesLess a b=true
 .
  simp[h]
 cases h2:(a==b)<;>simp[h]
theorem Rp (a b c:Int):orFrom [a,b,c] 0=if a != 0 then a else if b != 0 then b else if c != 0 then c else 0:=by
 rw[rP,rP _ (0+1),rP _ (0+1+1),rP _ (0+1+1+1)]
 simp
theorem Ro (a b:Dat):orFrom [cmpS a.t b.t,cmpI a.n b.n,cmpI a.m b.m] 0=datC a b:=by
 rw[Rp,Wo]
 unfold datC iV
 show (if _ then _ else if _ then _ else if Go.Cmp.cmpI a.m b.m != 0 then Go.Cmp.cmpI a.m b.m else 0)=_
 by_cases h:Go.Cmp.cmpI a.m b.m=0
 .
  simp[h];rfl
 simp[h];rfl
def iN (k:Nat) (l:List Dat) (i:Nat):Bool:=datOk (d9 k) l[i]! && (decide (i=0)||decide (datC l[i-1]! l[i]! < 0))
def setOk (s:RSet):Bool:=nameOk s.name&&inR s.ty 1 8&&inR s.life 0 100000&&inR s.data.length 1 8 && !((d9 s.ty.toNat).single&&(s.data.length:Int) != 1) && !(wildB s.name && !(d9 s.ty.toNat).wild)&&az s.data.length (iN s.ty.toNat s.data) 0
structure pE (s:RSet):Prop where
 name:nameOk s.name=true
 ty:inR s.ty 1 8=true
 life:inR s.life 0 100000=true
 len:1<=s.data.length/\s.data.length<=8
 single:(d9 s.ty.toNat).single=true->s.data.length=1
 wild:wildB s.name=true->(d9 s.ty.toNat).wild=true
 dat : ∀ d∈s.data,datOk (d9 s.ty.toNat) d=true
 sorted:jA datC s.data
theorem Nw {l:List Dat}(h : ∀ i,0<i->i<l.length->datC l[i-1]! l[i]! < 0):jA datC l:=by
 induction l with
 | nil=>exact .nil
 | cons x r ih =>
  have ih:=ih fun i h1 h2=>by
   have:=h (i+1) om (by simp;omega)
   obtain⟨j,rfl⟩:∃ j,i=j+1:=⟨i-1,om⟩
   simpa using this
  refine Y2.2 ⟨fun y hy=>?_,ih⟩
  cases r with
  | nil=>cases hy
  | cons z r =>
   have hxz:datC x z<0:=by simpa using h 1 om (by simp)
   rcases YK.1 hy with e|e
   .
    subst e;exact hxz
   have:=(Y2.1 ih).1 y e;exact cm_dat.lt_le hxz om
theorem Xh {l:List Dat}(h:jA datC l) {i j:Nat}(h1:i<j) (h2:j<l.length):datC l[i]! l[j]! < 0:=by
 rw[getElem!_pos l i (by omega),getElem!_pos l j h2]
 exact ZM.1 h i j om h2 h1
theorem eT (s:RSet):setOk s=true ↔ pE s:=by
 unfold setOk
 simp only[XW,Ye,YA,Zx,Yw,dL]
 constructor
 .
  rintro⟨⟨⟨⟨⟨⟨h1,h2⟩,h3⟩,h4⟩,h5⟩,h6⟩,h7⟩;have h4:=inR_iff.1 h4;have hd : ∀ i,i<s.data.length->datOk (d9 s.ty.toNat) s.data[i]! = true:=fun i hi=>by
   have:=h7 i (Yo _) hi;unfold iN at this;exact (XW _ _ ▸ this).1
  refine⟨h1,h2,h3,om,fun q=>?_,fun q=>?_,fun d hd'=>?_,Nw fun i hi hl=>?_⟩
  .
   rcases h5 with h|h
   .
    rw[q] at h;cases h
   omega
  .
   rcases h6 with h|h
   .
    rw[q] at h;cases h
   exact h
  .
   obtain⟨i,hi,rfl⟩:=Zd hd';have:=hd i hi;rwa [getElem!_pos s.data i hi] at this
  have:=h7 i (Yo _) hl;unfold iN at this;rw[XW,Yd,XX,XX] at this;exact this.2.resolve_left om
 intro ⟨h1,h2,h3,h4,h5,h6,h7,h8⟩
 refine⟨⟨⟨⟨⟨⟨h1,h2⟩,h3⟩,inR_iff.2 om⟩,?_⟩,?_⟩,fun i _ hi=>?_⟩
 .
  by_cases q:(d9 s.ty.toNat).single=true
  .
   right;have:=h5 q;omega
  left;simpa using q
 .
  by_cases q:wildB s.name=true
  .
   right;exact h6 q
  left;simpa using q
 unfold iN
 rw[XW,Yd,XX,XX]
 refine⟨by rw[getElem!_pos s.data i hi];exact h7 _ (Yv _),?_⟩
 by_cases e:i=0
 .
  exact .inl e
 exact .inr (Xh h8 om hi)
instance (s:RSet):Decidable (pE s):=decidable_of_iff _ (eT s)
def qh (a b:Str):Int:=if nameOk a&&nameOk b then nmCmp a b else 0
def plC (a b:RSet):Int:=if a.name=b.name then cmpI a.ty b.ty else qh a.name b.name
def rOrd (a b:RSet):Int:=iV (qh a.name b.name) (cmpI a.ty b.ty)
def nP (a b:RSet):Int:=iV (nmOrd a.name b.name) (cmpI a.ty b.ty)
theorem Wv:Cm nP:=DR (oZ cm_nm RSet.name) (oZ Ah RSet.ty)
theorem QT {a b:RSet}:nP a b=0 ↔ a.name=b.name/\a.ty=b.ty:=by
 unfold nP
 rw[gY]
 constructor
 .
  intro h
  split at h
  .
   exact⟨vU ‹_›,cmpI_eq.1 h⟩
  exact absurd h ‹_›
 rintro⟨h1,h2⟩
 rw[h1,h2,X6 (cm_nm.self _)]
 exact cmpI_eq.2 rfl
theorem QX {a b:RSet}(ha:nameOk a.name=true) (hb:nameOk b.name=true):plC a b=nP a b:=by
 unfold plC nP qh
 rw[ha,hb,gY]
 by_cases h:a.name=b.name
 .
  rw[X6 h,h,X6 (cm_nm.self _)]
 rw[XZ h,XZ (fun e=>h (vU e)),Cc];rfl
theorem Gv {a b:RSet}(ha:nameOk a.name=true) (hb:nameOk b.name=true):rOrd a b=nP a b:=by
 unfold rOrd nP qh
 rw[ha,hb,Cc];rfl
def uN (n:Int):Nat:=(n % 18446744073709551616).toNat
def dG (u sh:Nat):UInt8:=UInt8.ofNat (u / 2^sh)
def ak (n:Int):Str:=[dG (uN n) 56,dG (uN n) 48,dG (uN n) 40,dG (uN n) 32,dG (uN n) 24,dG (uN n) 16,dG (uN n) 8,dG (uN n) 0]
theorem aX (n:Int):(ak n).length=8:=rfl
theorem nK (n:Int):uN n<18446744073709551616:=by unfold uN;omega
def dz (n:Nat) (c:UInt8):Nat:=(n*256+c.toNat) % 18446744073709551616
def cB (l:Str):Nat:=l.foldl dz 0
def sN (n:Nat):Int:=IntKind.i64.wrap (n:Int)
def numOf (l:Str):Int:=sN (cB l)
theorem wW (u sh:Nat):(dG u sh).toNat=u / 2^sh % 256:=by simp[dG]
theorem Ii : ∀ l:Str,cB l<18446744073709551616:=by
 intro l
 unfold cB
 rcases List.eq_nil_or_concat l with e|⟨p,z,e⟩
 .
  subst e;decide
 rw[e,List.concat_eq_append,Zc,YO,ZG]
 unfold dz
 omega
theorem Na {u:Nat}(h:u<18446744073709551616):uN (sN u)=u:=by
 unfold uN sN
 rw[IntKind.wrap_i64]
 omega
theorem DY {l:Str}(h:l.length=8):ak (numOf l)=l:=by
 unfold numOf ak
 rw[Na (Ii l)]
 match l,h with
 | [c0,c1,c2,c3,c4,c5,c6,c7],_ =>
  have h0:=c0.toNat_lt;have h1:=c1.toNat_lt;have h2:=c2.toNat_lt;have h3:=c3.toNat_lt;have h4:=c4.toNat_lt;have h5:=c5.toNat_lt;have h6:=c6.toNat_lt;have h7:=c7.toNat_lt;have e:cB [c0,c1,c2,c3,c4,c5,c6,c7]=((((((c0.toNat*256+c1.toNat)*256+c2.toNat)*256+c3.toNat)*256+c4.toNat)*256+c5.toNat)*256+c6.toNat)*256+c7.toNat:=by
   simp only[cB,YO,ZG,dz];omega
  have k : ∀ (s:Nat) (c:UInt8),cB [c0,c1,c2,c3,c4,c5,c6,c7] / 2^s % 256=c.toNat->dG (cB [c0,c1,c2,c3,c4,c5,c6,c7]) s=c:=fun s c q=>ZH.1 (by rw[wW];exact q)
  rw[k 56 c0 (by rw[e];omega),k 48 c1 (by rw[e];omega),k 40 c2 (by rw[e];omega),k 32 c3 (by rw[e];omega),k 24 c4 (by rw[e];omega),k 16 c5 (by rw[e];omega),k 8 c6 (by rw[e];omega),k 0 c7 (by rw[e];omega)]
def bM (n:Nat):UInt8:=UInt8.ofNat n
def ay (t:Str):Str:=bM t.length::t
def jq (d:Dat):Str:=ay d.t++ak d.n++ak d.m
def setB (s:RSet):Str:=ay s.name++ak s.ty++ak s.life++bM s.data.length::s.data.flatMap jq
abbrev RS:=Str×Bool
def aH (n:Int) (st:RS):Str×RS:=if st.2||decide ((st.1.length:Int)<n) then ([],(st.1,true)) else (st.1.take n.toNat,(st.1.drop n.toNat,false))
def aW (st:RS):Nat×RS:=(if (aH 1 st).1.length=1 then ((aH 1 st).1.getD 0 0).toNat else 0,(aH 1 st).2)
def aP (st:RS):Str×RS:=aH (aW st).1 (aW st).2
def aA (st:RS):Int×RS:=(numOf (aH 8 st).1,(aH 8 st).2)
def bW (st:RS):Dat×RS:=(⟨(aP st).1,(aA (aP st).2).1,(aA (aA (aP st).2).2).1⟩,(aA (aA (aP st).2).2).2)
def dJ:Nat->List Dat->RS->List Dat×RS
 | 0,out,st=>(out,st)
 | k+1,out,st=>if (bW st).2.2 then (out,(bW st).2) else dJ k (out++[(bW st).1]) (bW st).2
def gy (st:RS):RSet×RS :=
 let a:=aP st
 let b:=aA a.2
 let c:=aA b.2
 let n:=aW c.2
 let d:=dJ n.1 [] n.2
 (⟨a.1,b.1,c.1,d.1⟩,d.2)
def yY:RSet:=⟨[],0,0,[]⟩
def readF (x:Str):RSet×Int:=if (gy (x,false)).2.2||decide (0<(gy (x,false)).2.1.length) || !setOk (gy (x,false)).1 then (yY,10) else ((gy (x,false)).1,0)
abbrev RT:=Nat×Bool
def bz (b:Str) (st:RT):UInt8×RT:=if b.length<=st.1 then (0,(st.1,true)) else (b.getD st.1 0,(st.1+1,st.2))
def jI (b:Str):Nat->Str->RT->Str×RT
 | 0,s,st=>(s,st)
 | k+1,s,st=>if st.2 then (s,st) else jI b k (s++[(bz b st).1]) (bz b st).2
def bL (b:Str) (st:RT):Str×RT:=jI b (bz b st).1.toNat [] (bz b st).2
def jJ (b:Str):Nat->Nat->RT->Nat×RT
 | 0,n,st=>(n,st)
 | k+1,n,st=>jJ b k (dz n (bz b st).1) (bz b st).2
def bG (b:Str) (st:RT):Int×RT:=(sN (jJ b 8 0 st).1,(jJ b 8 0 st).2)
def gZ (b:Str) (st:RT):Dat×RT:=(⟨(bL b st).1,(bG b (bL b st).2).1,(bG b (bG b (bL b st).2).2).1⟩,(bG b (bG b (bL b st).2).2).2)
def jd (b:Str):Nat->List Dat->RT->List Dat×RT
 | 0,out,st=>(out,st)
 | k+1,out,st=>if st.2 then (out,st) else jd b k (out++[(gZ b st).1]) (gZ b st).2
def jc (b:Str) (st:RT):RSet×RT :=
 let a:=bL b st
 let t:=bG b a.2
 let c:=bG b t.2
 let n:=bz b c.2
 let d:=jd b n.1.toNat [] n.2
 (⟨a.1,t.1,c.1,d.1⟩,d.2)
def yz (x:Str):RSet×Int:=if (jc x (0,false)).2.2||decide ((jc x (0,false)).2.1≠x.length) || !setOk (jc x (0,false)).1 then (yY,10) else ((jc x (0,false)).1,0)
def Alike (b:Str) (s:RS) (t:RT):Prop:=t.1<=b.length/\((s.2=false/\t.2=false/\s.1=b.drop t.1)\/(s.2=true/\t.2=true))
theorem Mq {b:Str}{s:RS}{t:RT}(h:Alike b s t):Alike b (aW s).2 (bz b t).2/\((aW s).2.2=false->(aW s).1=(bz b t).1.toNat):=by
 obtain⟨h0,⟨h1,h2,h3⟩|⟨h1,h2⟩⟩:=h
 .
  unfold aW aH bz;rw[h1,h3,Bool.false_or]
  by_cases h:b.length<=t.1
  .
   have e:(b.drop t.1).length=0:=by simp;omega
   rw[X6 h,e];exact⟨⟨h0,.inr ⟨rfl,rfl⟩⟩,fun q=>by cases q⟩
  have e : ¬ ((b.drop t.1).length:Int)<1:=by simp;omega
  rw[XZ h,Y6 e];have e1:((b.drop t.1).take 1).length=1:=by simp;omega
  refine⟨⟨by show t.1+1<=_;omega,.inl ⟨rfl,h2,by show ((b.drop t.1).drop 1)=b.drop (t.1+1);rw[Zt]⟩⟩,fun _=>?_⟩
  show (if ((b.drop t.1).take 1).length=1 then (((b.drop t.1).take 1).getD 0 0).toNat else 0)=(b.getD t.1 0).toNat
  rw[X6 e1]
  congr 1
  simp[List.getD,YY]
 unfold aW aH bz
 rw[h1,Bool.true_or]
 refine⟨?_,fun q=>by cases q⟩
 by_cases h:b.length<=t.1
 .
  rw[X6 h];exact⟨h0,.inr ⟨rfl,rfl⟩⟩
 rw[XZ h];exact⟨by show t.1+1<=_;omega,.inr ⟨rfl,h2⟩⟩
theorem iW {st:RS}{n:Nat}(h1:st.2=false) (h2:n<=st.1.length):aH n st=(st.1.take n,(st.1.drop n,false)):=by
 unfold aH
 rw[h1,Bool.false_or,Y6 (by omega)]
 rfl
theorem gq {st:RS}{n:Int}(h:st.2=true\/(st.1.length:Int)<n):aH n st=([],(st.1,true)):=by
 unfold aH
 have:(st.2||decide ((st.1.length:Int)<n))=true:=by rw[Yd,XX];exact h
 rw[this];rfl
theorem AC {b:Str}:∀ (k:Nat) (s:Str) (t:RT),t.2=true->jI b k s t=(s,t)
 | 0,_,_,_=>rfl
 | k+1,s,t,h=>by unfold jI;rw[X6 h]
theorem Cf {b:Str}{t:RT}(h:t.1<b.length):bz b t=(b.getD t.1 0,(t.1+1,t.2)):=by unfold bz;rw[XZ (by omega)]
theorem Ce {b:Str}{t:RT}(h:b.length<=t.1):bz b t=(0,(t.1,true)):=by unfold bz;rw[X6 h]
theorem Ez {b:Str}:∀ (k:Nat) (s:Str) (t:RT),t.2=false->t.1<=b.length->(t.1+k<=b.length->jI b k s t=(s++(b.drop t.1).take k,(t.1+k,false)))/\(b.length<t.1+k->(jI b k s t).2.2=true/\(jI b k s t).2.1<=b.length)
 | 0,s,t,h,h2=>⟨fun _=>by unfold jI;simp[<- h],fun q=>by omega⟩
 | k+1,s,t,h,h2=>by
  unfold jI;rw[XZ (by rw[h];simp)]
  by_cases q:t.1<b.length
  .
   rw[Cf q];obtain⟨i1,i2⟩:=Ez (b:=b) k (s++[b.getD t.1 0]) (t.1+1,t.2) h (by show t.1+1<=_;omega)
   refine⟨fun p=>?_,fun p=>i2 (by show b.length<t.1+1+k;omega)⟩
   rw[i1 (by show t.1+1+k<=_;omega)]
   have e:(b.drop t.1).take (k+1)=b.getD t.1 0::(b.drop (t.1+1)).take k:=by
    rw[Yy q,X4]
    congr 1
    simp[List.getD,q]
   rw[e];refine Prod.ext (by simp) (Prod.ext (by show t.1+1+k=t.1+(k+1);omega) rfl)
  rw[Ce (by omega),AC k _ _ rfl]
  exact⟨fun p=>by omega,fun _=>⟨rfl,h2⟩⟩
theorem Mo {b:Str}{s:RS}{t:RT}(h:Alike b s t):Alike b (aP s).2 (bL b t).2/\((aP s).2.2=false->(aP s).1=(bL b t).1):=by
 obtain⟨h1,h2⟩:=Mq h
 unfold aP bL
 obtain⟨h0,⟨k1,k2,k3⟩|⟨k1,k2⟩⟩:=h1
 .
  rw[h2 k1];obtain⟨i1,i2⟩:=Ez (b:=b) (bz b t).1.toNat [] (bz b t).2 k2 h0;have hl:(aW s).2.1.length=b.length-(bz b t).2.1:=by rw[k3];simp
  by_cases q:(bz b t).2.1+(bz b t).1.toNat<=b.length
  .
   rw[i1 q,iW k1 (by omega)]
   exact⟨⟨q,.inl ⟨rfl,rfl,by show (aW s).2.1.drop _=_;rw[k3,Zt]⟩⟩,fun _=>by show (aW s).2.1.take _=_;rw[k3];rfl⟩
  rw[gq (.inr (by omega))]
  obtain⟨j1,j2⟩:=i2 om;exact⟨⟨j2,.inr ⟨rfl,j1⟩⟩,fun q=>by cases q⟩
 rw[gq (.inl k1),AC _ _ _ k2]
 exact⟨⟨h0,.inr ⟨rfl,k2⟩⟩,fun q=>by cases q⟩
theorem val_ok {b:Str}:∀ (k n:Nat) (t:RT),t.1<=b.length->(jJ b k n t).2.1<=b.length/\(t.2=true->(jJ b k n t).2.2=true)/\(t.2=false->(t.1+k<=b.length->jJ b k n t=(((b.drop t.1).take k).foldl dz n,(t.1+k,false)))/\(b.length<t.1+k->(jJ b k n t).2.2=true))
 | 0,n,t,h=>⟨h,fun q=>q,fun q=>⟨fun _=>by unfold jJ;simp[<- q],fun p=>by omega⟩⟩
 | k+1,n,t,h=>by
  unfold jJ
  by_cases q:t.1<b.length
  .
   rw[Cf q];obtain⟨i1,i2,i3⟩:=val_ok (b:=b) k (dz n (b.getD t.1 0)) (t.1+1,t.2) (by show t.1+1<=_;omega)
   refine⟨i1,i2,fun e=>⟨fun p=>?_,fun p=>(i3 e).2 (by show b.length<t.1+1+k;omega)⟩⟩
   rw[(i3 e).1 (by show t.1+1+k<=_;omega)]
   have e:(b.drop t.1).take (k+1)=b.getD t.1 0::(b.drop (t.1+1)).take k:=by
    rw[Yy q,X4]
    congr 1
    simp[List.getD,q]
   rw[e];refine Prod.ext rfl (Prod.ext (by show t.1+1+k=t.1+(k+1);omega) rfl)
  rw[Ce (by omega)]
  obtain⟨i1,i2,i3⟩:=val_ok (b:=b) k (dz n 0) (t.1,true) h;exact⟨i1,fun _=>i2 rfl,fun e=>⟨fun p=>by omega,fun _=>i2 rfl⟩⟩
theorem Ar {b:Str}{s:RS}{t:RT}(h:Alike b s t):Alike b (aA s).2 (bG b t).2/\((aA s).2.2=false->(aA s).1=(bG b t).1):=by
 unfold aA bG
 have hh:=h.1
 obtain⟨i1,i2,i3⟩:=val_ok (b:=b) 8 0 t hh
 obtain⟨h0,⟨k1,k2,k3⟩|⟨k1,k2⟩⟩:=h
 .
  have hl:s.1.length=b.length-t.1:=by rw[k3];simp
  by_cases q:t.1+8<=b.length
  .
   have e:=iW (n:=8) k1 (by omega)
   rw[show ((8:Nat):Int)=8 from rfl] at e
   rw[(i3 k2).1 q,e];exact⟨⟨q,.inl ⟨rfl,rfl,by show s.1.drop 8=_;rw[k3,Zt]⟩⟩,fun _=>by show numOf (s.1.take 8)=_;rw[k3];rfl⟩
  rw[gq (.inr (by omega))]
  exact⟨⟨i1,.inr ⟨rfl,(i3 k2).2 om⟩⟩,fun q=>by cases q⟩
 rw[gq (.inl k1)]
 exact⟨⟨i1,.inr ⟨rfl,i2 k2⟩⟩,fun q=>by cases q⟩
theorem A8 {n:Int}{s:RS}(h:s.2=true):(aH n s).2.2=true:=by rw[gq (.inl h)]
theorem BZ {s:RS}(h:s.2=true):(aA s).2.2=true:=A8 h
theorem Ls {s:RS}(h:s.2=true):(aW s).2.2=true:=A8 h
theorem Nh {s:RS}(h:s.2=true):(aP s).2.2=true:=A8 (Ls h)
theorem qf {s:RS}(h:(aA s).2.2=false):s.2=false:=by
 cases q:s.2 with
 | false=>rfl
 | true=>rw[BZ q] at h;cases h
theorem H7 {s:RS}(h:(aW s).2.2=false):s.2=false:=by
 cases q:s.2 with
 | false=>rfl
 | true=>rw[Ls q] at h;cases h
theorem XB {b:Str}{s:RS}{t:RT}(h:Alike b s t):Alike b (bW s).2 (gZ b t).2/\((bW s).2.2=false->(bW s).1=(gZ b t).1):=by
 obtain⟨a1,a2⟩:=Mo h
 obtain⟨b1,b2⟩:=Ar a1
 obtain⟨c1,c2⟩:=Ar b1
 unfold bW gZ
 refine⟨c1,fun q=>?_⟩
 have q1:=qf q
 have q2:=qf q1
 show Dat.mk _ _ _=Dat.mk _ _ _
 rw[a2 q2,b2 q1,c2 q]
theorem D8 {b:Str}{s:RS}{t:RT}(h:Alike b s t):s.2=t.2:=by
 obtain⟨_,⟨k1,k2,_⟩|⟨k1,k2⟩⟩:=h<;>rw[k1,k2]
theorem Ld : ∀ (k:Nat) (out:List Dat) (s:RS),s.2=true->(dJ k out s).2.2=true
 | 0,_,_,h=>h
 | k+1,out,s,h=>by
  unfold dJ;have:(bW s).2.2=true:=BZ (BZ (Nh h));rw[X6 this];exact this
theorem Bz {b:Str}:∀ (k:Nat) (out:List Dat) (t:RT),t.2=true->jd b k out t=(out,t)
 | 0,_,_,_=>rfl
 | k+1,out,t,h=>by unfold jd;rw[X6 h]
theorem Mr {b:Str}:∀ (k:Nat) (out:List Dat) (s:RS) (t:RT),Alike b s t->s.2=false->Alike b (dJ k out s).2 (jd b k out t).2/\((dJ k out s).2.2=false->(dJ k out s).1=(jd b k out t).1)
 | 0,out,s,t,h,_=>⟨h,fun _=>rfl⟩
 | k+1,out,s,t,h,hs=>by
  obtain⟨a1,a2⟩:=XB h;have ht:t.2=false:=by rw[<- D8 h,hs]
  have er:jd b (k+1) out t=jd b k (out++[(gZ b t).1]) (gZ b t).2:=by rw[jd,XZ (by rw[ht];simp)]
  rw[er]
  cases q:(bW s).2.2 with
  | true =>
   have ep:dJ (k+1) out s=(out,(bW s).2):=by rw[dJ,X6 q]
   rw[ep,Bz k _ _ (by rw[<- D8 a1,q])]
   exact⟨a1,fun q'=>by rw[show (out,(bW s).2).2.2=(bW s).2.2 from rfl,q] at q';cases q'⟩
  | false =>
   have ep:dJ (k+1) out s=dJ k (out++[(bW s).1]) (bW s).2:=by rw[dJ,XZ (by rw[q];simp)]
   rw[ep,a2 q];exact Mr k _ _ _ a1 q
theorem XA {b:Str}{s:RS}{t:RT}(h:Alike b s t):Alike b (gy s).2 (jc b t).2/\((gy s).2.2=false->(gy s).1=(jc b t).1):=by
 obtain⟨a1,a2⟩:=Mo h
 obtain⟨b1,b2⟩:=Ar a1
 obtain⟨c1,c2⟩:=Ar b1
 obtain⟨d1,d2⟩:=Mq c1
 cases q:(aW (aA (aA (aP s).2).2).2).2.2 with
 | false =>
  have q3:=H7 q;have q2:=qf q3;have q1:=qf q2;obtain⟨e1,e2⟩:=Mr (aW (aA (aA (aP s).2).2).2).1 [] _ _ d1 q;have e:=d2 q;rw[e] at e1 e2;refine⟨?_,fun q'=>?_⟩
  .
   simp only[gy,jc];rw[e];exact e1
  simp only[gy,jc] at q' ⊢;rw[e] at q' ⊢;rw[a2 q1,b2 q2,c2 q3,e2 q']
 | true =>
  have h1:=Ld (aW (aA (aA (aP s).2).2).2).1 [] _ q;have h2:(bz b (bG b (bG b (bL b t).2).2).2).2.2=true:=by rw[<- D8 d1,q]
  simp only[gy,jc];rw[Bz _ [] _ h2,h1];exact⟨⟨d1.1,.inr ⟨h1,h2⟩⟩,fun q'=>by cases q'⟩
theorem Gp (x:Str):yz x=readF x:=by
 obtain⟨h0,h1⟩:=XA (b:=x) (s:=(x,false)) (t:=(0,false)) ⟨Yo _,.inl ⟨rfl,rfl,rfl⟩⟩
 unfold yz readF
 rcases h0 with⟨k0,⟨k1,k2,k3⟩|⟨k1,k2⟩⟩
 .
  rw[k1,k2,h1 k1,k3];have:decide ((jc x (0,false)).2.1≠x.length)=decide (0<(x.drop (jc x (0,false)).2.1).length):=ZI.2 (by simp;omega)
  rw[this]
 rw[k1,k2];rfl
def i64 (n:Int):Prop:=-9223372036854775808<=n/\n<=9223372036854775807
structure xg (d:Dat):Prop where
 t:d.t.length<=255
 n:i64 d.n
 m:i64 d.m
structure XI (s:RSet):Prop where
 name:s.name.length<=255
 ty:i64 s.ty
 life:i64 s.life
 len:s.data.length<=255
 dat : ∀ d∈s.data,xg d
theorem RA (l:Str):i64 (numOf l):=by
 unfold i64 numOf sN
 rw[IntKind.wrap_i64]
 omega
theorem SA {n:Nat}(h:n<=255):(bM n).toNat=n:=by
 unfold bM
 simp
 omega
theorem IR (c:UInt8):bM c.toNat=c:=by
 apply ZH.1
 rw[SA (by have:=c.toNat_lt;omega)]
theorem count_cons (c:UInt8) (r:Str):aW (c::r,false)=(c.toNat,(r,false)):=by
 have e:=iW (st:=(c::r,false)) (n:=1) rfl (by simp)
 rw[show ((1:Nat):Int)=1 from rfl] at e
 unfold aW
 rw[e]
 rfl
theorem xD {n:Nat}{s:RS}(h:(aH n s).2.2=false):s.2=false/\n<=s.1.length:=by
 by_cases q:s.2=true\/(s.1.length:Int)<n
 .
  rw[gq q] at h;cases h
 have : ¬ s.2=true /\ ¬ (s.1.length:Int)<n:=not_or.1 q
 exact⟨by simpa using this.1,om⟩
theorem Lp {s:RS}(h:(aW s).2.2=false):∃ c r,s=(c::r,false)/\aW s=(c.toNat,(r,false)):=by
 obtain⟨h1,h2⟩:=xD (n:=1) (s:=s) h
 obtain⟨l,b⟩:=s
 simp only at h1 h2
 subst h1
 cases l with
 | nil=>simp at h2
 | cons c r=>exact⟨c,r,rfl,count_cons c r⟩
theorem ER {s:RS}(h:(aP s).2.2=false):s.1=ay (aP s).1++(aP s).2.1/\(aP s).1.length<=255:=by
 have hc:(aW s).2.2=false:=(xD (n:=(aW s).1) (s:=(aW s).2) h).1
 obtain⟨c,r,rfl,e⟩:=Lp hc
 have hl:=(xD (n:=(aW (c::r,false)).1) (s:=(aW (c::r,false)).2) h).2
 unfold aP
 rw[e] at hl ⊢
 have hl:c.toNat<=r.length:=hl
 have e2:aH (((c.toNat,(r,false)):Nat×RS).1:Nat) ((c.toNat,(r,false)):Nat×RS).2=(r.take c.toNat,(r.drop c.toNat,false)):=iW (st:=(r,false)) rfl hl
 rw[e2]
 have hcl:=c.toNat_lt
 refine⟨?_,by show (r.take c.toNat).length<=255;simp;omega⟩
 show c::r=bM (r.take c.toNat).length::r.take c.toNat++r.drop c.toNat
 have:(r.take c.toNat).length=c.toNat:=by simp;omega
 rw[this,IR]
 simp
theorem yX {s:RS}(h:(aA s).2.2=false):s.1=ak (aA s).1++(aA s).2.1/\i64 (aA s).1:=by
 obtain⟨h1,h2⟩:=xD (n:=8) (s:=s) h
 have e:=iW (n:=8) h1 h2
 rw[show ((8:Nat):Int)=8 from rfl] at e
 unfold aA
 rw[e]
 refine⟨?_,RA _⟩
 show s.1=ak (numOf (s.1.take 8))++s.1.drop 8
 rw[DY (by simp;omega),Zm]
theorem VZ {s:RS}(h:(bW s).2.2=false):s.1=jq (bW s).1++(bW s).2.1/\xg (bW s).1:=by
 have q1:(aA (aP s).2).2.2=false:=qf h
 have q2:=qf q1
 obtain⟨a1,a2⟩:=ER q2
 obtain⟨b1,b2⟩:=yX q1
 obtain⟨c1,c2⟩:=yX (s:=(aA (aP s).2).2) h
 refine⟨?_,⟨a2,b2,c2⟩⟩
 unfold bW jq
 rw[a1,b1,c1]
 simp
theorem Lc : ∀ (k:Nat) (out:List Dat) (s:RS),s.2=false->(dJ k out s).2.2=false -> ∃ l,(dJ k out s).1=out++l/\l.length=k/\s.1=l.flatMap jq++(dJ k out s).2.1 /\ ∀ d∈l,xg d
 | 0,out,s,_,_=>⟨[],by simp[dJ]⟩
 | k+1,out,s,hs,h=>by
  unfold dJ at h ⊢
  cases q:(bW s).2.2 with
  | true=>rw[q,X6 rfl,q] at h;cases h
  | false =>
   rw[q,XZ (by simp)] at h
   rw[XZ (by simp)]
   obtain⟨a1,a2⟩:=VZ q;obtain⟨l,b1,b2,b3,b4⟩:=Lc k _ _ q h;refine⟨(bW s).1::l,by rw[b1];simp,by simp[b2],by (rw[a1];(conv=>lhs;rw[b3]);simp),fun d hd=>?_⟩
   rcases YK.1 hd with e|e
   .
    subst e;exact a2
   exact b4 d e
theorem OG {s:RS}(h:(gy s).2.2=false):s.1=setB (gy s).1++(gy s).2.1/\XI (gy s).1:=by
 have hd:(dJ (aW (aA (aA (aP s).2).2).2).1 [] (aW (aA (aA (aP s).2).2).2).2).2.2=false:=h
 have q4:(aW (aA (aA (aP s).2).2).2).2.2=false:=by
  cases q:(aW (aA (aA (aP s).2).2).2).2.2 with
  | false=>rfl
  | true=>rw[Ld _ _ _ q] at hd;cases hd
 have q3:=H7 q4
 have q2:=qf q3
 have q1:=qf q2
 obtain⟨a1,a2⟩:=ER q1
 obtain⟨b1,b2⟩:=yX q2
 obtain⟨c1,c2⟩:=yX q3
 obtain⟨c,r,d1,d2⟩:=Lp q4
 obtain⟨l,e1,e2,e3,e4⟩:=Lc _ _ _ q4 hd
 have hcl:=c.toNat_lt
 have hl:l.length=c.toNat:=by rw[e2,d2]
 have hs:(gy s).1=⟨(aP s).1,(aA (aP s).2).1,(aA (aA (aP s).2).2).1,l⟩:=by
  show RSet.mk _ _ _ _=_
  rw[e1];rfl
 rw[hs]
 refine⟨?_,⟨a2,b2,c2,by show l.length<=255;omega,e4⟩⟩
 have e5:(gy s).2.1=(dJ (aW (aA (aA (aP s).2).2).2).1 [] (aW (aA (aA (aP s).2).2).2).2).2.1:=rfl
 rw[e5,a1]
 conv=>lhs;rw[b1,c1,d1]
 have e6:r=(aW (aA (aA (aP s).2).2).2).2.1:=by rw[d2]
 show ay _++(ak _++(ak _++c::r))=(ay _++ak _++ak _++bM l.length::l.flatMap jq)++_
 rw[hl,IR,e6]
 conv=>lhs;rw[e3]
 simp
theorem Nj {k:Int}{t:Str}(h:pM k t=true):t.length<=60:=by
 unfold pM at h
 split at h
 .
  rw[XW] at h;exact dO h.1
 split at h
 .
  exact dO h
 split at h
 .
  unfold freeB at h
  split at h
  .
   cases h
  split at h
  .
   cases h
  omega
 rw[YE] at h;subst h;simp
theorem Dw {k:Int}(hk:inR k 1 8=true) {d:Dat}(h:datOk (d9 k.toNat) d=true):xg d/\d.t.length<=60/\0<=d.n/\0<=d.m:=by
 unfold datOk at h
 simp only[XW,inR_iff] at h
 have ht:=Nj h.2
 have hn:=h.1.1.1
 have hm:=h.1.1.2
 refine⟨⟨om,?_,?_⟩,ht,?_,?_⟩<;>(try unfold i64)<;>rcases kinds hk with e|e|e|e|e|e|e|e<;>subst e<;>simp[d9] at hn hm<;>omega
def bytesF (s:RSet):Str×Int:=if setOk s then (setB s,0) else ([],1)
theorem WB {x:Str}(h:(readF x).2=0):pE (readF x).1/\setB (readF x).1=x:=by
 unfold readF at h ⊢
 split at h
 .
  cases h
 rename_i q
 rw[XZ q]
 simp only[Yd,not_or,XX,Ye,Bool.not_eq_false] at q
 obtain⟨⟨q1,q2⟩,q3⟩:=q
 have q1:(gy (x,false)).2.2=false:=by simpa using q1
 obtain⟨h1,_⟩:=OG q1
 have h2:(gy (x,false)).2.1=[]:=X5 om
 rw[h2,YC] at h1
 exact⟨(eT _).1 q3,h1.symm⟩
def sameB (a b:RSet):Bool:=decide (a=b)
theorem UA {l:List Int}{n:Nat}(h:n<l.length):(l.map iR).getD n []=[.i l[n]!]:=by
 simp[List.getD,h,getElem!_pos,iR]
theorem mY {l:List Dat}{n:Nat}(h:n<l.length):(l.map Dat.d).getD n []=l[n]!.d:=by
 simp[List.getD,h,getElem!_pos]
theorem getD_set {l:List RSet}{n:Nat}(h:n<l.length):(l.map RSet.d).getD n []=l[n]!.d:=by
 simp[List.getD,h,getElem!_pos]
@[go_sem] theorem nrr_iR {l:List Int}:aS (l.map iR)=true:=by
 induction l with
 | nil=>rfl
 | cons x l ih=>simp only[Yb,aS,ih];rfl
@[go_sem] theorem uj {l:List Dat}:aS (l.map Dat.d)=true:=by
 induction l with
 | nil=>rfl
 | cons x l ih=>simp only[Yb,aS,ih];rfl
@[go_sem] theorem AL {l:List Dat}:bZ (l.map Dat.d)=l.map Dat.d:=by
 induction l with
 | nil=>rfl
 | cons x l ih=>simp only[Yb,bZ,ih];rfl
theorem Bj {s:RSet}(c1:(nameOk s.name=true/\inR s.ty 1 8=true)/\inR s.life 0 100000=true) (c2:inR s.data.length 1 8=true) (c3:((d9 s.ty.toNat).single=false\/(s.data.length:Int)=1)/\(wildB s.name=false\/(d9 s.ty.toNat).wild=true)):setOk s=az s.data.length (iN s.ty.toNat s.data) 0:=by
 obtain⟨h1,h2⟩:=c3
 unfold setOk
 rw[c2,c1.1.1,c1.1.2,c1.2]
 rcases h1 with h1|h1<;>rcases h2 with h2|h2<;>simp[h1,h2]
theorem Le {l:List Dat}{t k:Nat}(h:datOk (d9 t) l[k]! = true/\(¬ (0:Int)<k \/ ¬ 0<=datC l[k-1]! l[k]!)):iN t l k=true:=by
 unfold iN
 rw[XW,Yd,XX,XX]
 exact⟨h.1,h.2.imp (fun q=>by omega) fun q=>by omega⟩
theorem Lf {l:List Dat}{t k:Nat}(h:datOk (d9 t) l[k]! = false\/((0:Int)<k/\0<=datC l[k-1]! l[k]!)):iN t l k=false:=by
 unfold iN
 rw[YA,Yj,X9,X9]
 exact h.imp id fun q=>⟨om,om⟩
theorem ED {k:Int}(w:Bool) (h:inR k 1 8=true):(((w&&(k != 1))&&(k != 5))&&(k != 8))=(w && !(d9 k.toNat).wild):=by
 rw[<- MV h,ZZ,ZZ,ZZ]
theorem FB {s:RSet}(c1:(((nameOk s.name=true/\inR s.ty 1 8=true)/\inR s.life 0 100000=true)/\inR s.data.length 1 8=true)/\(singleB s.ty=false \/ ¬ (1:Int)<s.data.length)) (c2:wildB s.name=false\/(d9 s.ty.toNat).wild=true):setOk s=az s.data.length (iN s.ty.toNat s.data) 0:=by
 obtain⟨⟨⟨⟨h1,h2⟩,h3⟩,h4⟩,h5⟩:=c1
 refine Bj ⟨⟨h1,h2⟩,h3⟩ h4 ⟨?_,c2⟩
 rw[Fh h2] at h5
 have:=inR_iff.1 h4
 exact h5.imp id fun q=>by omega
theorem OE {s:RSet}(c1:(((nameOk s.name=false\/inR s.ty 1 8=false)\/inR s.life 0 100000=false)\/inR s.data.length 1 8=false)\/(singleB s.ty=true/\(1:Int)<s.data.length)):setOk s=false:=by
 cases q:setOk s with
 | false=>rfl
 | true =>
  have h:=(eT s).1 q
  rcases c1 with (((c1|c1)|c1)|c1)|⟨c1,c2⟩
  .
   rw[h.name] at c1;cases c1
  .
   rw[h.ty] at c1;cases c1
  .
   rw[h.life] at c1;cases c1
  .
   have:=inR_iff.2 (show (1:Int)<=s.data.length/\(s.data.length:Int)<=8 by have:=h.len;omega)
   rw[this] at c1;cases c1
  rw[Fh h.ty] at c1;have:=h.single c1;omega
theorem OD {s:RSet}(c:wildB s.name=true/\(d9 s.ty.toNat).wild=false):setOk s=false:=by
 cases q:setOk s with
 | false=>rfl
 | true =>
  have h:=((eT s).1 q).wild c.1;rw[c.2] at h;cases h
theorem VW {l:List Dat}{t:Int}{k:Nat}(ht:inR t 1 8=true) (h:rDatOk t l[k]! = true/\(¬ (0:Int)<k\/less l[k-1]! l[k]! = true)):iN t.toNat l k=true:=by
 rw[Lg ht,IQ] at h
 exact Le ⟨h.1,h.2.imp id fun q=>by have:=Zj q;omega⟩
theorem VY {l:List Dat}{t:Int}{k:Nat}(ht:inR t 1 8=true) (h:rDatOk t l[k]! = false\/((0:Int)<k/\less l[k-1]! l[k]! = false)):iN t.toNat l k=false:=by
 rw[Lg ht,IQ] at h
 exact Lf (h.imp id fun q=>⟨q.1,by have:=of_decide_eq_false q.2;omega⟩)
theorem Pj {a b:RSet}(h1:((a.name=b.name/\a.ty=b.ty)/\a.life=b.life)/\(a.data.length:Int)=b.data.length) (h2 : ∀ i,i<a.data.length->a.data[i]! = b.data[i]!):sameB a b=true:=by
 unfold sameB
 rw[XX]
 obtain⟨an,at',al,ad⟩:=a
 obtain⟨bn,bt,bl,bd⟩:=b
 simp only at h1 h2
 obtain⟨⟨⟨rfl,rfl⟩,rfl⟩,h3⟩:=h1
 congr 1
 refine List.ext_getElem om fun i hi hj=>?_
 have:=h2 i hi
 rwa [getElem!_pos ad i hi,getElem!_pos bd i hj] at this
theorem Pk {a b:RSet}(h:((a.name≠b.name\/a.ty≠b.ty)\/a.life≠b.life)\/(a.data.length:Int)≠b.data.length):sameB a b=false:=by
 unfold sameB
 rw[X9]
 rintro rfl
 simp at h
theorem Pm {a b:RSet}{k:Nat}(h:a.data[k]! ≠ b.data[k]!):sameB a b=false:=by
 unfold sameB
 rw[X9]
 rintro rfl
 exact h rfl
theorem VX {x y:Dat}(h:(!(x.t==y.t&&(x.n==y.n&&x.m==y.m)))=false):x=y:=by
 obtain⟨a,b,c⟩:=x
 obtain⟨d,e,f⟩:=y
 simp at h
 simp[h]
theorem V3 {x y:Dat}(h:(!(x.t==y.t&&(x.n==y.n&&x.m==y.m)))=true):x≠y:=by
 rintro rfl
 simp at h
@[go_sem] theorem ZaB {t:Str}{h:H}:rowsOf (.v (.string (bs t))) h=t.map bD:=by
 simp only[rowsOf,nE];rfl
@[go_sem] theorem MR (n:Nat):IntKind.u8.wrap (n:Int)=((bM n).toNat:Int):=by
 rw[IntKind.wrap_u8]
 simp[bM]
theorem FU (k:Nat):(d9 k).even=true->0<=(d9 k).n0:=by
 unfold d9
 split<;>simp
end Go.Rec
namespace Go.Cmp
variable {α : Type} [Inhabited α] {c : α -> α -> Int}
end Go.Cmp
namespace Go.Rec
open Go.DL Go.Str Go.Cmp
def keepD (y _:Dat):Dat:=y
def canon (l:List Dat):List Dat:=l.foldl (ins datC keepD) []
end Go.Rec
namespace Go.Zon
open Go.DL Go.Str Go.Rec
structure RSig where
 zone:Str
 key:Int
 alg:Int
 frm:Int
 unt:Int
 sum:Int
 deriving Inhabited,DecidableEq
structure Sgd where
 set:RSet
 sigs:List RSig
 deriving Inhabited,DecidableEq
structure Qst where
 name:Str
 ty:Int
 deriving Inhabited,DecidableEq
structure Zon where
 apex:Str
 sets:List Sgd
 deriving Inhabited,DecidableEq
def Sgd.q (s:Sgd):Qst:=⟨s.set.name,s.set.ty⟩
def RSig.d (x:RSig):List D:=[.v (.string (bs x.zone)),.i x.key,.i x.alg,.i x.frm,.i x.unt,.v (.int .u64 x.sum)]
def RSig.of:List D->RSig
 | [.v (.string s),.v (.int _ a),.v (.int _ b),.v (.int _ c),.v (.int _ d),.v (.int _ e)]=>⟨s.data.toList,a,b,c,d,e⟩
 | _=>default
def Sgd.d (x:Sgd):List D:=[.v (.string (bs x.set.name)),.i x.set.ty,.i x.set.life,.list false (x.set.data.map Dat.d),.list false (x.sigs.map RSig.d)]
def Sgd.of:List D->Sgd
 | [.v (.string s),.v (.int _ t),.v (.int _ l),.list _ rows,.list _ sigs]=>⟨⟨s.data.toList,t,l,rows.map Dat.of⟩,sigs.map RSig.of⟩
 | _=>default
def Qst.d (x:Qst):List D:=[.v (.string (bs x.name)),.i x.ty]
def Qst.of:List D->Qst
 | [.v (.string s),.v (.int _ t)]=>⟨s.data.toList,t⟩
 | _=>default
def Zon.d (x:Zon):List D:=[.v (.string (bs x.apex)),.list false (x.sets.map Sgd.d)]
def Zon.of:List D->Zon
 | [.v (.string s),.list _ rows]=>⟨s.data.toList,rows.map Sgd.of⟩
 | _=>default
structure Lay where
 z:Zon
 b:List Str
 deriving Inhabited,DecidableEq
def Lay.d (x:Lay):List D:=[.v (.string (bs x.z.apex)),.list false (x.z.sets.map Sgd.d),.list false (x.b.map sR)]
def Lay.of:List D->Lay
 | [.v (.string s),.list _ rows,.list _ b]=>⟨⟨s.data.toList,rows.map Sgd.of⟩,b.map BX⟩
 | _=>default
def sgd1:D->Sgd:=nI Sgd.of default
def sgds1:D->List Sgd:=um Sgd.of
def sigs1:D->List RSig:=um RSig.of
def qst1:D->Qst:=nI Qst.of default
def qsts1:D->List Qst:=um Qst.of
def zon1:D->Zon:=nI Zon.of default
def lay1:D->Lay:=nI Lay.of default
attribute [go_sem] RSig.d Sgd.d Qst.d Zon.d Lay.d
theorem Ia (x:RSig):RSig.of x.d=x:=by simp[RSig.of,RSig.d,nE]
theorem yS (x:Sgd):Sgd.of x.d=x:=by simp[Sgd.of,Sgd.d,nE,lL Ic,lL Ia]
theorem Ib (x:Qst):Qst.of x.d=x:=by simp[Qst.of,Qst.d,nE]
@[go_sem] theorem Zaz {f:Bool}{l:List Sgd}:sgds1 (.list f (l.map Sgd.d))=l:=lL yS l
@[go_sem] theorem Zay {f:Bool}:sgds1 (.list f [])=[]:=rfl
@[go_sem] theorem Zas {f:Bool}{l:List RSig}:sigs1 (.list f (l.map RSig.d))=l:=lL Ia l
@[go_sem] theorem Zar {f:Bool}:sigs1 (.list f [])=[]:=rfl
@[go_sem] theorem ZaF {f:Bool}{l:List Qst}:qsts1 (.list f (l.map Qst.d))=l:=lL Ib l
@[go_sem] theorem ZaE {f:Bool}:qsts1 (.list f [])=[]:=rfl
@[go_sem] theorem sgd1_agg {s:ByteArray}{t l:Int}{k k':IntKind}{f f':Bool}{rows sigs:List (List D)}:sgd1 (.agg [.v (.string s),.v (.int k t),.v (.int k' l),.list f rows,.list f' sigs])=⟨⟨s.data.toList,t,l,dats1 (.list f rows)⟩,sigs1 (.list f' sigs)⟩:=rfl
@[go_sem] theorem qst1_agg {s:ByteArray}{t:Int}{k:IntKind}:qst1 (.agg [.v (.string s),.v (.int k t)])=⟨s.data.toList,t⟩:=rfl
@[go_sem] theorem XJ {s:ByteArray}{f:Bool}{rows:List (List D)}:zon1 (.agg [.v (.string s),.list f rows])=⟨s.data.toList,sgds1 (.list f rows)⟩:=rfl
@[go_sem] theorem lay1_agg {s:ByteArray}{f f':Bool}{rows b:List (List D)}:lay1 (.agg [.v (.string s),.list f rows,.list f' b])=⟨⟨s.data.toList,sgds1 (.list f rows)⟩,A9 (.list f' b)⟩:=rfl
@[go_sem] theorem qst_eta {x:Qst}:(⟨x.name,x.ty⟩:Qst)=x:=rfl
@[go_sem] theorem set_eta {x:RSet}:(⟨x.name,x.ty,x.life,x.data⟩:RSet)=x:=rfl
@[go_sem] theorem dat_eta {x:Dat}:(⟨x.t,x.n,x.m⟩:Dat)=x:=rfl
@[go_sem] theorem sgd_eta {x:Sgd}:(⟨x.set,x.sigs⟩:Sgd)=x:=rfl
@[go_sem] theorem zon_eta {x:Zon}:(⟨x.apex,x.sets⟩:Zon)=x:=rfl
@[go_sem] theorem lay_eta {x:Lay}:(⟨x.z,x.b⟩:Lay)=x:=rfl
theorem JL {α:Type}{f:α->List D}{l:List α}{n:Nat}(h:l.length<=n):(l.map f).getD n []=[]:=by
 simp[List.getD,h]
theorem bJ {l:List Sgd}{n:Nat}(h:n<l.length):(l.map Sgd.d).getD n []=[.v (.string (bs l[n]!.set.name)),.i l[n]!.set.ty,.i l[n]!.set.life,.list false (l[n]!.set.data.map Dat.d),.list false (l[n]!.sigs.map RSig.d)]:=by
 simp[List.getD,h,Sgd.d,getElem!_pos]
theorem lV {l:List RSig}{n:Nat}(h:n<l.length):(l.map RSig.d).getD n []=[.v (.string (bs l[n]!.zone)),.i l[n]!.key,.i l[n]!.alg,.i l[n]!.frm,.i l[n]!.unt,.v (.int .u64 l[n]!.sum)]:=by
 simp[List.getD,h,RSig.d,getElem!_pos]
theorem qz {l:List Qst}{n:Nat}(h:n<l.length):(l.map Qst.d).getD n []=[.v (.string (bs l[n]!.name)),.i l[n]!.ty]:=by
 simp[List.getD,h,Qst.d,getElem!_pos]
@[go_sem] theorem vS {l:List RSig}:aS (l.map RSig.d)=true:=by
 induction l with
 | nil=>rfl
 | cons x l ih=>simp only[Yb,aS,ih,RSig.d,aZ,D.nr];rfl
@[go_sem] theorem AJ {l:List RSig}:bZ (l.map RSig.d)=l.map RSig.d:=by
 induction l with
 | nil=>rfl
 | cons x l ih=>simp only[Yb,bZ,ih,RSig.d,wk,di]
@[go_sem] theorem uh {l:List Sgd}:aS (l.map Sgd.d)=true:=by
 induction l with
 | nil=>rfl
 | cons x l ih=>simp only[Yb,aS,ih,Sgd.d,aZ,D.nr,uj,vS];rfl
@[go_sem] theorem wkr_sgd {l:List Sgd}:bZ (l.map Sgd.d)=l.map Sgd.d:=by
 induction l with
 | nil=>rfl
 | cons x l ih=>simp only[Yb,bZ,ih,Sgd.d,wk,di,AL,AJ]
@[go_sem] theorem Il {l:List Qst}:aS (l.map Qst.d)=true:=by
 induction l with
 | nil=>rfl
 | cons x l ih=>simp only[Yb,aS,ih,Qst.d,aZ,D.nr];rfl
@[go_sem] theorem wkr_qst {l:List Qst}:bZ (l.map Qst.d)=l.map Qst.d:=by
 induction l with
 | nil=>rfl
 | cons x l ih=>simp only[Yb,bZ,ih,Qst.d,wk,di]
@[go_sem] theorem all_sgd {l:List Sgd}:(∀ r∈l.map Sgd.d,r.length=5)=True:=by
 apply eq_true
 intro r hr
 obtain⟨x,_,rfl⟩:=Y5.1 hr
 rfl
@[go_sem] theorem all_sig {l:List RSig}:(∀ r∈l.map RSig.d,r.length=6)=True:=by
 apply eq_true
 intro r hr
 obtain⟨x,_,rfl⟩:=Y5.1 hr
 rfl
def hasSuf (s p:Str):Bool:=decide (p.length<=s.length)&&s.drop (s.length-p.length)==p
def under (s z:Str):Bool:=s==z||z==[46]||(decide (z.length<s.length)&&hasSuf s z&&decide ((s.getD (s.length-z.length-1) 0).toNat=46))
def underV (s z:Str):Bool:=nameOk s&&nameOk z&&under s z
def ow (l m:List Str) (i:Nat):Bool:=l[l.length-m.length+i]! == m[i]!
def inB (s z:Str):Bool:=decide ((partsOf z).length<=(partsOf s).length)&&az (partsOf z).length (ow (partsOf s) (partsOf z)) 0
def wild1 (s:Str):Bool:=decide (0<(partsOf s).length)&&(partsOf s)[0]! == [42]
theorem Hq (s:Str):(partsOf s).length<=s.length+1:=by
 unfold partsOf
 split
 .
  exact Yo _
 exact (xK s).2
def qC (a b:Qst):Int:=if a.name=b.name then cmpI a.ty b.ty else (if nameOk a.name&&nameOk b.name then nmCmp a.name b.name else 0)
def qOk (q:Qst):Bool:=nameOk q.name&&inR q.ty 1 8
def fits (t:Int) (apex:Bool):Bool:=if t=3\/t=6 then !apex else if t=4\/t=7 then apex else true
def gu (apex:Str) (l:List RSig) (i:Nat):Bool :=
 l[i]!.zone==apex&&inR l[i]!.key 1 1000000&&inR l[i]!.alg 1 3&&decide (0<=l[i]!.frm)&&decide (l[i]!.frm<=l[i]!.unt)&&decide (l[i]!.unt<=20000000) &&
 (decide (i=0)||(decide (l[i]!.frm=l[0]!.frm)&&decide (l[i]!.unt=l[0]!.unt)&&decide (l[i-1]!.key<l[i]!.key)))
def sigsOk (l:List RSig) (apex:Str):Bool:=decide (l.length<=6)&&az l.length (gu apex l) 0
def sameSgd (a b:Sgd):Bool:=decide (a=b)
def sameList (a b:List Sgd):Bool:=decide (a=b)
def sameZ (a b:Zon):Bool:=decide (a=b)
theorem Oz {a b:Sgd}(h1:a.set=b.set) (h2:a.sigs=b.sigs):a=b:=by cases a;cases b;simp_all
theorem vX! {α:Type}[Inhabited α] {a b:List α}(hl:a.length=b.length) (h : ∀ i,i<a.length->a[i]! = b[i]!):a=b:=by
 refine List.ext_getElem hl fun i h1 h2=>?_
 have:=h i h1
 rwa [getElem!_pos a i h1,getElem!_pos b i h2] at this
theorem gp {n k:Nat}{p:Nat->Bool}(h:n<=k):az n p k=true:=by rw[dS,XZ (by omega)]
theorem bS {n k:Nat}{p:Nat->Bool}(h:k<n) (hF:p k=false):az n p k=false:=by rw[dS,X6 h,hF];rfl
theorem aY {n k:Nat}{p:Nat->Bool}(h:k<n) (hF:p k=true):az n p k=az n p (k+1):=by rw[dS,X6 h,hF];rfl
def jv (c:Nat->Int) (i j:Nat):Nat:=if i<j then (if c ((i+j) / 2)<0 then jv c ((i+j) / 2+1) j else jv c i ((i+j) / 2)) else i
termination_by j-i
theorem uH (c:Nat->Int) (i j:Nat):jv c i j=if i<j then (if c ((i+j) / 2)<0 then jv c ((i+j) / 2+1) j else jv c i ((i+j) / 2)) else i:=by rw[jv]
theorem WL (c:Nat->Int):∀ (n i j:Nat),j-i<=n->i<=j->jv c i j<=j/\i<=jv c i j:=by
 intro n
 induction n with
 | zero=>intro i j h1 h2;rw[uH,XZ (by omega)];omega
 | succ n ih =>
  intro i j h1 h2;rw[uH]
  split
  .
   split
   .
    have:=ih ((i+j) / 2+1) j om om;omega
   have:=ih i ((i+j) / 2) om om;omega
  omega
def findIx (l:List Sgd) (q:Qst):Nat:=jv (fun k=>qC l[k]!.q q) 0 l.length
def findOk (l:List Sgd) (q:Qst):Bool:=decide (findIx l q<l.length)&&qC l[findIx l q]!.q q==0
theorem R9 {i j:Nat}(h:i+j<=9223372036854775807):IntKind.i64.wrap ((IntKind.u64.wrap ((i:Int)+j)).fdiv (2^(min 1 64)))=(((i+j) / 2:Nat):Int):=by
 have e:IntKind.u64.wrap ((i:Int)+j)=(i:Int)+j:=by rw[IntKind.wrap_u64];omega
 have e2:((2:Int)^(min 1 64))=2:=rfl
 rw[e,e2,Int.fdiv_eq_ediv_of_nonneg _ (by omega),IntKind.wrap_i64]
 omega
def lQ (m:List Str):List D:=m.flatMap fun s=>[.v (.string (bs s)),.b true]
def il (m:List Str) (n:Str):Bool:=decide (n∈m)
def mf (m:List Str) (n:Str):List Str:=if il m n then m else m++[n]
theorem rX (s:Str) (m:List Str):lQ (s::m) = .v (.string (bs s)) :: .b true::lQ m:=rfl
theorem I8 {a b:Str}:iI (.v (.string (bs a))) (.v (.string (bs b)))=(a==b):=by simp[iI,iM,nE]
@[go_sem] theorem kvT_nil:lQ []=[]:=rfl
@[go_sem] theorem RB {m:List Str}:aZ (lQ m)=true:=by
 induction m with
 | nil=>rfl
 | cons s m ih=>rw[rX];simp only[aZ,ih];rfl
@[go_sem] theorem wks_kvT {m:List Str}:di (lQ m)=lQ m:=by
 induction m with
 | nil=>rfl
 | cons s m ih=>rw[rX];simp only[di,ih];rfl
@[go_sem] theorem kvGetD_T {m:List Str}{n:Str}:(gz (lQ m) (.v (.string (bs n)))).getD (.v (.bool false)) = .v (.bool (il m n)):=by
 induction m with
 | nil=>rfl
 | cons s m ih =>
  rw[rX];simp only[gz,I8]
  by_cases h:n=s
  .
   subst h;simp[il]
  .
   have:(n==s)=false:=by simp[h]
   rw[this];simp only[Ym,Y9,ih,il,YK,h,false_or]
@[go_sem] theorem kvSet_T {m:List Str}{n:Str}:fE (lQ m) (.v (.string (bs n))) (.v (.bool true))=lQ (mf m n):=by
 induction m with
 | nil=>rfl
 | cons s m ih =>
  rw[rX];simp only[fE,I8]
  by_cases h:n=s
  .
   subst h;have:mf (n::m) n=n::m:=by simp[mf,il]
   rw[this,rX]
   simp
  .
   have h1:(n==s)=false:=by simp[h]
   rw[h1,ih];have h2:mf (s::m) n=s::mf m n:=by
    unfold mf il
    by_cases q:n∈m<;>simp[h,q]
   rw[h2,rX];rfl
def iG (apex:Str) (l:List Sgd) (i:Nat):Bool:=setOk l[i]!.set&&underV l[i]!.set.name apex&&(decide (i=0)||decide (qC l[i-1]!.q l[i]!.q<0))
def ordered (z:Zon):Bool:=nameOk z.apex && !wildB z.apex&&decide (z.sets.length<=20000)&&az z.sets.length (iG z.apex z.sets) 0
def jO (apex:Str) (l:List Sgd) (i:Nat):Bool:=fits l[i]!.set.ty (l[i]!.set.name==apex)
def iP (z:Zon) (i:Nat):Bool:=findOk z.sets ⟨z.apex,if i=0 then 4 else 2⟩
def apexHolds (z:Zon):Bool:=az 2 (iP z) 0&&az z.sets.length (jO z.apex z.sets) 0
def bQ (z:Zon):Nat->List Str
 | 0=>[]
 | k+1=>if z.sets[k]!.set.ty=2/\z.sets[k]!.set.name≠z.apex then mf (bQ z k) z.sets[k]!.set.name else bQ z k
def stepC (m:List Str) (cut n:Str):Str :=
 let c:=if cut≠[]/\underV n cut=false then [] else cut
 if c=[]/\il m n=true then n else c
def bO (m:List Str) (l:List Sgd):Nat->List Str×Str
 | 0=>([],[])
 | k+1=>let c:=stepC m (bO m l k).2 l[k]!.set.name;((bO m l k).1++[c],c)
def uJ (z:Zon):List Str:=(bO (bQ z z.sets.length) z.sets z.sets.length).1
theorem Lh {z:Zon}{k:Nat}(h:z.sets[k]!.set.ty=2 /\ ¬ z.sets[k]!.set.name=z.apex):bQ z (k+1)=mf (bQ z k) z.sets[k]!.set.name:=X6 h
theorem Li {z:Zon}{k:Nat}(h : ¬ (z.sets[k]!.set.ty=2 /\ ¬ z.sets[k]!.set.name=z.apex)):bQ z (k+1)=bQ z k:=XZ h
theorem qR (m:List Str) (l:List Sgd):∀ k,(bO m l k).1.length=k
 | 0=>rfl
 | k+1=>by simp[bO,qR m l k]
def jF (m:List Str) (l:List Sgd) (n k:Nat):List Str:=(bO m l k).1++List.replicate (n-k) []
theorem Bq {m:List Str}{l:List Sgd}{n k:Nat}(h:k<=n):(jF m l n k).length=n:=by simp[jF,qR];omega
theorem PN {m:List Str}{l:List Sgd}{n k:Nat}{c:Str}(h:k<n) (hc:c=(bO m l (k+1)).2):(jF m l n k).set k c=jF m l n (k+1):=by
 have e:n-k=(n-(k+1))+1:=by omega
 unfold jF
 rw[e,List.replicate_succ,List.set_append_right _ _ (by rw[qR];exact XY _),qR,Yr,YD]
 have:(bO m l (k+1)).1=(bO m l k).1++[c]:=by rw[hc];rfl
 rw[this,Yz]
 rfl
@[go_sem] theorem rowsB_0 {m:List Str}{l:List Sgd}{n:Nat}:(jF m l n 0).map sR=List.replicate n [.v (.string (bs []))]:=by simp[jF,bO,sR]
theorem tN {m:List Str}{l:List Sgd}{n k:Nat}{c:Str}(h:k<n) (hc:(bO m l (k+1)).2=c):((jF m l n k).map sR).set k [.v (.string (bs c))]=(jF m l n (k+1)).map sR:=by
 rw[<- PN h hc.symm,List.map_set];rfl
@[go_sem] theorem cutsTo_0 {z:Zon}:bQ z 0=[]:=rfl
theorem PO (m:List Str) (l:List Sgd) (n:Nat):jF m l n n=(bO m l n).1:=by simp[jF]
def layOf (z:Zon):Lay:=⟨z,uJ z⟩
def iC (l:List Sgd) (i:Nat):Bool:=!decide (l[i]!.set.ty=3)||(!(decide (0<i)&&l[i-1]!.set.name==l[i]!.set.name) && !(decide (i+1<l.length)&&l[i+1]!.set.name==l[i]!.set.name && !decide (l[i+1]!.set.ty=8)))
def aliasB (x:Lay):Bool:=az x.z.sets.length (iC x.z.sets) 0
def cutAt (x:Lay) (i:Nat):Bool:=let t:=x.z.sets[i]!.set.ty
 if x.b[i]! = [] then !decide (t=6) else if x.b[i]! = x.z.sets[i]!.set.name then decide (t=2)||decide (t=6)||decide (t=8)||decide (t=1) else decide (t=1)
def cutB (x:Lay):Bool:=az x.z.sets.length (cutAt x) 0
def mV (x:Lay) (i:Nat):Bool:=!(!(x.b[i]! == [])&&(decide (x.z.sets[i]!.set.ty=2)||decide (x.z.sets[i]!.set.ty=1))&&decide (0<x.z.sets[i]!.sigs.length))
def glueB (x:Lay):Bool:=az x.z.sets.length (mV x) 0
def kD (z:Zon) (i:Nat):Bool:=sigsOk z.sets[i]!.sigs z.apex
def formB (x:Lay):Bool:=az x.z.sets.length (kD x.z) 0
def zoneOk (z:Zon):Bool:=ordered z&&apexHolds z&&aliasB (layOf z)&&cutB (layOf z)&&glueB (layOf z)&&formB (layOf z)
theorem wY (z:Zon):(layOf z).b.length=(layOf z).z.sets.length:=qR _ _ _
theorem BS {z:Zon}(h:ordered z=true):z.sets.length<=1000000:=by
 simp only[ordered,XW,XX] at h
 omega
theorem Rw {z:Zon}(h:zoneOk z=true):z.sets.length<=1000000:=by
 simp only[zoneOk,XW] at h
 exact BS h.1.1.1.1.1
theorem NK {z:Zon}(h:zoneOk z=true):findIx z.sets ⟨z.apex,4⟩<z.sets.length/\0<z.sets[findIx z.sets ⟨z.apex,4⟩]!.set.data.length:=by
 simp only[zoneOk,XW] at h
 obtain⟨⟨⟨⟨⟨h1,h2⟩,_⟩,_⟩,_⟩,_⟩:=h
 simp only[apexHolds,XW] at h2
 have h3:=(dL _ _ _).1 h2.1 0 (XY _) (by omega)
 simp only[iP,ZK,findOk,XW,XX] at h3
 refine⟨h3.1,?_⟩
 simp only[ordered,XW] at h1
 have h4:=(dL _ _ _).1 h1.2 _ (Yo _) h3.1
 simp only[iG,XW] at h4
 have:=((eT _).1 h4.1.1).len
 omega
def serialOf (z:Zon):Int:=z.sets[findIx z.sets ⟨z.apex,4⟩]!.set.data[0]!.n
end Go.Zon
namespace Go.Zon
open Go.DL Go.Str Go.Rec Go.Cmp
end Go.Zon
namespace Go.Zon
open Go.DL Go.Str Go.Rec Go.Cmp
def sF (x:Sgd):Prop:=x.set.data.length<=100000/\x.sigs.length<=100000
def dX (l:List Sgd):Prop:=l.length<=1000000 /\ ∀ k,k<l.length->sF l[k]!
def kU (z:Zon):Prop:=z.sets.length<=1000000 /\ ∀ k,k<z.sets.length->z.sets[k]!.set.name.length<=1000
theorem Ot {a b:Sgd}(h1:a.set=b.set) (hl:a.sigs.length=b.sigs.length) (h : ∀ i,i<a.sigs.length->a.sigs[i]! = b.sigs[i]!):sameSgd a b=true :=
 Y1 (Oz h1 (vX! hl h))
theorem Ow {a b:Sgd}(h : ¬ (a.set=b.set/\a.sigs.length=b.sigs.length)):sameSgd a b=false :=
 Y6 fun e=>h ⟨by rw[e],by rw[e]⟩
theorem Ov {a b:Sgd}{k:Nat}(h:a.sigs[k]! ≠ b.sigs[k]!):sameSgd a b=false :=
 Y6 fun e=>h (by rw[e])
theorem Ou {a b:List Sgd}{k:Nat}(h:sameSgd a[k]! b[k]! = false):sameList a b=false :=
 Y6 fun e=>(of_decide_eq_false h) (by rw[e])
theorem Oo {a b:List Sgd}(hl:a.length=b.length) (h : ∀ i,i<a.length->sameSgd a[i]! b[i]! = true):sameList a b=true :=
 Y1 (vX! hl fun i hi=>Zj (h i hi))
theorem Oq {a b:List Sgd}(h:a.length≠b.length):sameList a b=false:=Y6 fun e=>h (by rw[e])
theorem Pg (a b:Zon):sameZ a b=(a.apex==b.apex&&sameList a.sets b.sets):=by
 cases a;cases b
 rw[Za]
 simp[sameZ,sameList]
def lK (apex:Str) (l:List Sgd) (i:Nat):Bool:=setOk l[i]!.set&&inB l[i]!.set.name apex&&(decide (i=0)||decide (rOrd l[i-1]!.set l[i]!.set<0))
def oneB (z:Zon):Bool:=nameOk z.apex && !wild1 z.apex&&decide (z.sets.length<=20000)&&az z.sets.length (lK z.apex z.sets) 0
theorem qd {z:Zon}(h:oneB z=true):kU z:=by
 simp only[oneB,XW,XX] at h
 refine⟨om,fun k hk=>?_⟩
 have:=(dL _ _ _).1 h.2 k (Yo _) hk
 simp only[lK,XW] at this
 have:=dO ((eT _).1 this.1.1).name
 omega
theorem FC {s:RSet}(h:setOk s=true):s.name.length<=1000:=by
 have:=dO ((eT _).1 h).name
 omega
def kw (l:List Sgd) (q:Qst) (k:Nat):Int:=if k<l.length then (if l[k]!.q=q then (k:Int) else kw l q (k+1)) else -1
termination_by l.length-k
theorem mK (l:List Sgd) (q:Qst) (k:Nat):kw l q k=if k<l.length then (if l[k]!.q=q then (k:Int) else kw l q (k+1)) else -1:=by rw[kw]
def atF (l:List Sgd) (q:Qst):Int:=kw l q 0
theorem TE (l:List Sgd) (q:Qst):∀ n k,l.length-k<=n->kw l q k<l.length/\(0<=kw l q k->l[(kw l q k).toNat]!.q=q):=by
 intro n
 induction n with
 | zero=>intro k h;rw[mK,XZ (by omega)];exact⟨om,fun h=>by omega⟩
 | succ n ih =>
  intro k h;rw[mK]
  split
  .
   split
   .
    rename_i h1 h2
    exact⟨om,fun _=>by simpa using h2⟩
   exact ih (k+1) om
  exact⟨om,fun h=>by omega⟩
theorem Me (l:List Sgd) (q:Qst):atF l q<l.length:=(TE l q _ 0 (XY _)).1
def twoB (z:Zon):Bool:=decide (0<=atF z.sets ⟨z.apex,4⟩)&&decide (0<=atF z.sets ⟨z.apex,2⟩)&&az z.sets.length (jO z.apex z.sets) 0
def eP (l:List Sgd):Nat->Str
 | 0=>[]
 | k+1=>if l[k]!.set.ty=3 then l[k]!.set.name else eP l k
def gP (l:List Sgd) (i:Nat):Str:=if 0<i/\l[i-1]!.set.name=l[i]!.set.name then l[i]!.set.name else []
def fT (l:List Sgd) (i:Nat):Bool:=!((!(gP l i==[])&&decide (l[i]!.set.ty=3))||(!(gP l i==[])&&(gP l i==eP l (i+1)) && !decide (l[i]!.set.ty=3) && !decide (l[i]!.set.ty=8)))
def threeB (z:Zon):Bool:=az z.sets.length (fT z.sets) 0
def iA (z:Zon):Nat->List Str
 | 0=>[]
 | k+1=>if z.sets[k]!.set.ty=2/\z.sets[k]!.set.name≠z.apex then iA z k++[z.sets[k]!.set.name] else iA z k
def cutsF (z:Zon):List Str:=iA z z.sets.length
def bH (cs:List Str):Nat->List Str
 | 0=>[]
 | k+1=>if bH cs k=[]\/inB cs[k]! (bH cs k)[(bH cs k).length-1]! = false then bH cs k++[cs[k]!] else bH cs k
def highF (z:Zon):List Str:=bH (cutsF z) (cutsF z).length
def jU (hs:List Str) (n:Str) (i:Nat):Nat:=if i<hs.length then (if nmOrd hs[i]! n<=0 then jU hs n (i+1) else i) else i
termination_by hs.length-i
theorem qY (hs:List Str) (n:Str) (i:Nat):jU hs n i=if i<hs.length then (if nmOrd hs[i]! n<=0 then jU hs n (i+1) else i) else i:=by rw[jU]
theorem XF (hs:List Str) (n:Str):∀ m i,hs.length-i<=m->i<=hs.length->i<=jU hs n i/\jU hs n i<=hs.length:=by
 intro m
 induction m with
 | zero=>intro i h h2;rw[qY,XZ (by omega)];omega
 | succ m ih =>
  intro i h h2;rw[qY]
  split
  .
   split
   .
    have:=ih (i+1) om om;omega
   omega
  omega
def eO (hs:List Str) (n:Str) (j:Nat):Str:=if 0<j/\inB n hs[j-1]! = true then hs[j-1]! else []
def eD (hs:List Str) (l:List Sgd):Nat->Nat
 | 0=>0
 | k+1=>jU hs l[k]!.set.name (eD hs l k)
def iO (hs:List Str) (l:List Sgd):Nat->List Str
 | 0=>[]
 | k+1=>iO hs l k++[eO hs l[k]!.set.name (eD hs l (k+1))]
def behR (z:Zon):List Str:=iO (highF z) z.sets z.sets.length
theorem o9 (hs:List Str) (l:List Sgd):∀ k,(iO hs l k).length=k
 | 0=>rfl
 | k+1=>by simp[iO,o9 hs l k]
def gM (hs:List Str) (l:List Sgd) (n k:Nat):List Str:=iO hs l k++List.replicate (n-k) []
theorem Bn {hs:List Str}{l:List Sgd}{n k:Nat}(h:k<=n):(gM hs l n k).length=n:=by simp[gM,o9];omega
theorem PI {hs:List Str}{l:List Sgd}{n k:Nat}{c:Str}(h:k<n) (hc:eO hs l[k]!.set.name (eD hs l (k+1))=c):(gM hs l n k).set k c=gM hs l n (k+1):=by
 have e:n-k=(n-(k+1))+1:=by omega
 unfold gM
 rw[e,List.replicate_succ,List.set_append_right _ _ (by rw[o9];exact XY _),o9,Yr,YD,<- hc]
 have:iO hs l (k+1)=iO hs l k++[eO hs l[k]!.set.name (eD hs l (k+1))]:=rfl
 rw[this,Yz]
 rfl
theorem yh {hs:List Str}{l:List Sgd}{n k:Nat}{c:Str}(h:k<n) (hc:eO hs l[k]!.set.name (eD hs l (k+1))=c):((gM hs l n k).map sR).set k [.v (.string (bs c))]=(gM hs l n (k+1)).map sR:=by
 rw[<- PI h hc,List.map_set];rfl
theorem yj {hs:List Str}{l:List Sgd}{n k:Nat}(h:k<n) (hc:eO hs l[k]!.set.name (eD hs l (k+1))=[]):gM hs l n (k+1)=gM hs l n k:=by
 have e:n-k=(n-(k+1))+1:=by omega
 have:iO hs l (k+1)=iO hs l k++[eO hs l[k]!.set.name (eD hs l (k+1))]:=rfl
 unfold gM
 rw[e,List.replicate_succ,this,hc,Yz]
 rfl
@[go_sem] theorem rowsR_0 {hs:List Str}{l:List Sgd}{n:Nat}:(gM hs l n 0).map sR=List.replicate n [.v (.string (bs []))]:=by simp[gM,iO,sR]
theorem PK (hs:List Str) (l:List Sgd) (n:Nat):gM hs l n n=iO hs l n:=by simp[gM]
def fourB (z:Zon):Bool:=cutB ⟨z,behR z⟩
def nR (x:Lay) (i:Nat):Bool:=x.b[i]! == []||(!decide (x.z.sets[i]!.set.ty=2) && !decide (x.z.sets[i]!.set.ty=1))
def kT (x:Lay):Nat->List Bool
 | 0=>[]
 | k+1=>kT x k++[nR x k]
def ownF (z:Zon):List Bool:=kT ⟨z,behR z⟩ z.sets.length
theorem rJ (x:Lay):∀ k,(kT x k).length=k
 | 0=>rfl
 | k+1=>by simp[kT,rJ x k]
theorem Rj (x:Lay):∀ n k,k<n->(kT x n)[k]! = nR x k:=by
 intro n
 induction n with
 | zero=>intro k h;omega
 | succ n ih =>
  intro k h;have hl:=rJ x n
  by_cases e:k=n
  .
   subst e;simp[kT,hl]
  have hk:k<n:=by omega
  rw[<- ih k hk];simp only[kT];rw[getElem!_pos _ _ (by simp[hl];omega),getElem!_pos _ _ (by omega),List.getElem_append_left]
def bR (b:Bool):List D:=[.b b]
def jE (x:Lay) (n k:Nat):List Bool:=kT x k++List.replicate (n-k) false
theorem Bp {x:Lay}{n k:Nat}(h:k<=n):(jE x n k).length=n:=by simp[jE,rJ];omega
theorem Bo {x:Lay}{n k:Nat}{c:Bool}(h:k<n) (hc:nR x k=c):((jE x n k).map bR).set k [.b c]=(jE x n (k+1)).map bR:=by
 have e:n-k=(n-(k+1))+1:=by omega
 have:kT x (k+1)=kT x k++[c]:=by rw[<- hc];rfl
 have e2:(jE x n k).set k c=jE x n (k+1):=by
  unfold jE;rw[e,List.replicate_succ,List.set_append_right _ _ (by rw[rJ];exact XY _),rJ,Yr,YD,this,Yz]
  rfl
 rw[<- e2,List.map_set];rfl
@[go_sem] theorem rowsO_0 {x:Lay}{n:Nat}:(jE x n 0).map bR=List.replicate n [.b false]:=by simp[jE,kT,bR]
theorem PL (x:Lay) (n:Nat):jE x n n=kT x n:=by simp[jE]
@[go_sem] theorem nrr_bR {l:List Bool}:aS (l.map bR)=true:=by
 induction l with
 | nil=>rfl
 | cons x l ih=>simp only[Yb,aS,ih,bR,aZ];rfl
@[go_sem] theorem wkr_bR {l:List Bool}:bZ (l.map bR)=l.map bR:=by
 induction l with
 | nil=>rfl
 | cons x l ih=>simp only[Yb,bZ,ih,bR,di];rfl
theorem JM {l:List Bool}{n:Nat}(h:n<l.length):(l.map bR).getD n []=[.b l[n]!]:=by
 simp[List.getD,h,bR,getElem!_pos]
def oQ (x:Lay) (i:Nat):Bool:=kD x.z i&&mV x i
def fiveB (z:Zon):Bool:=az z.sets.length (oQ ⟨z,behR z⟩) 0
def refOk (z:Zon):Bool:=oneB z&&twoB z&&threeB z&&fourB z&&fiveB z
def serialR (z:Zon):Int:=z.sets[(atF z.sets ⟨z.apex,4⟩).toNat]!.set.data[0]!.n
def fewZ (z:Zon):Bool:=decide (z.sets.length<=100)&&az z.sets.length (fun i=>decide (z.sets[i]!.set.data.length<=20)&&decide (z.sets[i]!.sigs.length<=20)) 0
structure Dlt where
 apex:Str
 frm:Int
 too:Int
 drop:List Qst
 put:List Sgd
 deriving Inhabited,DecidableEq
def Dlt.d (x:Dlt):List D:=[.v (.string (bs x.apex)),.i x.frm,.i x.too,.list false (x.drop.map Qst.d),.list false (x.put.map Sgd.d)]
def Dlt.of:List D->Dlt
 | [.v (.string s),.v (.int _ a),.v (.int _ b),.list _ q,.list _ r]=>⟨s.data.toList,a,b,q.map Qst.of,r.map Sgd.of⟩
 | _=>default
def dlt1:D->Dlt:=nI Dlt.of default
attribute [go_sem] Dlt.d
@[go_sem] theorem dlt1_agg {s:ByteArray}{a b:Int}{k k':IntKind}{f f':Bool}{q r:List (List D)}:dlt1 (.agg [.v (.string s),.v (.int k a),.v (.int k' b),.list f q,.list f' r])=⟨s.data.toList,a,b,qsts1 (.list f q),sgds1 (.list f' r)⟩:=rfl
@[go_sem] theorem dlt_eta {x:Dlt}:(⟨x.apex,x.frm,x.too,x.drop,x.put⟩:Dlt)=x:=rfl
def serB (x:Int):Bool:=decide (0<=x)&&decide (x<65536)
def befB (a b:Int):Bool:=decide (1<=(b-a+65536) % 65536)&&decide ((b-a+65536) % 65536<=32767)
def qO (a b:Qst):Int:=rOrd ⟨a.name,a.ty,0,[]⟩ ⟨b.name,b.ty,0,[]⟩
def askB (l:List Qst) (q:Qst):Bool:=decide (q∈l)
theorem Xj {l:List Qst}{q:Qst}{k:Nat}(hk:k<l.length) (h:l[k]! = q):askB l q=true:=by
 rw[getElem!_pos l k hk] at h
 exact Y1 (h ▸ Yv hk)
theorem Xk {l:List Qst}{q:Qst}(h : ∀ i,i<l.length->l[i]! ≠ q):askB l q=false:=by
 refine Y6 fun hm=>?_
 obtain⟨i,hi,e⟩:=Zd hm
 exact h i hi (by rw[getElem!_pos l i hi,e])
def cO {α:Type}[Inhabited α] (gt:α->Bool) (l:List α) (s:α):Nat->List α×Bool
 | 0=>([],false)
 | k+1=>if (cO gt l s k).2=false/\gt l[k]! = true then ((cO gt l s k).1++[s]++[l[k]!],true) else ((cO gt l s k).1++[l[k]!],(cO gt l s k).2)
def ou {α:Type}[Inhabited α] (gt:α->Bool) (l:List α) (s:α):List α:=if (cO gt l s l.length).2=false then (cO gt l s l.length).1++[s] else (cO gt l s l.length).1
theorem CP {α:Type}[Inhabited α] (gt:α->Bool) (l:List α) (s:α):∀ k,(cO gt l s k).1.length=k+(if (cO gt l s k).2 then 1 else 0)
 | 0=>rfl
 | k+1=>by
  have ih:=CP gt l s k;simp only[cO]
  split
  .
   rename_i h;rw[h.1] at ih;simp at ih;simp;omega
  simp only[XV,ih];simp;omega
theorem Jr {α:Type}[Inhabited α] {gt:α->Bool}{l:List α}{s:α}{k:Nat}(h:(cO gt l s k).2=false/\gt l[k]! = true):cO gt l s (k+1)=((cO gt l s k).1++[s]++[l[k]!],true):=X6 h
theorem Jt {α:Type}[Inhabited α] {gt:α->Bool}{l:List α}{s:α}{k:Nat}(h : ¬ ((cO gt l s k).2=false/\gt l[k]! = true)):cO gt l s (k+1)=((cO gt l s k).1++[l[k]!],(cO gt l s k).2):=XZ h
def sortedF (l:List Sgd) (s:Sgd):List Sgd:=ou (fun x=>decide (0<qO x.q s.q)) l s
def lh (l:List Qst) (i:Nat):Bool:=qOk l[i]! && (decide (i=0)||decide (qO l[i-1]! l[i]! < 0))
def putAt (d:Dlt) (i:Nat):Bool:=setOk d.put[i]!.set&&(decide (i=0)||decide (qO d.put[i-1]!.q d.put[i]!.q<0)) && !askB d.drop d.put[i]!.q
def dltOk (d:Dlt):Bool:=nameOk d.apex && !wildB d.apex&&serB d.frm&&serB d.too&&befB d.frm d.too&&decide (d.drop.length<=20000)&&decide (d.put.length<=20000)&&az d.drop.length (lh d.drop) 0&&az d.put.length (putAt d) 0
def fewD (d:Dlt):Bool:=az (min d.put.length 50) (fun i=>decide (d.put[i]!.sigs.length<=10)&&decide (d.put[i]!.set.data.length<=20)) 0&&decide (d.drop.length<=50)&&decide (d.put.length<=50)
theorem yu {z:Zon}(h:refOk z=true):oneB z=true/\twoB z=true/\threeB z=true/\fourB z=true/\fiveB z=true:=by
 simp only[refOk,XW] at h
 exact⟨h.1.1.1.1,h.1.1.1.2,h.1.1.2,h.1.2,h.2⟩
theorem Gg {z:Zon}(h:refOk z=true) {k:Nat}(hk:k<z.sets.length):pE z.sets[k]!.set:=by
 have h1:=(yu h).1
 simp only[oneB,XW] at h1
 have:=(dL _ _ _).1 h1.2 k (Yo _) hk
 simp only[lK,XW] at this
 exact (eT _).1 this.1.1
theorem vH {z:Zon}(h:refOk z=true):z.sets.length<=20000:=by
 have h1:=(yu h).1
 simp only[oneB,XW,XX] at h1
 exact h1.1.2
theorem PV {z:Zon}(h:refOk z=true) {k:Nat}(hk:k<z.sets.length):z.sets[k]!.sigs.length<=6:=by
 have h1:=(yu h).2.2.2.2
 simp only[fiveB] at h1
 have:=(dL _ _ _).1 h1 k (Yo _) hk
 simp only[oQ,kD,sigsOk,XW,XX] at this
 exact this.1.1
theorem PW {z:Zon}(h:refOk z=true):dX z.sets:=by
 have hl:=vH h
 refine⟨om,fun k hk=>⟨?_,?_⟩⟩
 .
  have:=(Gg h hk).len;omega
 have:=PV h hk;omega
theorem vG {z:Zon}(h:refOk z=true):0<=atF z.sets ⟨z.apex,4⟩:=by
 have h1:=(yu h).2.1
 simp only[twoB,XW,XX] at h1
 exact h1.1.1
theorem PU {z:Zon}(h:refOk z=true):(atF z.sets ⟨z.apex,4⟩).toNat<z.sets.length:=by
 have:=vG h
 have:=Me z.sets ⟨z.apex,4⟩
 omega
theorem Bv {z:Zon}(h:refOk z=true):0<z.sets[(atF z.sets ⟨z.apex,4⟩).toNat]!.set.data.length:=by
 have:=(Gg h (PU h)).len
 omega
def dlt0:Dlt:=⟨[],0,0,[],[]⟩
def zon0:Zon:=⟨[],[]⟩
def cK (a:Zon) (d:Dlt):Nat->List Sgd
 | 0=>[]
 | k+1=>if askB d.drop a.sets[k]!.q=false/\atF d.put a.sets[k]!.q<0 then cK a d k++[a.sets[k]!] else cK a d k
theorem Cy {a:Zon}{d:Dlt}{k:Nat}(h:askB d.drop a.sets[k]!.q=false/\atF d.put a.sets[k]!.q<0):cK a d (k+1)=cK a d k++[a.sets[k]!]:=X6 h
theorem Cz {a:Zon}{d:Dlt}{k:Nat}(h : ¬ (askB d.drop a.sets[k]!.q=false/\atF d.put a.sets[k]!.q<0)):cK a d (k+1)=cK a d k:=XZ h
@[go_sem] theorem keptTo_0 {a:Zon}{d:Dlt}:cK a d 0=[]:=rfl
theorem zh (a:Zon) (d:Dlt):∀ k,(cK a d k).length<=k
 | 0=>XY _
 | k+1=>by
  have:=zh a d k
  by_cases h:askB d.drop a.sets[k]!.q=false/\atF d.put a.sets[k]!.q<0
  .
   rw[Cy h];simp;omega
  rw[Cz h];omega
def eZ (put l:List Sgd):Nat->List Sgd
 | 0=>l
 | k+1=>sortedF (eZ put l k) put[k]!
theorem TW {α:Type}[Inhabited α] (gt:α->Bool) (l:List α) (s:α):(ou gt l s).length=l.length+1:=by
 have:=CP gt l s l.length
 unfold ou
 split
 .
  rename_i h;rw[h] at this;simp at this;simp[this]
 rename_i h;rw[show (cO gt l s l.length).2=true by simpa using h] at this;simpa using this
theorem D9 (put l:List Sgd):∀ k,(eZ put l k).length=l.length+k
 | 0=>rfl
 | k+1=>by
  show (ou _ _ _).length=_
  rw[TW,D9 put l k];omega
def uL (a:Zon) (d:Dlt):Zon:=⟨a.apex,eZ d.put (cK a d a.sets.length) d.put.length⟩
def applyR (a:Zon) (d:Dlt):Zon×Int :=
 if refOk a=false\/dltOk d=false\/a.apex≠d.apex then (zon0,1) else if serialR a≠d.frm then (zon0,23) else
 if 20000<(uL a d).sets.length then (zon0,2) else if refOk (uL a d)=false\/serialR (uL a d)≠d.too then (zon0,35) else (uL a d,0)
theorem VC {d:Dlt}(h:dltOk d=true):d.drop.length<=20000/\d.put.length<=20000:=by
 simp only[dltOk,XW,XX] at h
 exact⟨h.1.1.1.2,h.1.1.2⟩
end Go.Zon
namespace Go.Zon
open Go.DL Go.Str Go.Rec Go.Cmp
end Go.Zon
namespace Go.Zon
open Go.DL Go.Str Go.Rec Go.Cmp
end Go.Zon
namespace Go.Zon
open Go.DL Go.Str Go.Rec Go.Cmp
def lS (m:List Sgd):List D:=m.flatMap fun s=>[.agg s.q.d,.agg s.d]
theorem wh (s:Sgd) (m:List Sgd):lS (s::m) = .agg s.q.d :: .agg s.d::lS m:=rfl
theorem S9:lS []=[]:=rfl
theorem wo {a b:Qst}:iI (.agg a.d) (.agg b.d)=decide (a=b):=by
 cases a;cases b
 rw[Za]
 simp[iI,iL,iM,Qst.d,nE]
def fO:List Sgd->Qst->Option Sgd
 | s::m,q=>if s.q=q then some s else fO m q
 | [],_=>none
def rT:List Sgd->Sgd->List Sgd
 | x::m,s=>if x.q=s.q then s::m else x::rT m s
 | [],s=>[s]
theorem SX {m:List Sgd}{s:Sgd}:fE (lS m) (.agg s.q.d) (.agg s.d)=lS (rT m s):=by
 induction m with
 | nil=>rfl
 | cons x m ih =>
  rw[wh];simp only[fE,wo,rT]
  by_cases h:x.q=s.q
  .
   rw[X6 h,h];simp[wh]
  have h2 : ¬ s.q=x.q:=fun e=>h e.symm
  rw[XZ h];simp only[h2,decide_false,Ym,Y9,ih,wh]
def nX (l:List Sgd):Nat->List Sgd
 | 0=>[]
 | k+1=>rT (nX l k) l[k]!
def vV (l:List Sgd):List Sgd:=nX l l.length
theorem RZ {m:List Sgd}{s:Sgd}{q:Qst}:fO (rT m s) q=if s.q=q then some s else fO m q:=by
 induction m with
 | nil=>rfl
 | cons x m ih =>
  simp only[rT,fO]
  by_cases h:x.q=s.q
  .
   rw[X6 h];simp only[fO]
   by_cases h2:s.q=q
   .
    simp[h2]
   rw[XZ h2,XZ h2,XZ (by rw[h];exact h2)]
  rw[XZ h];simp only[fO,ih]
  by_cases h2:s.q=q
  .
   rw[X6 h2,X6 h2,XZ (by rw[<- h2];exact h)]
  rw[XZ h2,XZ h2]
abbrev PM:=List (Qst×Sgd)
theorem Cu {h h2:H}{n r:Nat}{y:Option Blk}(hn : ∀ q,n<=q->h q=none) (hr:h2 r=y) (hk : ∀ q,q<n->h2 q=h q):∀ q,upd h r y q=h2 q\/upd h r y q=none:=by
 intro q
 by_cases e:q=r
 .
  subst e;left;rw[upd_same,hr]
 rw[upd_ne _ _ _ _ e]
 by_cases q2:q<n
 .
  left;exact (hk q q2).symm
 right;exact hn q om
def kvP (m:PM):List D:=m.flatMap fun p=>[.agg p.1.d,.agg p.2.d]
theorem uo (p:Qst×Sgd) (m:PM):kvP (p::m) = .agg p.1.d :: .agg p.2.d::kvP m:=rfl
def eB:PM->Qst->Option Sgd
 | p::m,q=>if p.1=q then some p.2 else eB m q
 | [],_=>none
def vM:PM->Qst->Sgd->PM
 | p::m,q,s=>if p.1=q then (q,s)::m else p::vM m q s
 | [],q,s=>[(q,s)]
theorem Te {m:PM}{q:Qst}:gz (kvP m) (.agg q.d)=(eB m q).map fun s=>.agg s.d:=by
 induction m with
 | nil=>rfl
 | cons p m ih =>
  rw[uo];simp only[gz,wo,eB]
  by_cases h:p.1=q
  .
   subst h;simp
  have h2 : ¬ q=p.1:=fun e=>h e.symm
  simp only[h,h2,decide_false,Ym,Y9,ih]
@[go_sem] theorem kvGet_P {m:PM}{q:Qst}:gz (kvP m) (.agg [.v (.string (bs q.name)),.i q.ty])=(eB m q).map fun s=>.agg [.v (.string (bs s.set.name)),.i s.set.ty,.i s.set.life,.list false (s.set.data.map Dat.d),.list false (s.sigs.map RSig.d)]:=Te
@[go_sem] theorem nrs_kvP {m:PM}:aZ (kvP m)=true:=by
 induction m with
 | nil=>rfl
 | cons p m ih =>
  rw[uo];simp only[aZ,ih,D.nr,Qst.d,Sgd.d,uj,vS,ZT]
@[go_sem] theorem wks_kvP {m:PM}:di (kvP m)=kvP m:=by
 induction m with
 | nil=>rfl
 | cons p m ih =>
  rw[uo];simp only[di,wk,ih,Qst.d,Sgd.d,AL,AJ]
def PM.of:List D->PM
 | .agg k :: .agg v::l=>(Qst.of k,Sgd.of v)::PM.of l
 | _=>[]
theorem Rx (m:PM):PM.of (kvP m)=m:=by
 induction m with
 | nil=>rfl
 | cons p m ih=>rw[uo,PM.of,ih,Ib,yS]
def UL:D->PM
 | .fmap kv=>PM.of kv
 | _=>[]
def mapc1:D->PM
 | .eptr [d]=>UL d
 | _=>[]
def capm1:D->PM
 | .fn _ _ [d]=>mapc1 d
 | _=>[]
@[go_sem] theorem mapc1_kv {m:PM}:mapc1 (.eptr [.fmap (kvP m)])=m:=Rx m
theorem QR {m:PM}{q x:Qst}{s:Sgd}:eB (vM m q s) x=if q=x then some s else eB m x:=by
 induction m with
 | nil=>rfl
 | cons p m ih =>
  simp only[vM,eB]
  by_cases h:p.1=q
  .
   rw[X6 h];simp only[eB]
   by_cases h2:q=x
   .
    simp[h2]
   rw[XZ h2,XZ h2,XZ (by rw[h];exact h2)]
  rw[XZ h];simp only[eB,ih]
  by_cases h2:q=x
  .
   rw[X6 h2,X6 h2,XZ (by rw[<- h2];exact h)]
  rw[XZ h2,XZ h2]
def mapP (l:List Sgd):PM:=(vV l).map fun s=>(s.q,s)
theorem Q5 (l:List Sgd) (q:Qst):eB (l.map fun s=>(s.q,s)) q=fO l q:=by
 induction l with
 | nil=>rfl
 | cons s l ih=>simp only[Yb,eB,fO,ih]
theorem Q4 (l:List Sgd) (q:Qst):eB (mapP l) q=fO (vV l) q:=Q5 _ _
abbrev PZ:=List (Qst×Option Sgd)
def vZ:Option Sgd->List D
 | some s=>s.d
 | none=>[.v (.string (bs [])),.i 0,.i 0,.list true [],.list true []]
def jk (m:PZ):List D:=m.flatMap fun p=>[.agg p.1.d,.agg (vZ p.2)]
theorem rW (p:Qst×Option Sgd) (m:PZ):jk (p::m) = .agg p.1.d :: .agg (vZ p.2)::jk m:=rfl
def nJ:PZ->Qst->Option Sgd->PZ
 | p::m,q,s=>if p.1=q then (q,s)::m else p::nJ m q s
 | [],q,s=>[(q,s)]
theorem SS {m:PZ}{q:Qst}{s:Option Sgd}:fE (jk m) (.agg q.d) (.agg (vZ s))=jk (nJ m q s):=by
 induction m with
 | nil=>rfl
 | cons p m ih =>
  rw[rW];simp only[fE,wo,nJ]
  by_cases h:p.1=q
  .
   rw[X6 h,h];simp[rW]
  have h2 : ¬ q=p.1:=fun e=>h e.symm
  rw[XZ h];simp only[h2,decide_false,Ym,Y9,ih,rW]
@[go_sem] theorem kvSet_Z {m:PZ}{q:Qst}:fE (jk m) (.agg [.v (.string (bs q.name)),.i q.ty]) (.agg [.v (.string (bs [])),.i 0,.i 0,.list true [],.list true []])=jk (nJ m q none):=SS (s:=none)
@[go_sem] theorem Ik {m:PZ}:aZ (jk m)=true:=by
 induction m with
 | nil=>rfl
 | cons p m ih =>
  rw[rW]
  cases hp:p.2 with
  | none=>simp only[aZ,ih,D.nr,Qst.d,vZ,aS,ZT]
  | some s=>simp only[aZ,ih,D.nr,Qst.d,vZ,Sgd.d,uj,vS,ZT]
def vB:Sgd:=⟨⟨[],0,0,[]⟩,[]⟩
def zp (m:PZ):PM:=m.map fun p=>(p.1,p.2.getD vB)
@[go_sem] theorem wks_kvZ {m:PZ}:di (jk m)=kvP (zp m):=by
 induction m with
 | nil=>rfl
 | cons p m ih =>
  rw[rW];have:zp (p::m)=(p.1,p.2.getD vB)::zp m:=rfl;rw[this,uo]
  cases hp:p.2 with
  | none=>simp only[di,wk,ih,Qst.d,vZ,Option.getD_none,vB,Sgd.d,bZ,Yt]
  | some s=>simp only[di,wk,ih,Qst.d,vZ,YT,Sgd.d,AL,AJ]
theorem ME (m:PZ) (q:Qst) (s:Option Sgd):zp (nJ m q s)=vM (zp m) q (s.getD vB):=by
 induction m with
 | nil=>rfl
 | cons p m ih =>
  have e:zp (p::m)=(p.1,p.2.getD vB)::zp m:=rfl;unfold nJ;rw[e];unfold vM
  by_cases h:p.1=q
  .
   rw[X6 h,X6 h];rfl
  rw[XZ h,XZ h,<- ih];rfl
def mI (l:List Sgd):PZ:=(vV l).map fun s=>(s.q,some s)
theorem Tc (l:List Sgd):lS l=jk (l.map fun s=>(s.q,some s)):=by
 induction l with
 | nil=>rfl
 | cons s l ih=>rw[wh,Yb,rW,ih];rfl
theorem Ta (l:List Sgd):lS (vV l)=jk (mI l):=Tc _
theorem MF (l:List Sgd):zp (mI l)=mapP l:=by
 unfold zp mI mapP
 rw[List.map_map]
 rfl
def mQ (m:PZ) (l:List Qst):Nat->PZ
 | 0=>m
 | k+1=>nJ (mQ m l k) l[k]! none
@[go_sem] theorem goesZ_0 {m:PZ}{l:List Qst}:mQ m l 0=m:=rfl
def mU (put:List Sgd) (drop:List Qst):PM:=zp (mQ (mI put) drop drop.length)
theorem JG (m:PZ) (l:List Qst) (q:Qst):∀ k,k<=l.length->((eB (zp (mQ m l k)) q).isSome=true ↔ (q∈l.take k\/(eB (zp m) q).isSome=true))
 | 0,_=>by simp[mQ]
 | k+1,h=>by
  have ih:=JG m l q k (by omega)
  have hk:k<l.length:=by omega
  have e:l.take (k+1)=l.take k++[l[k]!]:=by
   rw[Y8,Yg hk,getElem!_pos l k hk];rfl
  show (eB (zp (nJ (mQ m l k) l[k]! none)) q).isSome=true ↔ _
  rw[ME,QR,e,Yx]
  by_cases h2:l[k]! = q
  .
   rw[X6 h2];simp[h2]
  rw[XZ h2,ih];have:(q∈[l[k]!])=False:=Y7 fun x=>h2 (Yq.1 x).symm
  rw[this,or_false]
def Ph (a b:Sgd):Bool:=decide (a.set.life=b.set.life)&&decide (a.set.data=b.set.data)&&decide (a.sigs=b.sigs)
def newB (m:PM) (q:Qst):Bool:=!(eB m q).isSome
def VJ (o:Option Sgd) (s:Sgd):Bool:=match o with
 | none=>true
 | some x=>!Ph x s
def d2S (m:PM) (s:Sgd):Option Sgd:=if VJ (eB m s.q) s=true then some s else none
def eY (m:PM) (s:Sgd):Option Sgd:=if newB m s.q=true then some s else none
def j3S (m:PM) (q:Qst):Option Qst:=if newB m q=true then some q else none
theorem Db {α β:Type}[Inhabited α] {f:α->Option β}{l:List α}{k:Nat}(hk:k<l.length) {y:β}(h:f l[k]! = some y):(l.take (k+1)).filterMap f=(l.take k).filterMap f++[y]:=by
 rw[Y8,Yg hk,List.filterMap_append]
 rw[getElem!_pos l k hk] at h
 simp[h]
theorem De {α β:Type}[Inhabited α] {f:α->Option β}{l:List α}{k:Nat}(hk:k<l.length) (h:f l[k]! = none):(l.take (k+1)).filterMap f=(l.take k).filterMap f:=by
 rw[Y8,Yg hk,List.filterMap_append]
 rw[getElem!_pos l k hk] at h
 simp[h]
theorem Kc {α β:Type}(f:α->Option β) (l:List α) (k:Nat):((l.take k).filterMap f).length<=k:=by
 have:=List.length_filterMap_le f (l.take k)
 rw[Yu] at this
 omega
attribute [go_sem] List.filterMap_nil Option.map_some Option.map_none Option.getD_some Option.getD_none Option.isSome_some Option.isSome_none
theorem Kb {α:Type}(l:List α):l.filterMap some=l:=by simp
def qS (a:Qst):RSet:=⟨a.name,a.ty,0,[]⟩
theorem QO (a b:Qst):qC a b=plC (qS a) (qS b):=rfl
theorem G5 (a b:Qst):qO a b=rOrd (qS a) (qS b):=rfl
theorem vL {a b:Qst}(ha:nameOk a.name=true) (hb:nameOk b.name=true):qC a b=qO a b:=by
 rw[QO,G5,QX (a:=qS a) (b:=qS b) ha hb,Gv (a:=qS a) (b:=qS b) ha hb]
theorem QN {a b:Qst}(ha:nameOk a.name=true) (hb:nameOk b.name=true):qO a b=nP (qS a) (qS b):=by
 rw[G5,Gv (a:=qS a) (b:=qS b) ha hb]
theorem WK (c:Nat->Int) (n:Nat) (mono : ∀ i j,i<=j->j<n->c j<0->c i<0):∀ m i j,j-i<=m->i<=j->j<=n->(∀ k,k<i->c k<0)->(∀ k,j<=k->k<n -> ¬ c k<0) ->
  (∀ k,k<jv c i j->c k<0)/\(∀ k,jv c i j<=k->k<n -> ¬ c k<0):=by
 intro m
 induction m with
 | zero =>
  intro i j h1 h2 h3 ha hb;rw[uH,XZ (by omega)]
  exact⟨ha,fun k hk hn=>hb k om hn⟩
 | succ m ih =>
  intro i j h1 h2 h3 ha hb;rw[uH]
  by_cases hij:i<j
  .
   rw[X6 hij]
   by_cases hc:c ((i+j) / 2)<0
   .
    rw[X6 hc];exact ih _ _ om om h3 (fun k hk=>mono k ((i+j) / 2) om om hc) hb
   rw[XZ hc];exact ih _ _ om om om ha (fun k hk hn hk2=>hc (mono _ k hk hn hk2))
  rw[XZ hij];exact⟨ha,fun k hk hn=>hb k om hn⟩
theorem IM {α:Type}{c:α->α->Int}(h:Cm c):∀ p r:List α,lex c p (p++r)<=0
 | [],[]=>by simp[lex]
 | [],_::_=>by simp[lex]
 | x::p,r=>by
  show iV (c x x) (lex c p (p++r))<=0
  rw[gY,X6 (h.self x)];exact IM h p r
theorem IP {α:Type}{c:α->α->Int}(h:Cm c) (he : ∀ x y,c x y=0->x=y):∀ p r x:List α,lex c p x<=0->lex c x (p++r)<=0->p <+: x
 | [],r,x,_,_=>List.nil_prefix
 | a::p,r,[],h1,_=>by simp[lex] at h1
 | a::p,r,b::x,h1,h2=>by
  have h1':iV (c a b) (lex c p x)<=0:=h1;have h2':iV (c b a) (lex c x (p++r))<=0:=h2;rw[gY] at h1' h2';have ha:=h.anti a b
  by_cases e:c a b=0
  .
   have e2:c b a=0:=by omega
   rw[X6 e] at h1';rw[X6 e2] at h2';obtain rfl:=he _ _ e;obtain⟨t,rfl⟩:=IP h he p r x h1' h2';exact⟨t,rfl⟩
  rw[XZ e] at h1';rw[XZ (by omega)] at h2'
  omega
def bT (n c:Str):Prop:=dH c <+: dH n
theorem AR (n:Str):bT n n:=List.prefix_rfl
theorem AQ {a b c:Str}(h:bT a b) (k:bT b c):bT a c:=List.IsPrefix.trans k h
theorem EN {a b:Str}(h:bT a b) (k:bT b a):a=b :=
 Bt (List.IsPrefix.eq_of_length k (Nat.le_antisymm (List.IsPrefix.length_le k) (List.IsPrefix.length_le h)))
theorem M6 {n a b:Str}(h:bT n a) (k:bT n b):bT a b\/bT b a:=List.prefix_or_prefix_of_prefix k h
theorem Iq (a b:Str):nmOrd a b=lex Go.Lib.compareBytes (dH a) (dH b):=yR _ _
theorem AV {n c:Str}(h:bT n c):nmOrd c n<=0:=by
 obtain⟨r,hr⟩:=h
 rw[Iq,<- hr]
 exact IM Ai _ _
theorem AU {n c x:Str}(h:bT n c) (h1:nmOrd c x<=0) (h2:nmOrd x n<=0):bT x c:=by
 obtain⟨r,hr⟩:=h
 rw[Iq] at h1 h2
 rw[<- hr] at h2
 exact IP Ai (fun _ _=>LM) _ _ _ h1 h2
theorem inB_und {s z:Str}:inB s z=true ↔ bT s z:=by
 unfold bT
 rw[<- yN,<- yN,List.reverse_prefix]
 unfold inB
 rw[XW,XX,dL]
 constructor
 .
  rintro⟨h1,h2⟩;refine⟨(partsOf s).take ((partsOf s).length-(partsOf z).length),?_⟩
  conv=>rhs;rw[<- Zm ((partsOf s).length-(partsOf z).length) (partsOf s)]
  congr 1
  refine List.ext_getElem (by simp;omega) fun i hi hj=>?_
  have:=h2 i (Yo _) hi;unfold ow at this;rw[YE,getElem!_pos (partsOf s) _ (by omega),getElem!_pos (partsOf z) _ hi] at this
  rw[List.getElem_drop,this]
 rintro⟨a,ha⟩
 have hl:(partsOf s).length=a.length+(partsOf z).length:=by rw[<- ha,XV]
 refine⟨om,fun i _ hi=>?_⟩
 unfold ow
 have e:(partsOf s).length-(partsOf z).length+i=a.length+i:=by omega
 rw[YE,e,getElem!_pos (partsOf s) _ (by omega),getElem!_pos (partsOf z) _ hi]
 have:(partsOf s)[a.length+i]? = some (partsOf z)[i]:=by
  rw[<- ha,YS (by omega)]
  simp[hi]
 exact (Ya.1 this).2
theorem I1:labelOk []=false:=by
 unfold labelOk
 simp
theorem Ci:nameOk []=false:=by
 rw[Ch,XZ (by simp),XZ (by simp),nL]
 simp[split,iU,I1]
theorem Jg : ∀ (a b:List Str),a≠[]->b≠[]->lT (a++b)=lT a++46::lT b
 | [],_,h,_=>absurd rfl h
 | [p],[],_,h=>absurd rfl h
 | [p],q::r,_,_=>rfl
 | p::q::r,b,_,hb=>by
  have ih:=Jg (q::r) b (by simp) hb
  show p++46::lT ((q::r)++b)=_
  rw[ih]
  simp[lT]
theorem Nu {s z:Str}:split z <:+ split s ↔ s=z \/ ∃ a,s=a++46::z:=by
 constructor
 .
  rintro⟨a,ha⟩
  by_cases h:a=[]
  .
   subst h
   left
   rw[<- rY s,<- rY z,<- ha];rfl
  right
  refine⟨lT a,?_⟩;rw[<- rY s,<- ha,Jg a _ h (mh z),rY]
 rintro (h|⟨a,h⟩)
 .
  rw[h];exact List.suffix_rfl
 rw[h,Bd];exact List.suffix_append _ _
theorem M4 {s z:Str}:(decide (z.length<s.length)&&hasSuf s z&&decide ((s.getD (s.length-z.length-1) 0).toNat=46))=true ↔ ∃ a,s=a++46::z:=by
 rw[XW,XW,XX,XX]
 unfold hasSuf
 rw[XW,XX,YE]
 constructor
 .
  rintro⟨⟨h1,h2,h3⟩,h4⟩;refine⟨s.take (s.length-z.length-1),?_⟩;have hlt:s.length-z.length-1<s.length:=by omega
  have hc:s[s.length-z.length-1]=46:=by
   apply ZH.1
   show _=46
   rw[<- h4]
   simp[List.getD,hlt]
  conv=>lhs;rw[<- Zm (s.length-z.length-1) s]
  rw[Yy hlt,hc,show s.length-z.length-1+1=s.length-z.length by omega,h3]
 rintro⟨a,rfl⟩
 have hl:(a++46::z).length=a.length+1+z.length:=by simp;omega
 refine⟨⟨om,om,?_⟩,?_⟩
 .
  rw[hl,show a.length+1+z.length-z.length=a.length+1 by omega]
  simp
 rw[hl,show a.length+1+z.length-z.length-1=a.length by omega]
 simp
theorem M3 {s z:Str}(hs:nameOk s=true) (hz:nameOk z=true):under s z=true ↔ bT s z:=by
 unfold under bT
 rw[Yd,Yd,YE,YE,M4]
 by_cases ez:z=[46]
 .
  subst ez;have:dH [46]=[]:=by simp[dH]
  rw[this]
  simp
 by_cases es:s=[46]
 .
  subst es;have h1:dH [46]=[]:=by simp[dH]
  rw[h1]
  constructor
  .
   rintro ((h|h)|⟨a,h⟩)
   .
    exact absurd h.symm ez
   .
    exact absurd h ez
   cases a with
   | nil =>
    have:z=[]:=by simpa using h
    subst this;rw[Ci] at hz;cases hz
   | cons x a=>simp at h
  intro h;have:=List.prefix_nil.1 h;unfold dH at this;rw[XZ ez,jY] at this
  cases this
 have e1:dH s=(split s).reverse:=by unfold dH;rw[XZ es,nL]
 have e2:dH z=(split z).reverse:=by unfold dH;rw[XZ ez,nL]
 rw[e1,e2,List.reverse_prefix,Nu]
 constructor
 .
  rintro ((h|h)|h)
  .
   exact .inl h
  .
   exact absurd h ez
  exact .inr h
 rintro (h|h)
 .
  exact .inl (.inl h)
 exact .inr h
theorem xz {s z:Str}(hs:nameOk s=true) (hz:nameOk z=true):underV s z=true ↔ bT s z:=by
 unfold underV
 rw[hs,hz,Zu,Zu,M3 hs hz]
theorem EC {s:Str}(h:nameOk s=true):wildB s=wild1 s:=by
 by_cases e:s=[46]
 .
  subst e;rfl
 have hp:partsOf s=split s:=by unfold partsOf;rw[XZ e,vg]
 have h0:kS (split s) 0=true:=by
  unfold nameOk at h;rw[XZ e] at h
  split at h
  .
   cases h
  rw[XW,vg] at h;have:=Zr.2 (mh s);exact (dL _ _ _).1 h.1 0 (XY _) this
 unfold wild1
 rw[hp]
 have hpos:=Zr.2 (mh s)
 rw[Y1 hpos,Zu]
 cases s with
 | nil=>rw[Ci] at h;cases h
 | cons c r =>
  obtain⟨p,ps,hq⟩:∃ p ps,split r=p::ps:=by
   cases hq:split r with
   | nil=>exact absurd hq (mh r)
   | cons p ps=>exact⟨p,ps,rfl⟩
  by_cases hc:c=46
  .
   subst hc;have hs:split (46::r)=[]::split r:=by rw[split,X6 rfl]
   rw[hs] at h0
   simp[kS,I1] at h0
  have hs:split (c::r)=(c::p)::ps:=by rw[split,XZ hc,hq]
  rw[hs] at h0 ⊢;simp only[kS,List.getElem!_cons_zero,decide_true,Zu] at h0 ⊢;rw[Za];unfold wildB;simp only[YH,List.getD_cons_zero,XW,XX,YE]
  constructor
  .
   rintro⟨_,h1⟩;rw[Yd] at h0
   rcases h0 with h2|h2
   .
    exfalso
    unfold labelOk at h2;rw[XW,XW] at h2;have:=(dL _ _ _).1 h2.1.1 0 (XY _) (by simp)
    simp[jg,jT,h1] at this
   exact YE.1 h2
  intro h1;have:=(List.cons.inj h1).1;subst this;exact⟨om,rfl⟩
def qp (a b:Qst):Int:=nP (qS a) (qS b)
theorem cm_q:Cm qp:=oZ Wv qS
theorem qp_eq {a b:Qst}:qp a b=0 ↔ a=b:=by
 unfold qp
 rw[QT]
 cases a;cases b
 simp[qS]
theorem pX {a b:Qst}(ha:nameOk a.name=true) (hb:nameOk b.name=true):qO a b=qp a b:=QN ha hb
theorem yK {a b:Qst}(ha:nameOk a.name=true) (hb:nameOk b.name=true):qC a b=qp a b:=by rw[vL ha hb,pX ha hb]
theorem GQ {a b:Qst}(h:qp a b<0):nmOrd a.name b.name<=0/\(a.name=b.name->a.ty<b.ty):=by
 have h1:iV (nmOrd a.name b.name) (Go.Cmp.cmpI a.ty b.ty)<0:=h
 rw[gY] at h1
 split at h1
 .
  rename_i e
  refine⟨om,fun _=>?_⟩
  unfold Go.Cmp.cmpI at h1
  split at h1
  .
   assumption
  split at h1<;>omega
 rename_i e
 refine⟨om,fun e2=>?_⟩
 rw[e2,cm_nm.self] at e
 exact absurd rfl e
def sp (a b:Sgd):Int:=qp a.q b.q
theorem cm_s:Cm sp:=oZ cm_q Sgd.q
def Ord (l:List Sgd):Prop:=jA sp l
theorem xH {α:Type}[Inhabited α] {c:α->α->Int}(h:Cm c) {l:List α}(k : ∀ i,0<i->i<l.length->c l[i-1]! l[i]! < 0):jA c l:=by
 induction l with
 | nil=>exact .nil
 | cons x r ih =>
  have ih:=ih fun i h1 h2=>by
   have:=k (i+1) om (by simp;omega)
   obtain⟨j,rfl⟩:∃ j,i=j+1:=⟨i-1,om⟩
   simpa using this
  refine Y2.2 ⟨?_,ih⟩
  cases r with
  | nil=>simp
  | cons y r =>
   have h1:=k 1 (by omega) (by simp)
   have h1':c x y<0:=by simpa using h1
   intro z hz
   rcases YK.1 hz with e|e
   .
    subst e;exact h1'
   have:=(Y2.1 ih).1 z e;exact h.lt_le h1' om
theorem lG {α:Type}[Inhabited α] {c:α->α->Int}{l:List α}(h:jA c l) {i j:Nat}(hij:i<j) (hj:j<l.length):c l[i]! l[j]! < 0:=by
 rw[getElem!_pos l i (by omega),getElem!_pos l j hj]
 exact ZM.1 h i j om hj hij
theorem Ba {α:Type}{c:α->α->Int}(h:Cm c):∀ {l m:List α},jA c l->jA c m->(∀ x,x∈l ↔ x∈m)->l=m
 | [],[],_,_,_=>rfl
 | [],y::s,_,_,k=>by have:=(k y).2 (by simp);simp at this
 | x::r,[],_,_,k=>by have:=(k x).1 (by simp);simp at this
 | x::r,y::s,hl,hm,k=>by
  have hl':=Y2.1 hl;have hm':=Y2.1 hm;have e:x=y:=by
   rcases YK.1 ((k x).1 (by simp)) with e|e
   .
    exact e
   rcases YK.1 ((k y).2 (by simp)) with e2|e2
   .
    exact e2.symm
   have h1:=hm'.1 x e;have h2:=hl'.1 y e2;have:=h.anti x y;omega
  subst e
  congr 1
  refine Ba h hl'.2 hm'.2 fun z=>⟨fun hz=>?_,fun hz=>?_⟩
  .
   rcases YK.1 ((k z).1 (by simp[hz])) with e|e
   .
    subst e;have:=hl'.1 z hz;have:=h.self z;omega
   exact e
  rcases YK.1 ((k z).2 (by simp[hz])) with e|e
  .
   subst e;have:=hm'.1 z hz;have:=h.self z;omega
  exact e
theorem mem_ix {α:Type}[Inhabited α] {l:List α}{x:α}:x∈l ↔ ∃ i,i<l.length/\l[i]! = x:=by
 constructor
 .
  intro h;obtain⟨i,hi,e⟩:=Zd h;exact⟨i,hi,by rw[getElem!_pos l i hi,e]⟩
 rintro⟨i,hi,e⟩
 rw[getElem!_pos l i hi] at e
 exact e ▸ Yv hi
theorem dW {α:Type}[Inhabited α] {l:List α}{i:Nat}(h:i<l.length):l[i]! ∈ l:=mem_ix.2 ⟨i,h,rfl⟩
theorem all_ix {α:Type}[Inhabited α] {l:List α}{p:α->Prop}:(∀ x∈l,p x) ↔ ∀ i,i<l.length->p l[i]! :=
 ⟨fun h i hi=>h _ (dW hi),fun h x hx=>by obtain⟨i,hi,rfl⟩:=mem_ix.1 hx;exact h i hi⟩
theorem IE {l:List Sgd}{q:Qst}:fO l q=none ↔ ∀ s∈l,s.q≠q:=by
 induction l with
 | nil=>simp[fO]
 | cons x l ih =>
  unfold fO
  split
  .
   rename_i e;simp[e]
  rename_i e;rw[ih];simp[e]
theorem Sa {l:List Sgd}(h:Ord l) {s:Sgd}(hs:s∈l):fO l s.q=some s:=by
 induction l with
 | nil=>cases hs
 | cons x l ih =>
  have h':=Y2.1 h;unfold fO
  rcases YK.1 hs with e|e
  .
   subst e;rw[X6 rfl]
  have:=h'.1 s e;rw[XZ,ih h'.2 e];intro e2;unfold sp at this;rw[qp_eq.2 e2] at this;omega
theorem TD (l:List Sgd) (q:Qst):∀ n k,l.length-k<=n->fO (l.drop k) q=if kw l q k<0 then none else some l[(kw l q k).toNat]! := by
 intro n
 induction n with
 | zero =>
  intro k h;have e:kw l q k = -1:=by rw[mK,XZ (by omega)]
  rw[e,YU (by omega),X6 (by omega)]
  rfl
 | succ n ih =>
  intro k h;rw[mK]
  by_cases hk:k<l.length
  .
   rw[X6 hk,Yy hk];unfold fO;rw[getElem!_pos l k hk]
   by_cases e:l[k].q=q
   .
    rw[X6 e,X6 e,XZ (by omega),show ((k:Int)).toNat=k by omega,getElem!_pos l k hk]
   rw[XZ e,XZ e,ih (k+1) (by omega)]
  rw[XZ hk,YU (by omega),X6 (by omega)]
  rfl
theorem D5 (l:List Sgd) (q:Qst):fO l q=if atF l q<0 then none else some l[(atF l q).toNat]! := TD l q _ 0 (XY _)
theorem Xi {l:List Sgd}{q:Qst}:atF l q<0 ↔ fO l q=none:=by
 rw[D5]
 split<;>simp_all
theorem Kl {l:List Sgd}{q:Qst}(ho:Ord l) (hn : ∀ s∈l,nameOk s.set.name=true) (hq:nameOk q.name=true):fO l q=if findOk l q=true then some l[findIx l q]! else none:=by
 have hc : ∀ k,k<l.length->qC l[k]!.q q=qp l[k]!.q q:=fun k hk=>yK (hn _ (dW hk)) hq
 obtain⟨h1,h2⟩:=WK (fun k=>qC l[k]!.q q) l.length (fun i j hij hj h=>by
   rw[hc _ (by omega)]
   rw[hc _ hj] at h
   by_cases e:i=j
   .
    subst e;exact h
   exact cm_q.lt_le (lG ho (by omega:i<j) hj) om) _ 0 l.length (XY _) (Yo _) (XY _) (fun k hk=>by omega) (fun k h1 h2=>by omega)
 have h1 : ∀ k,k<findIx l q->qC l[k]!.q q<0:=h1
 have h2 : ∀ k,findIx l q<=k->k<l.length -> ¬ qC l[k]!.q q<0:=h2
 have hle:findIx l q<=l.length:=(WL _ _ 0 l.length (XY _) (Yo _)).1
 by_cases h:findOk l q=true
 .
  rw[X6 h];unfold findOk at h;rw[XW,XX,YE] at h;obtain⟨h3,h4⟩:=h;rw[hc _ h3,qp_eq] at h4;have h5:=Sa ho (dW h3);rw[h4] at h5;exact h5
 rw[XZ h,IE]
 intro s hs e
 apply h
 obtain⟨k,hk,rfl⟩:=mem_ix.1 hs
 have hz:qC l[k]!.q q=0:=by rw[hc _ hk,qp_eq,e]
 have hk2:findIx l q<=k:=by
  rcases YV k (findIx l q) with h5|h5
  .
   have:=h1 k h5;omega
  exact h5
 have hk3:findIx l q=k:=by
  rcases YV (findIx l q) k with h5|h5
  .
   have h6:=h2 (findIx l q) (XY _) (by omega)
   rw[hc _ (by omega)] at h6
   have h7:=lG ho h5 hk;have h8:qp l[findIx l q]!.q l[k]!.q<0:=h7;rw[e] at h8;omega
  omega
 unfold findOk
 rw[hk3,Y1 hk,hz]
 rfl
structure ZOrd (z:Zon):Prop where
 apex:nameOk z.apex=true
 wild:wildB z.apex=false
 len:z.sets.length<=20000
 ok : ∀ s∈z.sets,pE s.set
 und : ∀ s∈z.sets,bT s.set.name z.apex
 ord:Ord z.sets
theorem ZOrd.nms {z:Zon}(h:ZOrd z):∀ s∈z.sets,nameOk s.set.name=true:=fun s hs=>(h.ok s hs).name
theorem ordered_iff {z:Zon}:ordered z=true ↔ ZOrd z:=by
 unfold ordered
 rw[XW,XW,XW,XX,Ye,dL]
 have hO : ∀ i,iG z.apex z.sets i=true ↔ (setOk z.sets[i]!.set=true/\underV z.sets[i]!.set.name z.apex=true)/\(i=0\/qC z.sets[i-1]!.q z.sets[i]!.q<0):=by
  intro i;simp[iG]
 constructor
 .
  rintro⟨⟨⟨h1,h2⟩,h3⟩,h4⟩;have h4 : ∀ i,i<z.sets.length->_:=fun i hi=>(hO i).1 (h4 i (Yo _) hi)
  refine⟨h1,h2,h3,all_ix.2 fun i hi=>(eT _).1 (h4 i hi).1.1,all_ix.2 fun i hi=>?_,xH cm_s fun i h0 hi=>?_⟩
  .
   exact (xz ((eT _).1 (h4 i hi).1.1).name h1).1 (h4 i hi).1.2
  have h5:=(h4 i hi).2;rw[yK ((eT _).1 (h4 (i-1) (by omega)).1.1).name ((eT _).1 (h4 i hi).1.1).name] at h5
  exact h5.resolve_left om
 intro h
 refine⟨⟨⟨h.apex,h.wild⟩,h.len⟩,fun i _ hi=>(hO i).2 ⟨⟨(eT _).2 (h.ok _ (dW hi)),(xz (h.nms _ (dW hi)) h.apex).2 (h.und _ (dW hi))⟩,?_⟩⟩
 by_cases e:i=0
 .
  exact .inl e
 right
 have hi1:i-1<z.sets.length:=by omega
 have n1:nameOk z.sets[i-1]!.q.name=true:=h.nms _ (dW hi1)
 have n2:nameOk z.sets[i]!.q.name=true:=h.nms _ (dW hi)
 rw[yK n1 n2]
 exact lG h.ord (by omega:i-1<i) hi
theorem Qk (a b:Sgd):rOrd a.set b.set=qO a.q b.q:=rfl
theorem one_iff {z:Zon}:oneB z=true ↔ ZOrd z:=by
 unfold oneB
 rw[XW,XW,XW,XX,Ye,dL]
 have hO : ∀ i,lK z.apex z.sets i=true ↔ (setOk z.sets[i]!.set=true/\inB z.sets[i]!.set.name z.apex=true)/\(i=0\/qO z.sets[i-1]!.q z.sets[i]!.q<0):=by
  intro i;simp[lK,Qk]
 constructor
 .
  rintro⟨⟨⟨h1,h2⟩,h3⟩,h4⟩;have h4 : ∀ i,i<z.sets.length->_:=fun i hi=>(hO i).1 (h4 i (Yo _) hi)
  refine⟨h1,by rw[EC h1];exact h2,h3,all_ix.2 fun i hi=>(eT _).1 (h4 i hi).1.1,all_ix.2 fun i hi=>?_,xH cm_s fun i h0 hi=>?_⟩
  .
   exact inB_und.1 (h4 i hi).1.2
  have h5:=(h4 i hi).2;rw[pX ((eT _).1 (h4 (i-1) (by omega)).1.1).name ((eT _).1 (h4 i hi).1.1).name] at h5
  exact h5.resolve_left om
 intro h
 refine⟨⟨⟨h.apex,by rw[<- EC h.apex];exact h.wild⟩,h.len⟩,fun i _ hi=>(hO i).2 ⟨⟨(eT _).2 (h.ok _ (dW hi)),inB_und.2 (h.und _ (dW hi))⟩,?_⟩⟩
 by_cases e:i=0
 .
  exact .inl e
 right
 have hi1:i-1<z.sets.length:=by omega
 have n1:nameOk z.sets[i-1]!.q.name=true:=h.nms _ (dW hi1)
 have n2:nameOk z.sets[i]!.q.name=true:=h.nms _ (dW hi)
 rw[pX n1 n2]
 exact lG h.ord (by omega:i-1<i) hi
theorem Ht (z:Zon):ordered z=oneB z:=by rw[Za,ordered_iff,one_iff]
theorem Dj {z:Zon}(h:ZOrd z) {q:Qst}(hq:nameOk q.name=true):findOk z.sets q=decide (0<=atF z.sets q):=by
 have h1:=Kl h.ord h.nms hq
 have h2:=D5 z.sets q
 rw[h1] at h2
 rw[Za,XX]
 by_cases e:findOk z.sets q=true
 .
  rw[X6 e] at h2
  split at h2
  .
   cases h2
  exact⟨fun _=>by omega,fun _=>e⟩
 rw[XZ e] at h2
 split at h2
 .
  exact⟨fun h=>absurd h e,fun h=>by omega⟩
 cases h2
theorem UQ {z:Zon}(h:ZOrd z) {q:Qst}(hq:nameOk q.name=true) (hf:0<=atF z.sets q):z.sets[findIx z.sets q]! = z.sets[(atF z.sets q).toNat]! := by
 have h1:=Kl h.ord h.nms hq
 have h2:=D5 z.sets q
 rw[Dj h hq,X6 (Y1 hf)] at h1
 rw[XZ (by omega),h1] at h2
 exact Z8 h2
theorem Xr {z:Zon}(h:ZOrd z):apexHolds z=twoB z:=by
 unfold apexHolds twoB
 congr 1
 have e:az 2 (iP z) 0=(iP z 0&&iP z 1):=by
  rw[dS,X6 (by omega),dS,X6 (by omega),dS,XZ (by omega),Bool.and_true]
 rw[e]
 unfold iP
 rw[Dj h h.apex,Dj h h.apex]
 rfl
end Go.Zon
namespace Go.Zon
open Go.DL Go.Str Go.Rec Go.Cmp
theorem Mm {n:Nat}{p:Nat->Bool}:az n p 0=false ↔ ∃ i,i<n/\p i=false:=by
 constructor
 .
  intro h
  apply YX
  intro k;have:az n p 0=true:=(dL _ _ _).2 fun i _ hi=>by
   cases e:p i with
   | true=>rfl
   | false=>exact absurd ⟨i,hi,e⟩ k
  rw[this] at h
  cases h
 rintro⟨i,hi,h⟩
 cases e:az n p 0 with
 | false=>rfl
 | true=>rw[(dL _ _ _).1 e i (Yo _) hi] at h;cases h
theorem Xy {n:Nat}{p q:Nat->Bool}:az n (fun i=>p i&&q i) 0=(az n p 0&&az n q 0):=by
 rw[Za,XW,dL,dL,dL]
 simp only[XW]
 exact⟨fun h=>⟨fun i h1 h2=>(h i h1 h2).1,fun i h1 h2=>(h i h1 h2).2⟩,fun h i h1 h2=>⟨h.1 i h1 h2,h.2 i h1 h2⟩⟩
section
variable {z : Zon} (h : ZOrd z)
include h
theorem rM {i j:Nat}(hij:i<=j) (hj:j<z.sets.length):nmOrd z.sets[i]!.set.name z.sets[j]!.set.name<=0:=by
 by_cases e:i=j
 .
  subst e;rw[cm_nm.self];exact Int.le_refl _
 exact (GQ (lG h.ord (by omega:i<j) hj)).1
theorem BR {i j:Nat}(hij:i<j) (hj:j<z.sets.length) (e:z.sets[i]!.set.name=z.sets[j]!.set.name):z.sets[i]!.set.ty<z.sets[j]!.set.ty :=
 (GQ (lG h.ord hij hj)).2 e
theorem Rm {i k j:Nat}(hik:i<=k) (hkj:k<=j) (hj:j<z.sets.length) (e:z.sets[i]!.set.name=z.sets[j]!.set.name):z.sets[k]!.set.name=z.sets[j]!.set.name:=by
 have h1:=rM h hik (by omega)
 have h2:=rM h hkj hj
 rw[e] at h1
 have:=cm_nm.anti z.sets[k]!.set.name z.sets[j]!.set.name
 exact vU om
theorem Cg {i:Nat}(hi:i<z.sets.length):z.sets[i]!.set.name≠[]:=by
 intro e
 have:=h.nms _ (dW hi)
 rw[e,Ci] at this
 cases this
theorem Nb {i:Nat}(hi:i<z.sets.length):1<=z.sets[i]!.set.ty/\z.sets[i]!.set.ty<=8:=inR_iff.1 (h.ok _ (dW hi)).ty
def Ei (l:List Sgd):Prop:=∃ i,i+1<l.length/\l[i]!.set.name=l[i+1]!.set.name/\(l[i+1]!.set.ty=3\/(l[i]!.set.ty=3/\l[i+1]!.set.ty≠8))
omit h in
theorem Ms (l:List Sgd):∀ k,eP l k≠[] -> ∃ j,j<k/\l[j]!.set.ty=3/\l[j]!.set.name=eP l k
 | 0,hk=>absurd rfl hk
 | k+1,hk=>by
  unfold eP at hk ⊢
  split at hk
  .
   rename_i e;exact⟨k,om,e,by rw[X6 e]⟩
  rename_i e
  obtain⟨j,h1,h2,h3⟩:=Ms l k hk;exact⟨j,om,h2,by rw[XZ e,h3]⟩
omit h in
theorem XD:aliasB (layOf z)=false ↔ Ei z.sets:=by
 unfold aliasB
 rw[Mm]
 show (∃ i,i<z.sets.length/\iC z.sets i=false) ↔ _
 unfold iC Ei
 constructor
 .
  rintro⟨i,hi,k⟩;simp only[Yj,YA,Yw,Ye,XX,X9,YE,XW,Ye,ZL,ne_eq] at k;obtain⟨k1,k2|⟨k2,k3⟩⟩:=k
  .
   exact⟨i-1,om,by rw[show i-1+1=i by omega];exact k2.2,.inl (by rw[show i-1+1=i by omega];exact k1)⟩
  exact⟨i,om,k2.2.symm,.inr ⟨k1,k3⟩⟩
 rintro⟨i,hi,k1,k2⟩
 rcases k2 with k2|⟨k2,k3⟩
 .
  refine⟨i+1,hi,?_⟩;have hb:(z.sets[i]!.set.name==z.sets[i+1]!.set.name)=true:=YE.2 k1;rw[Y1 k2,Nat.add_sub_cancel,hb,Y1 (show 0<i+1 by omega)]
  rfl
 refine⟨i,om,?_⟩
 have hb:(z.sets[i+1]!.set.name==z.sets[i]!.set.name)=true:=YE.2 k1.symm
 rw[Y1 k2,Y1 hi,hb,Y6 k3]
 simp
theorem Ng:threeB z=false ↔ Ei z.sets:=by
 unfold threeB
 rw[Mm]
 have hp : ∀ i,gP z.sets i≠[] ↔ (0<i/\z.sets[i-1]!.set.name=z.sets[i]!.set.name/\z.sets[i]!.set.name≠[]):=by
  intro i;unfold gP;split
  .
   rename_i q;exact⟨fun k=>⟨q.1,q.2,k⟩,fun k=>k.2.2⟩
  rename_i q;exact⟨fun k=>absurd rfl k,fun k=>absurd ⟨k.1,k.2.1⟩ q⟩
 have hpe : ∀ i,0<i->z.sets[i-1]!.set.name=z.sets[i]!.set.name->gP z.sets i=z.sets[i]!.set.name:=fun i h1 h2=>X6 ⟨h1,h2⟩
 have key : ∀ i,fT z.sets i=false ↔ (gP z.sets i≠[]/\(z.sets[i]!.set.ty=3\/(gP z.sets i=eP z.sets (i+1)/\z.sets[i]!.set.ty≠3/\z.sets[i]!.set.ty≠8))):=by
  intro i;unfold fT
  by_cases a1:gP z.sets i=[]<;>by_cases a2:z.sets[i]!.set.ty=3<;>by_cases a3:gP z.sets i=eP z.sets (i+1)<;>by_cases a4:z.sets[i]!.set.ty=8<;>simp_all
 constructor
 .
  rintro⟨i,hi,k⟩;rw[key] at k;obtain⟨k1,k2⟩:=k;obtain⟨k0,k3,k4⟩:=(hp i).1 k1
  rcases k2 with k2|⟨k5,k6,k7⟩
  .
   exact⟨i-1,om,by rw[show i-1+1=i by omega];exact k3,.inl (by rw[show i-1+1=i by omega];exact k2)⟩
  rw[hpe i k0 k3] at k5;obtain⟨j,j1,j2,j3⟩:=Ms z.sets (i+1) (by rw[<- k5];exact k4)
  rw[<- k5] at j3;have hji:j<i:=by
   rcases YV j i with e|e
   .
    exact e
   have:j=i:=by omega
   subst this;exact absurd j2 k6
  have hm:=Rm h (i:=j) (k:=j+1) (j:=i) (by omega) (by omega) hi j3
  refine⟨j,om,by rw[hm,j3],.inr ⟨j2,?_⟩⟩
  have:=Nb h hi
  by_cases e:j+1=i
  .
   rw[e];exact k7
  have:=BR h (i:=j+1) (j:=i) om hi hm;omega
 rintro⟨i,hi,k1,k2⟩
 refine⟨i+1,hi,(key _).2 ⟨(hp _).2 ⟨om,k1,Cg h hi⟩,?_⟩⟩
 rcases k2 with k2|⟨k2,k3⟩
 .
  exact .inl k2
 have ht:=BR h (i:=i) (j:=i+1) (by omega) hi k1
 by_cases e:z.sets[i+1]!.set.ty=3
 .
  exact .inl e
 refine .inr ⟨?_,e,k3⟩
 rw[hpe (i+1) (by omega) k1]
 show _=(if z.sets[i+1]!.set.ty=3 then _ else eP z.sets (i+1))
 rw[XZ e]
 show _=(if z.sets[i]!.set.ty=3 then z.sets[i]!.set.name else _)
 rw[X6 k2,k1]
theorem XC:aliasB (layOf z)=threeB z:=by
 have h1:=XD (z:=z)
 have h2:=Ng h
 cases e1:aliasB (layOf z)<;>cases e2:threeB z
 .
  rfl
 .
  rw[e1] at h1;rw[e2] at h2;have:=h2.2 (h1.1 rfl);cases this
 .
  rw[e1] at h1;rw[e2] at h2;have:=h1.2 (h2.1 rfl);cases this
 rfl
end
def Top (C:Str->Prop) (n c:Str):Prop:=C c/\bT n c /\ ∀ c',C c'->bT c c'->c'=c
def sQ (C:Str->Prop) (n b:Str):Prop:=(b=[] /\ ∀ c,C c -> ¬ bT n c)\/(b≠[]/\Top C n b)
theorem AY {C:Str->Prop}{n c c':Str}(h:Top C n c) (h1:C c') (h2:bT n c'):bT c' c:=by
 rcases M6 h.2.1 h2 with k|k
 .
  rw[h.2.2 c' h1 k];exact AR _
 exact k
theorem Xa {C:Str->Prop}{n b b':Str}(h:sQ C n b) (h':sQ C n b'):b=b':=by
 rcases h with⟨h1,h2⟩|⟨h1,h2⟩<;>rcases h' with⟨k1,k2⟩|⟨k1,k2⟩
 .
  rw[h1,k1]
 .
  exact absurd k2.2.1 (h2 _ k2.1)
 .
  exact absurd h2.2.1 (k2 _ h2.1)
 exact EN (AY k2 h2.1 h2.2.1) (AY h2 k2.1 k2.2.1)
def iT (z:Zon) (c:Str):Prop:=∃ i,i<z.sets.length/\z.sets[i]!.set.ty=2/\z.sets[i]!.set.name≠z.apex/\z.sets[i]!.set.name=c
theorem Sc {m:List Str}{a b:Str}:il (mf m a) b=true ↔ b=a\/il m b=true:=by
 unfold mf
 split
 .
  rename_i h
  constructor
  .
   exact fun k=>.inr k
  rintro (k|k)
  .
   rw[k];exact h
  exact k
 unfold il
 simp only[XX,Yx,YK,ZF,or_false]
 exact⟨fun k=>k.symm,fun k=>k.symm⟩
theorem Lj (z:Zon) (c:Str):∀ k,il (bQ z k) c=true ↔ ∃ i,i<k/\z.sets[i]!.set.ty=2/\z.sets[i]!.set.name≠z.apex/\z.sets[i]!.set.name=c
 | 0=>by simp[bQ,il]
 | k+1=>by
  have ih:=Lj z c k
  by_cases e:z.sets[k]!.set.ty=2 /\ ¬ z.sets[k]!.set.name=z.apex
  .
   rw[Lh e,Sc,ih]
   constructor
   .
    rintro (k1|⟨i,k1,k2⟩)
    .
     exact⟨k,om,e.1,e.2,k1.symm⟩
    exact⟨i,om,k2⟩
   rintro⟨i,k1,k2⟩
   by_cases e2:i=k
   .
    subst e2;exact .inl k2.2.2.symm
   exact .inr ⟨i,om,k2⟩
  rw[Li e,ih]
  constructor
  .
   rintro⟨i,k1,k2⟩;exact⟨i,om,k2⟩
  rintro⟨i,k1,k2⟩
  by_cases e2:i=k
  .
   subst e2;exact absurd ⟨k2.1,k2.2.1⟩ e
  exact⟨i,om,k2⟩
theorem cutZ_mem {z:Zon}{c:Str}:il (bQ z z.sets.length) c=true ↔ iT z c:=Lj z c _
theorem Ad (z:Zon) (c:Str):∀ k,c∈iA z k ↔ ∃ i,i<k/\z.sets[i]!.set.ty=2/\z.sets[i]!.set.name≠z.apex/\z.sets[i]!.set.name=c
 | 0=>by simp[iA]
 | k+1=>by
  have ih:=Ad z c k;unfold iA
  by_cases e:z.sets[k]!.set.ty=2/\z.sets[k]!.set.name≠z.apex
  .
   rw[X6 e,Yx,ih]
   constructor
   .
    rintro (⟨i,k1,k2⟩|k1)
    .
     exact⟨i,om,k2⟩
    exact⟨k,om,e.1,e.2,by simpa using (Yq.1 k1).symm⟩
   rintro⟨i,k1,k2⟩
   by_cases e2:i=k
   .
    subst e2;exact .inr (Yq.2 k2.2.2.symm)
   exact .inl ⟨i,om,k2⟩
  rw[XZ e,ih]
  constructor
  .
   rintro⟨i,k1,k2⟩;exact⟨i,om,k2⟩
  rintro⟨i,k1,k2⟩
  by_cases e2:i=k
  .
   subst e2;exact absurd ⟨k2.1,k2.2.1⟩ e
  exact⟨i,om,k2⟩
section
variable {z : Zon} (h : ZOrd z)
include h
theorem DD {c:Str}(hc:iT z c):nameOk c=true/\c≠[]:=by
 obtain⟨i,hi,_,_,rfl⟩:=hc
 exact⟨h.nms _ (dW hi),Cg h hi⟩
theorem LZ : ∀ k,k<=z.sets.length->(k=0\/sQ (iT z) z.sets[k-1]!.set.name (bO (bQ z z.sets.length) z.sets k).2)
 | 0,_=>.inl rfl
 | k+1,hk=>by
  have hk':k<z.sets.length:=by omega
  have hn:=h.nms _ (dW hk');have hne:=Cg h hk'
  right
  show sQ (iT z) z.sets[k]!.set.name (stepC (bQ z z.sets.length) (bO (bQ z z.sets.length) z.sets k).2 z.sets[k]!.set.name)
  have ih:=LZ k (by omega)
  generalize hcut:(bO (bQ z z.sets.length) z.sets k).2=cut at ih;generalize hN:z.sets[k]!.set.name=n at *;have A : ∀ c',iT z c'->bT n c'->c'≠n->cut≠[]/\Top (iT z) n cut:=by
   intro c' hc hu hne';obtain⟨i,hi,hi2,hi3,hi4⟩:=hc;have hik:i<k:=by
    rcases YV i k with e|e
    .
     exact e
    have h1:=rM h e hi;rw[hN,hi4] at h1;have h2:=AV hu;have:=cm_nm.anti n c';exact absurd (vU (by omega:nmOrd c' n=0)) hne'
   have h1:bT z.sets[k-1]!.set.name c':=by
    refine AU hu ?_ ?_
    .
     rw[<- hi4];exact rM h (by omega) (by omega)
    rw[<- hN];exact rM h (by omega) hk'
   rcases ih with e|⟨e,e2⟩|⟨e,e2⟩
   .
    omega
   .
    exact absurd h1 (e2 _ ⟨i,hi,hi2,hi3,hi4⟩)
   have h3:=AY e2 ⟨i,hi,hi2,hi3,hi4⟩ h1;exact⟨e,e2.1,AQ hu h3,e2.2.2⟩
  have B:(∀ c',iT z c'->bT n c'->c'=n)->sQ (iT z) n (if il (bQ z z.sets.length) n=true then n else []):=by
   intro hall
   by_cases e:il (bQ z z.sets.length) n=true
   .
    rw[X6 e];exact .inr ⟨hne,cutZ_mem.1 e,AR _,hall⟩
   rw[XZ e];exact .inl ⟨rfl,fun c hc hu=>e (by rw[hall c hc hu] at hc;exact cutZ_mem.2 hc)⟩
  unfold stepC;dsimp only
  by_cases e1:cut≠[]/\underV n cut=false
  .
   rw[X6 e1];have hCc:iT z cut:=by
    rcases ih with e|⟨e,_⟩|⟨_,e⟩
    .
     subst e;exact absurd (show cut=[] from hcut.symm) e1.1
    .
     exact absurd e e1.1
    exact e.1
   have hall : ∀ c',iT z c'->bT n c'->c'=n:=by
    intro c' hc hu
    apply YX
    intro hne';obtain⟨_,a2⟩:=A c' hc hu hne';have:=(xz hn (DD h hCc).1).2 a2.2.1;rw[e1.2] at this;cases this
   have:=B hall
   by_cases e:il (bQ z z.sets.length) n=true
   .
    rw[X6 ⟨rfl,e⟩];rw[X6 e] at this;exact this
   rw[XZ (fun q=>e q.2)];rw[XZ e] at this;exact this
  rw[XZ e1]
  by_cases e2:cut=[]
  .
   have hall : ∀ c',iT z c'->bT n c'->c'=n:=by
    intro c' hc hu
    apply YX
    intro hne';exact (A c' hc hu hne').1 e2
   have:=B hall
   by_cases e:il (bQ z z.sets.length) n=true
   .
    rw[X6 ⟨e2,e⟩];rw[X6 e] at this;exact this
   rw[XZ (fun q=>e q.2),e2];rw[XZ e] at this;exact this
  rw[XZ (fun q=>e2 q.1)]
  have hT:Top (iT z) z.sets[k-1]!.set.name cut:=by
   rcases ih with e|⟨e,_⟩|⟨_,e⟩
   .
    subst e;exact absurd (show cut=[] from hcut.symm) e2
   .
    exact absurd e e2
   exact e
  have hu:underV n cut=true:=by
   cases e:underV n cut with
   | true=>rfl
   | false=>exact absurd ⟨e2,e⟩ e1
  exact .inr ⟨e2,hT.1,(xz hn (DD h hT.1).1).1 hu,hT.2.2⟩
omit h in
theorem Xb (m:List Str) (l:List Sgd):∀ n k,k<n->(bO m l n).1[k]! = (bO m l (k+1)).2:=by
 intro n
 induction n with
 | zero=>intro k h;omega
 | succ n ih =>
  intro k h;have hl:=qR m l n;have e1:(bO m l (n+1)).1=(bO m l n).1++[(bO m l (n+1)).2]:=rfl
  by_cases e:k=n
  .
   subst e;rw[e1];simp[hl]
  rw[<- ih k (by omega),e1,getElem!_pos _ _ (by simp[hl];omega),getElem!_pos _ _ (by omega),List.getElem_append_left]
theorem Xe {k:Nat}(hk:k<z.sets.length):sQ (iT z) z.sets[k]!.set.name (uJ z)[k]! := by
 unfold uJ
 rw[Xb _ _ _ _ hk]
 exact (LZ h (k+1) hk).resolve_left om
theorem Ll : ∀ k,k<=z.sets.length->jA nmOrd (iA z k)
 | 0,_=>.nil
 | k+1,hk=>by
  have ih:=Ll k (by omega)
  unfold iA
  split
  .
   rename_i e
   refine Zi.2 ⟨ih,ZC _ _,fun a ha b hb=>?_⟩
   rw[Yq] at hb;subst hb;obtain⟨i,hi,hi2,hi3,rfl⟩:=(Ad z a k).1 ha;have h1:=rM h (show i<=k by omega) (by omega)
   by_cases e2:nmOrd z.sets[i]!.set.name z.sets[k]!.set.name=0
   .
    have:=BR h hi om (vU e2);omega
   omega
  exact ih
structure High (cs hs:List Str):Prop where
 sub : ∀ x∈hs,x∈cs
 cov : ∀ c∈cs,∃ x∈hs,bT c x
 pair:hs.Pairwise fun a b=>nmOrd a b<0 /\ ¬ bT b a
omit h in
theorem IX {α:Type}[Inhabited α] {l:List α}(h:l≠[]):l[l.length-1]! ∈ l:=dW (by have:=Zr.2 h;omega)
omit h in
theorem u7! {α:Type}[Inhabited α] {l:List α}{k:Nat}(h:k<l.length):l.take (k+1)=l.take k++[l[k]!]:=by
 rw[Y8,Yg h,getElem!_pos l k h]
 rfl
omit h in
theorem Re {α:Type}[Inhabited α] {r:α->α->Prop}{l:List α}(h:l.Pairwise r) {x:α}(hx:x∈l):x=l[l.length-1]! \/ r x l[l.length-1]! := by
 obtain⟨i,hi,rfl⟩:=mem_ix.1 hx
 by_cases e:i=l.length-1
 .
  left;rw[<- e]
 right
 rw[getElem!_pos l i hi,getElem!_pos l _ (by omega)]
 exact ZM.1 h i (l.length-1) hi om om
omit h in
theorem Jz {cs:List Str}(hc:jA nmOrd cs):∀ k,k<=cs.length->High (cs.take k) (bH cs k)
 | 0,_=>⟨fun x hx=>(by simp[bH] at hx),fun c hc=>(by simp at hc),(by simp[bH])⟩
 | k+1,hk=>by
  have ih:=Jz hc k (by omega)
  have hkl:k<cs.length:=by omega
  have ht:cs.take (k+1)=cs.take k++[cs[k]!]:=u7! hkl;have hlt : ∀ x∈cs.take k,nmOrd x cs[k]! < 0:=by
   intro x hx;obtain⟨i,hi,e⟩:=mem_ix.1 hx;rw[Yu] at hi;have e2:(cs.take k)[i]! = cs[i]! := by
    rw[getElem!_pos _ _ (by rw[Yu];omega),getElem!_pos _ _ (by omega),List.getElem_take]
   rw[<- e,e2];exact lG hc om hkl
  unfold bH
  by_cases e:bH cs k=[]\/inB cs[k]! (bH cs k)[(bH cs k).length-1]! = false
  .
   rw[X6 e,ht];refine⟨fun x hx=>?_,fun c hc'=>?_,Zi.2 ⟨ih.pair,ZC _ _,fun a ha b hb=>?_⟩⟩
   .
    rcases Yx.1 hx with hx|hx
    .
     exact ZU _ (ih.sub x hx)
    exact List.mem_append_right _ hx
   .
    rcases Yx.1 hc' with hc'|hc'
    .
     obtain⟨x,hx,hu⟩:=ih.cov c hc';exact⟨x,ZU _ hx,hu⟩
    exact⟨c,List.mem_append_right _ hc',AR _⟩
   rw[Yq] at hb;subst hb;refine⟨hlt a (ih.sub a ha),fun hu=>?_⟩
   have hne:bH cs k≠[]:=fun q=>by rw[q] at ha;cases ha
   have hin:=e.resolve_left hne;have hnl : ¬ bT cs[k]! (bH cs k)[(bH cs k).length-1]! := fun q=>by rw[inB_und.2 q] at hin;cases hin
   rcases Re ih.pair ha with q|q
   .
    rw[<- q] at hnl;exact hnl hu
   have hl:=hlt _ (ih.sub _ (IX hne));exact q.2 (AU hu om om)
  rw[XZ e,ht];have hne:bH cs k≠[]:=fun q=>e (.inl q)
  have hin:bT cs[k]! (bH cs k)[(bH cs k).length-1]! := by
   apply inB_und.1
   cases q:inB cs[k]! (bH cs k)[(bH cs k).length-1]! with
   | true=>rfl
   | false=>exact absurd (.inr q) e
  refine⟨fun x hx=>ZU _ (ih.sub x hx),fun c hc'=>?_,ih.pair⟩
  rcases Yx.1 hc' with hc'|hc'
  .
   exact ih.cov c hc'
  rw[Yq] at hc';subst hc';exact⟨_,IX hne,hin⟩
theorem Ue:(∀ x∈highF z,iT z x)/\(∀ c,iT z c -> ∃ x∈highF z,bT c x)/\(highF z).Pairwise fun a b=>nmOrd a b<0 /\ ¬ bT b a:=by
 have hh:=Jz (Ll h z.sets.length (XY _)) _ (XY _)
 rw[YG] at hh
 exact⟨fun x hx=>(Ad z x _).1 (hh.sub x hx),fun c hc=>hh.cov c ((Ad z c _).2 hc),hh.pair⟩
omit h in
theorem XE (hs:List Str) (n:Str):∀ m i,hs.length-i<=m->i<=hs.length->(∀ k,k<i->nmOrd hs[k]! n<=0)->(∀ k,k<jU hs n i->nmOrd hs[k]! n<=0)/\(jU hs n i<hs.length -> ¬ nmOrd hs[jU hs n i]! n<=0):=by
 intro m
 induction m with
 | zero=>intro i h1 h2 h3;rw[qY,XZ (by omega)];exact⟨h3,fun h=>by omega⟩
 | succ m ih =>
  intro i h1 h2 h3;rw[qY]
  by_cases e:i<hs.length
  .
   rw[X6 e]
   by_cases e2:nmOrd hs[i]! n<=0
   .
    rw[X6 e2];refine ih (i+1) om om fun k hk=>?_
    by_cases e3:k=i
    .
     subst e3;exact e2
    exact h3 k om
   rw[XZ e2];exact⟨h3,fun _=>e2⟩
  rw[XZ e];exact⟨h3,fun h=>absurd h e⟩
theorem Mt (hs:List Str):∀ k,k<=z.sets.length->eD hs z.sets k<=hs.length/\(0<k->(∀ i,i<eD hs z.sets k->nmOrd hs[i]! z.sets[k-1]!.set.name<=0)/\(eD hs z.sets k<hs.length -> ¬ nmOrd hs[eD hs z.sets k]! z.sets[k-1]!.set.name<=0))
 | 0,_=>⟨Yo _,fun h=>by omega⟩
 | k+1,hk=>by
  obtain⟨h1,h2⟩:=Mt hs k om;have h3 : ∀ i,i<eD hs z.sets k->nmOrd hs[i]! z.sets[k]!.set.name<=0:=by
   intro i hi
   by_cases e:k=0
   .
    subst e;exact absurd hi (Nat.not_lt_zero _)
   exact cm_nm.tr _ _ _ ((h2 om).1 i hi) (rM h om om)
  exact⟨(XF hs _ _ _ (XY _) h1).2,fun _=>XE hs z.sets[k]!.set.name _ _ (XY _) h1 h3⟩
omit h in
theorem Xd (hs:List Str) (l:List Sgd):∀ n k,k<n->(iO hs l n)[k]! = eO hs l[k]!.set.name (eD hs l (k+1)):=by
 intro n
 induction n with
 | zero=>intro k h;omega
 | succ n ih =>
  intro k h;have hl:=o9 hs l n;have e1:iO hs l (n+1)=iO hs l n++[eO hs l[n]!.set.name (eD hs l (n+1))]:=rfl
  by_cases e:k=n
  .
   subst e;rw[e1];simp[hl]
  rw[<- ih k (by omega),e1,getElem!_pos (iO hs l n++_) k (by simp[hl];omega),getElem!_pos (iO hs l n) k (by omega),List.getElem_append_left]
theorem Xc {k:Nat}(hk:k<z.sets.length):sQ (iT z) z.sets[k]!.set.name (behR z)[k]! := by
 unfold behR
 rw[Xd _ _ _ _ hk]
 obtain⟨g1,g2,g3⟩:=Ue h
 obtain⟨a1,a2⟩:=Mt h (highF z) (k+1) hk
 obtain⟨a3,a4⟩:=a2 om
 rw[show k+1-1=k from rfl] at a3 a4
 generalize eD (highF z) z.sets (k+1)=j at *
 generalize z.sets[k]!.set.name=n at *
 have pr : ∀ i i',i<i'->i'<(highF z).length->nmOrd (highF z)[i]! (highF z)[i']! < 0 /\ ¬ bT (highF z)[i']! (highF z)[i]! := by
  intro i i' h1 h2;rw[getElem!_pos _ i (by omega),getElem!_pos _ i' h2]
  exact ZM.1 g3 i i' om h2 h1
 unfold eO
 by_cases e:0<j/\inB n (highF z)[j-1]! = true
 .
  rw[X6 e];have hm:(highF z)[j-1]! ∈ highF z:=dW om;refine .inr ⟨(DD h (g1 _ hm)).2,g1 _ hm,inB_und.1 e.2,fun c' hc' hu=>?_⟩
  obtain⟨x,hx,hxu⟩:=g2 c' hc';have hxx:bT (highF z)[j-1]! x:=AQ hu hxu;obtain⟨i,hi,rfl⟩:=mem_ix.1 hx;have hij:i=j-1:=by
   rcases Nat.lt_trichotomy i (j-1) with q|q|q
   .
    exact absurd hxx (pr i (j-1) q om).2
   .
    exact q
   have:=(pr (j-1) i q hi).1;have:=AV hxx;have:=cm_nm.anti (highF z)[j-1]! (highF z)[i]!;omega
  rw[hij] at hxu;exact EN hxu hu
 rw[XZ e]
 refine .inl ⟨rfl,fun c hc hu=>?_⟩
 obtain⟨x,hx,hxu⟩:=g2 c hc
 have hnx:bT n x:=AQ hu hxu
 obtain⟨i,hi,rfl⟩:=mem_ix.1 hx
 have hle:=AV hnx
 have hij:i<j:=by
  rcases YV i j with q|q
  .
   exact q
  exfalso
  have h5:=a4 (by omega)
  by_cases q2:i=j
  .
   subst q2;exact h5 hle
  have h6:=(pr j i (by omega) hi).1
  exact h5 (cm_nm.tr _ _ _ om hle)
 by_cases q:i=j-1
 .
  exact e ⟨om,by rw[<- q];exact inB_und.2 hnx⟩
 have h6:=pr i (j-1) (by omega) (by omega)
 exact h6.2 (AU hnx om (a3 (j-1) om))
theorem L6:uJ z=behR z:=by
 have l1:(uJ z).length=z.sets.length:=qR _ _ _
 have l2:(behR z).length=z.sets.length:=o9 _ _ _
 exact vX! om fun i hi=>Xa (Xe h om) (Xc h om)
theorem UK:(glueB (layOf z)&&formB (layOf z))=fiveB z:=by
 unfold fiveB oQ glueB formB layOf
 rw[Xy,L6 h,Bool.and_comm]
theorem V9:cutB (layOf z)=fourB z:=by
 unfold fourB layOf
 rw[L6 h]
end
theorem qZ (z:Zon):zoneOk z=refOk z:=by
 unfold zoneOk refOk
 by_cases e:ordered z=true
 .
  have h:=ordered_iff.1 e;rw[<- Ht,Xr h,XC h,V9 h,<- UK h];simp only[ZZ]
 rw[<- Ht]
 have:ordered z=false:=by simpa using e
 rw[this]
 simp
theorem kJ {z:Zon}(h:zoneOk z=true):ZOrd z:=by
 unfold zoneOk at h
 simp only[XW] at h
 exact ordered_iff.1 h.1.1.1.1.1
theorem FK {z:Zon}(h:zoneOk z=true):serialOf z=serialR z:=by
 have ho:=kJ h
 unfold serialOf serialR
 rw[UQ ho (q:=⟨z.apex,4⟩) ho.apex (vG (by rw[<- qZ];exact h))]
end Go.Zon
namespace Go.Zon
open Go.DL Go.Str Go.Rec Go.Cmp
@[go_sem] theorem ZcA {kv:List D}:(D.fmap kv).cells=[.fmap kv]:=rfl
@[go_sem] theorem one_fmap {kv:List D}:(D.fmap kv).one=true:=rfl
@[go_sem] theorem cells_mp {r:Nat}:(D.mp r).cells=[.mp r]:=rfl
@[go_sem] theorem one_mp {r:Nat}:(D.mp r).one=true:=rfl
@[go_sem] theorem one_map {o:Option Nat}:(D.v (.map o)).one=true:=rfl
theorem RD {m:PZ}:aZ [.fmap (jk m)]=true:=by simp only[aZ,D.nr,Ik,ZT]
theorem xn {z:Zon}(h:zoneOk z=true):dX z.sets:=PW (by rw[<- qZ];exact h)
theorem Kj {l:List Sgd}(h:dX l) {x:Sgd}(hx:x∈l):sF x:=by
 obtain⟨i,hi,rfl⟩:=mem_ix.1 hx
 exact h.2 i hi
theorem Ki {l:List Sgd}(hl:l.length<=1000000) (h : ∀ x∈l,sF x):dX l:=⟨hl,fun k hk=>h _ (dW hk)⟩
theorem II {l:List Sgd}{q:Qst}:∀ k,k<=l.length->((fO (nX l k) q).isSome=true ↔ ∃ s∈l.take k,s.q=q)
 | 0,_=>by simp[nX,fO]
 | k+1,hk=>by
  have ih:=II (l:=l) (q:=q) k (by omega)
  have e:l.take (k+1)=l.take k++[l[k]!]:=by
   rw[Y8,Yg (by omega),getElem!_pos l k (by omega)];rfl
  show (fO (rT (nX l k) l[k]!) q).isSome=true ↔ _
  rw[RZ,e]
  by_cases h2:l[k]!.q=q
  .
   rw[X6 h2];exact⟨fun _=>⟨l[k]!,by simp,h2⟩,fun _=>rfl⟩
  rw[XZ h2,ih]
  constructor
  .
   rintro⟨s,h3,h4⟩;exact⟨s,ZU _ h3,h4⟩
  rintro⟨s,h3,h4⟩
  rcases Yx.1 h3 with h5|h5
  .
   exact⟨s,h5,h4⟩
  rw[Yq] at h5;subst h5;exact absurd h4 h2
theorem Sm {l:List Sgd}{q:Qst}:(eB (mapP l) q).isSome=true ↔ ∃ s∈l,s.q=q:=by
 rw[Q4]
 unfold vV
 rw[II _ (XY _),YG]
theorem JF {put:List Sgd}{drop:List Qst}{q:Qst}:(eB (mU put drop) q).isSome=true ↔ (q∈drop \/ ∃ s∈put,s.q=q):=by
 unfold mU
 rw[JG _ _ _ _ (XY _),YG,MF,Sm]
def leS (a b:Sgd):Bool:=decide (sp a b<=0)
def leQ (a b:Qst):Bool:=decide (qp a b<=0)
def ut {α:Type}(le:α->α->Bool) (a:α):List α->List α
 | []=>[a]
 | b::l=>if le a b then a::b::l else b::ut le a l
def xM {α:Type}(le:α->α->Bool) (l:List α):List α:=l.foldr (ut le) []
theorem Ju {α:Type}(le:α->α->Bool) (a:α) (l:List α):(ut le a l).Perm (a::l):=by
 induction l with
 | nil=>exact .refl _
 | cons b l ih =>
  unfold ut
  split
  .
   exact .refl _
  exact (List.Perm.cons b ih).trans (List.Perm.swap a b l)
theorem Oa {α:Type}(le:α->α->Bool) (l:List α):(xM le l).Perm l:=by
 induction l with
 | nil=>exact .refl _
 | cons a l ih=>exact (Ju le a _).trans (List.Perm.cons a ih)
theorem TU {α:Type}{le:α->α->Bool}(tr : ∀ a b c,le a b=true->le b c=true->le a c=true) (tot : ∀ a b,(le a b||le b a)=true) (a:α) (l:List α) (h:l.Pairwise fun a b=>le a b=true):(ut le a l).Pairwise fun a b=>le a b=true:=by
 induction l with
 | nil=>exact ZC _ _
 | cons b l ih =>
  have h':=Y2.1 h;unfold ut
  split
  .
   rename_i e
   refine Y2.2 ⟨fun z hz=>?_,h⟩
   rcases YK.1 hz with q|q
   .
    rw[q];exact e
   exact tr a b z e (h'.1 z q)
  rename_i e
  refine Y2.2 ⟨fun z hz=>?_,ih h'.2⟩
  rcases YK.1 ((Ju le a l).mem_iff.1 hz) with q|q
  .
   rw[q];have:=tot a b;rw[Yd] at this;exact this.resolve_left e
  exact h'.1 z q
theorem N9 {α:Type}{le:α->α->Bool}(tr : ∀ a b c,le a b=true->le b c=true->le a c=true) (tot : ∀ a b,(le a b||le b a)=true) (l:List α):(xM le l).Pairwise fun a b=>le a b=true:=by
 induction l with
 | nil=>exact .nil
 | cons a l ih=>exact TU tr tot a _ ih
def dV (l:List Sgd):List Sgd:=xM leS l
def N8 (l:List Qst):List Qst:=xM leQ l
theorem Wu {α:Type}{c:α->α->Int}(h:Cm c) (a b:α):(decide (c a b<=0)||decide (c b a<=0))=true:=by
 have:=h.anti a b
 by_cases e:c a b<=0
 .
  simp[e]
 have:c b a<=0:=by omega
 simp[this]
theorem vv (l:List Sgd):(dV l).Perm l:=Oa _ l
theorem NZ (l:List Sgd):(dV l).Pairwise fun a b=>sp a b<=0 :=
 (N9 (le:=leS) (fun a b c h1 h2=>Y1 (cm_s.tr a b c (Zj h1) (Zj h2))) (fun a b=>Wu cm_s a b) l).imp fun h=>Zj h
def Once (l:List Sgd):Prop:=l.Pairwise fun a b=>a.q≠b.q
theorem H6 {l m:List Sgd}(h:Once l) (p:m.Perm l):Once m:=p.symm.pairwise h fun e=>e.symm
theorem Hu {l:List Sgd}(h:Ord l):Once l:=h.imp fun {a b} k e=>by unfold sp at k;rw[qp_eq.2 e] at k;omega
theorem H5 {l:List Sgd}(h:Once l) (hs:l.Pairwise fun a b=>sp a b<=0):Ord l:=(hs.and h).imp fun {a b} k=>by
 by_cases e:sp a b=0
 .
  exact absurd (qp_eq.1 e) k.2
 have:=k.1;omega
theorem Fb {l:List Sgd}(h:Once l):Ord (dV l):=H5 (H6 h (vv l)) (NZ l)
theorem N7 {l m:List Sgd}(ho:Once l) (hp:m.Perm l) (hs:m.Pairwise fun a b=>sp a b<=0):m=dV l :=
 Ba cm_s (H5 (H6 ho hp) hs) (Fb ho) fun x=>by rw[hp.mem_iff,(vv l).mem_iff]
theorem sortS_mem {l:List Sgd}{x:Sgd}:x∈dV l ↔ x∈l:=(vv l).mem_iff
theorem xL (l:List Sgd):(dV l).length=l.length:=(vv l).length_eq
theorem PH {α:Type}{d:α->List D}{of:List D->α}(hof : ∀ x,of (d x)=x) {l:List α}{rows:List (List D)}(p:rows.Perm (l.map d)):(rows.map of).map d=rows/\(rows.map of).Perm l:=by
 constructor
 .
  rw[List.map_map]
  conv=>rhs;rw[<- List.map_id rows]
  refine Zz fun x hx=>?_
  obtain⟨y,_,rfl⟩:=Y5.1 (p.mem_iff.1 hx)
  show d (of (d y))=d y
  rw[hof]
 have:=p.map of
 rwa [lL hof] at this
structure DOk (d:Dlt):Prop where
 apex:nameOk d.apex=true
 wild:wildB d.apex=false
 frm:serB d.frm=true
 too:serB d.too=true
 bef:befB d.frm d.too=true
 dlen:d.drop.length<=20000
 plen:d.put.length<=20000
 dok : ∀ q∈d.drop,qOk q=true
 dord:jA qp d.drop
 pok : ∀ s∈d.put,pE s.set
 pord:Ord d.put
 apart : ∀ s∈d.put,s.q ∉ d.drop
theorem mF {q:Qst}(h:qOk q=true):nameOk q.name=true:=by unfold qOk at h;rw[XW] at h;exact h.1
theorem dlt_iff {d:Dlt}:dltOk d=true ↔ DOk d:=by
 have hd : ∀ i,lh d.drop i=true ↔ (qOk d.drop[i]! = true/\(i=0\/qO d.drop[i-1]! d.drop[i]! < 0)):=by intro i;simp[lh]
 have hp : ∀ i,putAt d i=true ↔ ((setOk d.put[i]!.set=true/\(i=0\/qO d.put[i-1]!.q d.put[i]!.q<0))/\askB d.drop d.put[i]!.q=false):=by intro i;simp[putAt]
 unfold dltOk
 simp only[XW,Ye,XX,dL]
 constructor
 .
  rintro⟨⟨⟨⟨⟨⟨⟨⟨h1,h2⟩,h3⟩,h4⟩,h5⟩,h6⟩,h7⟩,h8⟩,h9⟩;have h8 : ∀ i,i<d.drop.length->_:=fun i hi=>(hd i).1 (h8 i (Yo _) hi)
  have h9 : ∀ i,i<d.put.length->_:=fun i hi=>(hp i).1 (h9 i (Yo _) hi)
  refine⟨h1,h2,h3,h4,h5,h6,h7,all_ix.2 fun i hi=>(h8 i hi).1,xH cm_q fun i h0 hi=>?_,all_ix.2 fun i hi=>(eT _).1 (h9 i hi).1.1,xH cm_s fun i h0 hi=>?_,all_ix.2 fun i hi=>of_decide_eq_false (h9 i hi).2⟩
  .
   have:=(h8 i hi).2.resolve_left om;rwa [pX (mF (h8 (i-1) om).1) (mF (h8 i hi).1)] at this
  have:=(h9 i hi).1.2.resolve_left om;have n1:nameOk d.put[i-1]!.q.name=true:=((eT _).1 (h9 (i-1) om).1.1).name;have n2:nameOk d.put[i]!.q.name=true:=((eT _).1 (h9 i hi).1.1).name;rwa [pX n1 n2] at this
 intro h
 refine⟨⟨⟨⟨⟨⟨⟨⟨h.apex,h.wild⟩,h.frm⟩,h.too⟩,h.bef⟩,h.dlen⟩,h.plen⟩,fun i _ hi=>(hd i).2 ⟨h.dok _ (dW hi),?_⟩⟩,fun i _ hi=>(hp i).2 ⟨⟨(eT _).2 (h.pok _ (dW hi)),?_⟩,Y6 (h.apart _ (dW hi))⟩⟩
 .
  by_cases e:i=0
  .
   exact .inl e
  right
  rw[pX (mF (h.dok _ (dW (by omega)))) (mF (h.dok _ (dW hi)))]
  exact lG h.dord om hi
 by_cases e:i=0
 .
  exact .inl e
 right
 have n1:nameOk d.put[i-1]!.q.name=true:=(h.pok _ (dW (show i-1<d.put.length by omega))).name
 have n2:nameOk d.put[i]!.q.name=true:=(h.pok _ (dW hi)).name
 rw[pX n1 n2]
 exact lG h.pord om hi
def lg (l:List Qst) (i:Nat):Bool:=qOk l[i]! && (decide (i=0)||decide (qC l[i-1]! l[i]! < 0))
def kQ (d:Dlt) (i:Nat):Bool:=setOk d.put[i]!.set && !askB d.drop d.put[i]!.q&&(decide (i=0)||decide (qC d.put[i-1]!.q d.put[i]!.q<0))
def nC (d:Dlt):Bool:=nameOk d.apex && !wildB d.apex&&serB d.frm&&serB d.too&&befB d.frm d.too&&decide (d.drop.length<=20000)&&decide (d.put.length<=20000)&&az d.drop.length (lg d.drop) 0&&az d.put.length (kQ d) 0
theorem qN (d:Dlt):nC d=dltOk d:=by
 have e1:az d.drop.length (lg d.drop) 0=az d.drop.length (lh d.drop) 0:=by
  rw[Za,dL,dL];have hC : ∀ i,lg d.drop i=true ↔ (qOk d.drop[i]! = true/\(i=0\/qC d.drop[i-1]! d.drop[i]! < 0)):=by intro i;simp[lg]
  have hO : ∀ i,lh d.drop i=true ↔ (qOk d.drop[i]! = true/\(i=0\/qO d.drop[i-1]! d.drop[i]! < 0)):=by intro i;simp[lh]
  constructor
  .
   intro h i _ hi;have h1:=(hC i).1 (h i (Yo _) hi);have h2:=(hC (i-1)).1 (h (i-1) (Yo _) (by omega))
   exact (hO i).2 ⟨h1.1,h1.2.imp id fun k=>by rwa [<- vL (mF h2.1) (mF h1.1)]⟩
  intro h i _ hi;have h1:=(hO i).1 (h i (Yo _) hi);have h2:=(hO (i-1)).1 (h (i-1) (Yo _) (by omega))
  exact (hC i).2 ⟨h1.1,h1.2.imp id fun k=>by rwa [vL (mF h2.1) (mF h1.1)]⟩
 have e2:az d.put.length (kQ d) 0=az d.put.length (putAt d) 0:=by
  rw[Za,dL,dL];have hC : ∀ i,kQ d i=true ↔ ((setOk d.put[i]!.set=true/\askB d.drop d.put[i]!.q=false)/\(i=0\/qC d.put[i-1]!.q d.put[i]!.q<0)):=by intro i;simp[kQ]
  have hO : ∀ i,putAt d i=true ↔ ((setOk d.put[i]!.set=true/\(i=0\/qO d.put[i-1]!.q d.put[i]!.q<0))/\askB d.drop d.put[i]!.q=false):=by intro i;simp[putAt]
  have nm : ∀ i:Nat,setOk d.put[i]!.set=true->nameOk d.put[i]!.q.name=true:=fun i h=>((eT _).1 h).name
  constructor
  .
   intro h i _ hi;have h1:=(hC i).1 (h i (Yo _) hi);have h2:=(hC (i-1)).1 (h (i-1) (Yo _) (by omega))
   exact (hO i).2 ⟨⟨h1.1.1,h1.2.imp id fun k=>by rwa [<- vL (nm _ h2.1.1) (nm _ h1.1.1)]⟩,h1.1.2⟩
  intro h i _ hi;have h1:=(hO i).1 (h i (Yo _) hi);have h2:=(hO (i-1)).1 (h (i-1) (Yo _) (by omega))
  exact (hC i).2 ⟨⟨h1.1.1,h1.2⟩,h1.1.2.imp id fun k=>by rwa [vL (nm _ h2.1.1) (nm _ h1.1.1)]⟩
 unfold nC dltOk
 rw[e1,e2]
def kV (m:List Qst):List D:=m.flatMap fun q=>[.agg q.d,.b true]
theorem vY (q:Qst) (m:List Qst):kV (q::m) = .agg q.d :: .b true::kV m:=rfl
@[go_sem] theorem kvS_nil:kV []=[]:=rfl
def kP (m:List Qst) (q:Qst):List Qst:=if askB m q then m else m++[q]
theorem Tf {m:List Qst}{q:Qst}:(gz (kV m) (.agg q.d)).getD (.v (.bool false)) = .v (.bool (askB m q)):=by
 induction m with
 | nil=>rfl
 | cons s m ih =>
  rw[vY];simp only[gz,wo]
  by_cases h:q=s
  .
   subst h;simp[askB]
  simp only[h,decide_false,Ym,Y9,ih,askB,YK,false_or]
@[go_sem] theorem kvGetD_S {m:List Qst}{q:Qst}:(gz (kV m) (.agg [.v (.string (bs q.name)),.i q.ty])).getD (.v (.bool false)) = .v (.bool (askB m q)):=Tf
theorem SV {m:List Qst}{q:Qst}:fE (kV m) (.agg q.d) (.v (.bool true))=kV (kP m q):=by
 induction m with
 | nil=>rfl
 | cons s m ih =>
  rw[vY];simp only[fE,wo]
  by_cases h:q=s
  .
   subst h;have:kP (q::m) q=q::m:=by simp[kP,askB]
   rw[this,vY]
   simp
  have h2:kP (s::m) q=s::kP m q:=by
   unfold kP askB
   by_cases e:q∈m<;>simp[h,e]
  rw[h2,vY];simp only[h,decide_false,Ym,Y9,ih]
@[go_sem] theorem kvSet_S {m:List Qst}{q:Qst}:fE (kV m) (.agg [.v (.string (bs q.name)),.i q.ty]) (.v (.bool true))=kV (kP m q):=SV
def nO (l:List Qst):Nat->List Qst
 | 0=>[]
 | k+1=>kP (nO l k) l[k]!
@[go_sem] theorem qsTo_0 {l:List Qst}:nO l 0=[]:=rfl
theorem QA {m:List Qst}{q x:Qst}:x∈kP m q ↔ x=q\/x∈m:=by
 unfold kP askB
 by_cases e:q∈m
 .
  simp only[e,decide_true,ZK];exact⟨fun h=>.inr h,fun h=>h.elim (fun k=>k ▸ e) id⟩
 simp only[e,decide_false,Ym,Y9,Yx,Yq]
 exact⟨fun h=>h.symm,fun h=>h.symm⟩
theorem GN {l:List Qst}{x:Qst}:∀ k,k<=l.length->(x∈nO l k ↔ x∈l.take k)
 | 0,_=>by simp[nO]
 | k+1,hk=>by
  have e:l.take (k+1)=l.take k++[l[k]!]:=by
   rw[Y8,Yg (by omega),getElem!_pos l k (by omega)];rfl
  show x∈kP _ _ ↔ _
  rw[QA,GN k (by omega),e,Yx,Yq]
  exact⟨fun h=>h.symm,fun h=>h.symm⟩
@[go_sem] theorem ask_qs {l:List Qst}{q:Qst}:askB (nO l l.length) q=askB l q:=by
 unfold askB
 rw[ZI,GN _ (XY _),YG]
def bU (z:Zon) (d:Dlt):List Sgd:=z.sets.filterMap (eY (mU d.put d.drop))
def ig (z:Zon) (d:Dlt):Zon:=⟨z.apex,dV (bU z d++d.put)⟩
def applyP (z:Zon) (d:Dlt):Zon×Int :=
 if zoneOk z=false\/dltOk d=false\/z.apex≠d.apex then (zon0,1) else if serialOf z≠d.frm then (zon0,23) else
 if 20000<(bU z d).length+d.put.length then (zon0,2) else
 if zoneOk (ig z d)=false\/serialOf (ig z d)≠d.too then (zon0,35) else (ig z d,0)
theorem Ul {m:PM}{l:List Sgd}{x:Sgd}:x∈l.filterMap (eY m) ↔ x∈l/\eB m x.q=none:=by
 rw[Z9]
 unfold eY newB
 constructor
 .
  rintro⟨y,hy,h⟩
  cases e:eB m y.q with
  | none=>simp[e] at h;subst h;exact⟨hy,e⟩
  | some v=>simp[e] at h
 rintro⟨h1,h2⟩;exact⟨x,h1,by simp[h2]⟩
theorem stay_mem {z:Zon}{d:Dlt}{x:Sgd}:x∈bU z d ↔ x∈z.sets/\x.q ∉ d.drop /\ ∀ s∈d.put,s.q≠x.q:=by
 unfold bU
 rw[Ul]
 have:eB (mU d.put d.drop) x.q=none ↔ ¬ (eB (mU d.put d.drop) x.q).isSome=true:=by cases eB (mU d.put d.drop) x.q<;>simp
 rw[this,JF]
 constructor
 .
  rintro⟨h1,h2⟩;exact⟨h1,fun h=>h2 (.inl h),fun s hs e=>h2 (.inr ⟨s,hs,e⟩)⟩
 rintro⟨h1,h2,h3⟩;exact⟨h1,fun h=>h.elim h2 fun ⟨s,hs,e⟩=>h3 s hs e⟩
theorem UM {α:Type}{r:α->α->Prop}{f:α->Option α}(hf : ∀ x y,f x=some y->y=x) {l:List α}(h:l.Pairwise r):(l.filterMap f).Pairwise r:=by
 induction l with
 | nil=>exact .nil
 | cons x l ih =>
  have h':=Y2.1 h;rw[List.filterMap_cons]
  split
  .
   exact ih h'.2
  rename_i y hy
  refine Y2.2 ⟨fun z hz=>?_,ih h'.2⟩
  obtain⟨w,hw,hwz⟩:=Z9.1 hz;rw[hf x y hy,hf w z hwz];exact h'.1 w hw
theorem JH (m:PM) (x y:Sgd) (h:eY m x=some y):y=x:=by
 unfold eY at h
 split at h
 .
  exact (Z8 h).symm
 cases h
theorem EZ {z:Zon}{d:Dlt}(h:Ord z.sets):Ord (bU z d):=UM (JH _) h
theorem Iw {z:Zon}{d:Dlt}(hz:Ord z.sets) (hd:Ord d.put):Once (bU z d++d.put) :=
 Zi.2 ⟨Hu (EZ hz),Hu hd,fun a ha b hb e=>(stay_mem.1 ha).2.2 b hb e.symm⟩
theorem NI (z:Zon) (d:Dlt):(bU z d).length<=z.sets.length:=List.length_filterMap_le _ _
theorem RU (z:Zon) (d:Dlt):(ig z d).sets.length=(bU z d).length+d.put.length:=by
 show (dV _).length=_
 rw[xL,XV]
theorem Oy {s:Sgd}(h:s.set.data.length<=100000) (k:s.sigs.length<=100000):sF s:=⟨h,k⟩
end Go.Zon
namespace Go.Zon
open Go.DL Go.Str Go.Rec Go.Cmp
@[go_sem] theorem XL:zon0.apex=[]:=rfl
@[go_sem] theorem XK:zon0.sets=[]:=rfl
@[go_sem] theorem dlt0_put:dlt0.put=[]:=rfl
@[go_sem] theorem ZbS:dlt0.drop=[]:=rfl
@[go_sem] theorem ZbT:dlt0.apex=[]:=rfl
@[go_sem] theorem dlt0_frm:dlt0.frm=0:=rfl
@[go_sem] theorem dlt0_too:dlt0.too=0:=rfl
section
variable {a b : Zon}
end
structure AOk (z:Zon) (d:Dlt):Prop where
 zok:zoneOk z=true
 dok:dltOk d=true
 apex:z.apex=d.apex
 frm:serialOf z=d.frm
 new:zoneOk (ig z d)=true
 too:serialOf (ig z d)=d.too
theorem Xl (z:Zon) (d:Dlt):applyP z d=(zon0,1)\/(applyP z d=(zon0,23)/\serialOf z≠d.frm)\/applyP z d=(zon0,2)\/applyP z d=(zon0,35)\/(applyP z d=(ig z d,0)/\AOk z d):=by
 unfold applyP
 by_cases h1:zoneOk z=false\/dltOk d=false\/z.apex≠d.apex
 .
  exact .inl (X6 h1)
 rw[XZ h1]
 by_cases h2:serialOf z≠d.frm
 .
  exact .inr (.inl ⟨X6 h2,h2⟩)
 rw[XZ h2]
 by_cases h3:20000<(bU z d).length+d.put.length
 .
  exact .inr (.inr (.inl (X6 h3)))
 rw[XZ h3]
 by_cases h4:zoneOk (ig z d)=false\/serialOf (ig z d)≠d.too
 .
  exact .inr (.inr (.inr (.inl (X6 h4))))
 refine .inr (.inr (.inr (.inr ⟨XZ h4,?_,?_,?_,?_,?_,?_⟩)))
 .
  cases q:zoneOk z with|true=>rfl|false=>exact absurd (.inl q) h1
 .
  cases q:dltOk d with|true=>rfl|false=>exact absurd (.inr (.inl q)) h1
 .
  exact YX fun q=>h1 (.inr (.inr q))
 .
  exact YX fun q=>h2 q
 .
  cases q:zoneOk (ig z d) with|true=>rfl|false=>exact absurd (.inl q) h4
 exact YX fun q=>h4 (.inr q)
theorem Ma {a b:Int}(h:befB a b=true) (hb:serB b=true):b≠a:=by
 rintro rfl
 unfold befB at h
 simp at h
theorem UW {d:Dlt}(h:fewD d=true):dX d.put:=by
 unfold fewD at h
 simp only[XW,XX] at h
 refine⟨om,fun k hk=>?_⟩
 have:=(dL _ _ _).1 h.1.1 k (Yo _) om
 simp only[XW,XX] at this
 exact⟨om,om⟩
theorem FO (z:Zon):sameZ z z=true:=Y1 rfl
end Go.Zon
namespace Go.Jn
open Go.DL Go.Str Go.Rec Go.Cmp Go.Zon
structure Dsk where
 safe:Str
 pend:List Str
 deriving Inhabited,DecidableEq
def byR (s:Str):List D:=[.list false (s.map bD)]
def ofBy:List D->Str
 | [x]=>bytes1 x
 | _=>[]
def Dsk.d (x:Dsk):List D:=[.list false (x.safe.map bD),.list false (x.pend.map byR)]
def Dsk.of:List D->Dsk
 | [x,.list _ rows]=>⟨bytes1 x,rows.map ofBy⟩
 | _=>default
def dsk1:D->Dsk:=nI Dsk.of default
def byte1:D->UInt8
 | .v (.int _ n)=>UInt8.ofNat n.toNat
 | _=>0
@[go_sem] theorem byte1_v {k:IntKind}{n:Int}:byte1 (.v (.int k n))=UInt8.ofNat n.toNat:=rfl
def pend1:D->List Str:=um ofBy
def dsk0:Dsk:=⟨[],[]⟩
def dQ (d:Nat) (c:UInt8):Nat:=((d ^^^ c.toNat)*1099511628211) % 18446744073709551616
def qP:Nat:=14695981039346656037
def dig (l:Str):Nat:=l.foldl dQ qP
def bg (u:Nat):Nat->Str
 | 0=>[]
 | k+1=>dG u (8*k)::bg u k
theorem bF (u:Nat):∀ k,(bg u k).length=k
 | 0=>rfl
 | k+1=>by simp[bg,bF u k]
theorem WG (u k:Nat):dG (u / 256) (8*k)=dG u (8*(k+1)):=by
 unfold dG
 rw[Nat.div_div_eq_div_mul]
 congr 2
 rw[show 8*(k+1)=8+8*k by omega,Nat.pow_add]
theorem pz (u:Nat):∀ k,bg (u / 256) k++[dG u 0]=bg u (k+1)
 | 0=>rfl
 | k+1=>by
  show dG (u / 256) (8*k)::(bg (u / 256) k++[dG u 0])=_
  rw[pz u k,WG];rfl
theorem WF (u:Nat):dG u 0=bM u:=by simp[dG,bM]
theorem DX (u:Nat):bg u 1=[bM u]:=by
 show [dG u (8*0)]=_
 rw[Nat.mul_zero,WF]
def eu (g:RSig):Str:=ay g.zone++ak g.key++ak g.alg++ak g.frm++ak g.unt++ak g.sum
def bP (s:Sgd):Str:=bg (setB s.set).length 2++setB s.set++bM s.sigs.length::s.sigs.flatMap eu
def dB (l:List Sgd):Str:=bg l.length 4++l.flatMap bP
def zonB (z:Zon):Str:=ay z.apex++dB z.sets
def je (q:Qst):Str:=ay q.name++[dG (uN q.ty) 0]
def dltB (d:Dlt):Str:=ay d.apex++ak d.frm++ak d.too++bg d.drop.length 4++d.drop.flatMap je++dB d.put
def fZ (k:UInt8) (n:Nat):Str:=k::bg n 4
def frmB (k:UInt8) (w:Str):Str:=fZ k w.length++bg (dig (fZ k w.length)) 8++w++bg (dig w) 8
def ag (k:Int) (st:RS):Nat×RS:=(cB (aH k st).1,(aH k st).2)
def aj (st:RS):Str×RS:=aH (ag 1 st).1 (ag 1 st).2
def eF (st:RS):RSig×RS :=
 let z:=aj st
 let a:=ag 8 z.2
 let b:=ag 8 a.2
 let c:=ag 8 b.2
 let e:=ag 8 c.2
 let s:=ag 8 e.2
 (⟨z.1,sN a.1,sN b.1,sN c.1,sN e.1,s.1⟩,s.2)
def eU:Nat->List RSig->RS->List RSig×RS
 | 0,out,st=>(out,st)
 | k+1,out,st=>if st.2 then (out,st) else eU k (out++[(eF st).1]) (eF st).2
def dN (st:RS):Str×RS:=aH (ag 2 st).1 (ag 2 st).2
def dC (st:RS):RSet×RS:=((readF (dN st).1).1,if (readF (dN st).1).2=0 then (dN st).2 else ((dN st).2.1,true))
def dI (st:RS):Sgd×RS :=
 let s:=dC st
 let n:=ag 1 s.2
 let g:=eU n.1 [] n.2
 (⟨s.1,g.1⟩,g.2)
def fC:Nat->List Sgd->RS->List Sgd×RS
 | 0,out,st=>(out,st)
 | k+1,out,st=>if st.2 then (out,st) else fC k (out++[(dI st).1]) (dI st).2
def ed (st:RS):List Sgd×RS:=fC (ag 4 st).1 [] (ag 4 st).2
def cz (st:RS):Zon×RS:=(⟨(aj st).1,(ed (aj st).2).1⟩,(ed (aj st).2).2)
def fV (st:RS):Qst×RS:=(⟨(aj st).1,sN (ag 1 (aj st).2).1⟩,(ag 1 (aj st).2).2)
def eG:Nat->List Qst->RS->List Qst×RS
 | 0,out,st=>(out,st)
 | k+1,out,st=>if st.2 then (out,st) else eG k (out++[(fV st).1]) (fV st).2
def bA (st:RS):Dlt×RS :=
 let a:=aj st
 let f:=ag 8 a.2
 let t:=ag 8 f.2
 let n:=ag 4 t.2
 let q:=eG n.1 [] n.2
 let p:=ed q.2
 (⟨a.1,sN f.1,sN t.1,q.1,p.1⟩,p.2)
def dn (st:RS):Bool:=st.2||decide (0<st.1.length)
def mr (w:Str):Option Zon:=if dn (cz (w,false)).2 then none else some (cz (w,false)).1
def mD (w:Str):Option Dlt:=if dn (bA (w,false)).2 then none else some (bA (w,false)).1
def fst1 (k:Nat) (b:Str):Nat×Str :=
 if b.length<13\/(b.getD 0 0).toNat≠k then (0,[]) else
 let n:=ag 4 (b.drop 1,false)
 let h:=ag 8 n.2
 let w:=aH n.1 h.2
 let t:=ag 8 w.2
 if t.2.2=true\/h.1≠dig (b.take 5)\/t.1≠dig w.1 then (0,[]) else (13+n.1+8,w.1)
def fI (b:Str):Option (Zon×Nat) :=
 if (fst1 1 b).1=0 then none else
 match mr (fst1 1 b).2 with
 | none=>none
 | some z=>if zoneOk z then some (z,(fst1 1 b).1) else none
def dU (z:Zon) (b:Str):Option (Zon×Nat) :=
 if (fst1 2 b).1=0 then none else
 match mD (fst1 2 b).2 with
 | none=>none
 | some d=>if (applyP z d).2=0 then some ((applyP z d).1,(fst1 2 b).1) else none
theorem JS (k:Nat) (b:Str) (h:(fst1 k b).1≠0):21<=(fst1 k b).1/\13<=b.length:=by
 unfold fst1 at h ⊢
 split
 .
  rename_i q;rw[X6 q] at h;exact absurd rfl h
 rename_i q
 rw[XZ q] at h
 simp only at h ⊢
 split
 .
  rename_i r;rw[X6 r] at h;exact absurd rfl h
 rename_i r;exact⟨by show 21<=13+_+8;omega,om⟩
theorem ND {z:Zon}{b:Str}{y:Zon}{n:Nat}(h:dU z b=some (y,n)):0<n/\0<b.length:=by
 unfold dU at h
 split at h
 .
  cases h
 rename_i q
 obtain⟨h1,h2⟩:=JS 2 b q
 split at h
 .
  cases h
 split at h
 .
  simp only[Yh,YI] at h;omega
 cases h
def more (z:Zon) (b:Str):List (Zon×Nat) :=
 match _h:dU z b with
 | none=>[]
 | some (y,n)=>(y,n)::more y (b.drop n)
termination_by b.length
decreasing_by
 have:=ND _h
 rw[Yi]
 omega
theorem R5 {z:Zon}{b:Str}(h:dU z b=none):more z b=[]:=by
 rw[more]
 split
 .
  rfl
 rename_i q;rw[h] at q;cases q
theorem R4 {z y:Zon}{b:Str}{n:Nat}(h:dU z b=some (y,n)):more z b=(y,n)::more y (b.drop n):=by
 rw[more]
 split
 .
  rename_i q;rw[h] at q;cases q
 rename_i q
 rw[h] at q
 simp only[Yh,YI] at q
 obtain⟨rfl,rfl⟩:=q
 rfl
def frs (b:Str):List (Zon×Nat):=match fI b with
 | none=>[]
 | some (y,n)=>(y,n)::more y (b.drop n)
def sumL (l:List (Zon×Nat)):Nat:=(l.map (·.2)).sum
def cZ:Nat->List (Zon×Nat)->List Nat
 | _,[]=>[]
 | a,x::l=>(a+x.2)::cZ (a+x.2) l
def Cw (z:Zon) (l:List (Zon×Nat)):Zon:=(l.getLast?.map (·.1)).getD z
def wholeZ (b:Str):Zon:=Cw zon0 (frs b)
def endsB (b:Str):List Nat:=cZ 0 (frs b)
def partB (b:Str):Str:=b.take (sumL (frs b))
abbrev Cnt:=Option Zon
def Cnt.d (c:Cnt):List D:=.b c.isSome::(c.getD zon0).d
def Cnt.of:List D->Cnt
 | [.v (.bool b),.v (.string s),.list _ rows]=>if b then some ⟨s.data.toList,rows.map Sgd.of⟩ else none
 | _=>none
def cnt1:D->Cnt:=nI Cnt.of none
def stepC (c:Cnt) (b:Str):Option (Zon×Nat):=match c with
 | none=>fI b
 | some z=>dU z b
def nextF (c:Cnt) (b:Str):Cnt×Nat:=match stepC c b with
 | none=>(c,0)
 | some (y,n)=>(some y,n)
def wholeC (b:Str):Cnt:=(frs b).getLast?.map (·.1)
structure Opn where
 whole:Str
 size:Int
 saved:Cnt
 all:Cnt
 deriving Inhabited
def fB (c:Cnt):List Str->Option Cnt
 | []=>some c
 | p::l=>if (nextF c p).2≠0/\(nextF c p).2=p.length then fB (nextF c p).1 l else none
def catB (l:List Str):Str:=l.flatten
def openF (d:Dsk):Option Opn :=
 if 1000000<d.safe.length\/200<d.pend.length then none else
 match fB (wholeC d.safe) d.pend with
 | none=>none
 | some c=>some ⟨partB d.safe,(partB d.safe).length+(catB d.pend).length,wholeC d.safe,c⟩
def beginF (z:Zon):Dsk×Int:=if zoneOk z=false then (dsk0,1) else if 1000000<(frmB 1 (zonB z)).length then (dsk0,41) else (⟨[],[frmB 1 (zonB z)]⟩,0)
def appendF (d:Dsk) (x:Dlt):Dsk×Int:=match openF d with
 | none=>(dsk0,1)
 | some o=>if dltOk x=false then (dsk0,1) else match o.all with
  | none=>(dsk0,42)
  | some z =>
   if (applyP z x).2≠0 then (dsk0,(applyP z x).2)
   else if 200<=d.pend.length then (dsk0,2)
   else if 1000000<o.size+(frmB 2 (dltB x)).length then (dsk0,41)
   else (⟨o.whole,d.pend++[frmB 2 (dltB x)]⟩,0)
def syncF (d:Dsk):Dsk×Int:=match openF d with
 | none=>(dsk0,1)
 | some o=>if 1000000<o.size then (dsk0,41) else (⟨o.whole++catB d.pend,[]⟩,0)
def gX (d:Dsk) (n:Int):Str:=if n<d.pend.length then d.pend[n.toNat]! else []
def jC (o:Opn) (d:Dsk) (n cut:Int):Str:=o.whole++catB (d.pend.take n.toNat)++(gX d n).take cut.toNat
def crashF (d:Dsk) (n cut:Int):Dsk×Int:=match openF d with
 | none=>(dsk0,1)
 | some o =>
  if n<0\/(d.pend.length:Int)<n then (dsk0,1)
  else if cut<0\/((gX d n).length:Int)<cut then (dsk0,1)
  else if 1000000<(jC o d n cut).length then (dsk0,41)
  else (⟨jC o d n cut,[]⟩,0)
def loadF (d:Dsk):Zon×Int:=match openF d with
 | none=>(zon0,1)
 | some o=>match o.saved with
  | none=>(zon0,42)
  | some z=>(z,0)
def allR (d:Dsk):Option Str:=(openF d).map fun o=>o.whole++catB d.pend
def sameK (a b:Dsk):Bool:=decide (a=b)
structure Mw (g:RSig):Prop where
 zone:g.zone.length<=255
 key:i64 g.key
 alg:i64 g.alg
 frm:i64 g.frm
 unt:i64 g.unt
 sum:0<=g.sum/\g.sum<18446744073709551616
structure uP (s:Sgd):Prop where
 set:pE s.set
 len:s.sigs.length<=255
 sig : ∀ g∈s.sigs,Mw g
theorem V4 {d:Dat}(h:xg d/\d.t.length<=60/\0<=d.n/\0<=d.m):(jq d).length<=77:=by
 simp[jq,ay,aX]
 omega
theorem flat_len {α:Type}{f:α->Str}{n:Nat}:∀ {l:List α},(∀ x∈l,(f x).length<=n)->(l.flatMap f).length<=l.length*n
 | [],_=>by simp
 | x::l,h=>by
  rw[ZV,XV,YH,Zo,Nat.one_mul];have h1:=h x (by simp)
  have h2:=flat_len (f:=f) (n:=n) (l:=l) fun y hy=>h y (by simp[hy])
  omega
theorem vC {s:RSet}(h:pE s):(setB s).length<=1000:=by
 have h1:=dO h.name
 have h2:=flat_len (f:=jq) (n:=77) (l:=s.data) fun d hd=>V4 (Dw h.ty (h.dat d hd))
 have h3:=h.len
 simp[setB,ay,aX] at h2 ⊢
 omega
structure Ef (q:Qst):Prop where
 name:q.name.length<=255
 ty:0<=q.ty/\q.ty<=255
structure Eh (d:Dlt):Prop where
 apex:d.apex.length<=255
 frm:i64 d.frm
 too:i64 d.too
 drop:d.drop.length<4294967296
 dropq : ∀ q∈d.drop,Ef q
 put:d.put.length<4294967296
 puts : ∀ s∈d.put,uP s
structure Ea (z:Zon):Prop where
 apex:z.apex.length<=255
 len:z.sets.length<4294967296
 sets : ∀ d∈z.sets,uP d
def mO (k m:Nat) (p:Str):Prop:=(p.getD 0 0).toNat=k/\cB ((p.drop 1).take 4)=m/\cB ((p.drop 5).take 8)=dig (p.take 5)/\cB ((p.drop (13+m)).take 8)=dig ((p.drop 13).take m)
theorem uB {α:Type}(b:List α) {i j n:Nat}(h:i+j<=n):((b.take n).drop i).take j=(b.drop i).take j:=by
 rw[List.drop_take,List.take_take,ZW (by omega)]
theorem Jp {k m n:Nat}{b:Str}(h:21+m<=n):mO k m (b.take n) ↔ mO k m b:=by
 unfold mO
 rw[uB b (by omega),uB b (by omega),uB b (by omega),uB b (by omega),List.take_take,ZW (by omega)]
 have:(b.take n).getD 0 0=b.getD 0 0:=by
  simp only[List.getD];rw[YY,X6 (by omega)]
 rw[this]
theorem fst1_iff {k m:Nat}{b w:Str}:fst1 k b=(21+m,w) ↔ 21+m<=b.length/\mO k m b/\w=(b.drop 13).take m:=by
 unfold fst1
 by_cases h1:b.length<13\/(b.getD 0 0).toNat≠k
 .
  rw[X6 h1]
  constructor
  .
   intro h;simp only[YI] at h;omega
  rintro⟨h2,h3,_⟩;have:=h3.1;omega
 rw[XZ h1]
 have a1:ag 4 (b.drop 1,false)=(cB ((b.drop 1).take 4),(b.drop 5,false)):=by
  unfold ag;rw[show (4:Int)=((4:Nat):Int) from rfl,iW rfl (by simp;omega)]
  show (_,((b.drop 1).drop 4,false))=_
  rw[Zt]
 have a2:ag 8 (b.drop 5,false)=(cB ((b.drop 5).take 8),(b.drop 13,false)):=by
  unfold ag;rw[show (8:Int)=((8:Nat):Int) from rfl,iW rfl (by simp;omega)]
  show (_,((b.drop 5).drop 8,false))=_
  rw[Zt]
 simp only[a1,a2]
 generalize hN:cB ((b.drop 1).take 4)=N
 by_cases h2:N<=(b.drop 13).length
 .
  rw[iW rfl h2]
  show (if (ag 8 ((b.drop 13).drop N,false)).2.2=true\/_ then _ else _)=_ ↔ _
  rw[Zt]
  by_cases h3:8<=(b.drop (13+N)).length
  .
   have a3:ag 8 (b.drop (13+N),false)=(cB ((b.drop (13+N)).take 8),((b.drop (13+N)).drop 8,false)):=by
    unfold ag;rw[show (8:Int)=((8:Nat):Int) from rfl,iW rfl h3]
   rw[a3];simp only[Yi] at h2 h3
   split
   .
    rename_i h4
    constructor
    .
     intro h;simp only[YI] at h;omega
    rintro⟨h5,⟨h6,h7,h8,h9⟩,_⟩;rw[hN] at h7;subst h7
    rcases h4 with h4|h4|h4
    .
     cases h4
    .
     exact absurd h8 h4
    exact absurd h9 h4
   rename_i h4
   simp only[YI]
   constructor
   .
    rintro⟨h5,h6⟩;have hm:N=m:=by omega
    subst hm;refine⟨om,⟨om,hN,?_,?_⟩,h6.symm⟩
    .
     exact YX fun q=>h4 (.inr (.inl q))
    exact YX fun q=>h4 (.inr (.inr q))
   rintro⟨h5,⟨h6,h7,h8,h9⟩,h10⟩;rw[hN] at h7;subst h7;exact⟨om,h10.symm⟩
  have a3:(ag 8 (b.drop (13+N),false)).2.2=true:=by
   unfold ag;rw[gq (.inr (by show ((List.drop (13+N) b).length:Int)<8;omega))]
  rw[X6 (.inl a3)];simp only[Yi] at h2 h3
  constructor
  .
   intro h;simp only[YI] at h;omega
  rintro⟨h5,⟨_,h7,_⟩,_⟩;rw[hN] at h7;omega
 rw[gq (.inr (by show ((List.drop 13 b).length:Int)<N;omega))]
 have a3:(ag 8 (b.drop 13,true)).2.2=true:=by
  unfold ag;rw[gq (.inl rfl)]
 simp only[Yi] at h2
 show (if (ag 8 (b.drop 13,true)).2.2=true\/_ then _ else _)=_ ↔ _
 rw[X6 (.inl a3)]
 constructor
 .
  intro h;simp only[YI] at h;omega
 rintro⟨h5,⟨_,h7,_⟩,_⟩
 rw[hN] at h7
 omega
theorem sw (k:Nat) (b:Str):fst1 k b=(0,[]) \/ ∃ m,21+m<=b.length/\mO k m b/\fst1 k b=(21+m,(b.drop 13).take m):=by
 by_cases h:(fst1 k b).1=0
 .
  refine .inl ?_;unfold fst1 at h ⊢
  split
  .
   rfl
  rename_i q
  rw[XZ q] at h;simp only at h ⊢
  split
  .
   rfl
  rename_i r;rw[XZ r] at h;simp at h
 obtain⟨h1,_⟩:=JS k b h
 obtain⟨m,hm⟩:∃ m,(fst1 k b).1=21+m:=⟨_,(by omega:(fst1 k b).1=21+((fst1 k b).1-21))⟩
 have e:fst1 k b=(21+m,(fst1 k b).2):=Prod.ext hm rfl
 obtain⟨h2,h3,h4⟩:=fst1_iff.1 e
 exact .inr ⟨m,h2,h3,by rw[e,h4]⟩
theorem JU {k n:Nat}{b w r:Str}(h:fst1 k b=(n,w)) (h0:n≠0):fst1 k (b.take n++r)=(n,w):=by
 obtain h1|⟨m,h1,h2,h3⟩:=sw k b
 .
  rw[h] at h1;cases h1;exact absurd rfl h0
 rw[h] at h3
 cases h3
 have hl:(b.take (21+m)).length=21+m:=by simp;omega
 have ht:(b.take (21+m)++r).take (21+m)=b.take (21+m):=List.take_left' hl
 refine fst1_iff.2 ⟨by rw[XV];omega,?_,?_⟩
 .
  rw[<- Jp (n:=21+m) (XY _),ht,Jp (XY _)];exact h2
 rw[<- uB (b.take (21+m)++r) (n:=21+m) (by omega),ht,uB b (by omega)]
theorem JW {k n:Nat}{b w:Str}(h:fst1 k b=(n,w)):n<=b.length:=by
 obtain h1|⟨m,h1,h2,h3⟩:=sw k b
 .
  rw[h] at h1;cases h1;exact Yo _
 rw[h] at h3;cases h3;exact h1
theorem zJ (k:UInt8) (w:Str):(frmB k w).length=21+w.length:=by
 simp[frmB,fZ,bF]
 omega
theorem uD (l:Str):dig l<18446744073709551616:=by
 unfold dig
 rcases List.eq_nil_or_concat l with e|⟨p,z,e⟩
 .
  subst e;decide
 rw[e,List.concat_eq_append,Zc,YO,ZG]
 unfold dQ
 omega
theorem stepZ_iff {b:Str}{z:Zon}{n:Nat}:fI b=some (z,n) ↔ n≠0 /\ ∃ w,fst1 1 b=(n,w)/\mr w=some z/\zoneOk z=true:=by
 unfold fI
 constructor
 .
  intro h
  split at h
  .
   cases h
  rename_i q
  split at h
  .
   cases h
  rename_i z' hz
  split at h
  .
   rename_i hv
   simp only[Yh,YI] at h;obtain⟨rfl,rfl⟩:=h;exact⟨q,_,rfl,hz,hv⟩
  cases h
 rintro⟨h0,w,h1,h2,h3⟩
 rw[h1]
 rw[XZ h0]
 simp only[h2]
 rw[X6 h3]
theorem stepD_iff {y:Zon}{b:Str}{z:Zon}{n:Nat}:dU y b=some (z,n) ↔ n≠0 /\ ∃ w d,fst1 2 b=(n,w)/\mD w=some d/\applyP y d=(z,0):=by
 unfold dU
 constructor
 .
  intro h
  split at h
  .
   cases h
  rename_i q
  split at h
  .
   cases h
  rename_i d hd
  split at h
  .
   rename_i hv
   simp only[Yh,YI] at h;obtain⟨rfl,rfl⟩:=h;exact⟨q,_,d,rfl,hd,Prod.ext rfl hv⟩
  cases h
 rintro⟨h0,w,d,h1,h2,h3⟩
 rw[h1]
 rw[XZ h0]
 simp only[h2,h3]
 exact X6 trivial
theorem rz {c:Cnt}{b r:Str}{z:Zon}{n:Nat}(h:stepC c b=some (z,n)):stepC c (b.take n++r)=some (z,n):=by
 cases c with
 | none =>
  obtain⟨h0,w,h1,h2,h3⟩:=stepZ_iff.1 (show fI b=_ from h)
  exact stepZ_iff.2 ⟨h0,w,JU h1 h0,h2,h3⟩
 | some y =>
  obtain⟨h0,w,d,h1,h2,h3⟩:=stepD_iff.1 (show dU y b=_ from h)
  exact stepD_iff.2 ⟨h0,w,d,JU h1 h0,h2,h3⟩
theorem iD {c:Cnt}{b:Str}{z:Zon}{n:Nat}(h:stepC c b=some (z,n)):n<=b.length/\0<n:=by
 cases c with
 | none =>
  obtain⟨h0,w,h1,_⟩:=stepZ_iff.1 (show fI b=_ from h)
  exact⟨JW h1,Nat.pos_of_ne_zero h0⟩
 | some y =>
  obtain⟨h0,w,d,h1,_⟩:=stepD_iff.1 (show dU y b=_ from h)
  exact⟨JW h1,Nat.pos_of_ne_zero h0⟩
def fr (c:Cnt) (b:Str):List (Zon×Nat):=match c with
 | none=>frs b
 | some z=>more z b
theorem iw {c:Cnt}{b:Str}(h:stepC c b=none):fr c b=[]:=by
 cases c with
 | none=>unfold fr frs;simp only;rw[show fI b=none from h]
 | some z=>exact R5 h
theorem gI {c:Cnt}{b:Str}{y:Zon}{n:Nat}(h:stepC c b=some (y,n)):fr c b=(y,n)::fr (some y) (b.drop n):=by
 cases c with
 | none=>unfold fr frs;simp only;rw[show fI b=some (y,n) from h]
 | some z=>exact R4 h
def ji (c:Cnt) (l:List (Zon×Nat)):Cnt:=match l.getLast? with
 | none=>c
 | some x=>some x.1
theorem ql (c:Cnt) (x:Zon×Nat) (l:List (Zon×Nat)):ji c (x::l)=ji (some x.1) l:=by
 unfold ji
 cases l with
 | nil=>rfl
 | cons y l =>
  rw[List.getLast?_cons_cons]
  cases h:(y::l).getLast? with
  | none=>simp at h
  | some z=>rfl
theorem iX (x:Zon×Nat) (l:List (Zon×Nat)):sumL (x::l)=x.2+sumL l:=by simp[sumL]
theorem wG : ∀ (n:Nat) (c:Cnt) (b:Str),b.length<=n->sumL (fr c b)<=b.length:=by
 intro n
 induction n with
 | zero =>
  intro c b hb
  cases h:stepC c b with
  | none=>rw[iw h];exact Yo _
  | some x=>have:=iD (z:=x.1) (n:=x.2) h;omega
 | succ n ih =>
  intro c b hb
  cases h:stepC c b with
  | none=>rw[iw h];exact Yo _
  | some x =>
   obtain⟨y,k⟩:=x;obtain⟨h1,h2⟩:=iD h;rw[gI h,iX];have:=ih (some y) (b.drop k) (by rw[Yi];omega)
   rw[Yi] at this
   show k+_<=_
   omega
theorem UJ : ∀ (n:Nat) (c:Cnt) (a r:Str),a.length<=n->sumL (fr c a)=a.length->fr c (a++r)=fr c a++fr (ji c (fr c a)) r:=by
 intro n
 induction n with
 | zero =>
  intro c a r ha hs;have:a=[]:=X5 om;subst this;have h0:fr c []=[]:=by
   cases h:stepC c [] with
   | none=>exact iw h
   | some x=>have:=iD (z:=x.1) (n:=x.2) h;simp at this;omega
  rw[h0];rfl
 | succ n ih =>
  intro c a r ha hs
  cases h:stepC c a with
  | none =>
   have h0:=iw h;rw[h0] at hs ⊢;have:a=[]:=X5 (by simpa [sumL] using hs.symm)
   subst this;rfl
  | some x =>
   obtain⟨y,k⟩:=x;obtain⟨h1,h2⟩:=iD h;have hl:stepC c (a++r)=some (y,k):=by
    have:=rz (r:=a.drop k++r) h;rwa [<- Yz,Zm] at this
   rw[gI h,iX] at hs;have hd:(a++r).drop k=a.drop k++r:=List.drop_append_of_le_length h1;rw[gI h,gI hl,hd,ql,X0]
   congr 1
   refine ih (some y) (a.drop k) r (by rw[Yi];omega) ?_
   rw[Yi];simp only at hs;omega
theorem UG : ∀ (n:Nat) (c:Cnt) (a:Str),a.length<=n->fr c (a.take (sumL (fr c a)))=fr c a:=by
 intro n
 induction n with
 | zero =>
  intro c a ha;have:a=[]:=X5 om;subst this
  simp
 | succ n ih =>
  intro c a ha
  cases h:stepC c a with
  | none =>
   rw[iw h];have:fr c (a.take (sumL []))=[]:=by
    show fr c (a.take 0)=[]
    rw[Yf]
    cases h':stepC c [] with
    | none=>exact iw h'
    | some x=>have:=iD (z:=x.1) (n:=x.2) h';simp at this;omega
   exact this
  | some x =>
   obtain⟨y,k⟩:=x;obtain⟨h1,h2⟩:=iD h;have hs:=wG _ (some y) (a.drop k) (XY _);rw[Yi] at hs;rw[gI h,iX];have e:a.take (k+sumL (fr (some y) (a.drop k)))=a.take k++(a.drop k).take (sumL (fr (some y) (a.drop k))):=List.take_add;have hl:=rz (r:=(a.drop k).take (sumL (fr (some y) (a.drop k)))) h;rw[<- e] at hl;have hd:(a.take (k+sumL (fr (some y) (a.drop k)))).drop k=(a.drop k).take (sumL (fr (some y) (a.drop k))):=by rw[List.drop_take];congr 1;omega
   rw[show ((y,k):Zon×Nat).2=k from rfl,gI hl,hd,ih (some y) (a.drop k) (by rw[Yi];omega)]
end Go.Jn
