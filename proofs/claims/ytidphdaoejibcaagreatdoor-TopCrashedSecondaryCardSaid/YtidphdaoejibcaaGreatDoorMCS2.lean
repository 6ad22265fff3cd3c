/-
  MANY TEXTS OF MINE IN ONE (a claim has a limit of files): DSimp, Types, DWalk, DRange, Str, Rec, Cmp, Rec2, Rec3, Rec4, Rec5, Sym, Rec6, Zon, Zon2, Zon3, Zdl, Zdm, Zdn, Zdo, Zdp, Zdq, Zla, Zlb, Zlc, Zld, Zdr, Zds, Jn, Jnl, Jno, Zdt, Zdu, Jlw, Jlx, Jp, Jly. Conditions: none.
-/
import Derived.Test.YtidphdaoejibcaaGreatDoorProg
import Derived.KernelRfl
import Derived.Lib.Bytealg
import Derived.Shelf.Small.Strs
import Derived.Test.YtidphdaoejibcaaGreatDoorMCS1
set_option linter.unusedVariables false
set_option linter.unusedSimpArgs false
set_option linter.unusedSectionVars false
set_option linter.defProp false
set_option linter.unnecessarySimpa false
namespace Go.DL
open Go.RowKit
theorem _root_.o6a{p:Prop}(h:p:=by rw[he];exact hok):p:=h
theorem _root_.o3r{p:Prop}(h:p:=by rintro (q|q|q);rw[h]at q;cases q;rw[h]at q;cases q;exact q rfl):p:=h
variable {P : Program} {W : cu} {C : aS}
attribute [go_sem_proc] Nat.reduceEqDiff Nat.reduceAdd Nat.reduceLeDiff Nat.reduceBEq Nat.reduceSub Nat.reduceMul Int.reduceLT Int.reduceLE Int.reduceEq Int.reduceNeg Int.reduceToNat reduceIte Nat.reduceLT reduceCtorEq
attribute [go_sem] decide_true decide_false Bool.not_true Bool.not_false Int.toNat_natCast
def S.out(s:S)(dst:Option Tmp)(r:D×H×Prop):S:={ n:=s.n,t:=s.put dst r.1,h:=r.2.1,nx:=s.nx,ok:=s.ok/\dK s.n dst=true/\r.2.2,e:=s.e }
def S.outG(s:S)(dst:Option Tmp)(op:Op)(C:aS)(gd:D)(want:Bool)(r:D×H×Prop):S :=
 { n:=s.n,t:=s.put dst (.cond (lI gd want) r.1),h:=s.h,nx:=s.nx,ok:=s.ok/\dK s.n dst=true/\uL gd=true/\bW C op ≠ .writes/\(lI gd want=true->r.2.2),e:=s.e }
def exec_eq [Glob P]{L:List Oper}{s:S}:exec P W C L s=aZ P W C L s.nx 0 L { n:=s.n,t:=s.t,h:=s.h,nx:=s.nx+L.length,ok:=s.ok,e:=s.e }:=rfl
def Zma [Glob P]{L:List Oper}{b i:Nat}{s:S}:aZ P W C L b i [] s=s:=rfl
def Zmb [Glob P]{L:List Oper}{b i:Nat}{o:Oper}{os:List Oper}{s:S}:aZ P W C L b i (o::os) s=aZ P W C L b (i+1) os (dJ P W C L b i o s):=rfl
attribute[go_sem]exec_eq Zma Zmb
@[go_sem]theorem Zmc [Glob P]{L:List Oper}{b i:Nat}{dst:Option Tmp}{op:Op}{ty:TypeId}{pos:String}{af:Array Edge}{s:S} :
  dJ P W C L b i { dst:=dst,op:=op,type:=ty,pos:=pos,after:=af,guard:=none } s=s.out dst (aY P W C true op ((aV op).map s.ev) s.h (b+i)):=rfl
def DC(L:List Oper)(j:Nat)(t:Nat->D):D:=((L[j]?).bind (·.dst)).elim .junk t
@[go_sem]theorem Zmd [Glob P]{L:List Oper}{b i j:Nat}{want:Bool}{dst:Option Tmp}{op:Op}{ty:TypeId}{pos:String}{af:Array Edge}{s:S} :
  dJ P W C L b i { dst:=dst,op:=op,type:=ty,pos:=pos,after:=af,guard:=some (j,want) } s =
   s.outG dst op C (DC L j s.t) want (aY P W C (lI (DC L j s.t) want) op ((aV op).map s.ev) s.h (b+i)):=rfl
@[go_sem]theorem Zl8{dst:Option Tmp}{op:Op}{ty:TypeId}{pos:String}{af:Array Edge}{gd:Option (Nat×Bool)}{L:List Oper}{t:Nat->D} :
  DC ({ dst:=dst,op:=op,type:=ty,pos:=pos,after:=af,guard:=gd }::L) 0 t=dst.elim .junk t:=rfl
@[go_sem]theorem Zl9{o:Oper}{L:List Oper}{j:Nat}{t:Nat->D}:DC (o::L) (j+1) t=DC L j t:=by simp[DC]
@[go_sem]theorem out_some{n nx:Nat}{t:Nat->D}{h:H}{ok:Prop}{e:Env}{d:Tmp}{x:D}{h':H}{p:Prop}:S.out { n,t,h,nx,ok,e } (some d) (x,h',p)={ n,t:=upd t d x,h:=h',nx,ok:=ok/\decide (d<n)=true/\p,e }:=rfl
@[go_sem]theorem Zlv{n nx:Nat}{t:Nat->D}{h:H}{ok:Prop}{e:Env}{x:D}{h':H}{p:Prop}:S.out { n,t,h,nx,ok,e } none (x,h',p)={ n,t,h:=h',nx,ok:=ok/\p,e }:=by simp[S.out,S.put,dK]
@[go_sem]theorem Zlw{n nx:Nat}{t:Nat->D}{h:H}{ok:Prop}{e:Env}{d:Tmp}{op:Op}{gd:D}{want:Bool}{x:D}{h':H}{p:Prop} :
  S.outG { n,t,h,nx,ok,e } (some d) op C gd want (x,h',p)={ n,t:=upd t d (.cond (lI gd want) x),h,nx,ok:=ok/\decide (d<n)=true/\uL gd=true/\bW C op ≠ .writes/\(lI gd want=true->p),e }:=rfl
theorem aI{n nx:Nat}{t:Nat->D}{h:H}{ok:Prop}{e:Env}:S.clear { n,t,h,nx,ok,e }={ n,t,h,nx,ok:=True,e }:=rfl
theorem zS{n:Nat}{args:List D}:S.init n args={ n,t:=λi=>args.getD i .junk,h:=λ_=>none,nx:=0,ok:=True,e:=Env.tt }:=rfl
def ev_tmp{s:S}{i:Tmp}:s.ev (.tmp i)=s.t i:=rfl
def ev_const{s:S}{x:Value}:s.ev (.const x)=qm x:=rfl
def Zme{s:S}{g:Nat}:s.ev (.global g) = .v (.pointer (some ⟨g,0,none⟩)):=rfl
def ev_func{s:S}{f:FuncId}:s.ev (.func f) = .fn (.func f) [] []:=rfl
def ofV_int{k:IntKind}{n:Int}:qm (.int k n) = .v (.int k n):=rfl
def ofV_bool{b:Bool}:qm (.bool b) = .v (.bool b):=rfl
def ZlA{s:ByteArray}:qm (.string s) = .v (.string s):=rfl
def ofV_nil:qm (.slice none 0 0) = .list true []:=rfl
def ZlC:qm .nilFunc = .v .nilFunc:=rfl
def ZlB:qm .nilIface = .v .nilIface:=rfl
attribute[go_sem]aI zS ev_tmp ev_const Zme ev_func ofV_int ofV_bool ZlA ofV_nil ZlC ZlB
@[go_sem]theorem upd_hit{α:Type}{f:Nat->α}{i:Nat}{x:α}:upd f i x i=x:=by simp[upd]
@[go_sem]theorem upd_miss{α:Type}{f:Nat->α}{i j:Nat}{x:α}(h:(j=i)=False):upd f i x j=f j:=by simp only[upd];rw[XV (by rw[h];exact id)]
attribute [go_sem] List.take_succ_cons List.take_zero List.take_nil List.drop_zero List.drop_succ_cons List.drop_nil List.set_cons_zero List.set_cons_succ List.cons_append List.nil_append List.append_nil Bool.false_eq_true Nat.zero_add Nat.add_zero Nat.add_assoc List.length_map List.headD_cons
attribute [go_sem] ne_eq imp_self Bool.not_eq_true' Bool.not_eq_false' Bool.and_self and_self
attribute [go_sem] eq_self not_false_eq_true and_true true_and List.length_cons List.length_nil List.getD_cons_zero List.getD_cons_succ List.getD_nil implies_true true_implies
@[go_sem]theorem size_lit{α:Type}{l:List α}:l.toArray.size=l.length:=rfl
attribute [go_sem] aV List.map_cons List.map_nil
def sd_v{x:Value}:sd (.v x) = .v x:=rfl
def sd_agg{x:List D}:sd (.agg x) = .agg x:=rfl
def sd_list{f:Bool}{x:List (List D)}:sd (.list f x) = .list f x:=rfl
def sd_eptr{x:List D}:sd (.eptr x) = .eptr x:=rfl
def sd_mrow{a b c:Nat}:sd (.mrow a b c) = .mrow a b c:=rfl
def sd_mptr{a b c:Nat}:sd (.mptr a b c) = .mptr a b c:=rfl
def sd_fn{f:Fn}{a b:List D}:sd (.fn f a b) = .fn f a b:=rfl
def sd_tuple{a:List D}:sd (.tuple a) = .tuple a:=rfl
def sd_cond{g:Bool}{d:D}:sd (.cond g d)=d:=rfl
def sd_mp{r:Nat}:sd (.mp r) = .mp r:=rfl
def sd_fmap{kv:List D}:sd (.fmap kv) = .fmap kv:=rfl
def sg_mp{r:Nat}:sg (.mp r)=true:=rfl
def sg_fmap{kv:List D}:sg (.fmap kv)=true:=rfl
def sg_v{x:Value}:sg (.v x)=true:=rfl
def sg_agg{x:List D}:sg (.agg x)=true:=rfl
def sg_list{f:Bool}{x:List (List D)}:sg (.list f x)=true:=rfl
def sg_eptr{x:List D}:sg (.eptr x)=true:=rfl
def sg_mrow{a b c:Nat}:sg (.mrow a b c)=true:=rfl
def sg_mptr{a b c:Nat}:sg (.mptr a b c)=true:=rfl
def sg_fn{f:Fn}{a b:List D}:sg (.fn f a b)=true:=rfl
def sg_tuple{a:List D}:sg (.tuple a)=true:=rfl
def sg_cond{g:Bool}{d:D}:sg (.cond g d)=g:=rfl
attribute[go_sem]sd_v sd_agg sd_list sd_eptr sd_mrow sd_mptr sd_fn sd_tuple sd_cond sd_mp sd_fmap sg_mp sg_fmap sg_v sg_agg sg_list sg_eptr sg_mrow sg_mptr sg_fn sg_tuple sg_cond
attribute [go_sem] List.all_cons List.all_nil Bool.and_true Bool.true_and
def gval_v{b want:Bool}:lI (.v (.bool b)) want=(b==want):=rfl
def gval_c{g b want:Bool}:lI (.cond g (.v (.bool b))) want=(g&&(b==want)):=rfl
def gok_v{b:Bool}:uL (.v (.bool b))=true:=rfl
def gok_c{g b:Bool}:uL (.cond g (.v (.bool b)))=true:=rfl
attribute[go_sem]gval_v gval_c gok_v gok_c
attribute [go_sem] Option.elim beq_true beq_false
@[go_sem]theorem e_move [Glob P]{g:Bool}{x:Operand}{d:D}{h:H}{b:Nat}:aY P W C g (.move x) [d] h b=(sd d,h,(g=true->sg d=true)/\True):=by simp[aY,fE,bg]
@[go_sem]theorem e_assign [Glob P]{g:Bool}{x:Operand}{d:D}{h:H}{b:Nat}:aY P W C g (.assign x) [d] h b=(sd d,h,(g=true->sg d=true)/\True):=by simp[aY,fE,bg]
@[go_sem]theorem e_alloc [Glob P]{g:Bool}{e:TypeId}{h:H}{b:Nat}:aY P W C g (.alloc e) [] h b=(.mptr b 0 0,upd h b (some ⟨e,[zeroCells P e]⟩),(zeroCells P e).length=P.cellsOf e/\(zeroCells P e).all D.one=true/\0<P.cellsOf e):=by simp[aY,fE,bg]
@[go_sem]theorem e_box [Glob P]{g:Bool}{e:TypeId}{x:Operand}{d:D}{h:H}{b:Nat}:aY P W C g (.box e x) [d] h b=(.mptr b 0 0,upd h b (some ⟨e,[(sd d).cells]⟩),(g=true->sg d=true)/\(sd d).cells.length=P.cellsOf e/\(sd d).cells.all D.one=true/\0<P.cellsOf e):=by simp[aY,fE,bg]
@[go_sem]theorem e_build [Glob P]{g:Bool}{t:TypeId}{ps:Array (Nat×Operand)}{xs:List D}{h:H}{b:Nat}:aY P W C g (.build t ps) xs h b=((D8 P t ps.toList (xs.map sd)).1,h,(g=true->xs.all sg=true)/\(D8 P t ps.toList (xs.map sd)).2):=by simp[aY,fE,bg,still]
@[go_sem]theorem Zmo [Glob P]{g:Bool}{t:TypeId}{n:Nat}{ps:Array (Nat×Operand)}{xs:List D}{h:H}{b:Nat}:aY P W C g (.buildSlice t n ps) xs h b=if C.bs then((uT P t n ps.toList (xs.map sd) h b).1,(uT P t n ps.toList (xs.map sd) h b).2.1,(g=true->xs.all sg=true)/\(uT P t n ps.toList (xs.map sd) h b).2.2)else((Cn P t n ps.toList (xs.map sd)).1,h,(g=true->xs.all sg=true)/\(Cn P t n ps.toList (xs.map sd)).2):=by cases hb:C.bs<;>simp[aY,fE,bg,still,hb]
@[go_sem]theorem e_load [Glob P]{g:Bool}{t:TypeId}{x:Operand}{d:D}{h:H}{b:Nat}:aY P W C g (.load t x) [d] h b=(xZ P t (jo P (sd d) h),h,(g=true->sg d=true)/\P.cellsOf t<=(jo P (sd d) h).length/\0<P.cellsOf t/\(P.underlying t).isSome=true):=by simp[aY,fE,bg,still,mP]
@[go_sem]theorem e_store [Glob P]{g:Bool}{t:TypeId}{x y:Operand}{d d':D}{h:H}{b:Nat}:aY P W C g (.store t x y) [d,d'] h b=(.v undef,(lu P t (sd d) (sd d') h).1,(g=true->(sg d&&sg d')=true)/\(lu P t (sd d) (sd d') h).2):=by simp[aY,fE,bg]
@[go_sem]theorem Zmf [Glob P]{g:Bool}{x:Operand}{d:D}{h:H}{b:Nat}:aY P W C g (.nilCheck x) [d] h b=(sd d,h,(g=true->sg d=true)/\ym (sd d)=true):=by simp[aY,fE,bg]
@[go_sem]theorem e_binOp [Glob P]{g:Bool}{op:BinOp}{t u:TypeId}{x y:Operand}{d d':D}{h:H}{b:Nat}:aY P W C g (.binOp op t x y u) [d,d'] h b=((yQ P t op (sd d) (sd d')).1,h,(g=true->(sg d&&sg d')=true)/\(yQ P t op (sd d) (sd d')).2):=by simp[aY,fE,bg,still]
@[go_sem]theorem e_unOp [Glob P]{g:Bool}{op:UnOp}{t:TypeId}{x:Operand}{d:D}{h:H}{b:Nat}:aY P W C g (.unOp op t x) [d] h b=((AC op (sd d)).1,h,(g=true->sg d=true)/\(AC op (sd d)).2):=by simp[aY,fE,bg,still]
@[go_sem]theorem Zmn [Glob P]{g:Bool}{s t:TypeId}{x:Operand}{d:D}{h:H}{b:Nat}:aY P W C g (.convert s t x) [d] h b=((Ci P s t (sd d)).1,h,(g=true->sg d=true)/\(Ci P s t (sd d)).2):=by simp[aY,fE,bg,still]
@[go_sem]theorem Zmj [Glob P]{g:Bool}{f:Fn}{a c:Array Operand}{xs:List D}{h:H}{b:Nat}:aY P W C g (.makeFunc f a c) xs h b=(.fn f ((xs.map sd).take a.size) ((xs.map sd).drop a.size),h,(g=true->xs.all sg=true)/\True):=by simp[aY,fE,bg]
@[go_sem]theorem e_slice [Glob P]{g:Bool}{t:TypeId}{x:Operand}{l hi m:Option Operand}{d:D}{xs:List D}{h:H}{b:Nat}:aY P W C g (.slice t x l hi m) (d::xs) h b =
  ((pX P t (sd d) (kH l (xs.map sd)).1 (kH hi (kH l (xs.map sd)).2).1 (kH m (kH hi (kH l (xs.map sd)).2).2).1 h).1,h,(g=true->(sg d&&xs.all sg)=true)/\(pX P t (sd d) (kH l (xs.map sd)).1 (kH hi (kH l (xs.map sd)).2).1 (kH m (kH hi (kH l (xs.map sd)).2).2).1 h).2):=by simp[aY,fE,bg,still]
@[go_sem]theorem Zml [Glob P]{g:Bool}{t:TypeId}{x:Operand}{f:Nat}{d:D}{h:H}{b:Nat}:aY P W C g (.fieldAddr t x f) [d] h b=((Ca P t f (sd d)).1,h,(g=true->sg d=true)/\(Ca P t f (sd d)).2):=by simp[aY,fE,bg,still]
@[go_sem]theorem Zmk [Glob P]{g:Bool}{t:TypeId}{x y:Operand}{d d':D}{h:H}{b:Nat}:aY P W C g (.indexAddr t x y) [d,d'] h b=((jr P t (sd d) (sd d') h).1,h,(g=true->(sg d&&sg d')=true)/\(jr P t (sd d) (sd d') h).2):=by simp[aY,fE,bg,still]
@[go_sem]theorem e_index [Glob P]{g:Bool}{t:TypeId}{x y:Operand}{d d':D}{h:H}{b:Nat}:aY P W C g (.index t x y) [d,d'] h b=((BF P t (sd d) (sd d')).1,h,(g=true->(sg d&&sg d')=true)/\(BF P t (sd d) (sd d')).2):=by simp[aY,fE,bg,still]
@[go_sem]theorem Zmm [Glob P]{g:Bool}{x:Operand}{i:Nat}{ds:List D}{h:H}{b:Nat}:aY P W C g (.extract x i) [.tuple ds] h b=(ds.getD i .junk,h,i<ds.length):=by simp[aY,fE,bg,sd,sg]
@[go_sem]theorem e_len [Glob P]{g:Bool}{args:Array Operand}{t:TypeId}{d:D}{h:H}{b:Nat}:aY P W C g (.call { callee:=.builtin .len,args:=args,argTypes:=#[t] }) [d] h b=(.v (.int .i64 (bO (sd d))),h,(g=true->sg d=true)/\Br P t (sd d)=true):=by simp[aY,fE,bg]
@[go_sem]theorem e_append [Glob P]{g:Bool}{args:Array Operand}{t u:TypeId}{d d':D}{h:H}{b:Nat}:aY P W C g (.call { callee:=.builtin .append,args:=args,argTypes:=#[t,u] }) [d,d'] h b=((jh P t u (sd d) (sd d') h b).1,(jh P t u (sd d) (sd d') h b).2.1,(g=true->(sg d&&sg d')=true)/\(jh P t u (sd d) (sd d') h b).2.2):=by simp[aY,fE,bg]
@[go_sem]theorem e_call [Glob P]{g:Bool}{f:Operand}{args:Array Operand}{ts:Array TypeId}{xs:List D}{h:H}{b:Nat}:aY P W C g (.call { callee:=.value f,args:=args,argTypes:=ts }) xs h b=((kQ W C f (xs.map sd) h b).1,(kQ W C f (xs.map sd) h b).2.1,(g=true->xs.all sg=true)/\(kQ W C f (xs.map sd) h b).2.2):=by simp[aY,fE,bg]
@[go_sem]theorem Zmi [Glob P]{g:Bool}{t:TypeId}{r:Option Operand}{xs:List D}{h:H}{b:Nat}:aY P W C g (.makeMap t r) xs h b=(.mp b,upd h b (some ⟨t,iY []⟩),(g=true->xs.all sg=true)/\(rR P t).isSome=true/\P.cellsOf t=1/\Jo (xs.map sd)=true):=by simp[aY,fE,bg,Bl]
@[go_sem]theorem Zmg [Glob P]{g:Bool}{t:TypeId}{x y z:Operand}{m k d:D}{h:H}{b:Nat}:aY P W C g (.mapUpdate t x y z) [m,k,d] h b=(.v undef,(ul P t (sd m) (sd k) (sd d) h).1,(g=true->(sg m&&(sg k&&sg d))=true)/\(ul P t (sd m) (sd k) (sd d) h).2):=by simp[aY,fE,bg]
@[go_sem]theorem e_insert [Glob P]{g:Bool}{t:TypeId}{x y z:Operand}{m k d:D}{h:H}{b:Nat}:aY P W C g (.insert t x y z) [m,k,d] h b=(.v undef,(ul P t (sd m) (sd k) (sd d) h).1,(g=true->(sg m&&(sg k&&sg d))=true)/\(ul P t (sd m) (sd k) (sd d) h).2):=by simp[aY,fE,bg]
@[go_sem]theorem e_lookup [Glob P]{g ok:Bool}{t:TypeId}{x y:Operand}{m k:D}{h:H}{b:Nat}:aY P W C g (.lookup t x y ok) [m,k] h b=((rT P t ok (sd m) (sd k) h).1,h,(g=true->(sg m&&sg k)=true)/\(rT P t ok (sd m) (sd k) h).2):=by simp[aY,fE,bg,still]
@[go_sem]theorem Zmh [Glob P]{g:Bool}{t:TypeId}{x y:Operand}{d d':D}{h:H}{b:Nat}:aY P W C g (.makeSlice t x y) [d,d'] h b=((qo P t h b (sd d) (sd d')).1,(qo P t h b (sd d) (sd d')).2.1,(g=true->(sg d&&sg d')=true)/\(qo P t h b (sd d) (sd d')).2.2):=by simp[aY,fE,bg]
@[go_sem]theorem mkSl_i [Glob P]{t:TypeId}{h:H}{b:Nat}{k k':IntKind}{n m:Int}:qo P t h b (.v (.int k n)) (.v (.int k' m))=(match bQ P t with
  | some e=>(.mrow b 0 n.toNat,upd h b (some ⟨e,List.replicate n.toNat (zeroCells P e)⟩),n=m/\0<=n/\P.bytesOf e*n<=281474976710656/\n<=9223372036854775807/\eQ P e=true/\(zeroCells P e).length=P.cellsOf e/\(zeroCells P e).all D.one=true/\0<P.cellsOf e)
  | none=>(.junk,h,False)):=rfl
@[go_sem]theorem ZlE{t:TypeId}{x y:Operand}{ok:Bool}:(bW C (.lookup t x y ok) = .writes)=False:=by simp[bW]
def Zl0:Jo []=true:=rfl
def Zl1{k:IntKind}{n:Int}:Jo [.v (.int k n)]=true:=rfl
attribute[go_sem]Zl0 Zl1
@[go_sem]theorem ZkU [Glob P]{t:TypeId}{r:Nat}{k d:D}{h:H}:ul P t (.mp r) k d h=(match rR P t with
 | some (kt,_)=>match h r with
  | some bl=>match qy bl with
   | some kv=>(upd h r (some ⟨bl.ty,iY (jq kv k d)⟩),l5 P kt k=true/\kL P kt kv=true/\rU P kt=true)
   | none=>(h,False)
  | none=>(h,False)
 | _=>(h,False)):=by unfold ul;cases rR P t<;>rfl
@[go_sem]theorem lookD_eq [Glob P]{t:TypeId}{ok:Bool}{m k:D}{h:H}:rT P t ok m k h=(match rR P t with
 | some (kt,e)=>match yh h m with
  | some kv=>(if ok then .tuple [(kK kv k).getD (yX P e),.b (kK kv k).isSome]else(kK kv k).getD (yX P e),l5 P kt k=true/\kL P kt kv=true/\rU P kt=true/\Jy P e=true)
  | none=>(.junk,False)
 | _=>(.junk,False)):=by unfold rT;cases rR P t<;>cases yh h m<;>rfl
@[go_sem]theorem kvH_fmap{h:H}{kv:List D}:yh h (.fmap kv)=some kv:=rfl
@[go_sem]theorem kvH_mp{h:H}{r:Nat}:yh h (.mp r)=(match h r with|some bl=>qy bl|none=>none):=by show(h r).bind qy=_;cases h r<;>rfl
def kvB_rows{t:TypeId}{kv:List D}:qy ⟨t,iY kv⟩=some kv:=rfl
def bv_v{b:Bool}:bv (.v (.bool b))=b:=rfl
def isB_v{b:Bool}:yn (.v (.bool b))=true:=rfl
attribute[go_sem]kvB_rows bv_v isB_v
@[go_sem]theorem e_pick [Glob P]{g:Bool}{x y z:Operand}{c a b:D}{h:H}{n:Nat} :
  aY P W C g (.pick x y z) [c,a,b] h n=(.v (.bool (bif bv (sd c)then bv (sd a)else bv (sd b))),h,(g=true->(sg c=true/\yn (sd c)=true)/\(bv (sd c)=true->sg a=true/\yn (sd a)=true)/\(bv (sd c)=false->sg b=true/\yn (sd b)=true))):=rfl
attribute [go_sem] cond_true cond_false
@[go_sem]theorem nw_move{x:Operand}:(bW C (.move x) = .writes)=False:=by simp[bW]
@[go_sem]theorem nw_load{t:TypeId}{x:Operand}:(bW C (.load t x) = .writes)=False:=by simp[bW]
@[go_sem]theorem nw_binOp{op:BinOp}{t u:TypeId}{x y:Operand}:(bW C (.binOp op t x y u) = .writes)=False:=by simp[bW]
@[go_sem]theorem nw_unOp{op:UnOp}{t:TypeId}{x:Operand}:(bW C (.unOp op t x) = .writes)=False:=by simp[bW]
@[go_sem]theorem ZlG{t:TypeId}{x:Operand}{f:Nat}:(bW C (.fieldAddr t x f) = .writes)=False:=by simp[bW]
@[go_sem]theorem ZlF{t:TypeId}{x y:Operand}:(bW C (.indexAddr t x y) = .writes)=False:=by simp[bW]
@[go_sem]theorem nw_index{t:TypeId}{x y:Operand}:(bW C (.index t x y) = .writes)=False:=by simp[bW]
@[go_sem]theorem nw_pick{x y z:Operand}:(bW C (.pick x y z) = .writes)=False:=by simp[bW]
@[go_sem]theorem nw_slice{t:TypeId}{x:Operand}{a b c:Option Operand}:(bW C (.slice t x a b c) = .writes)=False:=by simp[bW]
@[go_sem]theorem ZlD{x:Operand}:(bW C (.nilCheck x) = .writes)=False:=by simp[bW]
@[go_sem]theorem nw_build{t:TypeId}{ps:Array (Nat×Operand)}:(bW C (.build t ps) = .writes)=False:=by simp[bW]
@[go_sem]theorem ZlH{t:TypeId}{n:Nat}{ps:Array (Nat×Operand)}:(bW C (.buildSlice t n ps) = .writes)=(C.bs=true):=by cases hb:C.bs<;>simp[bW,hb]
@[go_sem]theorem nw_len{args:Array Operand}{ts:Array TypeId}:(bW C (.call { callee:=.builtin .len,args:=args,argTypes:=ts }) = .writes)=False:=by simp[bW]
@[go_sem]theorem nw_call{f:Operand}{args:Array Operand}{ts:Array TypeId}:(bW C (.call { callee:=.value f,args:=args,argTypes:=ts }) = .writes)=False:=by
 cases h:C.cf<;>simp[bW,Fs,h]
@[go_sem]theorem bif_or{c b:Bool}:(bif c then true else b)=(c||b):=by cases c<;>rfl
@[go_sem]theorem bif_and{c b:Bool}:(bif c then b else false)=(c&&b):=by cases c<;>rfl
def ZmO{cs:List D}:D.cells (.agg cs)=cs:=rfl
def cells_v{x:Value}:D.cells (.v x)=[.v x]:=rfl
def ZmM{f:Bool}{x:List (List D)}:D.cells (.list f x)=[.list f x]:=rfl
def ZmK{a b c:Nat}:D.cells (.mrow a b c)=[.mrow a b c]:=rfl
def ZmL{a b c:Nat}:D.cells (.mptr a b c)=[.mptr a b c]:=rfl
def cells_fn{f:Fn}{a b:List D}:D.cells (.fn f a b)=[.fn f a b]:=rfl
def one_int{k:IntKind}{n:Int}:D.one (.v (.int k n))=true:=rfl
def one_bool{b:Bool}:D.one (.v (.bool b))=true:=rfl
def Zlx{b:ByteArray}:D.one (.v (.string b))=true:=rfl
def Zlz:D.one (.v .nilFunc)=true:=rfl
def Zly:D.one (.v .nilIface)=true:=rfl
def one_list{f:Bool}{x:List (List D)}:D.one (.list f x)=true:=rfl
def one_mrow{a b c:Nat}:D.one (.mrow a b c)=true:=rfl
def one_mptr{a b c:Nat}:D.one (.mptr a b c)=true:=rfl
def one_fn{f:Fn}{a b:List D}:D.one (.fn f a b)=true:=rfl
def ldc_eptr [Glob P]{cs:List D}{h:H}:jo P (.eptr cs) h=cs:=rfl
def ldc_mptr [Glob P]{r i off:Nat}{h:H}:jo P (.mptr r i off) h=match h r with|some b=>(b.rows.getD i []).drop off|none=>[]:=rfl
def ldD_eq [Glob P]{t:TypeId}{a:D}{h:H}:mP P t a h=(xZ P t (jo P a h),P.cellsOf t<=(jo P a h).length/\0<P.cellsOf t/\(P.underlying t).isSome=true):=rfl
attribute[go_sem]ZmO cells_v ZmM ZmK ZmL cells_fn one_int one_bool Zlx Zlz Zly one_list one_mrow one_mptr one_fn ldc_eptr ldc_mptr ldD_eq
theorem Ug [Glob P]{x o:Nat}{h:H}:jo P (.v (.pointer (some ⟨x,o,none⟩))) h=match Glob.tab P x with|some cs=>(cs.drop o).map D.v|none=>[]:=rfl
@[go_sem]theorem ZlP{r i off:Nat}{h:H}:jL (.mptr r i off) h=match h r with|some b=>(b.rows.getD i []).drop off|none=>[]:=rfl
attribute [go_sem] xZ Ca Gf splice
def Zlr{n:Nat}{cs:List D}:zu n (.eptr cs) = .eptr (cs.drop n):=rfl
def Zlq{n r i off:Nat}:zu n (.mptr r i off) = .mptr r i (off+n):=rfl
attribute[go_sem]Zlr Zlq
@[go_sem]theorem Zlp{n x o:Nat}:zu n (.v (.pointer (some ⟨x,o,none⟩))) = .v (.pointer (some ⟨x,o+n,none⟩)):=by simp only[zu,pO]
def ZlS{cs:List D}:ym (.eptr cs)=true:=rfl
def ZlR{r i off:Nat}:ym (.mptr r i off)=true:=rfl
attribute[go_sem]ZlS ZlR
@[go_sem]theorem stH_mptr [Glob P]{t:TypeId}{r i off:Nat}{x:D}{h:H}:lu P t (.mptr r i off) x h=match h r with
  | some b=>(upd h r (some { b with rows:=b.rows.set i (splice (b.rows.getD i []) off x.cells) }),x.cells.length=P.cellsOf t/\0<P.cellsOf t/\i<b.rows.length/\off+x.cells.length<=(b.rows.getD i []).length/\x.cells.all D.one=true)
  | none=>(h,False):=rfl
@[go_sem]theorem Zl5 [Glob P]{t:TypeId}{f:Bool}{rows:List (List D)}{k:IntKind}{n:Int}{h:H}:jr P t (.list f rows) (.v (.int k n)) h=match bQ P t with
  | none=>wZ P t (.list f rows) (.v (.int k n))
  | some e=>(.eptr (rows.getD n.toNat []),0<=n/\n<rows.length/\0<P.cellsOf e/\(rows.getD n.toNat []).length=P.cellsOf e):=by unfold jr;cases bQ P t<;>rfl
@[go_sem]theorem Zl3 [Glob P]{t:TypeId}{r off len:Nat}{k:IntKind}{n:Int}{h:H}:jr P t (.mrow r off len) (.v (.int k n)) h=match bQ P t with
  | none=>wZ P t (.mrow r off len) (.v (.int k n))
  | some e=>(.mptr r (off+n.toNat) 0,0<=n/\n<len/\0<P.cellsOf e/\match h r with|some bl=>bl.ty=e|none=>False):=by unfold jr;cases bQ P t<;>rfl
@[go_sem]theorem Zl2 [Glob P]{t:TypeId}{p:Option Addr}{k:IntKind}{n:Int}{h:H}:jr P t (.v (.pointer p)) (.v (.int k n)) h=match bQ P t with
  | none=>wZ P t (.v (.pointer p)) (.v (.int k n))
  | some _=>(.junk,False):=by unfold jr;cases bQ P t<;>rfl
def isGp_ptr{p:Addr}:zP (.v (.pointer (some p)))=true:=rfl
def ZlY{r i off:Nat}:zP (.mptr r i off)=true:=rfl
attribute[go_sem]isGp_ptr ZlY
@[go_sem]theorem Zl4 [Glob P]{t:TypeId}{r i off:Nat}{k:IntKind}{n:Int}{h:H}:jr P t (.mptr r i off) (.v (.int k n)) h=match bQ P t with
  | none=>wZ P t (.mptr r i off) (.v (.int k n))
  | some _=>(.junk,False):=by unfold jr;cases bQ P t<;>rfl
@[go_sem]theorem Zl6 [Glob P]{t:TypeId}{x:D}{k:IntKind}{n:Int}:wZ P t x (.v (.int k n))=match rf P t with
  | some (m,e)=>(zu (n.toNat*P.cellsOf e) x,zP x=true/\0<=n/\n<m/\0<P.cellsOf e)
  | none=>(.junk,False):=by unfold wZ;cases rf P t<;>rfl
def Zln{f:Bool}{rows:List (List D)}{h:H}:aC (.list f rows) h=rows:=rfl
def Zlm{r off len:Nat}{h:H}:aC (.mrow r off len) h=match h r with|some b=>(b.rows.drop off).take len|none=>[]:=rfl
def ZlO{f:Bool}{rows:List (List D)}:bO (.list f rows)=rows.length:=rfl
def ZlN{r off len:Nat}:bO (.mrow r off len)=len:=rfl
def ZlM{s:ByteArray}:bO (.v (.string s))=s.size:=rfl
def ZlL [Glob P]{t:TypeId}{f:Bool}{rows:List (List D)}:Br P t (.list f rows)=(bQ P t).isSome:=rfl
def ZlK [Glob P]{t:TypeId}{r off len:Nat}:Br P t (.mrow r off len)=(bQ P t).isSome:=rfl
def ZlJ [Glob P]{t:TypeId}{s:ByteArray}:Br P t (.v (.string s))=match P.underlying t with|some .string=>true|_=>false:=rfl
attribute[go_sem]Zln Zlm ZlO ZlN ZlM ZlL ZlK ZlJ
attribute [go_sem] Option.isSome_some
def ZkZ [Glob P]{t:TypeId}{h:H}{f:Bool}{rows:List (List D)}:iA P t h (.list f rows)=(bQ P t).isSome:=rfl
def ZkY [Glob P]{t:TypeId}{h:H}{r off len:Nat}:iA P t h (.mrow r off len)=((bQ P t).isSome&&(h r).isSome):=rfl
def ZkX [Glob P]{t:TypeId}{h:H}{s:ByteArray}:iA P t h (.v (.string s))=match P.underlying t with|some .string=>true|_=>false:=rfl
attribute[go_sem]ZkZ ZkY ZkX
@[go_sem]theorem ZmY [Glob P]{t u:TypeId}{rows:List (List D)}{y:D}{h:H}{b:Nat}:jh P t u (.list true rows) y h b=match bQ P t with
  | none=>(.junk,h,False)
  | some e=>(.mrow b 0 (rows.length+(aC y h).length),upd h b (some ⟨e,rows++aC y h⟩),(0<P.cellsOf e/\(rows.length+(aC y h).length)*P.bytesOf e<=140737488355328/\rows.length+(aC y h).length<=9223372036854775807) /\
    ((aC y h).length=bO y/\iA P u h y=true/\eQ P e=true /\ ∀r∈aC y h,r.length=P.cellsOf e)/\(aC y h=[]->rows=[]) /\ ∀r∈rows,r.length=P.cellsOf e):=by
 unfold jh;cases bQ P t<;>rfl
@[go_sem]theorem Zkw [Glob P]{t u:TypeId}{r n:Nat}{y:D}{h:H}{b:Nat}:jh P t u (.mrow r 0 n) y h b=match bQ P t with
  | none=>(.junk,h,False)
  | some e=>match h r with
   | none=>(.junk,h,False)
   | some bl=>(.mrow b 0 (n+(aC y h).length),upd (upd h r none) b (some ⟨e,bl.rows++aC y h⟩),(0<P.cellsOf e/\(n+(aC y h).length)*P.bytesOf e<=140737488355328/\n+(aC y h).length<=9223372036854775807) /\
    ((aC y h).length=bO y/\iA P u h y=true/\eQ P e=true /\ ∀r∈aC y h,r.length=P.cellsOf e)/\bl.ty=e/\bl.rows.length=n/\r≠b):=by
 unfold jh;cases bQ P t with
 | none=>rfl
 | some e=>cases hr:h r with
  | none=>simp only[hr]
  | some bl=>simp only[bO,hr]
attribute [go_sem] D8 yF Ac Cn uT AX
def binD_v [Glob P]{t:TypeId}{op:BinOp}{a b:Value}:yQ P t op (.v a) (.v b)=(.v (gT P t op a b).1,(gT P t op a b).2):=rfl
def binV_lss [Glob P]{t:TypeId}{k k':IntKind}{a b:Int}:gT P t .lss (.int k a) (.int k' b)=(.bool (decide (a<b)),k=k'):=rfl
def binV_leq [Glob P]{t:TypeId}{k k':IntKind}{a b:Int}:gT P t .leq (.int k a) (.int k' b)=(.bool (decide (a<=b)),k=k'):=rfl
def binV_gtr [Glob P]{t:TypeId}{k k':IntKind}{a b:Int}:gT P t .gtr (.int k a) (.int k' b)=(.bool (decide (b<a)),k=k'):=rfl
def binV_geq [Glob P]{t:TypeId}{k k':IntKind}{a b:Int}:gT P t .geq (.int k a) (.int k' b)=(.bool (decide (b<=a)),k=k'):=rfl
def binV_eql [Glob P]{t:TypeId}{k k':IntKind}{a b:Int}:gT P t .eql (.int k a) (.int k' b)=(.bool (a==b),k=k'):=rfl
def binV_neq [Glob P]{t:TypeId}{k k':IntKind}{a b:Int}:gT P t .neq (.int k a) (.int k' b)=(.bool (a != b),k=k'):=rfl
def binV_add [Glob P]{t:TypeId}{k k':IntKind}{a b:Int}:gT P t .add (.int k a) (.int k' b)=if k.signed then(.int k (a+b),k=k'/\qz k (a+b))else(.int k (k.wrap (a+b)),k=k'):=rfl
def binV_sub [Glob P]{t:TypeId}{k k':IntKind}{a b:Int}:gT P t .sub (.int k a) (.int k' b)=if k.signed then(.int k (a-b),k=k'/\qz k (a-b))else(.int k (k.wrap (a-b)),k=k'):=rfl
def binV_mul [Glob P]{t:TypeId}{k k':IntKind}{a b:Int}:gT P t .mul (.int k a) (.int k' b)=if k.signed then(.int k (a*b),k=k'/\qz k (a*b))else(.int k (k.wrap (a*b)),k=k'):=rfl
def binV_quo [Glob P]{t:TypeId}{k k':IntKind}{a b:Int}:gT P t .quo (.int k a) (.int k' b)=(.int k (a / b),k=k'/\0<=a/\1<=b/\qz k a):=rfl
def binV_rem [Glob P]{t:TypeId}{k k':IntKind}{a b:Int}:gT P t .rem (.int k a) (.int k' b)=(.int k (a % b),k=k'/\0<=a/\1<=b):=rfl
def binV_eqb [Glob P]{t:TypeId}{a b:Bool}:gT P t .eql (.bool a) (.bool b)=(.bool (a==b),P.underlying t=some .bool):=rfl
def binV_eqs [Glob P]{t:TypeId}{a b:ByteArray}:gT P t .eql (.string a) (.string b)=(.bool (a.data.toList==b.data.toList),True):=rfl
def binV_nes [Glob P]{t:TypeId}{a b:ByteArray}:gT P t .neq (.string a) (.string b)=(.bool (a.data.toList != b.data.toList),True):=rfl
def ZmX [Glob P]{t:TypeId}{a b:ByteArray}:gT P t .add (.string a) (.string b)=(.string (a++b),a.size+b.size<=9223372036854775807):=rfl
def ZmV [Glob P]{t:TypeId}{a b:ByteArray}:gT P t .lss (.string a) (.string b)=(.bool (Go.Op.bytesLess a.data.toList b.data.toList),True):=rfl
def ZmW [Glob P]{t:TypeId}{a b:ByteArray}:gT P t .gtr (.string a) (.string b)=(.bool !(Go.Op.bytesLess a.data.toList b.data.toList||a.data.toList==b.data.toList),True):=rfl
def binV_shl [Glob P]{t:TypeId}{k k':IntKind}{a b:Int}:gT P t .shl (.int k a) (.int k' b)=(.int k (k.wrap (a*2^(min b.toNat k.bits))),0<=b):=rfl
def binV_shr [Glob P]{t:TypeId}{k k':IntKind}{a b:Int}:gT P t .shr (.int k a) (.int k' b)=(.int k (a.fdiv (2^(min b.toNat k.bits))),0<=b):=rfl
def binV_or [Glob P]{t:TypeId}{k k':IntKind}{a b:Int}:gT P t .or (.int k a) (.int k' b)=(.int k (k.wrap (BitVec.ofInt k.bits a ||| BitVec.ofInt k.bits b).toNat),k=k'):=rfl
attribute[go_sem]binD_v binV_lss binV_leq binV_gtr binV_geq binV_eql binV_neq binV_add binV_sub binV_mul binV_quo binV_rem binV_eqb binV_eqs binV_nes ZmX ZmV ZmW binV_shl binV_shr binV_or
def KL(k:IntKind)(a b:Int):Int:=k.wrap (BitVec.ofInt k.bits a ^^^ BitVec.ofInt k.bits b).toNat
def binV_xor [Glob P]{t:TypeId}{k k':IntKind}{a b:Int}:gT P t .xor (.int k a) (.int k' b)=(.int k (KL k a b),k=k'):=rfl
def binD_eq [Glob P]{t:TypeId}{xs ys:List D}:yQ P t .eql (.agg xs) (.agg ys)=(.v (.bool (pI xs ys)),match vW P t with|some ks=>su ks xs ys=true|none=>False):=rfl
def binD_ne [Glob P]{t:TypeId}{xs ys:List D}:yQ P t .neq (.agg xs) (.agg ys)=(.v (.bool (!pI xs ys)),match vW P t with|some ks=>su ks xs ys=true|none=>False):=rfl
attribute[go_sem]binV_xor binD_eq binD_ne
attribute [go_sem] pI su
def eqCell_i{k k':IntKind}{a b:Int}:nU (.v (.int k a)) (.v (.int k' b))=(a==b):=rfl
def eqCell_s{a b:ByteArray}:nU (.v (.string a)) (.v (.string b))=(a.data.toList==b.data.toList):=rfl
def Zlt{k k':IntKind}{a b:Int}:A7 .i (.v (.int k a)) (.v (.int k' b))=(k==k'):=rfl
def Zls{a b:ByteArray}:A7 .s (.v (.string a)) (.v (.string b))=true:=rfl
def Zlg:IntKind.i64.signed=true:=rfl
def Zlf:IntKind.u64.signed=false:=rfl
attribute[go_sem]eqCell_i eqCell_s Zlt Zls Zlg Zlf
@[go_sem]theorem inK_i64{n:Int}:qz .i64 n=(-9223372036854775808<=n/\n<=9223372036854775807):=by simp[qz,IntKind.min,IntKind.max,IntKind.signed,IntKind.bits]
@[go_sem]theorem unD_not{b:Bool}:AC .not (.v (.bool b))=(.v (.bool !b),True):=rfl
attribute [go_sem] Ci
def idxV_s [Glob P]{t:TypeId}{s:ByteArray}{k:IntKind}{n:Int}:BF P t (.v (.string s)) (.v (.int k n))=(.v (.int .u8 (s.data.toList.getD n.toNat 0).toNat),0<=n/\n<s.size/\P.underlying t=some .string):=rfl
def bnd_none{d:Nat}:bnd none d=d:=rfl
def bnd_some{d:Nat}{k:IntKind}{n:Int}:bnd (some (.v (.int k n))) d=n:=rfl
def ZmU:Cq none=true:=rfl
def ZmT{k:IntKind}{n:Int}:Cq (some (.v (.int k n)))=true:=rfl
attribute[go_sem]idxV_s bnd_none bnd_some ZmU ZmT
attribute [go_sem] Option.toList_some Option.toList_none kH pX
attribute [go_sem] qW
def wk_v{x:Value}:wk (.v x) = .v x:=rfl
def wk_agg{cs:List D}:wk (.agg cs) = .agg (eB cs):=rfl
def wk_list{f:Bool}{rows:List (List D)}:wk (.list f rows) = .list false (eG rows):=rfl
def wk_eptr{cs:List D}:wk (.eptr cs) = .eptr (eB cs):=rfl
def wk_tuple{cs:List D}:wk (.tuple cs) = .tuple (eB cs):=rfl
def wk_mrow{a b c:Nat}:wk (.mrow a b c) = .mrow a b c:=rfl
def wk_mptr{a b c:Nat}:wk (.mptr a b c) = .mptr a b c:=rfl
def wk_fn{f:Fn}{a b:List D}:wk (.fn f a b) = .fn f a b:=rfl
def wk_fmap{kv:List D}:wk (.fmap kv) = .fmap (eB kv):=rfl
attribute[go_sem]wk_v wk_agg wk_list wk_eptr wk_tuple wk_mrow wk_mptr wk_fn wk_fmap
@[go_sem]theorem Zk2{h:H}{k:Nat}{x:List D}:snap h k (.fmap x) = .fmap x:=by cases k<;>rfl
@[go_sem]theorem Zlb{h:H}{k:Nat}{x:List D}:dP h k (.fmap x)=(bC x=true):=by cases k<;>rfl
attribute [go_sem] eB eG
def Zmt{f:Bool}{rows:List (List D)}{h:H}:deref h (.list f rows) = .list f rows:=rfl
def deref_v{x:Value}{h:H}:deref h (.v x) = .v x:=rfl
def Zmv{x:List D}{h:H}:deref h (.agg x) = .agg x:=rfl
def deref_fn{f:Fn}{a b:List D}{h:H}:deref h (.fn f a b) = .fn f (a.map (Al h)) (b.map (Al h)):=rfl
def ZmD{x:List D}{h:H}:Al h (.eptr x) = .eptr x:=rfl
def Zmu{x:List D}{h:H}:deref h (.eptr x) = .eptr x:=rfl
def ZlW{x:List D}:lc (.eptr x)=false:=rfl
def ZmA{x:List D}{h:H}:qX h (.eptr x)=True:=rfl
def Zms{a b c:Nat}{h:H}:deref h (.mrow a b c) = .list false (aC (.mrow a b c) h):=rfl
def ZlU{f:Bool}{rows:List (List D)}:lc (.list f rows)=false:=rfl
def isMrow_v{x:Value}:lc (.v x)=false:=rfl
def ZlX{x:List D}:lc (.agg x)=false:=rfl
def ZlV{f:Fn}{a b:List D}:lc (.fn f a b)=(a.any BA||b.any BA):=rfl
def ZlQ{x:List D}:BA (.eptr x)=false:=rfl
def ZlT{a b c:Nat}:lc (.mrow a b c)=true:=rfl
def Zmy{f:Bool}{rows:List (List D)}{h:H}:qX h (.list f rows)=True:=rfl
def Zmw{x:Value}{h:H}:qX h (.v x)=True:=rfl
def ZmB{x:List D}{h:H}:qX h (.agg x)=True:=rfl
def Zmz{f:Fn}{a b:List D}{h:H}:qX h (.fn f a b)=((∀c∈a,DZ h c) /\ ∀c∈b,DZ h c):=rfl
def ZmC{x:List D}{h:H}:DZ h (.eptr x)=True:=rfl
def Zmx{r off len:Nat}{h:H}:qX h (.mrow r off len)=((h r).isSome=true/\(aC (.mrow r off len) h).length=len):=rfl
attribute[go_sem]Zmt deref_v Zmv deref_fn ZmD Zmu ZlW ZmA Zms ZlU isMrow_v ZlX ZlV ZlQ ZlT Zmy Zmw ZmB Zmz ZmC Zmx
attribute [go_sem] List.any_cons List.any_nil Bool.or_false Bool.or_true Bool.false_or Bool.true_or
@[go_sem]theorem ZmP{k:FuncId}{d:D}{ys:List D}{h:H}{b:Nat}:kQ W C (.func k) (d::ys) h b=if C.pure k then
   (if C.cf then(C.pf k (ys.map wk),h,W.pureCt k (ys.map wk) (C.pf k (ys.map wk))/\ys.any lc=false)
   else if C.dp then(C.pf k (ys.map (ji h)),h,W.pureCt k (ys.map (ji h)) (C.pf k (ys.map (ji h)))/\flat (C.pf k (ys.map (ji h)))=true /\ ∀y∈ys,dP h 5 y)
   else(C.pf k (ys.map (qW h)),h,W.pureCt k (ys.map (qW h)) (C.pf k (ys.map (qW h)))/\(ys.any lc=true->flat (C.pf k (ys.map (qW h)))=true /\ ∀y∈ys,qX h y)))
  else(.junk,h,False):=rfl
@[go_sem]theorem call_tmp{k:FuncId}{t:Tmp}{first aD ys:List D}{h:H}{b:Nat}:kQ W C (.tmp t) (.fn (.func k) first aD::ys) h b=if C.pure k then
   (if C.cf then(C.pf k ((first++ys++aD).map wk),h,W.pureCt k ((first++ys++aD).map wk) (C.pf k ((first++ys++aD).map wk))/\(first++ys++aD).any lc=false)
   else if C.dp then(C.pf k ((first++ys++aD).map (ji h)),h,W.pureCt k ((first++ys++aD).map (ji h)) (C.pf k ((first++ys++aD).map (ji h)))/\flat (C.pf k ((first++ys++aD).map (ji h)))=true /\ ∀y∈first++ys++aD,dP h 5 y)
   else(C.pf k ((first++ys++aD).map (qW h)),h,W.pureCt k ((first++ys++aD).map (qW h)) (C.pf k ((first++ys++aD).map (qW h)))/\((first++ys++aD).any lc=true->flat (C.pf k ((first++ys++aD).map (qW h)))=true /\ ∀y∈first++ys++aD,qX h y)))
  else(.junk,h,False):=rfl
def ZkS [Glob P]{k:FuncId}{xs:List D}{r:D}:(words P).pureCt k xs r=PureCt P k xs r:=rfl
def flat_v{x:Value}:flat (.v x)=true:=rfl
attribute[go_sem]ZkS flat_v
attribute [go_sem] qh Rp EO rO
attribute [go_sem] List.forall_mem_cons List.not_mem_nil false_implies forall_const
@[go_sem]theorem snap_v{h:H}{k:Nat}{x:Value}:snap h k (.v x) = .v x:=by cases k<;>rfl
@[go_sem]theorem snap_list{h:H}{k:Nat}{f:Bool}{x:List (List D)}:snap h k (.list f x) = .list f x:=by cases k<;>rfl
theorem snap_mrow{h:H}{k:Nat}{r off len:Nat}:snap h (k+1) (.mrow r off len) = .list false ((aC (.mrow r off len) h).map λrow=>row.map (snap h k)):=rfl
theorem snap_agg{h:H}{k:Nat}{cs:List D}:snap h (k+1) (.agg cs) = .agg (cs.map (snap h k)):=rfl
def Zk0{h:H}{k:Nat}{cs:List D}:snap h (k+1) (.tuple cs) = .tuple (cs.map (snap h k)):=rfl
attribute[go_sem]snap_mrow snap_agg Zk0
@[go_sem]theorem snapOk_v{h:H}{k:Nat}{x:Value}:dP h k (.v x)=True:=by cases k<;>simp[dP,D.nr]
@[go_sem]theorem Zk9{h:H}{k:Nat}{f:Bool}{x:List (List D)}:dP h k (.list f x)=(bq x=true):=by cases k<;>rfl
def Zk7{h:H}{k:Nat}{r off len:Nat}:dP h (k+1) (.mrow r off len)=(qX h (.mrow r off len) /\ ∀row∈aC (.mrow r off len) h,∀c∈row,dP h k c):=rfl
def Zlc{h:H}{k:Nat}{cs:List D}:dP h (k+1) (.agg cs) = ∀c∈cs,dP h k c:=rfl
def Zk5{h:H}{k:Nat}{cs:List D}:dP h (k+1) (.tuple cs) = ∀c∈cs,dP h k c:=rfl
def Zk1{h:H}{k:Nat}{r i off:Nat}:snap h (k+1) (.mptr r i off) = .eptr ((jL (.mptr r i off) h).map (snap h k)):=rfl
theorem Qy{h:H}{k:Nat}{f:Fn}{a b:List D}:snap h (k+1) (.fn f a b) = .fn f (a.map (snap h k)) (b.map (snap h k)):=rfl
def Zk8{h:H}{k:Nat}{r i off:Nat}:dP h (k+1) (.mptr r i off)=((h r).isSome=true /\ ∀c∈jL (.mptr r i off) h,dP h k c):=rfl
def Zla{h:H}{k:Nat}{f:Fn}{a b:List D}:dP h (k+1) (.fn f a b)=((∀c∈a,dP h k c) /\ ∀c∈b,dP h k c):=rfl
attribute[go_sem]Zk7 Zlc Zk5 Zk1 Qy Zk8 Zla
theorem Zct{h:H}(rows:List (List D)):(rows.map λrow=>row.map (snap h 0))=rows:=by
 have:(λrow:List D=>row.map (snap h 0))=id:=by funext row;exact List.map_id row
 rw[this];exact List.map_id rows
def Zcx{h:H}{rows:List (List D)}(hn:bq rows=true):∀row∈rows,∀c∈row,dP h 0 c:=λ_ h1 _ h2=>tH (Fa hn h1) h2
def VW [Glob P]{ro:Option Nat}{Q:Exit->S->Prop}{s s':S}{id:Nat}{ops:Array Oper}{draw:Bool}(he:exec P (words P) C ops.toList s=s')(hd:draw=true->P.follows .mixedOrders=true/\qZ C ops.toList=true/\kr ops.toList=true)(hok:s'.ok)(hq:Q .normal s'.clear):DW P ro (.region id ops draw) Q s :=
 Ziv (C:=C) hd o6a (by rw[he];exact hq)
end Go.DL
namespace Go.Proofs.YtidphdaoejibcaaGreatDoor
open Go.Proofs.Tryz
open Go.DL
def Ik:List Value:=[.int .i64 0,.int .i64 0,.int .i64 0,.int .i64 0,.int .i64 0,.bool false,.bool false,.bool false,.int .i64 0,.int .i64 1,.int .i64 1000000,.int .i64 0,.int .i64 0,.bool false,.bool false,.bool true,.int .i64 1,.int .i64 0,.int .i64 0,.int .i64 0,.int .i64 0,.bool false,.bool false,.bool false,.int .i64 1,.int .i64 0,.int .i64 0,.int .i64 0,.int .i64 0,.bool false,.bool true,.bool false,.int .i64 0,.int .i64 0,.int .i64 65535,.int .i64 0,.int .i64 100000,.bool false,.bool true,.bool false,.int .i64 3,.int .i64 0,.int .i64 0,.int .i64 0,.int .i64 0,.bool false,.bool false,.bool true,.int .i64 0,.int .i64 1,.int .i64 1000000,.int .i64 1,.int .i64 3,.bool false,.bool false,.bool false,.int .i64 0,.int .i64 1,.int .i64 1000000,.int .i64 1,.int .i64 3,.bool false,.bool false,.bool false,.int .i64 2,.int .i64 2,.int .i64 510,.int .i64 0,.int .i64 0,.bool true,.bool false,.bool true]
def kg(a:Addr):Value:=.iface 339 (.pointer (some a))
def toldF(a:Addr)(x:Nat):Option (List Value):=if x=1 then some Ik else if x=0 then some [kg a]else none
class Told [Glob prog]:Prop where
 tab : ∃a:Addr,∀x,Glob.tab prog x=toldF a x
section
variable [Glob prog] [Told]
noncomputable def iP:Addr:=(Told.tab (self:=inferInstance)).choose
def P6(x:Nat):Glob.tab prog x=toldF iP x:=(Told.tab (self:=inferInstance)).choose_spec x
theorem glob0:Glob.tab prog 1=some Ik:=P6 1
theorem globE:Glob.tab prog 0=some [kg iP]:=P6 0
end
variable [Glob prog]
def o7:prog.follows .mixedOrders=true:=by kernel_rfl
@[go_sem]theorem ty_1:dN prog 3=false/\prog.cellsOf 3=1/\prog.bytesOf 3=8/\zeroCells prog 3=[.v (.int .i64 0)]/\eQ prog 3=true/\prog.underlying 3=some (.int .i64)/\rU prog 3=true/\dN prog 4=false/\prog.cellsOf 4=1/\prog.bytesOf 4=1/\zeroCells prog 4=[.v (.bool false)]/\eQ prog 4=true/\prog.underlying 4=some .bool/\yX prog 4 = .v (.bool false)/\Jy prog 4=true/\dN prog 5=false/\prog.cellsOf 5=1/\prog.bytesOf 5=1/\zeroCells prog 5=[.v (.int .u8 0)]/\eQ prog 5=true/\prog.underlying 5=some (.int .u8)/\dN prog 9=false/\prog.cellsOf 9=1/\prog.bytesOf 9=16/\zeroCells prog 9=[.v (.string ⟨⟨[]⟩⟩)]/\eQ prog 9=true/\prog.underlying 9=some .string/\rU prog 9=true/\dN prog 22=false/\prog.cellsOf 22=1/\(prog.underlying 22).isSome=true/\bQ prog 22=some 84/\dN prog 24=true/\prog.cellsOf 24=2/\prog.bytesOf 24=40/\zeroCells prog 24=[.v (.string ⟨⟨[]⟩⟩),.list true []]/\eQ prog 24=true/\(prog.underlying 24).isSome=true/\bH prog 24 0=some (0,9)/\bH prog 24 1=some (1,22):=by and_intros<;>kernel_rfl
@[go_sem]theorem ty_2:jd prog 24=true/\bQ prog 25=some 68/\dN prog 28=false/\prog.cellsOf 28=1/\(prog.underlying 28).isSome=true/\bQ prog 28=some 24/\dN prog 31=false/\prog.cellsOf 31=1/\prog.bytesOf 31=24/\eQ prog 31=true/\(prog.underlying 31).isSome=true/\bQ prog 31=some 5/\dN prog 32=false/\prog.cellsOf 32=1/\(prog.underlying 32).isSome=true/\bQ prog 32=some 31/\dN prog 34=true/\prog.cellsOf 34=2/\zeroCells prog 34=[.list true [],.list true []]/\(prog.underlying 34).isSome=true/\bH prog 34 0=some (0,31)/\bH prog 34 1=some (1,32)/\jd prog 34=true/\dN prog 35=false/\prog.cellsOf 35=1/\zeroCells prog 35=[.v (.int .i64 0)]/\prog.underlying 35=some (.int .i64)/\dN prog 38=false/\prog.cellsOf 38=1/\(prog.underlying 38).isSome=true/\bQ prog 38=some 86/\dN prog 40=true/\prog.cellsOf 40=5/\prog.bytesOf 40=80/\zeroCells prog 40=[.v (.string ⟨⟨[]⟩⟩),.v (.int .i64 0),.v (.int .i64 0),.list true [],.list true []]/\eQ prog 40=true/\(prog.underlying 40).isSome=true/\bH prog 40 0=some (0,9)/\bH prog 40 1=some (1,3)/\bH prog 40 2=some (2,3):=by and_intros<;>kernel_rfl
@[go_sem]theorem ty_3:bH prog 40 3=some (3,38)/\bH prog 40 4=some (4,22)/\jd prog 40=true/\dN prog 49=true/\prog.cellsOf 49=4/\zeroCells prog 49=[.v (.bool false),.v (.string ⟨⟨[]⟩⟩),.list true [],.v (.int .i64 0)]/\(prog.underlying 49).isSome=true/\bH prog 49 0=some (0,4)/\bH prog 49 1=some (1,24)/\bH prog 49 2=some (3,3)/\jd prog 49=true/\prog.underlying 53=some (.int .u16)/\dN prog 57=true/\prog.cellsOf 57=3/\prog.bytesOf 57=32/\zeroCells prog 57=[.v (.string ⟨⟨[]⟩⟩),.v (.int .i64 0),.v (.int .i64 0)]/\eQ prog 57=true/\(prog.underlying 57).isSome=true/\bH prog 57 0=some (0,9)/\bH prog 57 1=some (1,3)/\bH prog 57 2=some (2,3)/\jd prog 57=true/\vW prog 57=some [.s,.i,.i]/\dN prog 58=false/\prog.cellsOf 58=1/\(prog.underlying 58).isSome=true/\bQ prog 58=some 57/\dN prog 60=true/\prog.cellsOf 60=4/\zeroCells prog 60=[.v (.string ⟨⟨[]⟩⟩),.v (.int .i64 0),.v (.int .i64 0),.list true []]/\eQ prog 60=true/\(prog.underlying 60).isSome=true/\bH prog 60 0=some (0,9)/\bH prog 60 1=some (1,3)/\bH prog 60 2=some (2,3)/\bH prog 60 3=some (3,58)/\jd prog 60=true/\dN prog 62=true/\prog.cellsOf 62=5/\zeroCells prog 62=[.v (.int .i64 0),.v (.string ⟨⟨[]⟩⟩),.v (.int .i64 0),.v (.int .i64 0),.list true []]:=by and_intros<;>kernel_rfl
@[go_sem]theorem ty_4:eQ prog 62=true/\(prog.underlying 62).isSome=true/\bH prog 62 0=some (0,3)/\bH prog 62 1=some (1,60)/\jd prog 62=true/\dN prog 65=false/\prog.cellsOf 65=1/\(prog.underlying 65).isSome=true/\bQ prog 65=some 62/\dN prog 66=false/\prog.cellsOf 66=1/\(prog.underlying 66).isSome=true/\bQ prog 66=some 114/\dN prog 68=true/\prog.cellsOf 68=2/\zeroCells prog 68=[.list true [],.list true []]/\(prog.underlying 68).isSome=true/\bH prog 68 0=some (0,66)/\bH prog 68 1=some (1,65)/\jd prog 68=true/\prog.cellsOf 71=1/\rR prog 71=some (3,4):=by and_intros<;>kernel_rfl
@[go_sem]theorem ko3(x0:Int):l5 prog 3 (.v (.int .i64 x0))=true:=by kernel_rfl
@[go_sem]theorem ty_5:dN prog 79=false/\prog.cellsOf 79=1/\zeroCells prog 79=[.v (.map none)]/\(prog.underlying 79).isSome=true/\rR prog 79=some (86,84)/\rU prog 86=true/\dN prog 86=true/\prog.cellsOf 86=2/\prog.bytesOf 86=24/\zeroCells prog 86=[.v (.string ⟨⟨[]⟩⟩),.v (.int .i64 0)]/\eQ prog 86=true/\(prog.underlying 86).isSome=true/\bH prog 86 0=some (0,9)/\bH prog 86 1=some (1,3)/\jd prog 86=true:=by and_intros<;>kernel_rfl
@[go_sem]theorem Jf(x0:ByteArray)(x1:Int):l5 prog 86 (.agg [.v (.string x0),.v (.int .i64 x1)])=true:=by kernel_rfl
@[go_sem]theorem ty_6:yX prog 84 = .agg [.v (.string ⟨⟨[]⟩⟩),.v (.int .i64 0),.v (.int .i64 0),.list true [],.list true []]/\Jy prog 84=true/\dN prog 84=true/\prog.cellsOf 84=5/\prog.bytesOf 84=80/\zeroCells prog 84=[.v (.string ⟨⟨[]⟩⟩),.v (.int .i64 0),.v (.int .i64 0),.list true [],.list true []]/\eQ prog 84=true/\(prog.underlying 84).isSome=true/\bH prog 84 0=some (0,60)/\bH prog 84 1=some (4,82)/\jd prog 84=true/\dN prog 82=false/\prog.cellsOf 82=1/\(prog.underlying 82).isSome=true/\bQ prog 82=some 153/\dN prog 87=false/\prog.cellsOf 87=1/\(prog.underlying 87).isSome=true/\dN prog 95=true/\prog.cellsOf 95=3/\zeroCells prog 95=[.v (.bool false),.v (.string ⟨⟨[]⟩⟩),.list true []]/\(prog.underlying 95).isSome=true/\bH prog 95 0=some (0,4)/\bH prog 95 1=some (1,24)/\jd prog 95=true/\dN prog 97=true/\prog.cellsOf 97=8/\zeroCells prog 97=[.list true [],.v (.int .i64 0),.v (.bool false),.v (.string ⟨⟨[]⟩⟩),.list true [],.v (.bool false),.v (.string ⟨⟨[]⟩⟩),.list true []]/\(prog.underlying 97).isSome=true/\bH prog 97 0=some (0,31)/\bH prog 97 1=some (1,3)/\bH prog 97 2=some (2,95)/\bH prog 97 3=some (5,95)/\jd prog 97=true/\dN prog 107=false/\prog.cellsOf 107=1/\(prog.underlying 107).isSome=true/\bQ prog 107=some 40/\dN prog 109=true/\prog.cellsOf 109=4:=by and_intros<;>kernel_rfl
@[go_sem]theorem ty_7:zeroCells prog 109=[.v (.bool false),.v (.string ⟨⟨[]⟩⟩),.list true [],.list true []]/\(prog.underlying 109).isSome=true/\bH prog 109 0=some (0,4)/\bH prog 109 1=some (1,24)/\bH prog 109 2=some (3,107)/\jd prog 109=true/\dN prog 114=true/\prog.cellsOf 114=5/\zeroCells prog 114=[.v (.int .i64 0),.v (.string ⟨⟨[]⟩⟩),.v (.int .i64 0),.v (.int .i64 0),.list true []]/\(prog.underlying 114).isSome=true/\bH prog 114 0=some (0,3)/\bH prog 114 1=some (1,60)/\bQ prog 119=some 3/\bQ prog 120=some 60/\dN prog 124=true/\prog.cellsOf 124=2/\zeroCells prog 124=[.v (.string ⟨⟨[]⟩⟩),.list true []]/\(prog.underlying 124).isSome=true/\bH prog 124 0=some (0,24)/\jd prog 124=true/\dN prog 125=false/\prog.cellsOf 125=1/\(prog.underlying 125).isSome=true/\bQ prog 125=some 9/\dN prog 127=true/\prog.cellsOf 127=3/\zeroCells prog 127=[.v (.string ⟨⟨[]⟩⟩),.list true [],.list true []]/\(prog.underlying 127).isSome=true/\bH prog 127 0=some (0,124)/\bH prog 127 1=some (2,125)/\jd prog 127=true/\prog.cellsOf 130=1/\prog.cellsOf 132=3/\bH prog 132 0=some (0,31)/\bH prog 132 1=some (1,3)/\bH prog 132 2=some (2,130)/\prog.cellsOf 134=3/\zeroCells prog 134=[.list true [],.v (.int .i64 0),.v (.int .i8 0)]/\bH prog 134 0=some (0,132)/\dN prog 136=false:=by and_intros<;>kernel_rfl
@[go_sem]theorem ty_8:prog.cellsOf 136=1/\zeroCells prog 136=[.v .nilIface]/\(prog.underlying 136).isSome=true/\dN prog 138=false/\prog.cellsOf 138=1/\zeroCells prog 138=[.v .nilFunc]/\(prog.underlying 138).isSome=true/\dN prog 140=false/\prog.cellsOf 140=1/\prog.underlying 140=some (.int .u64)/\dN prog 153=true/\prog.cellsOf 153=6/\prog.bytesOf 153=56/\zeroCells prog 153=[.v (.string ⟨⟨[]⟩⟩),.v (.int .i64 0),.v (.int .i64 0),.v (.int .i64 0),.v (.int .i64 0),.v (.int .u64 0)]/\eQ prog 153=true/\(prog.underlying 153).isSome=true/\bH prog 153 0=some (0,9)/\bH prog 153 1=some (1,3)/\bH prog 153 2=some (2,3)/\bH prog 153 3=some (3,3)/\bH prog 153 4=some (4,3)/\bH prog 153 5=some (5,140)/\jd prog 153=true/\vW prog 153=some [.s,.i,.i,.i,.i,.i]/\prog.cellsOf 178=1/\zeroCells prog 178=[.v (.int .i64 0)]/\bH prog 178 0=some (0,35)/\jd prog 178=true/\dN prog 180=false/\prog.cellsOf 180=1/\(prog.underlying 180).isSome=true/\dN prog 181=true/\prog.cellsOf 181=5/\zeroCells prog 181=[.v .nilFunc,.v .nilFunc,.v .nilFunc,.v .nilFunc,.v .nilFunc]/\(prog.underlying 181).isSome=true/\bQ prog 181=none/\rf prog 181=some (5,180)/\jd prog 181=true:=by and_intros<;>kernel_rfl
@[go_sem]theorem fn181{f:Nat}:bH prog 181 f=none:=by kernel_rfl
@[go_sem]theorem ty_9:dN prog 183=false/\prog.cellsOf 183=1/\(prog.underlying 183).isSome=true/\bQ prog 191=some 4/\prog.cellsOf 195=1/\rR prog 195=some (9,4):=by and_intros<;>kernel_rfl
@[go_sem]theorem ko9(x0:ByteArray):l5 prog 9 (.v (.string x0))=true:=by kernel_rfl
@[go_sem]theorem ty_10:dN prog 200=false/\prog.cellsOf 200=1/\zeroCells prog 200=[.v (.int .u64 0)]/\prog.underlying 200=some (.int .u64)/\dN prog 219=false/\prog.cellsOf 219=1/\(prog.underlying 219).isSome=true/\prog.cellsOf 227=1/\rR prog 227=some (86,4)/\prog.underlying 230=some (.int .u64)/\prog.underlying 235=some .string/\dN prog 255=true/\prog.cellsOf 255=8/\zeroCells prog 255=[.v (.int .i64 0),.v (.int .i64 0),.v (.int .i64 0),.v (.int .i64 0),.v (.int .i64 0),.v (.bool false),.v (.bool false),.v (.bool false)]/\(prog.underlying 255).isSome=true/\bH prog 255 0=some (0,3)/\bH prog 255 1=some (1,3)/\bH prog 255 2=some (2,3)/\bH prog 255 3=some (3,3)/\bH prog 255 4=some (4,3)/\bH prog 255 5=some (5,4)/\bH prog 255 6=some (6,4)/\bH prog 255 7=some (7,4)/\bQ prog 256=none/\rf prog 256=some (9,255)/\prog.cellsOf 263=1/\zeroCells prog 263=[.list true []]/\bH prog 263 0=some (0,31)/\jd prog 263=true/\dN prog 287=false/\prog.cellsOf 287=1/\zeroCells prog 287=[.v .nilFunc]/\(prog.underlying 287).isSome=true/\dN prog 296=false/\prog.cellsOf 296=1/\eQ prog 296=true/\(prog.underlying 296).isSome=true/\bQ prog 297=some 296/\prog.cellsOf 327=2/\zeroCells prog 327=[.list true [],.v (.bool false)]:=by and_intros<;>kernel_rfl
@[go_sem]theorem ty_11:bH prog 327 0=some (0,31)/\bH prog 327 1=some (1,4)/\jd prog 327=true:=by and_intros<;>kernel_rfl
end Go.Proofs.YtidphdaoejibcaaGreatDoor
namespace Go.DL
open Go.RowKit
variable {P : Program} {C : aS} {ro : Option Nat} {Q : Exit -> S -> Prop}
def Ziw [Glob P]{s:S}{n nx:Nat}{t:Nat->D}{h:H}{ok:Prop}{e:Env}{id:Nat}{ops:Array Oper}{draw:Bool}(he:exec P (words P) C ops.toList s=⟨n,t,h,nx,ok,e⟩)(hd:draw=true->P.follows .mixedOrders=true/\qZ C ops.toList=true/\kr ops.toList=true)(hok:ok)(hq:Q .normal ⟨n,t,h,nx,True,e⟩):DW P ro (.region id ops draw) Q s :=
 VW (C:=C) he hd hok hq
def Af [Glob P]{s:S}{n nx:Nat}{t:Nat->D}{h:H}{ok:Prop}{e:Env}{id:Nat}{ops:Array Oper}{draw:Bool}{y:Code}(he:exec P (words P) C ops.toList s=⟨n,t,h,nx,ok,e⟩)(hd:draw=true->P.follows .mixedOrders=true/\qZ C ops.toList=true/\kr ops.toList=true)(hok:ok)(hq:DW P ro y Q ⟨n,t,h,nx,True,e⟩):DW P ro (.seq (.region id ops draw) y) Q s :=
 ae (VW (C:=C) he hd hok hq)
@[go_sem]theorem ne_add{r n i:Nat}(h:r<n):(r=n+i)=False:=by simp;omega
@[go_sem]theorem add_ne{r n i:Nat}(h:r<n):(n+i=r)=False:=by simp;omega
@[go_sem]theorem y8{α β:Type}{f:α->β}{l:List α}:(l.map f).take l.length=l.map f:=by rw[Yl];simp
@[go_sem]theorem ZkV{α β:Type}{f:α->β}{l:List α}{x:β}:(l.map f++[x]).take (l.length+1)=l.map f++[x]:=by rw[Yl];simp
@[go_sem]theorem Zaz : ∀{a b:List (List D)},eG (a++b)=eG a++eG b
 | [],_=>rfl
 | r::a,b=>by simp only[XY,eG,Zaz]
attribute [go_sem] Zct Ti bq bC
@[go_sem]theorem Zk6{h:H}{rows:List (List D)}:(∀row∈rows,∀c∈row,dP h 0 c)=(bq rows=true):=by
 apply propext
 refine⟨λk=>Mr λr hr=>Bg λc hc=>k r hr c hc,λk=>Zcx k⟩
def nr_v{x:Value}:D.nr (.v x)=true:=rfl
def nr_list{f:Bool}{rows:List (List D)}:D.nr (.list f rows)=bq rows:=rfl
attribute[go_sem]nr_v nr_list
def tab:List (Nat×D)->Nat->D
 | [],_=>.junk
 | (j,x)::l,i=>if i=j then x else tab l i
@[go_sem]theorem tab_hit{i:Nat}{x:D}{l:List (Nat×D)}:tab ((i,x)::l) i=x:=by simp[tab]
@[go_sem]theorem tab_miss{j i:Nat}{x:D}{l:List (Nat×D)}(h:(i=j)=False):tab ((j,x)::l) i=tab l i:=by simp only[tab];rw[XV (by rw[h];exact id)]
def Tb(t:Nat->D)(p:Nat×D):Prop:=t p.1=p.2\/wk (t p.1)=p.2
@[go_sem]theorem tb_eq{t:Nat->D}{i:Nat}{d:D}:Tb t (i,d)=(t i=d\/wk (t i)=d):=rfl
attribute [go_sem] true_or
theorem Hu{t:Nat->D}:∀{l:List (Nat×D)},(∀p∈l,Tb t p) -> ∀i,tab l i=t i\/tab l i=wk (t i)\/tab l i = .junk
 | [],_,_=>.inr (.inr rfl)
 | (j,x)::l,h,i=>by
  simp only[tab]
  split
  .
   rename_i e;subst e
   rcases h (i,x) (by simp)with h|h
   . exact .inl h.symm
   exact .inr (.inl h.symm)
  exact Hu (λp hp=>h p (by simp[hp])) i
theorem Marks.only{B:Nat}{g:Mem}{h':H}{w:World}:∀{ds:List Deferred},Marks B g ds w->Marks B (g.only h') ds w
 | [],_=>trivial
 | _::_,⟨h1,h2⟩=>⟨h1,Marks.only h2⟩
theorem ky.only{B:dn}{g:Mem}{h':H}{w:World}{ds:List Deferred}(h:ky B g ds w):ky B (g.only h') ds w:=h.map λ_ k=>k.only
def St.forget [Glob P]{B:dn}{s:S}{g:Mem}{a:Act}{w:World}(hs:St P B s g a w){t':Nat->D}{h':H}{nx':Nat}(ht : ∀i,t' i=s.t i\/t' i=wk (s.t i)\/t' i = .junk)(hh : ∀r,h' r=s.h r\/h' r=none) :
  St P B { n:=s.n,t:=t',h:=h',nx:=nx',e:=s.e } (g.only h') a w:=by
 refine⟨hs.sz,λi=>?_,hs.mem.only hh,hs.df.only,s.e.st P s.h g _ w w hs.mem vD hs.en,hs.bd⟩
 rcases ht i with e|e|e
 .
  show ag w (g.only h') (t' i) _
  rw[e];exact(hs.tm i).only
 .
  show ag w (g.only h') (t' i) _
  rw[e];exact(hs.tm i).wk.only
 show ag w (g.only h') (t' i) _
 rw[e];exact .junk _
def ZiG [Glob P]{c:Code}{s:S}(t':Nat->D)(h':H)(nx':Nat)(ht : ∀i,t' i=s.t i\/t' i=wk (s.t i)\/t' i = .junk)(hh : ∀r,h' r=s.h r\/h' r=none)(hn:s.nx<=nx')(h:DW P ro c Q { n:=s.n,t:=t',h:=h',nx:=nx',e:=s.e }):DW P ro c Q s:=by
 intro B g a w hs hU
 exact wpIn_mono (h B _ a w (hs.forget ht hh) λr hr=>YD (hU r hr) hn) λe a' w'⟨s',g',q,r,m,u,v⟩=>⟨s',g',q,r,vD.toX.trans m,u,v⟩
def Oa [Glob P]{c:Code}{s:S}(l:List (Nat×D))(h':H)(nx':Nat)(ht : ∀p∈l,Tb s.t p)(hh : ∀r,h' r=s.h r\/h' r=none)(hn:s.nx<=nx')(h:DW P ro c Q { n:=s.n,t:=tab l,h:=h',nx:=nx',e:=s.e }):DW P ro c Q s :=
 ZiG _ _ _ (Hu ht) hh hn h
theorem VZ [Glob P]{c:Code}{s:S}{α:Type}(A:α->Prop)(μ:α->Nat)(tb:α->List (Nat×D))(hh:α->H)(gq:α->Nat)(a0:α)(hA:A a0)(ht : ∀p∈tb a0,Tb s.t p)(hhp : ∀r,hh a0 r=s.h r\/hh a0 r=none)(hn:s.nx<=gq a0)
  (round : ∀a,A a->DW P ro c (thenS (λs'=>∃a',A a'/\μ a'<μ a/\(∀p∈tb a',Tb s'.t p)/\(∀r,hh a' r=s'.h r\/hh a' r=none)/\s'.nx<=gq a'/\s'.n=s.n/\s'.e=s.e) Q) { n:=s.n,t:=tab (tb a),h:=hh a,nx:=gq a,e:=s.e }):DW P ro (.loop c) Q s:=by
 intro B g a w hs hU
 refine wpIn_loop_ghost (λk a' w'=>∃x g',A x/\μ x=k/\St P B { n:=s.n,t:=tab (tb x),h:=hh x,nx:=gq x,e:=s.e } g' a' w'/\gJ s.e.x g g' w w' /\ ∀r,g'.U r->r<gq x) (μ a0) ⟨a0,_,hA,rfl,hs.forget (Hu ht) hhp,vD.toX,λr hr=>YD (hU r hr) hn⟩ ?_
 rintro k a1 w1 ⟨x,g1,hx,rfl,hs1,hm1,eH⟩
 refine wpIn_mono (round x hx B g1 a1 w1 hs1 eH) ?_
 rintro e a2 w2 ⟨s2,g2,hq,hs2,hm2,zW,hx2⟩
 cases e with
 | normal =>
  obtain⟨x',h1,h2,h3,h4,h5,h6,h7⟩:=hq;refine⟨μ x',h2,x',g2.only (hh x'),h1,rfl,?_,(hm1.trans hm2).trans vD.toX,λr hr=>YD (zW r hr) h5⟩
  have:=hs2.forget (nx':=gq x') (Hu h3) h4;rw[h6,h7]at this;exact this
 | _=>exact⟨s2,g2,hq,hs2,hm1.trans hm2,zW,hx2⟩
def htab:List (Nat×eZ)->H
 | []=>λ_=>none
 | (r,b)::l=>upd (htab l) r (some b)
def htab_nil:htab []=λ_=>none:=rfl
def Zl7{r:Nat}{b:eZ}{l:List (Nat×eZ)}:htab ((r,b)::l)=upd (htab l) r (some b):=rfl
attribute[go_sem]htab_nil Zl7
theorem Jp{h:H}:∀{l:List (Nat×eZ)},(∀p∈l,h p.1=some p.2) -> ∀r,htab l r=h r\/htab l r=none
 | [],_,_=>.inr rfl
 | (j,x)::l,hl,i=>by
  simp only[htab,upd]
  split
  . rename_i e;subst e;exact .inl (hl (i,x) (by simp)).symm
  exact Jp (λp hp=>hl p (by simp[hp])) i
def MG{s:S}{keep:List Nat}{fx:List (Nat×D)}(hfx:keep.map (λi=>(i,s.t i))=fx):∀p∈fx,Tb s.t p:=by
 intro p hp
 rw[<-hfx]at hp
 obtain⟨i,_,rfl⟩:=Yt.1 hp
 exact .inl rfl
theorem Ziz [Glob P]{c:Code}{s:S}{α:Type}(keep:List Nat)(A:α->Prop)(μ:α->Nat)(tb:α->List (Nat×D))(hb:α->List (Nat×eZ))(gq:α->Nat)(a0:α){fx:List (Nat×D)}(hfx:keep.map (λi=>(i,s.t i))=fx)(hA:A a0)(ht : ∀p∈tb a0,Tb s.t p)(hh : ∀p∈hb a0,s.h p.1=some p.2)(hn:s.nx<=gq a0)
  (round : ∀a,A a->DW P ro c (thenS (λs'=>∃a',A a'/\μ a'<μ a/\(∀p∈tb a',Tb s'.t p)/\(∀p∈fx,Tb s'.t p)/\(∀p∈hb a',s'.h p.1=some p.2)/\s'.nx<=gq a'/\s'.n=s.n/\s'.e=s.e) Q) { n:=s.n,t:=tab (tb a++fx),h:=htab (hb a),nx:=gq a,e:=s.e }):DW P ro (.loop c) Q s :=
 VZ A μ (λa=>tb a++fx) (λa=>htab (hb a)) gq a0 hA (λp hp=>(Yx.1 hp).elim (ht p) (MG hfx p)) (Jp hh) hn λa ha=>(round a ha).mono λe s' hq=>by
  cases e with
  | normal =>
   obtain⟨a',h1,h2,h3,h4,h5,h6,h7,h8⟩:=hq;exact⟨a',h1,h2,λp hp=>(Yx.1 hp).elim (h3 p) (h4 p),Jp h5,h6,h7,h8⟩
  | _=>exact hq
def Cc [Glob P]{c:Code}{s:S}(keep:List Nat)(hb:List (Nat×eZ)){fx:List (Nat×D)}(hfx:keep.map (λi=>(i,s.t i))=fx)(hh : ∀p∈hb,s.h p.1=some p.2)(h:DW P ro c Q { n:=s.n,t:=tab fx,h:=htab hb,nx:=s.nx,e:=s.e }):DW P ro c Q s :=
 Oa fx (htab hb) s.nx (MG hfx) (Jp hh) (XX _) h
theorem ZiA [Glob P]{c:Code}{s:S}(i:Nat){f:Bool}{rows:List (List D)}(he:s.t i = .list f rows)(h:rows.length<=maxLen->DW P ro c Q s):DW P ro c Q s:=by
 intro B g a w hs hU
 refine h ?_ B g a w hs hU
 have hr:=hs.tm i
 rw[he]at hr
 generalize a.tmps.getD i undef=v at hr
 cases hr with
 | empty=>simp[maxLen]
 | list _ _ ad cap size cv hI hl hf hm hs hc hr=>omega
theorem yH [Glob P]{c:Code}{s:S}(i:Nat)(ty:TypeId)(hi:s.t i = .list true [])(hty:0<P.cellsOf ty)(h:DW P ro c Q { n:=s.n,t:=upd s.t i (.mrow s.nx 0 0),h:=upd s.h s.nx (some ⟨ty,[]⟩),nx:=s.nx+1,e:=s.e }):DW P ro c Q s:=by
 intro B g a w hs hU
 have hnu : ¬g.U s.nx:=λh=>Nat.lt_irrefl _ (hU _ h)
 obtain⟨g',q1,q2,q3,q4,q5⟩:=hs.mem.putNone (h':=upd s.h s.nx (some ⟨ty,[]⟩)) s.nx ⟨ty,[]⟩ hnu (bN _ _ _) (λr hr=>.inl (aK _ _ _ _ hr)) hty rfl
 have hst:St P B { n:=s.n,t:=upd s.t i (.mrow s.nx 0 0),h:=upd s.h s.nx (some ⟨ty,[]⟩),nx:=s.nx+1,e:=s.e } g' a w:=by
  refine⟨hs.sz,λj=>?_,q4,hs.df.later hs.mem q5,Env.later hs.mem q5 hs.en,hs.bd⟩
  by_cases e:j=i
  .
   subst e;simp only[bN];have hr:=hs.tm j;rw[hi]at hr;generalize a.tmps.getD j undef=v at hr;have key : ∃x,v = .slice x 0 0:=by
    cases hr with
    | empty _ x cap hf hm=>exact⟨x,by rw[hf rfl]⟩
    | list _ _ ad cap size cv hI hl hf=>exact⟨some ad,by rw[hf rfl];rfl⟩
   obtain⟨x,rfl⟩:=key;refine .mrow _ _ _ _ ⟨x,0,rfl,XX _,λh=>absurd h om⟩ ((q2 _).2 (.inr rfl)) λblk c sz he=>?_
   rw[q1]at he
   cases he
   exact⟨⟨XX _,Yi _⟩,.inl ⟨rfl,x,rfl⟩⟩
  simp only[aK _ _ _ _ e];exact(hs.tm j).later hs.mem q5
 exact wpIn_mono (h B g' a w hst (λr hr=>by
  rcases(q2 r).1 hr with h|h
  . exact Nat.lt_succ_of_lt (hU r h)
  subst h;exact Nat.lt_succ_self _)) λe a' w'⟨s',g'',q,r,m,u,v⟩=>⟨s',g'',q,r,q5.toX.trans m,u,v⟩
theorem Zio{w:World}{g:Mem}{v:Value}(hr:ag w g (.list true []) v):∃x,v = .slice x 0 0:=by
 cases hr with
 | empty _ x cap hf hm=>exact⟨x,by rw[hf rfl]⟩
 | list _ _ ad cap size cv hI hl hf=>exact⟨some ad,by rw[hf rfl];rfl⟩
def bU(P:Program)[Glob P](f:FuncId)(args:List D)(h:H)(n:Nat)(R:D->H->Nat->Prop):Prop :=
 dY P f=true /\ ∀(w:World)(g:Mem)(vs:List Value),HM P h g w->(∀r,g.U r->r<n)->aB w g args vs ->
  CallsIn Fence.wide 0 P f vs.toArray w λe w'=>∃v g' res h' n',R res h' n'/\e = .returned v/\ag w' g' res v/\HM P h' g' w'/\ax g g' w w' /\ ∀r,g'.U r->r<n'
def bU.mono [Glob P]{f:FuncId}{args:List D}{h:H}{n:Nat}{R R':D->H->Nat->Prop}(k:bU P f args h n R)(i : ∀d h' n',R d h' n'->R' d h' n'):bU P f args h n R' :=
 ⟨k.1,λw g vs h1 h2 h3=>(k.2 w g vs h1 h2 h3).mono λ_ _⟨v,g',res,h',n',q,r⟩=>⟨v,g',res,h',n',i _ _ _ q,r⟩⟩
theorem Bh [Glob P]{h:H}{g:Mem}{w:World}{n:Nat}(hm:HM P h g w)(hU : ∀r,g.U r->r<n):∀r,n<=r->h r=none:=by
 intro r hr
 cases hq:h r with
 | none=>rfl
 | some bl =>
  obtain⟨blk,c',h1,_⟩:=hm.blk r bl hq;have:=hU r (hm.used r (by rw[h1];simp))
  omega
def LU [Glob P]{f:FuncId}{fn:Func}{c:Code}{args:List D}{h:H}{n:Nat}{R:D->H->Nat->Prop}(hf:P.funcs[f]? = some fn)(hb:fn.body=some c)(hbd:dY P f=true)(hn:args.length<=fn.ntmps)
  (hw:(∀r,n<=r->h r=none)->DW P none c (λe s=>(e = .normal\/e = .ret)/\qh P s fn.results.toList /\ ∃h' n',(∀r,h' r=s.h r\/h' r=none)/\s.nx<=n'/\R (rO P fn.results.toList s) h' n') { n:=fn.ntmps,t:=λi=>args.getD i .junk,h:=h,nx:=n }):bU P f args h n R:=by
 refine⟨hbd,λw g vs hm hU hr=>?_⟩
 have hs:=zR (P:=P) (n:=fn.ntmps) hr hn hm (nx:=n)
 refine callsIn_of_wp_marks (n:=0) hf hb trivial (wpIn_mono (F:=Fence.wide) (hw (Bh hm hU) (dn.of w.heap.size) g _ w hs hU) ?_)
 rintro e a' w' ⟨s',g',⟨he,ho,h',n',hh,hn',hR⟩,hs',hm',iZ,_⟩
 have hm':=hm'.out
 have hlast:LeavesInM Fence.wide 0 P fn a'.tmps (λe w'=>∃v g' res h' n',R res h' n'/\e = .returned v/\ag w' g' res v/\HM P h' g' w'/\ax g g' w w' /\ ∀r,g'.U r->r<n') a'.defers .returning w':=by
  refine Ja (P:=P) a'.defers w' hs'.df.marks λw2 e0 e1 e2 e3 e4 e5 e6 e7=>?_
  have hs2:=hs'.marks e4 e6 e7;obtain⟨v,h1,h2⟩:=CW (fn:=fn) hs2 ho;have vF:ax g g' w w2:=by
   refine⟨by rw[e1,hm'.os],by rw[e2,hm'.tape],by rw[e3,hm'.output],by rw[e4];exact hm'.size,by rw[e0];exact hm'.drawn,hm'.U,hm'.M,hm'.new,hm'.I,hm'.inew,λk hk hne=>?_⟩
   rw[e5 k hk];exact hm'.same k hk hne
  exact⟨v,h1,v,g'.only h',_,h',n',hR,rfl,h2.only,hs2.mem.only hh,vF.trans vD,λr hr=>YD (iZ r hr) hn'⟩
 rcases he with rfl|rfl<;>exact hlast
def PureCt.rct [Glob P]{f:FuncId}{args:List D}{res:D}(k:PureCt P f args res)(h:H)(n:Nat):bU P f args h n (λd h' n'=>d=res/\h'=h/\n'=n):=by
 obtain⟨hbd,hnr,hct⟩:=k
 refine⟨hbd,λw g vs hm hU hr=>?_⟩
 refine(hct w g.I _ hm.imm hm.gr (hr.clean hnr λ_ h=>h)).mono ?_
 rintro e w' ⟨v,rfl,hbel,hv⟩
 let g':Mem:={ g with I:=λb=>g.I b\/(w.heap.size<=b/\b<w'.heap.size) }
 have mono:ax g g' w w':=⟨hbel.os,hbel.tape,hbel.output,hbel.size,hbel.drawn,λ_ h=>h,λ_ _=>.inl rfl,λr b c s h=>.inl ⟨r,c,s,h⟩,λ_ h=>.inl h,λb h=>by rcases h with h|h;exact .inl h;exact .inr (.inl h.1),λb hb _=>hbel.block b hb⟩
 refine⟨v,g',res,h,n,⟨rfl,rfl,rfl⟩,rfl,by refine ag.mono ?_ ?_ ?_ hv;exact λb hb=>⟨hb,rfl⟩;exact λ_ h=>False.elim h;exact λ_ h=>False.elim h,⟨hm.dead,λr bl hr=>?_,hm.inj,hm.used,λb hb=>?_,hm.gr.later (hm.kept mono)⟩,mono,hU⟩
 .
  obtain⟨blk,c,h1,h2,h3,h4,h5⟩:=hm.blk r bl hr;refine⟨blk,c,h1,h2,h3,h4,?_⟩
  rcases h5 with h5|⟨b,cur,rfl,h6,h7,h8,h9⟩
  . exact .inl h5
  have hlt:=(pU hm h1).1;refine .inr ⟨b,cur,rfl,by rw[hbel.block b hlt];exact h6,h7,λhI=>?_,λi row hi=>⟨(h9 i row hi).1,λj d hd=>?_⟩⟩
  .
   rcases hI with hI|hI
   . exact h8 hI
   omega
  obtain⟨u,k3,k4,k5⟩:=(h9 i row hi).2 j d hd;exact⟨u,k3,k4,k5.later hm mono⟩
 rcases hb with hb|hb
 . exact YD (hm.imm b hb) hbel.size
 exact hb.2
def dR{α:Type}{a:Array α}{k:Nat}{o:α}(h:a.toList[k]? = some o):a[k]? = some o:=by rwa [Zc]at h
theorem uM [Glob P]{B:dn}{ops:Array Oper}{b:Nat}{n:Nat}{Q:Exit->Act->World->Prop}{w0:World}{g0:Mem}{rest:List Nat}:∀(k i:Nat)(s:S)(g:Mem)(a:Act)(w:World),St P B s g a w->ax g0 g w0 w->(∀r,g.U r->r<b+i) ->
  i+k<=ops.size->(aZ P (words P) C ops.toList b i ((ops.toList.drop i).take k) s).ok ->
  (∀g' a' w',St P B (aZ P (words P) C ops.toList b i ((ops.toList.drop i).take k) s) g' a' w'->ax g0 g' w0 w'->(∀r,g'.U r->r<b+(i+k))->wpOpsIn (Fw ro) n P ops Q rest a' w') ->
  wpOpsIn (Fw ro) n P ops Q (List.range' i k++rest) a w:=by
 intro k
 induction k with
 | zero =>
  intro i s g a w hs hm hU hk hok hQ;exact hQ g a w hs hm hU
 | succ k ih =>
  intro i s g a w hs hm hU hk hok hQ;have hlt:i<ops.size:=by omega
  have hd:(ops.toList.drop i).take (k+1)=ops[i]::(ops.toList.drop (i+1)).take k:=by rw[YC (by simpa using hlt)];simp
  rw[hd]at hok hQ;simp only[aZ]at hok hQ;rw[Y9,XY,wpOpsIn_cons];refine Gj hs (b:=b) (N:=b+i) (λh=>by have:=hU _ h;omega) hU (by simp[hlt]) (J2 hok) λg' a' w' h1 h2 h3=>?_
  refine ih (i+1) _ g' a' w' h1 (hm.trans h2) (λr hr=>by
                                 rcases h3 r hr with h|h;· have:=hU r h;omega
                                 omega) om hok λg'' a'' w'' q1 q2 q3=>hQ g'' a'' w'' q1 q2 λr hr=>by have:=q3 r hr;omega
theorem aB.wk{w:World}{g:Mem}{ds:List D}{vs:List Value}(h:aB w g ds vs):aB w g (ds.map wk) vs :=
 ⟨by simpa using h.1,λi d x h1 h2=>by obtain⟨y,h3,rfl⟩:=kX h1;exact(h.2 i y x h3 h2).wk⟩
theorem ZiL [Glob P]{s s1:S}{id:Nat}{ops:Array Oper}(k:Nat){o:Oper}{f:Operand}{args:Array Operand}{ts:Array TypeId}{aX:FuncId}{first aD xs:List D}(R:D->H->Nat->Prop)
  (ho:ops[k]? = some o)(hop:o.op = .call { callee:=.value f,args:=args,argTypes:=ts })(hg:o.guard=none)
  (he:aZ P (words P) C ops.toList s.nx 0 (ops.toList.take k) { n:=s.n,t:=s.t,h:=s.h,nx:=s.nx+k,ok:=s.ok,e:=s.e }=s1)(hok:s1.ok)(hd:dK s1.n o.dst=true)
  (hf:s1.ev f = .fn (.func aX) first aD)(hxg:(args.toList.map s1.ev).all sg=true)(hx:((args.toList.map s1.ev).map sd).map wk=xs)(hct:bU P aX (first++xs++aD) s1.h (s.nx+k) R)
  (hk : ∀res h' n',R res h' n' -> ∃s2,aZ P (words P) C ops.toList n' (k+1) (ops.toList.drop (k+1)) { n:=s1.n,t:=s1.put o.dst res,h:=h',nx:=n'+ops.size,ok:=True,e:=s1.e }=s2/\s2.ok/\Q .normal s2.clear) :
  DW P ro (.region id ops false) Q s:=by
 intro B g a w hs hU
 have hlt:k<ops.size:=(Yk.1 ho).1
 refine wpIn_region ?_
 have hr:List.range ops.size=List.range' 0 k++(k::List.range' (k+1) (ops.size-(k+1))):=by
  rw[Ze];have:ops.size=k+((ops.size-(k+1))+1):=by omega
  conv=>lhs;rw[this]
  rw[<-Zl,Y9]
  simp
 rw[hr]
 have hs0:St P B { n:=s.n,t:=s.t,h:=s.h,nx:=s.nx+k,ok:=s.ok,e:=s.e } g a w:=⟨hs.sz,hs.tm,hs.mem,hs.df,hs.en,hs.bd⟩
 have e0:(ops.toList.drop 0).take k=ops.toList.take k:=rfl
 refine uM (C:=C) (b:=s.nx) k 0 _ g a w hs0 (ax.refl _ _) (λr hr=>by have:=hU r hr;omega) (by omega) (by rw[e0,he];exact hok) λg1 a1 w1 hs1 hm1 eH=>?_
 rw[e0,he]at hs1
 rw[wpOpsIn_cons]
 unfold wpOpIn
 rw[ho]
 simp only
 have hw:Region.wanted o (yielded ops a1.tmps)=true:=by simp[Region.wanted,hg]
 rw[X3 hw]
 have hdef : ∀c,o.op ≠ .defer c:=by intro c e;rw[e]at hop;cases hop
 have j6:o.semAt (Fw ro).round a1.eval=execOp a1.eval o:=Oper.semAt_eq _ _ _ hdef
 refine⟨λ_ _=>trivial,?_⟩
 rw[j6]
 obtain⟨hbd,hct⟩:=hct
 have hfr:=bX hs1 f
 rw[hf]at hfr
 have fQ:=aB.wk (wC (vV hs1 args.toList) hxg)
 rw[hx]at fQ
 generalize hv:a1.eval f=vf at hfr
 cases hfr with|fn _ _ _ fs cs l1 l2 r1 r2 =>
 have hrun:(execOp a1.eval o).run P w1 = .ok (.enter aX (fs++args.map a1.eval++cs)) w1:=by
  simp[execOp,hop,resolve,Deferred.ofValue,hv,invoke,vY hbd]
 rw[hrun,Oper.uponIn_enter]
 have e:fs++args.map a1.eval++cs=(fs.toList++args.toList.map a1.eval++cs.toList).toArray:=by apply Zq;simp
 rw[e]
 refine⟨λh=>by simp[Fw,Fence.wide]at h,yO ((hct w1 g1 _ hs1.mem (λr hr=>by have:=eH r hr;omega) (aB.append (aB.append ⟨by simpa using l1,λi d x h1 h2=>r1 i d x h1 (by simpa using h2)⟩ fQ) ⟨by simpa using l2,λi d x h1 h2=>r2 i d x h1 (by simpa using h2)⟩)).mono ?_)⟩
 rintro e w' ⟨v,g',res,h',n',hR,rfl,q1,q2,q3,q4⟩
 obtain⟨s2,e2,ok2,hQ⟩:=hk res h' n' hR
 have hs2:=mI hs1 q3 q2 hd q1 True
 have hs3:St P B { n:=s1.n,t:=s1.put o.dst res,h:=h',nx:=n'+ops.size,ok:=True,e:=s1.e } g' (a1.put o.dst v) w':=⟨hs2.sz,hs2.tm,hs2.mem,hs2.df,hs2.en,hs2.bd⟩
 have hnx : ∀(l:List Oper)(i:Nat)(u:S),(aZ P (words P) C ops.toList n' i l u).nx=u.nx:=by
  intro l
  induction l with
  | nil=>intro i u;rfl
  | cons x l ih=>intro i u;simp only[aZ];rw[ih,Cb.2]
 have hex : ∀(l:List Oper)(i b:Nat)(u:S),(aZ P (words P) C ops.toList b i l u).e=u.e:=by
  intro l
  induction l with
  | nil=>intro i b u;rfl
  | cons x l ih =>
   intro i b u;simp only[aZ];rw[ih];unfold dJ
   split<;>rfl
 have e3:(ops.toList.drop (k+1)).take (ops.size-(k+1))=ops.toList.drop (k+1):=Yl (by simp)
 have:=uM (ro:=ro) (P:=P) (C:=C) (B:=B) (ops:=ops) (b:=n') (n:=0) (rest:=[]) (g0:=g) (w0:=w) (Q:=λe a' w'=>∃s' g',Q e s'/\St P B s' g' a' w'/\gJ s.e.x g g' w w'/\(∀r,g'.U r->r<s'.nx)/\s'.e.x=s.e.x) (ops.size-(k+1)) (k+1) _ g' _ w' hs3 (hm1.trans q3) (λr hr=>by have:=q4 r hr;omega) om
  (by rw[e3,e2];exact ok2) λg'' a'' w'' p1 p2 p3=>by
   rw[e3,e2]at p1;refine⟨_,g'',hQ,p1.clear,p2.toX,λr hr=>?_,?_⟩
   .
    have h3:=p3 r hr;have h4:=hnx (ops.toList.drop (k+1)) (k+1) { n:=s1.n,t:=s1.put o.dst res,h:=h',nx:=n'+ops.size,ok:=True,e:=s1.e };rw[e2]at h4
    show r<s2.nx
    rw[h4]
    show r<n'+ops.size
    omega
   have h5:=hex (ops.toList.drop (k+1)) (k+1) n' { n:=s1.n,t:=s1.put o.dst res,h:=h',nx:=n'+ops.size,ok:=True,e:=s1.e };rw[e2]at h5;have h6:=hex (ops.toList.take k) 0 s.nx { n:=s.n,t:=s.t,h:=s.h,nx:=s.nx+k,ok:=s.ok,e:=s.e };rw[he]at h6
   show s2.e.x=s.e.x
   rw[h5]
   show s1.e.x=s.e.x
   rw[h6]
 rw[Yv]at this
 exact this
end Go.DL
namespace Go.DL
open Go.RowKit
variable {P : Program} {C : aS} {Q : Exit -> S -> Prop}
def recAt(r:Loop)(j:Option Code):Loop:={ r with state:=if j.isNone then .ready else .done,pending:=j }
def Env.loop(l:Nat)(r:Loop)(t:Nat->D):Env where
 p g w:=w.heap[l]? = some (.loop r) /\ ¬g.I l /\ ∀i,ag w g (t i) (r.tmps.getD i undef)
 x:=some l
 st P _ h g g' w w' hm k:=λ⟨h1,h2,h3⟩=>⟨Fb hm k h1 (λc e f=>by simp),λhI=>by
   rcases k.inew l hI with e|e|⟨r,c,s,e⟩
   . exact h2 e
   . have:=(Yk.1 h1).1;omega
   . exact xY hm h1 (λc e f=>by simp) (λc e=>by simp) r c s e,λi=>(h3 i).later hm k⟩
theorem HM.keptX [Glob P]{h:H}{g g':Mem}{w w':World}{l:Nat}(hm:HM P h g w)(k:gJ (some l) g g' w w')(hl : ¬g.I l):∀b,g.I b->g'.I b/\w'.heap[b]? = w.heap[b]? := by
 refine λb hb=>⟨k.I b hb,k.same b (hm.imm b hb) (λr c s e=>?_) (λe=>hl (by cases e;exact hb))⟩
 cases hr:h r with
 | none=>rw[hm.dead r hr]at e;cases e
 | some bl =>
  obtain⟨blk,c',e1,_,_,_,h5⟩:=hm.blk r bl hr;rw[e]at e1;simp only[Yf,YK]at e1
  rcases h5 with⟨h6,_⟩|⟨b',cur,h6,_,_,h7,_⟩
  . rw[<-e1.1]at h6;cases h6
  rw[<-e1.1]at h6;cases h6;exact h7 hb
def Ms [Glob P]{h:H}{g g':Mem}{w w':World}{l:Nat}(hm:HM P h g w)(k:gJ (some l) g g' w w'){D:Nat}{o:Obj}(hD:w.heap[D]? = some o)(ho : ∀c e f,o ≠ .cells c e f)(hl:l≠D)(ho2 : ∀c e,o ≠ .map c e:=by intro c e;simp):w'.heap[D]? = some o:=by
 rw[k.same D (Yk.1 hD).1 (xY hm hD ho ho2) (λe=>hl (by cases e;rfl))];exact hD
theorem Marks.laterX [Glob P]{h:H}{g g':Mem}{w w':World}{l:Nat}(hm:HM P h g w)(k:gJ (some l) g g' w w'){r:Loop}(hl:w.heap[l]? = some (.loop r)){B:Nat}:∀{ds:List Deferred},Marks B g ds w->Marks B g' ds w'
 | [],_=>trivial
 | d::ds,⟨⟨D,h1,h2,h3,h4,h5⟩,h6⟩=>⟨⟨D,h1,Ms hm k h2 (λc e f=>by simp) (λe=>by subst e;rw[hl]at h2;cases h2),h3,h4,λhI=>by
   rcases k.inew D hI with e|e|⟨r,c,s,e⟩
   . exact h5 e
   . have:=(Yk.1 h2).1;omega
   exact xY hm h2 (λc e f=>by simp) (λc e=>by simp) r c s e⟩,h6.laterX hm k hl⟩
def ky.laterX [Glob P]{h:H}{g g':Mem}{w w':World}{l:Nat}(hm:HM P h g w)(k:gJ (some l) g g' w w'){r:Loop}(hl:w.heap[l]? = some (.loop r)){B:dn}{ds:List Deferred}(hd:ky B g ds w):ky B g' ds w':=hd.map λ_ h=>h.laterX hm k hl
def MC{g:Mem}{w:World}{l:Nat}(o:Obj):gJ (some l) g g w (w.putObj l o) :=
 ⟨rfl,rfl,rfl,by simp,XX _,λ_ h=>h,λ_ _=>.inl rfl,λr _ c s h=>.inl ⟨r,c,s,h⟩,λ_ h=>h,λ_ h=>.inl h,λ_ _ _ hx=>World.putObj_heap_other (λe=>hx (by rw[e]))⟩
def HM.putLoop [Glob P]{h:H}{g:Mem}{w:World}{l:Nat}{r:Loop}(hm:HM P h g w)(hl:w.heap[l]? = some (.loop r))(hI : ¬g.I l)(o:Obj):HM P h g (w.putObj l o) :=
 hm.marks (by simp) (λk hk=>World.putObj_heap_other (λe=>hI (e▸hk))) λk o hk ho=>World.putObj_heap_other (λe'=>by subst e';rw[hl]at hk;cases hk;exact ho)
def zb(t:Nat->D)(ps:List Nat)(ds:List D):Nat->D:=(ps.zip ds).foldl (λt p=>upd t p.1 p.2) t
theorem QY{t:Nat->D}{ds:List D}:zb t [] ds=t:=rfl
theorem QZ{t:Nat->D}{p:Nat}{ps:List Nat}{d:D}{ds:List D}:zb t (p::ps) (d::ds)=zb (upd t p d) ps ds:=rfl
attribute[go_sem]QY QZ
theorem QX{w:World}{g:Mem}:∀(ps:List Nat)(ds:List D)(vs:List Value)(t:Nat->D)(tmps:Array Value),aB w g ds vs->(∀p∈ps,p<tmps.size)->(∀i,ag w g (t i) (tmps.getD i undef)) ->
  ((ps.zip vs).foldl (λtmps(p:Nat×Value)=>tmps.setIfInBounds p.1 p.2) tmps).size=tmps.size /\ ∀i,ag w g (zb t ps ds i) (((ps.zip vs).foldl (λtmps(p:Nat×Value)=>tmps.setIfInBounds p.1 p.2) tmps).getD i undef)
 | [],_,_,_,_,_,_,h=>⟨rfl,h⟩
 | p::ps,ds,vs,t,tmps,hr,hp,h=>by
  cases ds with
  | nil=>rw[hr.of_nil];exact⟨rfl,h⟩
  | cons d ds =>
   obtain⟨x,xs,rfl,h1,h2⟩:=hr.of_cons;have:=QX ps ds xs (upd t p d) (tmps.setIfInBounds p x) h2 (λq hq=>by simpa using hp q (by simp[hq])) (λi=>by
    by_cases e:i=p
    .
     subst e;have hlt:=hp i (by simp)
     rw[bN]
     simpa[hlt]using h1
    rw[aK _ _ _ _ e];have:(tmps.setIfInBounds p x).getD i undef=tmps.getD i undef:=by simp[Ne.symm e]
    rw[this];exact h i)
   refine⟨by simpa using this.1,this.2⟩
theorem VV [Glob P]{s s1:S}{id:Nat}{ops:Array Oper}(k:Nat){o:Oper}{f:Operand}{args:Array Operand}{ts:Array TypeId}{l:Nat}{r:Loop}{t:Nat->D}{xs:List D}
  (ho:ops[k]? = some o)(hop:o.op = .call { callee:=.value f,args:=args,argTypes:=ts })(hg:o.guard=none)(hse:s.e=Env.loop l (recAt r none) t)
  (he:aZ P (words P) C ops.toList s.nx 0 (ops.toList.take k) { n:=s.n,t:=s.t,h:=s.h,nx:=s.nx+k,ok:=s.ok,e:=s.e }=s1)(hok:s1.ok)(hd:dK s1.n o.dst=true)
  (hf:s1.ev f = .fn (.yield l) [] [])(hxg:(args.toList.map s1.ev).all sg=true)(hx:(args.toList.map s1.ev).map sd=xs)(hps:xs.length=r.params.size)(hpn : ∀p∈r.params.toList,p<r.tmps.size)
  (hbody:DW P (some l) r.assign (thenS (λs2=>s2.e=Env.tt/\DW P (some l) r.body (λe s'=>s'.e=Env.tt /\ ∃b j,(match e with | .normal=>b=true/\j=none | .ret=>b=false/\j=some .ret | .exit i=>b=false/\j=some (.exit i)|_=>False) /\
    ∃s2,aZ P (words P) C ops.toList s'.nx (k+1) (ops.toList.drop (k+1)) { n:=s1.n,t:=s1.put o.dst (.v (.bool b)),h:=s'.h,nx:=s'.nx+ops.size,ok:=True,e:=Env.loop l (recAt r j) t }=s2/\s2.ok/\Q .normal s2.clear) s2) (λ_ _=>False))
   { n:=r.tmps.size,t:=zb t r.params.toList xs,h:=s1.h,nx:=s.nx+k }) :
  DW P none (.region id ops false) Q s:=by
 intro B g a w hs hU
 have hlt:k<ops.size:=(Yk.1 ho).1
 have hex : ∀(l:List Oper)(i b:Nat)(u:S),(aZ P (words P) C ops.toList b i l u).e=u.e:=by
  intro l
  induction l with
  | nil=>intro i b u;rfl
  | cons x l ih =>
   intro i b u;simp only[aZ];rw[ih];unfold dJ
   split<;>rfl
 have hnxx : ∀(l:List Oper)(i b:Nat)(u:S),(aZ P (words P) C ops.toList b i l u).nx=u.nx:=by
  intro l
  induction l with
  | nil=>intro i b u;rfl
  | cons x l ih=>intro i b u;simp only[aZ];rw[ih,Cb.2]
 refine wpIn_region ?_
 have hr:List.range ops.size=List.range' 0 k++(k::List.range' (k+1) (ops.size-(k+1))):=by
  rw[Ze];have:ops.size=k+((ops.size-(k+1))+1):=by omega
  conv=>lhs;rw[this]
  rw[<-Zl,Y9]
  simp
 rw[hr]
 have hs0:St P B { n:=s.n,t:=s.t,h:=s.h,nx:=s.nx+k,ok:=s.ok,e:=s.e } g a w:=⟨hs.sz,hs.tm,hs.mem,hs.df,hs.en,hs.bd⟩
 have e0:(ops.toList.drop 0).take k=ops.toList.take k:=rfl
 refine uM (C:=C) (b:=s.nx) k 0 _ g a w hs0 (ax.refl _ _) (λr hr=>by have:=hU r hr;omega) (by omega) (by rw[e0,he];exact hok) λg1 a1 w1 hs1 hm1 eH=>?_
 rw[e0,he]at hs1
 have hs1e:s1.e=Env.loop l (recAt r none) t:=by
  have h6:=hex (ops.toList.take k) 0 s.nx { n:=s.n,t:=s.t,h:=s.h,nx:=s.nx+k,ok:=s.ok,e:=s.e };rw[he]at h6;rw[h6];exact hse
 obtain⟨hl1,hI1,ht1⟩:(Env.loop l (recAt r none) t).p g1 w1:=by rw[<-hs1e];exact hs1.en
 rw[wpOpsIn_cons]
 unfold wpOpIn
 rw[ho]
 simp only
 have hw:Region.wanted o (yielded ops a1.tmps)=true:=by simp[Region.wanted,hg]
 rw[X3 hw]
 have hdef : ∀c,o.op ≠ .defer c:=by intro c e;rw[e]at hop;cases hop
 have j6:o.semAt (Fw none).round a1.eval=execOp a1.eval o:=Oper.semAt_eq _ _ _ hdef
 refine⟨λ_ _=>trivial,?_⟩
 rw[j6]
 have hfr:=bX hs1 f
 rw[hf]at hfr
 have fQ:=wC (vV hs1 args.toList) hxg
 rw[hx]at fQ
 generalize hv:a1.eval f=vf at hfr
 cases hfr with|fn _ _ _ fs cs l1 l2 r1 r2 =>
 have hfs:fs = #[]:=by apply Zz;simpa using l1.symm
 have hcs:cs = #[]:=by apply Zz;simpa using l2.symm
 subst hfs;subst hcs
 have hsz:(args.map a1.eval).size=(recAt r none).params.size:=by
  have h1:=fQ.1
  show(args.map a1.eval).size=r.params.size
  rw[<-hps,h1];simp
 have hrun:(execOp a1.eval o).run P w1 = .ok (.round l r.fn ((r.params.zip (args.map a1.eval)).foldl (λtmps(t,a)=>tmps.setIfInBounds t a) r.tmps) r.assign r.body) w1:=by
  have:=run_yield (P:=P) (w:=w1) (l:=l) (r:=recAt r none) (args:=args.map a1.eval) hl1 hsz;have e1:(execOp a1.eval o).run P w1=(Instr.yield l (args.map a1.eval)).run P w1:=by simp[execOp,hop,resolve,Deferred.ofValue,hv,invoke]
  rw[e1];exact this
 rw[hrun,Oper.uponIn_round]
 refine⟨λh=>by simp[Fw,Fence.wide]at h,?_⟩
 obtain⟨hz1,hz2⟩:=QX r.params.toList xs _ t r.tmps fQ hpn ht1
 have hzip:(r.params.zip (args.map a1.eval)).foldl (λtmps(t,a)=>tmps.setIfInBounds t a) r.tmps=(r.params.toList.zip (args.toList.map a1.eval)).foldl (λtmps(p:Nat×Value)=>tmps.setIfInBounds p.1 p.2) r.tmps:=by
  rw[<-Array.foldl_toList];simp
 rw[hzip]
 generalize (r.params.toList.zip (args.toList.map a1.eval)).foldl (λtmps(p:Nat×Value)=>tmps.setIfInBounds p.1 p.2) r.tmps=tm at hz1 hz2
 have hsb:St P (dn.of 0) { n:=r.tmps.size,t:=zb t r.params.toList xs,h:=s1.h,nx:=s.nx+k } g1 { tmps:=tm,defers:=[] } w1:=⟨hz1,hz2,hs1.mem,ky.start,trivial,Yi _⟩
 refine roundIn_of_wpIn trivial (wpIn_mono (hbody (dn.of 0) g1 _ w1 hsb (λr hr=>by have:=eH r hr;show r<s.nx+k;omega)) ?_)
 rintro e a2 w2 ⟨s2,g2,hq,hs2,hm2,zW,hx2⟩
 cases e with
 | normal =>
  have Nh:ax g1 g2 w1 w2:=hm2.out;have hl2:=Fb hs1.mem Nh hl1 (λc e f=>by simp)
  have hI2 : ¬g2.I l:=λhI=>by
   rcases Nh.inew l hI with e|e|⟨r,c,s,e⟩
   . exact hI1 e
   . have:=(Yk.1 hl1).1;omega
   exact xY hs1.mem hl1 (λc e f=>by simp) (λc e=>by simp) r c s e
  refine⟨_,run_beginRound hl2 rfl,?_⟩;have hlt2:l<w2.heap.size:=(Yk.1 hl2).1;obtain⟨he2,hbd⟩:=hq;have hb2:St P (dn.of 0) s2 g2 a2 (w2.putObj l (.loop { recAt r none with state:=.busy })):=by
   refine⟨hs2.sz,λi=>(hs2.tm i).mono (λb hb=>⟨hb,World.putObj_heap_other (λe=>hI2 (by rw[<-e];exact hb))⟩) (λ_ h=>h) (λ_ _=>.inl rfl),hs2.mem.putLoop hl2 hI2 _,hs2.df.laterX hs2.mem (MC _) hl2,?_,Yi _⟩
   rw[he2];trivial
  refine wpIn_mono (hbd (dn.of 0) g2 a2 _ hb2 zW) ?_;rintro e a3 w3 ⟨s3,g3,⟨_,b,j,hcase,s4,e4,ok4,hQ⟩,hs3,hm3,hU3,_⟩;rw[he2]at hm3;have Ng:=hm3.out;have U2:(w2.putObj l (.loop { recAt r none with state:=.busy })).heap[l]? = some (.loop { recAt r none with state:=.busy }):=World.putObj_heap_same hlt2
  have hl3:=Fb hb2.mem Ng U2 (λc e f=>by simp)
  have hI3 : ¬g3.I l:=λhI=>by
   rcases Ng.inew l hI with e|e|⟨r,c,s,e⟩
   . exact hI2 e
   . simp at e;omega
   exact xY hb2.mem U2 (λc e f=>by simp) (λc e=>by simp) r c s e
  have hlt3:l<w3.heap.size:=(Yk.1 hl3).1;have fin:b=j.isNone -> ∃v w',(Instr.endRound l j).run P w3 = .ok v w'/\(λe w''=>match e with
    | Ending.returned v=>wpOpsIn (Fw none) 0 P ops (λe a' w'=>∃s' g',Q e s'/\St P B s' g' a' w'/\gJ s.e.x g g' w w'/\(∀r,g'.U r->r<s'.nx)/\s'.e.x=s.e.x) (List.range' (k+1) (ops.size-(k+1))) (a1.put o.dst v) w''
    | Ending.panicked chain=>∃s' g',Q (.panic chain) s'/\St P B s' g' a1 w''/\gJ s.e.x g g' w w''/\(∀r,g'.U r->r<s'.nx)/\s'.e.x=s.e.x
    | Ending.outgrown=>LetsOut (λe a' w'=>∃s' g',Q e s'/\St P B s' g' a' w'/\gJ s.e.x g g' w w'/\(∀r,g'.U r->r<s'.nx)/\s'.e.x=s.e.x)) (.returned v) w':=by
   rintro rfl;refine⟨_,_,run_endRound j hl3,?_⟩;have mX:gJ (some l) g1 g3 w1 (w3.putObj l (.loop (recAt r j))):=Nh.toX.trans ((MC _).trans (Ng.toX.trans (MC _)));have kept:=hs1.mem.keptX mX hI1;have hbase:St P B { n:=s1.n,t:=s1.t,h:=s3.h,nx:=s3.nx+ops.size,ok:=True,e:=Env.loop l (recAt r j) t } g3 a1 (w3.putObj l (.loop (recAt r j))) :=
    ⟨hs1.sz,λi=>(hs1.tm i).mono kept mX.U mX.M,hs3.mem.putLoop hl3 hI3 _,hs1.df.laterX hs1.mem mX hl1,⟨World.putObj_heap_same hlt3,hI3,λi=>(ht1 i).mono kept mX.U mX.M⟩,Yh hs1.bd mX.size⟩
   have hput:=mI hbase (ax.refl _ _) hbase.mem hd (.v (.bool j.isNone)) True;have e3:(ops.toList.drop (k+1)).take (ops.size-(k+1))=ops.toList.drop (k+1):=Yl (by simp)
   have:=uM (ro:=none) (P:=P) (C:=C) (B:=B) (ops:=ops) (b:=s3.nx) (n:=0) (rest:=[]) (g0:=g3) (w0:=w3.putObj l (.loop (recAt r j))) (Q:=λe a' w'=>∃s' g',Q e s'/\St P B s' g' a' w'/\gJ s.e.x g g' w w'/\(∀r,g'.U r->r<s'.nx)/\s'.e.x=s.e.x) (ops.size-(k+1)) (k+1) _ g3 _ _ hput (ax.refl _ _) (λr hr=>by have:=hU3 r hr;omega) om
    (by rw[e3];exact e4▸ok4) λg'' a'' w'' p1 p2 p3=>by
     rw[e3]at p1;have p1:St P B s4 g'' a'' w'':=e4▸p1;have hx:s.e.x=some l:=by rw[hse];rfl
     refine⟨_,g'',hQ,p1.clear,?_,λr' hr'=>?_,?_⟩
     . rw[hx];exact hm1.toX.trans (mX.trans p2.toX)
     .
      have h3:=p3 r' hr';have h4:=hnxx (ops.toList.drop (k+1)) (k+1) s3.nx { n:=s1.n,t:=s1.put o.dst (.v (.bool j.isNone)),h:=s3.h,nx:=s3.nx+ops.size,ok:=True,e:=Env.loop l (recAt r j) t };rw[e4]at h4
      show r'<s4.nx
      rw[h4]
      show r'<s3.nx+ops.size
      omega
     have h5:=hex (ops.toList.drop (k+1)) (k+1) s3.nx { n:=s1.n,t:=s1.put o.dst (.v (.bool j.isNone)),h:=s3.h,nx:=s3.nx+ops.size,ok:=True,e:=Env.loop l (recAt r j) t };rw[e4]at h5
     show s4.e.x=s.e.x
     rw[h5,hx];rfl
   rw[Yv]at this;exact this
  cases e with
  | normal=>obtain⟨rfl,rfl⟩:=hcase;exact fin rfl
  | ret=>obtain⟨rfl,rfl⟩:=hcase;exact fin rfl
  | exit i=>obtain⟨rfl,rfl⟩:=hcase;exact fin rfl
  | _=>exact hcase.elim
 | _=>exact hq.elim
def HM.lay [Glob P]{h:H}{g:Mem}{w:World}(hm:HM P h g w)(o:Obj):HM P h g (w.alloc o)/\ax g g w (w.alloc o):=by
 have mono:ax g g w (w.alloc o) :=
  ⟨rfl,rfl,rfl,by simp,XX _,λ_ h=>h,λ_ _=>.inl rfl,λr b c s h=>.inl ⟨r,c,s,h⟩,λ_ h=>h,λb h=>.inl h,λb hb _=>Below.heap_alloc w o b hb⟩
 refine⟨⟨hm.dead,λr bl hr=>?_,hm.inj,hm.used,λb hb=>YD (hm.imm b hb) (by simp),hm.gr.later (hm.kept mono)⟩,mono⟩
 obtain⟨blk,c,h1,h2,h3,h4,h5⟩:=hm.blk r bl hr
 refine⟨blk,c,h1,h2,h3,h4,?_⟩
 rcases h5 with h5|⟨b,cur,rfl,h6,h7,h8,h9⟩
 . exact .inl h5
 have hlt:=(pU hm h1).1
 refine .inr ⟨b,cur,rfl,by rw[Below.heap_alloc w o b hlt];exact h6,h7,h8,λi row hi=>⟨(h9 i row hi).1,λj d hd=>?_⟩⟩
 obtain⟨u,k3,k4,k5⟩:=(h9 i row hi).2 j d hd
 exact⟨u,k3,k4,k5.later hm mono⟩
theorem VY [Glob P]{s:S}{gf:Operand}{ps:Array Tmp}{assign body:Code}{f:FuncId}{fn:Func}{c:Code}{first aD:List D}(he:s.e=Env.tt)(hev:s.ev gf = .fn (.func f) first aD)(hf:P.funcs[f]? = some fn)(hb:fn.body=some c)(hbd:dY P f=true)
  (hn:(first++[D.fn (.yield 0) [] []]++aD).length<=fn.ntmps)(hres:fn.results = #[])
  (walk : ∀l r,r.params=ps->r.assign=assign->r.body=body->r.tmps.size=s.n->DW P none c (λe s'=>(e = .normal\/e = .ret) /\ ∃j,s'.e=Env.loop l (recAt r j) s.t /\
    (match j with|none=>Q .normal { n:=s.n,t:=s.t,h:=s'.h,nx:=s'.nx }|some .ret=>Q .ret { n:=s.n,t:=s.t,h:=s'.h,nx:=s'.nx }|some (.exit i)=>Q (.exit i) { n:=s.n,t:=s.t,h:=s'.h,nx:=s'.nx }|_=>False))
   { n:=fn.ntmps,t:=λi=>(first++[D.fn (.yield l) [] []]++aD).getD i .junk,h:=s.h,nx:=s.nx,e:=Env.loop l (recAt r none) s.t }):DW P none (.rangeFunc gf ps assign body) Q s:=by
 intro B g a w hs hU
 refine wpIn_rangeFunc λfn' _=>?_
 let Dk:=w.heap.size
 let l:=w.heap.size+1
 let r:Loop:={ state:=.ready,pending:=none,fn:=fn',tmps:=a.tmps,params:=ps,assign:=assign,body:=body,defers:=w.heap.size }
 let w1:=(w.alloc (.deferred (some []))).alloc (.loop r)
 have hfr:=bX hs gf
 rw[hev]at hfr
 generalize hv:a.eval gf=vf at hfr
 cases hfr with|fn _ _ _ fs cs l1 l2 r1 r2 =>
 obtain⟨q1,q2⟩:=hs.mem.lay (.deferred (some []))
 obtain⟨q3,q4⟩:=q1.lay (.loop r)
 have rQ:ax g g w w1:=q2.trans q4
 have hl1:w1.heap[l]? = some (.loop r):=by
  have:=World.alloc_heap_new (w.alloc (.deferred (some []))) (.loop r)
  simpa[l,w1]using this
 have hD1:w1.heap[Dk]? = some (.deferred (some [])):=by
  have h1:=World.alloc_heap_new w (.deferred (some []));have h2:=Below.heap_alloc (w.alloc (.deferred (some []))) (.loop r) Dk (by simp[Dk])
  exact h2.trans h1
 have hsz1:w1.heap.size=w.heap.size+2:=by simp[w1]
 have hIl : ¬g.I l:=λh=>by have:=hs.mem.imm l h;simp[l]at this;omega
 have hID : ¬g.I Dk:=λh=>by have:=hs.mem.imm Dk h;simp[Dk]at this
 refine⟨l,_,w1,⟨.fn (.func f) cs,fs ++ #[.func (.yield l) #[] #[]]⟩,w1,f,fs ++ #[.func (.yield l) #[] #[]]++cs,w1,run_enterLoop_outer _ _ _ _ _,?_,λ_ _=>trivial,?_,λh=>by simp[Fw,Fence.wide]at h,?_⟩
 .
  have:a.eval (.const (Value.func (.yield l) #[] #[]))=Value.func (.yield l) #[] #[]:=rfl
  simp[resolve,Deferred.ofValue,hv,this]
 . simp[invoke,vY hbd]
 have hargs:aB w1 g (first++[D.fn (.yield l) [] []]++aD) (fs.toList++[Value.func (.yield l) #[] #[]]++cs.toList):=by
  refine aB.append (aB.append ⟨by simpa using l1,λi d x h1 h2=>(r1 i d x h1 (by simpa using h2)).later hs.mem rQ⟩ (.cons (x:=Value.func (.yield l) #[] #[]) (.fn (.yield l) [] [] #[] #[] rfl rfl (λ_ _ _ h=>by simp at h) (λ_ _ _ h=>by simp at h)) .nil)) ⟨by simpa using l2,λi d x h1 h2=>(r2 i d x h1 (by simpa using h2)).later hs.mem rQ⟩
 have e:fs ++ #[.func (.yield l) #[] #[]]++cs=(fs.toList++[Value.func (.yield l) #[] #[]]++cs.toList).toArray:=by apply Zq;simp
 rw[e]
 have hn':(first++[D.fn (.yield l) [] []]++aD).length<=fn.ntmps:=by simpa using hn
 have hinit:=zR (P:=P) (n:=fn.ntmps) hargs hn' q3 (nx:=s.nx)
 have hst:St P (dn.of w1.heap.size) { n:=fn.ntmps,t:=λi=>(first++[D.fn (.yield l) [] []]++aD).getD i .junk,h:=s.h,nx:=s.nx,e:=Env.loop l (recAt r none) s.t } g _ w1 :=
  ⟨hinit.sz,hinit.tm,hinit.mem,hinit.df,⟨hl1,hIl,λi=>(hs.tm i).later hs.mem rQ⟩,hinit.bd⟩
 refine yO (callsIn_of_wp_marks (n:=0) hf hb trivial (wpIn_mono (F:=Fence.wide) (walk l r rfl rfl rfl hs.sz (dn.of w1.heap.size) g _ w1 hst hU) ?_))
 rintro e a' w' ⟨s',g',⟨hne,j,hse,hq⟩,hs',hm',iZ,_⟩
 have hm':gJ (some l) g g' w1 w':=hm'
 obtain⟨hl',hIl',_⟩:(Env.loop l (recAt r j) s.t).p g' w':=by rw[<-hse];exact hs'.en
 have hlast:LeavesInM Fence.wide 0 P fn a'.tmps (rangePost (Fw none) 0 P l (λe a' w'=>∃s' g',Q e s'/\St P B s' g' a' w'/\gJ s.e.x g g' w w'/\(∀r,g'.U r->r<s'.nx)/\s'.e.x=s.e.x) { a with defers:=[{ target:=.collected w.heap.size,args:=#[] }]++a.defers }) a'.defers .returning w':=by
  refine Ja (P:=P) a'.defers w' hs'.df.marks λw2 e0 e1 e2 e3 e4 e5 e6 e7=>?_
  refine⟨.tuple #[],by simp[results,hres],?_⟩
  have hll:l<w1.heap.size:=by rw[hsz1];simp[l]
  have hl2:w2.heap[l]? = some (.loop (recAt r j)):=by rw[e5 l hll];exact hl'
  have hl2lt:l<w2.heap.size:=(Yk.1 hl2).1;refine⟨_,_,run_endLoop hl2 (by cases j<;>simp[recAt]),?_⟩
  have same4 : ∀b,b≠l->b<w1.heap.size->(w2.putObj l (.loop { recAt r j with state:=.exhausted })).heap[b]? = w'.heap[b]? := λb h1 h2=>by
   rw[World.putObj_heap_other h1,e5 b h2]
  have kept : ∀b,g.I b->g'.I b/\(w2.putObj l (.loop { recAt r j with state:=.exhausted })).heap[b]? = w.heap[b]? := λb hb=>by
   obtain⟨k1,k2⟩:=q3.keptX hm' hIl b hb;refine⟨k1,?_⟩;rw[same4 b (λe=>hIl (e▸hb)) (q3.imm b hb),k2]
   exact(hs.mem.kept rQ b hb).2
  have hIDk' : ¬g'.I Dk:=λhI=>by
   rcases hm'.inew Dk hI with e|e|⟨r,c,s,e⟩
   . exact hID e
   . rw[hsz1]at e;simp[Dk]at e;omega
   exact xY q3 hD1 (λc e f=>by simp) (λc e=>by simp) r c s e
  have marks : ∀ds:List Deferred,Marks B.n g ds w->(∀d∈ds,d.target ≠ .collected Dk)/\Marks B.n g' ds (w2.putObj l (.loop { recAt r j with state:=.exhausted })):=by
   intro ds
   induction ds with
   | nil=>intro _;exact⟨λ_ h=>by simp at h,trivial⟩
   | cons d ds ih =>
    rintro⟨⟨Dd,h1,h2,h3,h4,h5⟩,h6⟩;obtain⟨i1,i2⟩:=ih h6;have hlt:Dd<w.heap.size:=(Yk.1 h2).1;have hne:Dd≠l:=by simp[l];omega
    have h21:w1.heap[Dd]? = some (.deferred (some [])):=Fb hs.mem rQ h2 (λc e f=>by simp)
    refine⟨λd' hd'=>?_,⟨Dd,h1,?_,h3,h4,λhI=>?_⟩,i2⟩
    .
     rcases Ym.1 hd' with rfl|h
     . rw[h1];intro e;cases e;simp[Dk]at hlt
     exact i1 d' h
    .
     rw[same4 Dd hne (by rw[hsz1];omega)]
     exact Ms q3 hm' h21 (λc e f=>by simp) (Ne.symm hne)
    rcases hm'.inew Dd hI with e|e|⟨r,c,s,e⟩
    . exact h5 e
    . rw[hsz1]at e;omega
    exact xY q3 h21 (λc e f=>by simp) (λc e=>by simp) r c s e
  obtain⟨ms,hms,hmk⟩:=hs.df;obtain⟨mk1,mk2⟩:=marks ms hmk;have fin:St P B { n:=s.n,t:=s.t,h:=s'.h,nx:=s'.nx } g' { a with defers:=[{ target:=.collected w.heap.size,args:=#[] }]++a.defers } (w2.putObj l (.loop { recAt r j with state:=.exhausted })):=by
   refine⟨hs.sz,λi=>(hs.tm i).mono kept hm'.U hm'.M,(hs'.mem.marks e4 e6 e7).putLoop hl2 hIl' _,⟨{ target:=.collected w.heap.size,args:=#[] }::ms,by rw[hms];rfl,⟨Dk,rfl,?_,mk1,hs.bd,hIDk'⟩,mk2⟩,trivial,?_⟩
   .
    rw[same4 Dk (by simp[Dk,l]) (by rw[hsz1];simp[Dk])]
    exact Ms q3 hm' hD1 (λc e f=>by simp) (by simp[Dk,l])
   simp only[World.putObj_size];rw[e4];exact Yh hs.bd (Yh rQ.size hm'.size)
  have ME:gJ s.e.x g g' w (w2.putObj l (.loop { recAt r j with state:=.exhausted })):=by
   refine⟨by show w2.os=_;rw[e1,hm'.os,rQ.os],by show w2.tape=_;rw[e2,hm'.tape,rQ.tape],by show w2.output=_;rw[e3,hm'.output,rQ.output],by simp only[World.putObj_size];rw[e4];exact Yh rQ.size hm'.size,by show w.drawn<=w2.drawn;rw[e0];exact Yh rQ.drawn hm'.drawn,hm'.U,hm'.M,λr b c s h=>?_,hm'.I,λb h=>?_,λb h1 h2 _=>?_⟩
   .
    rcases hm'.new r b c s h with h|h
    . exact .inl h
    exact .inr (Yh rQ.size h)
   .
    rcases hm'.inew b h with h|h|h
    . exact .inl h
    . exact .inr (.inl (Yh rQ.size h))
    exact .inr (.inr h)
   have hne:b≠l:=by simp[l];omega
   rw[same4 b hne (by rw[hsz1];omega),hm'.same b (by rw[hsz1];omega) h2 (λe=>hne (by cases e;rfl))]
   exact rQ.same b h1 h2
  have hx:({ n:=s.n,t:=s.t,h:=s'.h,nx:=s'.nx }:S).e.x=s.e.x:=by rw[he]
  match j,hq with
  | none,hq=>exact⟨_,g',hq,fin,ME,iZ,hx⟩
  | some .ret,hq=>exact wpIn_ret ⟨_,g',hq,fin,ME,iZ,hx⟩
  | some (.exit i),hq=>exact wpIn_exit ⟨_,g',hq,fin,ME,iZ,hx⟩
 rcases hne with rfl|rfl<;>exact hlast
end Go.DL
namespace Go.Str
open Go.DL
abbrev Str:=List UInt8
def bs(l:Str):ByteArray:=⟨l.toArray⟩
@[go_sem]theorem bs_mk(l:Str):(ByteArray.mk l.toArray)=bs l:=rfl
@[go_sem]theorem uf(l:Str):(bs l).data.toList=l:=by simp[bs]
@[go_sem]theorem bs_size(l:Str):(bs l).size=l.length:=by simp[bs,ByteArray.size]
def OQ{a b:ByteArray}(h:a.data.toList=b.data.toList):a=b:=by
 cases a;cases b;congr 1;exact Zq h
@[go_sem]theorem ZmR(l:Str)(i j:Nat):(bs l).extract i j=bs ((l.take j).drop i):=by
 apply OQ
 rw[ByteArray.data_extract]
 simp[bs,List.drop_take]
@[go_sem]theorem ZmS(a b:Str):bs a++bs b=bs (a++b):=by
 apply OQ
 rw[ByteArray.data_append]
 simp[bs]
theorem bs_of(a:ByteArray):a=bs a.data.toList:=by apply OQ;simp[bs]
def bD(b:UInt8):List D:=[.v (.int .u8 b.toNat)]
def sR(s:Str):List D:=[.v (.string (bs s))]
def aF:D->Str
 | .v (.string s)=>s.data.toList
 | _=>[]
def bu:D->Int
 | .v (.int _ n)=>n
 | _=>0
def yP:D->Bool
 | .v (.bool b)=>b
 | _=>false
def Mm:List D->Str
 | [d]=>aF d
 | _=>[]
def Qe:D->List Str
 | .list _ rows=>rows.map Mm
 | _=>[]
def gQ:D->Str
 | .list _ rows=>rows.map Go.DL.byteOf
 | _=>[]
def str1_v{s:ByteArray}:aF (.v (.string s))=s.data.toList:=rfl
def int1_v{k:IntKind}{n:Int}:bu (.v (.int k n))=n:=rfl
def bool1_v{b:Bool}:yP (.v (.bool b))=b:=rfl
attribute[go_sem]str1_v int1_v bool1_v
theorem kW{α β:Type}{f:α->β}{g:β->α}(h : ∀x,g (f x)=x)(l:List α):(l.map f).map g=l:=by
 rw[List.map_map]
 exact(Zd λx _=>h x).trans (List.map_id l)
@[go_sem]theorem ZkW{f:Bool}{l:List Str}:Qe (.list f (l.map sR))=l:=kW (f:=sR) (g:=Mm) (λx=>uf x) l
@[go_sem]theorem Zj5{f:Bool}{l:Str}:gQ (.list f (l.map bD))=l:=kW (f:=bD) (g:=Go.DL.byteOf) (λx=>by simp[Go.DL.byteOf,bD]) l
@[go_sem]theorem ZmQ{f:Bool}:gQ (.list f [])=[]:=rfl
attribute [go_sem] sR bD
def nS{l:List Str}{n:Nat}(h:n<l.length):(l.map sR).getD n []=[.v (.string (bs l[n]!))]:=by
 simp[List.getD,h,getElem!_pos,sR]
@[go_sem]theorem wkr_sR{l:List Str}:eG (l.map sR)=l.map sR:=by
 induction l with
 | nil=>rfl
 | cons x l ih=>simp only[X8,eG,ih];rfl
@[go_sem]theorem nrr_sR{l:List Str}:bq (l.map sR)=true:=by
 induction l with
 | nil=>rfl
 | cons x l ih=>simp only[X8,bq,ih];rfl
@[go_sem]theorem wkr_bD{l:Str}:eG (l.map bD)=l.map bD:=by
 induction l with
 | nil=>rfl
 | cons x l ih=>simp only[X8,eG,ih];rfl
@[go_sem]theorem nrr_bD{l:Str}:bq (l.map bD)=true:=by
 induction l with
 | nil=>rfl
 | cons x l ih=>simp only[X8,bq,ih];rfl
def aA(n:Nat)(p:Nat->Bool)(k:Nat):Bool:=if k<n then p k&&aA n p (k+1)else true
termination_by n-k
theorem iI(n:Nat)(p:Nat->Bool)(k:Nat):aA n p k=if k<n then p k&&aA n p (k+1)else true:=by rw[aA]
theorem eF(n:Nat)(p:Nat->Bool)(k:Nat):aA n p k=true↔∀i,k<=i->i<n->p i=true:=by
 rw[iI]
 split
 .
  rename_i h
  rw[XU,eF n p (k+1)];refine⟨λ⟨h1,h2⟩i hi hn=>?_,λh1=>⟨h1 k (XX _) h,λi hi hn=>h1 i om hn⟩⟩
  by_cases e:i=k
  . subst e;exact h1
  exact h2 i om hn
 rename_i h
 exact⟨λ_ i hi hn=>by omega,λ_=>rfl⟩
termination_by n-k
def sF(c:UInt8):Bool:=(decide (97<=c.toNat)&&decide (c.toNat<=122))||(decide (48<=c.toNat)&&decide (c.toNat<=57))
def ql(l:Str)(i:Nat):Bool:=sF (l.getD i 0)||(decide ((l.getD i 0).toNat=45)&&decide (0<i)&&decide (i+1<l.length))
def iF(l:Str):Bool:=aA l.length (ql l) 0&&decide (1<=l.length)&&decide (l.length<=12)
def xX(l:Str)(i:Nat):Bool:=sF (l.getD i 0)||decide ((l.getD i 0).toNat=45)
theorem Zgr(l:Str):iF l=if l.length<1 then false else if 12<l.length then false else if(l.getD 0 0).toNat=45 then false else if(l.getD (l.length-1) 0).toNat=45 then false else aA l.length (xX l) 0:=by
 by_cases h1:l.length<1
 . rw[X3 h1];unfold iF;rw[Y8 (by omega : ¬1<=l.length)];simp
 rw[XV h1]
 by_cases h2:12<l.length
 . rw[X3 h2];unfold iF;rw[Y8 (by omega : ¬l.length<=12)];simp
 rw[XV h2]
 have e:iF l=aA l.length (ql l) 0:=by
  unfold iF;rw[YE (by omega:1<=l.length),YE (by omega:l.length<=12)];simp
 rw[e]
 have not45 : ∀c:UInt8,c.toNat=45->sF c=false:=by
  intro c hc;simp[sF,hc]
 by_cases h3:(l.getD 0 0).toNat=45
 .
  rw[X3 h3]
  cases h:aA l.length (ql l) 0 with
  | false=>rfl
  | true =>
   have:=(eF _ _ _).1 h 0 (XX _) om;simp only[ql,not45 _ h3,Nat.lt_irrefl,decide_false,Bool.and_false,Bool.false_and,ZR]at this;exact this.symm
 rw[XV h3]
 by_cases h4:(l.getD (l.length-1) 0).toNat=45
 .
  rw[X3 h4]
  cases h:aA l.length (ql l) 0 with
  | false=>rfl
  | true =>
   have:=(eF _ _ _).1 h (l.length-1) (Yi _) om;simp only[ql,not45 _ h4,Bool.false_or,XU,XW]at this;omega
 rw[XV h4,YL,eF,eF]
 refine⟨λh i hi hn=>?_,λh i hi hn=>?_⟩
 . have:=h i hi hn;simp only[ql,xX,Yc,XU,XW]at this ⊢;exact this.imp id λh=>h.1.1
 have:=h i hi hn
 simp only[ql,xX,Yc,XU,XW]at this ⊢
 rcases this with h5|h5
 . exact .inl h5
 refine .inr ⟨⟨h5,?_⟩,?_⟩
 .
  rcases Nat.eq_zero_or_pos i with e|e
  . subst e;exact absurd h5 h3
  exact e
 rcases YG (i+1) l.length with e|e
 . exact e
 have:i=l.length-1:=by omega
 subst this;exact absurd h5 h4
def split(l:Str):List Str:=match l with
 | []=>[[]]
 | c::r=>if c=46 then[]::split r else match split r with
  | []=>[[c]]
  | p::ps=>(c::p)::ps
def ou(out:List Str)(c:UInt8):List Str:=if c=46 then out++[[]]else out.set (out.length-1) (out[out.length-1]! ++ [c])
def Zcj{out:List Str}{c:UInt8}(h:(c.toNat:Int)=46):ou out c=out++[[]]:=by
 have:c=46:=by apply ZV.1;simpa using Int.ofNat.inj h
 unfold ou;rw[X3 this]
def Zcl{out:List Str}{c:UInt8}(h : ¬(c.toNat:Int)=46):ou out c=out.set (out.length-1) (out[out.length-1]! ++ [c]):=by
 unfold ou;rw[XV];intro e;subst e;exact h rfl
def Ze7{l:Str}{k:Nat}(h:k<l.length):(l.take (k+1)).drop k=[l.getD k 0]:=by
 rw[Zg,List.drop_append_of_le_length (by simp;omega),Y3 (by simp;omega)]
 simp[List.getD,h]
def wG(l:Str)(k:Nat)(out:List Str):List Str:=if k<l.length then wG l (k+1) (ou out (l.getD k 0))else out
termination_by l.length-k
theorem EB(l:Str)(k:Nat)(out:List Str):wG l k out=if k<l.length then wG l (k+1) (ou out (l.getD k 0))else out:=by rw[wG]
def jF(l:Str):List Str:=wG l 0 [[]]
def mQ(l:Str)(c:Int):Nat->Int
 | 0=>-1
 | k+1=>if((l.getD k 0).toNat:Int)=c then k else mQ l c k
theorem Uk{l:Str}{c:Int}{k:Nat}(h:0<k):mQ l c k=if((l.getD (k-1) 0).toNat:Int)=c then((k-1:Nat):Int)else mQ l c (k-1):=by
 obtain⟨j,rfl⟩:∃j,k=j+1:=⟨k-1,om⟩
 rw[mQ];rfl
def gp(l:Str)(c:Int):Int:=mQ l c l.length
theorem MR(l:Str)(c:Int):∀k,mQ l c k<k /\ -1<=mQ l c k
 | 0=>by simp[mQ]
 | k+1=>by
  have:=MR l c k;unfold mQ
  split<;>omega
def Jb(l:Str)(c:Int):gp l c<l.length /\ -1<=gp l c:=MR l c l.length
def Zck{out:List Str}{c:UInt8}{k:Nat}(h : ∀x∈out,x.length<=k):(∀x∈ou out c,x.length<=k+1)/\(ou out c).length<=out.length+1:=by
 unfold ou
 split
 .
  refine⟨λx hx=>?_,by simp⟩
  rcases Yx.1 hx with hx|hx
  . exact Nat.le_succ_of_le (h x hx)
  simp at hx;subst hx;exact Yi _
 refine⟨λx hx=>?_,by simp⟩
 rcases List.mem_or_eq_of_mem_set hx with hx|hx
 . exact Nat.le_succ_of_le (h x hx)
 subst hx
 rw[XZ]
 refine Nat.succ_le_succ ?_
 by_cases ho:out.length-1<out.length
 . exact h _ (by rw[getElem!_pos out _ ho];exact YI _)
 rw[getElem!_neg out _ ho];exact Yi _
theorem Qq(l:Str)(k:Nat)(out:List Str)(hk:k<=l.length)(h : ∀x∈out,x.length<=k):(∀x∈wG l k out,x.length<=l.length)/\(wG l k out).length<=out.length+(l.length-k):=by
 rw[EB]
 split
 .
  rename_i hlt
  obtain⟨h1,h2⟩:=Zck (c:=l.getD k 0) h;obtain⟨h3,h4⟩:=Qq l (k+1) _ om h1;exact⟨h3,om⟩
 exact⟨λx hx=>Yh (h x hx) hk,om⟩
termination_by l.length-k
def Hz(l:Str):(∀x∈jF l,x.length<=l.length)/\(jF l).length<=l.length+1:=by
 obtain⟨h1,h2⟩:=Qq l 0 [[]] (Yi _) (by simp)
 exact⟨h1,by unfold jF;simp only[YS,Y4]at h2;omega⟩
def Zcm(l:Str)(i:Nat):(jF l)[i]!.length<=l.length:=by
 by_cases h:i<(jF l).length
 . exact(Hz l).1 _ (by rw[getElem!_pos (jF l) i h];exact YI _)
 rw[getElem!_neg (jF l) i h];exact Yi _
def qg(l:Str):List Str:=l.drop (gp l 46+1).toNat::(if _h:gp l 46<0 then[]else qg (l.take (gp l 46).toNat))
termination_by l.length
decreasing_by
 have:=MR l 46 l.length
 unfold gp at *
 simp
 omega
theorem tq(l:Str):qg l=l.drop (gp l 46+1).toNat::(if gp l 46<0 then[]else qg (l.take (gp l 46).toNat)):=by
 rw[qg];split<;>rfl
def uw(ps:List Str)(i:Nat):Bool:=iF ps[i]! || (decide (i=0)&&ps[i]! == [42])
def az(l:Str):Bool:=if l=[46]then true else if 60<l.length then false else aA (jF l).length (uw (jF l)) 0&&decide ((jF l).length<=8)
def bF(l:Str):List Str:=if l=[46]then[]else jF l
def ru:List Str->Nat->Bool->Bool
 | [],_,_=>true
 | x::r,n,wild=>if wild||decide (8<n+1)then false else if !(x==[42]) && !iF x then false else ru r (n+1) (x==[42])
theorem wF(l:Str):split l≠[]:=by
 cases l with
 | nil=>simp[split]
 | cons c r =>
  unfold split
  split
  . simp
  split<;>simp
theorem Lg{x:Str}{xs:List Str}(c:UInt8)(h:xs≠[]):ou (x::xs) c=x::ou xs c:=by
 unfold ou
 split
 . rfl
 have hl:0<xs.length:=Zy.2 h
 obtain⟨n,hn⟩:∃n,xs.length=n+1:=⟨xs.length-1,om⟩
 simp[hn]
theorem Qo(c:UInt8):∀p:Str,split (p++[c])=ou (split p) c
 | []=>by
  by_cases h:c=46
  . subst h;rfl
  simp[split,ou,h]
 | a::p=>by
  have ih:=Qo c p
  show split (a::(p++[c]))=_
  rw[split,split.eq_2 a p]
  by_cases h:a=46
  . rw[X3 h,X3 h,ih,Lg c (wF p)]
  rw[XV h,XV h,ih]
  cases hq:split p with
  | nil=>exact absurd hq (wF p)
  | cons q qs =>
   by_cases hc:c=46
   . simp[ou,hc]
   cases qs with
   | nil=>simp[ou,hc]
   | cons r rs =>
    rw[Lg (x:=q) (xs:=r::rs) c (by simp),Lg (x:=a::q) (xs:=r::rs) c (by simp)]
theorem Qp(l:Str)(k:Nat)(hk:k<=l.length):wG l k (split (l.take k))=split l:=by
 rw[EB]
 split
 .
  rename_i h
  rw[<-Qo,<-Qp l (k+1) (by omega)]
  congr 2
  rw[Zg]
  simp[List.getD,h]
 rw[Yl (by omega)]
termination_by l.length-k
theorem EC(l:Str):jF l=split l:=Qp l 0 (Yi _)
theorem Le : ∀l:Str,(∀x∈l,x≠46)->split l=[l]
 | [],_=>rfl
 | c::r,h=>by
  rw[split,XV (h c (by simp)),Le r (λx hx=>h x (by simp[hx]))]
theorem Lf(b:Str):∀a:Str,split (a++46::b)=split a++split b
 | []=>by rfl
 | x::a=>by
  show split (x::(a++46::b))=_
  rw[split,split.eq_2 x a,Lf b a]
  by_cases h:x=46
  . rw[X3 h,X3 h];rfl
  rw[XV h,XV h]
  cases hq:split a with
  | nil=>exact absurd hq (wF a)
  | cons q qs=>rfl
theorem Ul(l:Str)(c:Int):∀k,(mQ l c k<0 -> ∀j,j<k -> ¬((l.getD j 0).toNat:Int)=c)/\(0<=mQ l c k->((l.getD (mQ l c k).toNat 0).toNat:Int)=c /\ ∀j,(mQ l c k).toNat<j->j<k -> ¬((l.getD j 0).toNat:Int)=c)
 | 0=>by simp[mQ]
 | k+1=>by
  obtain⟨h1,h2⟩:=Ul l c k;unfold mQ
  by_cases h:((l.getD k 0).toNat:Int)=c
  . rw[X3 h];exact⟨λh3=>by omega,λ_=>⟨by simpa using h,λj h4 h5=>by simp at h4;omega⟩⟩
  rw[XV h];refine⟨λh3 j hj=>?_,λh3=>⟨(h2 h3).1,λj h4 h5=>?_⟩⟩
  .
   by_cases e:j=k
   . subst e;exact h
   exact h1 h3 j om
  by_cases e:j=k
  . subst e;exact h
  exact(h2 h3).2 j h4 om
def Tj{l:Str}{n:Nat}(h : ∀j,n<=j->j<l.length -> ¬((l.getD j 0).toNat:Int)=46):∀x∈l.drop n,x≠46:=by
 intro x hx e
 subst e
 obtain⟨i,hi,he⟩:=Zj hx
 rw[List.getElem_drop]at he
 have hi':n+i<l.length:=by simp at hi;omega
 refine h (n+i) om hi' ?_
 have:l.getD (n+i) 0=46:=by simp only[List.getD,Yg hi',YR];exact he
 rw[this];rfl
theorem zh(l:Str):qg l=(split l).reverse:=by
 rw[tq]
 obtain⟨h1,h2⟩:=Ul l 46 l.length
 obtain⟨h3,h4⟩:=Jb l 46
 by_cases h:gp l 46<0
 .
  rw[X3 h];have e:(gp l 46+1).toNat=0:=by omega
  have hs:=Le l (λx hx=>by have:=Tj (l:=l) (n:=0) (λj _ hj=>h1 h j hj) x;exact this (by simpa using hx))
  rw[e,hs];rfl
 rw[XV h]
 obtain⟨h5,h6⟩:=h2 (by unfold gp at h;omega)
 generalize hi:(gp l 46).toNat=i at *
 have hi':(mQ l 46 l.length).toNat=i:=hi
 have e:(gp l 46+1).toNat=i+1:=by omega
 have hlt:i<l.length:=by omega
 rw[hi']at h5 h6
 have hl:l=l.take i++46::l.drop (i+1):=by
  have hc:l[i]=46:=by
   have:l.getD i 0=l[i]:=by simp[List.getD,hlt]
   rw[this]at h5
   apply ZV.1;simpa using Int.ofNat.inj h5
  conv=>lhs;rw[<-Y7 i l]
  rw[YC hlt,hc]
 have hs:=Le (l.drop (i+1)) (Tj λj hj hn=>h6 j (by omega) hn)
 have ih:=zh (l.take i)
 rw[e,ih]
 conv=>rhs;rw[hl]
 rw[Lf,hs]
 simp
termination_by l.length
decreasing_by
 simp;omega
theorem Pv{x:Str}{r:List Str}{n:Nat}{w:Bool}(h:(w||decide (8<(n:Int)+1))=true):ru (x::r) n w=false:=by
 unfold ru
 rw[X3]
 rw[<-h,ZP.2 (by omega:8<n+1↔8<(n:Int)+1)]
def ZjQ{n:Nat}{w:Bool}(h:(w||decide (8<(n:Int)+1))=false):n+1<=8:=by
 rw[Yd,X4]at h
 omega
theorem Pt{x:Str}{r:List Str}{n:Nat}{w:Bool}(h:(w||decide (8<(n:Int)+1))=false)(k:(!(x==[42]) && !iF x)=true):ru (x::r) n w=false:=by
 unfold ru
 rw[XV,X3 k]
 rw[ZP.2 (by omega:8<n+1↔8<(n:Int)+1),h]
 simp
theorem Ps{x:Str}{r:List Str}{n:Nat}{w:Bool}(h:(w||decide (8<(n:Int)+1))=false)(k:(!(x==[42]) && !iF x)=false):ru (x::r) n w=ru r (n+1) (x==[42]):=by
 conv=>lhs;unfold ru
 rw[XV,XV]
 . rw[k];simp
 rw[ZP.2 (by omega:8<n+1↔8<(n:Int)+1),h]
 simp
theorem Zcb:iF [42]=false:=by
 unfold iF
 rw[iI]
 rfl
theorem Pq(h:Str):∀(ys:List Str)(n:Nat)(w:Bool),ru (ys++[h]) n w=(!w&&ys.all iF&&(iF h||h==[42])&&decide (n+ys.length+1<=8))
 | [],n,w=>by
  simp only[X0,ru,List.all_nil,Y4,Zu]
  cases w<;>cases h1:iF h<;>cases h2:(h==[42])<;>by_cases h3:n+1<=8<;>simp[h3,show ¬8<n+1↔n+1<=8 by omega]<;>omega
 | y::ys,n,w=>by
  have ih:=Pq h ys (n+1) (y==[42]);simp only[XY,ru,List.all_cons,YS];rw[ih];have e:n+1+ys.length+1=n+(ys.length+1)+1:=by omega
  rw[e]
  by_cases hs:y=[42]
  .
   subst hs;rw[Zcb]
   cases w<;>simp
  have hs':(y==[42])=false:=by simpa using hs
  rw[hs']
  by_cases h3:8<n+1
  .
   have h4 : ¬n+(ys.length+1)+1<=8:=by omega
   simp[h3,h4]
  cases w<;>cases iF y<;>simp[h3]
theorem ZkG(h:Str)(t:List Str):aA (h::t).length (uw (h::t)) 0=(t.all iF&&(iF h||h==[42])):=by
 rw[YL,eF]
 simp only[uw,XU,Yc,YJ,XW,YB]
 refine⟨λq=>⟨λx hx=>?_,?_⟩,λ⟨q1,q2⟩i _ hi=>?_⟩
 .
  obtain⟨i,hi,rfl⟩:=Zj hx;have:=q (i+1) (Yi _) (by simp;omega)
  rcases this with h1|h1
  . simpa[hi]using h1
  omega
 .
  have:=q 0 (XX _) (by simp)
  simpa using this
 cases i with
 | zero=>simpa using q2
 | succ i =>
  have hi':i<t.length:=by simpa using hi
  exact .inl (by simpa[hi']using q1 t[i] (YI hi'))
theorem TD(l:Str):az l=if l=[46]then true else if 60<l.length then false else ru (qg l) 0 false:=by
 unfold az
 rw[zh,<-EC]
 cases hq:jF l with
 | nil=>exact absurd (by rw[<-EC];exact hq) (wF l)
 | cons h t =>
  rw[ZkG,List.reverse_cons,Pq]
  simp
theorem ZeS{ps:List Str}{k:Nat}(h1:iF ps[k]! = false)(h2:0<k \/ ¬ps[k]! = [42]):uw ps k=false:=by
 unfold uw
 rw[h1,Bool.false_or,Yy,X4,Zi]
 rcases h2 with h|h
 . exact .inl om
 exact .inr h
theorem ZeR{ps:List Str}{k:Nat}(h:iF ps[k]! = true\/(¬0<k/\ps[k]! = [42])):uw ps k=true:=by
 unfold uw
 rw[Yc,XU,XW,YB]
 rcases h with h|⟨h1,h2⟩
 . exact .inl h
 exact .inr ⟨om,h2⟩
def ik(l:Str):List Str:=if l=[46]then[]else qg l
def pl(more:Bool)(rest:Str):List Str:=if more then qg rest else[]
def xS(more:Bool)(rest:Str):Str:=if more then rest.drop (gp rest 46+1).toNat else[]
def tF(more:Bool)(rest:Str):Bool:=more&&decide (0<=gp rest 46)
def tC(more:Bool)(rest:Str):Str:=if tF more rest then rest.take (gp rest 46).toNat else rest
theorem Sj{rest:Str}:pl true rest=xS true rest::pl (tF true rest) (tC true rest):=by
 unfold pl xS tF tC tF
 rw[X3 rfl,X3 rfl,tq]
 by_cases h:gp rest 46<0
 .
  have : ¬0<=gp rest 46:=by omega
  simp[h,this]
 have:0<=gp rest 46:=by omega
 simp[h,this]
def ZeF(more:Bool)(rest:Str):(tC more rest).length<=rest.length:=by
 unfold tC
 split
 . simp;omega
 exact XX _
def uS:List Str->List Str->Int
 | [],_=>-1
 | _::_,[]=>1
 | x::xs,y::ys=>if Go.Lib.compareBytes x y != 0 then Go.Lib.compareBytes x y else uS xs ys
def kU(a b:Str):Int:=if a=b then 0 else uS (ik a) (ik b)
def gM{l:Str}(h:az l=true):l.length<=60:=by
 unfold az at h
 split at h
 . rename_i e;subst e;decide
 split at h
 . cases h
 omega
theorem ZdZ(l:Str):ik l=pl (l != [46]) l:=by
 unfold ik pl
 by_cases h:l=[46]
 . subst h;rfl
 have:(l != [46])=true:=by simpa using h
 rw[XV h,this];rfl
theorem Kn{more:Bool}{rest r2:Str}(h:(!more)=true):uS (qg rest) (pl more r2)=1:=by
 cases more with
 | true=>cases h
 | false=>rw[tq];rfl
theorem Xb{more:Bool}{rest r2:Str}(h:(!more)=false)(k:(Go.Lib.compareBytes (rest.drop (gp rest 46+1).toNat) (xS more r2) != 0)=true):uS (qg rest) (pl more r2)=Go.Lib.compareBytes (rest.drop (gp rest 46+1).toNat) (xS more r2):=by
 cases more with
 | false=>cases h
 | true=>rw[tq,Sj,uS,X3 k]
theorem Oy{more:Bool}{rest r2:Str}(h:(!more)=false)(k:(Go.Lib.compareBytes (rest.drop (gp rest 46+1).toNat) (xS more r2) != 0)=false):uS (qg rest) (pl more r2)=uS (if gp rest 46<0 then[]else qg (rest.take (gp rest 46).toNat)) (pl (tF more r2) (tC more r2)):=by
 cases more with
 | false=>cases h
 | true=>rw[tq,Sj,uS,XV (by rw[k];simp)]
def wP:List Str->List Str->Int
 | [],[]=>0
 | [],_::_=>-1
 | _::_,[]=>1
 | x::xs,y::ys=>if Go.Op.bytesLess x y then -1 else if !(Go.Op.bytesLess x y||x==y)then 1 else wP xs ys
def fZ(a b:Str):Int:=wP (ik a) (ik b)
def zA(l m:List Str)(i:Nat):Int:=if i<=l.length/\i<=m.length then(if Go.Op.bytesLess l[l.length-i]! m[m.length-i]! then -1 else if !(Go.Op.bytesLess l[l.length-i]! m[m.length-i]! || l[l.length-i]! == m[m.length-i]!)then 1 else zA l m (i+1))else if l.length<m.length then -1 else if m.length<l.length then 1 else 0
termination_by l.length+1-i
theorem Be(l m:List Str)(i:Nat):zA l m i=if i<=l.length/\i<=m.length then(if Go.Op.bytesLess l[l.length-i]! m[m.length-i]! then -1 else if !(Go.Op.bytesLess l[l.length-i]! m[m.length-i]! || l[l.length-i]! == m[m.length-i]!)then 1 else zA l m (i+1))else if l.length<m.length then -1 else if m.length<l.length then 1 else 0:=by rw[zA]
theorem Io{l:List Str}{k:Nat}(h:k<l.length):l.reverse.drop k=l[l.length-(k+1)]! :: l.reverse.drop (k+1):=by
 rw[YC (by simpa using h),List.getElem_reverse]
 congr 1
 have h2:l.length-1-k<l.length:=by omega
 have e:l.length-(k+1)=l.length-1-k:=by omega
 rw[e,getElem!_pos l _ h2]
theorem SG(l m:List Str)(k:Nat)(h1:k<=l.length)(h2:k<=m.length):zA l m (k+1)=wP (l.reverse.drop k) (m.reverse.drop k):=by
 rw[Be]
 by_cases h:k+1<=l.length/\k+1<=m.length
 . rw[X3 h,Io (by omega:k<l.length),Io (by omega:k<m.length),wP,SG l m (k+1) h.1 h.2]
 rw[XV h]
 by_cases e1:k=l.length
 .
  rw[Y3 (by simp;omega)]
  by_cases e2:k=m.length
  . rw[Y3 (by simp;omega),XV (by omega),XV (by omega)];rfl
  rw[Io (by omega:k<m.length),X3 (by omega)];rfl
 have e2:k=m.length:=by omega
 have hm:m.reverse.drop k=[]:=Y3 (by simp;omega)
 rw[hm,Io (by omega:k<l.length),XV (by omega),X3 (by omega)];rfl
termination_by l.length-k
theorem IL(l:Str):(bF l).reverse=ik l:=by
 unfold bF ik
 split
 . rfl
 rw[zh,EC]
theorem Zfy(a b:Str):fZ a b=zA (bF a) (bF b) 1:=by
 rw[SG _ _ 0 (Yi _) (Yi _),X6,X6,IL,IL];rfl
theorem GN : ∀a:Str,Go.Op.bytesLess a a=false
 | []=>rfl
 | c::r=>by simp[Go.Op.bytesLess,GN r]
theorem GD : ∀a b:Str,Go.Lib.compareBytes a b=if Go.Op.bytesLess a b then -1 else if a==b then 0 else 1
 | [],[]=>rfl
 | [],_::_=>rfl
 | _::_,[]=>by simp[Go.Lib.compareBytes,Go.Op.bytesLess]
 | x::a,y::b=>by
  unfold Go.Lib.compareBytes Go.Op.bytesLess
  by_cases h1:x<y
  . simp[h1]
  by_cases h2:y<x
  .
   have h3 : ¬x=y:=λe=>by subst e;exact h1 h2
   simp[h1,h2,h3]
  have h3:x=y:=by
   apply ZV.1
   have h4 : ¬x.toNat<y.toNat:=h1;have h5 : ¬y.toNat<x.toNat:=h2;omega
  subst h3
  simp[h1,GD a b]
theorem Xd : ∀xs ys:List Str,xs≠ys->uS xs ys=wP xs ys
 | [],[],h=>absurd rfl h
 | [],_::_,_=>rfl
 | _::_,[],_=>rfl
 | x::xs,y::ys,h=>by
  unfold uS wP;rw[GD]
  by_cases h1:Go.Op.bytesLess x y=true
  . simp[h1]
  by_cases h2:x=y
  .
   subst h2
   simp[GN]
   exact Xd xs ys λe=>h (by rw[e])
  have h3:(x==y)=false:=by simpa using h2
  simp[h1,h3]
theorem SF : ∀xs:List Str,wP xs xs=0
 | []=>rfl
 | x::xs=>by simp[wP,GN,SF xs]
def vK:List Str->Str
 | []=>[]
 | [p]=>p
 | p::q::r=>p++46::vK (q::r)
theorem Bz : ∀l:Str,vK (split l)=l
 | []=>rfl
 | c::r=>by
  have ih:=Bz r;unfold split
  by_cases h:c=46
  .
   rw[X3 h]
   cases hs:split r with
   | nil=>exact absurd hs (wF r)
   | cons q qs=>rw[hs]at ih;rw[vK,ih,h];rfl
  rw[XV h]
  cases hs:split r with
  | nil=>exact absurd hs (wF r)
  | cons q qs =>
   rw[hs]at ih
   cases qs with
   | nil=>simp only[vK]at ih ⊢;rw[ih]
   | cons q2 qs2=>simp only[vK]at ih ⊢;rw[<-ih];rfl
theorem LM{a b:Str}(h:ik a=ik b):a=b:=by
 unfold ik at h
 have ne : ∀l:Str,qg l≠[]:=λl e=>by rw[tq]at e;cases e
 by_cases ha:a=[46]<;>by_cases hb:b=[46]
 . rw[ha,hb]
 . rw[X3 ha,XV hb]at h;exact absurd h.symm (ne b)
 . rw[XV ha,X3 hb]at h;exact absurd h (ne a)
 rw[XV ha,XV hb,zh,zh]at h
 rw[<-Bz a,<-Bz b,List.reverse_inj.1 h]
theorem Mt(a b:Str):kU a b=fZ a b:=by
 unfold kU fZ
 by_cases h:a=b
 . subst h;rw[X3 rfl,SF]
 rw[XV h,Xd _ _ λe=>h (LM e)]
def Sq(l:Str):(∀x∈bF l,x.length<=l.length)/\(bF l).length<=l.length+1:=by
 unfold bF
 split
 . exact⟨by simp,Yi _⟩
 exact Hz l
end Go.Str
namespace Go.Rec
open Go.DL Go.Str
structure Dat where
 t:Str
 n:Int
 m:Int
 deriving Inhabited,DecidableEq
structure RSet where
 name:Str
 ty:Int
 life:Int
 data:List Dat
 deriving Inhabited,DecidableEq
structure wo where
 text:Int
 n0:Int
 n1:Int
 m0:Int
 m1:Int
 even:Bool
 single:Bool
 wild:Bool
 deriving Inhabited,DecidableEq
def Dat.d(x:Dat):List D:=[.v (.string (bs x.t)),.i x.n,.i x.m]
def Dat.of:List D->Dat
 | [.v (.string s),.v (.int _ n),.v (.int _ m)]=>⟨s.data.toList,n,m⟩
 | _=>default
def RSet.d(x:RSet):List D:=[.v (.string (bs x.name)),.i x.ty,.i x.life,.list false (x.data.map Dat.d)]
def RSet.of:List D->RSet
 | [.v (.string s),.v (.int _ t),.v (.int _ l),.list _ rows]=>⟨s.data.toList,t,l,rows.map Dat.of⟩
 | _=>default
def wo.d(r:wo):List D:=[.i r.text,.i r.n0,.i r.n1,.i r.m0,.i r.m1,.b r.even,.b r.single,.b r.wild]
def wo.of:List D->wo
 | [.v (.int _ a),.v (.int _ b),.v (.int _ c),.v (.int _ d),.v (.int _ e),.v (.bool f),.v (.bool g),.v (.bool h)]=>⟨a,b,c,d,e,f,g,h⟩
 | _=>default
def sG{α:Type}(f:List D->α)(z:α):D->α
 | .agg cs=>f cs
 | _=>z
def wX{α:Type}(f:List D->α):D->List α
 | .list _ rows=>rows.map f
 | _=>[]
def iR(n:Int):List D:=[.i n]
def ofI:List D->Int
 | [.v (.int _ n)]=>n
 | _=>0
def Dn:D->List Int:=wX ofI
def ko:D->Dat:=sG Dat.of default
def nW:D->List Dat:=wX Dat.of
def set1:D->RSet:=sG RSet.of default
def LD:D->wo:=sG wo.of default
attribute [go_sem] Dat.d RSet.d wo.d iR
theorem E5(x:Dat):Dat.of x.d=x:=by simp[Dat.of,Dat.d,uf]
@[go_sem]theorem ZmF{f:Bool}{l:List Dat}:nW (.list f (l.map Dat.d))=l:=kW E5 l
def ZmE{f:Bool}:nW (.list f [])=[]:=rfl
def dat1_agg{s:ByteArray}{n m:Int}{k k':IntKind}:ko (.agg [.v (.string s),.v (.int k n),.v (.int k' m)])=⟨s.data.toList,n,m⟩:=rfl
def set1_agg{s:ByteArray}{n m:Int}{k k':IntKind}{f:Bool}{rows:List (List D)}:set1 (.agg [.v (.string s),.v (.int k n),.v (.int k' m),.list f rows])=⟨s.data.toList,n,m,nW (.list f rows)⟩:=rfl
def Zlk{r:wo}:LD (.agg [.i r.text,.i r.n0,.i r.n1,.i r.m0,.i r.m1,.b r.even,.b r.single,.b r.wild])=r:=rfl
attribute[go_sem]ZmE dat1_agg set1_agg Zlk
def aW(x lo hi:Int):Bool:=decide (lo<=x)&&decide (x<=hi)
def cmpI(x y:Int):Int:=if x<y then -1 else if y<x then 1 else 0
def vH(a b:Str):Bool:=Go.Op.bytesLess a b
def uR(a b:Str):Int:=if vH a b then -1 else if !(vH a b||a==b)then 1 else 0
def yz(s p:Str):Bool:=decide (p.length<=s.length)&&s.take p.length==p
def jE(s:Str):Bool:=decide (0<s.length)&&decide ((s.getD 0 0).toNat=42)
theorem Ay(s:Str):yz s [42]=jE s:=by
 cases s with
 | nil=>rfl
 | cons c r =>
  simp only[yz,jE,YS,Y4,X5,Ye,List.getD_cons_zero];have h1:decide (0+1<=r.length+1)=true:=by simp
  have h2:decide (0<r.length+1)=true:=by simp
  rw[h1,h2,ZG,ZG,YL,YB,XW]
  constructor
  . intro h;have:=(List.cons.inj h).1;subst this;rfl
  intro h;have:c=42:=ZV.1 h;subst this;rfl
def vz(l:List Int)(k:Nat):Int:=if k<l.length then if l[k]! != 0 then l[k]! else vz l (k+1)else 0
termination_by l.length-k
theorem Bf(l:List Int)(k:Nat):vz l k=if k<l.length then if l[k]! != 0 then l[k]! else vz l (k+1)else 0:=by rw[vz]
def tQ(l:Str)(i:Nat):Bool:=sF (l.getD i 0)||decide ((l.getD i 0).toNat=32)
def vT(l:Str):Bool:=if l.length<1 then false else if 40<l.length then false else if(l.getD 0 0).toNat=32 then false else if(l.getD (l.length-1) 0).toNat=32 then false else aA l.length (tQ l) 0
def less(a b:Dat):Bool:=if a.t != b.t then vH a.t b.t else if a.n != b.n then decide (a.n<b.n)else decide (a.m<b.m)
end Go.Rec
namespace Go.Cmp
open Go.Str
structure Cm{α:Type}(c:α->α->Int):Prop where
 anti : ∀x y,c y x = - c x y
 tr : ∀x y z,c x y<=0->c y z<=0->c x z<=0
 lo : ∀x y, -1<=c x y
namespace Cm
variable {α : Type} {c : α -> α -> Int} (h : Cm c)
include h
theorem hi(x y:α):c x y<=1:=by have:=h.lo y x;have:=h.anti x y;omega
def self(x:α):c x x=0:=by have:=h.anti x x;omega
def lt_le{x y z:α}(a:c x y<0)(b:c y z<=0):c x z<0:=by
 have h1:=h.tr x y z (by omega) b
 by_cases e:c x z=0
 .
  have h2:=h.tr y z x b (by have:=h.anti x z;omega)
  have:=h.anti x y;omega
 omega
def le_lt{x y z:α}(a:c x y<=0)(b:c y z<0):c x z<0:=by
 have h1:=h.tr x y z a (by omega)
 by_cases e:c x z=0
 .
  have h2:=h.tr z x y (by have:=h.anti x z;omega) a
  have:=h.anti y z;omega
 omega
def eq_eq{x y z:α}(a:c x y=0)(b:c y z=0):c x z=0:=by
 have h1:=h.tr x y z (by omega) (by omega)
 have h2:=h.tr z y x (by have:=h.anti y z;omega) (by have:=h.anti x y;omega)
 have:=h.anti x z;omega
end Cm
def pW(a b:Int):Int:=if a != 0 then a else b
def Oz{α:Type}{c d:α->α->Int}(h:Cm c)(k:Cm d):Cm λx y=>pW (c x y) (d x y):=by
 have e : ∀x y,pW (c x y) (d x y)=if c x y=0 then d x y else c x y:=by
  intro x y;unfold pW;by_cases q:c x y=0<;>simp[q]
 refine⟨λx y=>?_,λx y z=>?_,λx y=>?_⟩
 .
  simp only[e];have:=h.anti x y;have:=k.anti x y
  split<;>split<;>omega
 .
  simp only[e];intro a b
  by_cases e1:c x y=0<;>by_cases e2:c y z=0
  . rw[if_pos e1]at a;rw[if_pos e2]at b;rw[if_pos (h.eq_eq e1 e2)];exact k.tr _ _ _ a b
  .
   rw[if_neg e2]at b;have:=h.le_lt (x:=x) (by omega:c x y<=0) (by omega:c y z<0)
   rw[if_neg (by omega)];omega
  .
   rw[if_neg e1]at a;have:=h.lt_le (by omega:c x y<0) (by omega:c y z<=0)
   rw[if_neg (by omega)];omega
  rw[if_neg e1]at a;rw[if_neg e2]at b;have:=h.lt_le (by omega:c x y<0) (by omega:c y z<=0)
  rw[if_neg (by omega)];omega
 simp only[e]
 have:=h.lo x y;have:=k.lo x y
 split<;>omega
def yL{α β:Type}{c:β->β->Int}(h:Cm c)(f:α->β):Cm λx y=>c (f x) (f y) :=
 ⟨λx y=>h.anti _ _,λx y z=>h.tr _ _ _,λx y=>h.lo _ _⟩
def cmpI(x y:Int):Int:=if x<y then -1 else if y<x then 1 else 0
def Kq:Cm cmpI:=by
 refine⟨λx y=>?_,λx y z=>?_,λx y=>?_⟩<;>unfold cmpI<;>(repeat' split)<;>omega
def GA{x y:Int}:cmpI x y=0↔x=y:=by
 unfold cmpI;(repeat' split)<;>omega
def lex{α:Type}(c:α->α->Int):List α->List α->Int
 | [],[]=>0
 | [],_::_=>-1
 | _::_,[]=>1
 | x::xs,y::ys=>pW (c x y) (lex c xs ys)
theorem lN{a b:Int}:pW a b=if a=0 then b else a:=by
 unfold pW;by_cases q:a=0<;>simp[q]
theorem Xe{α:Type}{c:α->α->Int}(h:Cm c):Cm (lex c):=by
 refine⟨?_,?_,?_⟩
 .
  intro x
  induction x with
  | nil=>intro y;cases y<;>rfl
  | cons x xs ih =>
   intro y
   cases y with
   | nil=>rfl
   | cons y ys =>
    simp only[lex,lN];have:=h.anti x y;have:=ih ys
    split<;>split<;>omega
 .
  intro x
  induction x with
  | nil =>
   intro y z _ _
   cases z
   . simp[lex]
   simp[lex]
  | cons x xs ih =>
   intro y z a b
   cases y with
   | nil=>simp[lex]at a
   | cons y ys =>
    cases z with
    | nil=>simp[lex]at b
    | cons z zs =>
     simp only[lex,lN]at a b ⊢
     by_cases e1:c x y=0<;>by_cases e2:c y z=0
     . rw[if_pos e1]at a;rw[if_pos e2]at b;rw[if_pos (h.eq_eq e1 e2)];exact ih _ _ a b
     .
      rw[if_neg e2]at b;have:=h.le_lt (x:=x) (by omega:c x y<=0) (by omega:c y z<0)
      rw[if_neg (by omega)];omega
     .
      rw[if_neg e1]at a;have:=h.lt_le (by omega:c x y<0) (by omega:c y z<=0)
      rw[if_neg (by omega)];omega
     rw[if_neg e1]at a;rw[if_neg e2]at b;have:=h.lt_le (by omega:c x y<0) (by omega:c y z<=0)
     rw[if_neg (by omega)];omega
 intro x
 induction x with
 | nil=>intro y;cases y<;>simp[lex]
 | cons x xs ih =>
  intro y
  cases y with
  | nil=>simp[lex]
  | cons y ys =>
   simp only[lex,lN];have:=h.lo x y;have:=ih ys
   split<;>omega
theorem MM{α:Type}{c:α->α->Int}(h : ∀x y,c x y=0->x=y):∀xs ys:List α,lex c xs ys=0->xs=ys
 | [],[],_=>rfl
 | [],_::_,e=>by simp[lex]at e
 | _::_,[],e=>by simp[lex]at e
 | x::xs,y::ys,e=>by
  simp only[lex,lN]at e
  split at e
  . rename_i q;rw[h _ _ q,MM h xs ys e]
  rename_i q;exact absurd e q
def Gz(x y:UInt8):Int:=cmpI x.toNat y.toNat
def cm_u:Cm Gz:=yL Kq λx:UInt8=>(x.toNat:Int)
def ZjR{x y:UInt8}(h:Gz x y=0):x=y:=UInt8.toNat_inj.1 (by have:=GA.1 h;omega)
theorem Ox : ∀a b:Str,Go.Lib.compareBytes a b=lex Gz a b
 | [],[]=>rfl
 | [],_::_=>rfl
 | _::_,[]=>rfl
 | x::a,y::b=>by
  unfold Go.Lib.compareBytes lex;have ih:=Ox a b;simp only[lN,Gz,cmpI]
  by_cases h1:x<y
  .
   have:(x.toNat:Int)<y.toNat:=by have:x.toNat<y.toNat:=h1;omega
   simp[h1,this]
  have h1' : ¬(x.toNat:Int)<y.toNat:=by have : ¬x.toNat<y.toNat:=h1;omega
  by_cases h2:y<x
  .
   have:(y.toNat:Int)<x.toNat:=by have:y.toNat<x.toNat:=h2;omega
   simp[h1,h2,h1',this]
  have h2' : ¬(y.toNat:Int)<x.toNat:=by have : ¬y.toNat<x.toNat:=h2;omega
  simp[h1,h2,h1',h2',ih]
def Kr:Cm (Go.Lib.compareBytes):=by
 have:Go.Lib.compareBytes=lex Gz:=by funext a b;exact Ox a b
 rw[this];exact Xe cm_u
def OE{a b:Str}(h:Go.Lib.compareBytes a b=0):a=b:=by
 rw[Ox]at h;exact MM (λ_ _=>ZjR) a b h
theorem IR : ∀xs ys:List Str,wP xs ys=lex Go.Lib.compareBytes xs ys
 | [],[]=>rfl
 | [],_::_=>rfl
 | _::_,[]=>rfl
 | x::xs,y::ys=>by
  unfold wP lex;have ih:=IR xs ys;rw[GD,lN,ih]
  by_cases h1:Go.Op.bytesLess x y=true
  . simp[h1]
  by_cases h2:x=y
  . subst h2;simp[GN]
  have h3:(x==y)=false:=by simpa using h2
  simp[h1,h3]
def xz:Cm fZ:=by
 have:fZ=λa b=>lex Go.Lib.compareBytes (ik a) (ik b):=by funext a b;exact IR _ _
 rw[this];exact yL (Xe Kr) ik
theorem Fe{a b:Str}(h:fZ a b=0):a=b:=by
 unfold fZ at h
 rw[IR]at h
 exact LM (MM (λ_ _=>OE) _ _ h)
section
variable {α : Type} (c : α -> α -> Int) (m : α -> α -> α)
structure Un:Prop where
 left : ∀x y,c x y=0->c (m x y) x=0
 comm : ∀x y,c x y=0->m x y=m y x
 swap : ∀x y z,c x y=0->c x z=0->m (m x y) z=m (m x z) y
variable {c m}
def Sorted(c:α->α->Int)(l:List α):Prop:=l.Pairwise λx y=>c x y<=0
def jT(c:α->α->Int)(l:List α):Prop:=l.Pairwise λx y=>c x y<0
end
end Go.Cmp
namespace Go.Rec
open Go.DL Go.Str Go.Cmp
def gL(k:Nat):wo:=match k with
 | 1=>⟨0,1,1000000,0,0,false,false,true⟩
 | 2=>⟨1,0,0,0,0,false,false,false⟩
 | 3=>⟨1,0,0,0,0,false,true,false⟩
 | 4=>⟨0,0,65535,0,100000,false,true,false⟩
 | 5=>⟨3,0,0,0,0,false,false,true⟩
 | 6=>⟨0,1,1000000,1,3,false,false,false⟩
 | 7=>⟨0,1,1000000,1,3,false,false,false⟩
 | 8=>⟨2,2,510,0,0,true,false,true⟩
 | _=>⟨0,0,0,0,0,false,false,false⟩
def xH(k:Int)(t:Str):Bool:=if k=1 then az t && !jE t else if k=2 then az t else if k=3 then vT t else t==[]
def jS(r:wo)(d:Dat):Bool:=aW d.n r.n0 r.n1&&aW d.m r.m0 r.m1 && !(r.even&&d.n % 2 != 0)&&xH r.text d.t
def ow(k:Int)(d:Dat):Bool :=
 if k=1 then d.t==[]&&aW d.n 1 1000000&&d.m==0
 else if k=2\/k=3 then az d.t && !jE d.t&&d.n==0&&d.m==0
 else if k=4 then d.t==[]&&aW d.n 0 65535&&aW d.m 0 100000
 else if k=5 then vT d.t&&d.n==0&&d.m==0
 else if k=6\/k=7 then d.t==[]&&aW d.n 1 1000000&&aW d.m 1 3
 else if k=8 then az d.t&&aW d.n 2 510&&d.n % 2==0&&d.m==0
 else false
theorem Zhk(n:Int):aW n 0 0=(n==0):=by
 unfold aW
 rw[YL,XU,XW,XW,YB]
 omega
theorem jM{n a b:Int}:aW n a b=true↔a<=n/\n<=b:=by
 unfold aW
 rw[XU,XW,XW]
def kinds{k:Int}(h:aW k 1 8=true):k=1\/k=2\/k=3\/k=4\/k=5\/k=6\/k=7\/k=8:=by
 have:=jM.1 h
 omega
theorem WG{k:Int}(h:aW k 1 8=true)(d:Dat):ow k d=jS (gL k.toNat) d:=by
 rw[YL]
 rcases kinds h with h|h|h|h|h|h|h|h<;>subst h<;>simp[ow,jS,gL,xH,Zhk]<;>constructor<;>intro q<;>simp_all
def AO(k:Int):Bool:=decide (k=3)||decide (k=4)
theorem QC{k:Int}(h:aW k 1 8=true):AO k=(gL k.toNat).single:=by
 rcases kinds h with h|h|h|h|h|h|h|h<;>subst h<;>rfl
theorem ZaD{k:Int}(h:aW k 1 8=true):(k != 1&&k != 5&&k != 8) = !(gL k.toNat).wild:=by
 rcases kinds h with h|h|h|h|h|h|h|h<;>subst h<;>rfl
def dZ(a b:Dat):Int:=pW (Go.Lib.compareBytes a.t b.t) (pW (Go.Cmp.cmpI a.n b.n) (Go.Cmp.cmpI a.m b.m))
def tY:Cm dZ:=Oz (yL Kr Dat.t) (Oz (yL Kq Dat.n) (yL Kq Dat.m))
def WH{a b:Dat}(h:dZ a b=0):a=b:=by
 unfold dZ at h
 rw[lN]at h
 split at h
 .
  rename_i h1
  rw[lN]at h
  split at h
  .
   rename_i h2
   have e1:=OE h1;have e2:=GA.1 h2;have e3:=GA.1 h
   cases a;cases b;simp only at e1 e2 e3;subst e1;subst e2;subst e3;rfl
  exact absurd h ‹_›
 exact absurd h ‹_›
theorem MN(a b:Dat):less a b=decide (dZ a b<0):=by
 unfold less dZ vH
 rw[lN,lN,GD]
 by_cases h1:a.t=b.t
 .
  rw[h1]
  simp[GN]
  by_cases h2:a.n=b.n
  .
   rw[h2];simp[Go.Cmp.cmpI]
   by_cases h3:a.m<b.m
   . simp[h3]
   simp[h3];split<;>omega
  simp[h2,Go.Cmp.cmpI]
  by_cases h3:a.n<b.n
  . simp[h3]
  have:b.n<a.n:=by omega
  simp[h3,this]
 have h2:(a.t==b.t)=false:=by simpa using h1
 simp[h1,h2]
 cases h3:Go.Op.bytesLess a.t b.t<;>simp
theorem ZjS(a b:Str):uR a b=Go.Lib.compareBytes a b:=by
 rw[GD]
 unfold uR vH
 by_cases h:Go.Op.bytesLess a b=true
 . simp[h]
 cases h2:(a==b)<;>simp[h]
theorem Ze1(a b c:Int):vz [a,b,c] 0=if a != 0 then a else if b != 0 then b else if c != 0 then c else 0:=by
 rw[Bf,Bf _ (0+1),Bf _ (0+1+1),Bf _ (0+1+1+1)]
 simp
theorem SH(a b:Dat):vz [uR a.t b.t,cmpI a.n b.n,cmpI a.m b.m] 0=dZ a b:=by
 rw[Ze1,ZjS]
 unfold dZ pW
 show(if _ then _ else if _ then _ else if Go.Cmp.cmpI a.m b.m != 0 then Go.Cmp.cmpI a.m b.m else 0)=_
 by_cases h:Go.Cmp.cmpI a.m b.m=0
 . simp[h];rfl
 simp[h];rfl
def nX(k:Nat)(l:List Dat)(i:Nat):Bool:=jS (gL k) l[i]! && (decide (i=0)||decide (dZ l[i-1]! l[i]! < 0))
def fB(s:RSet):Bool:=az s.name&&aW s.ty 1 8&&aW s.life 0 100000&&aW s.data.length 1 8 && !((gL s.ty.toNat).single&&(s.data.length:Int) != 1) && !(jE s.name && !(gL s.ty.toNat).wild)&&aA s.data.length (nX s.ty.toNat s.data) 0
structure sI(s:RSet):Prop where
 name:az s.name=true
 ty:aW s.ty 1 8=true
 life:aW s.life 0 100000=true
 len:1<=s.data.length/\s.data.length<=8
 single:(gL s.ty.toNat).single=true->s.data.length=1
 wild:jE s.name=true->(gL s.ty.toNat).wild=true
 dat : ∀d∈s.data,jS (gL s.ty.toNat) d=true
 sorted:jT dZ s.data
theorem ZbQ{l:List Dat}(h : ∀i,0<i->i<l.length->dZ l[i-1]! l[i]! < 0):jT dZ l:=by
 induction l with
 | nil=>exact .nil
 | cons x r ih =>
  have ih:=ih λi h1 h2=>by
   have:=h (i+1) om (by simp;omega)
   obtain⟨j,rfl⟩:∃j,i=j+1:=⟨i-1,om⟩
   simpa using this
  refine YF.2 ⟨λy hy=>?_,ih⟩
  cases r with
  | nil=>cases hy
  | cons z r =>
   have hxz:dZ x z<0:=by simpa using h 1 om (by simp)
   rcases Ym.1 hy with e|e
   . subst e;exact hxz
   have:=(YF.1 ih).1 y e;exact tY.lt_le hxz om
def Zkq{l:List Dat}(h:jT dZ l){i j:Nat}(h1:i<j)(h2:j<l.length):dZ l[i]! l[j]! < 0:=by
 rw[getElem!_pos l i (by omega),getElem!_pos l j h2]
 exact ZI.1 h i j om h2 h1
theorem iM(s:RSet):fB s=true↔sI s:=by
 unfold fB
 simp only[XU,Yb,Yy,Zo,Yr,eF]
 constructor
 .
  rintro⟨⟨⟨⟨⟨⟨h1,h2⟩,h3⟩,h4⟩,h5⟩,h6⟩,h7⟩;have h4:=jM.1 h4;have hd : ∀i,i<s.data.length->jS (gL s.ty.toNat) s.data[i]! = true:=λi hi=>by
   have:=h7 i (Yi _) hi;unfold nX at this;exact(XU _ _▸this).1
  refine⟨h1,h2,h3,om,λq=>?_,λq=>?_,λd hd'=>?_,ZbQ λi hi hl=>?_⟩
  .
   rcases h5 with h|h
   . rw[q]at h;cases h
   omega
  .
   rcases h6 with h|h
   . rw[q]at h;cases h
   exact h
  . obtain⟨i,hi,rfl⟩:=Zj hd';have:=hd i hi;rwa [getElem!_pos s.data i hi]at this
  have:=h7 i (Yi _) hl;unfold nX at this;rw[XU,Yc,XW,XW]at this;exact this.2.resolve_left om
 intro ⟨h1,h2,h3,h4,h5,h6,h7,h8⟩
 refine⟨⟨⟨⟨⟨⟨h1,h2⟩,h3⟩,jM.2 om⟩,?_⟩,?_⟩,λi _ hi=>?_⟩
 .
  by_cases q:(gL s.ty.toNat).single=true
  . right;have:=h5 q;omega
  left;simpa using q
 .
  by_cases q:jE s.name=true
  . right;exact h6 q
  left;simpa using q
 unfold nX
 rw[XU,Yc,XW,XW]
 refine⟨by rw[getElem!_pos s.data i hi];exact h7 _ (YI _),?_⟩
 by_cases e:i=0
 . exact .inl e
 exact .inr (Zkq h8 om hi)
instance(s:RSet):Decidable (sI s):=decidable_of_iff _ (iM s)
def zG(a b:Str):Int:=if az a&&az b then kU a b else 0
def plC(a b:RSet):Int:=if a.name=b.name then cmpI a.ty b.ty else zG a.name b.name
def lU(a b:RSet):Int:=pW (zG a.name b.name) (cmpI a.ty b.ty)
def xQ(a b:RSet):Int:=pW (fZ a.name b.name) (cmpI a.ty b.ty)
def cm_pl:Cm xQ:=Oz (yL xz RSet.name) (yL Kq RSet.ty)
theorem ZeB{a b:RSet}:xQ a b=0↔a.name=b.name/\a.ty=b.ty:=by
 unfold xQ
 rw[lN]
 constructor
 .
  intro h
  split at h
  . exact⟨Fe ‹_›,GA.1 h⟩
  exact absurd h ‹_›
 rintro⟨h1,h2⟩
 rw[h1,h2,X3 (xz.self _)]
 exact GA.2 rfl
theorem plC_c{a b:RSet}(ha:az a.name=true)(hb:az b.name=true):plC a b=xQ a b:=by
 unfold plC xQ zG
 rw[ha,hb,lN]
 by_cases h:a.name=b.name
 . rw[X3 h,h,X3 (xz.self _)]
 rw[XV h,XV (λe=>h (Fe e)),Mt];rfl
theorem RI{a b:RSet}(ha:az a.name=true)(hb:az b.name=true):lU a b=xQ a b:=by
 unfold lU xQ zG
 rw[ha,hb,Mt];rfl
def uN(n:Int):Nat:=(n % 18446744073709551616).toNat
def gY(u sh:Nat):UInt8:=UInt8.ofNat (u / 2^sh)
def cO(n:Int):Str:=[gY (uN n) 56,gY (uN n) 48,gY (uN n) 40,gY (uN n) 32,gY (uN n) 24,gY (uN n) 16,gY (uN n) 8,gY (uN n) 0]
theorem jb(n:Int):(cO n).length=8:=rfl
def y5(n:Int):uN n<18446744073709551616:=by unfold uN;omega
def gK(n:Nat)(c:UInt8):Nat:=(n*256+c.toNat) % 18446744073709551616
def fV(l:Str):Nat:=l.foldl gK 0
def sN(n:Nat):Int:=IntKind.i64.wrap (n:Int)
def numOf(l:Str):Int:=sN (fV l)
theorem Ky(u sh:Nat):(gY u sh).toNat=u / 2^sh % 256:=by simp[gY]
theorem xK(u s:Nat)(h:u<18446744073709551616):gK (u / 2^(s+8)) (gY u s)=u / 2^s:=by
 unfold gK
 rw[Ky]
 have e:u / 2^(s+8)=u / 2^s / 256:=by rw[Nat.pow_add,<-Nat.div_div_eq_div_mul]
 have l:u / 2^s<=u:=Nat.div_le_self _ _
 rw[e]
 omega
theorem Zfi(n:Int):fV (cO n)=uN n:=by
 have h:=y5 n
 unfold cO
 generalize uN n=u at h
 have a7:gK 0 (gY u 56)=u / 2^56:=by
  have:=xK u 56 h;rwa [Nat.div_eq_of_lt (show u<2^(56+8)from h)]at this
 have a6:gK (u / 2^56) (gY u 48)=u / 2^48:=xK u 48 h
 have a5:gK (u / 2^48) (gY u 40)=u / 2^40:=xK u 40 h
 have a4:gK (u / 2^40) (gY u 32)=u / 2^32:=xK u 32 h
 have a3:gK (u / 2^32) (gY u 24)=u / 2^24:=xK u 24 h
 have a2:gK (u / 2^24) (gY u 16)=u / 2^16:=xK u 16 h
 have a1:gK (u / 2^16) (gY u 8)=u / 2^8:=xK u 8 h
 have a0:gK (u / 2^8) (gY u 0)=u / 2^0:=xK u 0 h
 simp only[fV,YH,ZA]
 rw[a7,a6,a5,a4,a3,a2,a1,a0]
 simp
theorem Tc : ∀l:Str,fV l<18446744073709551616:=by
 intro l
 unfold fV
 rcases List.eq_nil_or_concat l with e|⟨p,z,e⟩
 . subst e;decide
 rw[e,List.concat_eq_append,Zh,YH,ZA]
 unfold gK
 omega
theorem uN_sN{u:Nat}(h:u<18446744073709551616):uN (sN u)=u:=by
 unfold uN sN
 rw[IntKind.wrap_i64]
 omega
theorem Zkn{l:Str}(h:l.length=8):cO (numOf l)=l:=by
 unfold numOf cO
 rw[uN_sN (Tc l)]
 match l,h with
 | [c0,c1,c2,c3,c4,c5,c6,c7],_ =>
  have h0:=c0.toNat_lt;have h1:=c1.toNat_lt;have h2:=c2.toNat_lt;have h3:=c3.toNat_lt;have h4:=c4.toNat_lt;have h5:=c5.toNat_lt;have h6:=c6.toNat_lt;have h7:=c7.toNat_lt;have e:fV [c0,c1,c2,c3,c4,c5,c6,c7]=((((((c0.toNat*256+c1.toNat)*256+c2.toNat)*256+c3.toNat)*256+c4.toNat)*256+c5.toNat)*256+c6.toNat)*256+c7.toNat:=by
   simp only[fV,YH,ZA,gK];omega
  have k : ∀(s:Nat)(c:UInt8),fV [c0,c1,c2,c3,c4,c5,c6,c7] / 2^s % 256=c.toNat->gY (fV [c0,c1,c2,c3,c4,c5,c6,c7]) s=c:=λs c q=>ZV.1 (by rw[Ky];exact q)
  rw[k 56 c0 (by rw[e];omega),k 48 c1 (by rw[e];omega),k 40 c2 (by rw[e];omega),k 32 c3 (by rw[e];omega),k 24 c4 (by rw[e];omega),k 16 c5 (by rw[e];omega),k 8 c6 (by rw[e];omega),k 0 c7 (by rw[e];omega)]
theorem AV{n:Int}(h : -9223372036854775808<=n/\n<=9223372036854775807):sN (uN n)=n:=by
 unfold sN uN
 rw[IntKind.wrap_i64]
 omega
theorem Zfk{n:Int}(h : -9223372036854775808<=n/\n<=9223372036854775807):numOf (cO n)=n:=by
 unfold numOf;rw[Zfi,AV h]
def jK(n:Nat):UInt8:=UInt8.ofNat n
def bP(t:Str):Str:=jK t.length::t
def kN(d:Dat):Str:=bP d.t++cO d.n++cO d.m
def ig(s:RSet):Str:=bP s.name++cO s.ty++cO s.life++jK s.data.length::s.data.flatMap kN
abbrev RS:=Str×Bool
def bT(n:Int)(st:RS):Str×RS:=if st.2||decide ((st.1.length:Int)<n)then([],(st.1,true))else(st.1.take n.toNat,(st.1.drop n.toNat,false))
def dS(st:RS):Nat×RS:=(if(bT 1 st).1.length=1 then((bT 1 st).1.getD 0 0).toNat else 0,(bT 1 st).2)
def bL(st:RS):Str×RS:=bT (dS st).1 (dS st).2
def aT(st:RS):Int×RS:=(numOf (bT 8 st).1,(bT 8 st).2)
def iX(st:RS):Dat×RS:=(⟨(bL st).1,(aT (bL st).2).1,(aT (aT (bL st).2).2).1⟩,(aT (aT (bL st).2).2).2)
def je:Nat->List Dat->RS->List Dat×RS
 | 0,out,st=>(out,st)
 | k+1,out,st=>if(iX st).2.2 then(out,(iX st).2)else je k (out++[(iX st).1]) (iX st).2
def oz(st:RS):RSet×RS :=
 let a:=bL st
 let b:=aT a.2
 let c:=aT b.2
 let n:=dS c.2
 let d:=je n.1 [] n.2
 (⟨a.1,b.1,c.1,d.1⟩,d.2)
def Tk:RSet:=⟨[],0,0,[]⟩
def iV(x:Str):RSet×Int:=if(oz (x,false)).2.2||decide (0<(oz (x,false)).2.1.length) || !fB (oz (x,false)).1 then(Tk,10)else((oz (x,false)).1,0)
theorem take_ok{st:RS}{n:Nat}(h1:st.2=false)(h2:n<=st.1.length):bT n st=(st.1.take n,(st.1.drop n,false)):=by
 unfold bT
 rw[h1,Bool.false_or,Y8 (by omega)]
 rfl
theorem wB{st:RS}{n:Int}(h:st.2=true\/(st.1.length:Int)<n):bT n st=([],(st.1,true)):=by
 unfold bT
 have:(st.2||decide ((st.1.length:Int)<n))=true:=by rw[Yc,XW];exact h
 rw[this];rfl
def K7{n:Int}{s:RS}(h:s.2=true):(bT n s).2.2=true:=by rw[wB (.inl h)]
theorem Mq{s:RS}(h:s.2=true):(aT s).2.2=true:=K7 h
theorem WX{s:RS}(h:s.2=true):(dS s).2.2=true:=K7 h
def ZbC{s:RS}(h:s.2=true):(bL s).2.2=true:=K7 (WX h)
theorem IV{s:RS}(h:(aT s).2.2=false):s.2=false:=by
 cases q:s.2 with
 | false=>rfl
 | true=>rw[Mq q]at h;cases h
theorem Ze8{s:RS}(h:(dS s).2.2=false):s.2=false:=by
 cases q:s.2 with
 | false=>rfl
 | true=>rw[WX q]at h;cases h
theorem Zjv : ∀(k:Nat)(out:List Dat)(s:RS),s.2=true->(je k out s).2.2=true
 | 0,_,_,h=>h
 | k+1,out,s,h=>by
  unfold je;have:(iX s).2.2=true:=Mq (Mq (ZbC h));rw[X3 this];exact this
def i64(n:Int):Prop:=-9223372036854775808<=n/\n<=9223372036854775807
structure Cv(d:Dat):Prop where
 t:d.t.length<=255
 n:i64 d.n
 m:i64 d.m
structure O1(s:RSet):Prop where
 name:s.name.length<=255
 ty:i64 s.ty
 life:i64 s.life
 len:s.data.length<=255
 dat : ∀d∈s.data,Cv d
def Zfj(l:Str):i64 (numOf l):=by
 unfold i64 numOf sN
 rw[IntKind.wrap_i64]
 omega
theorem MP{n:Nat}(h:n<=255):(jK n).toNat=n:=by
 unfold jK
 simp
 omega
theorem Ud(c:UInt8):jK c.toNat=c:=by
 apply ZV.1
 rw[MP (by have:=c.toNat_lt;omega)]
theorem count_cons(c:UInt8)(r:Str):dS (c::r,false)=(c.toNat,(r,false)):=by
 have e:=take_ok (st:=(c::r,false)) (n:=1) rfl (by simp)
 rw[show((1:Nat):Int)=1 from rfl]at e
 unfold dS
 rw[e]
 rfl
theorem P9{t more:Str}(h:t.length<=255):bL (bP t++more,false)=(t,(more,false)):=by
 unfold bL bP
 rw[XY,count_cons]
 show bT ((jK t.length).toNat:Nat) (t++more,false)=_
 rw[MP h,take_ok rfl (by simp)]
 simp
theorem IZ{n:Int}{more:Str}(h:i64 n):aT (cO n++more,false)=(n,(more,false)):=by
 have e:=take_ok (st:=(cO n++more,false)) (n:=8) rfl (by simp[jb])
 rw[show((8:Nat):Int)=8 from rfl]at e
 unfold aT
 rw[e]
 show(numOf ((cO n++more).take 8),((cO n++more).drop 8,false))=_
 rw[List.take_left' (jb n),List.drop_left' (jb n),Zfk h]
theorem ZjA{d:Dat}{more:Str}(h:Cv d):iX (kN d++more,false)=(d,(more,false)):=by
 unfold iX kN
 rw[Yu,Yu,P9 h.t,IZ h.n,IZ h.m]
theorem WB : ∀(l out:List Dat)(more:Str),(∀d∈l,Cv d)->je l.length out (l.flatMap kN++more,false)=(out++l,(more,false))
 | [],out,more,_=>by simp[je]
 | d::l,out,more,h=>by
  have e:((d::l).flatMap kN++more)=kN d++(l.flatMap kN++more):=by simp
  rw[e,YS,je,ZjA (h d (by simp))]
  show(if false=true then _ else je l.length (out++[d]) (l.flatMap kN++more,false))=_
  rw[XV (by simp),WB l _ more λx hx=>h x (by simp[hx])]
  simp
def ZcR{s:RSet}{more:Str}(h:O1 s):oz (ig s++more,false)=(s,(more,false)):=by
 unfold oz ig
 have e:bP s.name++cO s.ty++cO s.life++jK s.data.length::s.data.flatMap kN++more=bP s.name++(cO s.ty++(cO s.life++(jK s.data.length::(s.data.flatMap kN++more)))):=by simp
 rw[e]
 simp only[P9 h.name,IZ h.ty,IZ h.life,count_cons,MP h.len,WB s.data [] more h.dat]
 rfl
def Ht{n:Nat}{s:RS}(h:(bT n s).2.2=false):s.2=false/\n<=s.1.length:=by
 by_cases q:s.2=true\/(s.1.length:Int)<n
 . rw[wB q]at h;cases h
 have : ¬s.2=true /\ ¬(s.1.length:Int)<n:=not_or.1 q
 exact⟨by simpa using this.1,om⟩
theorem WV{s:RS}(h:(dS s).2.2=false):∃c r,s=(c::r,false)/\dS s=(c.toNat,(r,false)):=by
 obtain⟨h1,h2⟩:=Ht (n:=1) (s:=s) h
 obtain⟨l,b⟩:=s
 simp only at h1 h2
 subst h1
 cases l with
 | nil=>simp at h2
 | cons c r=>exact⟨c,r,rfl,count_cons c r⟩
def P8{s:RS}(h:(bL s).2.2=false):s.1=bP (bL s).1++(bL s).2.1/\(bL s).1.length<=255:=by
 have hc:(dS s).2.2=false:=(Ht (n:=(dS s).1) (s:=(dS s).2) h).1
 obtain⟨c,r,rfl,e⟩:=WV hc
 have hl:=(Ht (n:=(dS (c::r,false)).1) (s:=(dS (c::r,false)).2) h).2
 unfold bL
 rw[e]at hl ⊢
 have hl:c.toNat<=r.length:=hl
 have e2:bT (((c.toNat,(r,false)):Nat×RS).1:Nat) ((c.toNat,(r,false)):Nat×RS).2=(r.take c.toNat,(r.drop c.toNat,false)):=take_ok (st:=(r,false)) rfl hl
 rw[e2]
 have hcl:=c.toNat_lt
 refine⟨?_,by show(r.take c.toNat).length<=255;simp;omega⟩
 show c::r=jK (r.take c.toNat).length::r.take c.toNat++r.drop c.toNat
 have:(r.take c.toNat).length=c.toNat:=by simp;omega
 rw[this,Ud]
 simp
def IY{s:RS}(h:(aT s).2.2=false):s.1=cO (aT s).1++(aT s).2.1/\i64 (aT s).1:=by
 obtain⟨h1,h2⟩:=Ht (n:=8) (s:=s) h
 have e:=take_ok (n:=8) h1 h2
 rw[show((8:Nat):Int)=8 from rfl]at e
 unfold aT
 rw[e]
 refine⟨?_,Zfj _⟩
 show s.1=cO (numOf (s.1.take 8))++s.1.drop 8
 rw[Zkn (by simp;omega),Y7]
def Zjz{s:RS}(h:(iX s).2.2=false):s.1=kN (iX s).1++(iX s).2.1/\Cv (iX s).1:=by
 have q1:(aT (bL s).2).2.2=false:=IV h
 have q2:=IV q1
 obtain⟨a1,a2⟩:=P8 q2
 obtain⟨b1,b2⟩:=IY q1
 obtain⟨c1,c2⟩:=IY (s:=(aT (bL s).2).2) h
 refine⟨?_,⟨a2,b2,c2⟩⟩
 unfold iX kN
 rw[a1,b1,c1]
 simp
theorem WA : ∀(k:Nat)(out:List Dat)(s:RS),s.2=false->(je k out s).2.2=false -> ∃l,(je k out s).1=out++l/\l.length=k/\s.1=l.flatMap kN++(je k out s).2.1 /\ ∀d∈l,Cv d
 | 0,out,s,_,_=>⟨[],by simp[je]⟩
 | k+1,out,s,hs,h=>by
  unfold je at h ⊢
  cases q:(iX s).2.2 with
  | true=>rw[q,X3 rfl,q]at h;cases h
  | false =>
   rw[q,XV (by simp)]at h
   rw[XV (by simp)]
   obtain⟨a1,a2⟩:=Zjz q;obtain⟨l,b1,b2,b3,b4⟩:=WA k _ _ q h;refine⟨(iX s).1::l,by rw[b1];simp,by simp[b2],by(rw[a1];(conv=>lhs;rw[b3]);simp),λd hd=>?_⟩
   rcases Ym.1 hd with e|e
   . subst e;exact a2
   exact b4 d e
theorem ZcQ{s:RS}(h:(oz s).2.2=false):s.1=ig (oz s).1++(oz s).2.1/\O1 (oz s).1:=by
 have hd:(je (dS (aT (aT (bL s).2).2).2).1 [] (dS (aT (aT (bL s).2).2).2).2).2.2=false:=h
 have q4:(dS (aT (aT (bL s).2).2).2).2.2=false:=by
  cases q:(dS (aT (aT (bL s).2).2).2).2.2 with
  | false=>rfl
  | true=>rw[Zjv _ _ _ q]at hd;cases hd
 have q3:=Ze8 q4
 have q2:=IV q3
 have q1:=IV q2
 obtain⟨a1,a2⟩:=P8 q1
 obtain⟨b1,b2⟩:=IY q2
 obtain⟨c1,c2⟩:=IY q3
 obtain⟨c,r,d1,d2⟩:=WV q4
 obtain⟨l,e1,e2,e3,e4⟩:=WA _ _ _ q4 hd
 have hcl:=c.toNat_lt
 have hl:l.length=c.toNat:=by rw[e2,d2]
 have hs:(oz s).1=⟨(bL s).1,(aT (bL s).2).1,(aT (aT (bL s).2).2).1,l⟩:=by
  show RSet.mk _ _ _ _=_
  rw[e1];rfl
 rw[hs]
 refine⟨?_,⟨a2,b2,c2,by show l.length<=255;omega,e4⟩⟩
 have e5:(oz s).2.1=(je (dS (aT (aT (bL s).2).2).2).1 [] (dS (aT (aT (bL s).2).2).2).2).2.1:=rfl
 rw[e5,a1]
 conv=>lhs;rw[b1,c1,d1]
 have e6:r=(dS (aT (aT (bL s).2).2).2).2.1:=by rw[d2]
 show bP _++(cO _++(cO _++c::r))=(bP _++cO _++cO _++jK l.length::l.flatMap kN)++_
 rw[hl,Ud,e6]
 conv=>lhs;rw[e3]
 simp
def ZbE{k:Int}{t:Str}(h:xH k t=true):t.length<=60:=by
 unfold xH at h
 split at h
 . rw[XU]at h;exact gM h.1
 split at h
 . exact gM h
 split at h
 .
  unfold vT at h
  split at h
  . cases h
  split at h
  . cases h
  omega
 rw[YB]at h;subst h;simp
def Om{k:Int}(hk:aW k 1 8=true){d:Dat}(h:jS (gL k.toNat) d=true):Cv d/\d.t.length<=60/\0<=d.n/\0<=d.m:=by
 unfold jS at h
 simp only[XU,jM]at h
 have ht:=ZbE h.2
 have hn:=h.1.1.1
 have hm:=h.1.1.2
 refine⟨⟨om,?_,?_⟩,ht,?_,?_⟩<;>(try unfold i64)<;>rcases kinds hk with e|e|e|e|e|e|e|e<;>subst e<;>simp[gL]at hn hm<;>omega
def ZcS{s:RSet}(h:sI s):O1 s:=by
 have h1:=gM h.name
 have h2:=jM.1 h.ty
 have h3:=jM.1 h.life
 refine⟨om,?_,?_,by have:=h.len;omega,λd hd=>(Om h.ty (h.dat d hd)).1⟩<;>unfold i64<;>omega
def xB(s:RSet):Str×Int:=if fB s then(ig s,0)else([],1)
theorem Zd5{s:RSet}(h:sI s):iV (ig s)=(s,0):=by
 have e:=ZcR (more:=[]) (ZcS h)
 rw[Yv]at e
 unfold iV
 rw[e]
 simp[(iM s).2 h]
def Zj4{x:Str}(h:(iV x).2=0):sI (iV x).1/\ig (iV x).1=x:=by
 unfold iV at h ⊢
 split at h
 . cases h
 rename_i q
 rw[XV q]
 simp only[Yc,not_or,XW,Yb,Bool.not_eq_false]at q
 obtain⟨⟨q1,q2⟩,q3⟩:=q
 have q1:(oz (x,false)).2.2=false:=by simpa using q1
 obtain⟨h1,_⟩:=ZcQ q1
 have h2:(oz (x,false)).2.1=[]:=Ya om
 rw[h2,Yv]at h1
 exact⟨(iM _).1 q3,h1.symm⟩
def ve(a b:RSet):Bool:=decide (a=b)
def Vg{l:List Int}{n:Nat}(h:n<l.length):(l.map iR).getD n []=[.i l[n]!]:=by
 simp[List.getD,h,getElem!_pos,iR]
theorem pG{l:List Dat}{n:Nat}(h:n<l.length):(l.map Dat.d).getD n []=l[n]!.d:=by
 simp[List.getD,h,getElem!_pos]
theorem getD_set{l:List RSet}{n:Nat}(h:n<l.length):(l.map RSet.d).getD n []=l[n]!.d:=by
 simp[List.getD,h,getElem!_pos]
@[go_sem]theorem nrr_iR{l:List Int}:bq (l.map iR)=true:=by
 induction l with
 | nil=>rfl
 | cons x l ih=>simp only[X8,bq,ih];rfl
@[go_sem]theorem oU{l:List Dat}:bq (l.map Dat.d)=true:=by
 induction l with
 | nil=>rfl
 | cons x l ih=>simp only[X8,bq,ih];rfl
@[go_sem]theorem ui{l:List Dat}:eG (l.map Dat.d)=l.map Dat.d:=by
 induction l with
 | nil=>rfl
 | cons x l ih=>simp only[X8,eG,ih];rfl
theorem Lu{s:RSet}(c1:(az s.name=true/\aW s.ty 1 8=true)/\aW s.life 0 100000=true)(c2:aW s.data.length 1 8=true)(c3:((gL s.ty.toNat).single=false\/(s.data.length:Int)=1)/\(jE s.name=false\/(gL s.ty.toNat).wild=true)):fB s=aA s.data.length (nX s.ty.toNat s.data) 0:=by
 obtain⟨h1,h2⟩:=c3
 unfold fB
 rw[c2,c1.1.1,c1.1.2,c1.2]
 rcases h1 with h1|h1<;>rcases h2 with h2|h2<;>simp[h1,h2]
theorem WC{l:List Dat}{t k:Nat}(h:jS (gL t) l[k]! = true/\(¬(0:Int)<k \/ ¬0<=dZ l[k-1]! l[k]!)):nX t l k=true:=by
 unfold nX
 rw[XU,Yc,XW,XW]
 exact⟨h.1,h.2.imp (λq=>by omega) λq=>by omega⟩
theorem WE{l:List Dat}{t k:Nat}(h:jS (gL t) l[k]! = false\/((0:Int)<k/\0<=dZ l[k-1]! l[k]!)):nX t l k=false:=by
 unfold nX
 rw[Yy,Yd,X4,X4]
 exact h.imp id λq=>⟨om,om⟩
theorem Po{k:Int}(w:Bool)(h:aW k 1 8=true):(((w&&(k != 1))&&(k != 5))&&(k != 8))=(w && !(gL k.toNat).wild):=by
 rw[<-ZaD h,ZZ,ZZ,ZZ]
theorem QV{s:RSet}(c1:(((az s.name=true/\aW s.ty 1 8=true)/\aW s.life 0 100000=true)/\aW s.data.length 1 8=true)/\(AO s.ty=false \/ ¬(1:Int)<s.data.length))(c2:jE s.name=false\/(gL s.ty.toNat).wild=true):fB s=aA s.data.length (nX s.ty.toNat s.data) 0:=by
 obtain⟨⟨⟨⟨h1,h2⟩,h3⟩,h4⟩,h5⟩:=c1
 refine Lu ⟨⟨h1,h2⟩,h3⟩ h4 ⟨?_,c2⟩
 rw[QC h2]at h5
 have:=jM.1 h4
 exact h5.imp id λq=>by omega
theorem ZcP{s:RSet}(c1:(((az s.name=false\/aW s.ty 1 8=false)\/aW s.life 0 100000=false)\/aW s.data.length 1 8=false)\/(AO s.ty=true/\(1:Int)<s.data.length)):fB s=false:=by
 cases q:fB s with
 | false=>rfl
 | true =>
  have h:=(iM s).1 q
  rcases c1 with(((c1|c1)|c1)|c1)|⟨c1,c2⟩
  . rw[h.name]at c1;cases c1
  . rw[h.ty]at c1;cases c1
  . rw[h.life]at c1;cases c1
  .
   have:=jM.2 (show(1:Int)<=s.data.length/\(s.data.length:Int)<=8 by have:=h.len;omega)
   rw[this]at c1;cases c1
  rw[QC h.ty]at c1;have:=h.single c1;omega
theorem ZcO{s:RSet}(c:jE s.name=true/\(gL s.ty.toNat).wild=false):fB s=false:=by
 cases q:fB s with
 | false=>rfl
 | true =>
  have h:=((iM s).1 q).wild c.1;rw[c.2]at h;cases h
theorem Zjw{l:List Dat}{t:Int}{k:Nat}(ht:aW t 1 8=true)(h:ow t l[k]! = true/\(¬(0:Int)<k\/less l[k-1]! l[k]! = true)):nX t.toNat l k=true:=by
 rw[WG ht,MN]at h
 exact WC ⟨h.1,h.2.imp id λq=>by have:=YN q;omega⟩
theorem Zjy{l:List Dat}{t:Int}{k:Nat}(ht:aW t 1 8=true)(h:ow t l[k]! = false\/((0:Int)<k/\less l[k-1]! l[k]! = false)):nX t.toNat l k=false:=by
 rw[WG ht,MN]at h
 exact WE (h.imp id λq=>⟨q.1,by have:=of_decide_eq_false q.2;omega⟩)
theorem Zdu{a b:RSet}(h1:((a.name=b.name/\a.ty=b.ty)/\a.life=b.life)/\(a.data.length:Int)=b.data.length)(h2 : ∀i,i<a.data.length->a.data[i]! = b.data[i]!):ve a b=true:=by
 unfold ve
 rw[XW]
 obtain⟨an,at',al,ad⟩:=a
 obtain⟨bn,bt,bl,bd⟩:=b
 simp only at h1 h2
 obtain⟨⟨⟨rfl,rfl⟩,rfl⟩,h3⟩:=h1
 congr 1
 refine List.ext_getElem om λi hi hj=>?_
 have:=h2 i hi
 rwa [getElem!_pos ad i hi,getElem!_pos bd i hj]at this
theorem Zdv{a b:RSet}(h:((a.name≠b.name\/a.ty≠b.ty)\/a.life≠b.life)\/(a.data.length:Int)≠b.data.length):ve a b=false:=by
 unfold ve
 rw[X4]
 rintro rfl
 simp at h
theorem Zdw{a b:RSet}{k:Nat}(h:a.data[k]! ≠ b.data[k]!):ve a b=false:=by
 unfold ve
 rw[X4]
 rintro rfl
 exact h rfl
def Zjx{x y:Dat}(h:(!(x.t==y.t&&(x.n==y.n&&x.m==y.m)))=false):x=y:=by
 obtain⟨a,b,c⟩:=x
 obtain⟨d,e,f⟩:=y
 simp at h
 simp[h]
theorem ZjB{x y:Dat}(h:(!(x.t==y.t&&(x.n==y.n&&x.m==y.m)))=true):x≠y:=by
 rintro rfl
 simp at h
@[go_sem]theorem Zll{t:Str}{h:H}:aC (.v (.string (bs t))) h=t.map bD:=by
 simp only[aC,uf];rfl
@[go_sem]theorem ZkR(n:Nat):IntKind.u8.wrap (n:Int)=((jK n).toNat:Int):=by
 rw[IntKind.wrap_u8]
 simp[jK]
def Rc(k:Nat):(gL k).even=true->0<=(gL k).n0:=by
 unfold gL
 split<;>simp
end Go.Rec
namespace Go.Cmp
variable {α : Type} [Inhabited α] {c : α -> α -> Int}

end Go.Cmp
namespace Go.Rec
open Go.DL Go.Str Go.Cmp

end Go.Rec
namespace Go.Zon
open Go.DL Go.Str Go.Rec
structure RSig where
 zone:Str
 key:Int
 alg:Int
 frm:Int
 unt:Int
 sum:Int
 deriving Inhabited,DecidableEq
structure Sgd where
 set:RSet
 sigs:List RSig
 deriving Inhabited,DecidableEq
structure ak where
 name:Str
 ty:Int
 deriving Inhabited,DecidableEq
structure Zon where
 apex:Str
 sets:List Sgd
 deriving Inhabited,DecidableEq
def Sgd.q(s:Sgd):ak:=⟨s.set.name,s.set.ty⟩
def RSig.d(x:RSig):List D:=[.v (.string (bs x.zone)),.i x.key,.i x.alg,.i x.frm,.i x.unt,.v (.int .u64 x.sum)]
def RSig.of:List D->RSig
 | [.v (.string s),.v (.int _ a),.v (.int _ b),.v (.int _ c),.v (.int _ d),.v (.int _ e)]=>⟨s.data.toList,a,b,c,d,e⟩
 | _=>default
def Sgd.d(x:Sgd):List D:=[.v (.string (bs x.set.name)),.i x.set.ty,.i x.set.life,.list false (x.set.data.map Dat.d),.list false (x.sigs.map RSig.d)]
def Sgd.of:List D->Sgd
 | [.v (.string s),.v (.int _ t),.v (.int _ l),.list _ rows,.list _ sigs]=>⟨⟨s.data.toList,t,l,rows.map Dat.of⟩,sigs.map RSig.of⟩
 | _=>default
def ak.d(x:ak):List D:=[.v (.string (bs x.name)),.i x.ty]
def ak.of:List D->ak
 | [.v (.string s),.v (.int _ t)]=>⟨s.data.toList,t⟩
 | _=>default
def Zon.d(x:Zon):List D:=[.v (.string (bs x.apex)),.list false (x.sets.map Sgd.d)]
def Zon.of:List D->Zon
 | [.v (.string s),.list _ rows]=>⟨s.data.toList,rows.map Sgd.of⟩
 | _=>default
structure Lay where
 z:Zon
 b:List Str
 deriving Inhabited,DecidableEq
def Lay.d(x:Lay):List D:=[.v (.string (bs x.z.apex)),.list false (x.z.sets.map Sgd.d),.list false (x.b.map sR)]
def Lay.of:List D->Lay
 | [.v (.string s),.list _ rows,.list _ b]=>⟨⟨s.data.toList,rows.map Sgd.of⟩,b.map Mm⟩
 | _=>default
def dE:D->Sgd:=sG Sgd.of default
def fA:D->List Sgd:=wX Sgd.of
def sU:D->List RSig:=wX RSig.of
def lV:D->ak:=sG ak.of default
def IE:D->List ak:=wX ak.of
def aO:D->Zon:=sG Zon.of default
def yf:D->Lay:=sG Lay.of default
attribute [go_sem] RSig.d Sgd.d ak.d Zon.d Lay.d
theorem SX(x:RSig):RSig.of x.d=x:=by simp[RSig.of,RSig.d,uf]
theorem Da(x:Sgd):Sgd.of x.d=x:=by simp[Sgd.of,Sgd.d,uf,kW E5,kW SX]
theorem Mk(x:ak):ak.of x.d=x:=by simp[ak.of,ak.d,uf]
@[go_sem]theorem Zli{f:Bool}{l:List Sgd}:fA (.list f (l.map Sgd.d))=l:=kW Da l
@[go_sem]theorem Zlh{f:Bool}:fA (.list f [])=[]:=rfl
@[go_sem]theorem Zle{f:Bool}{l:List RSig}:sU (.list f (l.map RSig.d))=l:=kW SX l
@[go_sem]theorem Zld{f:Bool}:sU (.list f [])=[]:=rfl
@[go_sem]theorem Zlo{f:Bool}{l:List ak}:IE (.list f (l.map ak.d))=l:=kW Mk l
def sgd1_agg{s:ByteArray}{t l:Int}{k k':IntKind}{f f':Bool}{rows sigs:List (List D)}:dE (.agg [.v (.string s),.v (.int k t),.v (.int k' l),.list f rows,.list f' sigs])=⟨⟨s.data.toList,t,l,nW (.list f rows)⟩,sU (.list f' sigs)⟩:=rfl
def qst1_agg{s:ByteArray}{t:Int}{k:IntKind}:lV (.agg [.v (.string s),.v (.int k t)])=⟨s.data.toList,t⟩:=rfl
def zon1_agg{s:ByteArray}{f:Bool}{rows:List (List D)}:aO (.agg [.v (.string s),.list f rows])=⟨s.data.toList,fA (.list f rows)⟩:=rfl
def lay1_agg{s:ByteArray}{f f':Bool}{rows b:List (List D)}:yf (.agg [.v (.string s),.list f rows,.list f' b])=⟨⟨s.data.toList,fA (.list f rows)⟩,Qe (.list f' b)⟩:=rfl
def qst_eta{x:ak}:(⟨x.name,x.ty⟩:ak)=x:=rfl
def set_eta{x:RSet}:(⟨x.name,x.ty,x.life,x.data⟩:RSet)=x:=rfl
def dat_eta{x:Dat}:(⟨x.t,x.n,x.m⟩:Dat)=x:=rfl
def sgd_eta{x:Sgd}:(⟨x.set,x.sigs⟩:Sgd)=x:=rfl
def zon_eta{x:Zon}:(⟨x.apex,x.sets⟩:Zon)=x:=rfl
def lay_eta{x:Lay}:(⟨x.z,x.b⟩:Lay)=x:=rfl
attribute[go_sem]sgd1_agg qst1_agg zon1_agg lay1_agg qst_eta set_eta dat_eta sgd_eta zon_eta lay_eta
def Nz{α:Type}{f:α->List D}{l:List α}{n:Nat}(h:l.length<=n):(l.map f).getD n []=[]:=by
 simp[List.getD,h]
def dF{l:List Sgd}{n:Nat}(h:n<l.length):(l.map Sgd.d).getD n []=[.v (.string (bs l[n]!.set.name)),.i l[n]!.set.ty,.i l[n]!.set.life,.list false (l[n]!.set.data.map Dat.d),.list false (l[n]!.sigs.map RSig.d)]:=by
 simp[List.getD,h,Sgd.d,getElem!_pos]
def vS{l:List RSig}{n:Nat}(h:n<l.length):(l.map RSig.d).getD n []=[.v (.string (bs l[n]!.zone)),.i l[n]!.key,.i l[n]!.alg,.i l[n]!.frm,.i l[n]!.unt,.v (.int .u64 l[n]!.sum)]:=by
 simp[List.getD,h,RSig.d,getElem!_pos]
def JD{l:List ak}{n:Nat}(h:n<l.length):(l.map ak.d).getD n []=[.v (.string (bs l[n]!.name)),.i l[n]!.ty]:=by
 simp[List.getD,h,ak.d,getElem!_pos]
@[go_sem]theorem E9{l:List RSig}:bq (l.map RSig.d)=true:=by
 induction l with
 | nil=>rfl
 | cons x l ih=>simp only[X8,bq,ih,RSig.d,bC,D.nr];rfl
@[go_sem]theorem En{l:List RSig}:eG (l.map RSig.d)=l.map RSig.d:=by
 induction l with
 | nil=>rfl
 | cons x l ih=>simp only[X8,eG,ih,RSig.d,wk,eB]
@[go_sem]theorem Db{l:List Sgd}:bq (l.map Sgd.d)=true:=by
 induction l with
 | nil=>rfl
 | cons x l ih=>simp only[X8,bq,ih,Sgd.d,bC,D.nr,oU,E9];rfl
@[go_sem]theorem Pi{l:List Sgd}:eG (l.map Sgd.d)=l.map Sgd.d:=by
 induction l with
 | nil=>rfl
 | cons x l ih=>simp only[X8,eG,ih,Sgd.d,wk,eB,ui,En]
@[go_sem]theorem Tg{l:List ak}:bq (l.map ak.d)=true:=by
 induction l with
 | nil=>rfl
 | cons x l ih=>simp only[X8,bq,ih,ak.d,bC,D.nr];rfl
@[go_sem]theorem Zax{l:List ak}:eG (l.map ak.d)=l.map ak.d:=by
 induction l with
 | nil=>rfl
 | cons x l ih=>simp only[X8,eG,ih,ak.d,wk,eB]
@[go_sem]theorem all_sgd{l:List Sgd}:(∀r∈l.map Sgd.d,r.length=5)=True:=by
 apply eq_true
 intro r hr
 obtain⟨x,_,rfl⟩:=Yt.1 hr
 rfl
@[go_sem]theorem all_sig{l:List RSig}:(∀r∈l.map RSig.d,r.length=6)=True:=by
 apply eq_true
 intro r hr
 obtain⟨x,_,rfl⟩:=Yt.1 hr
 rfl
@[go_sem]theorem all_qst{l:List ak}:(∀r∈l.map ak.d,r.length=2)=True:=by
 apply eq_true
 intro r hr
 obtain⟨x,_,rfl⟩:=Yt.1 hr
 rfl
def xc(s p:Str):Bool:=decide (p.length<=s.length)&&s.drop (s.length-p.length)==p
def under(s z:Str):Bool:=s==z||z==[46]||(decide (z.length<s.length)&&xc s z&&decide ((s.getD (s.length-z.length-1) 0).toNat=46))
def kC(s z:Str):Bool:=az s&&az z&&under s z
def yo(l m:List Str)(i:Nat):Bool:=l[l.length-m.length+i]! == m[i]!
def iq(s z:Str):Bool:=decide ((bF z).length<=(bF s).length)&&aA (bF z).length (yo (bF s) (bF z)) 0
def yY(s:Str):Bool:=decide (0<(bF s).length)&&(bF s)[0]! == [42]
def Sr(s:Str):(bF s).length<=s.length+1:=by
 unfold bF
 split
 . exact Yi _
 exact(Hz s).2
def qC(a b:ak):Int:=if a.name=b.name then cmpI a.ty b.ty else(if az a.name&&az b.name then kU a.name b.name else 0)
def qi(q:ak):Bool:=az q.name&&aW q.ty 1 8
def fits(t:Int)(apex:Bool):Bool:=if t=3\/t=6 then !apex else if t=4\/t=7 then apex else true
def lv(apex:Str)(l:List RSig)(i:Nat):Bool :=
 l[i]!.zone==apex&&aW l[i]!.key 1 1000000&&aW l[i]!.alg 1 3&&decide (0<=l[i]!.frm)&&decide (l[i]!.frm<=l[i]!.unt)&&decide (l[i]!.unt<=20000000) &&
 (decide (i=0)||(decide (l[i]!.frm=l[0]!.frm)&&decide (l[i]!.unt=l[0]!.unt)&&decide (l[i-1]!.key<l[i]!.key)))
def mE(l:List RSig)(apex:Str):Bool:=decide (l.length<=6)&&aA l.length (lv apex l) 0
def lw(a b:Sgd):Bool:=decide (a=b)
def sZ(a b:List Sgd):Bool:=decide (a=b)
def mG(a b:Zon):Bool:=decide (a=b)
def Ls{a b:Sgd}(h1:a.set=b.set)(h2:a.sigs=b.sigs):a=b:=by cases a;cases b;simp_all
theorem Di!{α:Type}[Inhabited α]{a b:List α}(hl:a.length=b.length)(h : ∀i,i<a.length->a[i]! = b[i]!):a=b:=by
 refine List.ext_getElem hl λi h1 h2=>?_
 have:=h i h1
 rwa [getElem!_pos a i h1,getElem!_pos b i h2]at this
theorem ib{n k:Nat}{p:Nat->Bool}(h:n<=k):aA n p k=true:=by rw[iI,XV (by omega)]
theorem eO{n k:Nat}{p:Nat->Bool}(h:k<n)(hF:p k=false):aA n p k=false:=by rw[iI,X3 h,hF];rfl
theorem bG{n k:Nat}{p:Nat->Bool}(h:k<n)(hF:p k=true):aA n p k=aA n p (k+1):=by rw[iI,X3 h,hF];rfl
def pJ(c:Nat->Int)(i j:Nat):Nat:=if i<j then(if c ((i+j) / 2)<0 then pJ c ((i+j) / 2+1) j else pJ c i ((i+j) / 2))else i
termination_by j-i
theorem Co(c:Nat->Int)(i j:Nat):pJ c i j=if i<j then(if c ((i+j) / 2)<0 then pJ c ((i+j) / 2+1) j else pJ c i ((i+j) / 2))else i:=by rw[pJ]
theorem OI(c:Nat->Int):∀(n i j:Nat),j-i<=n->i<=j->pJ c i j<=j/\i<=pJ c i j:=by
 intro n
 induction n with
 | zero=>intro i j h1 h2;rw[Co,XV (by omega)];omega
 | succ n ih =>
  intro i j h1 h2;rw[Co]
  split
  .
   split
   . have:=ih ((i+j) / 2+1) j om om;omega
   have:=ih i ((i+j) / 2) om om;omega
  omega
def bz(l:List Sgd)(q:ak):Nat:=pJ (λk=>qC l[k]!.q q) 0 l.length
def dB(l:List Sgd)(q:ak):Bool:=decide (bz l q<l.length)&&qC l[bz l q]!.q q==0
def TF{i j:Nat}(h:i+j<=9223372036854775807):IntKind.i64.wrap ((IntKind.u64.wrap ((i:Int)+j)).fdiv (2^(min 1 64)))=(((i+j) / 2:Nat):Int):=by
 have e:IntKind.u64.wrap ((i:Int)+j)=(i:Int)+j:=by rw[IntKind.wrap_u64];omega
 have e2:((2:Int)^(min 1 64))=2:=rfl
 rw[e,e2,Int.fdiv_eq_ediv_of_nonneg _ (by omega),IntKind.wrap_i64]
 omega
def vJ(m:List Str):List D:=m.flatMap λs=>[.v (.string (bs s)),.b true]
def nI(m:List Str)(n:Str):Bool:=decide (n∈m)
def wz(m:List Str)(n:Str):List Str:=if nI m n then m else m++[n]
theorem Bu(s:Str)(m:List Str):vJ (s::m) = .v (.string (bs s)) :: .b true::vJ m:=rfl
theorem UB{a b:Str}:mW (.v (.string (bs a))) (.v (.string (bs b)))=(a==b):=by simp[mW,nU,uf]
@[go_sem]theorem kvT_nil:vJ []=[]:=rfl
@[go_sem]theorem Zfl{m:List Str}:bC (vJ m)=true:=by
 induction m with
 | nil=>rfl
 | cons s m ih=>rw[Bu];simp only[bC,ih];rfl
@[go_sem]theorem wks_kvT{m:List Str}:eB (vJ m)=vJ m:=by
 induction m with
 | nil=>rfl
 | cons s m ih=>rw[Bu];simp only[eB,ih];rfl
@[go_sem]theorem kvGetD_T{m:List Str}{n:Str}:(kK (vJ m) (.v (.string (bs n)))).getD (.v (.bool false)) = .v (.bool (nI m n)):=by
 induction m with
 | nil=>rfl
 | cons s m ih =>
  rw[Bu];simp only[kK,UB]
  by_cases h:n=s
  . subst h;simp[nI]
  .
   have:(n==s)=false:=by simp[h]
   rw[this];simp only[Yp,Za,ih,nI,Ym,h,false_or]
@[go_sem]theorem kvSet_T{m:List Str}{n:Str}:jq (vJ m) (.v (.string (bs n))) (.v (.bool true))=vJ (wz m n):=by
 induction m with
 | nil=>rfl
 | cons s m ih =>
  rw[Bu];simp only[jq,UB]
  by_cases h:n=s
  .
   subst h;have:wz (n::m) n=n::m:=by simp[wz,nI]
   rw[this,Bu]
   simp
  .
   have h1:(n==s)=false:=by simp[h]
   rw[h1,ih];have h2:wz (s::m) n=s::wz m n:=by
    unfold wz nI
    by_cases q:n∈m<;>simp[h,q]
   rw[h2,Bu];rfl
def oM(apex:Str)(l:List Sgd)(i:Nat):Bool:=fB l[i]!.set&&kC l[i]!.set.name apex&&(decide (i=0)||decide (qC l[i-1]!.q l[i]!.q<0))
def ordered(z:Zon):Bool:=az z.apex && !jE z.apex&&decide (z.sets.length<=20000)&&aA z.sets.length (oM z.apex z.sets) 0
def qQ(apex:Str)(l:List Sgd)(i:Nat):Bool:=fits l[i]!.set.ty (l[i]!.set.name==apex)
def pM(z:Zon)(i:Nat):Bool:=dB z.sets ⟨z.apex,if i=0 then 4 else 2⟩
def wm(z:Zon):Bool:=aA 2 (pM z) 0&&aA z.sets.length (qQ z.apex z.sets) 0
def fG(z:Zon):Nat->List Str
 | 0=>[]
 | k+1=>if z.sets[k]!.set.ty=2/\z.sets[k]!.set.name≠z.apex then wz (fG z k) z.sets[k]!.set.name else fG z k
def stepC(m:List Str)(cut n:Str):Str :=
 let c:=if cut≠[]/\kC n cut=false then[]else cut
 if c=[]/\nI m n=true then n else c
def fD(m:List Str)(l:List Sgd):Nat->List Str×Str
 | 0=>([],[])
 | k+1=>let c:=stepC m (fD m l k).2 l[k]!.set.name;((fD m l k).1++[c],c)
def Eb(z:Zon):List Str:=(fD (fG z z.sets.length) z.sets z.sets.length).1
theorem WM{z:Zon}{k:Nat}(h:z.sets[k]!.set.ty=2 /\ ¬z.sets[k]!.set.name=z.apex):fG z (k+1)=wz (fG z k) z.sets[k]!.set.name:=X3 h
theorem WN{z:Zon}{k:Nat}(h : ¬(z.sets[k]!.set.ty=2 /\ ¬z.sets[k]!.set.name=z.apex)):fG z (k+1)=fG z k:=XV h
theorem Ap(m:List Str)(l:List Sgd):∀k,(fD m l k).1.length=k
 | 0=>rfl
 | k+1=>by simp[fD,Ap m l k]
def rJ(m:List Str)(l:List Sgd)(n k:Nat):List Str:=(fD m l k).1++List.replicate (n-k) []
theorem LK{m:List Str}{l:List Sgd}{n k:Nat}(h:k<=n):(rJ m l n k).length=n:=by simp[rJ,Ap];omega
theorem ZdV{m:List Str}{l:List Sgd}{n k:Nat}{c:Str}(h:k<n)(hc:c=(fD m l (k+1)).2):(rJ m l n k).set k c=rJ m l n (k+1):=by
 have e:n-k=(n-(k+1))+1:=by omega
 unfold rJ
 rw[e,List.replicate_succ,List.set_append_right _ _ (by rw[Ap];exact XX _),Ap,Yq,YP]
 have:(fD m l (k+1)).1=(fD m l k).1++[c]:=by rw[hc];rfl
 rw[this,Yu]
 rfl
@[go_sem]theorem rowsB_0{m:List Str}{l:List Sgd}{n:Nat}:(rJ m l n 0).map sR=List.replicate n [.v (.string (bs []))]:=by simp[rJ,fD,sR]
def CS{m:List Str}{l:List Sgd}{n k:Nat}{c:Str}(h:k<n)(hc:(fD m l (k+1)).2=c):((rJ m l n k).map sR).set k [.v (.string (bs c))]=(rJ m l n (k+1)).map sR:=by
 rw[<-ZdV h hc.symm,List.map_set];rfl
@[go_sem]theorem cutsTo_0{z:Zon}:fG z 0=[]:=rfl
theorem ZdW(m:List Str)(l:List Sgd)(n:Nat):rJ m l n n=(fD m l n).1:=by simp[rJ]
def kZ(z:Zon):Lay:=⟨z,Eb z⟩
def nZ(l:List Sgd)(i:Nat):Bool:=!decide (l[i]!.set.ty=3)||(!(decide (0<i)&&l[i-1]!.set.name==l[i]!.set.name) && !(decide (i+1<l.length)&&l[i+1]!.set.name==l[i]!.set.name && !decide (l[i+1]!.set.ty=8)))
def uW(x:Lay):Bool:=aA x.z.sets.length (nZ x.z.sets) 0
def cutAt(x:Lay)(i:Nat):Bool:=let t:=x.z.sets[i]!.set.ty
 if x.b[i]! = []then !decide (t=6)else if x.b[i]! = x.z.sets[i]!.set.name then decide (t=2)||decide (t=6)||decide (t=8)||decide (t=1)else decide (t=1)
def qY(x:Lay):Bool:=aA x.z.sets.length (cutAt x) 0
def vR(x:Lay)(i:Nat):Bool:=!(!(x.b[i]! == [])&&(decide (x.z.sets[i]!.set.ty=2)||decide (x.z.sets[i]!.set.ty=1))&&decide (0<x.z.sets[i]!.sigs.length))
def zZ(x:Lay):Bool:=aA x.z.sets.length (vR x) 0
def sj(z:Zon)(i:Nat):Bool:=mE z.sets[i]!.sigs z.apex
def Ab(x:Lay):Bool:=aA x.z.sets.length (sj x.z) 0
def aJ(z:Zon):Bool:=ordered z&&wm z&&uW (kZ z)&&qY (kZ z)&&zZ (kZ z)&&Ab (kZ z)
def OO(z:Zon):(kZ z).b.length=(kZ z).z.sets.length:=Ap _ _ _
def Mg{z:Zon}(h:ordered z=true):z.sets.length<=1000000:=by
 simp only[ordered,XU,XW]at h
 omega
def Ze9{z:Zon}(h:aJ z=true):z.sets.length<=1000000:=by
 simp only[aJ,XU]at h
 exact Mg h.1.1.1.1.1
def Zb9{z:Zon}(h:aJ z=true):bz z.sets ⟨z.apex,4⟩<z.sets.length/\0<z.sets[bz z.sets ⟨z.apex,4⟩]!.set.data.length:=by
 simp only[aJ,XU]at h
 obtain⟨⟨⟨⟨⟨h1,h2⟩,_⟩,_⟩,_⟩,_⟩:=h
 simp only[wm,XU]at h2
 have h3:=(eF _ _ _).1 h2.1 0 (XX _) (by omega)
 simp only[pM,Zn,dB,XU,XW]at h3
 refine⟨h3.1,?_⟩
 simp only[ordered,XU]at h1
 have h4:=(eF _ _ _).1 h1.2 _ (Yi _) h3.1
 simp only[oM,XU]at h4
 have:=((iM _).1 h4.1.1).len
 omega
def aM(z:Zon):Int:=z.sets[bz z.sets ⟨z.apex,4⟩]!.set.data[0]!.n
open Go.Cmp

def tX(x:Sgd):Prop:=x.set.data.length<=100000/\x.sigs.length<=100000
def fO(l:List Sgd):Prop:=l.length<=1000000 /\ ∀k,k<l.length->tX l[k]!
def uB(z:Zon):Prop:=z.sets.length<=1000000 /\ ∀k,k<z.sets.length->z.sets[k]!.set.name.length<=1000
theorem ZcF{a b:Sgd}(h1:a.set=b.set)(hl:a.sigs.length=b.sigs.length)(h : ∀i,i<a.sigs.length->a.sigs[i]! = b.sigs[i]!):lw a b=true :=
 YE (Ls h1 (Di! hl h))
theorem ZcH{a b:Sgd}(h : ¬(a.set=b.set/\a.sigs.length=b.sigs.length)):lw a b=false :=
 Y8 λe=>h ⟨by rw[e],by rw[e]⟩
theorem ZcG{a b:Sgd}{k:Nat}(h:a.sigs[k]! ≠ b.sigs[k]!):lw a b=false :=
 Y8 λe=>h (by rw[e])
theorem QQ{a b:List Sgd}{k:Nat}(h:lw a[k]! b[k]! = false):sZ a b=false :=
 Y8 λe=>(of_decide_eq_false h) (by rw[e])
theorem QJ{a b:List Sgd}(hl:a.length=b.length)(h : ∀i,i<a.length->lw a[i]! b[i]! = true):sZ a b=true :=
 YE (Di! hl λi hi=>YN (h i hi))
theorem QK{a b:List Sgd}(h:a.length≠b.length):sZ a b=false:=Y8 λe=>h (by rw[e])
theorem Zds(a b:Zon):mG a b=(a.apex==b.apex&&sZ a.sets b.sets):=by
 cases a;cases b
 rw[YL]
 simp[mG,sZ]
def uA(apex:Str)(l:List Sgd)(i:Nat):Bool:=fB l[i]!.set&&iq l[i]!.set.name apex&&(decide (i=0)||decide (lU l[i-1]!.set l[i]!.set<0))
def mK(z:Zon):Bool:=az z.apex && !yY z.apex&&decide (z.sets.length<=20000)&&aA z.sets.length (uA z.apex z.sets) 0
def zC{z:Zon}(h:mK z=true):uB z:=by
 simp only[mK,XU,XW]at h
 refine⟨om,λk hk=>?_⟩
 have:=(eF _ _ _).1 h.2 k (Yi _) hk
 simp only[uA,XU]at this
 have:=gM ((iM _).1 this.1.1).name
 omega
def QW{s:RSet}(h:fB s=true):s.name.length<=1000:=by
 have:=gM ((iM _).1 h).name
 omega
def rW(l:List Sgd)(q:ak)(k:Nat):Int:=if k<l.length then(if l[k]!.q=q then(k:Int)else rW l q (k+1))else -1
termination_by l.length-k
theorem vL(l:List Sgd)(q:ak)(k:Nat):rW l q k=if k<l.length then(if l[k]!.q=q then(k:Int)else rW l q (k+1))else -1:=by rw[rW]
def dQ(l:List Sgd)(q:ak):Int:=rW l q 0
theorem UN(l:List Sgd)(q:ak):∀n k,l.length-k<=n->rW l q k<l.length/\(0<=rW l q k->l[(rW l q k).toNat]!.q=q):=by
 intro n
 induction n with
 | zero=>intro k h;rw[vL,XV (by omega)];exact⟨om,λh=>by omega⟩
 | succ n ih =>
  intro k h;rw[vL]
  split
  .
   split
   .
    rename_i h1 h2
    exact⟨om,λ_=>by simpa using h2⟩
   exact ih (k+1) om
  exact⟨om,λh=>by omega⟩
def OT(l:List Sgd)(q:ak):dQ l q<l.length:=(UN l q _ 0 (XX _)).1
def XH{l:List Sgd}{q:ak}(h:0<=dQ l q):l[(dQ l q).toNat]!.q=q:=(UN l q _ 0 (XX _)).2 h
def rA(z:Zon):Bool:=decide (0<=dQ z.sets ⟨z.apex,4⟩)&&decide (0<=dQ z.sets ⟨z.apex,2⟩)&&aA z.sets.length (qQ z.apex z.sets) 0
def iQ(l:List Sgd):Nat->Str
 | 0=>[]
 | k+1=>if l[k]!.set.ty=3 then l[k]!.set.name else iQ l k
def kT(l:List Sgd)(i:Nat):Str:=if 0<i/\l[i-1]!.set.name=l[i]!.set.name then l[i]!.set.name else[]
def kD(l:List Sgd)(i:Nat):Bool:=!((!(kT l i==[])&&decide (l[i]!.set.ty=3))||(!(kT l i==[])&&(kT l i==iQ l (i+1)) && !decide (l[i]!.set.ty=3) && !decide (l[i]!.set.ty=8)))
def nA(z:Zon):Bool:=aA z.sets.length (kD z.sets) 0
def lL(z:Zon):Nat->List Str
 | 0=>[]
 | k+1=>if z.sets[k]!.set.ty=2/\z.sets[k]!.set.name≠z.apex then lL z k++[z.sets[k]!.set.name]else lL z k
def gX(z:Zon):List Str:=lL z z.sets.length
def dW(cs:List Str):Nat->List Str
 | 0=>[]
 | k+1=>if dW cs k=[]\/iq cs[k]! (dW cs k)[(dW cs k).length-1]! = false then dW cs k++[cs[k]!]else dW cs k
def bY(z:Zon):List Str:=dW (gX z) (gX z).length
def sH(hs:List Str)(n:Str)(i:Nat):Nat:=if i<hs.length then(if fZ hs[i]! n<=0 then sH hs n (i+1)else i)else i
termination_by hs.length-i
theorem Ar(hs:List Str)(n:Str)(i:Nat):sH hs n i=if i<hs.length then(if fZ hs[i]! n<=0 then sH hs n (i+1)else i)else i:=by rw[sH]
theorem ZkL(hs:List Str)(n:Str):∀m i,hs.length-i<=m->i<=hs.length->i<=sH hs n i/\sH hs n i<=hs.length:=by
 intro m
 induction m with
 | zero=>intro i h h2;rw[Ar,XV (by omega)];omega
 | succ m ih =>
  intro i h h2;rw[Ar]
  split
  .
   split
   . have:=ih (i+1) om om;omega
   omega
  omega
def jB(hs:List Str)(n:Str)(j:Nat):Str:=if 0<j/\iq n hs[j-1]! = true then hs[j-1]! else[]
def iJ(hs:List Str)(l:List Sgd):Nat->Nat
 | 0=>0
 | k+1=>sH hs l[k]!.set.name (iJ hs l k)
def mi(hs:List Str)(l:List Sgd):Nat->List Str
 | 0=>[]
 | k+1=>mi hs l k++[jB hs l[k]!.set.name (iJ hs l (k+1))]
def gI(z:Zon):List Str:=mi (bY z) z.sets z.sets.length
theorem yR(hs:List Str)(l:List Sgd):∀k,(mi hs l k).length=k
 | 0=>rfl
 | k+1=>by simp[mi,yR hs l k]
def mH(hs:List Str)(l:List Sgd)(n k:Nat):List Str:=mi hs l k++List.replicate (n-k) []
theorem LG{hs:List Str}{l:List Sgd}{n k:Nat}(h:k<=n):(mH hs l n k).length=n:=by simp[mH,yR];omega
theorem ZdR{hs:List Str}{l:List Sgd}{n k:Nat}{c:Str}(h:k<n)(hc:jB hs l[k]!.set.name (iJ hs l (k+1))=c):(mH hs l n k).set k c=mH hs l n (k+1):=by
 have e:n-k=(n-(k+1))+1:=by omega
 unfold mH
 rw[e,List.replicate_succ,List.set_append_right _ _ (by rw[yR];exact XX _),yR,Yq,YP,<-hc]
 have:mi hs l (k+1)=mi hs l k++[jB hs l[k]!.set.name (iJ hs l (k+1))]:=rfl
 rw[this,Yu]
 rfl
def Il{hs:List Str}{l:List Sgd}{n k:Nat}{c:Str}(h:k<n)(hc:jB hs l[k]!.set.name (iJ hs l (k+1))=c):((mH hs l n k).map sR).set k [.v (.string (bs c))]=(mH hs l n (k+1)).map sR:=by
 rw[<-ZdR h hc,List.map_set];rfl
def Im{hs:List Str}{l:List Sgd}{n k:Nat}(h:k<n)(hc:jB hs l[k]!.set.name (iJ hs l (k+1))=[]):mH hs l n (k+1)=mH hs l n k:=by
 have e:n-k=(n-(k+1))+1:=by omega
 have:mi hs l (k+1)=mi hs l k++[jB hs l[k]!.set.name (iJ hs l (k+1))]:=rfl
 unfold mH
 rw[e,List.replicate_succ,this,hc,Yu]
 rfl
@[go_sem]theorem rowsR_0{hs:List Str}{l:List Sgd}{n:Nat}:(mH hs l n 0).map sR=List.replicate n [.v (.string (bs []))]:=by simp[mH,mi,sR]
theorem ZdS(hs:List Str)(l:List Sgd)(n:Nat):mH hs l n n=mi hs l n:=by simp[mH]
def si(z:Zon):Bool:=qY ⟨z,gI z⟩
def xU(x:Lay)(i:Nat):Bool:=x.b[i]! == []||(!decide (x.z.sets[i]!.set.ty=2) && !decide (x.z.sets[i]!.set.ty=1))
def uy(x:Lay):Nat->List Bool
 | 0=>[]
 | k+1=>uy x k++[xU x k]
def Bc(z:Zon):List Bool:=uy ⟨z,gI z⟩ z.sets.length
theorem Bb(x:Lay):∀k,(uy x k).length=k
 | 0=>rfl
 | k+1=>by simp[uy,Bb x k]
theorem ZeV(x:Lay):∀n k,k<n->(uy x n)[k]! = xU x k:=by
 intro n
 induction n with
 | zero=>intro k h;omega
 | succ n ih =>
  intro k h;have hl:=Bb x n
  by_cases e:k=n
  . subst e;simp[uy,hl]
  have hk:k<n:=by omega
  rw[<-ih k hk];simp only[uy];rw[getElem!_pos _ _ (by simp[hl];omega),getElem!_pos _ _ (by omega),List.getElem_append_left]
def bR(b:Bool):List D:=[.b b]
def rH(x:Lay)(n k:Nat):List Bool:=uy x k++List.replicate (n-k) false
theorem LJ{x:Lay}{n k:Nat}(h:k<=n):(rH x n k).length=n:=by simp[rH,Bb];omega
def LH{x:Lay}{n k:Nat}{c:Bool}(h:k<n)(hc:xU x k=c):((rH x n k).map bR).set k [.b c]=(rH x n (k+1)).map bR:=by
 have e:n-k=(n-(k+1))+1:=by omega
 have:uy x (k+1)=uy x k++[c]:=by rw[<-hc];rfl
 have e2:(rH x n k).set k c=rH x n (k+1):=by
  unfold rH;rw[e,List.replicate_succ,List.set_append_right _ _ (by rw[Bb];exact XX _),Bb,Yq,YP,this,Yu]
  rfl
 rw[<-e2,List.map_set];rfl
@[go_sem]theorem rowsO_0{x:Lay}{n:Nat}:(rH x n 0).map bR=List.replicate n [.b false]:=by simp[rH,uy,bR]
theorem ZdU(x:Lay)(n:Nat):rH x n n=uy x n:=by simp[rH]
@[go_sem]theorem nrr_bR{l:List Bool}:bq (l.map bR)=true:=by
 induction l with
 | nil=>rfl
 | cons x l ih=>simp only[X8,bq,ih,bR,bC];rfl
@[go_sem]theorem wkr_bR{l:List Bool}:eG (l.map bR)=l.map bR:=by
 induction l with
 | nil=>rfl
 | cons x l ih=>simp only[X8,eG,ih,bR,eB];rfl
@[go_sem]theorem all_bR{l:List Bool}:(∀r∈l.map bR,r.length=1)=True:=by
 apply eq_true
 intro r hr
 obtain⟨x,_,rfl⟩:=Yt.1 hr
 rfl
def Vh{l:List Bool}{n:Nat}(h:n<l.length):(l.map bR).getD n []=[.b l[n]!]:=by
 simp[List.getD,h,bR,getElem!_pos]
def xk(x:Lay)(i:Nat):Bool:=sj x.z i&&vR x i
def tV(z:Zon):Bool:=aA z.sets.length (xk ⟨z,gI z⟩) 0
def jl(z:Zon):Bool:=mK z&&rA z&&nA z&&si z&&tV z
def dz(z:Zon):Int:=z.sets[(dQ z.sets ⟨z.apex,4⟩).toNat]!.set.data[0]!.n
def vU(z:Zon):Bool:=decide (z.sets.length<=100)&&aA z.sets.length (λi=>decide (z.sets[i]!.set.data.length<=20)&&decide (z.sets[i]!.sigs.length<=20)) 0
structure aG where
 apex:Str
 frm:Int
 too:Int
 drop:List ak
 put:List Sgd
 deriving Inhabited,DecidableEq
def aG.d(x:aG):List D:=[.v (.string (bs x.apex)),.i x.frm,.i x.too,.list false (x.drop.map ak.d),.list false (x.put.map Sgd.d)]
def aG.of:List D->aG
 | [.v (.string s),.v (.int _ a),.v (.int _ b),.list _ q,.list _ r]=>⟨s.data.toList,a,b,q.map ak.of,r.map Sgd.of⟩
 | _=>default
def jA:D->aG:=sG aG.of default
attribute [go_sem] aG.d
def Zfe(x:aG):aG.of x.d=x:=by simp[aG.of,aG.d,uf,kW Mk,kW Da]
def dlt1_agg{s:ByteArray}{a b:Int}{k k':IntKind}{f f':Bool}{q r:List (List D)}:jA (.agg [.v (.string s),.v (.int k a),.v (.int k' b),.list f q,.list f' r])=⟨s.data.toList,a,b,IE (.list f q),fA (.list f' r)⟩:=rfl
def dlt_eta{x:aG}:(⟨x.apex,x.frm,x.too,x.drop,x.put⟩:aG)=x:=rfl
attribute[go_sem]dlt1_agg dlt_eta
def iB(x:Int):Bool:=decide (0<=x)&&decide (x<65536)
def gZ(a b:Int):Bool:=decide (1<=(b-a+65536) % 65536)&&decide ((b-a+65536) % 65536<=32767)
def mO(a b:Int):Bool×Int:=if iB a&&iB b then(gZ a b,0)else(false,1)
def qO(a b:ak):Int:=lU ⟨a.name,a.ty,0,[]⟩ ⟨b.name,b.ty,0,[]⟩
def pK(l:List ak)(q:ak):Bool:=decide (q∈l)
def DV(l:List ak)(i:Nat):Bool:=qi l[i]! && (decide (i=0)||decide (qO l[i-1]! l[i]! < 0))
def putAt(d:aG)(i:Nat):Bool:=fB d.put[i]!.set&&(decide (i=0)||decide (qO d.put[i-1]!.q d.put[i]!.q<0)) && !pK d.drop d.put[i]!.q
def fU(d:aG):Bool:=az d.apex && !jE d.apex&&iB d.frm&&iB d.too&&gZ d.frm d.too&&decide (d.drop.length<=20000)&&decide (d.put.length<=20000)&&aA d.drop.length (DV d.drop) 0&&aA d.put.length (putAt d) 0
def Iu{z:Zon}(h:jl z=true):mK z=true/\rA z=true/\nA z=true/\si z=true/\tV z=true:=by
 simp only[jl,XU]at h
 exact⟨h.1.1.1.1,h.1.1.1.2,h.1.1.2,h.1.2,h.2⟩
def LP{z:Zon}(h:jl z=true){k:Nat}(hk:k<z.sets.length):sI z.sets[k]!.set:=by
 have h1:=(Iu h).1
 simp only[mK,XU]at h1
 have:=(eF _ _ _).1 h1.2 k (Yi _) hk
 simp only[uA,XU]at this
 exact(iM _).1 this.1.1
def Rx{z:Zon}(h:jl z=true):z.sets.length<=20000:=by
 have h1:=(Iu h).1
 simp only[mK,XU,XW]at h1
 exact h1.1.2
def Zd1{z:Zon}(h:jl z=true){k:Nat}(hk:k<z.sets.length):z.sets[k]!.sigs.length<=6:=by
 have h1:=(Iu h).2.2.2.2
 simp only[tV]at h1
 have:=(eF _ _ _).1 h1 k (Yi _) hk
 simp only[xk,sj,mE,XU,XW]at this
 exact this.1.1
def Zd2{z:Zon}(h:jl z=true):fO z.sets:=by
 have hl:=Rx h
 refine⟨om,λk hk=>⟨?_,?_⟩⟩
 . have:=(LP h hk).len;omega
 have:=Zd1 h hk;omega
theorem EP{z:Zon}(h:jl z=true):0<=dQ z.sets ⟨z.apex,4⟩:=by
 have h1:=(Iu h).2.1
 simp only[rA,XU,XW]at h1
 exact h1.1.1
def Rw{z:Zon}(h:jl z=true):(dQ z.sets ⟨z.apex,4⟩).toNat<z.sets.length:=by
 have:=EP h
 have:=OT z.sets ⟨z.apex,4⟩
 omega
def Ry{z:Zon}(h:jl z=true):0<z.sets[(dQ z.sets ⟨z.apex,4⟩).toNat]!.set.data.length:=by
 have:=(LP h (Rw h)).len
 omega
def Ir{z:Zon}(h:jl z=true):iB (dz z)=true:=by
 have hs:=LP h (Rw h)
 have hd:=Ry h
 have hq:=XH (EP h)
 have ht:z.sets[(dQ z.sets ⟨z.apex,4⟩).toNat]!.set.ty=4:=congrArg ak.ty hq
 have:=hs.dat _ (YI hd)
 rw[ht]at this
 unfold jS at this
 simp only[XU,jM]at this
 have hn:=this.1.1.1
 rw[<-getElem!_pos _ 0 hd]at hn
 simp only[iB,dz,XU]
 have h1:0<=z.sets[(dQ z.sets ⟨z.apex,4⟩).toNat]!.set.data[0]!.n:=hn.1
 have h2:z.sets[(dQ z.sets ⟨z.apex,4⟩).toNat]!.set.data[0]!.n<=65535:=hn.2
 exact⟨YE h1,YE om⟩
def qV:aG:=⟨[],0,0,[],[]⟩
def dH:Zon:=⟨[],[]⟩


def mV(m:List Sgd):List D:=m.flatMap λs=>[.agg s.q.d,.agg s.d]
theorem zL(s:Sgd)(m:List Sgd):mV (s::m) = .agg s.q.d :: .agg s.d::mV m:=rfl
theorem Zgz:mV []=[]:=rfl
theorem Fq{a b:ak}:mW (.agg a.d) (.agg b.d)=decide (a=b):=by
 cases a;cases b
 rw[YL]
 simp[mW,pI,nU,ak.d,uf]
def fC:List Sgd->ak->Option Sgd
 | s::m,q=>if s.q=q then some s else fC m q
 | [],_=>none
def wT:List Sgd->Sgd->List Sgd
 | x::m,s=>if x.q=s.q then s::m else x::wT m s
 | [],s=>[s]
theorem Zgy{m:List Sgd}{s:Sgd}:jq (mV m) (.agg s.q.d) (.agg s.d)=mV (wT m s):=by
 induction m with
 | nil=>rfl
 | cons x m ih =>
  rw[zL];simp only[jq,Fq,wT]
  by_cases h:x.q=s.q
  . rw[X3 h,h];simp[zL]
  have h2 : ¬s.q=x.q:=λe=>h e.symm
  rw[XV h];simp only[h2,decide_false,Yp,Za,ih,zL]
@[go_sem]theorem Zfm{m:List Sgd}:bC (mV m)=true:=by
 induction m with
 | nil=>rfl
 | cons s m ih =>
  rw[zL];simp only[bC,ih,D.nr,ak.d,Sgd.d,oU,E9,ZH]
@[go_sem]theorem wks_kvQ{m:List Sgd}:eB (mV m)=mV m:=by
 induction m with
 | nil=>rfl
 | cons s m ih =>
  rw[zL];simp only[eB,wk,ih,ak.d,Sgd.d,ui,En]
def uC(l:List Sgd):Nat->List Sgd
 | 0=>[]
 | k+1=>wT (uC l k) l[k]!
def Bp(l:List Sgd):List Sgd:=uC l l.length
theorem ZfK{m:List Sgd}{s:Sgd}{q:ak}:fC (wT m s) q=if s.q=q then some s else fC m q:=by
 induction m with
 | nil=>rfl
 | cons x m ih =>
  simp only[wT,fC]
  by_cases h:x.q=s.q
  .
   rw[X3 h];simp only[fC]
   by_cases h2:s.q=q
   . simp[h2]
   rw[XV h2,XV h2,XV (by rw[h];exact h2)]
  rw[XV h];simp only[fC,ih]
  by_cases h2:s.q=q
  . rw[X3 h2,X3 h2,XV (by rw[<-h2];exact h)]
  rw[XV h2,XV h2]
abbrev PM:=List (ak×Sgd)
def MO{h h2:H}{n r:Nat}{y:Option eZ}(hn : ∀q,n<=q->h q=none)(hr:h2 r=y)(hk : ∀q,q<n->h2 q=h q):∀q,upd h r y q=h2 q\/upd h r y q=none:=by
 intro q
 by_cases e:q=r
 . subst e;left;rw[bN,hr]
 rw[aK _ _ _ _ e]
 by_cases q2:q<n
 . left;exact(hk q q2).symm
 right;exact hn q om
def jg(m:PM):List D:=m.flatMap λp=>[.agg p.1.d,.agg p.2.d]
theorem Bv(p:ak×Sgd)(m:PM):jg (p::m) = .agg p.1.d :: .agg p.2.d::jg m:=rfl
def fu:PM->ak->Option Sgd
 | p::m,q=>if p.1=q then some p.2 else fu m q
 | [],_=>none
def EU:PM->ak->Sgd->PM
 | p::m,q,s=>if p.1=q then(q,s)::m else p::EU m q s
 | [],q,s=>[(q,s)]
theorem ZgD{m:PM}{q:ak}:kK (jg m) (.agg q.d)=(fu m q).map λs=>.agg s.d:=by
 induction m with
 | nil=>rfl
 | cons p m ih =>
  rw[Bv];simp only[kK,Fq,fu]
  by_cases h:p.1=q
  . subst h;simp
  have h2 : ¬q=p.1:=λe=>h e.symm
  simp only[h,h2,decide_false,Yp,Za,ih]
@[go_sem]theorem kvGet_P{m:PM}{q:ak}:kK (jg m) (.agg [.v (.string (bs q.name)),.i q.ty])=(fu m q).map λs=>.agg [.v (.string (bs s.set.name)),.i s.set.ty,.i s.set.life,.list false (s.set.data.map Dat.d),.list false (s.sigs.map RSig.d)]:=ZgD
@[go_sem]theorem Zfn{m:PM}:bC (jg m)=true:=by
 induction m with
 | nil=>rfl
 | cons p m ih =>
  rw[Bv];simp only[bC,ih,D.nr,ak.d,Sgd.d,oU,E9,ZH]
@[go_sem]theorem wks_kvP{m:PM}:eB (jg m)=jg m:=by
 induction m with
 | nil=>rfl
 | cons p m ih =>
  rw[Bv];simp only[eB,wk,ih,ak.d,Sgd.d,ui,En]
def PM.of:List D->PM
 | .agg k :: .agg v::l=>(ak.of k,Sgd.of v)::PM.of l
 | _=>[]
theorem Ml(m:PM):PM.of (jg m)=m:=by
 induction m with
 | nil=>rfl
 | cons p m ih=>rw[Bv,PM.of,ih,Mk,Da]
def fmap1:D->PM
 | .fmap kv=>PM.of kv
 | _=>[]
def wU:D->PM
 | .eptr [d]=>fmap1 d
 | _=>[]
def GM:D->PM
 | .fn _ _ [d]=>wU d
 | _=>[]
@[go_sem]theorem mapc1_kv{m:PM}:wU (.eptr [.fmap (jg m)])=m:=Ml m
@[go_sem]theorem capm1_kv{f:Fn}{x:List D}{m:PM}:GM (.fn f x [.eptr [.fmap (jg m)]])=m:=Ml m
theorem Zez{m:PM}{q x:ak}{s:Sgd}:fu (EU m q s) x=if q=x then some s else fu m x:=by
 induction m with
 | nil=>rfl
 | cons p m ih =>
  simp only[EU,fu]
  by_cases h:p.1=q
  .
   rw[X3 h];simp only[fu]
   by_cases h2:q=x
   . simp[h2]
   rw[XV h2,XV h2,XV (by rw[h];exact h2)]
  rw[XV h];simp only[fu,ih]
  by_cases h2:q=x
  . rw[X3 h2,X3 h2,XV (by rw[<-h2];exact h)]
  rw[XV h2,XV h2]
def kY(l:List Sgd):PM:=(Bp l).map λs=>(s.q,s)
theorem kvQ_P(l:List Sgd):mV l=jg (l.map λs=>(s.q,s)):=by
 induction l with
 | nil=>rfl
 | cons s l ih=>rw[zL,X8,Bv,ih]
theorem ZgB(l:List Sgd):mV (Bp l)=jg (kY l):=kvQ_P _
theorem ZeJ(l:List Sgd)(q:ak):fu (l.map λs=>(s.q,s)) q=fC l q:=by
 induction l with
 | nil=>rfl
 | cons s l ih=>simp only[X8,fu,fC,ih]
theorem Sm(l:List Sgd)(q:ak):fu (kY l) q=fC (Bp l) q:=ZeJ _ _
abbrev PZ:=List (ak×Option Sgd)
def vZ:Option Sgd->List D
 | some s=>s.d
 | none=>[.v (.string (bs [])),.i 0,.i 0,.list true [],.list true []]
def qw(m:PZ):List D:=m.flatMap λp=>[.agg p.1.d,.agg (vZ p.2)]
theorem Bt(p:ak×Option Sgd)(m:PZ):qw (p::m) = .agg p.1.d :: .agg (vZ p.2)::qw m:=rfl
def xG:PZ->ak->Option Sgd->PZ
 | p::m,q,s=>if p.1=q then(q,s)::m else p::xG m q s
 | [],q,s=>[(q,s)]
theorem Zgw{m:PZ}{q:ak}{s:Option Sgd}:jq (qw m) (.agg q.d) (.agg (vZ s))=qw (xG m q s):=by
 induction m with
 | nil=>rfl
 | cons p m ih =>
  rw[Bt];simp only[jq,Fq,xG]
  by_cases h:p.1=q
  . rw[X3 h,h];simp[Bt]
  have h2 : ¬q=p.1:=λe=>h e.symm
  rw[XV h];simp only[h2,decide_false,Yp,Za,ih,Bt]
@[go_sem]theorem kvSet_Z{m:PZ}{q:ak}:jq (qw m) (.agg [.v (.string (bs q.name)),.i q.ty]) (.agg [.v (.string (bs [])),.i 0,.i 0,.list true [],.list true []])=qw (xG m q none):=Zgw (s:=none)
@[go_sem]theorem Td{m:PZ}:bC (qw m)=true:=by
 induction m with
 | nil=>rfl
 | cons p m ih =>
  rw[Bt]
  cases hp:p.2 with
  | none=>simp only[bC,ih,D.nr,ak.d,vZ,bq,ZH]
  | some s=>simp only[bC,ih,D.nr,ak.d,vZ,Sgd.d,oU,E9,ZH]
def EF:Sgd:=⟨⟨[],0,0,[]⟩,[]⟩
def zp(m:PZ):PM:=m.map λp=>(p.1,p.2.getD EF)
@[go_sem]theorem wks_kvZ{m:PZ}:eB (qw m)=jg (zp m):=by
 induction m with
 | nil=>rfl
 | cons p m ih =>
  rw[Bt];have:zp (p::m)=(p.1,p.2.getD EF)::zp m:=rfl;rw[this,Bv]
  cases hp:p.2 with
  | none=>simp only[eB,wk,ih,ak.d,vZ,Option.getD_none,EF,Sgd.d,eG,Yz]
  | some s=>simp only[eB,wk,ih,ak.d,vZ,YR,Sgd.d,ui,En]
theorem Zad(m:PZ)(q:ak)(s:Option Sgd):zp (xG m q s)=EU (zp m) q (s.getD EF):=by
 induction m with
 | nil=>rfl
 | cons p m ih =>
  have e:zp (p::m)=(p.1,p.2.getD EF)::zp m:=rfl;unfold xG;rw[e];unfold EU
  by_cases h:p.1=q
  . rw[X3 h,X3 h];rfl
  rw[XV h,XV h,<-ih];rfl
def wV(l:List Sgd):PZ:=(Bp l).map λs=>(s.q,some s)
theorem kvQ_Z(l:List Sgd):mV l=qw (l.map λs=>(s.q,some s)):=by
 induction l with
 | nil=>rfl
 | cons s l ih=>rw[zL,X8,Bt,ih];rfl
theorem ZgA(l:List Sgd):mV (Bp l)=qw (wV l):=kvQ_Z _
theorem Zae(l:List Sgd):zp (wV l)=kY l:=by
 unfold zp wV kY
 rw[List.map_map]
 rfl
def xg(m:PZ)(l:List ak):Nat->PZ
 | 0=>m
 | k+1=>xG (xg m l k) l[k]! none
@[go_sem]theorem goesZ_0{m:PZ}{l:List ak}:xg m l 0=m:=rfl
def DF(put:List Sgd)(drop:List ak):PM:=zp (xg (wV put) drop drop.length)
theorem Ve(m:PZ)(l:List ak)(q:ak):∀k,k<=l.length->((fu (zp (xg m l k)) q).isSome=true↔(q∈l.take k\/(fu (zp m) q).isSome=true))
 | 0,_=>by simp[xg]
 | k+1,h=>by
  have ih:=Ve m l q k (by omega)
  have hk:k<l.length:=by omega
  have e:l.take (k+1)=l.take k++[l[k]!]:=by
   rw[Zg,Yg hk,getElem!_pos l k hk];rfl
  show(fu (zp (xG (xg m l k) l[k]! none)) q).isSome=true↔_
  rw[Zad,Zez,e,Yx]
  by_cases h2:l[k]! = q
  . rw[X3 h2];simp[h2]
  rw[XV h2,ih];have:(q∈[l[k]!])=False:=YO λx=>h2 (Yo.1 x).symm
  rw[this,or_false]
def wJ(a b:Sgd):Bool:=decide (a.set.life=b.set.life)&&decide (a.set.data=b.set.data)&&decide (a.sigs=b.sigs)
def kM(a b:List Dat):Bool:=decide (a=b)
def xq(a b:List RSig):Bool:=decide (a=b)
theorem VP{α:Type}{a b:List α}(h:(a.length:Int)≠b.length):a≠b:=by rintro rfl;exact h rfl
theorem Zdt(a b:Sgd):wJ a b=(a.set.life==b.set.life&&kM a.set.data b.set.data&&xq a.sigs b.sigs):=by
 rw[YL]
 simp[wJ,kM,xq]
theorem Kg{x y:Dat}(h:x.t=y.t/\x.n=y.n/\x.m=y.m):x=y:=by
 cases x;cases y;simp_all
def oZ(m:PM)(q:ak):Bool:=!(fu m q).isSome
def yK(o:Option Sgd)(s:Sgd):Bool:=match o with
 | none=>true
 | some x=>!wJ x s
def mg(m:PM)(s:Sgd):Option ak:=if oZ m s.q=true then some s.q else none
def ll(m:PM)(s:Sgd):Option Sgd:=if yK (fu m s.q) s=true then some s else none
def lJ(m:PM)(s:Sgd):Option Sgd:=if oZ m s.q=true then some s else none
def j3S(m:PM)(q:ak):Option ak:=if oZ m q=true then some q else none
def JO{α β:Type}[Inhabited α]{f:α->Option β}{l:List α}{k:Nat}(hk:k<l.length){y:β}(h:f l[k]! = some y):(l.take (k+1)).filterMap f=(l.take k).filterMap f++[y]:=by
 rw[Zg,Yg hk,List.filterMap_append]
 rw[getElem!_pos l k hk]at h
 simp[h]
def JP{α β:Type}[Inhabited α]{f:α->Option β}{l:List α}{k:Nat}(hk:k<l.length)(h:f l[k]! = none):(l.take (k+1)).filterMap f=(l.take k).filterMap f:=by
 rw[Zg,Yg hk,List.filterMap_append]
 rw[getElem!_pos l k hk]at h
 simp[h]
def JQ{α β:Type}(f:α->Option β)(l:List α)(k:Nat):((l.take k).filterMap f).length<=k:=by
 have:=List.length_filterMap_le f (l.take k)
 rw[YA]at this
 omega
attribute [go_sem] List.filterMap_nil Option.map_some Option.map_none Option.getD_some Option.getD_none Option.isSome_some Option.isSome_none
def VD{α:Type}(l:List α):l.filterMap some=l:=by simp
def qS(a:ak):RSet:=⟨a.name,a.ty,0,[]⟩
theorem Zer(a b:ak):qC a b=plC (qS a) (qS b):=rfl
theorem R5(a b:ak):qO a b=lU (qS a) (qS b):=rfl
theorem ET{a b:ak}(ha:az a.name=true)(hb:az b.name=true):qC a b=qO a b:=by
 rw[Zer,R5,plC_c (a:=qS a) (b:=qS b) ha hb,RI (a:=qS a) (b:=qS b) ha hb]
def Zeq{a b:ak}(ha:az a.name=true)(hb:az b.name=true):qO a b=xQ (qS a) (qS b):=by
 rw[R5,RI (a:=qS a) (b:=qS b) ha hb]
theorem Xr(c:Nat->Int)(n:Nat)(mono : ∀i j,i<=j->j<n->c j<0->c i<0):∀m i j,j-i<=m->i<=j->j<=n->(∀k,k<i->c k<0)->(∀k,j<=k->k<n -> ¬c k<0) ->
  (∀k,k<pJ c i j->c k<0)/\(∀k,pJ c i j<=k->k<n -> ¬c k<0):=by
 intro m
 induction m with
 | zero =>
  intro i j h1 h2 h3 ha hb;rw[Co,XV (by omega)]
  exact⟨ha,λk hk hn=>hb k om hn⟩
 | succ m ih =>
  intro i j h1 h2 h3 ha hb;rw[Co]
  by_cases hij:i<j
  .
   rw[X3 hij]
   by_cases hc:c ((i+j) / 2)<0
   . rw[X3 hc];exact ih _ _ om om h3 (λk hk=>mono k ((i+j) / 2) om om hc) hb
   rw[XV hc];exact ih _ _ om om om ha (λk hk hn hk2=>hc (mono _ k hk hn hk2))
  rw[XV hij];exact⟨ha,λk hk hn=>hb k om hn⟩
theorem Ua{α:Type}{c:α->α->Int}(h:Cm c):∀p r:List α,lex c p (p++r)<=0
 | [],[]=>by simp[lex]
 | [],_::_=>by simp[lex]
 | x::p,r=>by
  show pW (c x x) (lex c p (p++r))<=0
  rw[lN,X3 (h.self x)];exact Ua h p r
theorem Ub{α:Type}{c:α->α->Int}(h:Cm c)(he : ∀x y,c x y=0->x=y):∀p r x:List α,lex c p x<=0->lex c x (p++r)<=0->p <+: x
 | [],r,x,_,_=>List.nil_prefix
 | a::p,r,[],h1,_=>by simp[lex]at h1
 | a::p,r,b::x,h1,h2=>by
  have h1':pW (c a b) (lex c p x)<=0:=h1;have h2':pW (c b a) (lex c x (p++r))<=0:=h2;rw[lN]at h1' h2';have ha:=h.anti a b
  by_cases e:c a b=0
  .
   have e2:c b a=0:=by omega
   rw[X3 e]at h1';rw[X3 e2]at h2';obtain rfl:=he _ _ e;obtain⟨t,rfl⟩:=Ub h he p r x h1' h2';exact⟨t,rfl⟩
  rw[XV e]at h1';rw[XV (by omega)]at h2'
  omega
def fI(n c:Str):Prop:=ik c <+: ik n
def KX(n:Str):fI n n:=List.prefix_rfl
def KW{a b c:Str}(h:fI a b)(k:fI b c):fI a c:=List.IsPrefix.trans k h
def PL{a b:Str}(h:fI a b)(k:fI b a):a=b :=
 LM (List.IsPrefix.eq_of_length k (Nat.le_antisymm (List.IsPrefix.length_le k) (List.IsPrefix.length_le h)))
def ZaX{n a b:Str}(h:fI n a)(k:fI n b):fI a b\/fI b a:=List.prefix_or_prefix_of_prefix k h
theorem Tm(a b:Str):fZ a b=lex Go.Lib.compareBytes (ik a) (ik b):=IR _ _
def KZ{n c:Str}(h:fI n c):fZ c n<=0:=by
 obtain⟨r,hr⟩:=h
 rw[Tm,<-hr]
 exact Ua Kr _ _
def KY{n c x:Str}(h:fI n c)(h1:fZ c x<=0)(h2:fZ x n<=0):fI x c:=by
 obtain⟨r,hr⟩:=h
 rw[Tm]at h1 h2
 rw[<-hr]at h2
 exact Ub Kr (λ_ _=>OE) _ _ _ h1 h2
theorem BD{s z:Str}:iq s z=true↔fI s z:=by
 unfold fI
 rw[<-IL,<-IL,List.reverse_prefix]
 unfold iq
 rw[XU,XW,eF]
 constructor
 .
  rintro⟨h1,h2⟩;refine⟨(bF s).take ((bF s).length-(bF z).length),?_⟩
  conv=>rhs;rw[<-Y7 ((bF s).length-(bF z).length) (bF s)]
  congr 1
  refine List.ext_getElem (by simp;omega) λi hi hj=>?_
  have:=h2 i (Yi _) hi;unfold yo at this;rw[YB,getElem!_pos (bF s) _ (by omega),getElem!_pos (bF z) _ hi]at this
  rw[List.getElem_drop,this]
 rintro⟨a,ha⟩
 have hl:(bF s).length=a.length+(bF z).length:=by rw[<-ha,XZ]
 refine⟨om,λi _ hi=>?_⟩
 unfold yo
 have e:(bF s).length-(bF z).length+i=a.length+i:=by omega
 rw[YB,e,getElem!_pos (bF s) _ (by omega),getElem!_pos (bF z) _ hi]
 have:(bF s)[a.length+i]? = some (bF z)[i]:=by
  rw[<-ha,YM (by omega)]
  simp[hi]
 exact(X7.1 this).2
theorem Um:iF []=false:=by
 unfold iF
 simp
theorem Mx:az []=false:=by
 rw[TD,XV (by simp),XV (by simp),zh]
 simp[split,ru,Um]
theorem UJ : ∀(a b:List Str),a≠[]->b≠[]->vK (a++b)=vK a++46::vK b
 | [],_,h,_=>absurd rfl h
 | [p],[],_,h=>absurd rfl h
 | [p],q::r,_,_=>rfl
 | p::q::r,b,_,hb=>by
  have ih:=UJ (q::r) b (by simp) hb
  show p++46::vK ((q::r)++b)=_
  rw[ih]
  simp[vK]
theorem ZbO{s z:Str}:split z <:+ split s↔s=z \/ ∃a,s=a++46::z:=by
 constructor
 .
  rintro⟨a,ha⟩
  by_cases h:a=[]
  .
   subst h
   left
   rw[<-Bz s,<-Bz z,<-ha];rfl
  right
  refine⟨vK a,?_⟩;rw[<-Bz s,<-ha,UJ a _ h (wF z),Bz]
 rintro (h|⟨a,h⟩)
 . rw[h];exact List.suffix_rfl
 rw[h,Lf];exact List.suffix_append _ _
theorem ZaU{s z:Str}:(decide (z.length<s.length)&&xc s z&&decide ((s.getD (s.length-z.length-1) 0).toNat=46))=true↔∃a,s=a++46::z:=by
 rw[XU,XU,XW,XW]
 unfold xc
 rw[XU,XW,YB]
 constructor
 .
  rintro⟨⟨h1,h2,h3⟩,h4⟩;refine⟨s.take (s.length-z.length-1),?_⟩;have hlt:s.length-z.length-1<s.length:=by omega
  have hc:s[s.length-z.length-1]=46:=by
   apply ZV.1
   show _=46
   rw[<-h4]
   simp[List.getD,hlt]
  conv=>lhs;rw[<-Y7 (s.length-z.length-1) s]
  rw[YC hlt,hc,show s.length-z.length-1+1=s.length-z.length by omega,h3]
 rintro⟨a,rfl⟩
 have hl:(a++46::z).length=a.length+1+z.length:=by simp;omega
 refine⟨⟨om,om,?_⟩,?_⟩
 .
  rw[hl,show a.length+1+z.length-z.length=a.length+1 by omega]
  simp
 rw[hl,show a.length+1+z.length-z.length-1=a.length by omega]
 simp
theorem ZaT{s z:Str}(hs:az s=true)(hz:az z=true):under s z=true↔fI s z:=by
 unfold under fI
 rw[Yc,Yc,YB,YB,ZaU]
 by_cases ez:z=[46]
 .
  subst ez;have:ik [46]=[]:=by simp[ik]
  rw[this]
  simp
 by_cases es:s=[46]
 .
  subst es;have h1:ik [46]=[]:=by simp[ik]
  rw[h1]
  constructor
  .
   rintro ((h|h)|⟨a,h⟩)
   . exact absurd h.symm ez
   . exact absurd h ez
   cases a with
   | nil =>
    have:z=[]:=by simpa using h
    subst this;rw[Mx]at hz;cases hz
   | cons x a=>simp at h
  intro h;have:=List.prefix_nil.1 h;unfold ik at this;rw[XV ez,tq]at this
  cases this
 have e1:ik s=(split s).reverse:=by unfold ik;rw[XV es,zh]
 have e2:ik z=(split z).reverse:=by unfold ik;rw[XV ez,zh]
 rw[e1,e2,List.reverse_prefix,ZbO]
 constructor
 .
  rintro ((h|h)|h)
  . exact .inl h
  . exact absurd h ez
  exact .inr h
 rintro (h|h)
 . exact .inl (.inl h)
 exact .inr h
theorem Er{s z:Str}(hs:az s=true)(hz:az z=true):kC s z=true↔fI s z:=by
 unfold kC
 rw[hs,hz,ZG,ZG,ZaT hs hz]
def ZaV{s z:Str}(hs:az s=true)(hz:az z=true):kC s z=iq s z:=by
 rw[YL,Er hs hz,BD]
theorem Pn{s:Str}(h:az s=true):jE s=yY s:=by
 by_cases e:s=[46]
 . subst e;rfl
 have hp:bF s=split s:=by unfold bF;rw[XV e,EC]
 have h0:uw (split s) 0=true:=by
  unfold az at h;rw[XV e]at h
  split at h
  . cases h
  rw[XU,EC]at h;have:=Zy.2 (wF s);exact(eF _ _ _).1 h.1 0 (XX _) this
 unfold yY
 rw[hp]
 have hpos:=Zy.2 (wF s)
 rw[YE hpos,ZG]
 cases s with
 | nil=>rw[Mx]at h;cases h
 | cons c r =>
  obtain⟨p,ps,hq⟩:∃p ps,split r=p::ps:=by
   cases hq:split r with
   | nil=>exact absurd hq (wF r)
   | cons p ps=>exact⟨p,ps,rfl⟩
  by_cases hc:c=46
  .
   subst hc;have hs:split (46::r)=[]::split r:=by rw[split,X3 rfl]
   rw[hs]at h0
   simp[uw,Um]at h0
  have hs:split (c::r)=(c::p)::ps:=by rw[split,XV hc,hq]
  rw[hs]at h0 ⊢;simp only[uw,List.getElem!_cons_zero,decide_true,ZG]at h0 ⊢;rw[YL];unfold jE;simp only[YS,List.getD_cons_zero,XU,XW,YB]
  constructor
  .
   rintro⟨_,h1⟩;rw[Yc]at h0
   rcases h0 with h2|h2
   .
    exfalso
    unfold iF at h2;rw[XU,XU]at h2;have:=(eF _ _ _).1 h2.1.1 0 (XX _) (by simp)
    simp[ql,sF,h1]at this
   exact YB.1 h2
  intro h1;have:=(List.cons.inj h1).1;subst this;exact⟨om,rfl⟩
def qp(a b:ak):Int:=xQ (qS a) (qS b)
def Ko:Cm qp:=yL cm_pl qS
theorem zm{a b:ak}:qp a b=0↔a=b:=by
 unfold qp
 rw[ZeB]
 cases a;cases b
 simp[qS]
theorem zn{a b:ak}(ha:az a.name=true)(hb:az b.name=true):qO a b=qp a b:=Zeq ha hb
theorem CX{a b:ak}(ha:az a.name=true)(hb:az b.name=true):qC a b=qp a b:=by rw[ET ha hb,zn ha hb]
def R4{a b:ak}(h:qp a b<0):fZ a.name b.name<=0/\(a.name=b.name->a.ty<b.ty):=by
 have h1:pW (fZ a.name b.name) (Go.Cmp.cmpI a.ty b.ty)<0:=h
 rw[lN]at h1
 split at h1
 .
  rename_i e
  refine⟨om,λ_=>?_⟩
  unfold Go.Cmp.cmpI at h1
  split at h1
  . assumption
  split at h1<;>omega
 rename_i e
 refine⟨om,λe2=>?_⟩
 rw[e2,xz.self]at e
 exact absurd rfl e
def sp(a b:Sgd):Int:=qp a.q b.q
def mh:Cm sp:=yL Ko Sgd.q
def fq(l:List Sgd):Prop:=jT sp l
theorem Hw{α:Type}[Inhabited α]{c:α->α->Int}(h:Cm c){l:List α}(k : ∀i,0<i->i<l.length->c l[i-1]! l[i]! < 0):jT c l:=by
 induction l with
 | nil=>exact .nil
 | cons x r ih =>
  have ih:=ih λi h1 h2=>by
   have:=k (i+1) om (by simp;omega)
   obtain⟨j,rfl⟩:∃j,i=j+1:=⟨i-1,om⟩
   simpa using this
  refine YF.2 ⟨?_,ih⟩
  cases r with
  | nil=>simp
  | cons y r =>
   have h1:=k 1 (by omega) (by simp)
   have h1':c x y<0:=by simpa using h1
   intro z hz
   rcases Ym.1 hz with e|e
   . subst e;exact h1'
   have:=(YF.1 ih).1 z e;exact h.lt_le h1' om
def wD{α:Type}[Inhabited α]{c:α->α->Int}{l:List α}(h:jT c l){i j:Nat}(hij:i<j)(hj:j<l.length):c l[i]! l[j]! < 0:=by
 rw[getElem!_pos l i (by omega),getElem!_pos l j hj]
 exact ZI.1 h i j om hj hij
theorem Ex{α:Type}{c:α->α->Int}(h:Cm c):∀{l m:List α},jT c l->jT c m->(∀x,x∈l↔x∈m)->l=m
 | [],[],_,_,_=>rfl
 | [],y::s,_,_,k=>by have:=(k y).2 (by simp);simp at this
 | x::r,[],_,_,k=>by have:=(k x).1 (by simp);simp at this
 | x::r,y::s,hl,hm,k=>by
  have hl':=YF.1 hl;have hm':=YF.1 hm;have e:x=y:=by
   rcases Ym.1 ((k x).1 (by simp))with e|e
   . exact e
   rcases Ym.1 ((k y).2 (by simp))with e2|e2
   . exact e2.symm
   have h1:=hm'.1 x e;have h2:=hl'.1 y e2;have:=h.anti x y;omega
  subst e
  congr 1
  refine Ex h hl'.2 hm'.2 λz=>⟨λhz=>?_,λhz=>?_⟩
  .
   rcases Ym.1 ((k z).1 (by simp[hz]))with e|e
   . subst e;have:=hl'.1 z hz;have:=h.self z;omega
   exact e
  rcases Ym.1 ((k z).2 (by simp[hz]))with e|e
  . subst e;have:=hm'.1 z hz;have:=h.self z;omega
  exact e
def kV{α:Type}[Inhabited α]{l:List α}{x:α}:x∈l↔∃i,i<l.length/\l[i]! = x:=by
 constructor
 . intro h;obtain⟨i,hi,e⟩:=Zj h;exact⟨i,hi,by rw[getElem!_pos l i hi,e]⟩
 rintro⟨i,hi,e⟩
 rw[getElem!_pos l i hi]at e
 exact e▸YI hi
theorem eT{α:Type}[Inhabited α]{l:List α}{i:Nat}(h:i<l.length):l[i]! ∈ l:=kV.2 ⟨i,h,rfl⟩
theorem xC{α:Type}[Inhabited α]{l:List α}{p:α->Prop}:(∀x∈l,p x)↔∀i,i<l.length->p l[i]! :=
 ⟨λh i hi=>h _ (eT hi),λh x hx=>by obtain⟨i,hi,rfl⟩:=kV.1 hx;exact h i hi⟩
theorem Bn{l:List Sgd}{q:ak}{s:Sgd}(h:fC l q=some s):s∈l/\s.q=q:=by
 induction l with
 | nil=>cases h
 | cons x l ih =>
  unfold fC at h
  split at h
  . rename_i e;cases h;exact⟨by simp,e⟩
  exact⟨by simp[(ih h).1],(ih h).2⟩
theorem Df{l:List Sgd}{q:ak}:fC l q=none↔∀s∈l,s.q≠q:=by
 induction l with
 | nil=>simp[fC]
 | cons x l ih =>
  unfold fC
  split
  . rename_i e;simp[e]
  rename_i e;rw[ih];simp[e]
theorem vG{l:List Sgd}(h:fq l){s:Sgd}(hs:s∈l):fC l s.q=some s:=by
 induction l with
 | nil=>cases hs
 | cons x l ih =>
  have h':=YF.1 h;unfold fC
  rcases Ym.1 hs with e|e
  . subst e;rw[X3 rfl]
  have:=h'.1 s e;rw[XV,ih h'.2 e];intro e2;unfold sp at this;rw[zm.2 e2]at this;omega
theorem TG{l:List Sgd}(h:fq l){s:Sgd}:s∈l↔fC l s.q=some s:=⟨vG h,λh=>(Bn h).1⟩
def ZeZ{l m:List Sgd}(hl:fq l)(hm:fq m)(h : ∀q,fC l q=fC m q):l=m :=
 Ex mh hl hm λs=>by rw[TG hl,TG hm,h]
theorem Zg4(l:List Sgd)(q:ak):∀n k,l.length-k<=n->fC (l.drop k) q=if rW l q k<0 then none else some l[(rW l q k).toNat]! := by
 intro n
 induction n with
 | zero =>
  intro k h;have e:rW l q k = -1:=by rw[vL,XV (by omega)]
  rw[e,Y3 (by omega),X3 (by omega)]
  rfl
 | succ n ih =>
  intro k h;rw[vL]
  by_cases hk:k<l.length
  .
   rw[X3 hk,YC hk];unfold fC;rw[getElem!_pos l k hk]
   by_cases e:l[k].q=q
   . rw[X3 e,X3 e,XV (by omega),show((k:Int)).toNat=k by omega,getElem!_pos l k hk]
   rw[XV e,XV e,ih (k+1) (by omega)]
  rw[XV hk,Y3 (by omega),X3 (by omega)]
  rfl
def KD(l:List Sgd)(q:ak):fC l q=if dQ l q<0 then none else some l[(dQ l q).toNat]! := Zg4 l q _ 0 (XX _)
theorem Gd{l:List Sgd}{q:ak}(ho:fq l)(hn : ∀s∈l,az s.set.name=true)(hq:az q.name=true):fC l q=if dB l q=true then some l[bz l q]! else none:=by
 have hc : ∀k,k<l.length->qC l[k]!.q q=qp l[k]!.q q:=λk hk=>CX (hn _ (eT hk)) hq
 obtain⟨h1,h2⟩:=Xr (λk=>qC l[k]!.q q) l.length (λi j hij hj h=>by
   rw[hc _ (by omega)]
   rw[hc _ hj]at h
   by_cases e:i=j
   . subst e;exact h
   exact Ko.lt_le (wD ho (by omega:i<j) hj) om) _ 0 l.length (XX _) (Yi _) (XX _) (λk hk=>by omega) (λk h1 h2=>by omega)
 have h1 : ∀k,k<bz l q->qC l[k]!.q q<0:=h1
 have h2 : ∀k,bz l q<=k->k<l.length -> ¬qC l[k]!.q q<0:=h2
 have hle:bz l q<=l.length:=(OI _ _ 0 l.length (XX _) (Yi _)).1
 by_cases h:dB l q=true
 . rw[X3 h];unfold dB at h;rw[XU,XW,YB]at h;obtain⟨h3,h4⟩:=h;rw[hc _ h3,zm]at h4;have h5:=vG ho (eT h3);rw[h4]at h5;exact h5
 rw[XV h,Df]
 intro s hs e
 apply h
 obtain⟨k,hk,rfl⟩:=kV.1 hs
 have hz:qC l[k]!.q q=0:=by rw[hc _ hk,zm,e]
 have hk2:bz l q<=k:=by
  rcases YG k (bz l q)with h5|h5
  . have:=h1 k h5;omega
  exact h5
 have hk3:bz l q=k:=by
  rcases YG (bz l q) k with h5|h5
  .
   have h6:=h2 (bz l q) (XX _) (by omega)
   rw[hc _ (by omega)]at h6
   have h7:=wD ho h5 hk;have h8:qp l[bz l q]!.q l[k]!.q<0:=h7;rw[e]at h8;omega
  omega
 unfold dB
 rw[hk3,YE hk,hz]
 rfl
structure oh(z:Zon):Prop where
 apex:az z.apex=true
 wild:jE z.apex=false
 len:z.sets.length<=20000
 ok : ∀s∈z.sets,sI s.set
 und : ∀s∈z.sets,fI s.set.name z.apex
 ord:fq z.sets
def oh.nms{z:Zon}(h:oh z):∀s∈z.sets,az s.set.name=true:=λs hs=>(h.ok s hs).name
theorem Me{z:Zon}:ordered z=true↔oh z:=by
 unfold ordered
 rw[XU,XU,XU,XW,Yb,eF]
 have hO : ∀i,oM z.apex z.sets i=true↔(fB z.sets[i]!.set=true/\kC z.sets[i]!.set.name z.apex=true)/\(i=0\/qC z.sets[i-1]!.q z.sets[i]!.q<0):=by
  intro i;simp[oM]
 constructor
 .
  rintro⟨⟨⟨h1,h2⟩,h3⟩,h4⟩;have h4 : ∀i,i<z.sets.length->_:=λi hi=>(hO i).1 (h4 i (Yi _) hi)
  refine⟨h1,h2,h3,xC.2 λi hi=>(iM _).1 (h4 i hi).1.1,xC.2 λi hi=>?_,Hw mh λi h0 hi=>?_⟩
  . exact(Er ((iM _).1 (h4 i hi).1.1).name h1).1 (h4 i hi).1.2
  have h5:=(h4 i hi).2;rw[CX ((iM _).1 (h4 (i-1) (by omega)).1.1).name ((iM _).1 (h4 i hi).1.1).name]at h5
  exact h5.resolve_left om
 intro h
 refine⟨⟨⟨h.apex,h.wild⟩,h.len⟩,λi _ hi=>(hO i).2 ⟨⟨(iM _).2 (h.ok _ (eT hi)),(Er (h.nms _ (eT hi)) h.apex).2 (h.und _ (eT hi))⟩,?_⟩⟩
 by_cases e:i=0
 . exact .inl e
 right
 have hi1:i-1<z.sets.length:=by omega
 have n1:az z.sets[i-1]!.q.name=true:=h.nms _ (eT hi1)
 have n2:az z.sets[i]!.q.name=true:=h.nms _ (eT hi)
 rw[CX n1 n2]
 exact wD h.ord (by omega:i-1<i) hi
theorem Iz(a b:Sgd):lU a.set b.set=qO a.q b.q:=rfl
theorem Ze6{z:Zon}:mK z=true↔oh z:=by
 unfold mK
 rw[XU,XU,XU,XW,Yb,eF]
 have hO : ∀i,uA z.apex z.sets i=true↔(fB z.sets[i]!.set=true/\iq z.sets[i]!.set.name z.apex=true)/\(i=0\/qO z.sets[i-1]!.q z.sets[i]!.q<0):=by
  intro i;simp[uA,Iz]
 constructor
 .
  rintro⟨⟨⟨h1,h2⟩,h3⟩,h4⟩;have h4 : ∀i,i<z.sets.length->_:=λi hi=>(hO i).1 (h4 i (Yi _) hi)
  refine⟨h1,by rw[Pn h1];exact h2,h3,xC.2 λi hi=>(iM _).1 (h4 i hi).1.1,xC.2 λi hi=>?_,Hw mh λi h0 hi=>?_⟩
  . exact BD.1 (h4 i hi).1.2
  have h5:=(h4 i hi).2;rw[zn ((iM _).1 (h4 (i-1) (by omega)).1.1).name ((iM _).1 (h4 i hi).1.1).name]at h5
  exact h5.resolve_left om
 intro h
 refine⟨⟨⟨h.apex,by rw[<-Pn h.apex];exact h.wild⟩,h.len⟩,λi _ hi=>(hO i).2 ⟨⟨(iM _).2 (h.ok _ (eT hi)),BD.2 (h.und _ (eT hi))⟩,?_⟩⟩
 by_cases e:i=0
 . exact .inl e
 right
 have hi1:i-1<z.sets.length:=by omega
 have n1:az z.sets[i-1]!.q.name=true:=h.nms _ (eT hi1)
 have n2:az z.sets[i]!.q.name=true:=h.nms _ (eT hi)
 rw[zn n1 n2]
 exact wD h.ord (by omega:i-1<i) hi
theorem SB(z:Zon):ordered z=mK z:=by rw[YL,Me,Ze6]
theorem JY{z:Zon}(h:oh z){q:ak}(hq:az q.name=true):dB z.sets q=decide (0<=dQ z.sets q):=by
 have h1:=Gd h.ord h.nms hq
 have h2:=KD z.sets q
 rw[h1]at h2
 rw[YL,XW]
 by_cases e:dB z.sets q=true
 .
  rw[X3 e]at h2
  split at h2
  . cases h2
  exact⟨λ_=>by omega,λ_=>e⟩
 rw[XV e]at h2
 split at h2
 . exact⟨λh=>absurd h e,λh=>by omega⟩
 cases h2
theorem VI{z:Zon}(h:oh z){q:ak}(hq:az q.name=true)(hf:0<=dQ z.sets q):z.sets[bz z.sets q]! = z.sets[(dQ z.sets q).toNat]! := by
 have h1:=Gd h.ord h.nms hq
 have h2:=KD z.sets q
 rw[JY h hq,X3 (YE hf)]at h1
 rw[XV (by omega),h1]at h2
 exact Zt h2
theorem ZkF{z:Zon}(h:oh z):wm z=rA z:=by
 unfold wm rA
 congr 1
 have e:aA 2 (pM z) 0=(pM z 0&&pM z 1):=by
  rw[iI,X3 (by omega),iI,X3 (by omega),iI,XV (by omega),Bool.and_true]
 rw[e]
 unfold pM
 rw[JY h h.apex,JY h h.apex]
 rfl
end Go.Zon
namespace Go.Zon
open Go.DL Go.Str Go.Rec Go.Cmp
def GR{n:Nat}{p q:Nat->Bool}(h : ∀i,i<n->p i=q i):aA n p 0=aA n q 0:=by
 rw[YL,eF,eF]
 exact⟨λk i h1 h2=>by rw[<-h i h2];exact k i h1 h2,λk i h1 h2=>by rw[h i h2];exact k i h1 h2⟩
theorem XQ{n:Nat}{p:Nat->Bool}:aA n p 0=false↔∃i,i<n/\p i=false:=by
 constructor
 .
  intro h
  apply YV
  intro k;have:aA n p 0=true:=(eF _ _ _).2 λi _ hi=>by
   cases e:p i with
   | true=>rfl
   | false=>exact absurd ⟨i,hi,e⟩ k
  rw[this]at h
  cases h
 rintro⟨i,hi,h⟩
 cases e:aA n p 0 with
 | false=>rfl
 | true=>rw[(eF _ _ _).1 e i (Yi _) hi]at h;cases h
theorem ZkH{n:Nat}{p q:Nat->Bool}:aA n (λi=>p i&&q i) 0=(aA n p 0&&aA n q 0):=by
 rw[YL,XU,eF,eF,eF]
 simp only[XU]
 exact⟨λh=>⟨λi h1 h2=>(h i h1 h2).1,λi h1 h2=>(h i h1 h2).2⟩,λh i h1 h2=>⟨h.1 i h1 h2,h.2 i h1 h2⟩⟩
section
variable {z : Zon} (h : oh z)
include h
def Bd{i j:Nat}(hij:i<=j)(hj:j<z.sets.length):fZ z.sets[i]!.set.name z.sets[j]!.set.name<=0:=by
 by_cases e:i=j
 . subst e;rw[xz.self];exact Int.le_refl _
 exact(R4 (wD h.ord (by omega:i<j) hj)).1
def Mf{i j:Nat}(hij:i<j)(hj:j<z.sets.length)(e:z.sets[i]!.set.name=z.sets[j]!.set.name):z.sets[i]!.set.ty<z.sets[j]!.set.ty :=
 (R4 (wD h.ord hij hj)).2 e
def ZeY{i k j:Nat}(hik:i<=k)(hkj:k<=j)(hj:j<z.sets.length)(e:z.sets[i]!.set.name=z.sets[j]!.set.name):z.sets[k]!.set.name=z.sets[j]!.set.name:=by
 have h1:=Bd h hik (by omega)
 have h2:=Bd h hkj hj
 rw[e]at h1
 have:=xz.anti z.sets[k]!.set.name z.sets[j]!.set.name
 exact Fe om
def Mw{i:Nat}(hi:i<z.sets.length):z.sets[i]!.set.name≠[]:=by
 intro e
 have:=h.nms _ (eT hi)
 rw[e,Mx]at this
 cases this
def ty_le{i:Nat}(hi:i<z.sets.length):1<=z.sets[i]!.set.ty/\z.sets[i]!.set.ty<=8:=jM.1 (h.ok _ (eT hi)).ty
def O5(l:List Sgd):Prop:=∃i,i+1<l.length/\l[i]!.set.name=l[i+1]!.set.name/\(l[i+1]!.set.ty=3\/(l[i]!.set.ty=3/\l[i+1]!.set.ty≠8))
omit h in
theorem XR(l:List Sgd):∀k,iQ l k≠[] -> ∃j,j<k/\l[j]!.set.ty=3/\l[j]!.set.name=iQ l k
 | 0,hk=>absurd rfl hk
 | k+1,hk=>by
  unfold iQ at hk ⊢
  split at hk
  . rename_i e;exact⟨k,om,e,by rw[X3 e]⟩
  rename_i e
  obtain⟨j,h1,h2,h3⟩:=XR l k hk;exact⟨j,om,h2,by rw[XV e,h3]⟩
omit h in
def ZkJ:uW (kZ z)=false↔O5 z.sets:=by
 unfold uW
 rw[XQ]
 show(∃i,i<z.sets.length/\nZ z.sets i=false)↔_
 unfold nZ O5
 constructor
 .
  rintro⟨i,hi,k⟩;simp only[Yd,Yy,Yr,Yb,XW,X4,YB,XU,Yb,ZC,ne_eq]at k;obtain⟨k1,k2|⟨k2,k3⟩⟩:=k
  . exact⟨i-1,om,by rw[show i-1+1=i by omega];exact k2.2,.inl (by rw[show i-1+1=i by omega];exact k1)⟩
  exact⟨i,om,k2.2.symm,.inr ⟨k1,k3⟩⟩
 rintro⟨i,hi,k1,k2⟩
 rcases k2 with k2|⟨k2,k3⟩
 .
  refine⟨i+1,hi,?_⟩;have hb:(z.sets[i]!.set.name==z.sets[i+1]!.set.name)=true:=YB.2 k1;rw[YE k2,Nat.add_sub_cancel,hb,YE (show 0<i+1 by omega)]
  rfl
 refine⟨i,om,?_⟩
 have hb:(z.sets[i+1]!.set.name==z.sets[i]!.set.name)=true:=YB.2 k1.symm
 rw[YE k2,YE hi,hb,Y8 k3]
 simp
def ZbA:nA z=false↔O5 z.sets:=by
 unfold nA
 rw[XQ]
 have hp : ∀i,kT z.sets i≠[]↔(0<i/\z.sets[i-1]!.set.name=z.sets[i]!.set.name/\z.sets[i]!.set.name≠[]):=by
  intro i;unfold kT;split
  . rename_i q;exact⟨λk=>⟨q.1,q.2,k⟩,λk=>k.2.2⟩
  rename_i q;exact⟨λk=>absurd rfl k,λk=>absurd ⟨k.1,k.2.1⟩ q⟩
 have hpe : ∀i,0<i->z.sets[i-1]!.set.name=z.sets[i]!.set.name->kT z.sets i=z.sets[i]!.set.name:=λi h1 h2=>X3 ⟨h1,h2⟩
 have key : ∀i,kD z.sets i=false↔(kT z.sets i≠[]/\(z.sets[i]!.set.ty=3\/(kT z.sets i=iQ z.sets (i+1)/\z.sets[i]!.set.ty≠3/\z.sets[i]!.set.ty≠8))):=by
  intro i;unfold kD
  by_cases a1:kT z.sets i=[]<;>by_cases a2:z.sets[i]!.set.ty=3<;>by_cases a3:kT z.sets i=iQ z.sets (i+1)<;>by_cases a4:z.sets[i]!.set.ty=8<;>simp_all
 constructor
 .
  rintro⟨i,hi,k⟩;rw[key]at k;obtain⟨k1,k2⟩:=k;obtain⟨k0,k3,k4⟩:=(hp i).1 k1
  rcases k2 with k2|⟨k5,k6,k7⟩
  . exact⟨i-1,om,by rw[show i-1+1=i by omega];exact k3,.inl (by rw[show i-1+1=i by omega];exact k2)⟩
  rw[hpe i k0 k3]at k5;obtain⟨j,j1,j2,j3⟩:=XR z.sets (i+1) (by rw[<-k5];exact k4)
  rw[<-k5]at j3;have hji:j<i:=by
   rcases YG j i with e|e
   . exact e
   have:j=i:=by omega
   subst this;exact absurd j2 k6
  have hm:=ZeY h (i:=j) (k:=j+1) (j:=i) (by omega) (by omega) hi j3
  refine⟨j,om,by rw[hm,j3],.inr ⟨j2,?_⟩⟩
  have:=ty_le h hi
  by_cases e:j+1=i
  . rw[e];exact k7
  have:=Mf h (i:=j+1) (j:=i) om hi hm;omega
 rintro⟨i,hi,k1,k2⟩
 refine⟨i+1,hi,(key _).2 ⟨(hp _).2 ⟨om,k1,Mw h hi⟩,?_⟩⟩
 rcases k2 with k2|⟨k2,k3⟩
 . exact .inl k2
 have ht:=Mf h (i:=i) (j:=i+1) (by omega) hi k1
 by_cases e:z.sets[i+1]!.set.ty=3
 . exact .inl e
 refine .inr ⟨?_,e,k3⟩
 rw[hpe (i+1) (by omega) k1]
 show _=(if z.sets[i+1]!.set.ty=3 then _ else iQ z.sets (i+1))
 rw[XV e]
 show _=(if z.sets[i]!.set.ty=3 then z.sets[i]!.set.name else _)
 rw[X3 k2,k1]
theorem ZkI:uW (kZ z)=nA z:=by
 have h1:=ZkJ (z:=z)
 have h2:=ZbA h
 cases e1:uW (kZ z)<;>cases e2:nA z
 . rfl
 . rw[e1]at h1;rw[e2]at h2;have:=h2.2 (h1.1 rfl);cases this
 . rw[e1]at h1;rw[e2]at h2;have:=h1.2 (h2.1 rfl);cases this
 rfl
end
def Top(C:Str->Prop)(n c:Str):Prop:=C c/\fI n c /\ ∀c',C c'->fI c c'->c'=c
def Cx(C:Str->Prop)(n b:Str):Prop:=(b=[] /\ ∀c,C c -> ¬fI n c)\/(b≠[]/\Top C n b)
def K4{C:Str->Prop}{n c c':Str}(h:Top C n c)(h1:C c')(h2:fI n c'):fI c' c:=by
 rcases ZaX h.2.1 h2 with k|k
 . rw[h.2.2 c' h1 k];exact KX _
 exact k
def Zkf{C:Str->Prop}{n b b':Str}(h:Cx C n b)(h':Cx C n b'):b=b':=by
 rcases h with⟨h1,h2⟩|⟨h1,h2⟩<;>rcases h' with⟨k1,k2⟩|⟨k1,k2⟩
 . rw[h1,k1]
 . exact absurd k2.2.1 (h2 _ k2.1)
 . exact absurd h2.2.1 (k2 _ h2.1)
 exact PL (K4 k2 h2.1 h2.2.1) (K4 h2 k2.1 k2.2.1)
def pV(z:Zon)(c:Str):Prop:=∃i,i<z.sets.length/\z.sets[i]!.set.ty=2/\z.sets[i]!.set.name≠z.apex/\z.sets[i]!.set.name=c
theorem ZfV{m:List Str}{a b:Str}:nI (wz m a) b=true↔b=a\/nI m b=true:=by
 unfold wz
 split
 .
  rename_i h
  constructor
  . exact λk=>.inr k
  rintro (k|k)
  . rw[k];exact h
  exact k
 unfold nI
 simp only[XW,Yx,Ym,YZ,or_false]
 exact⟨λk=>k.symm,λk=>k.symm⟩
theorem WO(z:Zon)(c:Str):∀k,nI (fG z k) c=true↔∃i,i<k/\z.sets[i]!.set.ty=2/\z.sets[i]!.set.name≠z.apex/\z.sets[i]!.set.name=c
 | 0=>by simp[fG,nI]
 | k+1=>by
  have ih:=WO z c k
  by_cases e:z.sets[k]!.set.ty=2 /\ ¬z.sets[k]!.set.name=z.apex
  .
   rw[WM e,ZfV,ih]
   constructor
   .
    rintro (k1|⟨i,k1,k2⟩)
    . exact⟨k,om,e.1,e.2,k1.symm⟩
    exact⟨i,om,k2⟩
   rintro⟨i,k1,k2⟩
   by_cases e2:i=k
   . subst e2;exact .inl k2.2.2.symm
   exact .inr ⟨i,om,k2⟩
  rw[WN e,ih]
  constructor
  . rintro⟨i,k1,k2⟩;exact⟨i,om,k2⟩
  rintro⟨i,k1,k2⟩
  by_cases e2:i=k
  . subst e2;exact absurd ⟨k2.1,k2.2.1⟩ e
  exact⟨i,om,k2⟩
def WT{z:Zon}{c:Str}:nI (fG z z.sets.length) c=true↔pV z c:=WO z c _
theorem Kl(z:Zon)(c:Str):∀k,c∈lL z k↔∃i,i<k/\z.sets[i]!.set.ty=2/\z.sets[i]!.set.name≠z.apex/\z.sets[i]!.set.name=c
 | 0=>by simp[lL]
 | k+1=>by
  have ih:=Kl z c k;unfold lL
  by_cases e:z.sets[k]!.set.ty=2/\z.sets[k]!.set.name≠z.apex
  .
   rw[X3 e,Yx,ih]
   constructor
   .
    rintro (⟨i,k1,k2⟩|k1)
    . exact⟨i,om,k2⟩
    exact⟨k,om,e.1,e.2,by simpa using(Yo.1 k1).symm⟩
   rintro⟨i,k1,k2⟩
   by_cases e2:i=k
   . subst e2;exact .inr (Yo.2 k2.2.2.symm)
   exact .inl ⟨i,om,k2⟩
  rw[XV e,ih]
  constructor
  . rintro⟨i,k1,k2⟩;exact⟨i,om,k2⟩
  rintro⟨i,k1,k2⟩
  by_cases e2:i=k
  . subst e2;exact absurd ⟨k2.1,k2.2.1⟩ e
  exact⟨i,om,k2⟩
section
variable {z : Zon} (h : oh z)
include h
def Ov{c:Str}(hc:pV z c):az c=true/\c≠[]:=by
 obtain⟨i,hi,_,_,rfl⟩:=hc
 exact⟨h.nms _ (eT hi),Mw h hi⟩
theorem XB : ∀k,k<=z.sets.length->(k=0\/Cx (pV z) z.sets[k-1]!.set.name (fD (fG z z.sets.length) z.sets k).2)
 | 0,_=>.inl rfl
 | k+1,hk=>by
  have hk':k<z.sets.length:=by omega
  have hn:=h.nms _ (eT hk');have hne:=Mw h hk'
  right
  show Cx (pV z) z.sets[k]!.set.name (stepC (fG z z.sets.length) (fD (fG z z.sets.length) z.sets k).2 z.sets[k]!.set.name)
  have ih:=XB k (by omega)
  generalize hcut:(fD (fG z z.sets.length) z.sets k).2=cut at ih;generalize hN:z.sets[k]!.set.name=n at *;have A : ∀c',pV z c'->fI n c'->c'≠n->cut≠[]/\Top (pV z) n cut:=by
   intro c' hc hu hne';obtain⟨i,hi,hi2,hi3,hi4⟩:=hc;have hik:i<k:=by
    rcases YG i k with e|e
    . exact e
    have h1:=Bd h e hi;rw[hN,hi4]at h1;have h2:=KZ hu;have:=xz.anti n c';exact absurd (Fe (by omega:fZ c' n=0)) hne'
   have h1:fI z.sets[k-1]!.set.name c':=by
    refine KY hu ?_ ?_
    . rw[<-hi4];exact Bd h (by omega) (by omega)
    rw[<-hN];exact Bd h (by omega) hk'
   rcases ih with e|⟨e,e2⟩|⟨e,e2⟩
   . omega
   . exact absurd h1 (e2 _ ⟨i,hi,hi2,hi3,hi4⟩)
   have h3:=K4 e2 ⟨i,hi,hi2,hi3,hi4⟩ h1;exact⟨e,e2.1,KW hu h3,e2.2.2⟩
  have B:(∀c',pV z c'->fI n c'->c'=n)->Cx (pV z) n (if nI (fG z z.sets.length) n=true then n else[]):=by
   intro hall
   by_cases e:nI (fG z z.sets.length) n=true
   . rw[X3 e];exact .inr ⟨hne,WT.1 e,KX _,hall⟩
   rw[XV e];exact .inl ⟨rfl,λc hc hu=>e (by rw[hall c hc hu]at hc;exact WT.2 hc)⟩
  unfold stepC;dsimp only
  by_cases e1:cut≠[]/\kC n cut=false
  .
   rw[X3 e1];have hCc:pV z cut:=by
    rcases ih with e|⟨e,_⟩|⟨_,e⟩
    . subst e;exact absurd (show cut=[]from hcut.symm) e1.1
    . exact absurd e e1.1
    exact e.1
   have hall : ∀c',pV z c'->fI n c'->c'=n:=by
    intro c' hc hu
    apply YV
    intro hne';obtain⟨_,a2⟩:=A c' hc hu hne';have:=(Er hn (Ov h hCc).1).2 a2.2.1;rw[e1.2]at this;cases this
   have:=B hall
   by_cases e:nI (fG z z.sets.length) n=true
   . rw[X3 ⟨rfl,e⟩];rw[X3 e]at this;exact this
   rw[XV (λq=>e q.2)];rw[XV e]at this;exact this
  rw[XV e1]
  by_cases e2:cut=[]
  .
   have hall : ∀c',pV z c'->fI n c'->c'=n:=by
    intro c' hc hu
    apply YV
    intro hne';exact(A c' hc hu hne').1 e2
   have:=B hall
   by_cases e:nI (fG z z.sets.length) n=true
   . rw[X3 ⟨e2,e⟩];rw[X3 e]at this;exact this
   rw[XV (λq=>e q.2),e2];rw[XV e]at this;exact this
  rw[XV (λq=>e2 q.1)]
  have hT:Top (pV z) z.sets[k-1]!.set.name cut:=by
   rcases ih with e|⟨e,_⟩|⟨_,e⟩
   . subst e;exact absurd (show cut=[]from hcut.symm) e2
   . exact absurd e e2
   exact e
  have hu:kC n cut=true:=by
   cases e:kC n cut with
   | true=>rfl
   | false=>exact absurd ⟨e2,e⟩ e1
  exact .inr ⟨e2,hT.1,(Er hn (Ov h hT.1).1).1 hu,hT.2.2⟩
omit h in
theorem Zkg(m:List Str)(l:List Sgd):∀n k,k<n->(fD m l n).1[k]! = (fD m l (k+1)).2:=by
 intro n
 induction n with
 | zero=>intro k h;omega
 | succ n ih =>
  intro k h;have hl:=Ap m l n;have e1:(fD m l (n+1)).1=(fD m l n).1++[(fD m l (n+1)).2]:=rfl
  by_cases e:k=n
  . subst e;rw[e1];simp[hl]
  rw[<-ih k (by omega),e1,getElem!_pos _ _ (by simp[hl];omega),getElem!_pos _ _ (by omega),List.getElem_append_left]
def Zkj{k:Nat}(hk:k<z.sets.length):Cx (pV z) z.sets[k]!.set.name (Eb z)[k]! := by
 unfold Eb
 rw[Zkg _ _ _ _ hk]
 exact(XB h (k+1) hk).resolve_left om
theorem WP : ∀k,k<=z.sets.length->jT fZ (lL z k)
 | 0,_=>.nil
 | k+1,hk=>by
  have ih:=WP k (by omega)
  unfold lL
  split
  .
   rename_i e
   refine Zf.2 ⟨ih,Z7 _ _,λa ha b hb=>?_⟩
   rw[Yo]at hb;subst hb;obtain⟨i,hi,hi2,hi3,rfl⟩:=(Kl z a k).1 ha;have h1:=Bd h (show i<=k by omega) (by omega)
   by_cases e2:fZ z.sets[i]!.set.name z.sets[k]!.set.name=0
   . have:=Mf h hi om (Fe e2);omega
   omega
  exact ih
structure High(cs hs:List Str):Prop where
 sub : ∀x∈hs,x∈cs
 cov : ∀c∈cs,∃x∈hs,fI c x
 pair:hs.Pairwise λa b=>fZ a b<0 /\ ¬fI b a
omit h in
def Uj{α:Type}[Inhabited α]{l:List α}(h:l≠[]):l[l.length-1]! ∈ l:=eT (by have:=Zy.2 h;omega)
omit h in
theorem rE!{α:Type}[Inhabited α]{l:List α}{k:Nat}(h:k<l.length):l.take (k+1)=l.take k++[l[k]!]:=by
 rw[Zg,Yg h,getElem!_pos l k h]
 rfl
omit h in
def ZeT{α:Type}[Inhabited α]{r:α->α->Prop}{l:List α}(h:l.Pairwise r){x:α}(hx:x∈l):x=l[l.length-1]! \/ r x l[l.length-1]! := by
 obtain⟨i,hi,rfl⟩:=kV.1 hx
 by_cases e:i=l.length-1
 . left;rw[<-e]
 right
 rw[getElem!_pos l i hi,getElem!_pos l _ (by omega)]
 exact ZI.1 h i (l.length-1) hi om om
omit h in
theorem U3{cs:List Str}(hc:jT fZ cs):∀k,k<=cs.length->High (cs.take k) (dW cs k)
 | 0,_=>⟨λx hx=>(by simp[dW]at hx),λc hc=>(by simp at hc),(by simp[dW])⟩
 | k+1,hk=>by
  have ih:=U3 hc k (by omega)
  have hkl:k<cs.length:=by omega
  have ht:cs.take (k+1)=cs.take k++[cs[k]!]:=rE! hkl;have hlt : ∀x∈cs.take k,fZ x cs[k]! < 0:=by
   intro x hx;obtain⟨i,hi,e⟩:=kV.1 hx;rw[YA]at hi;have e2:(cs.take k)[i]! = cs[i]! := by
    rw[getElem!_pos _ _ (by rw[YA];omega),getElem!_pos _ _ (by omega),List.getElem_take]
   rw[<-e,e2];exact wD hc om hkl
  unfold dW
  by_cases e:dW cs k=[]\/iq cs[k]! (dW cs k)[(dW cs k).length-1]! = false
  .
   rw[X3 e,ht];refine⟨λx hx=>?_,λc hc'=>?_,Zf.2 ⟨ih.pair,Z7 _ _,λa ha b hb=>?_⟩⟩
   .
    rcases Yx.1 hx with hx|hx
    . exact ZT _ (ih.sub x hx)
    exact List.mem_append_right _ hx
   .
    rcases Yx.1 hc' with hc'|hc'
    . obtain⟨x,hx,hu⟩:=ih.cov c hc';exact⟨x,ZT _ hx,hu⟩
    exact⟨c,List.mem_append_right _ hc',KX _⟩
   rw[Yo]at hb;subst hb;refine⟨hlt a (ih.sub a ha),λhu=>?_⟩
   have hne:dW cs k≠[]:=λq=>by rw[q]at ha;cases ha
   have hin:=e.resolve_left hne;have hnl : ¬fI cs[k]! (dW cs k)[(dW cs k).length-1]! := λq=>by rw[BD.2 q]at hin;cases hin
   rcases ZeT ih.pair ha with q|q
   . rw[<-q]at hnl;exact hnl hu
   have hl:=hlt _ (ih.sub _ (Uj hne));exact q.2 (KY hu om om)
  rw[XV e,ht];have hne:dW cs k≠[]:=λq=>e (.inl q)
  have hin:fI cs[k]! (dW cs k)[(dW cs k).length-1]! := by
   apply BD.1
   cases q:iq cs[k]! (dW cs k)[(dW cs k).length-1]! with
   | true=>rfl
   | false=>exact absurd (.inr q) e
  refine⟨λx hx=>ZT _ (ih.sub x hx),λc hc'=>?_,ih.pair⟩
  rcases Yx.1 hc' with hc'|hc'
  . exact ih.cov c hc'
  rw[Yo]at hc';subst hc';exact⟨_,Uj hne,hin⟩
def Zhs:(∀x∈bY z,pV z x)/\(∀c,pV z c -> ∃x∈bY z,fI c x)/\(bY z).Pairwise λa b=>fZ a b<0 /\ ¬fI b a:=by
 have hh:=U3 (WP h z.sets.length (XX _)) _ (XX _)
 rw[Yn]at hh
 exact⟨λx hx=>(Kl z x _).1 (hh.sub x hx),λc hc=>hh.cov c ((Kl z c _).2 hc),hh.pair⟩
omit h in
theorem ZkK(hs:List Str)(n:Str):∀m i,hs.length-i<=m->i<=hs.length->(∀k,k<i->fZ hs[k]! n<=0)->(∀k,k<sH hs n i->fZ hs[k]! n<=0)/\(sH hs n i<hs.length -> ¬fZ hs[sH hs n i]! n<=0):=by
 intro m
 induction m with
 | zero=>intro i h1 h2 h3;rw[Ar,XV (by omega)];exact⟨h3,λh=>by omega⟩
 | succ m ih =>
  intro i h1 h2 h3;rw[Ar]
  by_cases e:i<hs.length
  .
   rw[X3 e]
   by_cases e2:fZ hs[i]! n<=0
   .
    rw[X3 e2];refine ih (i+1) om om λk hk=>?_
    by_cases e3:k=i
    . subst e3;exact e2
    exact h3 k om
   rw[XV e2];exact⟨h3,λ_=>e2⟩
  rw[XV e];exact⟨h3,λh=>absurd h e⟩
theorem XT(hs:List Str):∀k,k<=z.sets.length->iJ hs z.sets k<=hs.length/\(0<k->(∀i,i<iJ hs z.sets k->fZ hs[i]! z.sets[k-1]!.set.name<=0)/\(iJ hs z.sets k<hs.length -> ¬fZ hs[iJ hs z.sets k]! z.sets[k-1]!.set.name<=0))
 | 0,_=>⟨Yi _,λh=>by omega⟩
 | k+1,hk=>by
  obtain⟨h1,h2⟩:=XT hs k om;have h3 : ∀i,i<iJ hs z.sets k->fZ hs[i]! z.sets[k]!.set.name<=0:=by
   intro i hi
   by_cases e:k=0
   . subst e;exact absurd hi (Nat.not_lt_zero _)
   exact xz.tr _ _ _ ((h2 om).1 i hi) (Bd h om om)
  exact⟨(ZkL hs _ _ _ (XX _) h1).2,λ_=>ZkK hs z.sets[k]!.set.name _ _ (XX _) h1 h3⟩
omit h in
theorem Zki(hs:List Str)(l:List Sgd):∀n k,k<n->(mi hs l n)[k]! = jB hs l[k]!.set.name (iJ hs l (k+1)):=by
 intro n
 induction n with
 | zero=>intro k h;omega
 | succ n ih =>
  intro k h;have hl:=yR hs l n;have e1:mi hs l (n+1)=mi hs l n++[jB hs l[n]!.set.name (iJ hs l (n+1))]:=rfl
  by_cases e:k=n
  . subst e;rw[e1];simp[hl]
  rw[<-ih k (by omega),e1,getElem!_pos (mi hs l n++_) k (by simp[hl];omega),getElem!_pos (mi hs l n) k (by omega),List.getElem_append_left]
def Zkh{k:Nat}(hk:k<z.sets.length):Cx (pV z) z.sets[k]!.set.name (gI z)[k]! := by
 unfold gI
 rw[Zki _ _ _ _ hk]
 obtain⟨g1,g2,g3⟩:=Zhs h
 obtain⟨a1,a2⟩:=XT h (bY z) (k+1) hk
 obtain⟨a3,a4⟩:=a2 om
 rw[show k+1-1=k from rfl]at a3 a4
 generalize iJ (bY z) z.sets (k+1)=j at *
 generalize z.sets[k]!.set.name=n at *
 have pr : ∀i i',i<i'->i'<(bY z).length->fZ (bY z)[i]! (bY z)[i']! < 0 /\ ¬fI (bY z)[i']! (bY z)[i]! := by
  intro i i' h1 h2;rw[getElem!_pos _ i (by omega),getElem!_pos _ i' h2]
  exact ZI.1 g3 i i' om h2 h1
 unfold jB
 by_cases e:0<j/\iq n (bY z)[j-1]! = true
 .
  rw[X3 e];have hm:(bY z)[j-1]! ∈ bY z:=eT om;refine .inr ⟨(Ov h (g1 _ hm)).2,g1 _ hm,BD.1 e.2,λc' hc' hu=>?_⟩
  obtain⟨x,hx,hxu⟩:=g2 c' hc';have fM:fI (bY z)[j-1]! x:=KW hu hxu;obtain⟨i,hi,rfl⟩:=kV.1 hx;have hij:i=j-1:=by
   rcases Nat.lt_trichotomy i (j-1)with q|q|q
   . exact absurd fM (pr i (j-1) q om).2
   . exact q
   have:=(pr (j-1) i q hi).1;have:=KZ fM;have:=xz.anti (bY z)[j-1]! (bY z)[i]!;omega
  rw[hij]at hxu;exact PL hxu hu
 rw[XV e]
 refine .inl ⟨rfl,λc hc hu=>?_⟩
 obtain⟨x,hx,hxu⟩:=g2 c hc
 have hnx:fI n x:=KW hu hxu
 obtain⟨i,hi,rfl⟩:=kV.1 hx
 have hle:=KZ hnx
 have hij:i<j:=by
  rcases YG i j with q|q
  . exact q
  exfalso
  have h5:=a4 (by omega)
  by_cases q2:i=j
  . subst q2;exact h5 hle
  have h6:=(pr j i (by omega) hi).1
  exact h5 (xz.tr _ _ _ om hle)
 by_cases q:i=j-1
 . exact e ⟨om,by rw[<-q];exact BD.2 hnx⟩
 have h6:=pr i (j-1) (by omega) (by omega)
 exact h6.2 (KY hnx om (a3 (j-1) om))
theorem XC:Eb z=gI z:=by
 have l1:(Eb z).length=z.sets.length:=Ap _ _ _
 have l2:(gI z).length=z.sets.length:=yR _ _ _
 exact Di! om λi hi=>Zkf (Zkj h om) (Zkh h om)
theorem ZhX:(zZ (kZ z)&&Ab (kZ z))=tV z:=by
 unfold tV xk zZ Ab kZ
 rw[ZkH,XC h,Bool.and_comm]
theorem ZjI:qY (kZ z)=si z:=by
 unfold si kZ
 rw[XC h]
end
theorem sK(z:Zon):aJ z=jl z:=by
 unfold aJ jl
 by_cases e:ordered z=true
 . have h:=Me.1 e;rw[<-SB,ZkF h,ZkI h,ZjI h,<-ZhX h];simp only[ZZ]
 rw[<-SB]
 have:ordered z=false:=by simpa using e
 rw[this]
 simp
def lM{z:Zon}(h:aJ z=true):oh z:=by
 unfold aJ at h
 simp only[XU]at h
 exact Me.1 h.1.1.1.1.1
theorem AU{z:Zon}(h:aJ z=true):aM z=dz z:=by
 have ho:=lM h
 unfold aM dz
 rw[VI ho (q:=⟨z.apex,4⟩) ho.apex (EP (by rw[<-sK];exact h))]
end Go.Zon
namespace Go.Zon
open Go.DL Go.Str Go.Rec Go.Cmp
def ZmN{kv:List D}:(D.fmap kv).cells=[.fmap kv]:=rfl
def one_fmap{kv:List D}:(D.fmap kv).one=true:=rfl
def cells_mp{r:Nat}:(D.mp r).cells=[.mp r]:=rfl
def one_mp{r:Nat}:(D.mp r).one=true:=rfl
def one_map{o:Option Nat}:(D.v (.map o)).one=true:=rfl
attribute[go_sem]ZmN one_fmap cells_mp one_mp one_map
def Te{m:PM}:bC [.fmap (jg m)]=true:=by simp only[bC,D.nr,Zfn,ZH]
def Zfo{m:PZ}:bC [.fmap (qw m)]=true:=by simp only[bC,D.nr,Td,ZH]
def sJ{z:Zon}(h:aJ z=true):fO z.sets:=Zd2 (by rw[<-sK];exact h)
theorem ZfJ{m:List Sgd}{s x:Sgd}(h:x∈wT m s):x=s\/x∈m:=by
 induction m with
 | nil=>simp[wT]at h;exact .inl h
 | cons y m ih =>
  unfold wT at h
  split at h
  .
   rcases Ym.1 h with e|e
   . exact .inl e
   exact .inr (by simp[e])
  rcases Ym.1 h with e|e
  . exact .inr (by simp[e])
  exact(ih e).imp id λk=>by simp[k]
theorem TJ{l:List Sgd}{x:Sgd}:∀k,k<=l.length->x∈uC l k->x∈l
 | 0,_,h=>by simp[uC]at h
 | k+1,hk,h=>by
  rcases ZfJ h with e|e
  . rw[e];exact eT (by omega)
  exact TJ k om e
def TL{l:List Sgd}{q:ak}{x:Sgd}(h:fu (kY l) q=some x):x∈l/\x.q=q:=by
 rw[Sm]at h
 obtain⟨h1,h2⟩:=Bn h
 exact⟨TJ _ (XX _) h1,h2⟩
def JV{l:List Sgd}(h:fO l){x:Sgd}(hx:x∈l):tX x:=by
 obtain⟨i,hi,rfl⟩:=kV.1 hx
 exact h.2 i hi
def NP{l:List Sgd}(hl:l.length<=1000000)(h : ∀x∈l,tX x):fO l:=⟨hl,λk hk=>h _ (eT hk)⟩
theorem TK{l:List Sgd}{q:ak}:∀k,k<=l.length->((fC (uC l k) q).isSome=true↔∃s∈l.take k,s.q=q)
 | 0,_=>by simp[uC,fC]
 | k+1,hk=>by
  have ih:=TK (l:=l) (q:=q) k (by omega)
  have e:l.take (k+1)=l.take k++[l[k]!]:=by
   rw[Zg,Yg (by omega),getElem!_pos l k (by omega)];rfl
  show(fC (wT (uC l k) l[k]!) q).isSome=true↔_
  rw[ZfK,e]
  by_cases h2:l[k]!.q=q
  . rw[X3 h2];exact⟨λ_=>⟨l[k]!,by simp,h2⟩,λ_=>rfl⟩
  rw[XV h2,ih]
  constructor
  . rintro⟨s,h3,h4⟩;exact⟨s,ZT _ h3,h4⟩
  rintro⟨s,h3,h4⟩
  rcases Yx.1 h3 with h5|h5
  . exact⟨s,h5,h4⟩
  rw[Yo]at h5;subst h5;exact absurd h4 h2
theorem Ff{l:List Sgd}{q:ak}:(fu (kY l) q).isSome=true↔∃s∈l,s.q=q:=by
 rw[Sm]
 unfold Bp
 rw[TK _ (XX _),Yn]
theorem ZhE{put:List Sgd}{drop:List ak}{q:ak}:(fu (DF put drop) q).isSome=true↔(q∈drop \/ ∃s∈put,s.q=q):=by
 unfold DF
 rw[Ve _ _ _ _ (XX _),Yn,Zae,Ff]
def leS(a b:Sgd):Bool:=decide (sp a b<=0)
def leQ(a b:ak):Bool:=decide (qp a b<=0)
def Dp{α:Type}(le:α->α->Bool)(a:α):List α->List α
 | []=>[a]
 | b::l=>if le a b then a::b::l else b::Dp le a l
def H5{α:Type}(le:α->α->Bool)(l:List α):List α:=l.foldr (Dp le) []
theorem UT{α:Type}(le:α->α->Bool)(a:α)(l:List α):(Dp le a l).Perm (a::l):=by
 induction l with
 | nil=>exact .refl _
 | cons b l ih =>
  unfold Dp
  split
  . exact .refl _
  exact(List.Perm.cons b ih).trans (List.Perm.swap a b l)
theorem Zcs{α:Type}(le:α->α->Bool)(l:List α):(H5 le l).Perm l:=by
 induction l with
 | nil=>exact .refl _
 | cons a l ih=>exact(UT le a _).trans (List.Perm.cons a ih)
theorem Zhj{α:Type}{le:α->α->Bool}(tr : ∀a b c,le a b=true->le b c=true->le a c=true)(tot : ∀a b,(le a b||le b a)=true)(a:α)(l:List α)(h:l.Pairwise λa b=>le a b=true):(Dp le a l).Pairwise λa b=>le a b=true:=by
 induction l with
 | nil=>exact Z7 _ _
 | cons b l ih =>
  have h':=YF.1 h;unfold Dp
  split
  .
   rename_i e
   refine YF.2 ⟨λz hz=>?_,h⟩
   rcases Ym.1 hz with q|q
   . rw[q];exact e
   exact tr a b z e (h'.1 z q)
  rename_i e
  refine YF.2 ⟨λz hz=>?_,ih h'.2⟩
  rcases Ym.1 ((UT le a l).mem_iff.1 hz)with q|q
  . rw[q];have:=tot a b;rw[Yc]at this;exact this.resolve_left e
  exact h'.1 z q
theorem Zcr{α:Type}{le:α->α->Bool}(tr : ∀a b c,le a b=true->le b c=true->le a c=true)(tot : ∀a b,(le a b||le b a)=true)(l:List α):(H5 le l).Pairwise λa b=>le a b=true:=by
 induction l with
 | nil=>exact .nil
 | cons a l ih=>exact Zhj tr tot a _ ih
def iU(l:List Sgd):List Sgd:=H5 leS l
def sortQ(l:List ak):List ak:=H5 leQ l
def ZjX{α:Type}{c:α->α->Int}(h:Cm c)(a b:α):(decide (c a b<=0)||decide (c b a<=0))=true:=by
 have:=h.anti a b
 by_cases e:c a b<=0
 . simp[e]
 have:c b a<=0:=by omega
 simp[this]
theorem HY(l:List Sgd):(iU l).Perm l:=Zcs _ l
def Zcp(l:List Sgd):(iU l).Pairwise λa b=>sp a b<=0 :=
 (Zcr (le:=leS) (λa b c h1 h2=>YE (mh.tr a b c (YN h1) (YN h2))) (λa b=>ZjX mh a b) l).imp λh=>YN h
def Once(l:List Sgd):Prop:=l.Pairwise λa b=>a.q≠b.q
def SS{l m:List Sgd}(h:Once l)(p:m.Perm l):Once m:=p.symm.pairwise h λe=>e.symm
def SC{l:List Sgd}(h:fq l):Once l:=h.imp λ{a b}k e=>by unfold sp at k;rw[zm.2 e]at k;omega
def SQ{l:List Sgd}(h:Once l)(hs:l.Pairwise λa b=>sp a b<=0):fq l:=(hs.and h).imp λ{a b}k=>by
 by_cases e:sp a b=0
 . exact absurd (zm.1 e) k.2
 have:=k.1;omega
def Qt{l:List Sgd}(h:Once l):fq (iU l):=SQ (SS h (HY l)) (Zcp l)
theorem Zcq{l m:List Sgd}(ho:Once l)(hp:m.Perm l)(hs:m.Pairwise λa b=>sp a b<=0):m=iU l :=
 Ex mh (SQ (SS ho hp) hs) (Qt ho) λx=>by rw[hp.mem_iff,(HY l).mem_iff]
theorem Ll{l:List Sgd}{x:Sgd}:x∈iU l↔x∈l:=(HY l).mem_iff
theorem HZ(l:List Sgd):(iU l).length=l.length:=(HY l).length_eq
def ZdM{α:Type}{d:α->List D}{of:List D->α}(hof : ∀x,of (d x)=x){l:List α}{rows:List (List D)}(p:rows.Perm (l.map d)):(rows.map of).map d=rows/\(rows.map of).Perm l:=by
 constructor
 .
  rw[List.map_map]
  conv=>rhs;rw[<-List.map_id rows]
  refine Zd λx hx=>?_
  obtain⟨y,_,rfl⟩:=Yt.1 (p.mem_iff.1 hx)
  show d (of (d y))=d y
  rw[hof]
 have:=p.map of
 rwa [kW hof]at this
structure DOk(d:aG):Prop where
 apex:az d.apex=true
 wild:jE d.apex=false
 frm:iB d.frm=true
 too:iB d.too=true
 bef:gZ d.frm d.too=true
 dlen:d.drop.length<=20000
 plen:d.put.length<=20000
 dok : ∀q∈d.drop,qi q=true
 dord:jT qp d.drop
 pok : ∀s∈d.put,sI s.set
 pord:fq d.put
 apart : ∀s∈d.put,s.q ∉ d.drop
theorem wN{q:ak}(h:qi q=true):az q.name=true:=by unfold qi at h;rw[XU]at h;exact h.1
def yJ{d:aG}:fU d=true↔DOk d:=by
 have hd : ∀i,DV d.drop i=true↔(qi d.drop[i]! = true/\(i=0\/qO d.drop[i-1]! d.drop[i]! < 0)):=by intro i;simp[DV]
 have hp : ∀i,putAt d i=true↔((fB d.put[i]!.set=true/\(i=0\/qO d.put[i-1]!.q d.put[i]!.q<0))/\pK d.drop d.put[i]!.q=false):=by intro i;simp[putAt]
 unfold fU
 simp only[XU,Yb,XW,eF]
 constructor
 .
  rintro⟨⟨⟨⟨⟨⟨⟨⟨h1,h2⟩,h3⟩,h4⟩,h5⟩,h6⟩,h7⟩,h8⟩,h9⟩;have h8 : ∀i,i<d.drop.length->_:=λi hi=>(hd i).1 (h8 i (Yi _) hi)
  have h9 : ∀i,i<d.put.length->_:=λi hi=>(hp i).1 (h9 i (Yi _) hi)
  refine⟨h1,h2,h3,h4,h5,h6,h7,xC.2 λi hi=>(h8 i hi).1,Hw Ko λi h0 hi=>?_,xC.2 λi hi=>(iM _).1 (h9 i hi).1.1,Hw mh λi h0 hi=>?_,xC.2 λi hi=>of_decide_eq_false (h9 i hi).2⟩
  . have:=(h8 i hi).2.resolve_left om;rwa [zn (wN (h8 (i-1) om).1) (wN (h8 i hi).1)]at this
  have:=(h9 i hi).1.2.resolve_left om;have n1:az d.put[i-1]!.q.name=true:=((iM _).1 (h9 (i-1) om).1.1).name;have n2:az d.put[i]!.q.name=true:=((iM _).1 (h9 i hi).1.1).name;rwa [zn n1 n2]at this
 intro h
 refine⟨⟨⟨⟨⟨⟨⟨⟨h.apex,h.wild⟩,h.frm⟩,h.too⟩,h.bef⟩,h.dlen⟩,h.plen⟩,λi _ hi=>(hd i).2 ⟨h.dok _ (eT hi),?_⟩⟩,λi _ hi=>(hp i).2 ⟨⟨(iM _).2 (h.pok _ (eT hi)),?_⟩,Y8 (h.apart _ (eT hi))⟩⟩
 .
  by_cases e:i=0
  . exact .inl e
  right
  rw[zn (wN (h.dok _ (eT (by omega)))) (wN (h.dok _ (eT hi)))]
  exact wD h.dord om hi
 by_cases e:i=0
 . exact .inl e
 right
 have n1:az d.put[i-1]!.q.name=true:=(h.pok _ (eT (show i-1<d.put.length by omega))).name
 have n2:az d.put[i]!.q.name=true:=(h.pok _ (eT hi)).name
 rw[zn n1 n2]
 exact wD h.pord om hi
def uP(l:List ak)(i:Nat):Bool:=qi l[i]! && (decide (i=0)||decide (qC l[i-1]! l[i]! < 0))
def ut(d:aG)(i:Nat):Bool:=fB d.put[i]!.set && !pK d.drop d.put[i]!.q&&(decide (i=0)||decide (qC d.put[i-1]!.q d.put[i]!.q<0))
def xx(d:aG):Bool:=az d.apex && !jE d.apex&&iB d.frm&&iB d.too&&gZ d.frm d.too&&decide (d.drop.length<=20000)&&decide (d.put.length<=20000)&&aA d.drop.length (uP d.drop) 0&&aA d.put.length (ut d) 0
theorem Aj(d:aG):xx d=fU d:=by
 have e1:aA d.drop.length (uP d.drop) 0=aA d.drop.length (DV d.drop) 0:=by
  rw[YL,eF,eF];have hC : ∀i,uP d.drop i=true↔(qi d.drop[i]! = true/\(i=0\/qC d.drop[i-1]! d.drop[i]! < 0)):=by intro i;simp[uP]
  have hO : ∀i,DV d.drop i=true↔(qi d.drop[i]! = true/\(i=0\/qO d.drop[i-1]! d.drop[i]! < 0)):=by intro i;simp[DV]
  constructor
  .
   intro h i _ hi;have h1:=(hC i).1 (h i (Yi _) hi);have h2:=(hC (i-1)).1 (h (i-1) (Yi _) (by omega))
   exact(hO i).2 ⟨h1.1,h1.2.imp id λk=>by rwa [<-ET (wN h2.1) (wN h1.1)]⟩
  intro h i _ hi;have h1:=(hO i).1 (h i (Yi _) hi);have h2:=(hO (i-1)).1 (h (i-1) (Yi _) (by omega))
  exact(hC i).2 ⟨h1.1,h1.2.imp id λk=>by rwa [ET (wN h2.1) (wN h1.1)]⟩
 have e2:aA d.put.length (ut d) 0=aA d.put.length (putAt d) 0:=by
  rw[YL,eF,eF];have hC : ∀i,ut d i=true↔((fB d.put[i]!.set=true/\pK d.drop d.put[i]!.q=false)/\(i=0\/qC d.put[i-1]!.q d.put[i]!.q<0)):=by intro i;simp[ut]
  have hO : ∀i,putAt d i=true↔((fB d.put[i]!.set=true/\(i=0\/qO d.put[i-1]!.q d.put[i]!.q<0))/\pK d.drop d.put[i]!.q=false):=by intro i;simp[putAt]
  have nm : ∀i:Nat,fB d.put[i]!.set=true->az d.put[i]!.q.name=true:=λi h=>((iM _).1 h).name
  constructor
  .
   intro h i _ hi;have h1:=(hC i).1 (h i (Yi _) hi);have h2:=(hC (i-1)).1 (h (i-1) (Yi _) (by omega))
   exact(hO i).2 ⟨⟨h1.1.1,h1.2.imp id λk=>by rwa [<-ET (nm _ h2.1.1) (nm _ h1.1.1)]⟩,h1.1.2⟩
  intro h i _ hi;have h1:=(hO i).1 (h i (Yi _) hi);have h2:=(hO (i-1)).1 (h (i-1) (Yi _) (by omega))
  exact(hC i).2 ⟨⟨h1.1.1,h1.2⟩,h1.1.2.imp id λk=>by rwa [ET (nm _ h2.1.1) (nm _ h1.1.1)]⟩
 unfold xx fU
 rw[e1,e2]
def uD(m:List ak):List D:=m.flatMap λq=>[.agg q.d,.b true]
theorem Fj(q:ak)(m:List ak):uD (q::m) = .agg q.d :: .b true::uD m:=rfl
@[go_sem]theorem kvS_nil:uD []=[]:=rfl
def uq(m:List ak)(q:ak):List ak:=if pK m q then m else m++[q]
theorem ZgE{m:List ak}{q:ak}:(kK (uD m) (.agg q.d)).getD (.v (.bool false)) = .v (.bool (pK m q)):=by
 induction m with
 | nil=>rfl
 | cons s m ih =>
  rw[Fj];simp only[kK,Fq]
  by_cases h:q=s
  . subst h;simp[pK]
  simp only[h,decide_false,Yp,Za,ih,pK,Ym,false_or]
@[go_sem]theorem kvGetD_S{m:List ak}{q:ak}:(kK (uD m) (.agg [.v (.string (bs q.name)),.i q.ty])).getD (.v (.bool false)) = .v (.bool (pK m q)):=ZgE
theorem Zgx{m:List ak}{q:ak}:jq (uD m) (.agg q.d) (.v (.bool true))=uD (uq m q):=by
 induction m with
 | nil=>rfl
 | cons s m ih =>
  rw[Fj];simp only[jq,Fq]
  by_cases h:q=s
  .
   subst h;have:uq (q::m) q=q::m:=by simp[uq,pK]
   rw[this,Fj]
   simp
  have h2:uq (s::m) q=s::uq m q:=by
   unfold uq pK
   by_cases e:q∈m<;>simp[h,e]
  rw[h2,Fj];simp only[h,decide_false,Yp,Za,ih]
@[go_sem]theorem kvSet_S{m:List ak}{q:ak}:jq (uD m) (.agg [.v (.string (bs q.name)),.i q.ty]) (.v (.bool true))=uD (uq m q):=Zgx
def xO(l:List ak):Nat->List ak
 | 0=>[]
 | k+1=>uq (xO l k) l[k]!
@[go_sem]theorem qsTo_0{l:List ak}:xO l 0=[]:=rfl
theorem Zeo{m:List ak}{q x:ak}:x∈uq m q↔x=q\/x∈m:=by
 unfold uq pK
 by_cases e:q∈m
 . simp only[e,decide_true,Zn];exact⟨λh=>.inr h,λh=>h.elim (λk=>k▸e) id⟩
 simp only[e,decide_false,Yp,Za,Yx,Yo]
 exact⟨λh=>h.symm,λh=>h.symm⟩
theorem R3{l:List ak}{x:ak}:∀k,k<=l.length->(x∈xO l k↔x∈l.take k)
 | 0,_=>by simp[xO]
 | k+1,hk=>by
  have e:l.take (k+1)=l.take k++[l[k]!]:=by
   rw[Zg,Yg (by omega),getElem!_pos l k (by omega)];rfl
  show x∈uq _ _↔_
  rw[Zeo,R3 k (by omega),e,Yx,Yo]
  exact⟨λh=>h.symm,λh=>h.symm⟩
@[go_sem]theorem ask_qs{l:List ak}{q:ak}:pK (xO l l.length) q=pK l q:=by
 unfold pK
 rw[ZP,R3 _ (XX _),Yn]
def lh(a b:Zon):aG×Int :=
 if aJ a=false\/aJ b=false\/a.apex≠b.apex then(qV,1)else if gZ (aM a) (aM b)=false then(qV,23)else
 (⟨a.apex,aM a,aM b,a.sets.filterMap (mg (kY b.sets)),b.sets.filterMap (ll (kY a.sets))⟩,0)
def gF(z:Zon)(d:aG):List Sgd:=z.sets.filterMap (lJ (DF d.put d.drop))
def nE(z:Zon)(d:aG):Zon:=⟨z.apex,iU (gF z d++d.put)⟩
def eD(z:Zon)(d:aG):Zon×Int :=
 if aJ z=false\/fU d=false\/z.apex≠d.apex then(dH,1)else if aM z≠d.frm then(dH,23)else
 if 20000<(gF z d).length+d.put.length then(dH,2)else
 if aJ (nE z d)=false\/aM (nE z d)≠d.too then(dH,35)else(nE z d,0)
theorem ZhG{m:PM}{l:List Sgd}{x:Sgd}:x∈l.filterMap (lJ m)↔x∈l/\fu m x.q=none:=by
 rw[Zw]
 unfold lJ oZ
 constructor
 .
  rintro⟨y,hy,h⟩
  cases e:fu m y.q with
  | none=>simp[e]at h;subst h;exact⟨hy,e⟩
  | some v=>simp[e]at h
 rintro⟨h1,h2⟩;exact⟨x,h1,by simp[h2]⟩
theorem EA{z:Zon}{d:aG}{x:Sgd}:x∈gF z d↔x∈z.sets/\x.q ∉ d.drop /\ ∀s∈d.put,s.q≠x.q:=by
 unfold gF
 rw[ZhG]
 have:fu (DF d.put d.drop) x.q=none↔¬(fu (DF d.put d.drop) x.q).isSome=true:=by cases fu (DF d.put d.drop) x.q<;>simp
 rw[this,ZhE]
 constructor
 . rintro⟨h1,h2⟩;exact⟨h1,λh=>h2 (.inl h),λs hs e=>h2 (.inr ⟨s,hs,e⟩)⟩
 rintro⟨h1,h2,h3⟩;exact⟨h1,λh=>h.elim h2 λ⟨s,hs,e⟩=>h3 s hs e⟩
theorem VE{α:Type}{r:α->α->Prop}{f:α->Option α}(hf : ∀x y,f x=some y->y=x){l:List α}(h:l.Pairwise r):(l.filterMap f).Pairwise r:=by
 induction l with
 | nil=>exact .nil
 | cons x l ih =>
  have h':=YF.1 h;rw[List.filterMap_cons]
  split
  . exact ih h'.2
  rename_i y hy
  refine YF.2 ⟨λz hz=>?_,ih h'.2⟩
  obtain⟨w,hw,hwz⟩:=Zw.1 hz;rw[hf x y hy,hf w z hwz];exact h'.1 w hw
def ZhF(m:PM)(x y:Sgd)(h:lJ m x=some y):y=x:=by
 unfold lJ at h
 split at h
 . exact(Zt h).symm
 cases h
def Zb5{z:Zon}{d:aG}(h:fq z.sets):fq (gF z d):=VE (ZhF _) h
def Tu{z:Zon}{d:aG}(hz:fq z.sets)(hd:fq d.put):Once (gF z d++d.put) :=
 Zf.2 ⟨SC (Zb5 hz),SC hd,λa ha b hb e=>(EA.1 ha).2.2 b hb e.symm⟩
def Zb7(z:Zon)(d:aG):(gF z d).length<=z.sets.length:=List.length_filterMap_le _ _
theorem ZfF(z:Zon)(d:aG):(nE z d).sets.length=(gF z d).length+d.put.length:=by
 show(iU _).length=_
 rw[HZ,XZ]
def ZcJ{s:Sgd}(h:s.set.data.length<=100000)(k:s.sigs.length<=100000):tX s:=⟨h,k⟩
end Go.Zon
namespace Go.Zon
open Go.DL Go.Str Go.Rec Go.Cmp
def ZkQ:dH.apex=[]:=rfl
def ZkP:dH.sets=[]:=rfl
def dlt0_put:qV.put=[]:=rfl
def Zmq:qV.drop=[]:=rfl
def Zmr:qV.apex=[]:=rfl
def dlt0_frm:qV.frm=0:=rfl
def dlt0_too:qV.too=0:=rfl
attribute[go_sem]ZkQ ZkP dlt0_put Zmq Zmr dlt0_frm dlt0_too
theorem Q9{x s:Sgd}(hq:x.q=s.q):wJ x s=true↔x=s:=by
 constructor
 .
  intro h;unfold wJ at h;simp only[XU,XW]at h;obtain⟨⟨⟨n,t,l,d⟩,g⟩,⟨⟨n',t',l',d'⟩,g'⟩⟩:=x,s;simp only[Sgd.q,ak.mk.injEq]at hq h
  simp[h,hq]
 rintro rfl;simp[wJ]
theorem L8{m:PM}{q:ak}:fu m q=none↔¬(fu m q).isSome=true:=by cases fu m q<;>simp
theorem Zf2{l:List Sgd}(h:fq l)(q:ak):fu (kY l) q=fC l q:=by
 cases e:fC l q with
 | none =>
  rw[L8,Ff];rintro⟨s,hs,hq⟩;exact Df.1 e s hs hq
 | some s =>
  obtain⟨h1,h2⟩:=Bn e;have:(fu (kY l) q).isSome=true:=Ff.2 ⟨s,h1,h2⟩;obtain⟨x,hx⟩:=YQ.1 this;obtain⟨h3,h4⟩:=TL hx;have h5:=vG h h3;rw[h4,e]at h5;rw[hx,h5]
section
variable {a b : Zon}
def Ah(a b:Zon):List ak:=a.sets.filterMap (mg (kY b.sets))
def vv(a b:Zon):List Sgd:=b.sets.filterMap (ll (kY a.sets))
def dD(a b:Zon):aG:=⟨a.apex,aM a,aM b,Ah a b,vv a b⟩
theorem Gn{q:ak}:q∈Ah a b↔(∃s∈a.sets,s.q=q) /\ ∀s∈b.sets,s.q≠q:=by
 unfold Ah
 rw[Zw]
 constructor
 .
  rintro⟨s,hs,h⟩;unfold mg oZ at h
  cases e:fu (kY b.sets) s.q with
  | some v=>simp[e]at h
  | none =>
   simp[e]at h
   subst h;refine⟨⟨s,hs,rfl⟩,λx hx hq=>?_⟩
   rw[L8,Ff]at e;exact e ⟨x,hx,hq⟩
 rintro⟨⟨s,hs,rfl⟩,h⟩
 refine⟨s,hs,?_⟩
 have e:fu (kY b.sets) s.q=none:=by rw[L8,Ff];rintro⟨x,hx,hq⟩;exact h x hx hq
 simp[mg,oZ,e]
theorem put_mem(ha:fq a.sets){x:Sgd}:x∈vv a b↔x∈b.sets/\x ∉ a.sets:=by
 unfold vv
 rw[Zw]
 have key : ∀s:Sgd,yK (fu (kY a.sets) s.q) s=true↔s ∉ a.sets:=by
  intro s;rw[Zf2 ha]
  cases e:fC a.sets s.q with
  | none=>simp only[yK,true_iff];intro hs;exact Df.1 e s hs rfl
  | some v =>
   obtain⟨h1,h2⟩:=Bn e;simp only[yK,Yb]
   constructor
   . intro h hs;have:=vG ha hs;rw[e]at this;have:=Zt this;rw[(Q9 h2).2 this]at h;cases h
   intro h
   cases q:wJ v s with
   | false=>rfl
   | true=>rw[(Q9 h2).1 q]at h1;exact absurd h1 h
 constructor
 .
  rintro⟨s,hs,h⟩;unfold ll at h
  split at h
  . rename_i e;cases h;exact⟨hs,(key _).1 e⟩
  cases h
 rintro⟨h1,h2⟩
 exact⟨x,h1,by unfold ll;rw[X3 ((key _).2 h2)]⟩
theorem WL(m:PM)(x y:Sgd)(h:ll m x=some y):y=x:=by
 unfold ll at h
 split at h
 . exact(Zt h).symm
 cases h
def R6(hb:fq b.sets):fq (vv a b):=VE (WL _) hb
theorem ZiN(ha:fq a.sets):jT qp (Ah a b):=by
 unfold Ah
 generalize a.sets=l at ha
 induction l with
 | nil=>exact .nil
 | cons x l ih =>
  have h':=YF.1 ha;rw[List.filterMap_cons]
  split
  . exact ih h'.2
  rename_i y hy
  refine YF.2 ⟨λz hz=>?_,ih h'.2⟩
  obtain⟨w,hw,hwz⟩:=Zw.1 hz;unfold mg at hy hwz
  split at hy
  .
   split at hwz
   . rw[<-Zt hy,<-Zt hwz];exact h'.1 w hw
   cases hwz
  cases hy
theorem ze(h:aJ a=true):iB (aM a)=true:=by
 rw[AU h];exact Ir (by rw[<-sK];exact h)
def q_ok{s:Sgd}(h:sI s.set):qi s.q=true:=by
 unfold qi
 rw[XU]
 exact⟨h.name,h.ty⟩
def WK(ha:aJ a=true)(hb:aJ b=true)(hax:a.apex=b.apex)(hs:gZ (aM a) (aM b)=true):DOk (dD a b):=by
 have oa:=lM ha
 have ob:=lM hb
 refine⟨oa.apex,oa.wild,ze ha,ze hb,hs,Yh (List.length_filterMap_le _ _) oa.len,Yh (List.length_filterMap_le _ _) ob.len,λq hq=>?_,ZiN oa.ord,λs hs=>?_,R6 ob.ord,λs hs hq=>?_⟩
 . obtain⟨⟨s,h1,rfl⟩,_⟩:=Gn.1 hq;exact q_ok (oa.ok s h1)
 . exact ob.ok s ((put_mem oa.ord).1 hs).1
 exact(Gn.1 hq).2 s ((put_mem oa.ord).1 hs).1 rfl
theorem Zb8(ha:fq a.sets)(hb:fq b.sets){x:Sgd}:x∈gF a (dD a b)↔x∈a.sets/\x∈b.sets:=by
 rw[EA]
 constructor
 .
  rintro⟨h1,h2,h3⟩;refine⟨h1,YV λh=>?_⟩
  have h4 : ¬∀s∈b.sets,s.q≠x.q:=λk=>h2 (Gn.2 ⟨⟨x,h1,rfl⟩,k⟩)
  apply h4
  intro s hs e;refine h3 s ((put_mem ha).2 ⟨hs,λk=>?_⟩) e
  have:=vG ha k;rw[e,vG ha h1]at this;rw[Zt this]at h;exact h hs
 rintro⟨h1,h2⟩
 refine⟨h1,λk=>(Gn.1 k).2 x h2 rfl,λs hs e=>?_⟩
 obtain⟨h3,h4⟩:=(put_mem ha).1 hs
 have:=vG hb h3
 rw[e,vG hb h2]at this
 rw[<-Zt this]at h4
 exact h4 h1
def ZfG(ha:fq a.sets)(hb:fq b.sets)(hax:a.apex=b.apex):nE a (dD a b)=b:=by
 have h1:iU (gF a (dD a b)++(dD a b).put)=b.sets:=by
  refine Ex mh (Qt (Tu ha (R6 hb))) hb λx=>?_
  rw[Ll,Yx,Zb8 ha hb]
  show _\/x∈vv a b↔_
  rw[put_mem ha]
  constructor
  .
   rintro (h|h)
   . exact h.2
   exact h.1
  intro h
  by_cases e:x∈a.sets
  . exact .inl ⟨e,h⟩
  exact .inr ⟨h,e⟩
 unfold nE
 rw[h1,hax]
def Zkr{z:Zon}{d:aG}(h1:aJ z=true)(h2:fU d=true)(h3:z.apex=d.apex)(h4:aM z=d.frm)(h5:aJ (nE z d)=true)(h6:aM (nE z d)=d.too):eD z d=(nE z d,0):=by
 unfold eD
 rw[XV (by rintro (q|q|q);rw[h1]at q;cases q;rw[h2]at q;cases q;exact q h3),XV (λq=>q h4),XV,XV (by rintro (q|q);rw[h5]at q;cases q;exact q h6)]
 have:=(lM h5).len
 rw[ZfF]at this
 omega
def Zks(ha:aJ a=true)(hb:aJ b=true)(hax:a.apex=b.apex)(hs:gZ (aM a) (aM b)=true):eD a (dD a b)=(b,0):=by
 have e:=ZfG (lM ha).ord (lM hb).ord hax
 have:=Zkr (d:=dD a b) ha (yJ.2 (WK ha hb hax hs)) rfl rfl (by rw[e];exact hb) (by rw[e];rfl)
 rw[e]at this
 exact this
def Zja(ha:aJ a=true)(hb:aJ b=true)(hax:a.apex=b.apex)(hs:gZ (aM a) (aM b)=true):lh a b=(dD a b,0):=by
 unfold lh
 rw[XV (by rintro (q|q|q);rw[ha]at q;cases q;rw[hb]at q;cases q;exact q hax),XV (by rw[hs];exact λq=>by cases q)]
 rfl
end
structure AOk(z:Zon)(d:aG):Prop where
 zok:aJ z=true
 dok:fU d=true
 apex:z.apex=d.apex
 frm:aM z=d.frm
 new:aJ (nE z d)=true
 too:aM (nE z d)=d.too
def Zkt(z:Zon)(d:aG):eD z d=(dH,1)\/(eD z d=(dH,23)/\aM z≠d.frm)\/eD z d=(dH,2)\/eD z d=(dH,35)\/(eD z d=(nE z d,0)/\AOk z d):=by
 unfold eD
 by_cases h1:aJ z=false\/fU d=false\/z.apex≠d.apex
 . exact .inl (X3 h1)
 rw[XV h1]
 by_cases h2:aM z≠d.frm
 . exact .inr (.inl ⟨X3 h2,h2⟩)
 rw[XV h2]
 by_cases h3:20000<(gF z d).length+d.put.length
 . exact .inr (.inr (.inl (X3 h3)))
 rw[XV h3]
 by_cases h4:aJ (nE z d)=false\/aM (nE z d)≠d.too
 . exact .inr (.inr (.inr (.inl (X3 h4))))
 refine .inr (.inr (.inr (.inr ⟨XV h4,?_,?_,?_,?_,?_,?_⟩)))
 . cases q:aJ z with|true=>rfl|false=>exact absurd (.inl q) h1
 . cases q:fU d with|true=>rfl|false=>exact absurd (.inr (.inl q)) h1
 . exact YV λq=>h1 (.inr (.inr q))
 . exact YV λq=>h2 q
 . cases q:aJ (nE z d)with|true=>rfl|false=>exact absurd (.inl q) h4
 exact YV λq=>h4 (.inr q)
def OP{a b:Int}(h:gZ a b=true)(hb:iB b=true):b≠a:=by
 rintro rfl
 unfold gZ at h
 simp at h
def VK{z:Zon}(h:vU z=true):fO z.sets:=by
 unfold vU at h
 simp only[XU,XW]at h
 refine⟨om,λk hk=>?_⟩
 have:=(eF _ _ _).1 h.2 k (Yi _) hk
 simp only[XU,XW]at this
 exact⟨om,om⟩
def LZ{a b:Zon}(h:fO b.sets):fO (vv a b):=by
 refine NP (Yh (List.length_filterMap_le _ _) h.1) λx hx=>?_
 unfold vv at hx
 obtain⟨s,hs,e⟩:=Zw.1 hx
 rw[WL _ _ _ e]
 exact JV h hs
theorem Ii(z:Zon):mG z z=true:=YE rfl
end Go.Zon
namespace Go.Jn
open Go.DL Go.Str Go.Rec Go.Cmp Go.Zon
structure bV where
 safe:Str
 pend:List Str
 deriving Inhabited,DecidableEq
def ja(s:Str):List D:=[.list false (s.map bD)]
def ofBy:List D->Str
 | [x]=>gQ x
 | _=>[]
def bV.d(x:bV):List D:=[.list false (x.safe.map bD),.list false (x.pend.map ja)]
def bV.of:List D->bV
 | [x,.list _ rows]=>⟨gQ x,rows.map ofBy⟩
 | _=>default
def lg:D->bV:=sG bV.of default
def Ck:D->UInt8
 | .v (.int _ n)=>UInt8.ofNat n.toNat
 | _=>0
@[go_sem]theorem byte1_v{k:IntKind}{n:Int}:Ck (.v (.int k n))=UInt8.ofNat n.toNat:=rfl
def IK:D->List Str:=wX ofBy
def mZ:bV:=⟨[],[]⟩
def sw(d:Nat)(c:UInt8):Nat:=((d ^^^ c.toNat)*1099511628211) % 18446744073709551616
def Wo:Nat:=14695981039346656037
def iG(l:Str):Nat:=l.foldl sw Wo
def eu(u:Nat):Nat->Str
 | 0=>[]
 | k+1=>gY u (8*k)::eu u k
theorem fH(u:Nat):∀k,(eu u k).length=k
 | 0=>rfl
 | k+1=>by simp[eu,fH u k]
theorem beN_8(n:Int):eu (uN n) 8=cO n:=rfl
theorem Xp(u:Nat):gY u 0=jK u:=by simp[gY,jK]
theorem KC(u:Nat):eu u 1=[jK u]:=by
 show[gY u (8*0)]=_
 rw[Nat.mul_zero,Xp]
def iL(g:RSig):Str:=bP g.zone++cO g.key++cO g.alg++cO g.frm++cO g.unt++cO g.sum
def fw(s:Sgd):Str:=eu (ig s.set).length 2++ig s.set++jK s.sigs.length::s.sigs.flatMap iL
def jk(l:List Sgd):Str:=eu l.length 4++l.flatMap fw
def dL(z:Zon):Str:=bP z.apex++jk z.sets
def kG(q:ak):Str:=bP q.name++[gY (uN q.ty) 0]
def dG(d:aG):Str:=bP d.apex++cO d.frm++cO d.too++eu d.drop.length 4++d.drop.flatMap kG++jk d.put
def rX(k:UInt8)(n:Nat):Str:=k::eu n 4
def bZ(k:UInt8)(w:Str):Str:=rX k w.length++eu (iG (rX k w.length)) 8++w++eu (iG w) 8
def au(k:Int)(st:RS):Nat×RS:=(fV (bT k st).1,(bT k st).2)
def bS(st:RS):Str×RS:=bT (au 1 st).1 (au 1 st).2
def lD(st:RS):RSig×RS :=
 let z:=bS st
 let a:=au 8 z.2
 let b:=au 8 a.2
 let c:=au 8 b.2
 let e:=au 8 c.2
 let s:=au 8 e.2
 (⟨z.1,sN a.1,sN b.1,sN c.1,sN e.1,s.1⟩,s.2)
def jH:Nat->List RSig->RS->List RSig×RS
 | 0,out,st=>(out,st)
 | k+1,out,st=>if st.2 then(out,st)else jH k (out++[(lD st).1]) (lD st).2
def j4(st:RS):Str×RS:=bT (au 2 st).1 (au 2 st).2
def iC(st:RS):RSet×RS:=((iV (j4 st).1).1,if(iV (j4 st).1).2=0 then(j4 st).2 else((j4 st).2.1,true))
def iW(st:RS):Sgd×RS :=
 let s:=iC st
 let n:=au 1 s.2
 let g:=jH n.1 [] n.2
 (⟨s.1,g.1⟩,g.2)
def jI:Nat->List Sgd->RS->List Sgd×RS
 | 0,out,st=>(out,st)
 | k+1,out,st=>if st.2 then(out,st)else jI k (out++[(iW st).1]) (iW st).2
def lF(st:RS):List Sgd×RS:=jI (au 4 st).1 [] (au 4 st).2
def jZ(st:RS):Zon×RS:=(⟨(bS st).1,(lF (bS st).2).1⟩,(lF (bS st).2).2)
def oG(st:RS):ak×RS:=(⟨(bS st).1,sN (au 1 (bS st).2).1⟩,(au 1 (bS st).2).2)
def lG:Nat->List ak->RS->List ak×RS
 | 0,out,st=>(out,st)
 | k+1,out,st=>if st.2 then(out,st)else lG k (out++[(oG st).1]) (oG st).2
def fP(st:RS):aG×RS :=
 let a:=bS st
 let f:=au 8 a.2
 let t:=au 8 f.2
 let n:=au 4 t.2
 let q:=lG n.1 [] n.2
 let p:=lF q.2
 (⟨a.1,sN f.1,sN t.1,q.1,p.1⟩,p.2)
def il(st:RS):Bool:=st.2||decide (0<st.1.length)
def zk(w:Str):Option Zon:=if il (jZ (w,false)).2 then none else some (jZ (w,false)).1
def wM(w:Str):Option aG:=if il (fP (w,false)).2 then none else some (fP (w,false)).1
def bK(k:Nat)(b:Str):Nat×Str :=
 if b.length<13\/(b.getD 0 0).toNat≠k then(0,[])else
 let n:=au 4 (b.drop 1,false)
 let h:=au 8 n.2
 let w:=bT n.1 h.2
 let t:=au 8 w.2
 if t.2.2=true\/h.1≠iG (b.take 5)\/t.1≠iG w.1 then(0,[])else(13+n.1+8,w.1)
def nC(b:Str):Option (Zon×Nat) :=
 if(bK 1 b).1=0 then none else
 match zk (bK 1 b).2 with
 | none=>none
 | some z=>if aJ z then some (z,(bK 1 b).1)else none
def jV(z:Zon)(b:Str):Option (Zon×Nat) :=
 if(bK 2 b).1=0 then none else
 match wM (bK 2 b).2 with
 | none=>none
 | some d=>if(eD z d).2=0 then some ((eD z d).1,(bK 2 b).1)else none
def Vn(k:Nat)(b:Str)(h:(bK k b).1≠0):21<=(bK k b).1/\13<=b.length:=by
 unfold bK at h ⊢
 split
 . rename_i q;rw[X3 q]at h;exact absurd rfl h
 rename_i q
 rw[XV q]at h
 simp only at h ⊢
 split
 . rename_i r;rw[X3 r]at h;exact absurd rfl h
 rename_i r;exact⟨by show 21<=13+_+8;omega,om⟩
def ZbZ{z:Zon}{b:Str}{y:Zon}{n:Nat}(h:jV z b=some (y,n)):0<n/\0<b.length:=by
 unfold jV at h
 split at h
 . cases h
 rename_i q
 obtain⟨h1,h2⟩:=Vn 2 b q
 split at h
 . cases h
 split at h
 . simp only[Yf,YK]at h;omega
 cases h
def more(z:Zon)(b:Str):List (Zon×Nat) :=
 match _h:jV z b with
 | none=>[]
 | some (y,n)=>(y,n)::more y (b.drop n)
termination_by b.length
decreasing_by
 have:=ZbZ _h
 rw[Yw]
 omega
def ZfP{z:Zon}{b:Str}(h:jV z b=none):more z b=[]:=by
 rw[more]
 split
 . rfl
 rename_i q;rw[h]at q;cases q
def ZfO{z y:Zon}{b:Str}{n:Nat}(h:jV z b=some (y,n)):more z b=(y,n)::more y (b.drop n):=by
 rw[more]
 split
 . rename_i q;rw[h]at q;cases q
 rename_i q
 rw[h]at q
 simp only[Yf,YK]at q
 obtain⟨rfl,rfl⟩:=q
 rfl
def iO(b:Str):List (Zon×Nat):=match nC b with
 | none=>[]
 | some (y,n)=>(y,n)::more y (b.drop n)
def gD(l:List (Zon×Nat)):Nat:=(l.map (·.2)).sum
def di(b:Str):Str:=b.take (gD (iO b))
abbrev cZ:=Option Zon
def cZ.d(c:cZ):List D:=.b c.isSome::(c.getD dH).d
def cZ.of:List D->cZ
 | [.v (.bool b),.v (.string s),.list _ rows]=>if b then some ⟨s.data.toList,rows.map Sgd.of⟩else none
 | _=>none
def cnt1:D->cZ:=sG cZ.of none
def stepC(c:cZ)(b:Str):Option (Zon×Nat):=match c with
 | none=>nC b
 | some z=>jV z b
def gu(c:cZ)(b:Str):cZ×Nat:=match stepC c b with
 | none=>(c,0)
 | some (y,n)=>(some y,n)
def fe(b:Str):cZ:=(iO b).getLast?.map (·.1)
structure jD where
 whole:Str
 size:Int
 saved:cZ
 all:cZ
 deriving Inhabited
def fK(c:cZ):List Str->Option cZ
 | []=>some c
 | p::l=>if(gu c p).2≠0/\(gu c p).2=p.length then fK (gu c p).1 l else none
def aR(l:List Str):Str:=l.flatten
def eP(d:bV):Option jD :=
 if 1000000<d.safe.length\/200<d.pend.length then none else
 match fK (fe d.safe) d.pend with
 | none=>none
 | some c=>some ⟨di d.safe,(di d.safe).length+(aR d.pend).length,fe d.safe,c⟩
def sD(z:Zon):bV×Int:=if aJ z=false then(mZ,1)else if 1000000<(bZ 1 (dL z)).length then(mZ,41)else(⟨[],[bZ 1 (dL z)]⟩,0)
def nk(d:bV)(x:aG):bV×Int:=match eP d with
 | none=>(mZ,1)
 | some o=>if fU x=false then(mZ,1)else match o.all with
  | none=>(mZ,42)
  | some z =>
   if(eD z x).2≠0 then(mZ,(eD z x).2)
   else if 200<=d.pend.length then(mZ,2)
   else if 1000000<o.size+(bZ 2 (dG x)).length then(mZ,41)
   else(⟨o.whole,d.pend++[bZ 2 (dG x)]⟩,0)
def rF(d:bV):bV×Int:=match eP d with
 | none=>(mZ,1)
 | some o=>if 1000000<o.size then(mZ,41)else(⟨o.whole++aR d.pend,[]⟩,0)
def nY(d:bV)(n:Int):Str:=if n<d.pend.length then d.pend[n.toNat]! else[]
def rC(o:jD)(d:bV)(n cut:Int):Str:=o.whole++aR (d.pend.take n.toNat)++(nY d n).take cut.toNat
def lm(d:bV)(n cut:Int):bV×Int:=match eP d with
 | none=>(mZ,1)
 | some o =>
  if n<0\/(d.pend.length:Int)<n then(mZ,1)
  else if cut<0\/((nY d n).length:Int)<cut then(mZ,1)
  else if 1000000<(rC o d n cut).length then(mZ,41)
  else(⟨rC o d n cut,[]⟩,0)
def lZ(d:bV):Zon×Int:=match eP d with
 | none=>(dH,1)
 | some o=>match o.saved with
  | none=>(dH,42)
  | some z=>(z,0)
theorem VA{u:Nat}(h:u<18446744073709551616):∀k,(eu u k).foldl gK (u / 2^(8*k))=u
 | 0=>by simp[eu]
 | k+1=>by
  show(eu u k).foldl gK (gK (u / 2^(8*(k+1))) (gY u (8*k)))=u
  rw[show 8*(k+1)=8*k+8 by omega,xK u (8*k) h]
  exact VA h k
theorem I1{u k:Nat}(h:u<18446744073709551616)(hk:u<2^(8*k)):fV (eu u k)=u:=by
 have:=VA h k
 rwa [Nat.div_eq_of_lt hk]at this
def Et{u k:Nat}{more:Str}(h:u<18446744073709551616)(hk:u<2^(8*k)):au k (eu u k++more,false)=(u,(more,false)):=by
 unfold au
 rw[take_ok rfl (by simp[fH])]
 show(fV ((eu u k++more).take k),((eu u k++more).drop k,false))=_
 rw[List.take_left' (fH u k),List.drop_left' (fH u k),I1 h hk]
theorem PO{n:Int}{more:Str}:au 8 (cO n++more,false)=(uN n,(more,false)):=by
 have:=Et (u:=uN n) (k:=8) (more:=more) (y5 n) (y5 n)
 rwa [beN_8]at this
theorem K3{n:Nat}{more:Str}(h:n<=255):au 1 (jK n::more,false)=(n,(more,false)):=by
 have:=Et (u:=n) (k:=1) (more:=more) om (show n<256 by omega)
 rwa [KC]at this
theorem Ho{t more:Str}(h:t.length<=255):bS (bP t++more,false)=(t,(more,false)):=by
 unfold bS bP
 rw[XY,K3 h]
 show bT (t.length:Nat) (t++more,false)=_
 rw[take_ok rfl (by simp)]
 simp
structure KI(g:RSig):Prop where
 zone:g.zone.length<=255
 key:i64 g.key
 alg:i64 g.alg
 frm:i64 g.frm
 unt:i64 g.unt
 sum:0<=g.sum/\g.sum<18446744073709551616
theorem ZcC{g:RSig}{more:Str}(h:KI g):lD (iL g++more,false)=(g,(more,false)):=by
 unfold lD iL
 simp only[Yu,Ho h.zone,PO]
 have e1:=AV (n:=g.key) h.key
 have e2:=AV (n:=g.alg) h.alg
 have e3:=AV (n:=g.frm) h.frm
 have e4:=AV (n:=g.unt) h.unt
 have e5:((uN g.sum:Nat):Int)=g.sum:=by have:=h.sum;unfold uN;omega
 rw[e1,e2,e3,e4,e5]
theorem QF : ∀(l out:List RSig)(more:Str),(∀d∈l,KI d)->jH l.length out (l.flatMap iL++more,false)=(out++l,(more,false))
 | [],out,more,_=>by simp[jH]
 | d::l,out,more,h=>by
  have e:((d::l).flatMap iL++more)=iL d++(l.flatMap iL++more):=by simp
  rw[e,YS,jH,XV (by simp),ZcC (h d (by simp))]
  show jH l.length (out++[d]) (l.flatMap iL++more,false)=_
  rw[QF l _ more λx hx=>h x (by simp[hx])]
  simp
structure yU(s:Sgd):Prop where
 set:sI s.set
 len:s.sigs.length<=255
 sig : ∀g∈s.sigs,KI g
def ZjC{d:Dat}(h:Cv d/\d.t.length<=60/\0<=d.n/\0<=d.m):(kN d).length<=77:=by
 simp[kN,bP,jb]
 omega
theorem xh{α:Type}{f:α->Str}{n:Nat}:∀{l:List α},(∀x∈l,(f x).length<=n)->(l.flatMap f).length<=l.length*n
 | [],_=>by simp
 | x::l,h=>by
  rw[ZU,XZ,YS,Zk,Nat.one_mul];have h1:=h x (by simp)
  have h2:=xh (f:=f) (n:=n) (l:=l) λy hy=>h y (by simp[hy])
  omega
def EG{s:RSet}(h:sI s):(ig s).length<=1000:=by
 have h1:=gM h.name
 have h2:=xh (f:=kN) (n:=77) (l:=s.data) λd hd=>ZjC (Om h.ty (h.dat d hd))
 have h3:=h.len
 simp[ig,bP,jb]at h2 ⊢
 omega
theorem ZcI{s:Sgd}{more:Str}(h:yU s):iW (fw s++more,false)=(s,(more,false)):=by
 have hl:=EG h.set
 have e:fw s++more=eu (ig s.set).length 2++(ig s.set++(jK s.sigs.length::(s.sigs.flatMap iL++more))):=by simp[fw]
 have e0:=Et (u:=(ig s.set).length) (k:=2) (more:=ig s.set++(jK s.sigs.length::(s.sigs.flatMap iL++more))) (by omega) (show _<65536 by omega)
 have e1:j4 (fw s++more,false)=(ig s.set,(jK s.sigs.length::(s.sigs.flatMap iL++more),false)):=by
  unfold j4;rw[e,show((2:Int))=((2:Nat):Int)from rfl,e0]
  show bT ((ig s.set).length:Nat) _=_
  rw[take_ok rfl (by simp)]
  simp
 have e2:iC (fw s++more,false)=(s.set,(jK s.sigs.length::(s.sigs.flatMap iL++more),false)):=by
  unfold iC;rw[e1,Zd5 h.set];rfl
 unfold iW
 simp only[e2,K3 h.len,QF s.sigs [] more h.sig,X0]
theorem QL : ∀(l out:List Sgd)(more:Str),(∀d∈l,yU d)->jI l.length out (l.flatMap fw++more,false)=(out++l,(more,false))
 | [],out,more,_=>by simp[jI]
 | d::l,out,more,h=>by
  have e:((d::l).flatMap fw++more)=fw d++(l.flatMap fw++more):=by simp
  rw[e,YS,jI,XV (by simp),ZcI (h d (by simp))]
  show jI l.length (out++[d]) (l.flatMap fw++more,false)=_
  rw[QL l _ more λx hx=>h x (by simp[hx])]
  simp
theorem QS{l:List Sgd}{more:Str}(hl:l.length<4294967296)(h : ∀d∈l,yU d):lF (jk l++more,false)=(l,(more,false)):=by
 unfold lF jk
 have:=Et (u:=l.length) (k:=4) (more:=l.flatMap fw++more) om (show _<4294967296 by omega)
 rw[Yu,show((4:Int))=((4:Nat):Int)from rfl,this]
 show jI l.length [] _=_
 rw[QL l [] more h]
 rfl
def Zaj{z:Zon}{more:Str}(ha:z.apex.length<=255)(hl:z.sets.length<4294967296)(h : ∀d∈z.sets,yU d):jZ (dL z++more,false)=(z,(more,false)):=by
 unfold jZ dL
 rw[Yu,Ho ha,QS hl h]
structure GY(q:ak):Prop where
 name:q.name.length<=255
 ty:0<=q.ty/\q.ty<=255
theorem Zel{q:ak}{more:Str}(h:GY q):oG (kG q++more,false)=(q,(more,false)):=by
 have ht:=h.ty
 have e:uN q.ty=q.ty.toNat:=by unfold uN;rw[Int.emod_eq_of_lt (by omega) (by omega)]
 have e1:=K3 (n:=q.ty.toNat) (more:=more) (by omega)
 have e2:sN q.ty.toNat=q.ty:=by unfold sN;rw[IntKind.wrap_i64];omega
 unfold oG kG
 rw[Yu,Ho h.name,e,Xp,List.singleton_append]
 simp only[e1,e2]
theorem RY : ∀(l out:List ak)(more:Str),(∀d∈l,GY d)->lG l.length out (l.flatMap kG++more,false)=(out++l,(more,false))
 | [],out,more,_=>by simp[lG]
 | d::l,out,more,h=>by
  have e:((d::l).flatMap kG++more)=kG d++(l.flatMap kG++more):=by simp
  rw[e,YS,lG,XV (by simp),Zel (h d (by simp))]
  show lG l.length (out++[d]) (l.flatMap kG++more,false)=_
  rw[RY l _ more λx hx=>h x (by simp[hx])]
  simp
structure Cu(d:aG):Prop where
 apex:d.apex.length<=255
 frm:i64 d.frm
 too:i64 d.too
 drop:d.drop.length<4294967296
 dropq : ∀q∈d.drop,GY q
 put:d.put.length<4294967296
 puts : ∀s∈d.put,yU s
def Zi2{d:aG}{more:Str}(h:Cu d):fP (dG d++more,false)=(d,(more,false)):=by
 have e:dG d++more=bP d.apex++(cO d.frm++(cO d.too++(eu d.drop.length 4++(d.drop.flatMap kG++(jk d.put++more))))):=by simp[dG]
 have e1:=Et (u:=d.drop.length) (k:=4) (more:=d.drop.flatMap kG++(jk d.put++more)) (by have:=h.drop;omega) (show _<4294967296 from h.drop)
 rw[show((4:Nat):Int)=4 from rfl]at e1
 unfold fP
 rw[e]
 simp only[Ho h.apex,PO,e1,RY d.drop [] _ h.dropq,QS h.put h.puts,AV h.frm,AV h.too,X0]
structure GU(z:Zon):Prop where
 apex:z.apex.length<=255
 len:z.sets.length<4294967296
 sets : ∀d∈z.sets,yU d
def Zd6{z:Zon}(h:GU z):zk (dL z)=some z:=by
 have e:=Zaj (more:=[]) h.apex h.len h.sets
 rw[Yv]at e
 unfold zk il
 rw[e]
 rfl
def Zd8{d:aG}(h:Cu d):wM (dG d)=some d:=by
 have e:=Zi2 (more:=[]) h
 rw[Yv]at e
 unfold wM il
 rw[e]
 rfl
def zQ(k m:Nat)(p:Str):Prop:=(p.getD 0 0).toNat=k/\fV ((p.drop 1).take 4)=m/\fV ((p.drop 5).take 8)=iG (p.take 5)/\fV ((p.drop (13+m)).take 8)=iG ((p.drop 13).take m)
theorem DU{α:Type}(b:List α){i j n:Nat}(h:i+j<=n):((b.take n).drop i).take j=(b.drop i).take j:=by
 rw[List.drop_take,List.take_take,ZK (by omega)]
theorem M6{k m n:Nat}{b:Str}(h:21+m<=n):zQ k m (b.take n)↔zQ k m b:=by
 unfold zQ
 rw[DU b (by omega),DU b (by omega),DU b (by omega),DU b (by omega),List.take_take,ZK (by omega)]
 have:(b.take n).getD 0 0=b.getD 0 0:=by
  simp only[List.getD];rw[Y6,X3 (by omega)]
 rw[this]
def JI{k m:Nat}{b w:Str}:bK k b=(21+m,w)↔21+m<=b.length/\zQ k m b/\w=(b.drop 13).take m:=by
 unfold bK
 by_cases h1:b.length<13\/(b.getD 0 0).toNat≠k
 .
  rw[X3 h1]
  constructor
  . intro h;simp only[YK]at h;omega
  rintro⟨h2,h3,_⟩;have:=h3.1;omega
 rw[XV h1]
 have a1:au 4 (b.drop 1,false)=(fV ((b.drop 1).take 4),(b.drop 5,false)):=by
  unfold au;rw[show(4:Int)=((4:Nat):Int)from rfl,take_ok rfl (by simp;omega)]
  show(_,((b.drop 1).drop 4,false))=_
  rw[ZJ]
 have a2:au 8 (b.drop 5,false)=(fV ((b.drop 5).take 8),(b.drop 13,false)):=by
  unfold au;rw[show(8:Int)=((8:Nat):Int)from rfl,take_ok rfl (by simp;omega)]
  show(_,((b.drop 5).drop 8,false))=_
  rw[ZJ]
 simp only[a1,a2]
 generalize hN:fV ((b.drop 1).take 4)=N
 by_cases h2:N<=(b.drop 13).length
 .
  rw[take_ok rfl h2]
  show(if(au 8 ((b.drop 13).drop N,false)).2.2=true\/_ then _ else _)=_↔_
  rw[ZJ]
  by_cases h3:8<=(b.drop (13+N)).length
  .
   have a3:au 8 (b.drop (13+N),false)=(fV ((b.drop (13+N)).take 8),((b.drop (13+N)).drop 8,false)):=by
    unfold au;rw[show(8:Int)=((8:Nat):Int)from rfl,take_ok rfl h3]
   rw[a3];simp only[Yw]at h2 h3
   split
   .
    rename_i h4
    constructor
    . intro h;simp only[YK]at h;omega
    rintro⟨h5,⟨h6,h7,h8,h9⟩,_⟩;rw[hN]at h7;subst h7
    rcases h4 with h4|h4|h4
    . cases h4
    . exact absurd h8 h4
    exact absurd h9 h4
   rename_i h4
   simp only[YK]
   constructor
   .
    rintro⟨h5,h6⟩;have hm:N=m:=by omega
    subst hm;refine⟨om,⟨om,hN,?_,?_⟩,h6.symm⟩
    . exact YV λq=>h4 (.inr (.inl q))
    exact YV λq=>h4 (.inr (.inr q))
   rintro⟨h5,⟨h6,h7,h8,h9⟩,h10⟩;rw[hN]at h7;subst h7;exact⟨om,h10.symm⟩
  have a3:(au 8 (b.drop (13+N),false)).2.2=true:=by
   unfold au;rw[wB (.inr (by show((List.drop (13+N) b).length:Int)<8;omega))]
  rw[X3 (.inl a3)];simp only[Yw]at h2 h3
  constructor
  . intro h;simp only[YK]at h;omega
  rintro⟨h5,⟨_,h7,_⟩,_⟩;rw[hN]at h7;omega
 rw[wB (.inr (by show((List.drop 13 b).length:Int)<N;omega))]
 have a3:(au 8 (b.drop 13,true)).2.2=true:=by
  unfold au;rw[wB (.inl rfl)]
 simp only[Yw]at h2
 show(if(au 8 (b.drop 13,true)).2.2=true\/_ then _ else _)=_↔_
 rw[X3 (.inl a3)]
 constructor
 . intro h;simp only[YK]at h;omega
 rintro⟨h5,⟨_,h7,_⟩,_⟩
 rw[hN]at h7
 omega
def DJ(k:Nat)(b:Str):bK k b=(0,[]) \/ ∃m,21+m<=b.length/\zQ k m b/\bK k b=(21+m,(b.drop 13).take m):=by
 by_cases h:(bK k b).1=0
 .
  refine .inl ?_;unfold bK at h ⊢
  split
  . rfl
  rename_i q
  rw[XV q]at h;simp only at h ⊢
  split
  . rfl
  rename_i r;rw[XV r]at h;simp at h
 obtain⟨h1,_⟩:=Vn k b h
 obtain⟨m,hm⟩:∃m,(bK k b).1=21+m:=⟨_,(by omega:(bK k b).1=21+((bK k b).1-21))⟩
 have e:bK k b=(21+m,(bK k b).2):=Prod.ext hm rfl
 obtain⟨h2,h3,h4⟩:=JI.1 e
 exact .inr ⟨m,h2,h3,by rw[e,h4]⟩
def Vo{k n:Nat}{b w r:Str}(h:bK k b=(n,w))(h0:n≠0):bK k (b.take n++r)=(n,w):=by
 obtain h1|⟨m,h1,h2,h3⟩:=DJ k b
 . rw[h]at h1;cases h1;exact absurd rfl h0
 rw[h]at h3
 cases h3
 have hl:(b.take (21+m)).length=21+m:=by simp;omega
 have ht:(b.take (21+m)++r).take (21+m)=b.take (21+m):=List.take_left' hl
 refine JI.2 ⟨by rw[XZ];omega,?_,?_⟩
 . rw[<-M6 (n:=21+m) (XX _),ht,M6 (XX _)];exact h2
 rw[<-DU (b.take (21+m)++r) (n:=21+m) (by omega),ht,DU b (by omega)]
def Vp{k n:Nat}{b w:Str}(h:bK k b=(n,w)):n<=b.length:=by
 obtain h1|⟨m,h1,h2,h3⟩:=DJ k b
 . rw[h]at h1;cases h1;exact Yi _
 rw[h]at h3;cases h3;exact h1
theorem rZ(k:UInt8)(w:Str):(bZ k w).length=21+w.length:=by
 simp[bZ,rX,fH]
 omega
theorem DY(l:Str):iG l<18446744073709551616:=by
 unfold iG
 rcases List.eq_nil_or_concat l with e|⟨p,z,e⟩
 . subst e;decide
 rw[e,List.concat_eq_append,Zh,YH,ZA]
 unfold sw
 omega
def Vs{k:UInt8}{w r:Str}(hw:w.length<4294967296):bK k.toNat (bZ k w++r)=(21+w.length,w):=by
 have e:bZ k w++r=rX k w.length++(eu (iG (rX k w.length)) 8++(w++(eu (iG w) 8++r))):=by simp[bZ]
 have hh:(rX k w.length).length=5:=by simp[rX,fH]
 have n1:=I1 (u:=w.length) (k:=4) (by omega) (show _<4294967296 from hw)
 have n2:=I1 (u:=iG (rX k w.length)) (k:=8) (DY _) (DY _)
 have n3:=I1 (u:=iG w) (k:=8) (DY _) (DY _)
 have d5:(bZ k w++r).drop 5=eu (iG (rX k w.length)) 8++(w++(eu (iG w) 8++r)):=by rw[e,List.drop_left' hh]
 have d13:(bZ k w++r).drop 13=w++(eu (iG w) 8++r):=by
  rw[show 13=5+8 from rfl,<-ZJ,d5,List.drop_left' (fH _ 8)]
 have dw:(bZ k w++r).drop (13+w.length)=eu (iG w) 8++r:=by rw[<-ZJ,d13,List.drop_left' rfl]
 refine JI.2 ⟨by rw[XZ,rZ];omega,⟨?_,?_,?_,?_⟩,?_⟩
 . rw[e];rfl
 .
  have:((bZ k w++r).drop 1).take 4=eu w.length 4:=by
   rw[e]
   show((eu w.length 4++_)).take 4=_
   rw[List.take_left' (fH _ 4)]
  rw[this,n1]
 .
  rw[d5,List.take_left' (fH _ 8),n2]
  congr 1
 . rw[dw,List.take_left' (fH _ 8),n3,d13,List.take_left' rfl]
 rw[d13,List.take_left' rfl]
def Ey{b:Str}{z:Zon}{n:Nat}:nC b=some (z,n)↔n≠0 /\ ∃w,bK 1 b=(n,w)/\zk w=some z/\aJ z=true:=by
 unfold nC
 constructor
 .
  intro h
  split at h
  . cases h
  rename_i q
  split at h
  . cases h
  rename_i z' hz
  split at h
  .
   rename_i hv
   simp only[Yf,YK]at h;obtain⟨rfl,rfl⟩:=h;exact⟨q,_,rfl,hz,hv⟩
  cases h
 rintro⟨h0,w,h1,h2,h3⟩
 rw[h1]
 rw[XV h0]
 simp only[h2]
 rw[X3 h3]
def Ez{y:Zon}{b:Str}{z:Zon}{n:Nat}:jV y b=some (z,n)↔n≠0 /\ ∃w d,bK 2 b=(n,w)/\wM w=some d/\eD y d=(z,0):=by
 unfold jV
 constructor
 .
  intro h
  split at h
  . cases h
  rename_i q
  split at h
  . cases h
  rename_i d hd
  split at h
  .
   rename_i hv
   simp only[Yf,YK]at h;obtain⟨rfl,rfl⟩:=h;exact⟨q,_,d,rfl,hd,Prod.ext rfl hv⟩
  cases h
 rintro⟨h0,w,d,h1,h2,h3⟩
 rw[h1]
 rw[XV h0]
 simp only[h2,h3]
 exact X3 trivial
theorem Lc{c:cZ}{b r:Str}{z:Zon}{n:Nat}(h:stepC c b=some (z,n)):stepC c (b.take n++r)=some (z,n):=by
 cases c with
 | none =>
  obtain⟨h0,w,h1,h2,h3⟩:=Ey.1 (show nC b=_ from h)
  exact Ey.2 ⟨h0,w,Vo h1 h0,h2,h3⟩
 | some y =>
  obtain⟨h0,w,d,h1,h2,h3⟩:=Ez.1 (show jV y b=_ from h)
  exact Ez.2 ⟨h0,w,d,Vo h1 h0,h2,h3⟩
theorem wE{c:cZ}{b:Str}{z:Zon}{n:Nat}(h:stepC c b=some (z,n)):n<=b.length/\0<n:=by
 cases c with
 | none =>
  obtain⟨h0,w,h1,_⟩:=Ey.1 (show nC b=_ from h)
  exact⟨Vp h1,Nat.pos_of_ne_zero h0⟩
 | some y =>
  obtain⟨h0,w,d,h1,_⟩:=Ez.1 (show jV y b=_ from h)
  exact⟨Vp h1,Nat.pos_of_ne_zero h0⟩
def fr(c:cZ)(b:Str):List (Zon×Nat):=match c with
 | none=>iO b
 | some z=>more z b
theorem yC{c:cZ}{b:Str}(h:stepC c b=none):fr c b=[]:=by
 cases c with
 | none=>unfold fr iO;simp only;rw[show nC b=none from h]
 | some z=>exact ZfP h
theorem Aa{c:cZ}{b:Str}{y:Zon}{n:Nat}(h:stepC c b=some (y,n)):fr c b=(y,n)::fr (some y) (b.drop n):=by
 cases c with
 | none=>unfold fr iO;simp only;rw[show nC b=some (y,n)from h]
 | some z=>exact ZfO h
def vI(c:cZ)(l:List (Zon×Nat)):cZ:=match l.getLast? with
 | none=>c
 | some x=>some x.1
theorem Fh(c:cZ)(x:Zon×Nat)(l:List (Zon×Nat)):vI c (x::l)=vI (some x.1) l:=by
 unfold vI
 cases l with
 | nil=>rfl
 | cons y l =>
  rw[List.getLast?_cons_cons]
  cases h:(y::l).getLast? with
  | none=>simp at h
  | some z=>rfl
theorem Ew(x:Zon×Nat)(l:List (Zon×Nat)):gD (x::l)=x.2+gD l:=by simp[gD]
theorem NG : ∀(n:Nat)(c:cZ)(b:Str),b.length<=n->gD (fr c b)<=b.length:=by
 intro n
 induction n with
 | zero =>
  intro c b hb
  cases h:stepC c b with
  | none=>rw[yC h];exact Yi _
  | some x=>have:=wE (z:=x.1) (n:=x.2) h;omega
 | succ n ih =>
  intro c b hb
  cases h:stepC c b with
  | none=>rw[yC h];exact Yi _
  | some x =>
   obtain⟨y,k⟩:=x;obtain⟨h1,h2⟩:=wE h;rw[Aa h,Ew];have:=ih (some y) (b.drop k) (by rw[Yw];omega)
   rw[Yw]at this
   show k+_<=_
   omega
theorem Vv : ∀(n:Nat)(c:cZ)(a r:Str),a.length<=n->gD (fr c a)=a.length->fr c (a++r)=fr c a++fr (vI c (fr c a)) r:=by
 intro n
 induction n with
 | zero =>
  intro c a r ha hs;have:a=[]:=Ya om;subst this;have h0:fr c []=[]:=by
   cases h:stepC c []with
   | none=>exact yC h
   | some x=>have:=wE (z:=x.1) (n:=x.2) h;simp at this;omega
  rw[h0];rfl
 | succ n ih =>
  intro c a r ha hs
  cases h:stepC c a with
  | none =>
   have h0:=yC h;rw[h0]at hs ⊢;have:a=[]:=Ya (by simpa[gD]using hs.symm)
   subst this;rfl
  | some x =>
   obtain⟨y,k⟩:=x;obtain⟨h1,h2⟩:=wE h;have hl:stepC c (a++r)=some (y,k):=by
    have:=Lc (r:=a.drop k++r) h;rwa [<-Yu,Y7]at this
   rw[Aa h,Ew]at hs;have hd:(a++r).drop k=a.drop k++r:=List.drop_append_of_le_length h1;rw[Aa h,Aa hl,hd,Fh,XY]
   congr 1
   refine ih (some y) (a.drop k) r (by rw[Yw];omega) ?_
   rw[Yw];simp only at hs;omega
theorem ZhV : ∀(n:Nat)(c:cZ)(a:Str),a.length<=n->fr c (a.take (gD (fr c a)))=fr c a:=by
 intro n
 induction n with
 | zero =>
  intro c a ha;have:a=[]:=Ya om;subst this
  simp
 | succ n ih =>
  intro c a ha
  cases h:stepC c a with
  | none =>
   rw[yC h];have:fr c (a.take (gD []))=[]:=by
    show fr c (a.take 0)=[]
    rw[Ye]
    cases h':stepC c []with
    | none=>exact yC h'
    | some x=>have:=wE (z:=x.1) (n:=x.2) h';simp at this;omega
   exact this
  | some x =>
   obtain⟨y,k⟩:=x;obtain⟨h1,h2⟩:=wE h;have hs:=NG _ (some y) (a.drop k) (XX _);rw[Yw]at hs;rw[Aa h,Ew];have e:a.take (k+gD (fr (some y) (a.drop k)))=a.take k++(a.drop k).take (gD (fr (some y) (a.drop k))):=List.take_add;have hl:=Lc (r:=(a.drop k).take (gD (fr (some y) (a.drop k)))) h;rw[<-e]at hl;have hd:(a.take (k+gD (fr (some y) (a.drop k)))).drop k=(a.drop k).take (gD (fr (some y) (a.drop k))):=by rw[List.drop_take];congr 1;omega
   rw[show((y,k):Zon×Nat).2=k from rfl,Aa hl,hd,ih (some y) (a.drop k) (by rw[Yw];omega)]
theorem OD(p:Str)(l:List Str):aR (p::l)=p++aR l:=by simp[aR]
theorem Vu(c:cZ):fr c []=[]:=by
 cases h:stepC c []with
 | none=>exact yC h
 | some x=>have:=wE (z:=x.1) (n:=x.2) h;simp at this;omega
theorem De{c:cZ}{p:Str}{y:Zon}{n:Nat}(h:stepC c p=some (y,n)):gu c p=(some y,n):=by unfold gu;rw[h]
theorem Bj{c:cZ}{p:Str}(h:stepC c p=none):gu c p=(c,0):=by unfold gu;rw[h]
theorem MS(c:cZ):∀(l m:List (Zon×Nat)),vI c (l++m)=vI (vI c l) m:=by
 intro l m
 induction l generalizing c with
 | nil=>rfl
 | cons x l ih=>rw[XY,Fh,Fh];exact ih _
theorem IJ : ∀(l:List Str)(c c':cZ),fK c l=some c'->c'=vI c (fr c (aR l))/\gD (fr c (aR l))=(aR l).length
 | [],c,c',h=>by
  simp only[fK,Yf]at h;subst h;have:aR []=[]:=rfl;rw[this,Vu];exact⟨rfl,rfl⟩
 | p::l,c,c',h=>by
  unfold fK at h
  split at h
  .
   rename_i q
   cases hs:stepC c p with
   | none=>rw[Bj hs]at q;exact absurd rfl q.1
   | some x =>
    obtain⟨y,k⟩:=x;rw[De hs]at q h;obtain⟨q1,q2⟩:=q;simp only at q1 q2 h;subst q2;obtain⟨i1,i2⟩:=IJ l (some y) c' h;have hl:=Lc (r:=aR l) hs;rw[Yn]at hl;rw[OD,Aa hl,List.drop_left' rfl,Fh,Ew,XZ];exact⟨i1,by rw[i2]⟩
  cases h
theorem wu(b:Str):fe b=vI none (iO b):=by
 unfold fe vI
 cases h:(iO b).getLast? <;> rfl
theorem A9(b:Str):(di b).length=gD (iO b):=by
 have:=NG _ none b (XX _)
 unfold di
 rw[YA]
 exact ZK this
theorem IM(b:Str):iO (di b)=iO b:=ZhV _ none b (XX _)
theorem ZeQ(b:Str):di (di b)=di b:=by
 have e:di (di b)=(di b).take (gD (iO (di b))):=rfl
 rw[e,IM,<-A9,Yn]
theorem Su(b:Str):fe (di b)=fe b:=by rw[wu,wu,IM]
theorem F9(b r:Str):iO (di b++r)=iO b++fr (fe b) r:=by
 have h:=Vv _ none (di b) r (XX _) (by show gD (iO (di b))=_;rw[IM,A9])
 have e:fr none (di b)=iO b:=IM b
 rw[e,<-wu]at h
 exact h
def uz{d:bV}{o:jD}(h:eP d=some o):d.safe.length<=1000000/\d.pend.length<=200/\o.whole=di d.safe/\o.size=((di d.safe).length+(aR d.pend).length:Nat)/\o.saved=fe d.safe/\fK (fe d.safe) d.pend=some o.all:=by
 unfold eP at h
 split at h
 . cases h
 rename_i q
 split at h
 . cases h
 rename_i c hc
 cases h
 exact⟨om,om,rfl,by push_cast;rfl,rfl,hc⟩
def Ze5{d:bV}{o:jD}(h:eP d=some o):o.all=fe (di d.safe++aR d.pend)/\di (di d.safe++aR d.pend)=di d.safe++aR d.pend:=by
 obtain⟨_,_,_,_,_,h6⟩:=uz h
 obtain⟨h7,h8⟩:=IJ _ _ _ h6
 constructor
 . rw[wu,F9,MS,<-wu,h7]
 have e:di (di d.safe++aR d.pend)=(di d.safe++aR d.pend).take (gD (iO (di d.safe++aR d.pend))):=rfl
 rw[e,F9]
 have:gD (iO d.safe++fr (fe d.safe) (aR d.pend))=(di d.safe++aR d.pend).length:=by
  rw[XZ,A9,<-h8]
  simp[gD]
 rw[this,Yn]
end Go.Jn
namespace Go.Zon
open Go.DL Go.Str Go.Rec Go.Cmp
def Ow(l:List ak):Nat->List ak
 | 0=>[]
 | k+1=>if k=0\/l[k]! ≠ l[k-1]! then Ow l k++[l[k]!]else Ow l k
def cpF(l:List ak):List ak:=Ow l l.length
def stayJ(d e:aG):List Sgd:=gF ⟨d.apex,d.put⟩ e
def LX(d e:aG):List Sgd:=iU (stayJ d e++e.put)
def V7(d e:aG):List ak:=(cpF (sortQ (d.drop++e.drop))).filterMap (j3S (kY (LX d e)))
def uniP(d e:aG):aG:=⟨d.apex,d.frm,e.too,V7 d e,LX d e⟩
def rV(d e:aG):aG×Int :=
 if fU d=false\/fU e=false\/d.apex≠e.apex then(qV,1)else if d.too≠e.frm\/gZ d.frm e.too=false then(qV,23)else
 if 20000<(V7 d e).length\/20000<(LX d e).length then(qV,2)else(uniP d e,0)
def Tv{z:Zon}{d:aG}{x:Sgd}:x∈(nE z d).sets↔(x∈z.sets/\x.q ∉ d.drop /\ ∀s∈d.put,s.q≠x.q)\/x∈d.put:=by
 show x∈iU _↔_
 rw[Ll,Yx,EA]
def OU{z:Zon}{d:aG}{x:Zon}(h:eD z d=(x,0)):x=nE z d/\AOk z d:=by
 rcases Zkt z d with ha|⟨ha,_⟩|ha|ha|⟨ha,hk⟩
 . rw[ha]at h;cases h
 . rw[ha]at h;cases h
 . rw[ha]at h;cases h
 . rw[ha]at h;cases h
 rw[ha]at h;exact⟨(YK _ _ _ _▸h).1.symm,hk⟩

end Go.Zon
namespace Go.Jn
open Go.DL Go.Str Go.Rec Go.Cmp Go.Zon
def cut_at{l:Str}{i a n:Nat}(h1:a<=i)(h2:i<a+n)(h3:i<l.length):∃h:i-a<((l.drop a).take n).length,((l.drop a).take n)[i-a]=l[i]:=by
 have h:i-a<((l.drop a).take n).length:=by rw[YA,Yw];omega
 refine⟨h,?_⟩
 rw[List.getElem_take,List.getElem_drop]
 congr 1
 omega
def ZhT{k:Nat}{b:Str}(h : ∀m,21+m<=b.length -> ¬zQ k m b):bK k b=(0,[]):=by
 rcases DJ k b with e|⟨m,h1,h2,_⟩
 . exact e
 exact absurd h2 (h m h1)
def Jg(c:cZ):Nat:=if c.isSome then 2 else 1
theorem Zb3{c:cZ}{b:Str}{y:Zon}{n:Nat}(h:stepC c b=some (y,n)):∃m,n=21+m/\21+m<=b.length/\zQ (Jg c) m b:=by
 have key : ∃w,bK (Jg c) b=(n,w)/\n≠0:=by
  cases c with
  | none=>obtain⟨h0,w,h1,_⟩:=Ey.1 (show nC b=_ from h);exact⟨w,h1,h0⟩
  | some z=>obtain⟨h0,w,d,h1,_⟩:=Ez.1 (show jV z b=_ from h);exact⟨w,h1,h0⟩
 obtain⟨w,h1,h0⟩:=key
 rcases DJ (Jg c) b with e|⟨m,h2,h3,h4⟩
 . rw[h1]at e;cases e;exact absurd rfl h0
 rw[h1]at h4;cases h4;exact⟨m,rfl,h2,h3⟩
theorem Zb4{c:cZ}{b:Str}(h:bK (Jg c) b=(0,[])):stepC c b=none:=by
 cases c with
 | none =>
  show nC b=none
  unfold nC;rw[X3 (by rw[show bK 1 b=_ from h])]
 | some z =>
  show jV z b=none
  unfold jV;rw[X3 (by rw[show bK 2 b=_ from h])]
theorem Zb0{c:cZ}{b:Str}{y:Zon}{n j:Nat}(h:stepC c b=some (y,n))(hj:j<n):stepC c (b.take j)=none:=by
 obtain⟨m,rfl,h1,h2⟩:=Zb3 h
 refine Zb4 (ZhT λm' h3 h4=>?_)
 rw[YA]at h3
 have h5:=(M6 (n:=j) (show 21+m'<=j by omega)).1 h4
 have:m'=m:=h5.2.1.symm.trans h2.2.1
 omega
theorem Ma{c:cZ}{p:Str}{y:Zon}{l:List Str}(h:stepC c p=some (y,p.length)):fK c (p::l)=fK (some y) l:=by
 have h0:=(wE h).2
 show(if(gu c p).2≠0/\(gu c p).2=p.length then fK (gu c p).1 l else none)=_
 rw[De h,if_pos ⟨by dsimp only;omega,rfl⟩]
theorem ZeL{c c':cZ}{p:Str}{l:List Str}(h:fK c (p::l)=some c'):∃y,stepC c p=some (y,p.length)/\fK (some y) l=some c':=by
 unfold fK at h
 split at h
 .
  rename_i q
  cases hs:stepC c p with
  | none=>rw[Bj hs]at q;exact absurd rfl q.1
  | some x =>
   obtain⟨y,k⟩:=x;rw[De hs]at q h;obtain⟨q1,q2⟩:=q;simp only at q1 q2 h;subst q2;exact⟨y,rfl,h⟩
 cases h
theorem CY : ∀(l m:List Str)(c:cZ),fK c (l++m)=(fK c l).bind λc1=>fK c1 m
 | [],m,c=>rfl
 | p::l,m,c=>by
  show(if(gu c p).2≠0/\(gu c p).2=p.length then fK (gu c p).1 (l++m)else none)=(if(gu c p).2≠0/\(gu c p).2=p.length then fK (gu c p).1 l else none).bind λc1=>fK c1 m
  split
  . exact CY l m _
  rfl
theorem ZeK{c c':cZ}{l:List Str}(h:fK c l=some c')(i:Nat):∃ci,fK c (l.take i)=some ci/\fK ci (l.drop i)=some c':=by
 rw[<-Y7 i l,CY]at h
 cases hq:fK c (l.take i)with
 | none=>rw[hq]at h;cases h
 | some ci=>rw[hq]at h;exact⟨ci,rfl,h⟩
def ZeM{c c':cZ}{l:List Str}(h:fK c l=some c'){i:Nat}(hi:i<l.length):∃ci y,fK c (l.take i)=some ci/\stepC ci l[i]! = some (y,l[i]!.length)/\fK c (l.take (i+1))=some (some y):=by
 obtain⟨ci,h1,h2⟩:=ZeK h i
 rw[YC hi]at h2
 obtain⟨y,h3,h4⟩:=ZeL h2
 refine⟨ci,y,h1,by rw[getElem!_pos l i hi];exact h3,?_⟩
 rw[Zg,CY,h1]
 have e:l[i]?.toList=[l[i]]:=by simp[hi]
 rw[e]
 show fK ci [l[i]]=_
 rw[Ma h3]
 rfl
theorem KO{b:Str}{l:List Str}{c:cZ}(h:fK (fe b) l=some c):fe (di b++aR l)=c/\di (di b++aR l)=di b++aR l:=by
 obtain⟨h7,h8⟩:=IJ _ _ _ h
 constructor
 . rw[wu,F9,MS,<-wu,<-h7]
 have e:di (di b++aR l)=(di b++aR l).take (gD (iO (di b++aR l))):=rfl
 rw[e,F9]
 have:gD (iO b++fr (fe b) (aR l))=(di b++aR l).length:=by
  rw[XZ,A9,<-h8]
  simp[gD]
 rw[this,Yn]
theorem ZaE{b p:Str}{l:List Str}{c:cZ}(h:fK (fe b) l=some c)(hs:stepC c p=none):fe (di b++aR l++p)=c:=by
 obtain⟨h7,h8⟩:=IJ _ _ _ h
 rw[Yu,wu,F9,MS,<-wu,Vv _ _ _ _ (XX _) h8,<-h7,yC hs,Yv,<-h7]
theorem Xm(a b:List Str):aR (a++b)=aR a++aR b:=by simp[aR]
theorem Kw{l:List Str}{i:Nat}(h:i<l.length):aR (l.take (i+1))=aR (l.take i)++l[i]! := by
 rw[Zg]
 have e:l[i]?.toList=[l[i]!]:=by simp[h,getElem!_pos]
 rw[e]
 simp[aR]
def Cy(d:bV)(i:Nat):cZ:=fe (di d.safe++aR (d.pend.take i))
def Zah{d:bV}{o:jD}(h:eP d=some o):Cy d d.pend.length=o.all:=by
 unfold Cy
 rw[Yn]
 exact(Ze5 h).1.symm
theorem Zgc{s:Str}(h:s.length<=1000000):lZ ⟨s,[]⟩=match fe s with
  | none=>(dH,42)
  | some z=>(z,0):=by
 unfold lZ eP
 rw[XV (λq=>q.elim (λq=>absurd q (show ¬1000000<s.length by omega)) (λq=>by simp at q))]
 rfl
def Ze4{s:Str}(h:s.length<=1000000):eP ⟨s,[]⟩=some ⟨di s,(di s).length+0,fe s,fe s⟩:=by
 unfold eP
 rw[XV (λq=>q.elim (λq=>absurd q (show ¬1000000<s.length by omega)) (λq=>by simp at q))]
 rfl
def EX(b:Str):(di b).length<=b.length:=by
 unfold di
 rw[YA]
 exact Nat.min_le_right _ _
def ZjJ{d:bV}{o:jD}(h:eP d=some o){n c:Int}(h1:0<=n)(h2:n<=d.pend.length)(h3:0<=c)(h4:c<=(nY d n).length) :
  fe (rC o d n c)=Cy d (if n<d.pend.length/\c=(nY d n).length then n.toNat+1 else n.toNat):=by
 obtain⟨_,_,h5,_,_,h6⟩:=uz h
 obtain⟨m,rfl⟩:∃m:Nat,n=m:=⟨n.toNat,om⟩
 unfold rC
 rw[h5,Int.toNat_natCast]
 by_cases hm:m<d.pend.length
 .
  have hb:nY d m=d.pend[m]! := by unfold nY;rw[X3 (by omega),Int.toNat_natCast]
  rw[hb]at h4 ⊢;obtain⟨ci,y,k1,k2,k3⟩:=ZeM h6 hm
  by_cases hc:c=d.pend[m]!.length
  . rw[X3 ⟨om,hc⟩,hc,Int.toNat_natCast,Yn,Yu,<-Kw hm];rfl
  rw[XV (λq=>hc q.2),ZaE k1 (Zb0 k2 (by omega)),Cy,(KO k1).1]
 have hb:nY d m=[]:=by unfold nY;rw[XV (by omega)]
 rw[hb,List.take_nil,Yv,XV (by intro q;omega)]
 rfl
def ZbV{z y:Zon}{x:aG}(hx:Cu x)(hl:(dG x).length<4294967296)(h:eD z x=(y,0)):jV z (bZ 2 (dG x))=some (y,(bZ 2 (dG x)).length):=by
 have h1:=Vs (k:=2) (w:=dG x) (r:=[]) hl
 rw[Yv]at h1
 exact Ez.2 ⟨by rw[rZ];omega,dG x,x,by rw[rZ];exact h1,Zd8 hx,h⟩
def Zb1(z:Zon)(b:Str):stepC (some z) b=jV z b:=rfl
def Zb2(b:Str):stepC none b=nC b:=rfl
theorem ZbU{z y:Zon}{x:aG}(hx:Cu x)(hl:(dG x).length<4294967296)(h:eD z x=(y,0)):stepC (some z) (bZ 2 (dG x))=some (y,(bZ 2 (dG x)).length):=(Zb1 _ _).trans (ZbV hx hl h)
def Zh9{z:Zon}(hz:GU z)(hl:(dL z).length<4294967296)(h:aJ z=true):nC (bZ 1 (dL z))=some (z,(bZ 1 (dL z)).length):=by
 have h1:=Vs (k:=1) (w:=dL z) (r:=[]) hl
 rw[Yv]at h1
 exact Ey.2 ⟨by rw[rZ];omega,dL z,by rw[rZ];exact h1,Zd6 hz,h⟩
def Zku{d:bV}{o:jD}{z y:Zon}{x:aG}(h:eP d=some o)(ha:o.all=some z)(hx:Cu x)(hl:(dG x).length<4294967296)(hy:eD z x=(y,0))(hp:d.pend.length<200) :
  eP ⟨o.whole,d.pend++[bZ 2 (dG x)]⟩=some ⟨o.whole,o.size+(bZ 2 (dG x)).length,o.saved,some y⟩:=by
 obtain⟨k1,k2,k3,k4,k5,k6⟩:=uz h
 have hw:=EX d.safe
 unfold eP
 rw[XV (by rintro (q|q);rw[k3]at q;simp only at q;omega;simp at q;omega)]
 have e1:fK (fe o.whole) (d.pend++[bZ 2 (dG x)])=some (some y):=by
  rw[k3,Su,CY,k6,ha]
  show fK (some z) [bZ 2 (dG x)]=_
  rw[Ma (c:=some z) (p:=bZ 2 (dG x)) (y:=y) (l:=[]) (ZbU hx hl hy)];rfl
 simp only[e1]
 rw[k3,ZeQ,Su,k4,k5]
 have e2:aR (d.pend++[bZ 2 (dG x)])=aR d.pend++bZ 2 (dG x):=by simp[aR]
 rw[e2,XZ]
 push_cast
 rw[Int.add_assoc]
theorem Zh8{z:Zon}(hz:GU z)(hl:(dL z).length<4294967296)(h:aJ z=true):stepC none (bZ 1 (dL z))=some (z,(bZ 1 (dL z)).length):=(Zb2 _).trans (Zh9 hz hl h)
theorem KE{d:bV}{o:jD}{z:Zon}{x:aG}{y:Zon}(h:eP d=some o)(ha:o.all=some z)(hy:eD z x=(y,0)) :
  nk d x=if 200<=d.pend.length then(mZ,2)else if 1000000<o.size+(bZ 2 (dG x)).length then(mZ,41)else(⟨o.whole,d.pend++[bZ 2 (dG x)]⟩,0):=by
 obtain⟨_,k⟩:=OU hy
 unfold nk
 simp only[h,ha,hy]
 rw[XV (by rw[k.dok];simp),XV (by simp)]
theorem Zkv{d:bV}{o:jD}{z:Zon}{x:aG}(h:eP d=some o)(ha:o.all=some z)(hy:(eD z x).2≠0):nk d x=(mZ,if fU x=false then 1 else(eD z x).2):=by
 unfold nk
 simp only[h,ha]
 split<;>first|rfl|(rw[X3 hy])
theorem Zkz{d:bV}{o:jD}{x:aG}(h:eP d=some o)(ha:o.all=none):nk d x=(mZ,if fU x=false then 1 else 42):=by
 unfold nk
 simp only[h,ha]
 split<;>rfl
def GV(z:Zon):Prop:=∀s∈z.sets,∀g∈s.sigs,0<=g.sum/\g.sum<18446744073709551616
def Cs(x:aG):Prop:=∀s∈x.put,∀g∈s.sigs,0<=g.sum/\g.sum<18446744073709551616
def O9{z:Zon}(h:aJ z=true){s:Sgd}(hs:s∈z.sets):s.sigs.length<=6 /\ ∀g∈s.sigs,g.zone=z.apex/\i64 g.key/\i64 g.alg/\i64 g.frm/\i64 g.unt:=by
 simp only[aJ,XU]at h
 obtain⟨i,hi,rfl⟩:=Zj hs
 have h1:=(eF _ _ _).1 h.2 i (Yi _) hi
 have h1:sj z i=true:=h1
 unfold sj mE at h1
 rw[XU]at h1
 rw[<-getElem!_pos z.sets i hi]
 refine⟨by have:=h1.1;simpa using this,λg hg=>?_⟩
 obtain⟨j,hj,rfl⟩:=Zj hg
 have h2:=(eF _ _ _).1 h1.2 j (Yi _) hj
 simp only[lv,XU,XW,jM,YB]at h2
 rw[<-getElem!_pos z.sets[i]!.sigs j hj]
 obtain⟨⟨⟨⟨⟨⟨a1,a2⟩,a3⟩,a4⟩,a5⟩,a6⟩,_⟩:=h2
 unfold i64
 exact⟨a1,om,om,om,om⟩
def Pb{z:Zon}(h:aJ z=true){s:Sgd}(hs:s∈z.sets)(hu : ∀g∈s.sigs,0<=g.sum/\g.sum<18446744073709551616):yU s:=by
 obtain⟨h1,h2⟩:=O9 h hs
 have ha:=gM (lM h).apex
 exact⟨(lM h).ok s hs,om,λg hg=>by obtain⟨a,b,c,d,e⟩:=h2 g hg;exact⟨by rw[a];omega,b,c,d,e,hu g hg⟩⟩
theorem O8{z:Zon}(h:aJ z=true)(hu:GV z):GU z:=by
 have ha:=gM (lM h).apex
 have hl:=(lM h).len
 exact⟨om,om,λs hs=>Pb h hs (hu s hs)⟩
def Q3{n:Int}(h:iB n=true):i64 n:=by
 simp only[iB,XU,XW]at h
 unfold i64
 omega
def Zep{q:ak}(h:qi q=true):GY q:=by
 have h1:=gM (wN h)
 simp only[qi,XU,jM]at h
 exact⟨om,om⟩
def Wl{z y:Zon}{x:aG}(h:eD z x=(y,0))(hu:Cs x):Cu x:=by
 obtain⟨rfl,k⟩:=OU h
 have hd:=yJ.1 k.dok
 have ha:=gM hd.apex
 have h1:=hd.dlen
 have h2:=hd.plen
 exact⟨om,Q3 hd.frm,Q3 hd.too,om,λq hq=>Zep (hd.dok q hq),om,λs hs=>Pb k.new (Tv.2 (.inr hs)) (hu s hs)⟩
def QN{z:Zon}(h:aJ z=true){s:Sgd}(hs:s∈z.sets):(fw s).length<=1700:=by
 obtain⟨h1,h2⟩:=O9 h hs
 have ha:=gM (lM h).apex
 have hb:=EG ((lM h).ok s hs)
 have hf:=xh (f:=iL) (n:=101) (l:=s.sigs) λg hg=>by
  have:=(h2 g hg).1;simp only[iL,bP,XZ,YS,jb,this];omega
 simp only[fw,XZ,YS,fH]
 omega
def Zi1{z y:Zon}{x:aG}(h:eD z x=(y,0)):(dG x).length<=100+x.drop.length*62+x.put.length*1700:=by
 obtain⟨rfl,k⟩:=OU h
 have hd:=yJ.1 k.dok
 have ha:=gM hd.apex
 have h1:=xh (f:=kG) (n:=62) (l:=x.drop) λq hq=>by
  have:=gM (wN (hd.dok q hq));simp only[kG,bP,XZ,YS,Y4];omega
 have h2:=xh (f:=fw) (n:=1700) (l:=x.put) λs hs=>QN k.new (Tv.2 (.inr hs))
 simp only[dG,jk,bP,XZ,YS,jb,fH]
 omega
def Zag{z:Zon}(h:aJ z=true):(dL z).length<=100+z.sets.length*1700:=by
 have ha:=gM (lM h).apex
 have h2:=xh (f:=fw) (n:=1700) (l:=z.sets) λs hs=>QN h hs
 simp only[dL,jk,bP,XZ,YS,fH]
 omega
def ug{α:Type}(f:RS->α×RS)(enc:α->Nat)(ok:α->Prop):Prop:=∀st:RS,(f st).2.2=false->st.2=false/\st.1.length=enc (f st).1+(f st).2.1.length/\ok (f st).1
theorem Nw(k:Nat):ug (bT k) (λ_=>k) (λs=>s.length=k):=by
 intro st h
 cases hs:st.2 with
 | true=>rw[wB (.inl hs)]at h;cases h
 | false =>
  by_cases hk:k<=st.1.length
  .
   rw[take_ok hs hk];refine⟨rfl,?_,?_⟩
   .
    show st.1.length=k+(st.1.drop k).length
    rw[Yw];omega
   show(st.1.take k).length=k
   rw[YA];omega
  rw[wB (.inr (by omega))]at h;cases h
def JB(k:Nat):ug (au k) (λ_=>k) (λu=>u<18446744073709551616):=by
 intro st h
 obtain⟨h1,h2,_⟩:=Nw k st h
 exact⟨h1,h2,Tc _⟩
def Nu:ug (au 1) (λ_=>1) (λu=>u<18446744073709551616):=JB 1
def ZhI:ug (au 2) (λ_=>2) (λu=>u<18446744073709551616):=JB 2
def Vf:ug (au 4) (λ_=>4) (λu=>u<18446744073709551616):=JB 4
def BV:ug (au 8) (λ_=>8) (λu=>u<18446744073709551616):=JB 8
def Nv:ug bS (λt=>(bP t).length) (λ_=>True):=by
 intro st h
 obtain⟨h1,h2,h3⟩:=Nw (au 1 st).1 (au 1 st).2 h
 obtain⟨h4,h5,_⟩:=Nu st h1
 refine⟨h4,?_,trivial⟩
 have e:(bS st).1.length=(au 1 st).1:=h3
 have e2:(au 1 st).2.1.length=(au 1 st).1+(bS st).2.1.length:=h2
 show st.1.length=(bS st).1.length+1+_
 have e3:st.1.length=1+(au 1 st).2.1.length:=h5
 omega
def OZ(g:RSig):Prop:=0<=g.sum/\g.sum<18446744073709551616
theorem QI(g:RSig):(iL g).length=(bP g.zone).length+40:=by
 simp only[iL,XZ,jb]
def ZhJ:ug lD (λg=>(iL g).length) OZ:=by
 intro st h
 obtain⟨h1,a1,a2⟩:=BV _ h
 obtain⟨h2,b1,_⟩:=BV _ h1
 obtain⟨h3,c1,_⟩:=BV _ h2
 obtain⟨h4,d1,_⟩:=BV _ h3
 obtain⟨h5,e1,_⟩:=BV _ h4
 obtain⟨h6,f1,_⟩:=Nv _ h5
 have es:(lD st).1.sum=(((au 8 (au 8 (au 8 (au 8 (au 8 (bS st).2).2).2).2).2).1:Nat):Int):=rfl
 refine⟨h6,?_,by unfold OZ;rw[es];omega⟩
 show st.1.length=(iL (lD st).1).length+(lD st).2.1.length
 rw[QI]
 show st.1.length=(bP (bS st).1).length+40+_
 have g0:(lD st).2.1.length=(au 8 (au 8 (au 8 (au 8 (au 8 (bS st).2).2).2).2).2).2.1.length:=rfl
 dsimp only at a1 b1 c1 d1 e1 f1
 rw[g0]
 omega
def nD{α:Type}(f:RS->α×RS):Nat->List α->RS->List α×RS
 | 0,out,st=>(out,st)
 | k+1,out,st=>if st.2 then(out,st)else nD f k (out++[(f st).1]) (f st).2
theorem JC{α:Type}{f:RS->α×RS}{enc:α->Nat}{ok:α->Prop}(hf:ug f enc ok):∀(k:Nat)(out:List α)(st:RS),(nD f k out st).2.2=false ->
  st.2=false /\ ∃l,(nD f k out st).1=out++l/\st.1.length=(l.map enc).sum+(nD f k out st).2.1.length/\(∀x∈l,ok x)
 | 0,out,st,h=>⟨h,[],by simp[nD],by simp[nD],λx hx=>by cases hx⟩
 | k+1,out,st,h=>by
  unfold nD at h ⊢
  split at h
  . rename_i q;rw[q]at h;cases h
  rename_i q
  rw[XV q];obtain⟨h1,l,h2,h3,h4⟩:=JC hf k _ _ h;obtain⟨h5,h6,h7⟩:=hf st h1;refine⟨h5,(f st).1::l,by rw[h2];simp,?_,λx hx=>?_⟩
  . rw[h6,h3];simp;omega
  rcases Ym.1 hx with e|e
  . subst e;exact h7
  exact h4 x e
theorem Ib : ∀(k:Nat)(out:List RSig)(st:RS),jH k out st=nD lD k out st
 | 0,_,_=>rfl
 | k+1,out,st=>by unfold jH nD;rw[Ib k]
theorem Ic : ∀(k:Nat)(out:List Sgd)(st:RS),jI k out st=nD iW k out st
 | 0,_,_=>rfl
 | k+1,out,st=>by unfold jI nD;rw[Ic k]
theorem ER : ∀(k:Nat)(out:List ak)(st:RS),lG k out st=nD oG k out st
 | 0,_,_=>rfl
 | k+1,out,st=>by unfold lG nD;rw[ER k]
theorem JS{α:Type}(f:α->Str):∀l:List α,(l.flatMap f).length=(l.map λx=>(f x).length).sum
 | []=>rfl
 | x::l=>by rw[ZU,XZ,X8,List.sum_cons,JS f l]
def SgdS(s:Sgd):Prop:=∀g∈s.sigs,OZ g
def ZhK:ug iW (λs=>(fw s).length) SgdS:=by
 intro st h
 have h:(jH (au 1 (iC st).2).1 [] (au 1 (iC st).2).2).2.2=false:=h
 rw[Ib]at h
 obtain⟨h1,l,h2,h3,h4⟩:=JC ZhJ _ _ _ h
 obtain⟨h5,h6,_⟩:=Nu _ h1
 have hr:(iV (j4 st).1).2=0:=by
  apply YV
  intro q;unfold iC at h5;rw[XV q]at h5
  cases h5
 have e2:iC st=((iV (j4 st).1).1,(j4 st).2):=by unfold iC;rw[X3 hr]
 rw[e2]at h5
 obtain⟨h7,h8,h9⟩:=Nw (au 2 st).1 (au 2 st).2 h5
 obtain⟨h10,h11,_⟩:=ZhI st h7
 have hb:=(Zj4 hr).2
 have es:(iW st).1=⟨(iV (j4 st).1).1,l⟩:=by
  show(⟨(iC st).1,(jH (au 1 (iC st).2).1 [] (au 1 (iC st).2).2).1⟩:Sgd)=_
  rw[Ib,h2,e2];rfl
 have er:(iW st).2=(nD lD (au 1 (iC st).2).1 [] (au 1 (iC st).2).2).2:=by
  show(jH (au 1 (iC st).2).1 [] (au 1 (iC st).2).2).2=_
  rw[Ib]
 refine⟨h10,?_,by rw[es];exact h4⟩
 rw[es,er]
 show st.1.length=(eu (ig (iV (j4 st).1).1).length 2++ig (iV (j4 st).1).1++jK l.length::l.flatMap iL).length+_
 rw[hb]
 simp only[XZ,YS,fH,JS]
 have k1:(j4 st).1.length=(au 2 st).1:=h9
 have k2:(au 2 st).2.1.length=(au 2 st).1+(j4 st).2.1.length:=h8
 have k3:st.1.length=2+(au 2 st).2.1.length:=h11
 have k4:(iC st).2.1.length=1+(au 1 (iC st).2).2.1.length:=h6
 have k5:(iC st).2.1.length=(j4 st).2.1.length:=by rw[e2]
 omega
def SgdsS(l:List Sgd):Prop:=∀s∈l,SgdS s
theorem ZcN(l:List Sgd):(jk l).length=4+(l.map λs=>(fw s).length).sum:=by
 simp only[jk,XZ,fH,JS]
def ZhL:ug lF (λl=>(jk l).length) SgdsS:=by
 intro st h
 have h:(jI (au 4 st).1 [] (au 4 st).2).2.2=false:=h
 rw[Ic]at h
 obtain⟨h1,l,h2,h3,h4⟩:=JC ZhK _ _ _ h
 obtain⟨h5,h6,_⟩:=Vf _ h1
 have es:(lF st).1=l:=by
  show(jI (au 4 st).1 [] (au 4 st).2).1=l
  rw[Ic,h2];rfl
 have er:(lF st).2=(nD iW (au 4 st).1 [] (au 4 st).2).2:=by
  show(jI (au 4 st).1 [] (au 4 st).2).2=_
  rw[Ic]
 refine⟨h5,?_,by rw[es];exact h4⟩
 rw[es,er]
 show st.1.length=(jk l).length+_
 rw[ZcN]
 have k3:st.1.length=4+(au 4 st).2.1.length:=h6
 omega
def ZhM:ug oG (λq=>(kG q).length) (λ_=>True):=by
 intro st h
 obtain⟨h1,h2,h3⟩:=Nu (bS st).2 h
 obtain⟨h4,h5,_⟩:=Nv st h1
 refine⟨h4,?_,trivial⟩
 dsimp only at h2 h5
 show st.1.length=(bP (bS st).1++[_]).length+(au 1 (bS st).2).2.1.length
 rw[XZ,List.length_singleton]
 have k:(bS st).2.1.length=1+(au 1 (bS st).2).2.1.length:=h2
 omega
def ZhN:ug fP (λd=>(dG d).length) Cs:=by
 intro st h
 obtain⟨h1,a1,a2⟩:=ZhL _ h
 rw[ER]at h1 a1
 obtain⟨h2,l,b1,b2,_⟩:=JC ZhM _ _ _ h1
 obtain⟨h3,c1,_⟩:=Vf _ h2
 obtain⟨h4,d1,_⟩:=BV _ h3
 obtain⟨h5,e1,_⟩:=BV _ h4
 obtain⟨h6,f1,_⟩:=Nv _ h5
 refine⟨h6,?_,a2⟩
 have es:(fP st).1.drop=l:=by
  show(lG _ [] _).1=l
  rw[ER,b1];rfl
 have hl:(dG (fP st).1).length=(bP (bS st).1).length+20+(l.map λx=>(kG x).length).sum+(jk (fP st).1.put).length:=by
  unfold dG;rw[es];simp only[XZ,jb,fH,JS]
  show(bP (bS st).1).length+8+8+4+_+_=_
  omega
 dsimp only at *
 rw[hl]
 have g0:(fP st).2.1.length=(lF (nD oG (au 4 (au 8 (au 8 (bS st).2).2).2).1 [] (au 4 (au 8 (au 8 (bS st).2).2).2).2).2).2.1.length:=by
  rw[<-ER];rfl
 have g1:(jk (fP st).1.put).length=(jk (lF (nD oG (au 4 (au 8 (au 8 (bS st).2).2).2).1 [] (au 4 (au 8 (au 8 (bS st).2).2).2).2).2).1).length:=by
  rw[<-ER];rfl
 rw[g0,g1]
 omega
def Zd7{w:Str}{d:aG}(h:wM w=some d):(dG d).length=w.length/\Cs d:=by
 unfold wM at h
 split at h
 . cases h
 rename_i q
 cases h
 unfold il at q
 simp only[Yc,XW,not_or,Bool.not_eq_true]at q
 obtain⟨_,h2,h3⟩:=ZhN (w,false) q.1
 exact⟨by dsimp only at h2;omega,h3⟩
def ZbN{d:bV}{o:jD}(h:eP d=some o)(hs:o.size<=1000000):rF d=(⟨o.whole++aR d.pend,[]⟩,0)/\fe (o.whole++aR d.pend)=o.all/\(o.whole++aR d.pend).length<=1000000:=by
 obtain⟨_,_,h3,h4,_,h6⟩:=uz h
 refine⟨?_,?_,?_⟩
 . unfold rF;rw[h];simp only;rw[XV (by omega)]
 . rw[h3,(KO h6).1]
 rw[h3,XZ];omega
def Zkk{z:Zon}(hz:aJ z=true)(hu:GV z)(hl:(dL z).length<=900000):sD z=(⟨[],[bZ 1 (dL z)]⟩,0) /\ ∃o,eP ⟨[],[bZ 1 (dL z)]⟩=some o/\o.all=some z/\o.saved=none/\o.whole=[]/\o.size<=1000000:=by
 have hfl:=rZ 1 (dL z)
 constructor
 . unfold sD;rw[XV (by rw[hz];simp),XV (by omega)]
 have e0:iO []=[]:=Vu none
 have ew:fe []=none:=by unfold fe;rw[e0];rfl
 have ep:di []=[]:=by unfold di;simp
 have e1:fK (fe []) [bZ 1 (dL z)]=some (some z):=by
  rw[ew,Ma (c:=none) (p:=bZ 1 (dL z)) (y:=z) (l:=[]) (Zh8 (O8 hz hu) (by omega) hz)]
  rfl
 refine⟨⟨di [],((di []).length:Int)+(aR [bZ 1 (dL z)]).length,fe [],some z⟩,?_,rfl,ew,ep,?_⟩
 .
  unfold eP;rw[XV (by rintro (q|q)<;>simp at q)]
  simp only[e1]
 show((di []).length:Int)+(aR [bZ 1 (dL z)]).length<=_
 rw[ep]
 simp only[aR,List.flatten_cons,List.flatten_nil,Yv,Y4]
 omega
def Zbw{d:bV}{o:jD}(h:eP d=some o)(n c:Int):(rC o d n c).length<=d.safe.length+(aR d.pend).length:=by
 obtain⟨_,_,h3,_,_,_⟩:=uz h
 have h4:=EX d.safe
 unfold rC
 rw[h3,XZ,XZ,YA]
 have key : ∀(l:List Str)(n:Int),(aR (l.take n.toNat)).length+(if n<l.length then l[n.toNat]! else[]).length<=(aR l).length:=by
  intro l n
  by_cases hn:n<l.length
  .
   rw[X3 hn]
   by_cases h0:n.toNat<l.length
   .
    have e:l=l.take (n.toNat+1)++l.drop (n.toNat+1):=(Y7 _ _).symm;have e2:(aR l).length=(aR (l.take (n.toNat+1))).length+(aR (l.drop (n.toNat+1))).length:=by
     conv=>lhs;rw[e]
     rw[Xm,XZ]
    rw[e2,Kw h0,XZ];omega
   have e:l=[]:=Ya om;subst e
   simp[aR]
   rfl
  rw[XV hn,Yl (by omega)]
  simp
 have:=key d.pend n
 have e:nY d n=if n<d.pend.length then d.pend[n.toNat]! else[]:=rfl
 rw[e]
 omega
def wO(w:Str):Zon:=if(jZ (w,false)).2.2=true then dH else(jZ (w,false)).1
def rP(w:Str):aG:=if(fP (w,false)).2.2=true then qV else(fP (w,false)).1
def KT:D->Value
 | .v x=>x
 | _=>undef
@[go_sem]theorem val1_v(x:Value):KT (.v x)=x:=rfl
def isE:Value->Bool
 | .nilIface=>false
 | _=>true
def jD.d(o:jD):List D:=.list false (o.whole.map bD) :: .i o.size::(o.saved.d++o.all.d)
def Mi:jD:=⟨[],0,none,none⟩
def vB(d:bV):jD:=(eP d).getD Mi
@[go_sem]theorem cnt_d(c:cZ):c.d=[.v (.bool c.isSome),.v (.string (bs (c.getD dH).apex)),.list false ((c.getD dH).sets.map Sgd.d)]:=rfl
def mkC(b:Bool)(z:Zon):cZ:=if b then some z else none
@[go_sem]theorem mkC_c(c:cZ):mkC c.isSome (c.getD dH)=c:=by
 cases c<;>rfl
@[go_sem]theorem cnt1_agg{b:Bool}{s:ByteArray}{f:Bool}{rows:List (List D)}:cnt1 (.agg [.v (.bool b),.v (.string s),.list f rows])=mkC b (aO (.agg [.v (.string s),.list f rows])):=by
 cases b<;>rfl
attribute [go_sem] Option.isSome_some Option.isSome_none Option.getD_some Option.getD_none
def dsk_d(x:bV):x.d=[.list false (x.safe.map bD),.list false (x.pend.map ja)]:=rfl
def dsk1_agg{f g:Bool}{rows lC:List (List D)}:lg (.agg [.list f rows,.list g lC])=⟨gQ (.list f rows),IK (.list g lC)⟩:=rfl
attribute[go_sem]dsk_d dsk1_agg
@[go_sem]theorem Zlu{f:Bool}{l:List Str}:IK (.list f (l.map ja))=l:=kW (f:=ja) (g:=ofBy) (λx=>by show gQ (.list false (x.map bD))=x;exact Zj5) l
@[go_sem]theorem opn_d(o:jD):o.d=[.list false (o.whole.map bD),.i o.size,.v (.bool o.saved.isSome),.v (.string (bs (o.saved.getD dH).apex)),.list false ((o.saved.getD dH).sets.map Sgd.d),.v (.bool o.all.isSome),.v (.string (bs (o.all.getD dH).apex)),.list false ((o.all.getD dH).sets.map Sgd.d)]:=rfl
@[go_sem]theorem Zfu{l:List Str}:bq (l.map ja)=true:=by
 induction l with
 | nil=>rfl
 | cons x l ih=>simp[go_sem,ja,bq,bC,D.nr,ih]
@[go_sem]theorem dsk_eta(x:bV):(⟨x.safe,x.pend⟩:bV)=x:=rfl
def Vm(k:Nat)(b:Str):(bK k b).2.length<=b.length/\(bK k b).1<=b.length:=by
 rcases DJ k b with e|⟨m,h1,h2,h3⟩
 . rw[e];exact⟨Yi _,Yi _⟩
 rw[h3,YA,Yw]
 dsimp only
 omega
theorem SV{w:Str}(h:il (jZ (w,false)).2=false):zk w=some (wO w):=by
 unfold zk wO
 rw[XV (by rw[h];simp)]
 unfold il at h
 simp only[Yd]at h
 rw[XV (by rw[h.1];simp)]
theorem Mj{w:Str}(h:il (fP (w,false)).2=false):wM w=some (rP w):=by
 unfold wM rP
 rw[XV (by rw[h];simp)]
 unfold il at h
 simp only[Yd]at h
 rw[XV (by rw[h.1];simp)]
theorem ZfA{w:Str}(h:(bK 1 w).1=0\/il (jZ ((bK 1 w).2,false)).2=true\/aJ (wO (bK 1 w).2)=false):gu none w=(none,0):=by
 refine Bj ?_
 show nC w=none
 unfold nC
 by_cases h0:(bK 1 w).1=0
 . rw[X3 h0]
 rw[XV h0]
 cases ho:il (jZ ((bK 1 w).2,false)).2 with
 | true =>
  have:zk (bK 1 w).2=none:=by unfold zk;rw[X3 ho]
  simp only[this]
 | false =>
  simp only[SV ho]
  rcases h with h|h|h
  . exact absurd h h0
  . rw[ho]at h;cases h
  rw[XV (by rw[h];simp)]
def Zfz{w:Str}(h0:(bK 1 w).1≠0)(h1:il (jZ ((bK 1 w).2,false)).2=false)(h2:aJ (wO (bK 1 w).2)=true):gu none w=(some (wO (bK 1 w).2),(bK 1 w).1):=by
 refine De ?_
 show nC w=_
 unfold nC
 rw[XV h0]
 simp only[SV h1]
 rw[X3 h2]
def ZfE{z:Zon}{w:Str}(h:(bK 2 w).1=0):gu (some z) w=(some z,0):=by
 refine Bj ?_
 show jV z w=none
 unfold jV
 rw[X3 h]
def ZfC{z:Zon}{w:Str}(h:il (fP ((bK 2 w).2,false)).2=true):gu (some z) w=(some z,0):=by
 refine Bj ?_
 show jV z w=none
 unfold jV
 split
 . rfl
 have:wM (bK 2 w).2=none:=by unfold wM;rw[X3 h]
 simp only[this]
def ZfD{z:Zon}{w:Str}(h1:il (fP ((bK 2 w).2,false)).2=false)(h:(eD z (rP (bK 2 w).2)).2≠0):gu (some z) w=(some z,0):=by
 refine Bj ?_
 show jV z w=none
 unfold jV
 split
 . rfl
 simp only[Mj h1]
 rw[XV h]
def ZfB{z:Zon}{w:Str}(h0:(bK 2 w).1≠0)(h1:il (fP ((bK 2 w).2,false)).2=false)(h:(eD z (rP (bK 2 w).2)).2=0):gu (some z) w=(some (eD z (rP (bK 2 w).2)).1,(bK 2 w).1):=by
 refine De ?_
 show jV z w=_
 unfold jV
 rw[XV h0]
 simp only[Mj h1]
 rw[X3 h]
theorem JU{α:Type}{f:α->Str}{n:Nat}:∀{l:List α},(∀x∈l,n<=(f x).length)->l.length*n<=(l.flatMap f).length
 | [],_=>by simp
 | x::l,h=>by
  rw[ZU,XZ,YS,Zk,Nat.one_mul];have h1:=h x (by simp)
  have h2:=JU (f:=f) (n:=n) (l:=l) λy hy=>h y (by simp[hy])
  omega
theorem ZfT{α:Type}{f:α->Str}{l:List α}{x:α}(h:x∈l):(f x).length<=(l.flatMap f).length:=by
 induction l with
 | nil=>cases h
 | cons y l ih =>
  rw[ZU,XZ]
  rcases Ym.1 h with e|e
  . subst e;omega
  have:=ih e;omega
def ZcM{l:List Sgd}(h:(jk l).length<=1000000):fO l:=by
 have e:(jk l).length=4+(l.flatMap fw).length:=by simp only[jk,XZ,fH]
 have h1:=JU (f:=fw) (n:=1) (l:=l) λs _=>by simp[fw];omega
 refine NP om λs hs=>?_
 have h2:=ZfT (f:=fw) hs
 have h3:=JU (f:=iL) (n:=40) (l:=s.sigs) λg _=>by rw[QI];omega
 have h4:=JU (f:=kN) (n:=16) (l:=s.set.data) λd _=>by simp[kN,jb]
 have h5:(fw s).length=2+(ig s.set).length+1+(s.sigs.flatMap iL).length:=by
  simp only[fw,XZ,YS,fH];omega
 have h6:(s.set.data.flatMap kN).length<=(ig s.set).length:=by
  simp only[ig,XZ,YS];omega
 exact ZcJ om om
def ZeA{w:Str}(hw:w.length<=1000000)(h:il (fP (w,false)).2=false):fO (rP w).put:=by
 obtain⟨h1,_⟩:=Zd7 (Mj h)
 refine ZcM ?_
 have:(jk (rP w).put).length<=(dG (rP w)).length:=by
  simp only[dG,XZ];omega
 omega
theorem Tq(c:cZ)(w:Str):(stepC c w=none/\gu c w=(c,0)) \/ ∃y n,stepC c w=some (y,n)/\gu c w=(some y,n)/\0<n/\n<=w.length:=by
 cases h:stepC c w with
 | none=>exact .inl ⟨rfl,Bj h⟩
 | some x =>
  obtain⟨y,n⟩:=x;obtain⟨h1,h2⟩:=wE h;exact .inr ⟨y,n,rfl,De h,h2,h1⟩
def G5(w:Str)(at_:Nat)(c:cZ):Prop:=at_<=w.length/\gD (iO w)=at_+gD (fr c (w.drop at_))/\fe w=vI c (fr c (w.drop at_))
def Wi(w:Str):G5 w 0 none:=by
 refine⟨Yi _,?_,?_⟩
 . rw[X6,Nat.zero_add];rfl
 rw[X6,wu];rfl
def Wh{w:Str}{a n:Nat}{c:cZ}{y:Zon}(h:G5 w a c)(hs:stepC c (w.drop a)=some (y,n)):G5 w (a+n) (some y):=by
 obtain⟨h1,h2,h3⟩:=h
 have h4:=(wE hs).1
 rw[Yw]at h4
 rw[Aa hs,ZJ]at h2 h3
 rw[Ew]at h2
 rw[Fh]at h3
 exact⟨om,by dsimp only at h2;omega,h3⟩
def ZiZ{w:Str}{a:Nat}{c:cZ}(h:G5 w a c)(hs:stepC c (w.drop a)=none):gD (iO w)=a/\fe w=c:=by
 obtain⟨h1,h2,h3⟩:=h
 rw[yC hs]at h2 h3
 exact⟨h2,h3⟩
def A8(c:cZ)(l:List Str)(k:Nat):Option cZ:=fK c (l.take k)
def Mc{c ck:cZ}{l:List Str}{k:Nat}(h:A8 c l k=some ck)(hk:k<l.length):A8 c l (k+1)=if(gu ck l[k]!).2≠0/\(gu ck l[k]!).2=l[k]!.length then some (gu ck l[k]!).1 else none:=by
 unfold A8 at h ⊢
 rw[Zg,CY,h]
 have e:l[k]?.toList=[l[k]!]:=by simp[hk,getElem!_pos]
 rw[e]
 rfl
def Sn{c:cZ}{l:List Str}{k:Nat}(h:A8 c l k=none):fK c l=none:=by
 rw[<-Y7 k l,CY,show fK c (l.take k)=none from h]
 rfl
def ZeN{c:cZ}{l:List Str}:A8 c l l.length=fK c l:=by unfold A8;rw[Yn]
def Kv{l:List Str}{k:Nat}(hk:k<l.length):(aR (l.take (k+1))).length=(aR (l.take k)).length+l[k]!.length:=by
 rw[Kw hk,XZ]
def OC{l:List Str}(k:Nat):(aR (l.take k)).length<=(aR l).length:=by
 conv=>rhs;rw[<-Y7 k l,Xm,XZ]
 omega
@[go_sem]theorem wkr_byR{l:List Str}:eG (l.map ja)=l.map ja:=by
 induction l with
 | nil=>rfl
 | cons x l ih =>
  rw[X8]
  show eB (ja x)::eG (l.map ja)=_
  rw[ih];have:eB (ja x)=ja x:=by simp[ja,eB,go_sem]
  rw[this]
@[go_sem]theorem all_byR{l:List Str}:(∀r∈l.map ja,r.length=1)=True:=by
 apply eq_true
 intro r hr
 obtain⟨x,_,rfl⟩:=Yt.1 hr
 rfl
def Ze2{d:bV}{c:cZ}(h1:d.safe.length<=1000000)(h2:d.pend.length<=200)(h:fK (fe d.safe) d.pend=some c):eP d=some ⟨di d.safe,(di d.safe).length+(aR d.pend).length,fe d.safe,c⟩:=by
 unfold eP
 rw[XV (by omega),h]
def SK{d:bV}(h:fK (fe d.safe) d.pend=none):eP d=none:=by
 unfold eP
 split
 . rfl
 rw[h]
def Ze3{d:bV}(h:1000000<d.safe.length\/200<d.pend.length):eP d=none:=by
 unfold eP
 rw[X3 h]
structure kw(d:bV):Prop where
 pend : ∀p∈d.pend,p.length<=1000000
 safe:d.safe.length<=1000000000
 many:d.pend.length<=1000000
theorem kw.at{d:bV}(h:kw d){k:Nat}(hk:k<d.pend.length):d.pend[k]!.length<=1000000:=by
 rw[getElem!_pos d.pend k hk]
 exact h.pend _ (YI hk)
theorem GL{d:bV}(h:kw d)(k:Nat)(h2:d.pend.length<=200):(aR (d.pend.take k)).length<=200000000:=by
 have key : ∀l:List Str,(∀p∈l,p.length<=1000000)->(aR l).length<=l.length*1000000:=by
  intro l
  induction l with
  | nil=>intro _;simp[aR]
  | cons p l ih =>
   intro hp;have h1:=hp p (by simp)
   have h2:=ih λq hq=>hp q (by simp[hq])
   rw[OD,XZ,YS];omega
 have:=key (d.pend.take k) λp hp=>h.pend p (List.mem_of_mem_take hp)
 rw[YA]at this
 omega
def ZgT{d:aG}(h:fU d=false):rV d d=(qV,1):=by unfold rV;rw[X3 (.inl h)]
def ZgS{d:aG}(h:fU d=true):rV d d=(qV,23):=by
 have hd:=yJ.1 h
 have hne:d.too≠d.frm:=OP hd.bef hd.too
 unfold rV
 rw[XV o3r,X3 (.inl hne)]
def z8{l:List Str}{n:Nat}(h:n<l.length):(l.map ja).getD n []=[.list false (l[n]!.map bD)]:=by
 simp[List.getD,h,ja,getElem!_pos]
end Go.Jn
