/-
  MANY TEXTS OF MINE IN ONE (a claim has a limit of files): DSimp, Types, DWalk, DRange, Str, Rec, Cmp, Rec2, Rec3, Rec4, Rec5, Sym, Rec6, Zon, Zon2, Zon3, Zdl, Zdm, Zdn, Zdo, Zdp, Zdq, Zla, Zlb, Zlc, Zld, Zdr, Zds, Jn, Jnl, Jno, Zdt, Zdu, Jlw, Jlx, Jp, Jly. Conditions: none.
-/
import Derived.Test.YtidphdaoejibcaaGreatDoorProg
import Derived.KernelRfl
import Derived.Lib.Bytealg
import Derived.Shelf.Small.Strs
import Derived.Test.YtidphdaoejibcaaGreatDoorMZA1
set_option linter.unusedVariables false
set_option linter.unusedSimpArgs false
set_option linter.unusedSectionVars false
set_option linter.defProp false
set_option linter.unnecessarySimpa false
namespace Go.DL
open Go.RowKit
theorem _root_.o5q{p:Prop}(h:p:=by rw[he];exact hok):p:=h
theorem _root_.o3j{p:Prop}(h:p:=by rintro (q|q|q);rw[h]at q;cases q;rw[h]at q;cases q;exact q rfl):p:=h
variable {P : Program} {W : bX} {C : aR}
attribute [go_sem_proc] Nat.reduceEqDiff Nat.reduceAdd Nat.reduceLeDiff Nat.reduceBEq Nat.reduceSub Nat.reduceMul Int.reduceLT Int.reduceLE Int.reduceEq Int.reduceNeg Int.reduceToNat reduceIte Nat.reduceLT reduceCtorEq
attribute [go_sem] decide_true decide_false Bool.not_true Bool.not_false Int.toNat_natCast
def S.out(s:S)(dst:Option Tmp)(r:D×H×Prop):S:={ n:=s.n,t:=s.put dst r.1,h:=r.2.1,nx:=s.nx,ok:=s.ok/\dG s.n dst=true/\r.2.2,e:=s.e }
def S.outG(s:S)(dst:Option Tmp)(op:Op)(C:aR)(gd:D)(want:Bool)(r:D×H×Prop):S :=
 { n:=s.n,t:=s.put dst (.cond (lv gd want) r.1),h:=s.h,nx:=s.nx,ok:=s.ok/\dG s.n dst=true/\uD gd=true/\bU C op ≠ .writes/\(lv gd want=true->r.2.2),e:=s.e }
def exec_eq [Glob P]{L:List Oper}{s:S}:exec P W C L s=aY P W C L s.nx 0 L { n:=s.n,t:=s.t,h:=s.h,nx:=s.nx+L.length,ok:=s.ok,e:=s.e }:=rfl
def ZlJ [Glob P]{L:List Oper}{b i:Nat}{s:S}:aY P W C L b i [] s=s:=rfl
def ZlK [Glob P]{L:List Oper}{b i:Nat}{o:Oper}{os:List Oper}{s:S}:aY P W C L b i (o::os) s=aY P W C L b (i+1) os (dF P W C L b i o s):=rfl
attribute[go_sem]exec_eq ZlJ ZlK
@[go_sem]theorem ZlL [Glob P]{L:List Oper}{b i:Nat}{dst:Option Tmp}{op:Op}{ty:TypeId}{pos:String}{af:Array Edge}{s:S} :
  dF P W C L b i { dst:=dst,op:=op,type:=ty,pos:=pos,after:=af,guard:=none } s=s.out dst (aX P W C true op ((aU op).map s.ev) s.h (b+i)):=rfl
def Di(L:List Oper)(j:Nat)(t:Nat->D):D:=((L[j]?).bind (·.dst)).elim .junk t
@[go_sem]theorem ZlM [Glob P]{L:List Oper}{b i j:Nat}{want:Bool}{dst:Option Tmp}{op:Op}{ty:TypeId}{pos:String}{af:Array Edge}{s:S} :
  dF P W C L b i { dst:=dst,op:=op,type:=ty,pos:=pos,after:=af,guard:=some (j,want) } s =
   s.outG dst op C (Di L j s.t) want (aX P W C (lv (Di L j s.t) want) op ((aU op).map s.ev) s.h (b+i)):=rfl
@[go_sem]theorem ZlH{dst:Option Tmp}{op:Op}{ty:TypeId}{pos:String}{af:Array Edge}{gd:Option (Nat×Bool)}{L:List Oper}{t:Nat->D} :
  Di ({ dst:=dst,op:=op,type:=ty,pos:=pos,after:=af,guard:=gd }::L) 0 t=dst.elim .junk t:=rfl
@[go_sem]theorem ZlI{o:Oper}{L:List Oper}{j:Nat}{t:Nat->D}:Di (o::L) (j+1) t=Di L j t:=by simp[Di]
@[go_sem]theorem out_some{n nx:Nat}{t:Nat->D}{h:H}{ok:Prop}{e:Env}{d:Tmp}{x:D}{h':H}{p:Prop}:S.out { n,t,h,nx,ok,e } (some d) (x,h',p)={ n,t:=upd t d x,h:=h',nx,ok:=ok/\decide (d<n)=true/\p,e }:=rfl
@[go_sem]theorem Zk4{n nx:Nat}{t:Nat->D}{h:H}{ok:Prop}{e:Env}{x:D}{h':H}{p:Prop}:S.out { n,t,h,nx,ok,e } none (x,h',p)={ n,t,h:=h',nx,ok:=ok/\p,e }:=by simp[S.out,S.put,dG]
@[go_sem]theorem Zk5{n nx:Nat}{t:Nat->D}{h:H}{ok:Prop}{e:Env}{d:Tmp}{op:Op}{gd:D}{want:Bool}{x:D}{h':H}{p:Prop} :
  S.outG { n,t,h,nx,ok,e } (some d) op C gd want (x,h',p)={ n,t:=upd t d (.cond (lv gd want) x),h,nx,ok:=ok/\decide (d<n)=true/\uD gd=true/\bU C op ≠ .writes/\(lv gd want=true->p),e }:=rfl
theorem aH{n nx:Nat}{t:Nat->D}{h:H}{ok:Prop}{e:Env}:S.clear { n,t,h,nx,ok,e }={ n,t,h,nx,ok:=True,e }:=rfl
theorem Bf{n:Nat}{args:List D}:S.init n args={ n,t:=λi=>args.getD i .junk,h:=λ_=>none,nx:=0,ok:=True,e:=Env.tt }:=rfl
def ev_tmp{s:S}{i:Tmp}:s.ev (.tmp i)=s.t i:=rfl
def ev_const{s:S}{x:Value}:s.ev (.const x)=qg x:=rfl
def ZlN{s:S}{g:Nat}:s.ev (.global g) = .v (.pointer (some ⟨g,0,none⟩)):=rfl
def ev_func{s:S}{f:FuncId}:s.ev (.func f) = .fn (.func f) [] []:=rfl
def ofV_int{k:IntKind}{n:Int}:qg (.int k n) = .v (.int k n):=rfl
def ofV_bool{b:Bool}:qg (.bool b) = .v (.bool b):=rfl
def Zk9{s:ByteArray}:qg (.string s) = .v (.string s):=rfl
def ofV_nil:qg (.slice none 0 0) = .list true []:=rfl
def Zlb:qg .nilFunc = .v .nilFunc:=rfl
def Zla:qg .nilIface = .v .nilIface:=rfl
attribute[go_sem]aH Bf ev_tmp ev_const ZlN ev_func ofV_int ofV_bool Zk9 ofV_nil Zlb Zla
@[go_sem]theorem upd_hit{α:Type}{f:Nat->α}{i:Nat}{x:α}:upd f i x i=x:=by simp[upd]
@[go_sem]theorem upd_miss{α:Type}{f:Nat->α}{i j:Nat}{x:α}(h:(j=i)=False):upd f i x j=f j:=by simp only[upd];rw[XV (by rw[h];exact id)]
attribute [go_sem] List.take_succ_cons List.take_zero List.take_nil List.drop_zero List.drop_succ_cons List.drop_nil List.set_cons_zero List.set_cons_succ List.cons_append List.nil_append List.append_nil Bool.false_eq_true Nat.zero_add Nat.add_zero Nat.add_assoc List.length_map List.headD_cons
attribute [go_sem] ne_eq imp_self Bool.not_eq_true' Bool.not_eq_false' Bool.and_self and_self
attribute [go_sem] eq_self not_false_eq_true and_true true_and List.length_cons List.length_nil List.getD_cons_zero List.getD_cons_succ List.getD_nil implies_true true_implies
@[go_sem]theorem size_lit{α:Type}{l:List α}:l.toArray.size=l.length:=rfl
attribute [go_sem] aU List.map_cons List.map_nil
def sd_v{x:Value}:sd (.v x) = .v x:=rfl
def sd_agg{x:List D}:sd (.agg x) = .agg x:=rfl
def sd_list{f:Bool}{x:List (List D)}:sd (.list f x) = .list f x:=rfl
def sd_eptr{x:List D}:sd (.eptr x) = .eptr x:=rfl
def sd_mrow{a b c:Nat}:sd (.mrow a b c) = .mrow a b c:=rfl
def sd_mptr{a b c:Nat}:sd (.mptr a b c) = .mptr a b c:=rfl
def sd_fn{f:Fn}{a b:List D}:sd (.fn f a b) = .fn f a b:=rfl
def sd_tuple{a:List D}:sd (.tuple a) = .tuple a:=rfl
def sd_cond{g:Bool}{d:D}:sd (.cond g d)=d:=rfl
def sd_mp{r:Nat}:sd (.mp r) = .mp r:=rfl
def sd_fmap{kv:List D}:sd (.fmap kv) = .fmap kv:=rfl
def sg_mp{r:Nat}:sg (.mp r)=true:=rfl
def sg_fmap{kv:List D}:sg (.fmap kv)=true:=rfl
def sg_v{x:Value}:sg (.v x)=true:=rfl
def sg_agg{x:List D}:sg (.agg x)=true:=rfl
def sg_list{f:Bool}{x:List (List D)}:sg (.list f x)=true:=rfl
def sg_eptr{x:List D}:sg (.eptr x)=true:=rfl
def sg_mrow{a b c:Nat}:sg (.mrow a b c)=true:=rfl
def sg_mptr{a b c:Nat}:sg (.mptr a b c)=true:=rfl
def sg_fn{f:Fn}{a b:List D}:sg (.fn f a b)=true:=rfl
def sg_tuple{a:List D}:sg (.tuple a)=true:=rfl
def sg_cond{g:Bool}{d:D}:sg (.cond g d)=g:=rfl
attribute[go_sem]sd_v sd_agg sd_list sd_eptr sd_mrow sd_mptr sd_fn sd_tuple sd_cond sd_mp sd_fmap sg_mp sg_fmap sg_v sg_agg sg_list sg_eptr sg_mrow sg_mptr sg_fn sg_tuple sg_cond
attribute [go_sem] List.all_cons List.all_nil Bool.and_true Bool.true_and
def gval_v{b want:Bool}:lv (.v (.bool b)) want=(b==want):=rfl
def gval_c{g b want:Bool}:lv (.cond g (.v (.bool b))) want=(g&&(b==want)):=rfl
def gok_v{b:Bool}:uD (.v (.bool b))=true:=rfl
def gok_c{g b:Bool}:uD (.cond g (.v (.bool b)))=true:=rfl
attribute[go_sem]gval_v gval_c gok_v gok_c
attribute [go_sem] Option.elim beq_true beq_false
@[go_sem]theorem e_move [Glob P]{g:Bool}{x:Operand}{d:D}{h:H}{b:Nat}:aX P W C g (.move x) [d] h b=(sd d,h,(g=true->sg d=true)/\True):=by simp[aX,fA,aZ]
@[go_sem]theorem e_assign [Glob P]{g:Bool}{x:Operand}{d:D}{h:H}{b:Nat}:aX P W C g (.assign x) [d] h b=(sd d,h,(g=true->sg d=true)/\True):=by simp[aX,fA,aZ]
@[go_sem]theorem e_alloc [Glob P]{g:Bool}{e:TypeId}{h:H}{b:Nat}:aX P W C g (.alloc e) [] h b=(.mptr b 0 0,upd h b (some ⟨e,[zeroCells P e]⟩),(zeroCells P e).length=P.cellsOf e/\(zeroCells P e).all D.one=true/\0<P.cellsOf e):=by simp[aX,fA,aZ]
@[go_sem]theorem e_box [Glob P]{g:Bool}{e:TypeId}{x:Operand}{d:D}{h:H}{b:Nat}:aX P W C g (.box e x) [d] h b=(.mptr b 0 0,upd h b (some ⟨e,[(sd d).cells]⟩),(g=true->sg d=true)/\(sd d).cells.length=P.cellsOf e/\(sd d).cells.all D.one=true/\0<P.cellsOf e):=by simp[aX,fA,aZ]
@[go_sem]theorem e_build [Glob P]{g:Bool}{t:TypeId}{ps:Array (Nat×Operand)}{xs:List D}{h:H}{b:Nat}:aX P W C g (.build t ps) xs h b=((DD P t ps.toList (xs.map sd)).1,h,(g=true->xs.all sg=true)/\(DD P t ps.toList (xs.map sd)).2):=by simp[aX,fA,aZ,still]
@[go_sem]theorem ZlX [Glob P]{g:Bool}{t:TypeId}{n:Nat}{ps:Array (Nat×Operand)}{xs:List D}{h:H}{b:Nat}:aX P W C g (.buildSlice t n ps) xs h b=if C.bs then((uL P t n ps.toList (xs.map sd) h b).1,(uL P t n ps.toList (xs.map sd) h b).2.1,(g=true->xs.all sg=true)/\(uL P t n ps.toList (xs.map sd) h b).2.2)else((BO P t n ps.toList (xs.map sd)).1,h,(g=true->xs.all sg=true)/\(BO P t n ps.toList (xs.map sd)).2):=by cases hb:C.bs<;>simp[aX,fA,aZ,still,hb]
@[go_sem]theorem e_load [Glob P]{g:Bool}{t:TypeId}{x:Operand}{d:D}{h:H}{b:Nat}:aX P W C g (.load t x) [d] h b=(xO P t (jl P (sd d) h),h,(g=true->sg d=true)/\P.cellsOf t<=(jl P (sd d) h).length/\0<P.cellsOf t/\(P.underlying t).isSome=true):=by simp[aX,fA,aZ,still,mF]
@[go_sem]theorem e_store [Glob P]{g:Bool}{t:TypeId}{x y:Operand}{d d':D}{h:H}{b:Nat}:aX P W C g (.store t x y) [d,d'] h b=(.v undef,(kZ P t (sd d) (sd d') h).1,(g=true->(sg d&&sg d')=true)/\(kZ P t (sd d) (sd d') h).2):=by simp[aX,fA,aZ]
@[go_sem]theorem ZlO [Glob P]{g:Bool}{x:Operand}{d:D}{h:H}{b:Nat}:aX P W C g (.nilCheck x) [d] h b=(sd d,h,(g=true->sg d=true)/\xW (sd d)=true):=by simp[aX,fA,aZ]
@[go_sem]theorem e_binOp [Glob P]{g:Bool}{op:BinOp}{t u:TypeId}{x y:Operand}{d d':D}{h:H}{b:Nat}:aX P W C g (.binOp op t x y u) [d,d'] h b=((yF P t op (sd d) (sd d')).1,h,(g=true->(sg d&&sg d')=true)/\(yF P t op (sd d) (sd d')).2):=by simp[aX,fA,aZ,still]
@[go_sem]theorem e_unOp [Glob P]{g:Bool}{op:UnOp}{t:TypeId}{x:Operand}{d:D}{h:H}{b:Nat}:aX P W C g (.unOp op t x) [d] h b=((Aj op (sd d)).1,h,(g=true->sg d=true)/\(Aj op (sd d)).2):=by simp[aX,fA,aZ,still]
@[go_sem]theorem ZlW [Glob P]{g:Bool}{s t:TypeId}{x:Operand}{d:D}{h:H}{b:Nat}:aX P W C g (.convert s t x) [d] h b=((BL P s t (sd d)).1,h,(g=true->sg d=true)/\(BL P s t (sd d)).2):=by simp[aX,fA,aZ,still]
@[go_sem]theorem ZlS [Glob P]{g:Bool}{f:Fn}{a c:Array Operand}{xs:List D}{h:H}{b:Nat}:aX P W C g (.makeFunc f a c) xs h b=(.fn f ((xs.map sd).take a.size) ((xs.map sd).drop a.size),h,(g=true->xs.all sg=true)/\True):=by simp[aX,fA,aZ]
@[go_sem]theorem e_slice [Glob P]{g:Bool}{t:TypeId}{x:Operand}{l hi m:Option Operand}{d:D}{xs:List D}{h:H}{b:Nat}:aX P W C g (.slice t x l hi m) (d::xs) h b =
  ((pQ P t (sd d) (kD l (xs.map sd)).1 (kD hi (kD l (xs.map sd)).2).1 (kD m (kD hi (kD l (xs.map sd)).2).2).1 h).1,h,(g=true->(sg d&&xs.all sg)=true)/\(pQ P t (sd d) (kD l (xs.map sd)).1 (kD hi (kD l (xs.map sd)).2).1 (kD m (kD hi (kD l (xs.map sd)).2).2).1 h).2):=by simp[aX,fA,aZ,still]
@[go_sem]theorem ZlU [Glob P]{g:Bool}{t:TypeId}{x:Operand}{f:Nat}{d:D}{h:H}{b:Nat}:aX P W C g (.fieldAddr t x f) [d] h b=((BF P t f (sd d)).1,h,(g=true->sg d=true)/\(BF P t f (sd d)).2):=by simp[aX,fA,aZ,still]
@[go_sem]theorem ZlT [Glob P]{g:Bool}{t:TypeId}{x y:Operand}{d d':D}{h:H}{b:Nat}:aX P W C g (.indexAddr t x y) [d,d'] h b=((jo P t (sd d) (sd d') h).1,h,(g=true->(sg d&&sg d')=true)/\(jo P t (sd d) (sd d') h).2):=by simp[aX,fA,aZ,still]
@[go_sem]theorem e_index [Glob P]{g:Bool}{t:TypeId}{x y:Operand}{d d':D}{h:H}{b:Nat}:aX P W C g (.index t x y) [d,d'] h b=((Bh P t (sd d) (sd d')).1,h,(g=true->(sg d&&sg d')=true)/\(Bh P t (sd d) (sd d')).2):=by simp[aX,fA,aZ,still]
@[go_sem]theorem ZlV [Glob P]{g:Bool}{x:Operand}{i:Nat}{ds:List D}{h:H}{b:Nat}:aX P W C g (.extract x i) [.tuple ds] h b=(ds.getD i .junk,h,i<ds.length):=by simp[aX,fA,aZ,sd,sg]
@[go_sem]theorem e_len [Glob P]{g:Bool}{args:Array Operand}{t:TypeId}{d:D}{h:H}{b:Nat}:aX P W C g (.call { callee:=.builtin .len,args:=args,argTypes:=#[t] }) [d] h b=(.v (.int .i64 (bM (sd d))),h,(g=true->sg d=true)/\A7 P t (sd d)=true):=by simp[aX,fA,aZ]
@[go_sem]theorem e_append [Glob P]{g:Bool}{args:Array Operand}{t u:TypeId}{d d':D}{h:H}{b:Nat}:aX P W C g (.call { callee:=.builtin .append,args:=args,argTypes:=#[t,u] }) [d,d'] h b=((jd P t u (sd d) (sd d') h b).1,(jd P t u (sd d) (sd d') h b).2.1,(g=true->(sg d&&sg d')=true)/\(jd P t u (sd d) (sd d') h b).2.2):=by simp[aX,fA,aZ]
@[go_sem]theorem e_call [Glob P]{g:Bool}{f:Operand}{args:Array Operand}{ts:Array TypeId}{xs:List D}{h:H}{b:Nat}:aX P W C g (.call { callee:=.value f,args:=args,argTypes:=ts }) xs h b=((kK W C f (xs.map sd) h b).1,(kK W C f (xs.map sd) h b).2.1,(g=true->xs.all sg=true)/\(kK W C f (xs.map sd) h b).2.2):=by simp[aX,fA,aZ]
@[go_sem]theorem ZlR [Glob P]{g:Bool}{t:TypeId}{r:Option Operand}{xs:List D}{h:H}{b:Nat}:aX P W C g (.makeMap t r) xs h b=(.mp b,upd h b (some ⟨t,iU []⟩),(g=true->xs.all sg=true)/\(rG P t).isSome=true/\P.cellsOf t=1/\I4 (xs.map sd)=true):=by simp[aX,fA,aZ,AV]
@[go_sem]theorem ZlP [Glob P]{g:Bool}{t:TypeId}{x y z:Operand}{m k d:D}{h:H}{b:Nat}:aX P W C g (.mapUpdate t x y z) [m,k,d] h b=(.v undef,(tZ P t (sd m) (sd k) (sd d) h).1,(g=true->(sg m&&(sg k&&sg d))=true)/\(tZ P t (sd m) (sd k) (sd d) h).2):=by simp[aX,fA,aZ]
@[go_sem]theorem e_insert [Glob P]{g:Bool}{t:TypeId}{x y z:Operand}{m k d:D}{h:H}{b:Nat}:aX P W C g (.insert t x y z) [m,k,d] h b=(.v undef,(tZ P t (sd m) (sd k) (sd d) h).1,(g=true->(sg m&&(sg k&&sg d))=true)/\(tZ P t (sd m) (sd k) (sd d) h).2):=by simp[aX,fA,aZ]
@[go_sem]theorem e_lookup [Glob P]{g ok:Bool}{t:TypeId}{x y:Operand}{m k:D}{h:H}{b:Nat}:aX P W C g (.lookup t x y ok) [m,k] h b=((rH P t ok (sd m) (sd k) h).1,h,(g=true->(sg m&&sg k)=true)/\(rH P t ok (sd m) (sd k) h).2):=by simp[aX,fA,aZ,still]
@[go_sem]theorem ZlQ [Glob P]{g:Bool}{t:TypeId}{x y:Operand}{d d':D}{h:H}{b:Nat}:aX P W C g (.makeSlice t x y) [d,d'] h b=((qh P t h b (sd d) (sd d')).1,(qh P t h b (sd d) (sd d')).2.1,(g=true->(sg d&&sg d')=true)/\(qh P t h b (sd d) (sd d')).2.2):=by simp[aX,fA,aZ]
@[go_sem]theorem mkSl_i [Glob P]{t:TypeId}{h:H}{b:Nat}{k k':IntKind}{n m:Int}:qh P t h b (.v (.int k n)) (.v (.int k' m))=(match bP P t with
  | some e=>(.mrow b 0 n.toNat,upd h b (some ⟨e,List.replicate n.toNat (zeroCells P e)⟩),n=m/\0<=n/\P.bytesOf e*n<=281474976710656/\n<=9223372036854775807/\eG P e=true/\(zeroCells P e).length=P.cellsOf e/\(zeroCells P e).all D.one=true/\0<P.cellsOf e)
  | none=>(.junk,h,False)):=rfl
@[go_sem]theorem Zld{t:TypeId}{x y:Operand}{ok:Bool}:(bU C (.lookup t x y ok) = .writes)=False:=by simp[bU]
def Zlz:I4 []=true:=rfl
def ZlA{k:IntKind}{n:Int}:I4 [.v (.int k n)]=true:=rfl
attribute[go_sem]Zlz ZlA
@[go_sem]theorem Zkt [Glob P]{t:TypeId}{r:Nat}{k d:D}{h:H}:tZ P t (.mp r) k d h=(match rG P t with
 | some (kt,_)=>match h r with
  | some bl=>match ql bl with
   | some kv=>(upd h r (some ⟨bl.ty,iU (jm kv k d)⟩),lQ P kt k=true/\kG P kt kv=true/\rJ P kt=true)
   | none=>(h,False)
  | none=>(h,False)
 | _=>(h,False)):=by unfold tZ;cases rG P t<;>rfl
@[go_sem]theorem lookD_eq [Glob P]{t:TypeId}{ok:Bool}{m k:D}{h:H}:rH P t ok m k h=(match rG P t with
 | some (kt,e)=>match xS h m with
  | some kv=>(if ok then .tuple [(kF kv k).getD (yL P e),.b (kF kv k).isSome]else(kF kv k).getD (yL P e),lQ P kt k=true/\kG P kt kv=true/\rJ P kt=true/\Jd P e=true)
  | none=>(.junk,False)
 | _=>(.junk,False)):=by unfold rH;cases rG P t<;>cases xS h m<;>rfl
@[go_sem]theorem kvH_fmap{h:H}{kv:List D}:xS h (.fmap kv)=some kv:=rfl
@[go_sem]theorem kvH_mp{h:H}{r:Nat}:xS h (.mp r)=(match h r with|some bl=>ql bl|none=>none):=by show(h r).bind ql=_;cases h r<;>rfl
def kvB_rows{t:TypeId}{kv:List D}:ql ⟨t,iU kv⟩=some kv:=rfl
def bv_v{b:Bool}:bv (.v (.bool b))=b:=rfl
def isB_v{b:Bool}:xX (.v (.bool b))=true:=rfl
attribute[go_sem]kvB_rows bv_v isB_v
@[go_sem]theorem e_pick [Glob P]{g:Bool}{x y z:Operand}{c a b:D}{h:H}{n:Nat} :
  aX P W C g (.pick x y z) [c,a,b] h n=(.v (.bool (bif bv (sd c)then bv (sd a)else bv (sd b))),h,(g=true->(sg c=true/\xX (sd c)=true)/\(bv (sd c)=true->sg a=true/\xX (sd a)=true)/\(bv (sd c)=false->sg b=true/\xX (sd b)=true))):=rfl
attribute [go_sem] cond_true cond_false
@[go_sem]theorem nw_move{x:Operand}:(bU C (.move x) = .writes)=False:=by simp[bU]
@[go_sem]theorem nw_load{t:TypeId}{x:Operand}:(bU C (.load t x) = .writes)=False:=by simp[bU]
@[go_sem]theorem nw_binOp{op:BinOp}{t u:TypeId}{x y:Operand}:(bU C (.binOp op t x y u) = .writes)=False:=by simp[bU]
@[go_sem]theorem nw_unOp{op:UnOp}{t:TypeId}{x:Operand}:(bU C (.unOp op t x) = .writes)=False:=by simp[bU]
@[go_sem]theorem Zlf{t:TypeId}{x:Operand}{f:Nat}:(bU C (.fieldAddr t x f) = .writes)=False:=by simp[bU]
@[go_sem]theorem Zle{t:TypeId}{x y:Operand}:(bU C (.indexAddr t x y) = .writes)=False:=by simp[bU]
@[go_sem]theorem nw_index{t:TypeId}{x y:Operand}:(bU C (.index t x y) = .writes)=False:=by simp[bU]
@[go_sem]theorem nw_pick{x y z:Operand}:(bU C (.pick x y z) = .writes)=False:=by simp[bU]
@[go_sem]theorem nw_slice{t:TypeId}{x:Operand}{a b c:Option Operand}:(bU C (.slice t x a b c) = .writes)=False:=by simp[bU]
@[go_sem]theorem Zlc{x:Operand}:(bU C (.nilCheck x) = .writes)=False:=by simp[bU]
@[go_sem]theorem nw_build{t:TypeId}{ps:Array (Nat×Operand)}:(bU C (.build t ps) = .writes)=False:=by simp[bU]
@[go_sem]theorem Zlg{t:TypeId}{n:Nat}{ps:Array (Nat×Operand)}:(bU C (.buildSlice t n ps) = .writes)=(C.bs=true):=by cases hb:C.bs<;>simp[bU,hb]
@[go_sem]theorem nw_len{args:Array Operand}{ts:Array TypeId}:(bU C (.call { callee:=.builtin .len,args:=args,argTypes:=ts }) = .writes)=False:=by simp[bU]
@[go_sem]theorem nw_call{f:Operand}{args:Array Operand}{ts:Array TypeId}:(bU C (.call { callee:=.value f,args:=args,argTypes:=ts }) = .writes)=False:=by
 cases h:C.cf<;>simp[bU,EP,h]
@[go_sem]theorem bif_or{c b:Bool}:(bif c then true else b)=(c||b):=by cases c<;>rfl
@[go_sem]theorem bif_and{c b:Bool}:(bif c then b else false)=(c&&b):=by cases c<;>rfl
def Zmn{cs:List D}:D.cells (.agg cs)=cs:=rfl
def cells_v{x:Value}:D.cells (.v x)=[.v x]:=rfl
def Zml{f:Bool}{x:List (List D)}:D.cells (.list f x)=[.list f x]:=rfl
def Zmj{a b c:Nat}:D.cells (.mrow a b c)=[.mrow a b c]:=rfl
def Zmk{a b c:Nat}:D.cells (.mptr a b c)=[.mptr a b c]:=rfl
def cells_fn{f:Fn}{a b:List D}:D.cells (.fn f a b)=[.fn f a b]:=rfl
def one_int{k:IntKind}{n:Int}:D.one (.v (.int k n))=true:=rfl
def one_bool{b:Bool}:D.one (.v (.bool b))=true:=rfl
def Zk6{b:ByteArray}:D.one (.v (.string b))=true:=rfl
def Zk8:D.one (.v .nilFunc)=true:=rfl
def Zk7:D.one (.v .nilIface)=true:=rfl
def one_list{f:Bool}{x:List (List D)}:D.one (.list f x)=true:=rfl
def one_mrow{a b c:Nat}:D.one (.mrow a b c)=true:=rfl
def one_mptr{a b c:Nat}:D.one (.mptr a b c)=true:=rfl
def one_fn{f:Fn}{a b:List D}:D.one (.fn f a b)=true:=rfl
def ldc_eptr [Glob P]{cs:List D}{h:H}:jl P (.eptr cs) h=cs:=rfl
def ldc_mptr [Glob P]{r i off:Nat}{h:H}:jl P (.mptr r i off) h=match h r with|some b=>(b.rows.getD i []).drop off|none=>[]:=rfl
def ldD_eq [Glob P]{t:TypeId}{a:D}{h:H}:mF P t a h=(xO P t (jl P a h),P.cellsOf t<=(jl P a h).length/\0<P.cellsOf t/\(P.underlying t).isSome=true):=rfl
attribute[go_sem]Zmn cells_v Zml Zmj Zmk cells_fn one_int one_bool Zk6 Zk8 Zk7 one_list one_mrow one_mptr one_fn ldc_eptr ldc_mptr ldD_eq
theorem TG [Glob P]{x o:Nat}{h:H}:jl P (.v (.pointer (some ⟨x,o,none⟩))) h=match Glob.tab P x with|some cs=>(cs.drop o).map D.v|none=>[]:=rfl
@[go_sem]theorem Zlo{r i off:Nat}{h:H}:jK (.mptr r i off) h=match h r with|some b=>(b.rows.getD i []).drop off|none=>[]:=rfl
attribute [go_sem] xO BF FM splice
def Zk0{n:Nat}{cs:List D}:zb n (.eptr cs) = .eptr (cs.drop n):=rfl
def ZkZ{n r i off:Nat}:zb n (.mptr r i off) = .mptr r i (off+n):=rfl
attribute[go_sem]Zk0 ZkZ
@[go_sem]theorem ZkY{n x o:Nat}:zb n (.v (.pointer (some ⟨x,o,none⟩))) = .v (.pointer (some ⟨x,o+n,none⟩)):=by simp only[zb,pJ]
def Zlr{cs:List D}:xW (.eptr cs)=true:=rfl
def Zlq{r i off:Nat}:xW (.mptr r i off)=true:=rfl
attribute[go_sem]Zlr Zlq
@[go_sem]theorem stH_mptr [Glob P]{t:TypeId}{r i off:Nat}{x:D}{h:H}:kZ P t (.mptr r i off) x h=match h r with
  | some b=>(upd h r (some { b with rows:=b.rows.set i (splice (b.rows.getD i []) off x.cells) }),x.cells.length=P.cellsOf t/\0<P.cellsOf t/\i<b.rows.length/\off+x.cells.length<=(b.rows.getD i []).length/\x.cells.all D.one=true)
  | none=>(h,False):=rfl
@[go_sem]theorem ZlE [Glob P]{t:TypeId}{f:Bool}{rows:List (List D)}{k:IntKind}{n:Int}{h:H}:jo P t (.list f rows) (.v (.int k n)) h=match bP P t with
  | none=>wR P t (.list f rows) (.v (.int k n))
  | some e=>(.eptr (rows.getD n.toNat []),0<=n/\n<rows.length/\0<P.cellsOf e/\(rows.getD n.toNat []).length=P.cellsOf e):=by unfold jo;cases bP P t<;>rfl
@[go_sem]theorem ZlC [Glob P]{t:TypeId}{r off len:Nat}{k:IntKind}{n:Int}{h:H}:jo P t (.mrow r off len) (.v (.int k n)) h=match bP P t with
  | none=>wR P t (.mrow r off len) (.v (.int k n))
  | some e=>(.mptr r (off+n.toNat) 0,0<=n/\n<len/\0<P.cellsOf e/\match h r with|some bl=>bl.ty=e|none=>False):=by unfold jo;cases bP P t<;>rfl
@[go_sem]theorem ZlB [Glob P]{t:TypeId}{p:Option Addr}{k:IntKind}{n:Int}{h:H}:jo P t (.v (.pointer p)) (.v (.int k n)) h=match bP P t with
  | none=>wR P t (.v (.pointer p)) (.v (.int k n))
  | some _=>(.junk,False):=by unfold jo;cases bP P t<;>rfl
def isGp_ptr{p:Addr}:zB (.v (.pointer (some p)))=true:=rfl
def Zlx{r i off:Nat}:zB (.mptr r i off)=true:=rfl
attribute[go_sem]isGp_ptr Zlx
@[go_sem]theorem ZlD [Glob P]{t:TypeId}{r i off:Nat}{k:IntKind}{n:Int}{h:H}:jo P t (.mptr r i off) (.v (.int k n)) h=match bP P t with
  | none=>wR P t (.mptr r i off) (.v (.int k n))
  | some _=>(.junk,False):=by unfold jo;cases bP P t<;>rfl
@[go_sem]theorem ZlF [Glob P]{t:TypeId}{x:D}{k:IntKind}{n:Int}:wR P t x (.v (.int k n))=match qR P t with
  | some (m,e)=>(zb (n.toNat*P.cellsOf e) x,zB x=true/\0<=n/\n<m/\0<P.cellsOf e)
  | none=>(.junk,False):=by unfold wR;cases qR P t<;>rfl
def ZkW{f:Bool}{rows:List (List D)}{h:H}:aC (.list f rows) h=rows:=rfl
def ZkV{r off len:Nat}{h:H}:aC (.mrow r off len) h=match h r with|some b=>(b.rows.drop off).take len|none=>[]:=rfl
def Zln{f:Bool}{rows:List (List D)}:bM (.list f rows)=rows.length:=rfl
def Zlm{r off len:Nat}:bM (.mrow r off len)=len:=rfl
def Zll{s:ByteArray}:bM (.v (.string s))=s.size:=rfl
def Zlk [Glob P]{t:TypeId}{f:Bool}{rows:List (List D)}:A7 P t (.list f rows)=(bP P t).isSome:=rfl
def Zlj [Glob P]{t:TypeId}{r off len:Nat}:A7 P t (.mrow r off len)=(bP P t).isSome:=rfl
def Zli [Glob P]{t:TypeId}{s:ByteArray}:A7 P t (.v (.string s))=match P.underlying t with|some .string=>true|_=>false:=rfl
attribute[go_sem]ZkW ZkV Zln Zlm Zll Zlk Zlj Zli
attribute [go_sem] Option.isSome_some
def Zky [Glob P]{t:TypeId}{h:H}{f:Bool}{rows:List (List D)}:iw P t h (.list f rows)=(bP P t).isSome:=rfl
def Zkx [Glob P]{t:TypeId}{h:H}{r off len:Nat}:iw P t h (.mrow r off len)=((bP P t).isSome&&(h r).isSome):=rfl
def Zkw [Glob P]{t:TypeId}{h:H}{s:ByteArray}:iw P t h (.v (.string s))=match P.underlying t with|some .string=>true|_=>false:=rfl
attribute[go_sem]Zky Zkx Zkw
@[go_sem]theorem Zmx [Glob P]{t u:TypeId}{rows:List (List D)}{y:D}{h:H}{b:Nat}:jd P t u (.list true rows) y h b=match bP P t with
  | none=>(.junk,h,False)
  | some e=>(.mrow b 0 (rows.length+(aC y h).length),upd h b (some ⟨e,rows++aC y h⟩),(0<P.cellsOf e/\(rows.length+(aC y h).length)*P.bytesOf e<=140737488355328/\rows.length+(aC y h).length<=9223372036854775807) /\
    ((aC y h).length=bM y/\iw P u h y=true/\eG P e=true /\ ∀r∈aC y h,r.length=P.cellsOf e)/\(aC y h=[]->rows=[]) /\ ∀r∈rows,r.length=P.cellsOf e):=by
 unfold jd;cases bP P t<;>rfl
@[go_sem]theorem Zj5 [Glob P]{t u:TypeId}{r n:Nat}{y:D}{h:H}{b:Nat}:jd P t u (.mrow r 0 n) y h b=match bP P t with
  | none=>(.junk,h,False)
  | some e=>match h r with
   | none=>(.junk,h,False)
   | some bl=>(.mrow b 0 (n+(aC y h).length),upd (upd h r none) b (some ⟨e,bl.rows++aC y h⟩),(0<P.cellsOf e/\(n+(aC y h).length)*P.bytesOf e<=140737488355328/\n+(aC y h).length<=9223372036854775807) /\
    ((aC y h).length=bM y/\iw P u h y=true/\eG P e=true /\ ∀r∈aC y h,r.length=P.cellsOf e)/\bl.ty=e/\bl.rows.length=n/\r≠b):=by
 unfold jd;cases bP P t with
 | none=>rfl
 | some e=>cases hr:h r with
  | none=>simp only[hr]
  | some bl=>simp only[bM,hr]
attribute [go_sem] DD yo zO BO uL Av
def binD_v [Glob P]{t:TypeId}{op:BinOp}{a b:Value}:yF P t op (.v a) (.v b)=(.v (gM P t op a b).1,(gM P t op a b).2):=rfl
def binV_lss [Glob P]{t:TypeId}{k k':IntKind}{a b:Int}:gM P t .lss (.int k a) (.int k' b)=(.bool (decide (a<b)),k=k'):=rfl
def binV_leq [Glob P]{t:TypeId}{k k':IntKind}{a b:Int}:gM P t .leq (.int k a) (.int k' b)=(.bool (decide (a<=b)),k=k'):=rfl
def binV_gtr [Glob P]{t:TypeId}{k k':IntKind}{a b:Int}:gM P t .gtr (.int k a) (.int k' b)=(.bool (decide (b<a)),k=k'):=rfl
def binV_geq [Glob P]{t:TypeId}{k k':IntKind}{a b:Int}:gM P t .geq (.int k a) (.int k' b)=(.bool (decide (b<=a)),k=k'):=rfl
def binV_eql [Glob P]{t:TypeId}{k k':IntKind}{a b:Int}:gM P t .eql (.int k a) (.int k' b)=(.bool (a==b),k=k'):=rfl
def binV_neq [Glob P]{t:TypeId}{k k':IntKind}{a b:Int}:gM P t .neq (.int k a) (.int k' b)=(.bool (a != b),k=k'):=rfl
def binV_add [Glob P]{t:TypeId}{k k':IntKind}{a b:Int}:gM P t .add (.int k a) (.int k' b)=if k.signed then(.int k (a+b),k=k'/\qm k (a+b))else(.int k (k.wrap (a+b)),k=k'):=rfl
def binV_sub [Glob P]{t:TypeId}{k k':IntKind}{a b:Int}:gM P t .sub (.int k a) (.int k' b)=if k.signed then(.int k (a-b),k=k'/\qm k (a-b))else(.int k (k.wrap (a-b)),k=k'):=rfl
def binV_mul [Glob P]{t:TypeId}{k k':IntKind}{a b:Int}:gM P t .mul (.int k a) (.int k' b)=if k.signed then(.int k (a*b),k=k'/\qm k (a*b))else(.int k (k.wrap (a*b)),k=k'):=rfl
def binV_quo [Glob P]{t:TypeId}{k k':IntKind}{a b:Int}:gM P t .quo (.int k a) (.int k' b)=(.int k (a / b),k=k'/\0<=a/\1<=b/\qm k a):=rfl
def binV_rem [Glob P]{t:TypeId}{k k':IntKind}{a b:Int}:gM P t .rem (.int k a) (.int k' b)=(.int k (a % b),k=k'/\0<=a/\1<=b):=rfl
def binV_eqb [Glob P]{t:TypeId}{a b:Bool}:gM P t .eql (.bool a) (.bool b)=(.bool (a==b),P.underlying t=some .bool):=rfl
def binV_eqs [Glob P]{t:TypeId}{a b:ByteArray}:gM P t .eql (.string a) (.string b)=(.bool (a.data.toList==b.data.toList),True):=rfl
def binV_nes [Glob P]{t:TypeId}{a b:ByteArray}:gM P t .neq (.string a) (.string b)=(.bool (a.data.toList != b.data.toList),True):=rfl
def Zmw [Glob P]{t:TypeId}{a b:ByteArray}:gM P t .add (.string a) (.string b)=(.string (a++b),a.size+b.size<=9223372036854775807):=rfl
def Zmu [Glob P]{t:TypeId}{a b:ByteArray}:gM P t .lss (.string a) (.string b)=(.bool (Go.Op.bytesLess a.data.toList b.data.toList),True):=rfl
def Zmv [Glob P]{t:TypeId}{a b:ByteArray}:gM P t .gtr (.string a) (.string b)=(.bool !(Go.Op.bytesLess a.data.toList b.data.toList||a.data.toList==b.data.toList),True):=rfl
def binV_shl [Glob P]{t:TypeId}{k k':IntKind}{a b:Int}:gM P t .shl (.int k a) (.int k' b)=(.int k (k.wrap (a*2^(min b.toNat k.bits))),0<=b):=rfl
def binV_shr [Glob P]{t:TypeId}{k k':IntKind}{a b:Int}:gM P t .shr (.int k a) (.int k' b)=(.int k (a.fdiv (2^(min b.toNat k.bits))),0<=b):=rfl
def binV_or [Glob P]{t:TypeId}{k k':IntKind}{a b:Int}:gM P t .or (.int k a) (.int k' b)=(.int k (k.wrap (BitVec.ofInt k.bits a ||| BitVec.ofInt k.bits b).toNat),k=k'):=rfl
attribute[go_sem]binD_v binV_lss binV_leq binV_gtr binV_geq binV_eql binV_neq binV_add binV_sub binV_mul binV_quo binV_rem binV_eqb binV_eqs binV_nes Zmw Zmu Zmv binV_shl binV_shr binV_or
def Ki(k:IntKind)(a b:Int):Int:=k.wrap (BitVec.ofInt k.bits a ^^^ BitVec.ofInt k.bits b).toNat
def binV_xor [Glob P]{t:TypeId}{k k':IntKind}{a b:Int}:gM P t .xor (.int k a) (.int k' b)=(.int k (Ki k a b),k=k'):=rfl
def binD_eq [Glob P]{t:TypeId}{xs ys:List D}:yF P t .eql (.agg xs) (.agg ys)=(.v (.bool (pE xs ys)),match vP P t with|some ks=>rT ks xs ys=true|none=>False):=rfl
def binD_ne [Glob P]{t:TypeId}{xs ys:List D}:yF P t .neq (.agg xs) (.agg ys)=(.v (.bool (!pE xs ys)),match vP P t with|some ks=>rT ks xs ys=true|none=>False):=rfl
attribute[go_sem]binV_xor binD_eq binD_ne
attribute [go_sem] pE rT
def eqCell_i{k k':IntKind}{a b:Int}:nM (.v (.int k a)) (.v (.int k' b))=(a==b):=rfl
def eqCell_s{a b:ByteArray}:nM (.v (.string a)) (.v (.string b))=(a.data.toList==b.data.toList):=rfl
def Zk2{k k':IntKind}{a b:Int}:Az .i (.v (.int k a)) (.v (.int k' b))=(k==k'):=rfl
def Zk1{a b:ByteArray}:Az .s (.v (.string a)) (.v (.string b))=true:=rfl
def ZkP:IntKind.i64.signed=true:=rfl
def ZkO:IntKind.u64.signed=false:=rfl
attribute[go_sem]eqCell_i eqCell_s Zk2 Zk1 ZkP ZkO
@[go_sem]theorem inK_i64{n:Int}:qm .i64 n=(-9223372036854775808<=n/\n<=9223372036854775807):=by simp[qm,IntKind.min,IntKind.max,IntKind.signed,IntKind.bits]
@[go_sem]theorem unD_not{b:Bool}:Aj .not (.v (.bool b))=(.v (.bool !b),True):=rfl
attribute [go_sem] BL
def idxV_s [Glob P]{t:TypeId}{s:ByteArray}{k:IntKind}{n:Int}:Bh P t (.v (.string s)) (.v (.int k n))=(.v (.int .u8 (s.data.toList.getD n.toNat 0).toNat),0<=n/\n<s.size/\P.underlying t=some .string):=rfl
def bnd_none{d:Nat}:bnd none d=d:=rfl
def bnd_some{d:Nat}{k:IntKind}{n:Int}:bnd (some (.v (.int k n))) d=n:=rfl
def Zmt:BQ none=true:=rfl
def Zms{k:IntKind}{n:Int}:BQ (some (.v (.int k n)))=true:=rfl
attribute[go_sem]idxV_s bnd_none bnd_some Zmt Zms
attribute [go_sem] Option.toList_some Option.toList_none kD pQ
attribute [go_sem] qM
def wk_v{x:Value}:wk (.v x) = .v x:=rfl
def wk_agg{cs:List D}:wk (.agg cs) = .agg (dZ cs):=rfl
def wk_list{f:Bool}{rows:List (List D)}:wk (.list f rows) = .list false (eB rows):=rfl
def wk_eptr{cs:List D}:wk (.eptr cs) = .eptr (dZ cs):=rfl
def wk_tuple{cs:List D}:wk (.tuple cs) = .tuple (dZ cs):=rfl
def wk_mrow{a b c:Nat}:wk (.mrow a b c) = .mrow a b c:=rfl
def wk_mptr{a b c:Nat}:wk (.mptr a b c) = .mptr a b c:=rfl
def wk_fn{f:Fn}{a b:List D}:wk (.fn f a b) = .fn f a b:=rfl
def wk_fmap{kv:List D}:wk (.fmap kv) = .fmap (dZ kv):=rfl
attribute[go_sem]wk_v wk_agg wk_list wk_eptr wk_tuple wk_mrow wk_mptr wk_fn wk_fmap
@[go_sem]theorem ZkB{h:H}{k:Nat}{x:List D}:snap h k (.fmap x) = .fmap x:=by cases k<;>rfl
@[go_sem]theorem ZkK{h:H}{k:Nat}{x:List D}:dL h k (.fmap x)=(bA x=true):=by cases k<;>rfl
attribute [go_sem] dZ eB
def Zl2{f:Bool}{rows:List (List D)}{h:H}:deref h (.list f rows) = .list f rows:=rfl
def deref_v{x:Value}{h:H}:deref h (.v x) = .v x:=rfl
def Zl4{x:List D}{h:H}:deref h (.agg x) = .agg x:=rfl
def deref_fn{f:Fn}{a b:List D}{h:H}:deref h (.fn f a b) = .fn f (a.map (zX h)) (b.map (zX h)):=rfl
def Zmc{x:List D}{h:H}:zX h (.eptr x) = .eptr x:=rfl
def Zl3{x:List D}{h:H}:deref h (.eptr x) = .eptr x:=rfl
def Zlv{x:List D}:kV (.eptr x)=false:=rfl
def Zl9{x:List D}{h:H}:qN h (.eptr x)=True:=rfl
def Zl1{a b c:Nat}{h:H}:deref h (.mrow a b c) = .list false (aC (.mrow a b c) h):=rfl
def Zlt{f:Bool}{rows:List (List D)}:kV (.list f rows)=false:=rfl
def isMrow_v{x:Value}:kV (.v x)=false:=rfl
def Zlw{x:List D}:kV (.agg x)=false:=rfl
def Zlu{f:Fn}{a b:List D}:kV (.fn f a b)=(a.any Bd||b.any Bd):=rfl
def Zlp{x:List D}:Bd (.eptr x)=false:=rfl
def Zls{a b c:Nat}:kV (.mrow a b c)=true:=rfl
def Zl7{f:Bool}{rows:List (List D)}{h:H}:qN h (.list f rows)=True:=rfl
def Zl5{x:Value}{h:H}:qN h (.v x)=True:=rfl
def Zma{x:List D}{h:H}:qN h (.agg x)=True:=rfl
def Zl8{f:Fn}{a b:List D}{h:H}:qN h (.fn f a b)=((∀c∈a,Dy h c) /\ ∀c∈b,Dy h c):=rfl
def Zmb{x:List D}{h:H}:Dy h (.eptr x)=True:=rfl
def Zl6{r off len:Nat}{h:H}:qN h (.mrow r off len)=((h r).isSome=true/\(aC (.mrow r off len) h).length=len):=rfl
attribute[go_sem]Zl2 deref_v Zl4 deref_fn Zmc Zl3 Zlv Zl9 Zl1 Zlt isMrow_v Zlw Zlu Zlp Zls Zl7 Zl5 Zma Zl8 Zmb Zl6
attribute [go_sem] List.any_cons List.any_nil Bool.or_false Bool.or_true Bool.false_or Bool.true_or
@[go_sem]theorem Zmo{k:FuncId}{d:D}{ys:List D}{h:H}{b:Nat}:kK W C (.func k) (d::ys) h b=if C.pure k then
   (if C.cf then(C.pf k (ys.map wk),h,W.pureCt k (ys.map wk) (C.pf k (ys.map wk))/\ys.any kV=false)
   else if C.dp then(C.pf k (ys.map (je h)),h,W.pureCt k (ys.map (je h)) (C.pf k (ys.map (je h)))/\flat (C.pf k (ys.map (je h)))=true /\ ∀y∈ys,dL h 5 y)
   else(C.pf k (ys.map (qM h)),h,W.pureCt k (ys.map (qM h)) (C.pf k (ys.map (qM h)))/\(ys.any kV=true->flat (C.pf k (ys.map (qM h)))=true /\ ∀y∈ys,qN h y)))
  else(.junk,h,False):=rfl
@[go_sem]theorem call_tmp{k:FuncId}{t:Tmp}{first aD ys:List D}{h:H}{b:Nat}:kK W C (.tmp t) (.fn (.func k) first aD::ys) h b=if C.pure k then
   (if C.cf then(C.pf k ((first++ys++aD).map wk),h,W.pureCt k ((first++ys++aD).map wk) (C.pf k ((first++ys++aD).map wk))/\(first++ys++aD).any kV=false)
   else if C.dp then(C.pf k ((first++ys++aD).map (je h)),h,W.pureCt k ((first++ys++aD).map (je h)) (C.pf k ((first++ys++aD).map (je h)))/\flat (C.pf k ((first++ys++aD).map (je h)))=true /\ ∀y∈first++ys++aD,dL h 5 y)
   else(C.pf k ((first++ys++aD).map (qM h)),h,W.pureCt k ((first++ys++aD).map (qM h)) (C.pf k ((first++ys++aD).map (qM h)))/\((first++ys++aD).any kV=true->flat (C.pf k ((first++ys++aD).map (qM h)))=true /\ ∀y∈first++ys++aD,qN h y)))
  else(.junk,h,False):=rfl
def Zkr [Glob P]{k:FuncId}{xs:List D}{r:D}:(words P).pureCt k xs r=PureCt P k xs r:=rfl
def flat_v{x:Value}:flat (.v x)=true:=rfl
attribute[go_sem]Zkr flat_v
attribute [go_sem] pX QU Ev rD
attribute [go_sem] List.forall_mem_cons List.not_mem_nil false_implies forall_const
@[go_sem]theorem snap_v{h:H}{k:Nat}{x:Value}:snap h k (.v x) = .v x:=by cases k<;>rfl
@[go_sem]theorem snap_list{h:H}{k:Nat}{f:Bool}{x:List (List D)}:snap h k (.list f x) = .list f x:=by cases k<;>rfl
theorem snap_mrow{h:H}{k:Nat}{r off len:Nat}:snap h (k+1) (.mrow r off len) = .list false ((aC (.mrow r off len) h).map λrow=>row.map (snap h k)):=rfl
theorem snap_agg{h:H}{k:Nat}{cs:List D}:snap h (k+1) (.agg cs) = .agg (cs.map (snap h k)):=rfl
def Zkz{h:H}{k:Nat}{cs:List D}:snap h (k+1) (.tuple cs) = .tuple (cs.map (snap h k)):=rfl
attribute[go_sem]snap_mrow snap_agg Zkz
@[go_sem]theorem snapOk_v{h:H}{k:Nat}{x:Value}:dL h k (.v x)=True:=by cases k<;>simp[dL,D.nr]
@[go_sem]theorem ZkI{h:H}{k:Nat}{f:Bool}{x:List (List D)}:dL h k (.list f x)=(bu x=true):=by cases k<;>rfl
def ZkG{h:H}{k:Nat}{r off len:Nat}:dL h (k+1) (.mrow r off len)=(qN h (.mrow r off len) /\ ∀row∈aC (.mrow r off len) h,∀c∈row,dL h k c):=rfl
def ZkL{h:H}{k:Nat}{cs:List D}:dL h (k+1) (.agg cs) = ∀c∈cs,dL h k c:=rfl
def ZkE{h:H}{k:Nat}{cs:List D}:dL h (k+1) (.tuple cs) = ∀c∈cs,dL h k c:=rfl
def ZkA{h:H}{k:Nat}{r i off:Nat}:snap h (k+1) (.mptr r i off) = .eptr ((jK (.mptr r i off) h).map (snap h k)):=rfl
theorem P8{h:H}{k:Nat}{f:Fn}{a b:List D}:snap h (k+1) (.fn f a b) = .fn f (a.map (snap h k)) (b.map (snap h k)):=rfl
def ZkH{h:H}{k:Nat}{r i off:Nat}:dL h (k+1) (.mptr r i off)=((h r).isSome=true /\ ∀c∈jK (.mptr r i off) h,dL h k c):=rfl
def ZkJ{h:H}{k:Nat}{f:Fn}{a b:List D}:dL h (k+1) (.fn f a b)=((∀c∈a,dL h k c) /\ ∀c∈b,dL h k c):=rfl
attribute[go_sem]ZkG ZkL ZkE ZkA P8 ZkH ZkJ
theorem Zb3{h:H}(rows:List (List D)):(rows.map λrow=>row.map (snap h 0))=rows:=by
 have:(λrow:List D=>row.map (snap h 0))=id:=by funext row;exact List.map_id row
 rw[this];exact List.map_id rows
def Zb7{h:H}{rows:List (List D)}(hn:bu rows=true):∀row∈rows,∀c∈row,dL h 0 c:=λ_ h1 _ h2=>sU (EF hn h1) h2
def Vx [Glob P]{ro:Option Nat}{Q:Exit->S->Prop}{s s':S}{id:Nat}{ops:Array Oper}{draw:Bool}(he:exec P (words P) C ops.toList s=s')(hd:draw=true->P.follows .mixedOrders=true/\qQ C ops.toList=true/\j5 ops.toList=true)(hok:s'.ok)(hq:Q .normal s'.clear):DW P ro (.region id ops draw) Q s :=
 Zh4 (C:=C) hd o5q (by rw[he];exact hq)
end Go.DL
namespace Go.Proofs.YtidphdaoejibcaaGreatDoor
open Go.Proofs.Tryz
open Go.DL
def Hq:List Value:=[.int .i64 0,.int .i64 0,.int .i64 0,.int .i64 0,.int .i64 0,.bool false,.bool false,.bool false,.int .i64 0,.int .i64 1,.int .i64 1000000,.int .i64 0,.int .i64 0,.bool false,.bool false,.bool true,.int .i64 1,.int .i64 0,.int .i64 0,.int .i64 0,.int .i64 0,.bool false,.bool false,.bool false,.int .i64 1,.int .i64 0,.int .i64 0,.int .i64 0,.int .i64 0,.bool false,.bool true,.bool false,.int .i64 0,.int .i64 0,.int .i64 65535,.int .i64 0,.int .i64 100000,.bool false,.bool true,.bool false,.int .i64 3,.int .i64 0,.int .i64 0,.int .i64 0,.int .i64 0,.bool false,.bool false,.bool true,.int .i64 0,.int .i64 1,.int .i64 1000000,.int .i64 1,.int .i64 3,.bool false,.bool false,.bool false,.int .i64 0,.int .i64 1,.int .i64 1000000,.int .i64 1,.int .i64 3,.bool false,.bool false,.bool false,.int .i64 2,.int .i64 2,.int .i64 510,.int .i64 0,.int .i64 0,.bool true,.bool false,.bool true]
def jZ(a:Addr):Value:=.iface 339 (.pointer (some a))
def toldF(a:Addr)(x:Nat):Option (List Value):=if x=1 then some Hq else if x=0 then some [jZ a]else none
class Told [Glob prog]:Prop where
 tab : ∃a:Addr,∀x,Glob.tab prog x=toldF a x
section
variable [Glob prog] [Told]
noncomputable def iL:Addr:=(Told.tab (self:=inferInstance)).choose
def Ps(x:Nat):Glob.tab prog x=toldF iL x:=(Told.tab (self:=inferInstance)).choose_spec x
theorem glob0:Glob.tab prog 1=some Hq:=Ps 1
theorem globE:Glob.tab prog 0=some [jZ iL]:=Ps 0
end
variable [Glob prog]
def oM:prog.follows .mixedOrders=true:=by kernel_rfl
@[go_sem]theorem ty_1:dK prog 3=false/\prog.cellsOf 3=1/\prog.bytesOf 3=8/\zeroCells prog 3=[.v (.int .i64 0)]/\eG prog 3=true/\prog.underlying 3=some (.int .i64)/\rJ prog 3=true/\dK prog 4=false/\prog.cellsOf 4=1/\prog.bytesOf 4=1/\zeroCells prog 4=[.v (.bool false)]/\eG prog 4=true/\prog.underlying 4=some .bool/\yL prog 4 = .v (.bool false)/\Jd prog 4=true/\dK prog 5=false/\prog.cellsOf 5=1/\prog.bytesOf 5=1/\zeroCells prog 5=[.v (.int .u8 0)]/\eG prog 5=true/\prog.underlying 5=some (.int .u8)/\dK prog 9=false/\prog.cellsOf 9=1/\prog.bytesOf 9=16/\zeroCells prog 9=[.v (.string ⟨⟨[]⟩⟩)]/\eG prog 9=true/\prog.underlying 9=some .string/\rJ prog 9=true/\dK prog 22=false/\prog.cellsOf 22=1/\(prog.underlying 22).isSome=true/\bP prog 22=some 84/\dK prog 24=true/\prog.cellsOf 24=2/\prog.bytesOf 24=40/\zeroCells prog 24=[.v (.string ⟨⟨[]⟩⟩),.list true []]/\eG prog 24=true/\(prog.underlying 24).isSome=true/\bG prog 24 0=some (0,9)/\bG prog 24 1=some (1,22):=by and_intros<;>kernel_rfl
@[go_sem]theorem ty_2:iY prog 24=true/\bP prog 25=some 68/\dK prog 28=false/\prog.cellsOf 28=1/\(prog.underlying 28).isSome=true/\bP prog 28=some 24/\dK prog 31=false/\prog.cellsOf 31=1/\prog.bytesOf 31=24/\eG prog 31=true/\(prog.underlying 31).isSome=true/\bP prog 31=some 5/\dK prog 32=false/\prog.cellsOf 32=1/\(prog.underlying 32).isSome=true/\bP prog 32=some 31/\dK prog 34=true/\prog.cellsOf 34=2/\zeroCells prog 34=[.list true [],.list true []]/\(prog.underlying 34).isSome=true/\bG prog 34 0=some (0,31)/\bG prog 34 1=some (1,32)/\iY prog 34=true/\dK prog 35=false/\prog.cellsOf 35=1/\zeroCells prog 35=[.v (.int .i64 0)]/\prog.underlying 35=some (.int .i64)/\dK prog 38=false/\prog.cellsOf 38=1/\(prog.underlying 38).isSome=true/\bP prog 38=some 86/\dK prog 40=true/\prog.cellsOf 40=5/\prog.bytesOf 40=80/\zeroCells prog 40=[.v (.string ⟨⟨[]⟩⟩),.v (.int .i64 0),.v (.int .i64 0),.list true [],.list true []]/\eG prog 40=true/\(prog.underlying 40).isSome=true/\bG prog 40 0=some (0,9)/\bG prog 40 1=some (1,3)/\bG prog 40 2=some (2,3):=by and_intros<;>kernel_rfl
@[go_sem]theorem ty_3:bG prog 40 3=some (3,38)/\bG prog 40 4=some (4,22)/\iY prog 40=true/\dK prog 49=true/\prog.cellsOf 49=4/\zeroCells prog 49=[.v (.bool false),.v (.string ⟨⟨[]⟩⟩),.list true [],.v (.int .i64 0)]/\(prog.underlying 49).isSome=true/\bG prog 49 0=some (0,4)/\bG prog 49 1=some (1,24)/\bG prog 49 2=some (3,3)/\iY prog 49=true/\dK prog 57=true/\prog.cellsOf 57=3/\prog.bytesOf 57=32/\zeroCells prog 57=[.v (.string ⟨⟨[]⟩⟩),.v (.int .i64 0),.v (.int .i64 0)]/\eG prog 57=true/\(prog.underlying 57).isSome=true/\bG prog 57 0=some (0,9)/\bG prog 57 1=some (1,3)/\bG prog 57 2=some (2,3)/\iY prog 57=true/\vP prog 57=some [.s,.i,.i]/\dK prog 58=false/\prog.cellsOf 58=1/\(prog.underlying 58).isSome=true/\bP prog 58=some 57/\dK prog 60=true/\prog.cellsOf 60=4/\zeroCells prog 60=[.v (.string ⟨⟨[]⟩⟩),.v (.int .i64 0),.v (.int .i64 0),.list true []]/\eG prog 60=true/\(prog.underlying 60).isSome=true/\bG prog 60 0=some (0,9)/\bG prog 60 1=some (1,3)/\bG prog 60 2=some (2,3)/\bG prog 60 3=some (3,58)/\iY prog 60=true/\dK prog 62=true/\prog.cellsOf 62=5/\zeroCells prog 62=[.v (.int .i64 0),.v (.string ⟨⟨[]⟩⟩),.v (.int .i64 0),.v (.int .i64 0),.list true []]/\eG prog 62=true:=by and_intros<;>kernel_rfl
@[go_sem]theorem ty_4:(prog.underlying 62).isSome=true/\bG prog 62 0=some (0,3)/\bG prog 62 1=some (1,60)/\iY prog 62=true/\dK prog 65=false/\prog.cellsOf 65=1/\(prog.underlying 65).isSome=true/\bP prog 65=some 62/\dK prog 66=false/\prog.cellsOf 66=1/\(prog.underlying 66).isSome=true/\bP prog 66=some 114/\dK prog 68=true/\prog.cellsOf 68=2/\zeroCells prog 68=[.list true [],.list true []]/\(prog.underlying 68).isSome=true/\bG prog 68 0=some (0,66)/\bG prog 68 1=some (1,65)/\iY prog 68=true/\prog.cellsOf 71=1/\rG prog 71=some (3,4):=by and_intros<;>kernel_rfl
@[go_sem]theorem ko3(x0:Int):lQ prog 3 (.v (.int .i64 x0))=true:=by kernel_rfl
@[go_sem]theorem ty_5:dK prog 79=false/\prog.cellsOf 79=1/\zeroCells prog 79=[.v (.map none)]/\(prog.underlying 79).isSome=true/\rG prog 79=some (86,84)/\rJ prog 86=true/\dK prog 86=true/\prog.cellsOf 86=2/\prog.bytesOf 86=24/\zeroCells prog 86=[.v (.string ⟨⟨[]⟩⟩),.v (.int .i64 0)]/\eG prog 86=true/\(prog.underlying 86).isSome=true/\bG prog 86 0=some (0,9)/\bG prog 86 1=some (1,3)/\iY prog 86=true:=by and_intros<;>kernel_rfl
@[go_sem]theorem IU(x0:ByteArray)(x1:Int):lQ prog 86 (.agg [.v (.string x0),.v (.int .i64 x1)])=true:=by kernel_rfl
@[go_sem]theorem ty_6:yL prog 84 = .agg [.v (.string ⟨⟨[]⟩⟩),.v (.int .i64 0),.v (.int .i64 0),.list true [],.list true []]/\Jd prog 84=true/\dK prog 84=true/\prog.cellsOf 84=5/\prog.bytesOf 84=80/\zeroCells prog 84=[.v (.string ⟨⟨[]⟩⟩),.v (.int .i64 0),.v (.int .i64 0),.list true [],.list true []]/\eG prog 84=true/\(prog.underlying 84).isSome=true/\bG prog 84 0=some (0,60)/\bG prog 84 1=some (4,82)/\iY prog 84=true/\dK prog 82=false/\prog.cellsOf 82=1/\(prog.underlying 82).isSome=true/\bP prog 82=some 153/\dK prog 87=false/\prog.cellsOf 87=1/\(prog.underlying 87).isSome=true/\dK prog 95=true/\prog.cellsOf 95=3/\zeroCells prog 95=[.v (.bool false),.v (.string ⟨⟨[]⟩⟩),.list true []]/\(prog.underlying 95).isSome=true/\bG prog 95 0=some (0,4)/\bG prog 95 1=some (1,24)/\iY prog 95=true/\dK prog 97=true/\prog.cellsOf 97=8/\zeroCells prog 97=[.list true [],.v (.int .i64 0),.v (.bool false),.v (.string ⟨⟨[]⟩⟩),.list true [],.v (.bool false),.v (.string ⟨⟨[]⟩⟩),.list true []]/\(prog.underlying 97).isSome=true/\bG prog 97 0=some (0,31)/\bG prog 97 1=some (1,3)/\bG prog 97 2=some (2,95)/\bG prog 97 3=some (5,95)/\iY prog 97=true/\dK prog 107=false/\prog.cellsOf 107=1/\(prog.underlying 107).isSome=true/\bP prog 107=some 40/\dK prog 109=true/\prog.cellsOf 109=4:=by and_intros<;>kernel_rfl
@[go_sem]theorem ty_7:zeroCells prog 109=[.v (.bool false),.v (.string ⟨⟨[]⟩⟩),.list true [],.list true []]/\(prog.underlying 109).isSome=true/\bG prog 109 0=some (0,4)/\bG prog 109 1=some (1,24)/\bG prog 109 2=some (3,107)/\iY prog 109=true/\dK prog 114=true/\prog.cellsOf 114=5/\zeroCells prog 114=[.v (.int .i64 0),.v (.string ⟨⟨[]⟩⟩),.v (.int .i64 0),.v (.int .i64 0),.list true []]/\(prog.underlying 114).isSome=true/\bG prog 114 0=some (0,3)/\bG prog 114 1=some (1,60)/\bP prog 119=some 3/\bP prog 120=some 60/\dK prog 124=true/\prog.cellsOf 124=2/\zeroCells prog 124=[.v (.string ⟨⟨[]⟩⟩),.list true []]/\(prog.underlying 124).isSome=true/\bG prog 124 0=some (0,24)/\iY prog 124=true/\dK prog 125=false/\prog.cellsOf 125=1/\(prog.underlying 125).isSome=true/\bP prog 125=some 9/\dK prog 127=true/\prog.cellsOf 127=3/\zeroCells prog 127=[.v (.string ⟨⟨[]⟩⟩),.list true [],.list true []]/\(prog.underlying 127).isSome=true/\bG prog 127 0=some (0,124)/\bG prog 127 1=some (2,125)/\iY prog 127=true/\prog.cellsOf 130=1/\prog.cellsOf 132=3/\bG prog 132 0=some (0,31)/\bG prog 132 1=some (1,3)/\bG prog 132 2=some (2,130)/\prog.cellsOf 134=3/\zeroCells prog 134=[.list true [],.v (.int .i64 0),.v (.int .i8 0)]/\bG prog 134 0=some (0,132)/\dK prog 136=false:=by and_intros<;>kernel_rfl
@[go_sem]theorem ty_8:prog.cellsOf 136=1/\zeroCells prog 136=[.v .nilIface]/\(prog.underlying 136).isSome=true/\dK prog 138=false/\prog.cellsOf 138=1/\zeroCells prog 138=[.v .nilFunc]/\(prog.underlying 138).isSome=true/\dK prog 140=false/\prog.cellsOf 140=1/\prog.underlying 140=some (.int .u64)/\dK prog 153=true/\prog.cellsOf 153=6/\prog.bytesOf 153=56/\zeroCells prog 153=[.v (.string ⟨⟨[]⟩⟩),.v (.int .i64 0),.v (.int .i64 0),.v (.int .i64 0),.v (.int .i64 0),.v (.int .u64 0)]/\eG prog 153=true/\(prog.underlying 153).isSome=true/\bG prog 153 0=some (0,9)/\bG prog 153 1=some (1,3)/\bG prog 153 2=some (2,3)/\bG prog 153 3=some (3,3)/\bG prog 153 4=some (4,3)/\bG prog 153 5=some (5,140)/\iY prog 153=true/\vP prog 153=some [.s,.i,.i,.i,.i,.i]/\prog.cellsOf 178=1/\zeroCells prog 178=[.v (.int .i64 0)]/\bG prog 178 0=some (0,35)/\iY prog 178=true/\dK prog 180=false/\prog.cellsOf 180=1/\(prog.underlying 180).isSome=true/\dK prog 181=true/\prog.cellsOf 181=5/\zeroCells prog 181=[.v .nilFunc,.v .nilFunc,.v .nilFunc,.v .nilFunc,.v .nilFunc]/\(prog.underlying 181).isSome=true/\bP prog 181=none/\qR prog 181=some (5,180)/\iY prog 181=true:=by and_intros<;>kernel_rfl
@[go_sem]theorem fn181{f:Nat}:bG prog 181 f=none:=by kernel_rfl
@[go_sem]theorem ty_9:dK prog 183=false/\prog.cellsOf 183=1/\(prog.underlying 183).isSome=true/\bP prog 191=some 4/\prog.cellsOf 195=1/\rG prog 195=some (9,4):=by and_intros<;>kernel_rfl
@[go_sem]theorem ko9(x0:ByteArray):lQ prog 9 (.v (.string x0))=true:=by kernel_rfl
@[go_sem]theorem ty_10:dK prog 200=false/\prog.cellsOf 200=1/\zeroCells prog 200=[.v (.int .u64 0)]/\prog.underlying 200=some (.int .u64)/\dK prog 219=false/\prog.cellsOf 219=1/\(prog.underlying 219).isSome=true/\prog.cellsOf 227=1/\rG prog 227=some (86,4)/\prog.underlying 230=some (.int .u64)/\prog.underlying 235=some .string/\dK prog 255=true/\prog.cellsOf 255=8/\zeroCells prog 255=[.v (.int .i64 0),.v (.int .i64 0),.v (.int .i64 0),.v (.int .i64 0),.v (.int .i64 0),.v (.bool false),.v (.bool false),.v (.bool false)]/\(prog.underlying 255).isSome=true/\bG prog 255 0=some (0,3)/\bG prog 255 1=some (1,3)/\bG prog 255 2=some (2,3)/\bG prog 255 3=some (3,3)/\bG prog 255 4=some (4,3)/\bG prog 255 5=some (5,4)/\bG prog 255 6=some (6,4)/\bG prog 255 7=some (7,4)/\bP prog 256=none/\qR prog 256=some (9,255)/\prog.cellsOf 263=1/\zeroCells prog 263=[.list true []]/\bG prog 263 0=some (0,31)/\iY prog 263=true/\dK prog 287=false/\prog.cellsOf 287=1/\zeroCells prog 287=[.v .nilFunc]/\(prog.underlying 287).isSome=true/\dK prog 296=false/\prog.cellsOf 296=1/\eG prog 296=true/\(prog.underlying 296).isSome=true/\bP prog 297=some 296/\prog.cellsOf 327=2/\zeroCells prog 327=[.list true [],.v (.bool false)]:=by and_intros<;>kernel_rfl
@[go_sem]theorem ty_11:bG prog 327 0=some (0,31)/\bG prog 327 1=some (1,4)/\iY prog 327=true:=by and_intros<;>kernel_rfl
end Go.Proofs.YtidphdaoejibcaaGreatDoor
namespace Go.DL
open Go.RowKit
variable {P : Program} {C : aR} {ro : Option Nat} {Q : Exit -> S -> Prop}
def Zh5 [Glob P]{s:S}{n nx:Nat}{t:Nat->D}{h:H}{ok:Prop}{e:Env}{id:Nat}{ops:Array Oper}{draw:Bool}(he:exec P (words P) C ops.toList s=⟨n,t,h,nx,ok,e⟩)(hd:draw=true->P.follows .mixedOrders=true/\qQ C ops.toList=true/\j5 ops.toList=true)(hok:ok)(hq:Q .normal ⟨n,t,h,nx,True,e⟩):DW P ro (.region id ops draw) Q s :=
 Vx (C:=C) he hd hok hq
def zR [Glob P]{s:S}{n nx:Nat}{t:Nat->D}{h:H}{ok:Prop}{e:Env}{id:Nat}{ops:Array Oper}{draw:Bool}{y:Code}(he:exec P (words P) C ops.toList s=⟨n,t,h,nx,ok,e⟩)(hd:draw=true->P.follows .mixedOrders=true/\qQ C ops.toList=true/\j5 ops.toList=true)(hok:ok)(hq:DW P ro y Q ⟨n,t,h,nx,True,e⟩):DW P ro (.seq (.region id ops draw) y) Q s :=
 ae (Vx (C:=C) he hd hok hq)
@[go_sem]theorem ne_add{r n i:Nat}(h:r<n):(r=n+i)=False:=by simp;omega
@[go_sem]theorem add_ne{r n i:Nat}(h:r<n):(n+i=r)=False:=by simp;omega
@[go_sem]theorem yQ{α β:Type}{f:α->β}{l:List α}:(l.map f).take l.length=l.map f:=by rw[Ym];simp
@[go_sem]theorem Zku{α β:Type}{f:α->β}{l:List α}{x:β}:(l.map f++[x]).take (l.length+1)=l.map f++[x]:=by rw[Ym];simp
@[go_sem]theorem Zad : ∀{a b:List (List D)},eB (a++b)=eB a++eB b
 | [],_=>rfl
 | r::a,b=>by simp only[XY,eB,Zad]
attribute [go_sem] Zb3 Sw bu bA
@[go_sem]theorem ZkF{h:H}{rows:List (List D)}:(∀row∈rows,∀c∈row,dL h 0 c)=(bu rows=true):=by
 apply propext
 refine⟨λk=>LP λr hr=>AQ λc hc=>k r hr c hc,λk=>Zb7 k⟩
def nr_v{x:Value}:D.nr (.v x)=true:=rfl
def nr_list{f:Bool}{rows:List (List D)}:D.nr (.list f rows)=bu rows:=rfl
attribute[go_sem]nr_v nr_list
def tab:List (Nat×D)->Nat->D
 | [],_=>.junk
 | (j,x)::l,i=>if i=j then x else tab l i
@[go_sem]theorem tab_hit{i:Nat}{x:D}{l:List (Nat×D)}:tab ((i,x)::l) i=x:=by simp[tab]
@[go_sem]theorem tab_miss{j i:Nat}{x:D}{l:List (Nat×D)}(h:(i=j)=False):tab ((j,x)::l) i=tab l i:=by simp only[tab];rw[XV (by rw[h];exact id)]
def Tb(t:Nat->D)(p:Nat×D):Prop:=t p.1=p.2\/wk (t p.1)=p.2
@[go_sem]theorem tb_eq{t:Nat->D}{i:Nat}{d:D}:Tb t (i,d)=(t i=d\/wk (t i)=d):=rfl
attribute [go_sem] true_or
theorem GM{t:Nat->D}:∀{l:List (Nat×D)},(∀p∈l,Tb t p) -> ∀i,tab l i=t i\/tab l i=wk (t i)\/tab l i = .junk
 | [],_,_=>.inr (.inr rfl)
 | (j,x)::l,h,i=>by
  simp only[tab]
  split
  .
   rename_i e;subst e
   rcases h (i,x) (by simp)with h|h
   . exact .inl h.symm
   exact .inr (.inl h.symm)
  exact GM (λp hp=>h p (by simp[hp])) i
theorem Marks.only{B:Nat}{g:Mem}{h':H}{w:World}:∀{ds:List Deferred},Marks B g ds w->Marks B (g.only h') ds w
 | [],_=>trivial
 | _::_,⟨h1,h2⟩=>⟨h1,Marks.only h2⟩
theorem kg.only{B:cK}{g:Mem}{h':H}{w:World}{ds:List Deferred}(h:kg B g ds w):kg B (g.only h') ds w:=h.map λ_ k=>k.only
def St.forget [Glob P]{B:cK}{s:S}{g:Mem}{a:Act}{w:World}(hs:St P B s g a w){t':Nat->D}{h':H}{nx':Nat}(ht : ∀i,t' i=s.t i\/t' i=wk (s.t i)\/t' i = .junk)(hh : ∀r,h' r=s.h r\/h' r=none) :
  St P B { n:=s.n,t:=t',h:=h',nx:=nx',e:=s.e } (g.only h') a w:=by
 refine⟨hs.sz,λi=>?_,hs.mem.only hh,hs.df.only,s.e.st P s.h g _ w w hs.mem ve hs.en,hs.bd⟩
 rcases ht i with e|e|e
 .
  show ag w (g.only h') (t' i) _
  rw[e];exact(hs.tm i).only
 .
  show ag w (g.only h') (t' i) _
  rw[e];exact(hs.tm i).wk.only
 show ag w (g.only h') (t' i) _
 rw[e];exact .junk _
def Zif [Glob P]{c:Code}{s:S}(t':Nat->D)(h':H)(nx':Nat)(ht : ∀i,t' i=s.t i\/t' i=wk (s.t i)\/t' i = .junk)(hh : ∀r,h' r=s.h r\/h' r=none)(hn:s.nx<=nx')(h:DW P ro c Q { n:=s.n,t:=t',h:=h',nx:=nx',e:=s.e }):DW P ro c Q s:=by
 intro B g a w hs hU
 exact wpIn_mono (h B _ a w (hs.forget ht hh) λr hr=>YB (hU r hr) hn) λe a' w'⟨s',g',q,r,m,u,v⟩=>⟨s',g',q,r,ve.toX.trans m,u,v⟩
def NA [Glob P]{c:Code}{s:S}(l:List (Nat×D))(h':H)(nx':Nat)(ht : ∀p∈l,Tb s.t p)(hh : ∀r,h' r=s.h r\/h' r=none)(hn:s.nx<=nx')(h:DW P ro c Q { n:=s.n,t:=tab l,h:=h',nx:=nx',e:=s.e }):DW P ro c Q s :=
 Zif _ _ _ (GM ht) hh hn h
theorem VA [Glob P]{c:Code}{s:S}{α:Type}(A:α->Prop)(μ:α->Nat)(tb:α->List (Nat×D))(hh:α->H)(fU:α->Nat)(a0:α)(hA:A a0)(ht : ∀p∈tb a0,Tb s.t p)(hhp : ∀r,hh a0 r=s.h r\/hh a0 r=none)(hn:s.nx<=fU a0)
  (round : ∀a,A a->DW P ro c (thenS (λs'=>∃a',A a'/\μ a'<μ a/\(∀p∈tb a',Tb s'.t p)/\(∀r,hh a' r=s'.h r\/hh a' r=none)/\s'.nx<=fU a'/\s'.n=s.n/\s'.e=s.e) Q) { n:=s.n,t:=tab (tb a),h:=hh a,nx:=fU a,e:=s.e }):DW P ro (.loop c) Q s:=by
 intro B g a w hs hU
 refine wpIn_loop_ghost (λk a' w'=>∃x g',A x/\μ x=k/\St P B { n:=s.n,t:=tab (tb x),h:=hh x,nx:=fU x,e:=s.e } g' a' w'/\gD s.e.x g g' w w' /\ ∀r,g'.U r->r<fU x) (μ a0) ⟨a0,_,hA,rfl,hs.forget (GM ht) hhp,ve.toX,λr hr=>YB (hU r hr) hn⟩ ?_
 rintro k a1 w1 ⟨x,g1,hx,rfl,hs1,hm1,eD⟩
 refine wpIn_mono (round x hx B g1 a1 w1 hs1 eD) ?_
 rintro e a2 w2 ⟨s2,g2,hq,hs2,hm2,zH,hx2⟩
 cases e with
 | normal =>
  obtain⟨x',h1,h2,h3,h4,h5,h6,h7⟩:=hq;refine⟨μ x',h2,x',g2.only (hh x'),h1,rfl,?_,(hm1.trans hm2).trans ve.toX,λr hr=>YB (zH r hr) h5⟩
  have:=hs2.forget (nx':=fU x') (GM h3) h4;rw[h6,h7]at this;exact this
 | _=>exact⟨s2,g2,hq,hs2,hm1.trans hm2,zH,hx2⟩
def htab:List (Nat×eU)->H
 | []=>λ_=>none
 | (r,b)::l=>upd (htab l) r (some b)
def htab_nil:htab []=λ_=>none:=rfl
def ZlG{r:Nat}{b:eU}{l:List (Nat×eU)}:htab ((r,b)::l)=upd (htab l) r (some b):=rfl
attribute[go_sem]htab_nil ZlG
theorem I5{h:H}:∀{l:List (Nat×eU)},(∀p∈l,h p.1=some p.2) -> ∀r,htab l r=h r\/htab l r=none
 | [],_,_=>.inr rfl
 | (j,x)::l,hl,i=>by
  simp only[htab,upd]
  split
  . rename_i e;subst e;exact .inl (hl (i,x) (by simp)).symm
  exact I5 (λp hp=>hl p (by simp[hp])) i
def L9{s:S}{keep:List Nat}{fx:List (Nat×D)}(hfx:keep.map (λi=>(i,s.t i))=fx):∀p∈fx,Tb s.t p:=by
 intro p hp
 rw[<-hfx]at hp
 obtain⟨i,_,rfl⟩:=Yr.1 hp
 exact .inl rfl
theorem Zh8 [Glob P]{c:Code}{s:S}{α:Type}(keep:List Nat)(A:α->Prop)(μ:α->Nat)(tb:α->List (Nat×D))(hb:α->List (Nat×eU))(fU:α->Nat)(a0:α){fx:List (Nat×D)}(hfx:keep.map (λi=>(i,s.t i))=fx)(hA:A a0)(ht : ∀p∈tb a0,Tb s.t p)(hh : ∀p∈hb a0,s.h p.1=some p.2)(hn:s.nx<=fU a0)
  (round : ∀a,A a->DW P ro c (thenS (λs'=>∃a',A a'/\μ a'<μ a/\(∀p∈tb a',Tb s'.t p)/\(∀p∈fx,Tb s'.t p)/\(∀p∈hb a',s'.h p.1=some p.2)/\s'.nx<=fU a'/\s'.n=s.n/\s'.e=s.e) Q) { n:=s.n,t:=tab (tb a++fx),h:=htab (hb a),nx:=fU a,e:=s.e }):DW P ro (.loop c) Q s :=
 VA A μ (λa=>tb a++fx) (λa=>htab (hb a)) fU a0 hA (λp hp=>(Yv.1 hp).elim (ht p) (L9 hfx p)) (I5 hh) hn λa ha=>(round a ha).mono λe s' hq=>by
  cases e with
  | normal =>
   obtain⟨a',h1,h2,h3,h4,h5,h6,h7,h8⟩:=hq;exact⟨a',h1,h2,λp hp=>(Yv.1 hp).elim (h3 p) (h4 p),I5 h5,h6,h7,h8⟩
  | _=>exact hq
def BH [Glob P]{c:Code}{s:S}(keep:List Nat)(hb:List (Nat×eU)){fx:List (Nat×D)}(hfx:keep.map (λi=>(i,s.t i))=fx)(hh : ∀p∈hb,s.h p.1=some p.2)(h:DW P ro c Q { n:=s.n,t:=tab fx,h:=htab hb,nx:=s.nx,e:=s.e }):DW P ro c Q s :=
 NA fx (htab hb) s.nx (L9 hfx) (I5 hh) (XW _) h
theorem Zh9 [Glob P]{c:Code}{s:S}(i:Nat){f:Bool}{rows:List (List D)}(he:s.t i = .list f rows)(h:rows.length<=maxLen->DW P ro c Q s):DW P ro c Q s:=by
 intro B g a w hs hU
 refine h ?_ B g a w hs hU
 have hr:=hs.tm i
 rw[he]at hr
 generalize a.tmps.getD i undef=v at hr
 cases hr with
 | empty=>simp[maxLen]
 | list _ _ ad cap size cv hI hl hf hm hs hc hr=>omega
theorem yu [Glob P]{c:Code}{s:S}(i:Nat)(ty:TypeId)(hi:s.t i = .list true [])(hty:0<P.cellsOf ty)(h:DW P ro c Q { n:=s.n,t:=upd s.t i (.mrow s.nx 0 0),h:=upd s.h s.nx (some ⟨ty,[]⟩),nx:=s.nx+1,e:=s.e }):DW P ro c Q s:=by
 intro B g a w hs hU
 have hnu : ¬g.U s.nx:=λh=>Nat.lt_irrefl _ (hU _ h)
 obtain⟨g',q1,q2,q3,q4,q5⟩:=hs.mem.putNone (h':=upd s.h s.nx (some ⟨ty,[]⟩)) s.nx ⟨ty,[]⟩ hnu (bL _ _ _) (λr hr=>.inl (aJ _ _ _ _ hr)) hty rfl
 have hst:St P B { n:=s.n,t:=upd s.t i (.mrow s.nx 0 0),h:=upd s.h s.nx (some ⟨ty,[]⟩),nx:=s.nx+1,e:=s.e } g' a w:=by
  refine⟨hs.sz,λj=>?_,q4,hs.df.later hs.mem q5,Env.later hs.mem q5 hs.en,hs.bd⟩
  by_cases e:j=i
  .
   subst e;simp only[bL];have hr:=hs.tm j;rw[hi]at hr;generalize a.tmps.getD j undef=v at hr;have key : ∃x,v = .slice x 0 0:=by
    cases hr with
    | empty _ x cap hf hm=>exact⟨x,by rw[hf rfl]⟩
    | list _ _ ad cap size cv hI hl hf=>exact⟨some ad,by rw[hf rfl];rfl⟩
   obtain⟨x,rfl⟩:=key;refine .mrow _ _ _ _ ⟨x,0,rfl,XW _,λh=>absurd h om⟩ ((q2 _).2 (.inr rfl)) λblk c sz he=>?_
   rw[q1]at he
   cases he
   exact⟨⟨XW _,Yi _⟩,.inl ⟨rfl,x,rfl⟩⟩
  simp only[aJ _ _ _ _ e];exact(hs.tm j).later hs.mem q5
 exact wpIn_mono (h B g' a w hst (λr hr=>by
  rcases(q2 r).1 hr with h|h
  . exact Nat.lt_succ_of_lt (hU r h)
  subst h;exact Nat.lt_succ_self _)) λe a' w'⟨s',g'',q,r,m,u,v⟩=>⟨s',g'',q,r,q5.toX.trans m,u,v⟩
theorem ZhX{w:World}{g:Mem}{v:Value}(hr:ag w g (.list true []) v):∃x,v = .slice x 0 0:=by
 cases hr with
 | empty _ x cap hf hm=>exact⟨x,by rw[hf rfl]⟩
 | list _ _ ad cap size cv hI hl hf=>exact⟨some ad,by rw[hf rfl];rfl⟩
def bT(P:Program)[Glob P](f:FuncId)(args:List D)(h:H)(n:Nat)(R:D->H->Nat->Prop):Prop :=
 d9 P f=true /\ ∀(w:World)(g:Mem)(vs:List Value),HM P h g w->(∀r,g.U r->r<n)->aB w g args vs ->
  CallsIn Fence.wide 0 P f vs.toArray w λe w'=>∃v g' res h' n',R res h' n'/\e = .returned v/\ag w' g' res v/\HM P h' g' w'/\ax g g' w w' /\ ∀r,g'.U r->r<n'
def bT.mono [Glob P]{f:FuncId}{args:List D}{h:H}{n:Nat}{R R':D->H->Nat->Prop}(k:bT P f args h n R)(i : ∀d h' n',R d h' n'->R' d h' n'):bT P f args h n R' :=
 ⟨k.1,λw g vs h1 h2 h3=>(k.2 w g vs h1 h2 h3).mono λ_ _⟨v,g',res,h',n',q,r⟩=>⟨v,g',res,h',n',i _ _ _ q,r⟩⟩
theorem AR [Glob P]{h:H}{g:Mem}{w:World}{n:Nat}(hm:HM P h g w)(hU : ∀r,g.U r->r<n):∀r,n<=r->h r=none:=by
 intro r hr
 cases hq:h r with
 | none=>rfl
 | some bl =>
  obtain⟨blk,c',h1,_⟩:=hm.blk r bl hq;have:=hU r (hm.used r (by rw[h1];simp))
  omega
def Lg [Glob P]{f:FuncId}{fn:Func}{c:Code}{args:List D}{h:H}{n:Nat}{R:D->H->Nat->Prop}(hf:P.funcs[f]? = some fn)(hb:fn.body=some c)(hbd:d9 P f=true)(hn:args.length<=fn.ntmps)
  (hw:(∀r,n<=r->h r=none)->DW P none c (λe s=>(e = .normal\/e = .ret)/\pX P s fn.results.toList /\ ∃h' n',(∀r,h' r=s.h r\/h' r=none)/\s.nx<=n'/\R (rD P fn.results.toList s) h' n') { n:=fn.ntmps,t:=λi=>args.getD i .junk,h:=h,nx:=n }):bT P f args h n R:=by
 refine⟨hbd,λw g vs hm hU hr=>?_⟩
 have hs:=zC (P:=P) (n:=fn.ntmps) hr hn hm (nx:=n)
 refine callsIn_of_wp_marks (n:=0) hf hb trivial (wpIn_mono (F:=Fence.wide) (hw (AR hm hU) (cK.of w.heap.size) g _ w hs hU) ?_)
 rintro e a' w' ⟨s',g',⟨he,ho,h',n',hh,hn',hR⟩,hs',hm',iV,_⟩
 have hm':=hm'.out
 have hlast:LeavesInM Fence.wide 0 P fn a'.tmps (λe w'=>∃v g' res h' n',R res h' n'/\e = .returned v/\ag w' g' res v/\HM P h' g' w'/\ax g g' w w' /\ ∀r,g'.U r->r<n') a'.defers .returning w':=by
  refine IL (P:=P) a'.defers w' hs'.df.marks λw2 e0 e1 e2 e3 e4 e5 e6 e7=>?_
  have hs2:=hs'.marks e4 e6 e7;obtain⟨v,h1,h2⟩:=Cv (fn:=fn) hs2 ho;have vv:ax g g' w w2:=by
   refine⟨by rw[e1,hm'.os],by rw[e2,hm'.tape],by rw[e3,hm'.output],by rw[e4];exact hm'.size,by rw[e0];exact hm'.drawn,hm'.U,hm'.M,hm'.new,hm'.I,hm'.inew,λk hk hne=>?_⟩
   rw[e5 k hk];exact hm'.same k hk hne
  exact⟨v,h1,v,g'.only h',_,h',n',hR,rfl,h2.only,hs2.mem.only hh,vv.trans ve,λr hr=>YB (iV r hr) hn'⟩
 rcases he with rfl|rfl<;>exact hlast
def PureCt.rct [Glob P]{f:FuncId}{args:List D}{res:D}(k:PureCt P f args res)(h:H)(n:Nat):bT P f args h n (λd h' n'=>d=res/\h'=h/\n'=n):=by
 obtain⟨hbd,hnr,hct⟩:=k
 refine⟨hbd,λw g vs hm hU hr=>?_⟩
 refine(hct w g.I _ hm.imm hm.gr (hr.clean hnr λ_ h=>h)).mono ?_
 rintro e w' ⟨v,rfl,hbel,hv⟩
 let g':Mem:={ g with I:=λb=>g.I b\/(w.heap.size<=b/\b<w'.heap.size) }
 have mono:ax g g' w w':=⟨hbel.os,hbel.tape,hbel.output,hbel.size,hbel.drawn,λ_ h=>h,λ_ _=>.inl rfl,λr b c s h=>.inl ⟨r,c,s,h⟩,λ_ h=>.inl h,λb h=>by rcases h with h|h;exact .inl h;exact .inr (.inl h.1),λb hb _=>hbel.block b hb⟩
 refine⟨v,g',res,h,n,⟨rfl,rfl,rfl⟩,rfl,by refine ag.mono ?_ ?_ ?_ hv;exact λb hb=>⟨hb,rfl⟩;exact λ_ h=>False.elim h;exact λ_ h=>False.elim h,⟨hm.dead,λr bl hr=>?_,hm.inj,hm.used,λb hb=>?_,hm.gr.later (hm.kept mono)⟩,mono,hU⟩
 .
  obtain⟨blk,c,h1,h2,h3,h4,h5⟩:=hm.blk r bl hr;refine⟨blk,c,h1,h2,h3,h4,?_⟩
  rcases h5 with h5|⟨b,cur,rfl,h6,h7,h8,h9⟩
  . exact .inl h5
  have hlt:=(pK hm h1).1;refine .inr ⟨b,cur,rfl,by rw[hbel.block b hlt];exact h6,h7,λhI=>?_,λi row hi=>⟨(h9 i row hi).1,λj d hd=>?_⟩⟩
  .
   rcases hI with hI|hI
   . exact h8 hI
   omega
  obtain⟨u,k3,k4,k5⟩:=(h9 i row hi).2 j d hd;exact⟨u,k3,k4,k5.later hm mono⟩
 rcases hb with hb|hb
 . exact YB (hm.imm b hb) hbel.size
 exact hb.2
def dN{α:Type}{a:Array α}{k:Nat}{o:α}(h:a.toList[k]? = some o):a[k]? = some o:=by rwa [Zb]at h
theorem uF [Glob P]{B:cK}{ops:Array Oper}{b:Nat}{n:Nat}{Q:Exit->Act->World->Prop}{w0:World}{g0:Mem}{rest:List Nat}:∀(k i:Nat)(s:S)(g:Mem)(a:Act)(w:World),St P B s g a w->ax g0 g w0 w->(∀r,g.U r->r<b+i) ->
  i+k<=ops.size->(aY P (words P) C ops.toList b i ((ops.toList.drop i).take k) s).ok ->
  (∀g' a' w',St P B (aY P (words P) C ops.toList b i ((ops.toList.drop i).take k) s) g' a' w'->ax g0 g' w0 w'->(∀r,g'.U r->r<b+(i+k))->wpOpsIn (Fw ro) n P ops Q rest a' w') ->
  wpOpsIn (Fw ro) n P ops Q (List.range' i k++rest) a w:=by
 intro k
 induction k with
 | zero =>
  intro i s g a w hs hm hU hk hok hQ;exact hQ g a w hs hm hU
 | succ k ih =>
  intro i s g a w hs hm hU hk hok hQ;have hlt:i<ops.size:=by omega
  have hd:(ops.toList.drop i).take (k+1)=ops[i]::(ops.toList.drop (i+1)).take k:=by rw[YC (by simpa using hlt)];simp
  rw[hd]at hok hQ;simp only[aY]at hok hQ;rw[Y6,XY,wpOpsIn_cons];refine FQ hs (b:=b) (N:=b+i) (λh=>by have:=hU _ h;omega) hU (by simp[hlt]) (JH hok) λg' a' w' h1 h2 h3=>?_
  refine ih (i+1) _ g' a' w' h1 (hm.trans h2) (λr hr=>by
                                 rcases h3 r hr with h|h;· have:=hU r h;omega
                                 omega) om hok λg'' a'' w'' q1 q2 q3=>hQ g'' a'' w'' q1 q2 λr hr=>by have:=q3 r hr;omega
theorem aB.wk{w:World}{g:Mem}{ds:List D}{vs:List Value}(h:aB w g ds vs):aB w g (ds.map wk) vs :=
 ⟨by simpa using h.1,λi d x h1 h2=>by obtain⟨y,h3,rfl⟩:=kS h1;exact(h.2 i y x h3 h2).wk⟩
theorem Zik [Glob P]{s s1:S}{id:Nat}{ops:Array Oper}(k:Nat){o:Oper}{f:Operand}{args:Array Operand}{ts:Array TypeId}{aW:FuncId}{first aD xs:List D}(R:D->H->Nat->Prop)
  (ho:ops[k]? = some o)(hop:o.op = .call { callee:=.value f,args:=args,argTypes:=ts })(hg:o.guard=none)
  (he:aY P (words P) C ops.toList s.nx 0 (ops.toList.take k) { n:=s.n,t:=s.t,h:=s.h,nx:=s.nx+k,ok:=s.ok,e:=s.e }=s1)(hok:s1.ok)(hd:dG s1.n o.dst=true)
  (hf:s1.ev f = .fn (.func aW) first aD)(hxg:(args.toList.map s1.ev).all sg=true)(hx:((args.toList.map s1.ev).map sd).map wk=xs)(hct:bT P aW (first++xs++aD) s1.h (s.nx+k) R)
  (hk : ∀res h' n',R res h' n' -> ∃s2,aY P (words P) C ops.toList n' (k+1) (ops.toList.drop (k+1)) { n:=s1.n,t:=s1.put o.dst res,h:=h',nx:=n'+ops.size,ok:=True,e:=s1.e }=s2/\s2.ok/\Q .normal s2.clear) :
  DW P ro (.region id ops false) Q s:=by
 intro B g a w hs hU
 have hlt:k<ops.size:=(Yk.1 ho).1
 refine wpIn_region ?_
 have hr:List.range ops.size=List.range' 0 k++(k::List.range' (k+1) (ops.size-(k+1))):=by
  rw[Zd];have:ops.size=k+((ops.size-(k+1))+1):=by omega
  conv=>lhs;rw[this]
  rw[<-Zi,Y6]
  simp
 rw[hr]
 have hs0:St P B { n:=s.n,t:=s.t,h:=s.h,nx:=s.nx+k,ok:=s.ok,e:=s.e } g a w:=⟨hs.sz,hs.tm,hs.mem,hs.df,hs.en,hs.bd⟩
 have e0:(ops.toList.drop 0).take k=ops.toList.take k:=rfl
 refine uF (C:=C) (b:=s.nx) k 0 _ g a w hs0 (ax.refl _ _) (λr hr=>by have:=hU r hr;omega) (by omega) (by rw[e0,he];exact hok) λg1 a1 w1 hs1 hm1 eD=>?_
 rw[e0,he]at hs1
 rw[wpOpsIn_cons]
 unfold wpOpIn
 rw[ho]
 simp only
 have hw:Region.wanted o (yielded ops a1.tmps)=true:=by simp[Region.wanted,hg]
 rw[X3 hw]
 have hdef : ∀c,o.op ≠ .defer c:=by intro c e;rw[e]at hop;cases hop
 have jY:o.semAt (Fw ro).round a1.eval=execOp a1.eval o:=Oper.semAt_eq _ _ _ hdef
 refine⟨λ_ _=>trivial,?_⟩
 rw[jY]
 obtain⟨hbd,hct⟩:=hct
 have hfr:=bV hs1 f
 rw[hf]at hfr
 have fK:=aB.wk (vX (vO hs1 args.toList) hxg)
 rw[hx]at fK
 generalize hv:a1.eval f=vf at hfr
 cases hfr with|fn _ _ _ fs cs l1 l2 r1 r2 =>
 have hrun:(execOp a1.eval o).run P w1 = .ok (.enter aW (fs++args.map a1.eval++cs)) w1:=by
  simp[execOp,hop,resolve,Deferred.ofValue,hv,invoke,vR hbd]
 rw[hrun,Oper.uponIn_enter]
 have e:fs++args.map a1.eval++cs=(fs.toList++args.toList.map a1.eval++cs.toList).toArray:=by apply Zo;simp
 rw[e]
 refine⟨λh=>by simp[Fw,Fence.wide]at h,yD ((hct w1 g1 _ hs1.mem (λr hr=>by have:=eD r hr;omega) (aB.append (aB.append ⟨by simpa using l1,λi d x h1 h2=>r1 i d x h1 (by simpa using h2)⟩ fK) ⟨by simpa using l2,λi d x h1 h2=>r2 i d x h1 (by simpa using h2)⟩)).mono ?_)⟩
 rintro e w' ⟨v,g',res,h',n',hR,rfl,q1,q2,q3,q4⟩
 obtain⟨s2,e2,ok2,hQ⟩:=hk res h' n' hR
 have hs2:=mo hs1 q3 q2 hd q1 True
 have hs3:St P B { n:=s1.n,t:=s1.put o.dst res,h:=h',nx:=n'+ops.size,ok:=True,e:=s1.e } g' (a1.put o.dst v) w':=⟨hs2.sz,hs2.tm,hs2.mem,hs2.df,hs2.en,hs2.bd⟩
 have hnx : ∀(l:List Oper)(i:Nat)(u:S),(aY P (words P) C ops.toList n' i l u).nx=u.nx:=by
  intro l
  induction l with
  | nil=>intro i u;rfl
  | cons x l ih=>intro i u;simp only[aY];rw[ih,BG.2]
 have hex : ∀(l:List Oper)(i b:Nat)(u:S),(aY P (words P) C ops.toList b i l u).e=u.e:=by
  intro l
  induction l with
  | nil=>intro i b u;rfl
  | cons x l ih =>
   intro i b u;simp only[aY];rw[ih];unfold dF
   split<;>rfl
 have e3:(ops.toList.drop (k+1)).take (ops.size-(k+1))=ops.toList.drop (k+1):=Ym (by simp)
 have:=uF (ro:=ro) (P:=P) (C:=C) (B:=B) (ops:=ops) (b:=n') (n:=0) (rest:=[]) (g0:=g) (w0:=w) (Q:=λe a' w'=>∃s' g',Q e s'/\St P B s' g' a' w'/\gD s.e.x g g' w w'/\(∀r,g'.U r->r<s'.nx)/\s'.e.x=s.e.x) (ops.size-(k+1)) (k+1) _ g' _ w' hs3 (hm1.trans q3) (λr hr=>by have:=q4 r hr;omega) om
  (by rw[e3,e2];exact ok2) λg'' a'' w'' p1 p2 p3=>by
   rw[e3,e2]at p1;refine⟨_,g'',hQ,p1.clear,p2.toX,λr hr=>?_,?_⟩
   .
    have h3:=p3 r hr;have h4:=hnx (ops.toList.drop (k+1)) (k+1) { n:=s1.n,t:=s1.put o.dst res,h:=h',nx:=n'+ops.size,ok:=True,e:=s1.e };rw[e2]at h4
    show r<s2.nx
    rw[h4]
    show r<n'+ops.size
    omega
   have h5:=hex (ops.toList.drop (k+1)) (k+1) n' { n:=s1.n,t:=s1.put o.dst res,h:=h',nx:=n'+ops.size,ok:=True,e:=s1.e };rw[e2]at h5;have h6:=hex (ops.toList.take k) 0 s.nx { n:=s.n,t:=s.t,h:=s.h,nx:=s.nx+k,ok:=s.ok,e:=s.e };rw[he]at h6
   show s2.e.x=s.e.x
   rw[h5]
   show s1.e.x=s.e.x
   rw[h6]
 rw[Yx]at this
 exact this
end Go.DL
namespace Go.DL
open Go.RowKit
variable {P : Program} {C : aR} {Q : Exit -> S -> Prop}
def recAt(r:Loop)(j:Option Code):Loop:={ r with state:=if j.isNone then .ready else .done,pending:=j }
def Env.loop(l:Nat)(r:Loop)(t:Nat->D):Env where
 p g w:=w.heap[l]? = some (.loop r) /\ ¬g.I l /\ ∀i,ag w g (t i) (r.tmps.getD i undef)
 x:=some l
 st P _ h g g' w w' hm k:=λ⟨h1,h2,h3⟩=>⟨EG hm k h1 (λc e f=>by simp),λhI=>by
   rcases k.inew l hI with e|e|⟨r,c,s,e⟩
   . exact h2 e
   . have:=(Yk.1 h1).1;omega
   . exact xN hm h1 (λc e f=>by simp) (λc e=>by simp) r c s e,λi=>(h3 i).later hm k⟩
theorem HM.keptX [Glob P]{h:H}{g g':Mem}{w w':World}{l:Nat}(hm:HM P h g w)(k:gD (some l) g g' w w')(hl : ¬g.I l):∀b,g.I b->g'.I b/\w'.heap[b]? = w.heap[b]? := by
 refine λb hb=>⟨k.I b hb,k.same b (hm.imm b hb) (λr c s e=>?_) (λe=>hl (by cases e;exact hb))⟩
 cases hr:h r with
 | none=>rw[hm.dead r hr]at e;cases e
 | some bl =>
  obtain⟨blk,c',e1,_,_,_,h5⟩:=hm.blk r bl hr;rw[e]at e1;simp only[Yf,YJ]at e1
  rcases h5 with⟨h6,_⟩|⟨b',cur,h6,_,_,h7,_⟩
  . rw[<-e1.1]at h6;cases h6
  rw[<-e1.1]at h6;cases h6;exact h7 hb
def LQ [Glob P]{h:H}{g g':Mem}{w w':World}{l:Nat}(hm:HM P h g w)(k:gD (some l) g g' w w'){D:Nat}{o:Obj}(hD:w.heap[D]? = some o)(ho : ∀c e f,o ≠ .cells c e f)(hl:l≠D)(ho2 : ∀c e,o ≠ .map c e:=by intro c e;simp):w'.heap[D]? = some o:=by
 rw[k.same D (Yk.1 hD).1 (xN hm hD ho ho2) (λe=>hl (by cases e;rfl))];exact hD
theorem Marks.laterX [Glob P]{h:H}{g g':Mem}{w w':World}{l:Nat}(hm:HM P h g w)(k:gD (some l) g g' w w'){r:Loop}(hl:w.heap[l]? = some (.loop r)){B:Nat}:∀{ds:List Deferred},Marks B g ds w->Marks B g' ds w'
 | [],_=>trivial
 | d::ds,⟨⟨D,h1,h2,h3,h4,h5⟩,h6⟩=>⟨⟨D,h1,LQ hm k h2 (λc e f=>by simp) (λe=>by subst e;rw[hl]at h2;cases h2),h3,h4,λhI=>by
   rcases k.inew D hI with e|e|⟨r,c,s,e⟩
   . exact h5 e
   . have:=(Yk.1 h2).1;omega
   exact xN hm h2 (λc e f=>by simp) (λc e=>by simp) r c s e⟩,h6.laterX hm k hl⟩
def kg.laterX [Glob P]{h:H}{g g':Mem}{w w':World}{l:Nat}(hm:HM P h g w)(k:gD (some l) g g' w w'){r:Loop}(hl:w.heap[l]? = some (.loop r)){B:cK}{ds:List Deferred}(hd:kg B g ds w):kg B g' ds w':=hd.map λ_ h=>h.laterX hm k hl
def LZ{g:Mem}{w:World}{l:Nat}(o:Obj):gD (some l) g g w (w.putObj l o) :=
 ⟨rfl,rfl,rfl,by simp,XW _,λ_ h=>h,λ_ _=>.inl rfl,λr _ c s h=>.inl ⟨r,c,s,h⟩,λ_ h=>h,λ_ h=>.inl h,λ_ _ _ hx=>World.putObj_heap_other (λe=>hx (by rw[e]))⟩
def HM.putLoop [Glob P]{h:H}{g:Mem}{w:World}{l:Nat}{r:Loop}(hm:HM P h g w)(hl:w.heap[l]? = some (.loop r))(hI : ¬g.I l)(o:Obj):HM P h g (w.putObj l o) :=
 hm.marks (by simp) (λk hk=>World.putObj_heap_other (λe=>hI (e▸hk))) λk o hk ho=>World.putObj_heap_other (λe'=>by subst e';rw[hl]at hk;cases hk;exact ho)
def yS(t:Nat->D)(ps:List Nat)(ds:List D):Nat->D:=(ps.zip ds).foldl (λt p=>upd t p.1 p.2) t
theorem Qy{t:Nat->D}{ds:List D}:yS t [] ds=t:=rfl
theorem Qz{t:Nat->D}{p:Nat}{ps:List Nat}{d:D}{ds:List D}:yS t (p::ps) (d::ds)=yS (upd t p d) ps ds:=rfl
attribute[go_sem]Qy Qz
theorem Qx{w:World}{g:Mem}:∀(ps:List Nat)(ds:List D)(vs:List Value)(t:Nat->D)(tmps:Array Value),aB w g ds vs->(∀p∈ps,p<tmps.size)->(∀i,ag w g (t i) (tmps.getD i undef)) ->
  ((ps.zip vs).foldl (λtmps(p:Nat×Value)=>tmps.setIfInBounds p.1 p.2) tmps).size=tmps.size /\ ∀i,ag w g (yS t ps ds i) (((ps.zip vs).foldl (λtmps(p:Nat×Value)=>tmps.setIfInBounds p.1 p.2) tmps).getD i undef)
 | [],_,_,_,_,_,_,h=>⟨rfl,h⟩
 | p::ps,ds,vs,t,tmps,hr,hp,h=>by
  cases ds with
  | nil=>rw[hr.of_nil];exact⟨rfl,h⟩
  | cons d ds =>
   obtain⟨x,xs,rfl,h1,h2⟩:=hr.of_cons;have:=Qx ps ds xs (upd t p d) (tmps.setIfInBounds p x) h2 (λq hq=>by simpa using hp q (by simp[hq])) (λi=>by
    by_cases e:i=p
    .
     subst e;have hlt:=hp i (by simp)
     rw[bL]
     simpa[hlt]using h1
    rw[aJ _ _ _ _ e];have:(tmps.setIfInBounds p x).getD i undef=tmps.getD i undef:=by simp[Ne.symm e]
    rw[this];exact h i)
   refine⟨by simpa using this.1,this.2⟩
theorem Vw [Glob P]{s s1:S}{id:Nat}{ops:Array Oper}(k:Nat){o:Oper}{f:Operand}{args:Array Operand}{ts:Array TypeId}{l:Nat}{r:Loop}{t:Nat->D}{xs:List D}
  (ho:ops[k]? = some o)(hop:o.op = .call { callee:=.value f,args:=args,argTypes:=ts })(hg:o.guard=none)(hse:s.e=Env.loop l (recAt r none) t)
  (he:aY P (words P) C ops.toList s.nx 0 (ops.toList.take k) { n:=s.n,t:=s.t,h:=s.h,nx:=s.nx+k,ok:=s.ok,e:=s.e }=s1)(hok:s1.ok)(hd:dG s1.n o.dst=true)
  (hf:s1.ev f = .fn (.yield l) [] [])(hxg:(args.toList.map s1.ev).all sg=true)(hx:(args.toList.map s1.ev).map sd=xs)(hps:xs.length=r.params.size)(hpn : ∀p∈r.params.toList,p<r.tmps.size)
  (hbody:DW P (some l) r.assign (thenS (λs2=>s2.e=Env.tt/\DW P (some l) r.body (λe s'=>s'.e=Env.tt /\ ∃b j,(match e with | .normal=>b=true/\j=none | .ret=>b=false/\j=some .ret | .exit i=>b=false/\j=some (.exit i)|_=>False) /\
    ∃s2,aY P (words P) C ops.toList s'.nx (k+1) (ops.toList.drop (k+1)) { n:=s1.n,t:=s1.put o.dst (.v (.bool b)),h:=s'.h,nx:=s'.nx+ops.size,ok:=True,e:=Env.loop l (recAt r j) t }=s2/\s2.ok/\Q .normal s2.clear) s2) (λ_ _=>False))
   { n:=r.tmps.size,t:=yS t r.params.toList xs,h:=s1.h,nx:=s.nx+k }) :
  DW P none (.region id ops false) Q s:=by
 intro B g a w hs hU
 have hlt:k<ops.size:=(Yk.1 ho).1
 have hex : ∀(l:List Oper)(i b:Nat)(u:S),(aY P (words P) C ops.toList b i l u).e=u.e:=by
  intro l
  induction l with
  | nil=>intro i b u;rfl
  | cons x l ih =>
   intro i b u;simp only[aY];rw[ih];unfold dF
   split<;>rfl
 have hnxx : ∀(l:List Oper)(i b:Nat)(u:S),(aY P (words P) C ops.toList b i l u).nx=u.nx:=by
  intro l
  induction l with
  | nil=>intro i b u;rfl
  | cons x l ih=>intro i b u;simp only[aY];rw[ih,BG.2]
 refine wpIn_region ?_
 have hr:List.range ops.size=List.range' 0 k++(k::List.range' (k+1) (ops.size-(k+1))):=by
  rw[Zd];have:ops.size=k+((ops.size-(k+1))+1):=by omega
  conv=>lhs;rw[this]
  rw[<-Zi,Y6]
  simp
 rw[hr]
 have hs0:St P B { n:=s.n,t:=s.t,h:=s.h,nx:=s.nx+k,ok:=s.ok,e:=s.e } g a w:=⟨hs.sz,hs.tm,hs.mem,hs.df,hs.en,hs.bd⟩
 have e0:(ops.toList.drop 0).take k=ops.toList.take k:=rfl
 refine uF (C:=C) (b:=s.nx) k 0 _ g a w hs0 (ax.refl _ _) (λr hr=>by have:=hU r hr;omega) (by omega) (by rw[e0,he];exact hok) λg1 a1 w1 hs1 hm1 eD=>?_
 rw[e0,he]at hs1
 have hs1e:s1.e=Env.loop l (recAt r none) t:=by
  have h6:=hex (ops.toList.take k) 0 s.nx { n:=s.n,t:=s.t,h:=s.h,nx:=s.nx+k,ok:=s.ok,e:=s.e };rw[he]at h6;rw[h6];exact hse
 obtain⟨hl1,hI1,ht1⟩:(Env.loop l (recAt r none) t).p g1 w1:=by rw[<-hs1e];exact hs1.en
 rw[wpOpsIn_cons]
 unfold wpOpIn
 rw[ho]
 simp only
 have hw:Region.wanted o (yielded ops a1.tmps)=true:=by simp[Region.wanted,hg]
 rw[X3 hw]
 have hdef : ∀c,o.op ≠ .defer c:=by intro c e;rw[e]at hop;cases hop
 have jY:o.semAt (Fw none).round a1.eval=execOp a1.eval o:=Oper.semAt_eq _ _ _ hdef
 refine⟨λ_ _=>trivial,?_⟩
 rw[jY]
 have hfr:=bV hs1 f
 rw[hf]at hfr
 have fK:=vX (vO hs1 args.toList) hxg
 rw[hx]at fK
 generalize hv:a1.eval f=vf at hfr
 cases hfr with|fn _ _ _ fs cs l1 l2 r1 r2 =>
 have hfs:fs = #[]:=by apply Zz;simpa using l1.symm
 have hcs:cs = #[]:=by apply Zz;simpa using l2.symm
 subst hfs;subst hcs
 have hsz:(args.map a1.eval).size=(recAt r none).params.size:=by
  have h1:=fK.1
  show(args.map a1.eval).size=r.params.size
  rw[<-hps,h1];simp
 have hrun:(execOp a1.eval o).run P w1 = .ok (.round l r.fn ((r.params.zip (args.map a1.eval)).foldl (λtmps(t,a)=>tmps.setIfInBounds t a) r.tmps) r.assign r.body) w1:=by
  have:=run_yield (P:=P) (w:=w1) (l:=l) (r:=recAt r none) (args:=args.map a1.eval) hl1 hsz;have e1:(execOp a1.eval o).run P w1=(Instr.yield l (args.map a1.eval)).run P w1:=by simp[execOp,hop,resolve,Deferred.ofValue,hv,invoke]
  rw[e1];exact this
 rw[hrun,Oper.uponIn_round]
 refine⟨λh=>by simp[Fw,Fence.wide]at h,?_⟩
 obtain⟨hz1,hz2⟩:=Qx r.params.toList xs _ t r.tmps fK hpn ht1
 have hzip:(r.params.zip (args.map a1.eval)).foldl (λtmps(t,a)=>tmps.setIfInBounds t a) r.tmps=(r.params.toList.zip (args.toList.map a1.eval)).foldl (λtmps(p:Nat×Value)=>tmps.setIfInBounds p.1 p.2) r.tmps:=by
  rw[<-Array.foldl_toList];simp
 rw[hzip]
 generalize (r.params.toList.zip (args.toList.map a1.eval)).foldl (λtmps(p:Nat×Value)=>tmps.setIfInBounds p.1 p.2) r.tmps=tm at hz1 hz2
 have hsb:St P (cK.of 0) { n:=r.tmps.size,t:=yS t r.params.toList xs,h:=s1.h,nx:=s.nx+k } g1 { tmps:=tm,defers:=[] } w1:=⟨hz1,hz2,hs1.mem,kg.start,trivial,Yi _⟩
 refine roundIn_of_wpIn trivial (wpIn_mono (hbody (cK.of 0) g1 _ w1 hsb (λr hr=>by have:=eD r hr;show r<s.nx+k;omega)) ?_)
 rintro e a2 w2 ⟨s2,g2,hq,hs2,hm2,zH,hx2⟩
 cases e with
 | normal =>
  have MI:ax g1 g2 w1 w2:=hm2.out;have hl2:=EG hs1.mem MI hl1 (λc e f=>by simp)
  have hI2 : ¬g2.I l:=λhI=>by
   rcases MI.inew l hI with e|e|⟨r,c,s,e⟩
   . exact hI1 e
   . have:=(Yk.1 hl1).1;omega
   exact xN hs1.mem hl1 (λc e f=>by simp) (λc e=>by simp) r c s e
  refine⟨_,run_beginRound hl2 rfl,?_⟩;have hlt2:l<w2.heap.size:=(Yk.1 hl2).1;obtain⟨he2,hbd⟩:=hq;have hb2:St P (cK.of 0) s2 g2 a2 (w2.putObj l (.loop { recAt r none with state:=.busy })):=by
   refine⟨hs2.sz,λi=>(hs2.tm i).mono (λb hb=>⟨hb,World.putObj_heap_other (λe=>hI2 (by rw[<-e];exact hb))⟩) (λ_ h=>h) (λ_ _=>.inl rfl),hs2.mem.putLoop hl2 hI2 _,hs2.df.laterX hs2.mem (LZ _) hl2,?_,Yi _⟩
   rw[he2];trivial
  refine wpIn_mono (hbd (cK.of 0) g2 a2 _ hb2 zH) ?_;rintro e a3 w3 ⟨s3,g3,⟨_,b,j,hcase,s4,e4,ok4,hQ⟩,hs3,hm3,hU3,_⟩;rw[he2]at hm3;have MH:=hm3.out;have UB:(w2.putObj l (.loop { recAt r none with state:=.busy })).heap[l]? = some (.loop { recAt r none with state:=.busy }):=World.putObj_heap_same hlt2
  have hl3:=EG hb2.mem MH UB (λc e f=>by simp)
  have hI3 : ¬g3.I l:=λhI=>by
   rcases MH.inew l hI with e|e|⟨r,c,s,e⟩
   . exact hI2 e
   . simp at e;omega
   exact xN hb2.mem UB (λc e f=>by simp) (λc e=>by simp) r c s e
  have hlt3:l<w3.heap.size:=(Yk.1 hl3).1;have fin:b=j.isNone -> ∃v w',(Instr.endRound l j).run P w3 = .ok v w'/\(λe w''=>match e with
    | Ending.returned v=>wpOpsIn (Fw none) 0 P ops (λe a' w'=>∃s' g',Q e s'/\St P B s' g' a' w'/\gD s.e.x g g' w w'/\(∀r,g'.U r->r<s'.nx)/\s'.e.x=s.e.x) (List.range' (k+1) (ops.size-(k+1))) (a1.put o.dst v) w''
    | Ending.panicked chain=>∃s' g',Q (.panic chain) s'/\St P B s' g' a1 w''/\gD s.e.x g g' w w''/\(∀r,g'.U r->r<s'.nx)/\s'.e.x=s.e.x
    | Ending.outgrown=>LetsOut (λe a' w'=>∃s' g',Q e s'/\St P B s' g' a' w'/\gD s.e.x g g' w w'/\(∀r,g'.U r->r<s'.nx)/\s'.e.x=s.e.x)) (.returned v) w':=by
   rintro rfl;refine⟨_,_,run_endRound j hl3,?_⟩;have mX:gD (some l) g1 g3 w1 (w3.putObj l (.loop (recAt r j))):=MI.toX.trans ((LZ _).trans (MH.toX.trans (LZ _)));have kept:=hs1.mem.keptX mX hI1;have hbase:St P B { n:=s1.n,t:=s1.t,h:=s3.h,nx:=s3.nx+ops.size,ok:=True,e:=Env.loop l (recAt r j) t } g3 a1 (w3.putObj l (.loop (recAt r j))) :=
    ⟨hs1.sz,λi=>(hs1.tm i).mono kept mX.U mX.M,hs3.mem.putLoop hl3 hI3 _,hs1.df.laterX hs1.mem mX hl1,⟨World.putObj_heap_same hlt3,hI3,λi=>(ht1 i).mono kept mX.U mX.M⟩,Yh hs1.bd mX.size⟩
   have hput:=mo hbase (ax.refl _ _) hbase.mem hd (.v (.bool j.isNone)) True;have e3:(ops.toList.drop (k+1)).take (ops.size-(k+1))=ops.toList.drop (k+1):=Ym (by simp)
   have:=uF (ro:=none) (P:=P) (C:=C) (B:=B) (ops:=ops) (b:=s3.nx) (n:=0) (rest:=[]) (g0:=g3) (w0:=w3.putObj l (.loop (recAt r j))) (Q:=λe a' w'=>∃s' g',Q e s'/\St P B s' g' a' w'/\gD s.e.x g g' w w'/\(∀r,g'.U r->r<s'.nx)/\s'.e.x=s.e.x) (ops.size-(k+1)) (k+1) _ g3 _ _ hput (ax.refl _ _) (λr hr=>by have:=hU3 r hr;omega) om
    (by rw[e3];exact e4▸ok4) λg'' a'' w'' p1 p2 p3=>by
     rw[e3]at p1;have p1:St P B s4 g'' a'' w'':=e4▸p1;have hx:s.e.x=some l:=by rw[hse];rfl
     refine⟨_,g'',hQ,p1.clear,?_,λr' hr'=>?_,?_⟩
     . rw[hx];exact hm1.toX.trans (mX.trans p2.toX)
     .
      have h3:=p3 r' hr';have h4:=hnxx (ops.toList.drop (k+1)) (k+1) s3.nx { n:=s1.n,t:=s1.put o.dst (.v (.bool j.isNone)),h:=s3.h,nx:=s3.nx+ops.size,ok:=True,e:=Env.loop l (recAt r j) t };rw[e4]at h4
      show r'<s4.nx
      rw[h4]
      show r'<s3.nx+ops.size
      omega
     have h5:=hex (ops.toList.drop (k+1)) (k+1) s3.nx { n:=s1.n,t:=s1.put o.dst (.v (.bool j.isNone)),h:=s3.h,nx:=s3.nx+ops.size,ok:=True,e:=Env.loop l (recAt r j) t };rw[e4]at h5
     show s4.e.x=s.e.x
     rw[h5,hx];rfl
   rw[Yx]at this;exact this
  cases e with
  | normal=>obtain⟨rfl,rfl⟩:=hcase;exact fin rfl
  | ret=>obtain⟨rfl,rfl⟩:=hcase;exact fin rfl
  | exit i=>obtain⟨rfl,rfl⟩:=hcase;exact fin rfl
  | _=>exact hcase.elim
 | _=>exact hq.elim
def HM.lay [Glob P]{h:H}{g:Mem}{w:World}(hm:HM P h g w)(o:Obj):HM P h g (w.alloc o)/\ax g g w (w.alloc o):=by
 have mono:ax g g w (w.alloc o) :=
  ⟨rfl,rfl,rfl,by simp,XW _,λ_ h=>h,λ_ _=>.inl rfl,λr b c s h=>.inl ⟨r,c,s,h⟩,λ_ h=>h,λb h=>.inl h,λb hb _=>Below.heap_alloc w o b hb⟩
 refine⟨⟨hm.dead,λr bl hr=>?_,hm.inj,hm.used,λb hb=>YB (hm.imm b hb) (by simp),hm.gr.later (hm.kept mono)⟩,mono⟩
 obtain⟨blk,c,h1,h2,h3,h4,h5⟩:=hm.blk r bl hr
 refine⟨blk,c,h1,h2,h3,h4,?_⟩
 rcases h5 with h5|⟨b,cur,rfl,h6,h7,h8,h9⟩
 . exact .inl h5
 have hlt:=(pK hm h1).1
 refine .inr ⟨b,cur,rfl,by rw[Below.heap_alloc w o b hlt];exact h6,h7,h8,λi row hi=>⟨(h9 i row hi).1,λj d hd=>?_⟩⟩
 obtain⟨u,k3,k4,k5⟩:=(h9 i row hi).2 j d hd
 exact⟨u,k3,k4,k5.later hm mono⟩
theorem Vz [Glob P]{s:S}{gf:Operand}{ps:Array Tmp}{assign body:Code}{f:FuncId}{fn:Func}{c:Code}{first aD:List D}(he:s.e=Env.tt)(hev:s.ev gf = .fn (.func f) first aD)(hf:P.funcs[f]? = some fn)(hb:fn.body=some c)(hbd:d9 P f=true)
  (hn:(first++[D.fn (.yield 0) [] []]++aD).length<=fn.ntmps)(hres:fn.results = #[])
  (walk : ∀l r,r.params=ps->r.assign=assign->r.body=body->r.tmps.size=s.n->DW P none c (λe s'=>(e = .normal\/e = .ret) /\ ∃j,s'.e=Env.loop l (recAt r j) s.t /\
    (match j with|none=>Q .normal { n:=s.n,t:=s.t,h:=s'.h,nx:=s'.nx }|some .ret=>Q .ret { n:=s.n,t:=s.t,h:=s'.h,nx:=s'.nx }|some (.exit i)=>Q (.exit i) { n:=s.n,t:=s.t,h:=s'.h,nx:=s'.nx }|_=>False))
   { n:=fn.ntmps,t:=λi=>(first++[D.fn (.yield l) [] []]++aD).getD i .junk,h:=s.h,nx:=s.nx,e:=Env.loop l (recAt r none) s.t }):DW P none (.rangeFunc gf ps assign body) Q s:=by
 intro B g a w hs hU
 refine wpIn_rangeFunc λfn' _=>?_
 let Dk:=w.heap.size
 let l:=w.heap.size+1
 let r:Loop:={ state:=.ready,pending:=none,fn:=fn',tmps:=a.tmps,params:=ps,assign:=assign,body:=body,defers:=w.heap.size }
 let w1:=(w.alloc (.deferred (some []))).alloc (.loop r)
 have hfr:=bV hs gf
 rw[hev]at hfr
 generalize hv:a.eval gf=vf at hfr
 cases hfr with|fn _ _ _ fs cs l1 l2 r1 r2 =>
 obtain⟨q1,q2⟩:=hs.mem.lay (.deferred (some []))
 obtain⟨q3,q4⟩:=q1.lay (.loop r)
 have rF:ax g g w w1:=q2.trans q4
 have hl1:w1.heap[l]? = some (.loop r):=by
  have:=World.alloc_heap_new (w.alloc (.deferred (some []))) (.loop r)
  simpa[l,w1]using this
 have hD1:w1.heap[Dk]? = some (.deferred (some [])):=by
  have h1:=World.alloc_heap_new w (.deferred (some []));have h2:=Below.heap_alloc (w.alloc (.deferred (some []))) (.loop r) Dk (by simp[Dk])
  exact h2.trans h1
 have hsz1:w1.heap.size=w.heap.size+2:=by simp[w1]
 have hIl : ¬g.I l:=λh=>by have:=hs.mem.imm l h;simp[l]at this;omega
 have hID : ¬g.I Dk:=λh=>by have:=hs.mem.imm Dk h;simp[Dk]at this
 refine⟨l,_,w1,⟨.fn (.func f) cs,fs ++ #[.func (.yield l) #[] #[]]⟩,w1,f,fs ++ #[.func (.yield l) #[] #[]]++cs,w1,run_enterLoop_outer _ _ _ _ _,?_,λ_ _=>trivial,?_,λh=>by simp[Fw,Fence.wide]at h,?_⟩
 .
  have:a.eval (.const (Value.func (.yield l) #[] #[]))=Value.func (.yield l) #[] #[]:=rfl
  simp[resolve,Deferred.ofValue,hv,this]
 . simp[invoke,vR hbd]
 have hargs:aB w1 g (first++[D.fn (.yield l) [] []]++aD) (fs.toList++[Value.func (.yield l) #[] #[]]++cs.toList):=by
  refine aB.append (aB.append ⟨by simpa using l1,λi d x h1 h2=>(r1 i d x h1 (by simpa using h2)).later hs.mem rF⟩ (.cons (x:=Value.func (.yield l) #[] #[]) (.fn (.yield l) [] [] #[] #[] rfl rfl (λ_ _ _ h=>by simp at h) (λ_ _ _ h=>by simp at h)) .nil)) ⟨by simpa using l2,λi d x h1 h2=>(r2 i d x h1 (by simpa using h2)).later hs.mem rF⟩
 have e:fs ++ #[.func (.yield l) #[] #[]]++cs=(fs.toList++[Value.func (.yield l) #[] #[]]++cs.toList).toArray:=by apply Zo;simp
 rw[e]
 have hn':(first++[D.fn (.yield l) [] []]++aD).length<=fn.ntmps:=by simpa using hn
 have hinit:=zC (P:=P) (n:=fn.ntmps) hargs hn' q3 (nx:=s.nx)
 have hst:St P (cK.of w1.heap.size) { n:=fn.ntmps,t:=λi=>(first++[D.fn (.yield l) [] []]++aD).getD i .junk,h:=s.h,nx:=s.nx,e:=Env.loop l (recAt r none) s.t } g _ w1 :=
  ⟨hinit.sz,hinit.tm,hinit.mem,hinit.df,⟨hl1,hIl,λi=>(hs.tm i).later hs.mem rF⟩,hinit.bd⟩
 refine yD (callsIn_of_wp_marks (n:=0) hf hb trivial (wpIn_mono (F:=Fence.wide) (walk l r rfl rfl rfl hs.sz (cK.of w1.heap.size) g _ w1 hst hU) ?_))
 rintro e a' w' ⟨s',g',⟨hne,j,hse,hq⟩,hs',hm',iV,_⟩
 have hm':gD (some l) g g' w1 w':=hm'
 obtain⟨hl',hIl',_⟩:(Env.loop l (recAt r j) s.t).p g' w':=by rw[<-hse];exact hs'.en
 have hlast:LeavesInM Fence.wide 0 P fn a'.tmps (rangePost (Fw none) 0 P l (λe a' w'=>∃s' g',Q e s'/\St P B s' g' a' w'/\gD s.e.x g g' w w'/\(∀r,g'.U r->r<s'.nx)/\s'.e.x=s.e.x) { a with defers:=[{ target:=.collected w.heap.size,args:=#[] }]++a.defers }) a'.defers .returning w':=by
  refine IL (P:=P) a'.defers w' hs'.df.marks λw2 e0 e1 e2 e3 e4 e5 e6 e7=>?_
  refine⟨.tuple #[],by simp[results,hres],?_⟩
  have hll:l<w1.heap.size:=by rw[hsz1];simp[l]
  have hl2:w2.heap[l]? = some (.loop (recAt r j)):=by rw[e5 l hll];exact hl'
  have hl2lt:l<w2.heap.size:=(Yk.1 hl2).1;refine⟨_,_,run_endLoop hl2 (by cases j<;>simp[recAt]),?_⟩
  have same4 : ∀b,b≠l->b<w1.heap.size->(w2.putObj l (.loop { recAt r j with state:=.exhausted })).heap[b]? = w'.heap[b]? := λb h1 h2=>by
   rw[World.putObj_heap_other h1,e5 b h2]
  have kept : ∀b,g.I b->g'.I b/\(w2.putObj l (.loop { recAt r j with state:=.exhausted })).heap[b]? = w.heap[b]? := λb hb=>by
   obtain⟨k1,k2⟩:=q3.keptX hm' hIl b hb;refine⟨k1,?_⟩;rw[same4 b (λe=>hIl (e▸hb)) (q3.imm b hb),k2]
   exact(hs.mem.kept rF b hb).2
  have hIDk' : ¬g'.I Dk:=λhI=>by
   rcases hm'.inew Dk hI with e|e|⟨r,c,s,e⟩
   . exact hID e
   . rw[hsz1]at e;simp[Dk]at e;omega
   exact xN q3 hD1 (λc e f=>by simp) (λc e=>by simp) r c s e
  have marks : ∀ds:List Deferred,Marks B.n g ds w->(∀d∈ds,d.target ≠ .collected Dk)/\Marks B.n g' ds (w2.putObj l (.loop { recAt r j with state:=.exhausted })):=by
   intro ds
   induction ds with
   | nil=>intro _;exact⟨λ_ h=>by simp at h,trivial⟩
   | cons d ds ih =>
    rintro⟨⟨Dd,h1,h2,h3,h4,h5⟩,h6⟩;obtain⟨i1,i2⟩:=ih h6;have hlt:Dd<w.heap.size:=(Yk.1 h2).1;have hne:Dd≠l:=by simp[l];omega
    have h21:w1.heap[Dd]? = some (.deferred (some [])):=EG hs.mem rF h2 (λc e f=>by simp)
    refine⟨λd' hd'=>?_,⟨Dd,h1,?_,h3,h4,λhI=>?_⟩,i2⟩
    .
     rcases Yl.1 hd' with rfl|h
     . rw[h1];intro e;cases e;simp[Dk]at hlt
     exact i1 d' h
    .
     rw[same4 Dd hne (by rw[hsz1];omega)]
     exact LQ q3 hm' h21 (λc e f=>by simp) (Ne.symm hne)
    rcases hm'.inew Dd hI with e|e|⟨r,c,s,e⟩
    . exact h5 e
    . rw[hsz1]at e;omega
    exact xN q3 h21 (λc e f=>by simp) (λc e=>by simp) r c s e
  obtain⟨ms,hms,hmk⟩:=hs.df;obtain⟨mk1,mk2⟩:=marks ms hmk;have fin:St P B { n:=s.n,t:=s.t,h:=s'.h,nx:=s'.nx } g' { a with defers:=[{ target:=.collected w.heap.size,args:=#[] }]++a.defers } (w2.putObj l (.loop { recAt r j with state:=.exhausted })):=by
   refine⟨hs.sz,λi=>(hs.tm i).mono kept hm'.U hm'.M,(hs'.mem.marks e4 e6 e7).putLoop hl2 hIl' _,⟨{ target:=.collected w.heap.size,args:=#[] }::ms,by rw[hms];rfl,⟨Dk,rfl,?_,mk1,hs.bd,hIDk'⟩,mk2⟩,trivial,?_⟩
   .
    rw[same4 Dk (by simp[Dk,l]) (by rw[hsz1];simp[Dk])]
    exact LQ q3 hm' hD1 (λc e f=>by simp) (by simp[Dk,l])
   simp only[World.putObj_size];rw[e4];exact Yh hs.bd (Yh rF.size hm'.size)
  have L6:gD s.e.x g g' w (w2.putObj l (.loop { recAt r j with state:=.exhausted })):=by
   refine⟨by show w2.os=_;rw[e1,hm'.os,rF.os],by show w2.tape=_;rw[e2,hm'.tape,rF.tape],by show w2.output=_;rw[e3,hm'.output,rF.output],by simp only[World.putObj_size];rw[e4];exact Yh rF.size hm'.size,by show w.drawn<=w2.drawn;rw[e0];exact Yh rF.drawn hm'.drawn,hm'.U,hm'.M,λr b c s h=>?_,hm'.I,λb h=>?_,λb h1 h2 _=>?_⟩
   .
    rcases hm'.new r b c s h with h|h
    . exact .inl h
    exact .inr (Yh rF.size h)
   .
    rcases hm'.inew b h with h|h|h
    . exact .inl h
    . exact .inr (.inl (Yh rF.size h))
    exact .inr (.inr h)
   have hne:b≠l:=by simp[l];omega
   rw[same4 b hne (by rw[hsz1];omega),hm'.same b (by rw[hsz1];omega) h2 (λe=>hne (by cases e;rfl))]
   exact rF.same b h1 h2
  have hx:({ n:=s.n,t:=s.t,h:=s'.h,nx:=s'.nx }:S).e.x=s.e.x:=by rw[he]
  match j,hq with
  | none,hq=>exact⟨_,g',hq,fin,L6,iV,hx⟩
  | some .ret,hq=>exact wpIn_ret ⟨_,g',hq,fin,L6,iV,hx⟩
  | some (.exit i),hq=>exact wpIn_exit ⟨_,g',hq,fin,L6,iV,hx⟩
 rcases hne with rfl|rfl<;>exact hlast
end Go.DL
namespace Go.Str
open Go.DL
abbrev Str:=List UInt8
def bs(l:Str):ByteArray:=⟨l.toArray⟩
@[go_sem]theorem bs_mk(l:Str):(ByteArray.mk l.toArray)=bs l:=rfl
@[go_sem]theorem tN(l:Str):(bs l).data.toList=l:=by simp[bs]
@[go_sem]theorem bs_size(l:Str):(bs l).size=l.length:=by simp[bs,ByteArray.size]
def Ol{a b:ByteArray}(h:a.data.toList=b.data.toList):a=b:=by
 cases a;cases b;congr 1;exact Zo h
@[go_sem]theorem Zmq(l:Str)(i j:Nat):(bs l).extract i j=bs ((l.take j).drop i):=by
 apply Ol
 rw[ByteArray.data_extract]
 simp[bs,List.drop_take]
@[go_sem]theorem Zmr(a b:Str):bs a++bs b=bs (a++b):=by
 apply Ol
 rw[ByteArray.data_append]
 simp[bs]
theorem bs_of(a:ByteArray):a=bs a.data.toList:=by apply Ol;simp[bs]
def bD(b:UInt8):List D:=[.v (.int .u8 b.toNat)]
def sR(s:Str):List D:=[.v (.string (bs s))]
def aF:D->Str
 | .v (.string s)=>s.data.toList
 | _=>[]
def bE:D->Int
 | .v (.int _ n)=>n
 | _=>0
def yE:D->Bool
 | .v (.bool b)=>b
 | _=>false
def LJ:List D->Str
 | [d]=>aF d
 | _=>[]
def PE:D->List Str
 | .list _ rows=>rows.map LJ
 | _=>[]
def gL:D->Str
 | .list _ rows=>rows.map Go.DL.byteOf
 | _=>[]
def str1_v{s:ByteArray}:aF (.v (.string s))=s.data.toList:=rfl
def int1_v{k:IntKind}{n:Int}:bE (.v (.int k n))=n:=rfl
def bool1_v{b:Bool}:yE (.v (.bool b))=b:=rfl
attribute[go_sem]str1_v int1_v bool1_v
theorem kR{α β:Type}{f:α->β}{g:β->α}(h : ∀x,g (f x)=x)(l:List α):(l.map f).map g=l:=by
 rw[List.map_map]
 exact(Zc λx _=>h x).trans (List.map_id l)
@[go_sem]theorem Zkv{f:Bool}{l:List Str}:PE (.list f (l.map sR))=l:=kR (f:=sR) (g:=LJ) (λx=>tN x) l
@[go_sem]theorem ZjE{f:Bool}{l:Str}:gL (.list f (l.map bD))=l:=kR (f:=bD) (g:=Go.DL.byteOf) (λx=>by simp[Go.DL.byteOf,bD]) l
@[go_sem]theorem Zmp{f:Bool}:gL (.list f [])=[]:=rfl
attribute [go_sem] sR bD
def nK{l:List Str}{n:Nat}(h:n<l.length):(l.map sR).getD n []=[.v (.string (bs l[n]!))]:=by
 simp[List.getD,h,getElem!_pos,sR]
@[go_sem]theorem wkr_sR{l:List Str}:eB (l.map sR)=l.map sR:=by
 induction l with
 | nil=>rfl
 | cons x l ih=>simp only[X8,eB,ih];rfl
@[go_sem]theorem nrr_sR{l:List Str}:bu (l.map sR)=true:=by
 induction l with
 | nil=>rfl
 | cons x l ih=>simp only[X8,bu,ih];rfl
@[go_sem]theorem wkr_bD{l:Str}:eB (l.map bD)=l.map bD:=by
 induction l with
 | nil=>rfl
 | cons x l ih=>simp only[X8,eB,ih];rfl
@[go_sem]theorem nrr_bD{l:Str}:bu (l.map bD)=true:=by
 induction l with
 | nil=>rfl
 | cons x l ih=>simp only[X8,bu,ih];rfl
def aA(n:Nat)(p:Nat->Bool)(k:Nat):Bool:=if k<n then p k&&aA n p (k+1)else true
termination_by n-k
theorem iF(n:Nat)(p:Nat->Bool)(k:Nat):aA n p k=if k<n then p k&&aA n p (k+1)else true:=by rw[aA]
theorem eu(n:Nat)(p:Nat->Bool)(k:Nat):aA n p k=true↔∀i,k<=i->i<n->p i=true:=by
 rw[iF]
 split
 .
  rename_i h
  rw[XU,eu n p (k+1)];refine⟨λ⟨h1,h2⟩i hi hn=>?_,λh1=>⟨h1 k (XW _) h,λi hi hn=>h1 i om hn⟩⟩
  by_cases e:i=k
  . subst e;exact h1
  exact h2 i om hn
 rename_i h
 exact⟨λ_ i hi hn=>by omega,λ_=>rfl⟩
termination_by n-k
def rX(c:UInt8):Bool:=(decide (97<=c.toNat)&&decide (c.toNat<=122))||(decide (48<=c.toNat)&&decide (c.toNat<=57))
def qf(l:Str)(i:Nat):Bool:=rX (l.getD i 0)||(decide ((l.getD i 0).toNat=45)&&decide (0<i)&&decide (i+1<l.length))
def iC(l:Str):Bool:=aA l.length (qf l) 0&&decide (1<=l.length)&&decide (l.length<=12)
def xM(l:Str)(i:Nat):Bool:=rX (l.getD i 0)||decide ((l.getD i 0).toNat=45)
theorem ZfZ(l:Str):iC l=if l.length<1 then false else if 12<l.length then false else if(l.getD 0 0).toNat=45 then false else if(l.getD (l.length-1) 0).toNat=45 then false else aA l.length (xM l) 0:=by
 by_cases h1:l.length<1
 . rw[X3 h1];unfold iC;rw[Y7 (by omega : ¬1<=l.length)];simp
 rw[XV h1]
 by_cases h2:12<l.length
 . rw[X3 h2];unfold iC;rw[Y7 (by omega : ¬l.length<=12)];simp
 rw[XV h2]
 have e:iC l=aA l.length (qf l) 0:=by
  unfold iC;rw[YG (by omega:1<=l.length),YG (by omega:l.length<=12)];simp
 rw[e]
 have not45 : ∀c:UInt8,c.toNat=45->rX c=false:=by
  intro c hc;simp[rX,hc]
 by_cases h3:(l.getD 0 0).toNat=45
 .
  rw[X3 h3]
  cases h:aA l.length (qf l) 0 with
  | false=>rfl
  | true =>
   have:=(eu _ _ _).1 h 0 (XW _) om;simp only[qf,not45 _ h3,Nat.lt_irrefl,decide_false,Bool.and_false,Bool.false_and,ZR]at this;exact this.symm
 rw[XV h3]
 by_cases h4:(l.getD (l.length-1) 0).toNat=45
 .
  rw[X3 h4]
  cases h:aA l.length (qf l) 0 with
  | false=>rfl
  | true =>
   have:=(eu _ _ _).1 h (l.length-1) (Yi _) om;simp only[qf,not45 _ h4,Bool.false_or,XU,XX]at this;omega
 rw[XV h4,YK,eu,eu]
 refine⟨λh i hi hn=>?_,λh i hi hn=>?_⟩
 . have:=h i hi hn;simp only[qf,xM,Yc,XU,XX]at this ⊢;exact this.imp id λh=>h.1.1
 have:=h i hi hn
 simp only[qf,xM,Yc,XU,XX]at this ⊢
 rcases this with h5|h5
 . exact .inl h5
 refine .inr ⟨⟨h5,?_⟩,?_⟩
 .
  rcases Nat.eq_zero_or_pos i with e|e
  . subst e;exact absurd h5 h3
  exact e
 rcases YE (i+1) l.length with e|e
 . exact e
 have:i=l.length-1:=by omega
 subst this;exact absurd h5 h4
def split(l:Str):List Str:=match l with
 | []=>[[]]
 | c::r=>if c=46 then[]::split r else match split r with
  | []=>[[c]]
  | p::ps=>(c::p)::ps
def nY(out:List Str)(c:UInt8):List Str:=if c=46 then out++[[]]else out.set (out.length-1) (out[out.length-1]! ++ [c])
def ZbT{out:List Str}{c:UInt8}(h:(c.toNat:Int)=46):nY out c=out++[[]]:=by
 have:c=46:=by apply ZV.1;simpa using Int.ofNat.inj h
 unfold nY;rw[X3 this]
def ZbV{out:List Str}{c:UInt8}(h : ¬(c.toNat:Int)=46):nY out c=out.set (out.length-1) (out[out.length-1]! ++ [c]):=by
 unfold nY;rw[XV];intro e;subst e;exact h rfl
def ZeE{l:Str}{k:Nat}(h:k<l.length):(l.take (k+1)).drop k=[l.getD k 0]:=by
 rw[Zj,List.drop_append_of_le_length (by simp;omega),Y3 (by simp;omega)]
 simp[List.getD,h]
def wu(l:Str)(k:Nat)(out:List Str):List Str:=if k<l.length then wu l (k+1) (nY out (l.getD k 0))else out
termination_by l.length-k
theorem Ef(l:Str)(k:Nat)(out:List Str):wu l k out=if k<l.length then wu l (k+1) (nY out (l.getD k 0))else out:=by rw[wu]
def jD(l:Str):List Str:=wu l 0 [[]]
def mG(l:Str)(c:Int):Nat->Int
 | 0=>-1
 | k+1=>if((l.getD k 0).toNat:Int)=c then k else mG l c k
theorem TK{l:Str}{c:Int}{k:Nat}(h:0<k):mG l c k=if((l.getD (k-1) 0).toNat:Int)=c then((k-1:Nat):Int)else mG l c (k-1):=by
 obtain⟨j,rfl⟩:∃j,k=j+1:=⟨k-1,om⟩
 rw[mG];rfl
def fT(l:Str)(c:Int):Int:=mG l c l.length
theorem Ml(l:Str)(c:Int):∀k,mG l c k<k /\ -1<=mG l c k
 | 0=>by simp[mG]
 | k+1=>by
  have:=Ml l c k;unfold mG
  split<;>omega
def IM(l:Str)(c:Int):fT l c<l.length /\ -1<=fT l c:=Ml l c l.length
def ZbU{out:List Str}{c:UInt8}{k:Nat}(h : ∀x∈out,x.length<=k):(∀x∈nY out c,x.length<=k+1)/\(nY out c).length<=out.length+1:=by
 unfold nY
 split
 .
  refine⟨λx hx=>?_,by simp⟩
  rcases Yv.1 hx with hx|hx
  . exact Nat.le_succ_of_le (h x hx)
  simp at hx;subst hx;exact Yi _
 refine⟨λx hx=>?_,by simp⟩
 rcases List.mem_or_eq_of_mem_set hx with hx|hx
 . exact Nat.le_succ_of_le (h x hx)
 subst hx
 rw[X0]
 refine Nat.succ_le_succ ?_
 by_cases ho:out.length-1<out.length
 . exact h _ (by rw[getElem!_pos out _ ho];exact YH _)
 rw[getElem!_neg out _ ho];exact Yi _
theorem PU(l:Str)(k:Nat)(out:List Str)(hk:k<=l.length)(h : ∀x∈out,x.length<=k):(∀x∈wu l k out,x.length<=l.length)/\(wu l k out).length<=out.length+(l.length-k):=by
 rw[Ef]
 split
 .
  rename_i hlt
  obtain⟨h1,h2⟩:=ZbU (c:=l.getD k 0) h;obtain⟨h3,h4⟩:=PU l (k+1) _ om h1;exact⟨h3,om⟩
 exact⟨λx hx=>Yh (h x hx) hk,om⟩
termination_by l.length-k
def GV(l:Str):(∀x∈jD l,x.length<=l.length)/\(jD l).length<=l.length+1:=by
 obtain⟨h1,h2⟩:=PU l 0 [[]] (Yi _) (by simp)
 exact⟨h1,by unfold jD;simp only[YS,Zq]at h2;omega⟩
def ZbW(l:Str)(i:Nat):(jD l)[i]!.length<=l.length:=by
 by_cases h:i<(jD l).length
 . exact(GV l).1 _ (by rw[getElem!_pos (jD l) i h];exact YH _)
 rw[getElem!_neg (jD l) i h];exact Yi _
def pW(l:Str):List Str:=l.drop (fT l 46+1).toNat::(if _h:fT l 46<0 then[]else pW (l.take (fT l 46).toNat))
termination_by l.length
decreasing_by
 have:=Ml l 46 l.length
 unfold fT at *
 simp
 omega
theorem sO(l:Str):pW l=l.drop (fT l 46+1).toNat::(if fT l 46<0 then[]else pW (l.take (fT l 46).toNat)):=by
 rw[pW];split<;>rfl
def uk(ps:List Str)(i:Nat):Bool:=iC ps[i]! || (decide (i=0)&&ps[i]! == [42])
def az(l:Str):Bool:=if l=[46]then true else if 60<l.length then false else aA (jD l).length (uk (jD l)) 0&&decide ((jD l).length<=8)
def bC(l:Str):List Str:=if l=[46]then[]else jD l
def qU:List Str->Nat->Bool->Bool
 | [],_,_=>true
 | x::r,n,wild=>if wild||decide (8<n+1)then false else if !(x==[42]) && !iC x then false else qU r (n+1) (x==[42])
theorem wo(l:Str):split l≠[]:=by
 cases l with
 | nil=>simp[split]
 | cons c r =>
  unfold split
  split
  . simp
  split<;>simp
theorem KN{x:Str}{xs:List Str}(c:UInt8)(h:xs≠[]):nY (x::xs) c=x::nY xs c:=by
 unfold nY
 split
 . rfl
 have hl:0<xs.length:=Zt.2 h
 obtain⟨n,hn⟩:∃n,xs.length=n+1:=⟨xs.length-1,om⟩
 simp[hn]
theorem PR(c:UInt8):∀p:Str,split (p++[c])=nY (split p) c
 | []=>by
  by_cases h:c=46
  . subst h;rfl
  simp[split,nY,h]
 | a::p=>by
  have ih:=PR c p
  show split (a::(p++[c]))=_
  rw[split,split.eq_2 a p]
  by_cases h:a=46
  . rw[X3 h,X3 h,ih,KN c (wo p)]
  rw[XV h,XV h,ih]
  cases hq:split p with
  | nil=>exact absurd hq (wo p)
  | cons q qs =>
   by_cases hc:c=46
   . simp[nY,hc]
   cases qs with
   | nil=>simp[nY,hc]
   | cons r rs =>
    rw[KN (x:=q) (xs:=r::rs) c (by simp),KN (x:=a::q) (xs:=r::rs) c (by simp)]
theorem PT(l:Str)(k:Nat)(hk:k<=l.length):wu l k (split (l.take k))=split l:=by
 rw[Ef]
 split
 .
  rename_i h
  rw[<-PR,<-PT l (k+1) (by omega)]
  congr 2
  rw[Zj]
  simp[List.getD,h]
 rw[Ym (by omega)]
termination_by l.length-k
theorem Eg(l:Str):jD l=split l:=PT l 0 (Yi _)
theorem KL : ∀l:Str,(∀x∈l,x≠46)->split l=[l]
 | [],_=>rfl
 | c::r,h=>by
  rw[split,XV (h c (by simp)),KL r (λx hx=>h x (by simp[hx]))]
theorem KM(b:Str):∀a:Str,split (a++46::b)=split a++split b
 | []=>by rfl
 | x::a=>by
  show split (x::(a++46::b))=_
  rw[split,split.eq_2 x a,KM b a]
  by_cases h:x=46
  . rw[X3 h,X3 h];rfl
  rw[XV h,XV h]
  cases hq:split a with
  | nil=>exact absurd hq (wo a)
  | cons q qs=>rfl
theorem TL(l:Str)(c:Int):∀k,(mG l c k<0 -> ∀j,j<k -> ¬((l.getD j 0).toNat:Int)=c)/\(0<=mG l c k->((l.getD (mG l c k).toNat 0).toNat:Int)=c /\ ∀j,(mG l c k).toNat<j->j<k -> ¬((l.getD j 0).toNat:Int)=c)
 | 0=>by simp[mG]
 | k+1=>by
  obtain⟨h1,h2⟩:=TL l c k;unfold mG
  by_cases h:((l.getD k 0).toNat:Int)=c
  . rw[X3 h];exact⟨λh3=>by omega,λ_=>⟨by simpa using h,λj h4 h5=>by simp at h4;omega⟩⟩
  rw[XV h];refine⟨λh3 j hj=>?_,λh3=>⟨(h2 h3).1,λj h4 h5=>?_⟩⟩
  .
   by_cases e:j=k
   . subst e;exact h
   exact h1 h3 j om
  by_cases e:j=k
  . subst e;exact h
  exact(h2 h3).2 j h4 om
def Sy{l:Str}{n:Nat}(h : ∀j,n<=j->j<l.length -> ¬((l.getD j 0).toNat:Int)=46):∀x∈l.drop n,x≠46:=by
 intro x hx e
 subst e
 obtain⟨i,hi,he⟩:=Zg hx
 rw[List.getElem_drop]at he
 have hi':n+i<l.length:=by simp at hi;omega
 refine h (n+i) om hi' ?_
 have:l.getD (n+i) 0=46:=by simp only[List.getD,Yg hi',YQ];exact he
 rw[this];rfl
theorem yX(l:Str):pW l=(split l).reverse:=by
 rw[sO]
 obtain⟨h1,h2⟩:=TL l 46 l.length
 obtain⟨h3,h4⟩:=IM l 46
 by_cases h:fT l 46<0
 .
  rw[X3 h];have e:(fT l 46+1).toNat=0:=by omega
  have hs:=KL l (λx hx=>by have:=Sy (l:=l) (n:=0) (λj _ hj=>h1 h j hj) x;exact this (by simpa using hx))
  rw[e,hs];rfl
 rw[XV h]
 obtain⟨h5,h6⟩:=h2 (by unfold fT at h;omega)
 generalize hi:(fT l 46).toNat=i at *
 have hi':(mG l 46 l.length).toNat=i:=hi
 have e:(fT l 46+1).toNat=i+1:=by omega
 have hlt:i<l.length:=by omega
 rw[hi']at h5 h6
 have hl:l=l.take i++46::l.drop (i+1):=by
  have hc:l[i]=46:=by
   have:l.getD i 0=l[i]:=by simp[List.getD,hlt]
   rw[this]at h5
   apply ZV.1;simpa using Int.ofNat.inj h5
  conv=>lhs;rw[<-Za i l]
  rw[YC hlt,hc]
 have hs:=KL (l.drop (i+1)) (Sy λj hj hn=>h6 j (by omega) hn)
 have ih:=yX (l.take i)
 rw[e,ih]
 conv=>rhs;rw[hl]
 rw[KM,hs]
 simp
termination_by l.length
decreasing_by
 simp;omega
theorem OZ{x:Str}{r:List Str}{n:Nat}{w:Bool}(h:(w||decide (8<(n:Int)+1))=true):qU (x::r) n w=false:=by
 unfold qU
 rw[X3]
 rw[<-h,ZO.2 (by omega:8<n+1↔8<(n:Int)+1)]
def Zjn{n:Nat}{w:Bool}(h:(w||decide (8<(n:Int)+1))=false):n+1<=8:=by
 rw[Yd,X4]at h
 omega
theorem OY{x:Str}{r:List Str}{n:Nat}{w:Bool}(h:(w||decide (8<(n:Int)+1))=false)(k:(!(x==[42]) && !iC x)=true):qU (x::r) n w=false:=by
 unfold qU
 rw[XV,X3 k]
 rw[ZO.2 (by omega:8<n+1↔8<(n:Int)+1),h]
 simp
theorem OX{x:Str}{r:List Str}{n:Nat}{w:Bool}(h:(w||decide (8<(n:Int)+1))=false)(k:(!(x==[42]) && !iC x)=false):qU (x::r) n w=qU r (n+1) (x==[42]):=by
 conv=>lhs;unfold qU
 rw[XV,XV]
 . rw[k];simp
 rw[ZO.2 (by omega:8<n+1↔8<(n:Int)+1),h]
 simp
theorem ZbL:iC [42]=false:=by
 unfold iC
 rw[iF]
 rfl
theorem OW(h:Str):∀(ys:List Str)(n:Nat)(w:Bool),qU (ys++[h]) n w=(!w&&ys.all iC&&(iC h||h==[42])&&decide (n+ys.length+1<=8))
 | [],n,w=>by
  simp only[XZ,qU,List.all_nil,Zq,Zv]
  cases w<;>cases h1:iC h<;>cases h2:(h==[42])<;>by_cases h3:n+1<=8<;>simp[h3,show ¬8<n+1↔n+1<=8 by omega]<;>omega
 | y::ys,n,w=>by
  have ih:=OW h ys (n+1) (y==[42]);simp only[XY,qU,List.all_cons,YS];rw[ih];have e:n+1+ys.length+1=n+(ys.length+1)+1:=by omega
  rw[e]
  by_cases hs:y=[42]
  .
   subst hs;rw[ZbL]
   cases w<;>simp
  have hs':(y==[42])=false:=by simpa using hs
  rw[hs']
  by_cases h3:8<n+1
  .
   have h4 : ¬n+(ys.length+1)+1<=8:=by omega
   simp[h3,h4]
  cases w<;>cases iC y<;>simp[h3]
theorem Zkf(h:Str)(t:List Str):aA (h::t).length (uk (h::t)) 0=(t.all iC&&(iC h||h==[42])):=by
 rw[YK,eu]
 simp only[uk,XU,Yc,YI,XX,YA]
 refine⟨λq=>⟨λx hx=>?_,?_⟩,λ⟨q1,q2⟩i _ hi=>?_⟩
 .
  obtain⟨i,hi,rfl⟩:=Zg hx;have:=q (i+1) (Yi _) (by simp;omega)
  rcases this with h1|h1
  . simpa[hi]using h1
  omega
 .
  have:=q 0 (XW _) (by simp)
  simpa using this
 cases i with
 | zero=>simpa using q2
 | succ i =>
  have hi':i<t.length:=by simpa using hi
  exact .inl (by simpa[hi']using q1 t[i] (YH hi'))
theorem SV(l:Str):az l=if l=[46]then true else if 60<l.length then false else qU (pW l) 0 false:=by
 unfold az
 rw[yX,<-Eg]
 cases hq:jD l with
 | nil=>exact absurd (by rw[<-Eg];exact hq) (wo l)
 | cons h t =>
  rw[Zkf,List.reverse_cons,OW]
  simp
theorem Zeq{ps:List Str}{k:Nat}(h1:iC ps[k]! = false)(h2:0<k \/ ¬ps[k]! = [42]):uk ps k=false:=by
 unfold uk
 rw[h1,Bool.false_or,Yy,X4,Zm]
 rcases h2 with h|h
 . exact .inl om
 exact .inr h
theorem Zep{ps:List Str}{k:Nat}(h:iC ps[k]! = true\/(¬0<k/\ps[k]! = [42])):uk ps k=true:=by
 unfold uk
 rw[Yc,XU,XX,YA]
 rcases h with h|⟨h1,h2⟩
 . exact .inl h
 exact .inr ⟨om,h2⟩
def gZ(l:Str):List Str:=if l=[46]then[]else pW l
def pl(more:Bool)(rest:Str):List Str:=if more then pW rest else[]
def xI(more:Bool)(rest:Str):Str:=if more then rest.drop (fT rest 46+1).toNat else[]
def sS(more:Bool)(rest:Str):Bool:=more&&decide (0<=fT rest 46)
def sQ(more:Bool)(rest:Str):Str:=if sS more rest then rest.take (fT rest 46).toNat else rest
theorem RG{rest:Str}:pl true rest=xI true rest::pl (sS true rest) (sQ true rest):=by
 unfold pl xI sS sQ sS
 rw[X3 rfl,X3 rfl,sO]
 by_cases h:fT rest 46<0
 .
  have : ¬0<=fT rest 46:=by omega
  simp[h,this]
 have:0<=fT rest 46:=by omega
 simp[h,this]
def Zeg(more:Bool)(rest:Str):(sQ more rest).length<=rest.length:=by
 unfold sQ
 split
 . simp;omega
 exact XW _
def uK:List Str->List Str->Int
 | [],_=>-1
 | _::_,[]=>1
 | x::xs,y::ys=>if Go.Lib.compareBytes x y != 0 then Go.Lib.compareBytes x y else uK xs ys
def kP(a b:Str):Int:=if a=b then 0 else uK (gZ a) (gZ b)
def gI{l:Str}(h:az l=true):l.length<=60:=by
 unfold az at h
 split at h
 . rename_i e;subst e;decide
 split at h
 . cases h
 omega
theorem Zdy(l:Str):gZ l=pl (l != [46]) l:=by
 unfold gZ pl
 by_cases h:l=[46]
 . subst h;rfl
 have:(l != [46])=true:=by simpa using h
 rw[XV h,this];rfl
theorem JY{more:Bool}{rest r2:Str}(h:(!more)=true):uK (pW rest) (pl more r2)=1:=by
 cases more with
 | true=>cases h
 | false=>rw[sO];rfl
theorem WE{more:Bool}{rest r2:Str}(h:(!more)=false)(k:(Go.Lib.compareBytes (rest.drop (fT rest 46+1).toNat) (xI more r2) != 0)=true):uK (pW rest) (pl more r2)=Go.Lib.compareBytes (rest.drop (fT rest 46+1).toNat) (xI more r2):=by
 cases more with
 | false=>cases h
 | true=>rw[sO,RG,uK,X3 k]
theorem NV{more:Bool}{rest r2:Str}(h:(!more)=false)(k:(Go.Lib.compareBytes (rest.drop (fT rest 46+1).toNat) (xI more r2) != 0)=false):uK (pW rest) (pl more r2)=uK (if fT rest 46<0 then[]else pW (rest.take (fT rest 46).toNat)) (pl (sS more r2) (sQ more r2)):=by
 cases more with
 | false=>cases h
 | true=>rw[sO,RG,uK,XV (by rw[k];simp)]
def wH:List Str->List Str->Int
 | [],[]=>0
 | [],_::_=>-1
 | _::_,[]=>1
 | x::xs,y::ys=>if Go.Op.bytesLess x y then -1 else if !(Go.Op.bytesLess x y||x==y)then 1 else wH xs ys
def fQ(a b:Str):Int:=wH (gZ a) (gZ b)
def zg(l m:List Str)(i:Nat):Int:=if i<=l.length/\i<=m.length then(if Go.Op.bytesLess l[l.length-i]! m[m.length-i]! then -1 else if !(Go.Op.bytesLess l[l.length-i]! m[m.length-i]! || l[l.length-i]! == m[m.length-i]!)then 1 else zg l m (i+1))else if l.length<m.length then -1 else if m.length<l.length then 1 else 0
termination_by l.length+1-i
theorem AO(l m:List Str)(i:Nat):zg l m i=if i<=l.length/\i<=m.length then(if Go.Op.bytesLess l[l.length-i]! m[m.length-i]! then -1 else if !(Go.Op.bytesLess l[l.length-i]! m[m.length-i]! || l[l.length-i]! == m[m.length-i]!)then 1 else zg l m (i+1))else if l.length<m.length then -1 else if m.length<l.length then 1 else 0:=by rw[zg]
theorem Hu{l:List Str}{k:Nat}(h:k<l.length):l.reverse.drop k=l[l.length-(k+1)]! :: l.reverse.drop (k+1):=by
 rw[YC (by simpa using h),List.getElem_reverse]
 congr 1
 have h2:l.length-1-k<l.length:=by omega
 have e:l.length-(k+1)=l.length-1-k:=by omega
 rw[e,getElem!_pos l _ h2]
theorem R8(l m:List Str)(k:Nat)(h1:k<=l.length)(h2:k<=m.length):zg l m (k+1)=wH (l.reverse.drop k) (m.reverse.drop k):=by
 rw[AO]
 by_cases h:k+1<=l.length/\k+1<=m.length
 . rw[X3 h,Hu (by omega:k<l.length),Hu (by omega:k<m.length),wH,R8 l m (k+1) h.1 h.2]
 rw[XV h]
 by_cases e1:k=l.length
 .
  rw[Y3 (by simp;omega)]
  by_cases e2:k=m.length
  . rw[Y3 (by simp;omega),XV (by omega),XV (by omega)];rfl
  rw[Hu (by omega:k<m.length),X3 (by omega)];rfl
 have e2:k=m.length:=by omega
 have hm:m.reverse.drop k=[]:=Y3 (by simp;omega)
 rw[hm,Hu (by omega:k<l.length),XV (by omega),X3 (by omega)];rfl
termination_by l.length-k
theorem Ij(l:Str):(bC l).reverse=gZ l:=by
 unfold bC gZ
 split
 . rfl
 rw[yX,Eg]
theorem Ze5(a b:Str):fQ a b=zg (bC a) (bC b) 1:=by
 rw[R8 _ _ 0 (Yi _) (Yi _),X6,X6,Ij,Ij];rfl
theorem Gg : ∀a:Str,Go.Op.bytesLess a a=false
 | []=>rfl
 | c::r=>by simp[Go.Op.bytesLess,Gg r]
theorem F8 : ∀a b:Str,Go.Lib.compareBytes a b=if Go.Op.bytesLess a b then -1 else if a==b then 0 else 1
 | [],[]=>rfl
 | [],_::_=>rfl
 | _::_,[]=>by simp[Go.Lib.compareBytes,Go.Op.bytesLess]
 | x::a,y::b=>by
  unfold Go.Lib.compareBytes Go.Op.bytesLess
  by_cases h1:x<y
  . simp[h1]
  by_cases h2:y<x
  .
   have h3 : ¬x=y:=λe=>by subst e;exact h1 h2
   simp[h1,h2,h3]
  have h3:x=y:=by
   apply ZV.1
   have h4 : ¬x.toNat<y.toNat:=h1;have h5 : ¬y.toNat<x.toNat:=h2;omega
  subst h3
  simp[h1,F8 a b]
theorem WG : ∀xs ys:List Str,xs≠ys->uK xs ys=wH xs ys
 | [],[],h=>absurd rfl h
 | [],_::_,_=>rfl
 | _::_,[],_=>rfl
 | x::xs,y::ys,h=>by
  unfold uK wH;rw[F8]
  by_cases h1:Go.Op.bytesLess x y=true
  . simp[h1]
  by_cases h2:x=y
  .
   subst h2
   simp[Gg]
   exact WG xs ys λe=>h (by rw[e])
  have h3:(x==y)=false:=by simpa using h2
  simp[h1,h3]
theorem R7 : ∀xs:List Str,wH xs xs=0
 | []=>rfl
 | x::xs=>by simp[wH,Gg,R7 xs]
def vD:List Str->Str
 | []=>[]
 | [p]=>p
 | p::q::r=>p++46::vD (q::r)
theorem Bc : ∀l:Str,vD (split l)=l
 | []=>rfl
 | c::r=>by
  have ih:=Bc r;unfold split
  by_cases h:c=46
  .
   rw[X3 h]
   cases hs:split r with
   | nil=>exact absurd hs (wo r)
   | cons q qs=>rw[hs]at ih;rw[vD,ih,h];rfl
  rw[XV h]
  cases hs:split r with
  | nil=>exact absurd hs (wo r)
  | cons q qs =>
   rw[hs]at ih
   cases qs with
   | nil=>simp only[vD]at ih ⊢;rw[ih]
   | cons q2 qs2=>simp only[vD]at ih ⊢;rw[<-ih];rfl
theorem Ld{a b:Str}(h:gZ a=gZ b):a=b:=by
 unfold gZ at h
 have ne : ∀l:Str,pW l≠[]:=λl e=>by rw[sO]at e;cases e
 by_cases ha:a=[46]<;>by_cases hb:b=[46]
 . rw[ha,hb]
 . rw[X3 ha,XV hb]at h;exact absurd h.symm (ne b)
 . rw[XV ha,X3 hb]at h;exact absurd h (ne a)
 rw[XV ha,XV hb,yX,yX]at h
 rw[<-Bc a,<-Bc b,List.reverse_inj.1 h]
theorem LU(a b:Str):kP a b=fQ a b:=by
 unfold kP fQ
 by_cases h:a=b
 . subst h;rw[X3 rfl,R7]
 rw[XV h,WG _ _ λe=>h (Ld e)]
def RP(l:Str):(∀x∈bC l,x.length<=l.length)/\(bC l).length<=l.length+1:=by
 unfold bC
 split
 . exact⟨by simp,Yi _⟩
 exact GV l
end Go.Str
namespace Go.Rec
open Go.DL Go.Str
structure Dat where
 t:Str
 n:Int
 m:Int
 deriving Inhabited,DecidableEq
structure RSet where
 name:Str
 ty:Int
 life:Int
 data:List Dat
 deriving Inhabited,DecidableEq
structure vT where
 text:Int
 n0:Int
 n1:Int
 m0:Int
 m1:Int
 even:Bool
 single:Bool
 wild:Bool
 deriving Inhabited,DecidableEq
def Dat.d(x:Dat):List D:=[.v (.string (bs x.t)),.i x.n,.i x.m]
def Dat.of:List D->Dat
 | [.v (.string s),.v (.int _ n),.v (.int _ m)]=>⟨s.data.toList,n,m⟩
 | _=>default
def RSet.d(x:RSet):List D:=[.v (.string (bs x.name)),.i x.ty,.i x.life,.list false (x.data.map Dat.d)]
def RSet.of:List D->RSet
 | [.v (.string s),.v (.int _ t),.v (.int _ l),.list _ rows]=>⟨s.data.toList,t,l,rows.map Dat.of⟩
 | _=>default
def vT.d(r:vT):List D:=[.i r.text,.i r.n0,.i r.n1,.i r.m0,.i r.m1,.b r.even,.b r.single,.b r.wild]
def vT.of:List D->vT
 | [.v (.int _ a),.v (.int _ b),.v (.int _ c),.v (.int _ d),.v (.int _ e),.v (.bool f),.v (.bool g),.v (.bool h)]=>⟨a,b,c,d,e,f,g,h⟩
 | _=>default
def rY{α:Type}(f:List D->α)(z:α):D->α
 | .agg cs=>f cs
 | _=>z
def wP{α:Type}(f:List D->α):D->List α
 | .list _ rows=>rows.map f
 | _=>[]
def iR(n:Int):List D:=[.i n]
def ofI:List D->Int
 | [.v (.int _ n)]=>n
 | _=>0
def CX:D->List Int:=wP ofI
def j4:D->Dat:=rY Dat.of default
def nP:D->List Dat:=wP Dat.of
def set1:D->RSet:=rY RSet.of default
def K7:D->vT:=rY vT.of default
attribute [go_sem] Dat.d RSet.d vT.d iR
theorem EC(x:Dat):Dat.of x.d=x:=by simp[Dat.of,Dat.d,tN]
@[go_sem]theorem Zme{f:Bool}{l:List Dat}:nP (.list f (l.map Dat.d))=l:=kR EC l
def Zmd{f:Bool}:nP (.list f [])=[]:=rfl
def dat1_agg{s:ByteArray}{n m:Int}{k k':IntKind}:j4 (.agg [.v (.string s),.v (.int k n),.v (.int k' m)])=⟨s.data.toList,n,m⟩:=rfl
def set1_agg{s:ByteArray}{n m:Int}{k k':IntKind}{f:Bool}{rows:List (List D)}:set1 (.agg [.v (.string s),.v (.int k n),.v (.int k' m),.list f rows])=⟨s.data.toList,n,m,nP (.list f rows)⟩:=rfl
def ZkT{r:vT}:K7 (.agg [.i r.text,.i r.n0,.i r.n1,.i r.m0,.i r.m1,.b r.even,.b r.single,.b r.wild])=r:=rfl
attribute[go_sem]Zmd dat1_agg set1_agg ZkT
def aV(x lo hi:Int):Bool:=decide (lo<=x)&&decide (x<=hi)
def cmpI(x y:Int):Int:=if x<y then -1 else if y<x then 1 else 0
def vz(a b:Str):Bool:=Go.Op.bytesLess a b
def uJ(a b:Str):Int:=if vz a b then -1 else if !(vz a b||a==b)then 1 else 0
def yh(s p:Str):Bool:=decide (p.length<=s.length)&&s.take p.length==p
def jC(s:Str):Bool:=decide (0<s.length)&&decide ((s.getD 0 0).toNat=42)
theorem Af(s:Str):yh s [42]=jC s:=by
 cases s with
 | nil=>rfl
 | cons c r =>
  simp only[yh,jC,YS,Zq,X5,Ye,List.getD_cons_zero];have h1:decide (0+1<=r.length+1)=true:=by simp
  have h2:decide (0<r.length+1)=true:=by simp
  rw[h1,h2,ZF,ZF,YK,YA,XX]
  constructor
  . intro h;have:=(List.cons.inj h).1;subst this;rfl
  intro h;have:c=42:=ZV.1 h;subst this;rfl
def uZ(l:List Int)(k:Nat):Int:=if k<l.length then if l[k]! != 0 then l[k]! else uZ l (k+1)else 0
termination_by l.length-k
theorem AP(l:List Int)(k:Nat):uZ l k=if k<l.length then if l[k]! != 0 then l[k]! else uZ l (k+1)else 0:=by rw[uZ]
def tF(l:Str)(i:Nat):Bool:=rX (l.getD i 0)||decide ((l.getD i 0).toNat=32)
def vM(l:Str):Bool:=if l.length<1 then false else if 40<l.length then false else if(l.getD 0 0).toNat=32 then false else if(l.getD (l.length-1) 0).toNat=32 then false else aA l.length (tF l) 0
def less(a b:Dat):Bool:=if a.t != b.t then vz a.t b.t else if a.n != b.n then decide (a.n<b.n)else decide (a.m<b.m)
end Go.Rec
namespace Go.Cmp
open Go.Str
structure Cm{α:Type}(c:α->α->Int):Prop where
 anti : ∀x y,c y x = - c x y
 tr : ∀x y z,c x y<=0->c y z<=0->c x z<=0
 lo : ∀x y, -1<=c x y
namespace Cm
variable {α : Type} {c : α -> α -> Int} (h : Cm c)
include h
theorem hi(x y:α):c x y<=1:=by have:=h.lo y x;have:=h.anti x y;omega
def self(x:α):c x x=0:=by have:=h.anti x x;omega
def lt_le{x y z:α}(a:c x y<0)(b:c y z<=0):c x z<0:=by
 have h1:=h.tr x y z (by omega) b
 by_cases e:c x z=0
 .
  have h2:=h.tr y z x b (by have:=h.anti x z;omega)
  have:=h.anti x y;omega
 omega
def le_lt{x y z:α}(a:c x y<=0)(b:c y z<0):c x z<0:=by
 have h1:=h.tr x y z a (by omega)
 by_cases e:c x z=0
 .
  have h2:=h.tr z x y (by have:=h.anti x z;omega) a
  have:=h.anti y z;omega
 omega
def eq_eq{x y z:α}(a:c x y=0)(b:c y z=0):c x z=0:=by
 have h1:=h.tr x y z (by omega) (by omega)
 have h2:=h.tr z y x (by have:=h.anti y z;omega) (by have:=h.anti x y;omega)
 have:=h.anti x z;omega
end Cm
def pO(a b:Int):Int:=if a != 0 then a else b
def NW{α:Type}{c d:α->α->Int}(h:Cm c)(k:Cm d):Cm λx y=>pO (c x y) (d x y):=by
 have e : ∀x y,pO (c x y) (d x y)=if c x y=0 then d x y else c x y:=by
  intro x y;unfold pO;by_cases q:c x y=0<;>simp[q]
 refine⟨λx y=>?_,λx y z=>?_,λx y=>?_⟩
 .
  simp only[e];have:=h.anti x y;have:=k.anti x y
  split<;>split<;>omega
 .
  simp only[e];intro a b
  by_cases e1:c x y=0<;>by_cases e2:c y z=0
  . rw[if_pos e1]at a;rw[if_pos e2]at b;rw[if_pos (h.eq_eq e1 e2)];exact k.tr _ _ _ a b
  .
   rw[if_neg e2]at b;have:=h.le_lt (x:=x) (by omega:c x y<=0) (by omega:c y z<0)
   rw[if_neg (by omega)];omega
  .
   rw[if_neg e1]at a;have:=h.lt_le (by omega:c x y<0) (by omega:c y z<=0)
   rw[if_neg (by omega)];omega
  rw[if_neg e1]at a;rw[if_neg e2]at b;have:=h.lt_le (by omega:c x y<0) (by omega:c y z<=0)
  rw[if_neg (by omega)];omega
 simp only[e]
 have:=h.lo x y;have:=k.lo x y
 split<;>omega
def yA{α β:Type}{c:β->β->Int}(h:Cm c)(f:α->β):Cm λx y=>c (f x) (f y) :=
 ⟨λx y=>h.anti _ _,λx y z=>h.tr _ _ _,λx y=>h.lo _ _⟩
def cmpI(x y:Int):Int:=if x<y then -1 else if y<x then 1 else 0
def J2:Cm cmpI:=by
 refine⟨λx y=>?_,λx y z=>?_,λx y=>?_⟩<;>unfold cmpI<;>(repeat' split)<;>omega
def F7{x y:Int}:cmpI x y=0↔x=y:=by
 unfold cmpI;(repeat' split)<;>omega
def lex{α:Type}(c:α->α->Int):List α->List α->Int
 | [],[]=>0
 | [],_::_=>-1
 | _::_,[]=>1
 | x::xs,y::ys=>pO (c x y) (lex c xs ys)
theorem lG{a b:Int}:pO a b=if a=0 then b else a:=by
 unfold pO;by_cases q:a=0<;>simp[q]
theorem WH{α:Type}{c:α->α->Int}(h:Cm c):Cm (lex c):=by
 refine⟨?_,?_,?_⟩
 .
  intro x
  induction x with
  | nil=>intro y;cases y<;>rfl
  | cons x xs ih =>
   intro y
   cases y with
   | nil=>rfl
   | cons y ys =>
    simp only[lex,lG];have:=h.anti x y;have:=ih ys
    split<;>split<;>omega
 .
  intro x
  induction x with
  | nil =>
   intro y z _ _
   cases z
   . simp[lex]
   simp[lex]
  | cons x xs ih =>
   intro y z a b
   cases y with
   | nil=>simp[lex]at a
   | cons y ys =>
    cases z with
    | nil=>simp[lex]at b
    | cons z zs =>
     simp only[lex,lG]at a b ⊢
     by_cases e1:c x y=0<;>by_cases e2:c y z=0
     . rw[if_pos e1]at a;rw[if_pos e2]at b;rw[if_pos (h.eq_eq e1 e2)];exact ih _ _ a b
     .
      rw[if_neg e2]at b;have:=h.le_lt (x:=x) (by omega:c x y<=0) (by omega:c y z<0)
      rw[if_neg (by omega)];omega
     .
      rw[if_neg e1]at a;have:=h.lt_le (by omega:c x y<0) (by omega:c y z<=0)
      rw[if_neg (by omega)];omega
     rw[if_neg e1]at a;rw[if_neg e2]at b;have:=h.lt_le (by omega:c x y<0) (by omega:c y z<=0)
     rw[if_neg (by omega)];omega
 intro x
 induction x with
 | nil=>intro y;cases y<;>simp[lex]
 | cons x xs ih =>
  intro y
  cases y with
  | nil=>simp[lex]
  | cons y ys =>
   simp only[lex,lG];have:=h.lo x y;have:=ih ys
   split<;>omega
theorem Mg{α:Type}{c:α->α->Int}(h : ∀x y,c x y=0->x=y):∀xs ys:List α,lex c xs ys=0->xs=ys
 | [],[],_=>rfl
 | [],_::_,e=>by simp[lex]at e
 | _::_,[],e=>by simp[lex]at e
 | x::xs,y::ys,e=>by
  simp only[lex,lG]at e
  split at e
  . rename_i q;rw[h _ _ q,Mg h xs ys e]
  rename_i q;exact absurd e q
def F6(x y:UInt8):Int:=cmpI x.toNat y.toNat
def cm_u:Cm F6:=yA J2 λx:UInt8=>(x.toNat:Int)
def Zjo{x y:UInt8}(h:F6 x y=0):x=y:=UInt8.toNat_inj.1 (by have:=F7.1 h;omega)
theorem NU : ∀a b:Str,Go.Lib.compareBytes a b=lex F6 a b
 | [],[]=>rfl
 | [],_::_=>rfl
 | _::_,[]=>rfl
 | x::a,y::b=>by
  unfold Go.Lib.compareBytes lex;have ih:=NU a b;simp only[lG,F6,cmpI]
  by_cases h1:x<y
  .
   have:(x.toNat:Int)<y.toNat:=by have:x.toNat<y.toNat:=h1;omega
   simp[h1,this]
  have h1' : ¬(x.toNat:Int)<y.toNat:=by have : ¬x.toNat<y.toNat:=h1;omega
  by_cases h2:y<x
  .
   have:(y.toNat:Int)<x.toNat:=by have:y.toNat<x.toNat:=h2;omega
   simp[h1,h2,h1',this]
  have h2' : ¬(y.toNat:Int)<x.toNat:=by have : ¬y.toNat<x.toNat:=h2;omega
  simp[h1,h2,h1',h2',ih]
def J3:Cm (Go.Lib.compareBytes):=by
 have:Go.Lib.compareBytes=lex F6:=by funext a b;exact NU a b
 rw[this];exact WH cm_u
def N9{a b:Str}(h:Go.Lib.compareBytes a b=0):a=b:=by
 rw[NU]at h;exact Mg (λ_ _=>Zjo) a b h
theorem Io : ∀xs ys:List Str,wH xs ys=lex Go.Lib.compareBytes xs ys
 | [],[]=>rfl
 | [],_::_=>rfl
 | _::_,[]=>rfl
 | x::xs,y::ys=>by
  unfold wH lex;have ih:=Io xs ys;rw[F8,lG,ih]
  by_cases h1:Go.Op.bytesLess x y=true
  . simp[h1]
  by_cases h2:x=y
  . subst h2;simp[Gg]
  have h3:(x==y)=false:=by simpa using h2
  simp[h1,h3]
def xk:Cm fQ:=by
 have:fQ=λa b=>lex Go.Lib.compareBytes (gZ a) (gZ b):=by funext a b;exact Io _ _
 rw[this];exact yA (WH J3) gZ
theorem EH{a b:Str}(h:fQ a b=0):a=b:=by
 unfold fQ at h
 rw[Io]at h
 exact Ld (Mg (λ_ _=>N9) _ _ h)
section
variable {α : Type} (c : α -> α -> Int) (m : α -> α -> α)
structure Un:Prop where
 left : ∀x y,c x y=0->c (m x y) x=0
 comm : ∀x y,c x y=0->m x y=m y x
 swap : ∀x y z,c x y=0->c x z=0->m (m x y) z=m (m x z) y
variable {c m}
def Sorted(c:α->α->Int)(l:List α):Prop:=l.Pairwise λx y=>c x y<=0
def jR(c:α->α->Int)(l:List α):Prop:=l.Pairwise λx y=>c x y<0
end
end Go.Cmp
namespace Go.Rec
open Go.DL Go.Str Go.Cmp
def gH(k:Nat):vT:=match k with
 | 1=>⟨0,1,1000000,0,0,false,false,true⟩
 | 2=>⟨1,0,0,0,0,false,false,false⟩
 | 3=>⟨1,0,0,0,0,false,true,false⟩
 | 4=>⟨0,0,65535,0,100000,false,true,false⟩
 | 5=>⟨3,0,0,0,0,false,false,true⟩
 | 6=>⟨0,1,1000000,1,3,false,false,false⟩
 | 7=>⟨0,1,1000000,1,3,false,false,false⟩
 | 8=>⟨2,2,510,0,0,true,false,true⟩
 | _=>⟨0,0,0,0,0,false,false,false⟩
def xy(k:Int)(t:Str):Bool:=if k=1 then az t && !jC t else if k=2 then az t else if k=3 then vM t else t==[]
def jQ(r:vT)(d:Dat):Bool:=aV d.n r.n0 r.n1&&aV d.m r.m0 r.m1 && !(r.even&&d.n % 2 != 0)&&xy r.text d.t
def nZ(k:Int)(d:Dat):Bool :=
 if k=1 then d.t==[]&&aV d.n 1 1000000&&d.m==0
 else if k=2\/k=3 then az d.t && !jC d.t&&d.n==0&&d.m==0
 else if k=4 then d.t==[]&&aV d.n 0 65535&&aV d.m 0 100000
 else if k=5 then vM d.t&&d.n==0&&d.m==0
 else if k=6\/k=7 then d.t==[]&&aV d.n 1 1000000&&aV d.m 1 3
 else if k=8 then az d.t&&aV d.n 2 510&&d.n % 2==0&&d.m==0
 else false
theorem ZgT(n:Int):aV n 0 0=(n==0):=by
 unfold aV
 rw[YK,XU,XX,XX,YA]
 omega
theorem jL{n a b:Int}:aV n a b=true↔a<=n/\n<=b:=by
 unfold aV
 rw[XU,XX,XX]
def kinds{k:Int}(h:aV k 1 8=true):k=1\/k=2\/k=3\/k=4\/k=5\/k=6\/k=7\/k=8:=by
 have:=jL.1 h
 omega
theorem Wd{k:Int}(h:aV k 1 8=true)(d:Dat):nZ k d=jQ (gH k.toNat) d:=by
 rw[YK]
 rcases kinds h with h|h|h|h|h|h|h|h<;>subst h<;>simp[nZ,jQ,gH,xy,ZgT]<;>constructor<;>intro q<;>simp_all
def Am(k:Int):Bool:=decide (k=3)||decide (k=4)
theorem Qc{k:Int}(h:aV k 1 8=true):Am k=(gH k.toNat).single:=by
 rcases kinds h with h|h|h|h|h|h|h|h<;>subst h<;>rfl
theorem Zah{k:Int}(h:aV k 1 8=true):(k != 1&&k != 5&&k != 8) = !(gH k.toNat).wild:=by
 rcases kinds h with h|h|h|h|h|h|h|h<;>subst h<;>rfl
def dV(a b:Dat):Int:=pO (Go.Lib.compareBytes a.t b.t) (pO (Go.Cmp.cmpI a.n b.n) (Go.Cmp.cmpI a.m b.m))
def tK:Cm dV:=NW (yA J3 Dat.t) (NW (yA J2 Dat.n) (yA J2 Dat.m))
def We{a b:Dat}(h:dV a b=0):a=b:=by
 unfold dV at h
 rw[lG]at h
 split at h
 .
  rename_i h1
  rw[lG]at h
  split at h
  .
   rename_i h2
   have e1:=N9 h1;have e2:=F7.1 h2;have e3:=F7.1 h
   cases a;cases b;simp only at e1 e2 e3;subst e1;subst e2;subst e3;rfl
  exact absurd h ‹_›
 exact absurd h ‹_›
theorem Mh(a b:Dat):less a b=decide (dV a b<0):=by
 unfold less dV vz
 rw[lG,lG,F8]
 by_cases h1:a.t=b.t
 .
  rw[h1]
  simp[Gg]
  by_cases h2:a.n=b.n
  .
   rw[h2];simp[Go.Cmp.cmpI]
   by_cases h3:a.m<b.m
   . simp[h3]
   simp[h3];split<;>omega
  simp[h2,Go.Cmp.cmpI]
  by_cases h3:a.n<b.n
  . simp[h3]
  have:b.n<a.n:=by omega
  simp[h3,this]
 have h2:(a.t==b.t)=false:=by simpa using h1
 simp[h1,h2]
 cases h3:Go.Op.bytesLess a.t b.t<;>simp
theorem Zjp(a b:Str):uJ a b=Go.Lib.compareBytes a b:=by
 rw[F8]
 unfold uJ vz
 by_cases h:Go.Op.bytesLess a b=true
 . simp[h]
 cases h2:(a==b)<;>simp[h]
theorem Zez(a b c:Int):uZ [a,b,c] 0=if a != 0 then a else if b != 0 then b else if c != 0 then c else 0:=by
 rw[AP,AP _ (0+1),AP _ (0+1+1),AP _ (0+1+1+1)]
 simp
theorem R9(a b:Dat):uZ [uJ a.t b.t,cmpI a.n b.n,cmpI a.m b.m] 0=dV a b:=by
 rw[Zez,Zjp]
 unfold dV pO
 show(if _ then _ else if _ then _ else if Go.Cmp.cmpI a.m b.m != 0 then Go.Cmp.cmpI a.m b.m else 0)=_
 by_cases h:Go.Cmp.cmpI a.m b.m=0
 . simp[h];rfl
 simp[h];rfl
def nQ(k:Nat)(l:List Dat)(i:Nat):Bool:=jQ (gH k) l[i]! && (decide (i=0)||decide (dV l[i-1]! l[i]! < 0))
def fq(s:RSet):Bool:=az s.name&&aV s.ty 1 8&&aV s.life 0 100000&&aV s.data.length 1 8 && !((gH s.ty.toNat).single&&(s.data.length:Int) != 1) && !(jC s.name && !(gH s.ty.toNat).wild)&&aA s.data.length (nQ s.ty.toNat s.data) 0
structure si(s:RSet):Prop where
 name:az s.name=true
 ty:aV s.ty 1 8=true
 life:aV s.life 0 100000=true
 len:1<=s.data.length/\s.data.length<=8
 single:(gH s.ty.toNat).single=true->s.data.length=1
 wild:jC s.name=true->(gH s.ty.toNat).wild=true
 dat : ∀d∈s.data,jQ (gH s.ty.toNat) d=true
 sorted:jR dV s.data
theorem Zbt{l:List Dat}(h : ∀i,0<i->i<l.length->dV l[i-1]! l[i]! < 0):jR dV l:=by
 induction l with
 | nil=>exact .nil
 | cons x r ih =>
  have ih:=ih λi h1 h2=>by
   have:=h (i+1) om (by simp;omega)
   obtain⟨j,rfl⟩:∃j,i=j+1:=⟨i-1,om⟩
   simpa using this
  refine YD.2 ⟨λy hy=>?_,ih⟩
  cases r with
  | nil=>cases hy
  | cons z r =>
   have hxz:dV x z<0:=by simpa using h 1 om (by simp)
   rcases Yl.1 hy with e|e
   . subst e;exact hxz
   have:=(YD.1 ih).1 y e;exact tK.lt_le hxz om
def ZjZ{l:List Dat}(h:jR dV l){i j:Nat}(h1:i<j)(h2:j<l.length):dV l[i]! l[j]! < 0:=by
 rw[getElem!_pos l i (by omega),getElem!_pos l j h2]
 exact ZH.1 h i j om h2 h1
theorem iJ(s:RSet):fq s=true↔si s:=by
 unfold fq
 simp only[XU,Ya,Yy,Zr,Yq,eu]
 constructor
 .
  rintro⟨⟨⟨⟨⟨⟨h1,h2⟩,h3⟩,h4⟩,h5⟩,h6⟩,h7⟩;have h4:=jL.1 h4;have hd : ∀i,i<s.data.length->jQ (gH s.ty.toNat) s.data[i]! = true:=λi hi=>by
   have:=h7 i (Yi _) hi;unfold nQ at this;exact(XU _ _▸this).1
  refine⟨h1,h2,h3,om,λq=>?_,λq=>?_,λd hd'=>?_,Zbt λi hi hl=>?_⟩
  .
   rcases h5 with h|h
   . rw[q]at h;cases h
   omega
  .
   rcases h6 with h|h
   . rw[q]at h;cases h
   exact h
  . obtain⟨i,hi,rfl⟩:=Zg hd';have:=hd i hi;rwa [getElem!_pos s.data i hi]at this
  have:=h7 i (Yi _) hl;unfold nQ at this;rw[XU,Yc,XX,XX]at this;exact this.2.resolve_left om
 intro ⟨h1,h2,h3,h4,h5,h6,h7,h8⟩
 refine⟨⟨⟨⟨⟨⟨h1,h2⟩,h3⟩,jL.2 om⟩,?_⟩,?_⟩,λi _ hi=>?_⟩
 .
  by_cases q:(gH s.ty.toNat).single=true
  . right;have:=h5 q;omega
  left;simpa using q
 .
  by_cases q:jC s.name=true
  . right;exact h6 q
  left;simpa using q
 unfold nQ
 rw[XU,Yc,XX,XX]
 refine⟨by rw[getElem!_pos s.data i hi];exact h7 _ (YH _),?_⟩
 by_cases e:i=0
 . exact .inl e
 exact .inr (ZjZ h8 om hi)
instance(s:RSet):Decidable (si s):=decidable_of_iff _ (iJ s)
def zm(a b:Str):Int:=if az a&&az b then kP a b else 0
def plC(a b:RSet):Int:=if a.name=b.name then cmpI a.ty b.ty else zm a.name b.name
def lK(a b:RSet):Int:=pO (zm a.name b.name) (cmpI a.ty b.ty)
def xG(a b:RSet):Int:=pO (fQ a.name b.name) (cmpI a.ty b.ty)
def cm_pl:Cm xG:=NW (yA xk RSet.name) (yA J2 RSet.ty)
theorem Zec{a b:RSet}:xG a b=0↔a.name=b.name/\a.ty=b.ty:=by
 unfold xG
 rw[lG]
 constructor
 .
  intro h
  split at h
  . exact⟨EH ‹_›,F7.1 h⟩
  exact absurd h ‹_›
 rintro⟨h1,h2⟩
 rw[h1,h2,X3 (xk.self _)]
 exact F7.2 rfl
theorem plC_c{a b:RSet}(ha:az a.name=true)(hb:az b.name=true):plC a b=xG a b:=by
 unfold plC xG zm
 rw[ha,hb,lG]
 by_cases h:a.name=b.name
 . rw[X3 h,h,X3 (xk.self _)]
 rw[XV h,XV (λe=>h (EH e)),LU];rfl
theorem Rb{a b:RSet}(ha:az a.name=true)(hb:az b.name=true):lK a b=xG a b:=by
 unfold lK xG zm
 rw[ha,hb,LU];rfl
def uN(n:Int):Nat:=(n % 18446744073709551616).toNat
def gU(u sh:Nat):UInt8:=UInt8.ofNat (u / 2^sh)
def cB(n:Int):Str:=[gU (uN n) 56,gU (uN n) 48,gU (uN n) 40,gU (uN n) 32,gU (uN n) 24,gU (uN n) 16,gU (uN n) 8,gU (uN n) 0]
theorem iW(n:Int):(cB n).length=8:=rfl
def yO(n:Int):uN n<18446744073709551616:=by unfold uN;omega
def gG(n:Nat)(c:UInt8):Nat:=(n*256+c.toNat) % 18446744073709551616
def fP(l:Str):Nat:=l.foldl gG 0
def sN(n:Nat):Int:=IntKind.i64.wrap (n:Int)
def numOf(l:Str):Int:=sN (fP l)
theorem J6(u sh:Nat):(gU u sh).toNat=u / 2^sh % 256:=by simp[gU]
theorem xB(u s:Nat)(h:u<18446744073709551616):gG (u / 2^(s+8)) (gU u s)=u / 2^s:=by
 unfold gG
 rw[J6]
 have e:u / 2^(s+8)=u / 2^s / 256:=by rw[Nat.pow_add,<-Nat.div_div_eq_div_mul]
 have l:u / 2^s<=u:=Nat.div_le_self _ _
 rw[e]
 omega
theorem ZeP(n:Int):fP (cB n)=uN n:=by
 have h:=yO n
 unfold cB
 generalize uN n=u at h
 have a7:gG 0 (gU u 56)=u / 2^56:=by
  have:=xB u 56 h;rwa [Nat.div_eq_of_lt (show u<2^(56+8)from h)]at this
 have a6:gG (u / 2^56) (gU u 48)=u / 2^48:=xB u 48 h
 have a5:gG (u / 2^48) (gU u 40)=u / 2^40:=xB u 40 h
 have a4:gG (u / 2^40) (gU u 32)=u / 2^32:=xB u 32 h
 have a3:gG (u / 2^32) (gU u 24)=u / 2^24:=xB u 24 h
 have a2:gG (u / 2^24) (gU u 16)=u / 2^16:=xB u 16 h
 have a1:gG (u / 2^16) (gU u 8)=u / 2^8:=xB u 8 h
 have a0:gG (u / 2^8) (gU u 0)=u / 2^0:=xB u 0 h
 simp only[fP,YF,ZA]
 rw[a7,a6,a5,a4,a3,a2,a1,a0]
 simp
theorem Sn : ∀l:Str,fP l<18446744073709551616:=by
 intro l
 unfold fP
 rcases List.eq_nil_or_concat l with e|⟨p,z,e⟩
 . subst e;decide
 rw[e,List.concat_eq_append,Zf,YF,ZA]
 unfold gG
 omega
theorem uN_sN{u:Nat}(h:u<18446744073709551616):uN (sN u)=u:=by
 unfold uN sN
 rw[IntKind.wrap_i64]
 omega
theorem ZjW{l:Str}(h:l.length=8):cB (numOf l)=l:=by
 unfold numOf cB
 rw[uN_sN (Sn l)]
 match l,h with
 | [c0,c1,c2,c3,c4,c5,c6,c7],_ =>
  have h0:=c0.toNat_lt;have h1:=c1.toNat_lt;have h2:=c2.toNat_lt;have h3:=c3.toNat_lt;have h4:=c4.toNat_lt;have h5:=c5.toNat_lt;have h6:=c6.toNat_lt;have h7:=c7.toNat_lt;have e:fP [c0,c1,c2,c3,c4,c5,c6,c7]=((((((c0.toNat*256+c1.toNat)*256+c2.toNat)*256+c3.toNat)*256+c4.toNat)*256+c5.toNat)*256+c6.toNat)*256+c7.toNat:=by
   simp only[fP,YF,ZA,gG];omega
  have k : ∀(s:Nat)(c:UInt8),fP [c0,c1,c2,c3,c4,c5,c6,c7] / 2^s % 256=c.toNat->gU (fP [c0,c1,c2,c3,c4,c5,c6,c7]) s=c:=λs c q=>ZV.1 (by rw[J6];exact q)
  rw[k 56 c0 (by rw[e];omega),k 48 c1 (by rw[e];omega),k 40 c2 (by rw[e];omega),k 32 c3 (by rw[e];omega),k 24 c4 (by rw[e];omega),k 16 c5 (by rw[e];omega),k 8 c6 (by rw[e];omega),k 0 c7 (by rw[e];omega)]
theorem Au{n:Int}(h : -9223372036854775808<=n/\n<=9223372036854775807):sN (uN n)=n:=by
 unfold sN uN
 rw[IntKind.wrap_i64]
 omega
theorem ZeR{n:Int}(h : -9223372036854775808<=n/\n<=9223372036854775807):numOf (cB n)=n:=by
 unfold numOf;rw[ZeP,Au h]
def jJ(n:Nat):UInt8:=UInt8.ofNat n
def bO(t:Str):Str:=jJ t.length::t
def kI(d:Dat):Str:=bO d.t++cB d.n++cB d.m
def gY(s:RSet):Str:=bO s.name++cB s.ty++cB s.life++jJ s.data.length::s.data.flatMap kI
abbrev RS:=Str×Bool
def bS(n:Int)(st:RS):Str×RS:=if st.2||decide ((st.1.length:Int)<n)then([],(st.1,true))else(st.1.take n.toNat,(st.1.drop n.toNat,false))
def dP(st:RS):Nat×RS:=(if(bS 1 st).1.length=1 then((bS 1 st).1.getD 0 0).toNat else 0,(bS 1 st).2)
def bJ(st:RS):Str×RS:=bS (dP st).1 (dP st).2
def aS(st:RS):Int×RS:=(numOf (bS 8 st).1,(bS 8 st).2)
def iT(st:RS):Dat×RS:=(⟨(bJ st).1,(aS (bJ st).2).1,(aS (aS (bJ st).2).2).1⟩,(aS (aS (bJ st).2).2).2)
def iZ:Nat->List Dat->RS->List Dat×RS
 | 0,out,st=>(out,st)
 | k+1,out,st=>if(iT st).2.2 then(out,(iT st).2)else iZ k (out++[(iT st).1]) (iT st).2
def oh(st:RS):RSet×RS :=
 let a:=bJ st
 let b:=aS a.2
 let c:=aS b.2
 let n:=dP c.2
 let d:=iZ n.1 [] n.2
 (⟨a.1,b.1,c.1,d.1⟩,d.2)
def Sz:RSet:=⟨[],0,0,[]⟩
def iP(x:Str):RSet×Int:=if(oh (x,false)).2.2||decide (0<(oh (x,false)).2.1.length) || !fq (oh (x,false)).1 then(Sz,10)else((oh (x,false)).1,0)
theorem take_ok{st:RS}{n:Nat}(h1:st.2=false)(h2:n<=st.1.length):bS n st=(st.1.take n,(st.1.drop n,false)):=by
 unfold bS
 rw[h1,Bool.false_or,Y7 (by omega)]
 rfl
theorem vW{st:RS}{n:Int}(h:st.2=true\/(st.1.length:Int)<n):bS n st=([],(st.1,true)):=by
 unfold bS
 have:(st.2||decide ((st.1.length:Int)<n))=true:=by rw[Yc,XX];exact h
 rw[this];rfl
def KD{n:Int}{s:RS}(h:s.2=true):(bS n s).2.2=true:=by rw[vW (.inl h)]
theorem LM{s:RS}(h:s.2=true):(aS s).2.2=true:=KD h
theorem Wy{s:RS}(h:s.2=true):(dP s).2.2=true:=KD h
def Zbf{s:RS}(h:s.2=true):(bJ s).2.2=true:=KD (Wy h)
theorem Iu{s:RS}(h:(aS s).2.2=false):s.2=false:=by
 cases q:s.2 with
 | false=>rfl
 | true=>rw[LM q]at h;cases h
theorem ZeF{s:RS}(h:(dP s).2.2=false):s.2=false:=by
 cases q:s.2 with
 | false=>rfl
 | true=>rw[Wy q]at h;cases h
theorem Zi4 : ∀(k:Nat)(out:List Dat)(s:RS),s.2=true->(iZ k out s).2.2=true
 | 0,_,_,h=>h
 | k+1,out,s,h=>by
  unfold iZ;have:(iT s).2.2=true:=LM (LM (Zbf h));rw[X3 this];exact this
def i64(n:Int):Prop:=-9223372036854775808<=n/\n<=9223372036854775807
structure BV(d:Dat):Prop where
 t:d.t.length<=255
 n:i64 d.n
 m:i64 d.m
structure Ox(s:RSet):Prop where
 name:s.name.length<=255
 ty:i64 s.ty
 life:i64 s.life
 len:s.data.length<=255
 dat : ∀d∈s.data,BV d
def ZeQ(l:Str):i64 (numOf l):=by
 unfold i64 numOf sN
 rw[IntKind.wrap_i64]
 omega
theorem Mj{n:Nat}(h:n<=255):(jJ n).toNat=n:=by
 unfold jJ
 simp
 omega
theorem TD(c:UInt8):jJ c.toNat=c:=by
 apply ZV.1
 rw[Mj (by have:=c.toNat_lt;omega)]
theorem count_cons(c:UInt8)(r:Str):dP (c::r,false)=(c.toNat,(r,false)):=by
 have e:=take_ok (st:=(c::r,false)) (n:=1) rfl (by simp)
 rw[show((1:Nat):Int)=1 from rfl]at e
 unfold dP
 rw[e]
 rfl
theorem Pw{t more:Str}(h:t.length<=255):bJ (bO t++more,false)=(t,(more,false)):=by
 unfold bJ bO
 rw[XY,count_cons]
 show bS ((jJ t.length).toNat:Nat) (t++more,false)=_
 rw[Mj h,take_ok rfl (by simp)]
 simp
theorem IA{n:Int}{more:Str}(h:i64 n):aS (cB n++more,false)=(n,(more,false)):=by
 have e:=take_ok (st:=(cB n++more,false)) (n:=8) rfl (by simp[iW])
 rw[show((8:Nat):Int)=8 from rfl]at e
 unfold aS
 rw[e]
 show(numOf ((cB n++more).take 8),((cB n++more).drop 8,false))=_
 rw[List.take_left' (iW n),List.drop_left' (iW n),ZeR h]
theorem Zi9{d:Dat}{more:Str}(h:BV d):iT (kI d++more,false)=(d,(more,false)):=by
 unfold iT kI
 rw[Yw,Yw,Pw h.t,IA h.n,IA h.m]
theorem V6 : ∀(l out:List Dat)(more:Str),(∀d∈l,BV d)->iZ l.length out (l.flatMap kI++more,false)=(out++l,(more,false))
 | [],out,more,_=>by simp[iZ]
 | d::l,out,more,h=>by
  have e:((d::l).flatMap kI++more)=kI d++(l.flatMap kI++more):=by simp
  rw[e,YS,iZ,Zi9 (h d (by simp))]
  show(if false=true then _ else iZ l.length (out++[d]) (l.flatMap kI++more,false))=_
  rw[XV (by simp),V6 l _ more λx hx=>h x (by simp[hx])]
  simp
def Zcr{s:RSet}{more:Str}(h:Ox s):oh (gY s++more,false)=(s,(more,false)):=by
 unfold oh gY
 have e:bO s.name++cB s.ty++cB s.life++jJ s.data.length::s.data.flatMap kI++more=bO s.name++(cB s.ty++(cB s.life++(jJ s.data.length::(s.data.flatMap kI++more)))):=by simp
 rw[e]
 simp only[Pw h.name,IA h.ty,IA h.life,count_cons,Mj h.len,V6 s.data [] more h.dat]
 rfl
def GL{n:Nat}{s:RS}(h:(bS n s).2.2=false):s.2=false/\n<=s.1.length:=by
 by_cases q:s.2=true\/(s.1.length:Int)<n
 . rw[vW q]at h;cases h
 have : ¬s.2=true /\ ¬(s.1.length:Int)<n:=not_or.1 q
 exact⟨by simpa using this.1,om⟩
theorem Ww{s:RS}(h:(dP s).2.2=false):∃c r,s=(c::r,false)/\dP s=(c.toNat,(r,false)):=by
 obtain⟨h1,h2⟩:=GL (n:=1) (s:=s) h
 obtain⟨l,b⟩:=s
 simp only at h1 h2
 subst h1
 cases l with
 | nil=>simp at h2
 | cons c r=>exact⟨c,r,rfl,count_cons c r⟩
def Pv{s:RS}(h:(bJ s).2.2=false):s.1=bO (bJ s).1++(bJ s).2.1/\(bJ s).1.length<=255:=by
 have hc:(dP s).2.2=false:=(GL (n:=(dP s).1) (s:=(dP s).2) h).1
 obtain⟨c,r,rfl,e⟩:=Ww hc
 have hl:=(GL (n:=(dP (c::r,false)).1) (s:=(dP (c::r,false)).2) h).2
 unfold bJ
 rw[e]at hl ⊢
 have hl:c.toNat<=r.length:=hl
 have e2:bS (((c.toNat,(r,false)):Nat×RS).1:Nat) ((c.toNat,(r,false)):Nat×RS).2=(r.take c.toNat,(r.drop c.toNat,false)):=take_ok (st:=(r,false)) rfl hl
 rw[e2]
 have hcl:=c.toNat_lt
 refine⟨?_,by show(r.take c.toNat).length<=255;simp;omega⟩
 show c::r=jJ (r.take c.toNat).length::r.take c.toNat++r.drop c.toNat
 have:(r.take c.toNat).length=c.toNat:=by simp;omega
 rw[this,TD]
 simp
def Iz{s:RS}(h:(aS s).2.2=false):s.1=cB (aS s).1++(aS s).2.1/\i64 (aS s).1:=by
 obtain⟨h1,h2⟩:=GL (n:=8) (s:=s) h
 have e:=take_ok (n:=8) h1 h2
 rw[show((8:Nat):Int)=8 from rfl]at e
 unfold aS
 rw[e]
 refine⟨?_,ZeQ _⟩
 show s.1=cB (numOf (s.1.take 8))++s.1.drop 8
 rw[ZjW (by simp;omega),Za]
def Zi8{s:RS}(h:(iT s).2.2=false):s.1=kI (iT s).1++(iT s).2.1/\BV (iT s).1:=by
 have q1:(aS (bJ s).2).2.2=false:=Iu h
 have q2:=Iu q1
 obtain⟨a1,a2⟩:=Pv q2
 obtain⟨b1,b2⟩:=Iz q1
 obtain⟨c1,c2⟩:=Iz (s:=(aS (bJ s).2).2) h
 refine⟨?_,⟨a2,b2,c2⟩⟩
 unfold iT kI
 rw[a1,b1,c1]
 simp
theorem V5 : ∀(k:Nat)(out:List Dat)(s:RS),s.2=false->(iZ k out s).2.2=false -> ∃l,(iZ k out s).1=out++l/\l.length=k/\s.1=l.flatMap kI++(iZ k out s).2.1 /\ ∀d∈l,BV d
 | 0,out,s,_,_=>⟨[],by simp[iZ]⟩
 | k+1,out,s,hs,h=>by
  unfold iZ at h ⊢
  cases q:(iT s).2.2 with
  | true=>rw[q,X3 rfl,q]at h;cases h
  | false =>
   rw[q,XV (by simp)]at h
   rw[XV (by simp)]
   obtain⟨a1,a2⟩:=Zi8 q;obtain⟨l,b1,b2,b3,b4⟩:=V5 k _ _ q h;refine⟨(iT s).1::l,by rw[b1];simp,by simp[b2],by(rw[a1];(conv=>lhs;rw[b3]);simp),λd hd=>?_⟩
   rcases Yl.1 hd with e|e
   . subst e;exact a2
   exact b4 d e
theorem Zcq{s:RS}(h:(oh s).2.2=false):s.1=gY (oh s).1++(oh s).2.1/\Ox (oh s).1:=by
 have hd:(iZ (dP (aS (aS (bJ s).2).2).2).1 [] (dP (aS (aS (bJ s).2).2).2).2).2.2=false:=h
 have q4:(dP (aS (aS (bJ s).2).2).2).2.2=false:=by
  cases q:(dP (aS (aS (bJ s).2).2).2).2.2 with
  | false=>rfl
  | true=>rw[Zi4 _ _ _ q]at hd;cases hd
 have q3:=ZeF q4
 have q2:=Iu q3
 have q1:=Iu q2
 obtain⟨a1,a2⟩:=Pv q1
 obtain⟨b1,b2⟩:=Iz q2
 obtain⟨c1,c2⟩:=Iz q3
 obtain⟨c,r,d1,d2⟩:=Ww q4
 obtain⟨l,e1,e2,e3,e4⟩:=V5 _ _ _ q4 hd
 have hcl:=c.toNat_lt
 have hl:l.length=c.toNat:=by rw[e2,d2]
 have hs:(oh s).1=⟨(bJ s).1,(aS (bJ s).2).1,(aS (aS (bJ s).2).2).1,l⟩:=by
  show RSet.mk _ _ _ _=_
  rw[e1];rfl
 rw[hs]
 refine⟨?_,⟨a2,b2,c2,by show l.length<=255;omega,e4⟩⟩
 have e5:(oh s).2.1=(iZ (dP (aS (aS (bJ s).2).2).2).1 [] (dP (aS (aS (bJ s).2).2).2).2).2.1:=rfl
 rw[e5,a1]
 conv=>lhs;rw[b1,c1,d1]
 have e6:r=(dP (aS (aS (bJ s).2).2).2).2.1:=by rw[d2]
 show bO _++(cB _++(cB _++c::r))=(bO _++cB _++cB _++jJ l.length::l.flatMap kI)++_
 rw[hl,TD,e6]
 conv=>lhs;rw[e3]
 simp
def Zbh{k:Int}{t:Str}(h:xy k t=true):t.length<=60:=by
 unfold xy at h
 split at h
 . rw[XU]at h;exact gI h.1
 split at h
 . exact gI h
 split at h
 .
  unfold vM at h
  split at h
  . cases h
  split at h
  . cases h
  omega
 rw[YA]at h;subst h;simp
def NL{k:Int}(hk:aV k 1 8=true){d:Dat}(h:jQ (gH k.toNat) d=true):BV d/\d.t.length<=60/\0<=d.n/\0<=d.m:=by
 unfold jQ at h
 simp only[XU,jL]at h
 have ht:=Zbh h.2
 have hn:=h.1.1.1
 have hm:=h.1.1.2
 refine⟨⟨om,?_,?_⟩,ht,?_,?_⟩<;>(try unfold i64)<;>rcases kinds hk with e|e|e|e|e|e|e|e<;>subst e<;>simp[gH]at hn hm<;>omega
def Zcs{s:RSet}(h:si s):Ox s:=by
 have h1:=gI h.name
 have h2:=jL.1 h.ty
 have h3:=jL.1 h.life
 refine⟨om,?_,?_,by have:=h.len;omega,λd hd=>(NL h.ty (h.dat d hd)).1⟩<;>unfold i64<;>omega
def xn(s:RSet):Str×Int:=if fq s then(gY s,0)else([],1)
theorem ZdF{s:RSet}(h:si s):iP (gY s)=(s,0):=by
 have e:=Zcr (more:=[]) (Zcs h)
 rw[Yx]at e
 unfold iP
 rw[e]
 simp[(iJ s).2 h]
def ZjD{x:Str}(h:(iP x).2=0):si (iP x).1/\gY (iP x).1=x:=by
 unfold iP at h ⊢
 split at h
 . cases h
 rename_i q
 rw[XV q]
 simp only[Yc,not_or,XX,Ya,Bool.not_eq_false]at q
 obtain⟨⟨q1,q2⟩,q3⟩:=q
 have q1:(oh (x,false)).2.2=false:=by simpa using q1
 obtain⟨h1,_⟩:=Zcq q1
 have h2:(oh (x,false)).2.1=[]:=Yb om
 rw[h2,Yx]at h1
 exact⟨(iJ _).1 q3,h1.symm⟩
def uV(a b:RSet):Bool:=decide (a=b)
def UO{l:List Int}{n:Nat}(h:n<l.length):(l.map iR).getD n []=[.i l[n]!]:=by
 simp[List.getD,h,getElem!_pos,iR]
theorem o9{l:List Dat}{n:Nat}(h:n<l.length):(l.map Dat.d).getD n []=l[n]!.d:=by
 simp[List.getD,h,getElem!_pos]
theorem getD_set{l:List RSet}{n:Nat}(h:n<l.length):(l.map RSet.d).getD n []=l[n]!.d:=by
 simp[List.getD,h,getElem!_pos]
@[go_sem]theorem nrr_iR{l:List Int}:bu (l.map iR)=true:=by
 induction l with
 | nil=>rfl
 | cons x l ih=>simp only[X8,bu,ih];rfl
@[go_sem]theorem ow{l:List Dat}:bu (l.map Dat.d)=true:=by
 induction l with
 | nil=>rfl
 | cons x l ih=>simp only[X8,bu,ih];rfl
@[go_sem]theorem tV{l:List Dat}:eB (l.map Dat.d)=l.map Dat.d:=by
 induction l with
 | nil=>rfl
 | cons x l ih=>simp only[X8,eB,ih];rfl
theorem KX{s:RSet}(c1:(az s.name=true/\aV s.ty 1 8=true)/\aV s.life 0 100000=true)(c2:aV s.data.length 1 8=true)(c3:((gH s.ty.toNat).single=false\/(s.data.length:Int)=1)/\(jC s.name=false\/(gH s.ty.toNat).wild=true)):fq s=aA s.data.length (nQ s.ty.toNat s.data) 0:=by
 obtain⟨h1,h2⟩:=c3
 unfold fq
 rw[c2,c1.1.1,c1.1.2,c1.2]
 rcases h1 with h1|h1<;>rcases h2 with h2|h2<;>simp[h1,h2]
theorem V7{l:List Dat}{t k:Nat}(h:jQ (gH t) l[k]! = true/\(¬(0:Int)<k \/ ¬0<=dV l[k-1]! l[k]!)):nQ t l k=true:=by
 unfold nQ
 rw[XU,Yc,XX,XX]
 exact⟨h.1,h.2.imp (λq=>by omega) λq=>by omega⟩
theorem V8{l:List Dat}{t k:Nat}(h:jQ (gH t) l[k]! = false\/((0:Int)<k/\0<=dV l[k-1]! l[k]!)):nQ t l k=false:=by
 unfold nQ
 rw[Yy,Yd,X4,X4]
 exact h.imp id λq=>⟨om,om⟩
theorem OU{k:Int}(w:Bool)(h:aV k 1 8=true):(((w&&(k != 1))&&(k != 5))&&(k != 8))=(w && !(gH k.toNat).wild):=by
 rw[<-Zah h,ZZ,ZZ,ZZ]
theorem Qv{s:RSet}(c1:(((az s.name=true/\aV s.ty 1 8=true)/\aV s.life 0 100000=true)/\aV s.data.length 1 8=true)/\(Am s.ty=false \/ ¬(1:Int)<s.data.length))(c2:jC s.name=false\/(gH s.ty.toNat).wild=true):fq s=aA s.data.length (nQ s.ty.toNat s.data) 0:=by
 obtain⟨⟨⟨⟨h1,h2⟩,h3⟩,h4⟩,h5⟩:=c1
 refine KX ⟨⟨h1,h2⟩,h3⟩ h4 ⟨?_,c2⟩
 rw[Qc h2]at h5
 have:=jL.1 h4
 exact h5.imp id λq=>by omega
theorem Zcp{s:RSet}(c1:(((az s.name=false\/aV s.ty 1 8=false)\/aV s.life 0 100000=false)\/aV s.data.length 1 8=false)\/(Am s.ty=true/\(1:Int)<s.data.length)):fq s=false:=by
 cases q:fq s with
 | false=>rfl
 | true =>
  have h:=(iJ s).1 q
  rcases c1 with(((c1|c1)|c1)|c1)|⟨c1,c2⟩
  . rw[h.name]at c1;cases c1
  . rw[h.ty]at c1;cases c1
  . rw[h.life]at c1;cases c1
  .
   have:=jL.2 (show(1:Int)<=s.data.length/\(s.data.length:Int)<=8 by have:=h.len;omega)
   rw[this]at c1;cases c1
  rw[Qc h.ty]at c1;have:=h.single c1;omega
theorem Zco{s:RSet}(c:jC s.name=true/\(gH s.ty.toNat).wild=false):fq s=false:=by
 cases q:fq s with
 | false=>rfl
 | true =>
  have h:=((iJ s).1 q).wild c.1;rw[c.2]at h;cases h
theorem Zi5{l:List Dat}{t:Int}{k:Nat}(ht:aV t 1 8=true)(h:nZ t l[k]! = true/\(¬(0:Int)<k\/less l[k-1]! l[k]! = true)):nQ t.toNat l k=true:=by
 rw[Wd ht,Mh]at h
 exact V7 ⟨h.1,h.2.imp id λq=>by have:=YM q;omega⟩
theorem Zi7{l:List Dat}{t:Int}{k:Nat}(ht:aV t 1 8=true)(h:nZ t l[k]! = false\/((0:Int)<k/\less l[k-1]! l[k]! = false)):nQ t.toNat l k=false:=by
 rw[Wd ht,Mh]at h
 exact V8 (h.imp id λq=>⟨q.1,by have:=of_decide_eq_false q.2;omega⟩)
theorem Zc3{a b:RSet}(h1:((a.name=b.name/\a.ty=b.ty)/\a.life=b.life)/\(a.data.length:Int)=b.data.length)(h2 : ∀i,i<a.data.length->a.data[i]! = b.data[i]!):uV a b=true:=by
 unfold uV
 rw[XX]
 obtain⟨an,at',al,ad⟩:=a
 obtain⟨bn,bt,bl,bd⟩:=b
 simp only at h1 h2
 obtain⟨⟨⟨rfl,rfl⟩,rfl⟩,h3⟩:=h1
 congr 1
 refine List.ext_getElem om λi hi hj=>?_
 have:=h2 i hi
 rwa [getElem!_pos ad i hi,getElem!_pos bd i hj]at this
theorem Zc4{a b:RSet}(h:((a.name≠b.name\/a.ty≠b.ty)\/a.life≠b.life)\/(a.data.length:Int)≠b.data.length):uV a b=false:=by
 unfold uV
 rw[X4]
 rintro rfl
 simp at h
theorem Zc5{a b:RSet}{k:Nat}(h:a.data[k]! ≠ b.data[k]!):uV a b=false:=by
 unfold uV
 rw[X4]
 rintro rfl
 exact h rfl
def Zi6{x y:Dat}(h:(!(x.t==y.t&&(x.n==y.n&&x.m==y.m)))=false):x=y:=by
 obtain⟨a,b,c⟩:=x
 obtain⟨d,e,f⟩:=y
 simp at h
 simp[h]
theorem Zja{x y:Dat}(h:(!(x.t==y.t&&(x.n==y.n&&x.m==y.m)))=true):x≠y:=by
 rintro rfl
 simp at h
@[go_sem]theorem ZkU{t:Str}{h:H}:aC (.v (.string (bs t))) h=t.map bD:=by
 simp only[aC,tN];rfl
@[go_sem]theorem Zkq(n:Nat):IntKind.u8.wrap (n:Int)=((jJ n).toNat:Int):=by
 rw[IntKind.wrap_u8]
 simp[jJ]
def QK(k:Nat):(gH k).even=true->0<=(gH k).n0:=by
 unfold gH
 split<;>simp
end Go.Rec
namespace Go.Cmp
variable {α : Type} [Inhabited α] {c : α -> α -> Int}

end Go.Cmp
namespace Go.Rec
open Go.DL Go.Str Go.Cmp

end Go.Rec
namespace Go.Zon
open Go.DL Go.Str Go.Rec
structure RSig where
 zone:Str
 key:Int
 alg:Int
 frm:Int
 unt:Int
 sum:Int
 deriving Inhabited,DecidableEq
structure Sgd where
 set:RSet
 sigs:List RSig
 deriving Inhabited,DecidableEq
structure ak where
 name:Str
 ty:Int
 deriving Inhabited,DecidableEq
structure Zon where
 apex:Str
 sets:List Sgd
 deriving Inhabited,DecidableEq
def Sgd.q(s:Sgd):ak:=⟨s.set.name,s.set.ty⟩
def RSig.d(x:RSig):List D:=[.v (.string (bs x.zone)),.i x.key,.i x.alg,.i x.frm,.i x.unt,.v (.int .u64 x.sum)]
def RSig.of:List D->RSig
 | [.v (.string s),.v (.int _ a),.v (.int _ b),.v (.int _ c),.v (.int _ d),.v (.int _ e)]=>⟨s.data.toList,a,b,c,d,e⟩
 | _=>default
def Sgd.d(x:Sgd):List D:=[.v (.string (bs x.set.name)),.i x.set.ty,.i x.set.life,.list false (x.set.data.map Dat.d),.list false (x.sigs.map RSig.d)]
def Sgd.of:List D->Sgd
 | [.v (.string s),.v (.int _ t),.v (.int _ l),.list _ rows,.list _ sigs]=>⟨⟨s.data.toList,t,l,rows.map Dat.of⟩,sigs.map RSig.of⟩
 | _=>default
def ak.d(x:ak):List D:=[.v (.string (bs x.name)),.i x.ty]
def ak.of:List D->ak
 | [.v (.string s),.v (.int _ t)]=>⟨s.data.toList,t⟩
 | _=>default
def Zon.d(x:Zon):List D:=[.v (.string (bs x.apex)),.list false (x.sets.map Sgd.d)]
def Zon.of:List D->Zon
 | [.v (.string s),.list _ rows]=>⟨s.data.toList,rows.map Sgd.of⟩
 | _=>default
structure Lay where
 z:Zon
 b:List Str
 deriving Inhabited,DecidableEq
def Lay.d(x:Lay):List D:=[.v (.string (bs x.z.apex)),.list false (x.z.sets.map Sgd.d),.list false (x.b.map sR)]
def Lay.of:List D->Lay
 | [.v (.string s),.list _ rows,.list _ b]=>⟨⟨s.data.toList,rows.map Sgd.of⟩,b.map LJ⟩
 | _=>default
def dz:D->Sgd:=rY Sgd.of default
def fe:D->List Sgd:=wP Sgd.of
def sI:D->List RSig:=wP RSig.of
def lL:D->ak:=rY ak.of default
def Ia:D->List ak:=wP ak.of
def aO:D->Zon:=rY Zon.of default
def xQ:D->Lay:=rY Lay.of default
attribute [go_sem] RSig.d Sgd.d ak.d Zon.d Lay.d
theorem Sj(x:RSig):RSig.of x.d=x:=by simp[RSig.of,RSig.d,tN]
theorem CF(x:Sgd):Sgd.of x.d=x:=by simp[Sgd.of,Sgd.d,tN,kR EC,kR Sj]
theorem LG(x:ak):ak.of x.d=x:=by simp[ak.of,ak.d,tN]
@[go_sem]theorem ZkR{f:Bool}{l:List Sgd}:fe (.list f (l.map Sgd.d))=l:=kR CF l
@[go_sem]theorem ZkQ{f:Bool}:fe (.list f [])=[]:=rfl
@[go_sem]theorem ZkN{f:Bool}{l:List RSig}:sI (.list f (l.map RSig.d))=l:=kR Sj l
@[go_sem]theorem ZkM{f:Bool}:sI (.list f [])=[]:=rfl
@[go_sem]theorem ZkX{f:Bool}{l:List ak}:Ia (.list f (l.map ak.d))=l:=kR LG l
def sgd1_agg{s:ByteArray}{t l:Int}{k k':IntKind}{f f':Bool}{rows sigs:List (List D)}:dz (.agg [.v (.string s),.v (.int k t),.v (.int k' l),.list f rows,.list f' sigs])=⟨⟨s.data.toList,t,l,nP (.list f rows)⟩,sI (.list f' sigs)⟩:=rfl
def qst1_agg{s:ByteArray}{t:Int}{k:IntKind}:lL (.agg [.v (.string s),.v (.int k t)])=⟨s.data.toList,t⟩:=rfl
def zon1_agg{s:ByteArray}{f:Bool}{rows:List (List D)}:aO (.agg [.v (.string s),.list f rows])=⟨s.data.toList,fe (.list f rows)⟩:=rfl
def lay1_agg{s:ByteArray}{f f':Bool}{rows b:List (List D)}:xQ (.agg [.v (.string s),.list f rows,.list f' b])=⟨⟨s.data.toList,fe (.list f rows)⟩,PE (.list f' b)⟩:=rfl
def qst_eta{x:ak}:(⟨x.name,x.ty⟩:ak)=x:=rfl
def set_eta{x:RSet}:(⟨x.name,x.ty,x.life,x.data⟩:RSet)=x:=rfl
def dat_eta{x:Dat}:(⟨x.t,x.n,x.m⟩:Dat)=x:=rfl
def sgd_eta{x:Sgd}:(⟨x.set,x.sigs⟩:Sgd)=x:=rfl
def zon_eta{x:Zon}:(⟨x.apex,x.sets⟩:Zon)=x:=rfl
def lay_eta{x:Lay}:(⟨x.z,x.b⟩:Lay)=x:=rfl
attribute[go_sem]sgd1_agg qst1_agg zon1_agg lay1_agg qst_eta set_eta dat_eta sgd_eta zon_eta lay_eta
def MZ{α:Type}{f:α->List D}{l:List α}{n:Nat}(h:l.length<=n):(l.map f).getD n []=[]:=by
 simp[List.getD,h]
def dB{l:List Sgd}{n:Nat}(h:n<l.length):(l.map Sgd.d).getD n []=[.v (.string (bs l[n]!.set.name)),.i l[n]!.set.ty,.i l[n]!.set.life,.list false (l[n]!.set.data.map Dat.d),.list false (l[n]!.sigs.map RSig.d)]:=by
 simp[List.getD,h,Sgd.d,getElem!_pos]
def vL{l:List RSig}{n:Nat}(h:n<l.length):(l.map RSig.d).getD n []=[.v (.string (bs l[n]!.zone)),.i l[n]!.key,.i l[n]!.alg,.i l[n]!.frm,.i l[n]!.unt,.v (.int .u64 l[n]!.sum)]:=by
 simp[List.getD,h,RSig.d,getElem!_pos]
def Ji{l:List ak}{n:Nat}(h:n<l.length):(l.map ak.d).getD n []=[.v (.string (bs l[n]!.name)),.i l[n]!.ty]:=by
 simp[List.getD,h,ak.d,getElem!_pos]
@[go_sem]theorem EE{l:List RSig}:bu (l.map RSig.d)=true:=by
 induction l with
 | nil=>rfl
 | cons x l ih=>simp only[X8,bu,ih,RSig.d,bA,D.nr];rfl
@[go_sem]theorem D5{l:List RSig}:eB (l.map RSig.d)=l.map RSig.d:=by
 induction l with
 | nil=>rfl
 | cons x l ih=>simp only[X8,eB,ih,RSig.d,wk,dZ]
@[go_sem]theorem CG{l:List Sgd}:bu (l.map Sgd.d)=true:=by
 induction l with
 | nil=>rfl
 | cons x l ih=>simp only[X8,bu,ih,Sgd.d,bA,D.nr,ow,EE];rfl
@[go_sem]theorem OM{l:List Sgd}:eB (l.map Sgd.d)=l.map Sgd.d:=by
 induction l with
 | nil=>rfl
 | cons x l ih=>simp only[X8,eB,ih,Sgd.d,wk,dZ,tV,D5]
@[go_sem]theorem Sv{l:List ak}:bu (l.map ak.d)=true:=by
 induction l with
 | nil=>rfl
 | cons x l ih=>simp only[X8,bu,ih,ak.d,bA,D.nr];rfl
@[go_sem]theorem Zab{l:List ak}:eB (l.map ak.d)=l.map ak.d:=by
 induction l with
 | nil=>rfl
 | cons x l ih=>simp only[X8,eB,ih,ak.d,wk,dZ]
@[go_sem]theorem all_sgd{l:List Sgd}:(∀r∈l.map Sgd.d,r.length=5)=True:=by
 apply eq_true
 intro r hr
 obtain⟨x,_,rfl⟩:=Yr.1 hr
 rfl
@[go_sem]theorem all_sig{l:List RSig}:(∀r∈l.map RSig.d,r.length=6)=True:=by
 apply eq_true
 intro r hr
 obtain⟨x,_,rfl⟩:=Yr.1 hr
 rfl
@[go_sem]theorem all_qst{l:List ak}:(∀r∈l.map ak.d,r.length=2)=True:=by
 apply eq_true
 intro r hr
 obtain⟨x,_,rfl⟩:=Yr.1 hr
 rfl
def wT(s p:Str):Bool:=decide (p.length<=s.length)&&s.drop (s.length-p.length)==p
def under(s z:Str):Bool:=s==z||z==[46]||(decide (z.length<s.length)&&wT s z&&decide ((s.getD (s.length-z.length-1) 0).toNat=46))
def kr(s z:Str):Bool:=az s&&az z&&under s z
def xY(l m:List Str)(i:Nat):Bool:=l[l.length-m.length+i]! == m[i]!
def ik(s z:Str):Bool:=decide ((bC z).length<=(bC s).length)&&aA (bC z).length (xY (bC s) (bC z)) 0
def yM(s:Str):Bool:=decide (0<(bC s).length)&&(bC s)[0]! == [42]
def RQ(s:Str):(bC s).length<=s.length+1:=by
 unfold bC
 split
 . exact Yi _
 exact(GV s).2
def qC(a b:ak):Int:=if a.name=b.name then cmpI a.ty b.ty else(if az a.name&&az b.name then kP a.name b.name else 0)
def pY(q:ak):Bool:=az q.name&&aV q.ty 1 8
def fits(t:Int)(apex:Bool):Bool:=if t=3\/t=6 then !apex else if t=4\/t=7 then apex else true
def lc(apex:Str)(l:List RSig)(i:Nat):Bool :=
 l[i]!.zone==apex&&aV l[i]!.key 1 1000000&&aV l[i]!.alg 1 3&&decide (0<=l[i]!.frm)&&decide (l[i]!.frm<=l[i]!.unt)&&decide (l[i]!.unt<=20000000) &&
 (decide (i=0)||(decide (l[i]!.frm=l[0]!.frm)&&decide (l[i]!.unt=l[0]!.unt)&&decide (l[i-1]!.key<l[i]!.key)))
def mg(l:List RSig)(apex:Str):Bool:=decide (l.length<=6)&&aA l.length (lc apex l) 0
def lg(a b:Sgd):Bool:=decide (a=b)
def sM(a b:List Sgd):Bool:=decide (a=b)
def mh(a b:Zon):Bool:=decide (a=b)
def KV{a b:Sgd}(h1:a.set=b.set)(h2:a.sigs=b.sigs):a=b:=by cases a;cases b;simp_all
theorem CP!{α:Type}[Inhabited α]{a b:List α}(hl:a.length=b.length)(h : ∀i,i<a.length->a[i]! = b[i]!):a=b:=by
 refine List.ext_getElem hl λi h1 h2=>?_
 have:=h i h1
 rwa [getElem!_pos a i h1,getElem!_pos b i h2]at this
theorem gW{n k:Nat}{p:Nat->Bool}(h:n<=k):aA n p k=true:=by rw[iF,XV (by omega)]
theorem eF{n k:Nat}{p:Nat->Bool}(h:k<n)(hF:p k=false):aA n p k=false:=by rw[iF,X3 h,hF];rfl
theorem bF{n k:Nat}{p:Nat->Bool}(h:k<n)(hF:p k=true):aA n p k=aA n p (k+1):=by rw[iF,X3 h,hF];rfl
def pF(c:Nat->Int)(i j:Nat):Nat:=if i<j then(if c ((i+j) / 2)<0 then pF c ((i+j) / 2+1) j else pF c i ((i+j) / 2))else i
termination_by j-i
theorem BP(c:Nat->Int)(i j:Nat):pF c i j=if i<j then(if c ((i+j) / 2)<0 then pF c ((i+j) / 2+1) j else pF c i ((i+j) / 2))else i:=by rw[pF]
theorem Oc(c:Nat->Int):∀(n i j:Nat),j-i<=n->i<=j->pF c i j<=j/\i<=pF c i j:=by
 intro n
 induction n with
 | zero=>intro i j h1 h2;rw[BP,XV (by omega)];omega
 | succ n ih =>
  intro i j h1 h2;rw[BP]
  split
  .
   split
   . have:=ih ((i+j) / 2+1) j om om;omega
   have:=ih i ((i+j) / 2) om om;omega
  omega
def bg(l:List Sgd)(q:ak):Nat:=pF (λk=>qC l[k]!.q q) 0 l.length
def di(l:List Sgd)(q:ak):Bool:=decide (bg l q<l.length)&&qC l[bg l q]!.q q==0
def SY{i j:Nat}(h:i+j<=9223372036854775807):IntKind.i64.wrap ((IntKind.u64.wrap ((i:Int)+j)).fdiv (2^(min 1 64)))=(((i+j) / 2:Nat):Int):=by
 have e:IntKind.u64.wrap ((i:Int)+j)=(i:Int)+j:=by rw[IntKind.wrap_u64];omega
 have e2:((2:Int)^(min 1 64))=2:=rfl
 rw[e,e2,Int.fdiv_eq_ediv_of_nonneg _ (by omega),IntKind.wrap_i64]
 omega
def vC(m:List Str):List D:=m.flatMap λs=>[.v (.string (bs s)),.b true]
def nk(m:List Str)(n:Str):Bool:=decide (n∈m)
def vV(m:List Str)(n:Str):List Str:=if nk m n then m else m++[n]
theorem A9(s:Str)(m:List Str):vC (s::m) = .v (.string (bs s)) :: .b true::vC m:=rfl
theorem Ua{a b:Str}:mJ (.v (.string (bs a))) (.v (.string (bs b)))=(a==b):=by simp[mJ,nM,tN]
@[go_sem]theorem kvT_nil:vC []=[]:=rfl
@[go_sem]theorem ZeS{m:List Str}:bA (vC m)=true:=by
 induction m with
 | nil=>rfl
 | cons s m ih=>rw[A9];simp only[bA,ih];rfl
@[go_sem]theorem wks_kvT{m:List Str}:dZ (vC m)=vC m:=by
 induction m with
 | nil=>rfl
 | cons s m ih=>rw[A9];simp only[dZ,ih];rfl
@[go_sem]theorem kvGetD_T{m:List Str}{n:Str}:(kF (vC m) (.v (.string (bs n)))).getD (.v (.bool false)) = .v (.bool (nk m n)):=by
 induction m with
 | nil=>rfl
 | cons s m ih =>
  rw[A9];simp only[kF,Ua]
  by_cases h:n=s
  . subst h;simp[nk]
  .
   have:(n==s)=false:=by simp[h]
   rw[this];simp only[Yo,Y8,ih,nk,Yl,h,false_or]
@[go_sem]theorem kvSet_T{m:List Str}{n:Str}:jm (vC m) (.v (.string (bs n))) (.v (.bool true))=vC (vV m n):=by
 induction m with
 | nil=>rfl
 | cons s m ih =>
  rw[A9];simp only[jm,Ua]
  by_cases h:n=s
  .
   subst h;have:vV (n::m) n=n::m:=by simp[vV,nk]
   rw[this,A9]
   simp
  .
   have h1:(n==s)=false:=by simp[h]
   rw[h1,ih];have h2:vV (s::m) n=s::vV m n:=by
    unfold vV nk
    by_cases q:n∈m<;>simp[h,q]
   rw[h2,A9];rfl
def oq(apex:Str)(l:List Sgd)(i:Nat):Bool:=fq l[i]!.set&&kr l[i]!.set.name apex&&(decide (i=0)||decide (qC l[i-1]!.q l[i]!.q<0))
def ordered(z:Zon):Bool:=az z.apex && !jC z.apex&&decide (z.sets.length<=20000)&&aA z.sets.length (oq z.apex z.sets) 0
def qz(apex:Str)(l:List Sgd)(i:Nat):Bool:=fits l[i]!.set.ty (l[i]!.set.name==apex)
def pI(z:Zon)(i:Nat):Bool:=di z.sets ⟨z.apex,if i=0 then 4 else 2⟩
def vS(z:Zon):Bool:=aA 2 (pI z) 0&&aA z.sets.length (qz z.apex z.sets) 0
def fC(z:Zon):Nat->List Str
 | 0=>[]
 | k+1=>if z.sets[k]!.set.ty=2/\z.sets[k]!.set.name≠z.apex then vV (fC z k) z.sets[k]!.set.name else fC z k
def stepC(m:List Str)(cut n:Str):Str :=
 let c:=if cut≠[]/\kr n cut=false then[]else cut
 if c=[]/\nk m n=true then n else c
def fw(m:List Str)(l:List Sgd):Nat->List Str×Str
 | 0=>([],[])
 | k+1=>let c:=stepC m (fw m l k).2 l[k]!.set.name;((fw m l k).1++[c],c)
def DJ(z:Zon):List Str:=(fw (fC z z.sets.length) z.sets z.sets.length).1
theorem Wn{z:Zon}{k:Nat}(h:z.sets[k]!.set.ty=2 /\ ¬z.sets[k]!.set.name=z.apex):fC z (k+1)=vV (fC z k) z.sets[k]!.set.name:=X3 h
theorem Wo{z:Zon}{k:Nat}(h : ¬(z.sets[k]!.set.ty=2 /\ ¬z.sets[k]!.set.name=z.apex)):fC z (k+1)=fC z k:=XV h
theorem z8(m:List Str)(l:List Sgd):∀k,(fw m l k).1.length=k
 | 0=>rfl
 | k+1=>by simp[fw,z8 m l k]
def rA(m:List Str)(l:List Sgd)(n k:Nat):List Str:=(fw m l k).1++List.replicate (n-k) []
theorem Lc{m:List Str}{l:List Sgd}{n k:Nat}(h:k<=n):(rA m l n k).length=n:=by simp[rA,z8];omega
theorem Zdu{m:List Str}{l:List Sgd}{n k:Nat}{c:Str}(h:k<n)(hc:c=(fw m l (k+1)).2):(rA m l n k).set k c=rA m l n (k+1):=by
 have e:n-k=(n-(k+1))+1:=by omega
 unfold rA
 rw[e,List.replicate_succ,List.set_append_right _ _ (by rw[z8];exact XW _),z8,Yp,YO]
 have:(fw m l (k+1)).1=(fw m l k).1++[c]:=by rw[hc];rfl
 rw[this,Yw]
 rfl
@[go_sem]theorem rowsB_0{m:List Str}{l:List Sgd}{n:Nat}:(rA m l n 0).map sR=List.replicate n [.v (.string (bs []))]:=by simp[rA,fw,sR]
def Cr{m:List Str}{l:List Sgd}{n k:Nat}{c:Str}(h:k<n)(hc:(fw m l (k+1)).2=c):((rA m l n k).map sR).set k [.v (.string (bs c))]=(rA m l n (k+1)).map sR:=by
 rw[<-Zdu h hc.symm,List.map_set];rfl
@[go_sem]theorem cutsTo_0{z:Zon}:fC z 0=[]:=rfl
theorem Zdv(m:List Str)(l:List Sgd)(n:Nat):rA m l n n=(fw m l n).1:=by simp[rA]
def kU(z:Zon):Lay:=⟨z,DJ z⟩
def nR(l:List Sgd)(i:Nat):Bool:=!decide (l[i]!.set.ty=3)||(!(decide (0<i)&&l[i-1]!.set.name==l[i]!.set.name) && !(decide (i+1<l.length)&&l[i+1]!.set.name==l[i]!.set.name && !decide (l[i+1]!.set.ty=8)))
def uP(x:Lay):Bool:=aA x.z.sets.length (nR x.z.sets) 0
def cutAt(x:Lay)(i:Nat):Bool:=let t:=x.z.sets[i]!.set.ty
 if x.b[i]! = []then !decide (t=6)else if x.b[i]! = x.z.sets[i]!.set.name then decide (t=2)||decide (t=6)||decide (t=8)||decide (t=1)else decide (t=1)
def qP(x:Lay):Bool:=aA x.z.sets.length (cutAt x) 0
def vK(x:Lay)(i:Nat):Bool:=!(!(x.b[i]! == [])&&(decide (x.z.sets[i]!.set.ty=2)||decide (x.z.sets[i]!.set.ty=1))&&decide (0<x.z.sets[i]!.sigs.length))
def zK(x:Lay):Bool:=aA x.z.sets.length (vK x) 0
def rR(z:Zon)(i:Nat):Bool:=mg z.sets[i]!.sigs z.apex
def zN(x:Lay):Bool:=aA x.z.sets.length (rR x.z) 0
def aI(z:Zon):Bool:=ordered z&&vS z&&uP (kU z)&&qP (kU z)&&zK (kU z)&&zN (kU z)
def Oh(z:Zon):(kU z).b.length=(kU z).z.sets.length:=z8 _ _ _
def LB{z:Zon}(h:ordered z=true):z.sets.length<=1000000:=by
 simp only[ordered,XU,XX]at h
 omega
def ZeG{z:Zon}(h:aI z=true):z.sets.length<=1000000:=by
 simp only[aI,XU]at h
 exact LB h.1.1.1.1.1
def ZbJ{z:Zon}(h:aI z=true):bg z.sets ⟨z.apex,4⟩<z.sets.length/\0<z.sets[bg z.sets ⟨z.apex,4⟩]!.set.data.length:=by
 simp only[aI,XU]at h
 obtain⟨⟨⟨⟨⟨h1,h2⟩,_⟩,_⟩,_⟩,_⟩:=h
 simp only[vS,XU]at h2
 have h3:=(eu _ _ _).1 h2.1 0 (XW _) (by omega)
 simp only[pI,Zl,di,XU,XX]at h3
 refine⟨h3.1,?_⟩
 simp only[ordered,XU]at h1
 have h4:=(eu _ _ _).1 h1.2 _ (Yi _) h3.1
 simp only[oq,XU]at h4
 have:=((iJ _).1 h4.1.1).len
 omega
def aL(z:Zon):Int:=z.sets[bg z.sets ⟨z.apex,4⟩]!.set.data[0]!.n
open Go.Cmp

def tJ(x:Sgd):Prop:=x.set.data.length<=100000/\x.sigs.length<=100000
def fH(l:List Sgd):Prop:=l.length<=1000000 /\ ∀k,k<l.length->tJ l[k]!
def uo(z:Zon):Prop:=z.sets.length<=1000000 /\ ∀k,k<z.sets.length->z.sets[k]!.set.name.length<=1000
theorem Zcf{a b:Sgd}(h1:a.set=b.set)(hl:a.sigs.length=b.sigs.length)(h : ∀i,i<a.sigs.length->a.sigs[i]! = b.sigs[i]!):lg a b=true :=
 YG (KV h1 (CP! hl h))
theorem Zch{a b:Sgd}(h : ¬(a.set=b.set/\a.sigs.length=b.sigs.length)):lg a b=false :=
 Y7 λe=>h ⟨by rw[e],by rw[e]⟩
theorem Zcg{a b:Sgd}{k:Nat}(h:a.sigs[k]! ≠ b.sigs[k]!):lg a b=false :=
 Y7 λe=>h (by rw[e])
theorem Qq{a b:List Sgd}{k:Nat}(h:lg a[k]! b[k]! = false):sM a b=false :=
 Y7 λe=>(of_decide_eq_false h) (by rw[e])
theorem Qj{a b:List Sgd}(hl:a.length=b.length)(h : ∀i,i<a.length->lg a[i]! b[i]! = true):sM a b=true :=
 YG (CP! hl λi hi=>YM (h i hi))
theorem Qk{a b:List Sgd}(h:a.length≠b.length):sM a b=false:=Y7 λe=>h (by rw[e])
theorem Zc1(a b:Zon):mh a b=(a.apex==b.apex&&sM a.sets b.sets):=by
 cases a;cases b
 rw[YK]
 simp[mh,sM]
def um(apex:Str)(l:List Sgd)(i:Nat):Bool:=fq l[i]!.set&&ik l[i]!.set.name apex&&(decide (i=0)||decide (lK l[i-1]!.set l[i]!.set<0))
def mr(z:Zon):Bool:=az z.apex && !yM z.apex&&decide (z.sets.length<=20000)&&aA z.sets.length (um z.apex z.sets) 0
def zi{z:Zon}(h:mr z=true):uo z:=by
 simp only[mr,XU,XX]at h
 refine⟨om,λk hk=>?_⟩
 have:=(eu _ _ _).1 h.2 k (Yi _) hk
 simp only[um,XU]at this
 have:=gI ((iJ _).1 this.1.1).name
 omega
def Qw{s:RSet}(h:fq s=true):s.name.length<=1000:=by
 have:=gI ((iJ _).1 h).name
 omega
def rO(l:List Sgd)(q:ak)(k:Nat):Int:=if k<l.length then(if l[k]!.q=q then(k:Int)else rO l q (k+1))else -1
termination_by l.length-k
theorem vE(l:List Sgd)(q:ak)(k:Nat):rO l q k=if k<l.length then(if l[k]!.q=q then(k:Int)else rO l q (k+1))else -1:=by rw[rO]
def dM(l:List Sgd)(q:ak):Int:=rO l q 0
theorem Um(l:List Sgd)(q:ak):∀n k,l.length-k<=n->rO l q k<l.length/\(0<=rO l q k->l[(rO l q k).toNat]!.q=q):=by
 intro n
 induction n with
 | zero=>intro k h;rw[vE,XV (by omega)];exact⟨om,λh=>by omega⟩
 | succ n ih =>
  intro k h;rw[vE]
  split
  .
   split
   .
    rename_i h1 h2
    exact⟨om,λ_=>by simpa using h2⟩
   exact ih (k+1) om
  exact⟨om,λh=>by omega⟩
def Om(l:List Sgd)(q:ak):dM l q<l.length:=(Um l q _ 0 (XW _)).1
def Xi{l:List Sgd}{q:ak}(h:0<=dM l q):l[(dM l q).toNat]!.q=q:=(Um l q _ 0 (XW _)).2 h
def qW(z:Zon):Bool:=decide (0<=dM z.sets ⟨z.apex,4⟩)&&decide (0<=dM z.sets ⟨z.apex,2⟩)&&aA z.sets.length (qz z.apex z.sets) 0
def iM(l:List Sgd):Nat->Str
 | 0=>[]
 | k+1=>if l[k]!.set.ty=3 then l[k]!.set.name else iM l k
def kN(l:List Sgd)(i:Nat):Str:=if 0<i/\l[i-1]!.set.name=l[i]!.set.name then l[i]!.set.name else[]
def ku(l:List Sgd)(i:Nat):Bool:=!((!(kN l i==[])&&decide (l[i]!.set.ty=3))||(!(kN l i==[])&&(kN l i==iM l (i+1)) && !decide (l[i]!.set.ty=3) && !decide (l[i]!.set.ty=8)))
def mW(z:Zon):Bool:=aA z.sets.length (ku z.sets) 0
def lD(z:Zon):Nat->List Str
 | 0=>[]
 | k+1=>if z.sets[k]!.set.ty=2/\z.sets[k]!.set.name≠z.apex then lD z k++[z.sets[k]!.set.name]else lD z k
def gT(z:Zon):List Str:=lD z z.sets.length
def dS(cs:List Str):Nat->List Str
 | 0=>[]
 | k+1=>if dS cs k=[]\/ik cs[k]! (dS cs k)[(dS cs k).length-1]! = false then dS cs k++[cs[k]!]else dS cs k
def bW(z:Zon):List Str:=dS (gT z) (gT z).length
def rZ(hs:List Str)(n:Str)(i:Nat):Nat:=if i<hs.length then(if fQ hs[i]! n<=0 then rZ hs n (i+1)else i)else i
termination_by hs.length-i
theorem Ab(hs:List Str)(n:Str)(i:Nat):rZ hs n i=if i<hs.length then(if fQ hs[i]! n<=0 then rZ hs n (i+1)else i)else i:=by rw[rZ]
theorem Zkk(hs:List Str)(n:Str):∀m i,hs.length-i<=m->i<=hs.length->i<=rZ hs n i/\rZ hs n i<=hs.length:=by
 intro m
 induction m with
 | zero=>intro i h h2;rw[Ab,XV (by omega)];omega
 | succ m ih =>
  intro i h h2;rw[Ab]
  split
  .
   split
   . have:=ih (i+1) om om;omega
   omega
  omega
def jA(hs:List Str)(n:Str)(j:Nat):Str:=if 0<j/\ik n hs[j-1]! = true then hs[j-1]! else[]
def iG(hs:List Str)(l:List Sgd):Nat->Nat
 | 0=>0
 | k+1=>rZ hs l[k]!.set.name (iG hs l k)
def lX(hs:List Str)(l:List Sgd):Nat->List Str
 | 0=>[]
 | k+1=>lX hs l k++[jA hs l[k]!.set.name (iG hs l (k+1))]
def gB(z:Zon):List Str:=lX (bW z) z.sets z.sets.length
theorem yG(hs:List Str)(l:List Sgd):∀k,(lX hs l k).length=k
 | 0=>rfl
 | k+1=>by simp[lX,yG hs l k]
def mi(hs:List Str)(l:List Sgd)(n k:Nat):List Str:=lX hs l k++List.replicate (n-k) []
theorem K9{hs:List Str}{l:List Sgd}{n k:Nat}(h:k<=n):(mi hs l n k).length=n:=by simp[mi,yG];omega
theorem Zdq{hs:List Str}{l:List Sgd}{n k:Nat}{c:Str}(h:k<n)(hc:jA hs l[k]!.set.name (iG hs l (k+1))=c):(mi hs l n k).set k c=mi hs l n (k+1):=by
 have e:n-k=(n-(k+1))+1:=by omega
 unfold mi
 rw[e,List.replicate_succ,List.set_append_right _ _ (by rw[yG];exact XW _),yG,Yp,YO,<-hc]
 have:lX hs l (k+1)=lX hs l k++[jA hs l[k]!.set.name (iG hs l (k+1))]:=rfl
 rw[this,Yw]
 rfl
def Hr{hs:List Str}{l:List Sgd}{n k:Nat}{c:Str}(h:k<n)(hc:jA hs l[k]!.set.name (iG hs l (k+1))=c):((mi hs l n k).map sR).set k [.v (.string (bs c))]=(mi hs l n (k+1)).map sR:=by
 rw[<-Zdq h hc,List.map_set];rfl
def Ht{hs:List Str}{l:List Sgd}{n k:Nat}(h:k<n)(hc:jA hs l[k]!.set.name (iG hs l (k+1))=[]):mi hs l n (k+1)=mi hs l n k:=by
 have e:n-k=(n-(k+1))+1:=by omega
 have:lX hs l (k+1)=lX hs l k++[jA hs l[k]!.set.name (iG hs l (k+1))]:=rfl
 unfold mi
 rw[e,List.replicate_succ,this,hc,Yw]
 rfl
@[go_sem]theorem rowsR_0{hs:List Str}{l:List Sgd}{n:Nat}:(mi hs l n 0).map sR=List.replicate n [.v (.string (bs []))]:=by simp[mi,lX,sR]
theorem Zdr(hs:List Str)(l:List Sgd)(n:Nat):mi hs l n n=lX hs l n:=by simp[mi]
def rQ(z:Zon):Bool:=qP ⟨z,gB z⟩
def xJ(x:Lay)(i:Nat):Bool:=x.b[i]! == []||(!decide (x.z.sets[i]!.set.ty=2) && !decide (x.z.sets[i]!.set.ty=1))
def ul(x:Lay):Nat->List Bool
 | 0=>[]
 | k+1=>ul x k++[xJ x k]
def AJ(z:Zon):List Bool:=ul ⟨z,gB z⟩ z.sets.length
theorem AC(x:Lay):∀k,(ul x k).length=k
 | 0=>rfl
 | k+1=>by simp[ul,AC x k]
theorem Zet(x:Lay):∀n k,k<n->(ul x n)[k]! = xJ x k:=by
 intro n
 induction n with
 | zero=>intro k h;omega
 | succ n ih =>
  intro k h;have hl:=AC x n
  by_cases e:k=n
  . subst e;simp[ul,hl]
  have hk:k<n:=by omega
  rw[<-ih k hk];simp only[ul];rw[getElem!_pos _ _ (by simp[hl];omega),getElem!_pos _ _ (by omega),List.getElem_append_left]
def bR(b:Bool):List D:=[.b b]
def rz(x:Lay)(n k:Nat):List Bool:=ul x k++List.replicate (n-k) false
theorem Lb{x:Lay}{n k:Nat}(h:k<=n):(rz x n k).length=n:=by simp[rz,AC];omega
def La{x:Lay}{n k:Nat}{c:Bool}(h:k<n)(hc:xJ x k=c):((rz x n k).map bR).set k [.b c]=(rz x n (k+1)).map bR:=by
 have e:n-k=(n-(k+1))+1:=by omega
 have:ul x (k+1)=ul x k++[c]:=by rw[<-hc];rfl
 have e2:(rz x n k).set k c=rz x n (k+1):=by
  unfold rz;rw[e,List.replicate_succ,List.set_append_right _ _ (by rw[AC];exact XW _),AC,Yp,YO,this,Yw]
  rfl
 rw[<-e2,List.map_set];rfl
@[go_sem]theorem rowsO_0{x:Lay}{n:Nat}:(rz x n 0).map bR=List.replicate n [.b false]:=by simp[rz,ul,bR]
theorem Zdt(x:Lay)(n:Nat):rz x n n=ul x n:=by simp[rz]
@[go_sem]theorem nrr_bR{l:List Bool}:bu (l.map bR)=true:=by
 induction l with
 | nil=>rfl
 | cons x l ih=>simp only[X8,bu,ih,bR,bA];rfl
@[go_sem]theorem wkr_bR{l:List Bool}:eB (l.map bR)=l.map bR:=by
 induction l with
 | nil=>rfl
 | cons x l ih=>simp only[X8,eB,ih,bR,dZ];rfl
@[go_sem]theorem all_bR{l:List Bool}:(∀r∈l.map bR,r.length=1)=True:=by
 apply eq_true
 intro r hr
 obtain⟨x,_,rfl⟩:=Yr.1 hr
 rfl
def UQ{l:List Bool}{n:Nat}(h:n<l.length):(l.map bR).getD n []=[.b l[n]!]:=by
 simp[List.getD,h,bR,getElem!_pos]
def wX(x:Lay)(i:Nat):Bool:=rR x.z i&&vK x i
def tH(z:Zon):Bool:=aA z.sets.length (wX ⟨z,gB z⟩) 0
def jh(z:Zon):Bool:=mr z&&qW z&&mW z&&rQ z&&tH z
def cZ(z:Zon):Int:=z.sets[(dM z.sets ⟨z.apex,4⟩).toNat]!.set.data[0]!.n
def vN(z:Zon):Bool:=decide (z.sets.length<=100)&&aA z.sets.length (λi=>decide (z.sets[i]!.set.data.length<=20)&&decide (z.sets[i]!.sigs.length<=20)) 0
structure aG where
 apex:Str
 frm:Int
 too:Int
 drop:List ak
 put:List Sgd
 deriving Inhabited,DecidableEq
def aG.d(x:aG):List D:=[.v (.string (bs x.apex)),.i x.frm,.i x.too,.list false (x.drop.map ak.d),.list false (x.put.map Sgd.d)]
def aG.of:List D->aG
 | [.v (.string s),.v (.int _ a),.v (.int _ b),.list _ q,.list _ r]=>⟨s.data.toList,a,b,q.map ak.of,r.map Sgd.of⟩
 | _=>default
def jv:D->aG:=rY aG.of default
attribute [go_sem] aG.d
def ZeL(x:aG):aG.of x.d=x:=by simp[aG.of,aG.d,tN,kR LG,kR CF]
def dlt1_agg{s:ByteArray}{a b:Int}{k k':IntKind}{f f':Bool}{q r:List (List D)}:jv (.agg [.v (.string s),.v (.int k a),.v (.int k' b),.list f q,.list f' r])=⟨s.data.toList,a,b,Ia (.list f q),fe (.list f' r)⟩:=rfl
def dlt_eta{x:aG}:(⟨x.apex,x.frm,x.too,x.drop,x.put⟩:aG)=x:=rfl
attribute[go_sem]dlt1_agg dlt_eta
def iy(x:Int):Bool:=decide (0<=x)&&decide (x<65536)
def gV(a b:Int):Bool:=decide (1<=(b-a+65536) % 65536)&&decide ((b-a+65536) % 65536<=32767)
def mE(a b:Int):Bool×Int:=if iy a&&iy b then(gV a b,0)else(false,1)
def qO(a b:ak):Int:=lK ⟨a.name,a.ty,0,[]⟩ ⟨b.name,b.ty,0,[]⟩
def pG(l:List ak)(q:ak):Bool:=decide (q∈l)
def Dv(l:List ak)(i:Nat):Bool:=pY l[i]! && (decide (i=0)||decide (qO l[i-1]! l[i]! < 0))
def putAt(d:aG)(i:Nat):Bool:=fq d.put[i]!.set&&(decide (i=0)||decide (qO d.put[i-1]!.q d.put[i]!.q<0)) && !pG d.drop d.put[i]!.q
def fO(d:aG):Bool:=az d.apex && !jC d.apex&&iy d.frm&&iy d.too&&gV d.frm d.too&&decide (d.drop.length<=20000)&&decide (d.put.length<=20000)&&aA d.drop.length (Dv d.drop) 0&&aA d.put.length (putAt d) 0
def HV{z:Zon}(h:jh z=true):mr z=true/\qW z=true/\mW z=true/\rQ z=true/\tH z=true:=by
 simp only[jh,XU]at h
 exact⟨h.1.1.1.1,h.1.1.1.2,h.1.1.2,h.1.2,h.2⟩
def Le{z:Zon}(h:jh z=true){k:Nat}(hk:k<z.sets.length):si z.sets[k]!.set:=by
 have h1:=(HV h).1
 simp only[mr,XU]at h1
 have:=(eu _ _ _).1 h1.2 k (Yi _) hk
 simp only[um,XU]at this
 exact(iJ _).1 this.1.1
def Q0{z:Zon}(h:jh z=true):z.sets.length<=20000:=by
 have h1:=(HV h).1
 simp only[mr,XU,XX]at h1
 exact h1.1.2
def ZdB{z:Zon}(h:jh z=true){k:Nat}(hk:k<z.sets.length):z.sets[k]!.sigs.length<=6:=by
 have h1:=(HV h).2.2.2.2
 simp only[tH]at h1
 have:=(eu _ _ _).1 h1 k (Yi _) hk
 simp only[wX,rR,mg,XU,XX]at this
 exact this.1.1
def ZdC{z:Zon}(h:jh z=true):fH z.sets:=by
 have hl:=Q0 h
 refine⟨om,λk hk=>⟨?_,?_⟩⟩
 . have:=(Le h hk).len;omega
 have:=ZdB h hk;omega
theorem Ew{z:Zon}(h:jh z=true):0<=dM z.sets ⟨z.apex,4⟩:=by
 have h1:=(HV h).2.1
 simp only[qW,XU,XX]at h1
 exact h1.1.1
def QZ{z:Zon}(h:jh z=true):(dM z.sets ⟨z.apex,4⟩).toNat<z.sets.length:=by
 have:=Ew h
 have:=Om z.sets ⟨z.apex,4⟩
 omega
def Q3{z:Zon}(h:jh z=true):0<z.sets[(dM z.sets ⟨z.apex,4⟩).toNat]!.set.data.length:=by
 have:=(Le h (QZ h)).len
 omega
def Hz{z:Zon}(h:jh z=true):iy (cZ z)=true:=by
 have hs:=Le h (QZ h)
 have hd:=Q3 h
 have hq:=Xi (Ew h)
 have ht:z.sets[(dM z.sets ⟨z.apex,4⟩).toNat]!.set.ty=4:=congrArg ak.ty hq
 have:=hs.dat _ (YH hd)
 rw[ht]at this
 unfold jQ at this
 simp only[XU,jL]at this
 have hn:=this.1.1.1
 rw[<-getElem!_pos _ 0 hd]at hn
 simp only[iy,cZ,XU]
 have h1:0<=z.sets[(dM z.sets ⟨z.apex,4⟩).toNat]!.set.data[0]!.n:=hn.1
 have h2:z.sets[(dM z.sets ⟨z.apex,4⟩).toNat]!.set.data[0]!.n<=65535:=hn.2
 exact⟨YG h1,YG om⟩
def qL:aG:=⟨[],0,0,[],[]⟩
def dE:Zon:=⟨[],[]⟩


def mI(m:List Sgd):List D:=m.flatMap λs=>[.agg s.q.d,.agg s.d]
theorem zz(s:Sgd)(m:List Sgd):mI (s::m) = .agg s.q.d :: .agg s.d::mI m:=rfl
theorem Zf7:mI []=[]:=rfl
theorem EO{a b:ak}:mJ (.agg a.d) (.agg b.d)=decide (a=b):=by
 cases a;cases b
 rw[YK]
 simp[mJ,pE,nM,ak.d,tN]
def fu:List Sgd->ak->Option Sgd
 | s::m,q=>if s.q=q then some s else fu m q
 | [],_=>none
def wL:List Sgd->Sgd->List Sgd
 | x::m,s=>if x.q=s.q then s::m else x::wL m s
 | [],s=>[s]
theorem Zf6{m:List Sgd}{s:Sgd}:jm (mI m) (.agg s.q.d) (.agg s.d)=mI (wL m s):=by
 induction m with
 | nil=>rfl
 | cons x m ih =>
  rw[zz];simp only[jm,EO,wL]
  by_cases h:x.q=s.q
  . rw[X3 h,h];simp[zz]
  have h2 : ¬s.q=x.q:=λe=>h e.symm
  rw[XV h];simp only[h2,decide_false,Yo,Y8,ih,zz]
@[go_sem]theorem ZeT{m:List Sgd}:bA (mI m)=true:=by
 induction m with
 | nil=>rfl
 | cons s m ih =>
  rw[zz];simp only[bA,ih,D.nr,ak.d,Sgd.d,ow,EE,ZG]
@[go_sem]theorem wks_kvQ{m:List Sgd}:dZ (mI m)=mI m:=by
 induction m with
 | nil=>rfl
 | cons s m ih =>
  rw[zz];simp only[dZ,wk,ih,ak.d,Sgd.d,tV,D5]
def uq(l:List Sgd):Nat->List Sgd
 | 0=>[]
 | k+1=>wL (uq l k) l[k]!
def AZ(l:List Sgd):List Sgd:=uq l l.length
theorem Zfh{m:List Sgd}{s:Sgd}{q:ak}:fu (wL m s) q=if s.q=q then some s else fu m q:=by
 induction m with
 | nil=>rfl
 | cons x m ih =>
  simp only[wL,fu]
  by_cases h:x.q=s.q
  .
   rw[X3 h];simp only[fu]
   by_cases h2:s.q=q
   . simp[h2]
   rw[XV h2,XV h2,XV (by rw[h];exact h2)]
  rw[XV h];simp only[fu,ih]
  by_cases h2:s.q=q
  . rw[X3 h2,X3 h2,XV (by rw[<-h2];exact h)]
  rw[XV h2,XV h2]
abbrev PM:=List (ak×Sgd)
def Mi{h h2:H}{n r:Nat}{y:Option eU}(hn : ∀q,n<=q->h q=none)(hr:h2 r=y)(hk : ∀q,q<n->h2 q=h q):∀q,upd h r y q=h2 q\/upd h r y q=none:=by
 intro q
 by_cases e:q=r
 . subst e;left;rw[bL,hr]
 rw[aJ _ _ _ _ e]
 by_cases q2:q<n
 . left;exact(hk q q2).symm
 right;exact hn q om
def jb(m:PM):List D:=m.flatMap λp=>[.agg p.1.d,.agg p.2.d]
theorem Ba(p:ak×Sgd)(m:PM):jb (p::m) = .agg p.1.d :: .agg p.2.d::jb m:=rfl
def eY:PM->ak->Option Sgd
 | p::m,q=>if p.1=q then some p.2 else eY m q
 | [],_=>none
def EB:PM->ak->Sgd->PM
 | p::m,q,s=>if p.1=q then(q,s)::m else p::EB m q s
 | [],q,s=>[(q,s)]
theorem Zgb{m:PM}{q:ak}:kF (jb m) (.agg q.d)=(eY m q).map λs=>.agg s.d:=by
 induction m with
 | nil=>rfl
 | cons p m ih =>
  rw[Ba];simp only[kF,EO,eY]
  by_cases h:p.1=q
  . subst h;simp
  have h2 : ¬q=p.1:=λe=>h e.symm
  simp only[h,h2,decide_false,Yo,Y8,ih]
@[go_sem]theorem kvGet_P{m:PM}{q:ak}:kF (jb m) (.agg [.v (.string (bs q.name)),.i q.ty])=(eY m q).map λs=>.agg [.v (.string (bs s.set.name)),.i s.set.ty,.i s.set.life,.list false (s.set.data.map Dat.d),.list false (s.sigs.map RSig.d)]:=Zgb
@[go_sem]theorem ZeU{m:PM}:bA (jb m)=true:=by
 induction m with
 | nil=>rfl
 | cons p m ih =>
  rw[Ba];simp only[bA,ih,D.nr,ak.d,Sgd.d,ow,EE,ZG]
@[go_sem]theorem wks_kvP{m:PM}:dZ (jb m)=jb m:=by
 induction m with
 | nil=>rfl
 | cons p m ih =>
  rw[Ba];simp only[dZ,wk,ih,ak.d,Sgd.d,tV,D5]
def PM.of:List D->PM
 | .agg k :: .agg v::l=>(ak.of k,Sgd.of v)::PM.of l
 | _=>[]
theorem LH(m:PM):PM.of (jb m)=m:=by
 induction m with
 | nil=>rfl
 | cons p m ih=>rw[Ba,PM.of,ih,LG,CF]
def fmap1:D->PM
 | .fmap kv=>PM.of kv
 | _=>[]
def wM:D->PM
 | .eptr [d]=>fmap1 d
 | _=>[]
def Gf:D->PM
 | .fn _ _ [d]=>wM d
 | _=>[]
@[go_sem]theorem mapc1_kv{m:PM}:wM (.eptr [.fmap (jb m)])=m:=LH m
@[go_sem]theorem capm1_kv{f:Fn}{x:List D}{m:PM}:Gf (.fn f x [.eptr [.fmap (jb m)]])=m:=LH m
theorem Zea{m:PM}{q x:ak}{s:Sgd}:eY (EB m q s) x=if q=x then some s else eY m x:=by
 induction m with
 | nil=>rfl
 | cons p m ih =>
  simp only[EB,eY]
  by_cases h:p.1=q
  .
   rw[X3 h];simp only[eY]
   by_cases h2:q=x
   . simp[h2]
   rw[XV h2,XV h2,XV (by rw[h];exact h2)]
  rw[XV h];simp only[eY,ih]
  by_cases h2:q=x
  . rw[X3 h2,X3 h2,XV (by rw[<-h2];exact h)]
  rw[XV h2,XV h2]
def kT(l:List Sgd):PM:=(AZ l).map λs=>(s.q,s)
theorem kvQ_P(l:List Sgd):mI l=jb (l.map λs=>(s.q,s)):=by
 induction l with
 | nil=>rfl
 | cons s l ih=>rw[zz,X8,Ba,ih]
theorem Zf9(l:List Sgd):mI (AZ l)=jb (kT l):=kvQ_P _
theorem Zek(l:List Sgd)(q:ak):eY (l.map λs=>(s.q,s)) q=fu l q:=by
 induction l with
 | nil=>rfl
 | cons s l ih=>simp only[X8,eY,fu,ih]
theorem RJ(l:List Sgd)(q:ak):eY (kT l) q=fu (AZ l) q:=Zek _ _
abbrev PZ:=List (ak×Option Sgd)
def vZ:Option Sgd->List D
 | some s=>s.d
 | none=>[.v (.string (bs [])),.i 0,.i 0,.list true [],.list true []]
def qi(m:PZ):List D:=m.flatMap λp=>[.agg p.1.d,.agg (vZ p.2)]
theorem A8(p:ak×Option Sgd)(m:PZ):qi (p::m) = .agg p.1.d :: .agg (vZ p.2)::qi m:=rfl
def xx:PZ->ak->Option Sgd->PZ
 | p::m,q,s=>if p.1=q then(q,s)::m else p::xx m q s
 | [],q,s=>[(q,s)]
theorem Zf4{m:PZ}{q:ak}{s:Option Sgd}:jm (qi m) (.agg q.d) (.agg (vZ s))=qi (xx m q s):=by
 induction m with
 | nil=>rfl
 | cons p m ih =>
  rw[A8];simp only[jm,EO,xx]
  by_cases h:p.1=q
  . rw[X3 h,h];simp[A8]
  have h2 : ¬q=p.1:=λe=>h e.symm
  rw[XV h];simp only[h2,decide_false,Yo,Y8,ih,A8]
@[go_sem]theorem kvSet_Z{m:PZ}{q:ak}:jm (qi m) (.agg [.v (.string (bs q.name)),.i q.ty]) (.agg [.v (.string (bs [])),.i 0,.i 0,.list true [],.list true []])=qi (xx m q none):=Zf4 (s:=none)
@[go_sem]theorem Sq{m:PZ}:bA (qi m)=true:=by
 induction m with
 | nil=>rfl
 | cons p m ih =>
  rw[A8]
  cases hp:p.2 with
  | none=>simp only[bA,ih,D.nr,ak.d,vZ,bu,ZG]
  | some s=>simp only[bA,ih,D.nr,ak.d,vZ,Sgd.d,ow,EE,ZG]
def Ej:Sgd:=⟨⟨[],0,0,[]⟩,[]⟩
def zp(m:PZ):PM:=m.map λp=>(p.1,p.2.getD Ej)
@[go_sem]theorem wks_kvZ{m:PZ}:dZ (qi m)=jb (zp m):=by
 induction m with
 | nil=>rfl
 | cons p m ih =>
  rw[A8];have:zp (p::m)=(p.1,p.2.getD Ej)::zp m:=rfl;rw[this,Ba]
  cases hp:p.2 with
  | none=>simp only[dZ,wk,ih,ak.d,vZ,Option.getD_none,Ej,Sgd.d,eB,Yz]
  | some s=>simp only[dZ,wk,ih,ak.d,vZ,YQ,Sgd.d,tV,D5]
theorem XA(m:PZ)(q:ak)(s:Option Sgd):zp (xx m q s)=EB (zp m) q (s.getD Ej):=by
 induction m with
 | nil=>rfl
 | cons p m ih =>
  have e:zp (p::m)=(p.1,p.2.getD Ej)::zp m:=rfl;unfold xx;rw[e];unfold EB
  by_cases h:p.1=q
  . rw[X3 h,X3 h];rfl
  rw[XV h,XV h,<-ih];rfl
def wN(l:List Sgd):PZ:=(AZ l).map λs=>(s.q,some s)
theorem kvQ_Z(l:List Sgd):mI l=qi (l.map λs=>(s.q,some s)):=by
 induction l with
 | nil=>rfl
 | cons s l ih=>rw[zz,X8,A8,ih];rfl
theorem Zf8(l:List Sgd):mI (AZ l)=qi (wN l):=kvQ_Z _
theorem XB(l:List Sgd):zp (wN l)=kT l:=by
 unfold zp wN kT
 rw[List.map_map]
 rfl
def wV(m:PZ)(l:List ak):Nat->PZ
 | 0=>m
 | k+1=>xx (wV m l k) l[k]! none
@[go_sem]theorem goesZ_0{m:PZ}{l:List ak}:wV m l 0=m:=rfl
def Dl(put:List Sgd)(drop:List ak):PM:=zp (wV (wN put) drop drop.length)
theorem UM(m:PZ)(l:List ak)(q:ak):∀k,k<=l.length->((eY (zp (wV m l k)) q).isSome=true↔(q∈l.take k\/(eY (zp m) q).isSome=true))
 | 0,_=>by simp[wV]
 | k+1,h=>by
  have ih:=UM m l q k (by omega)
  have hk:k<l.length:=by omega
  have e:l.take (k+1)=l.take k++[l[k]!]:=by
   rw[Zj,Yg hk,getElem!_pos l k hk];rfl
  show(eY (zp (xx (wV m l k) l[k]! none)) q).isSome=true↔_
  rw[XA,Zea,e,Yv]
  by_cases h2:l[k]! = q
  . rw[X3 h2];simp[h2]
  rw[XV h2,ih];have:(q∈[l[k]!])=False:=YN λx=>h2 (Yn.1 x).symm
  rw[this,or_false]
def wB(a b:Sgd):Bool:=decide (a.set.life=b.set.life)&&decide (a.set.data=b.set.data)&&decide (a.sigs=b.sigs)
def kH(a b:List Dat):Bool:=decide (a=b)
def w9(a b:List RSig):Bool:=decide (a=b)
theorem Vq{α:Type}{a b:List α}(h:(a.length:Int)≠b.length):a≠b:=by rintro rfl;exact h rfl
theorem Zc2(a b:Sgd):wB a b=(a.set.life==b.set.life&&kH a.set.data b.set.data&&w9 a.sigs b.sigs):=by
 rw[YK]
 simp[wB,kH,w9]
theorem JR{x y:Dat}(h:x.t=y.t/\x.n=y.n/\x.m=y.m):x=y:=by
 cases x;cases y;simp_all
def oz(m:PM)(q:ak):Bool:=!(eY m q).isSome
def yz(o:Option Sgd)(s:Sgd):Bool:=match o with
 | none=>true
 | some x=>!wB x s
def lV(m:PM)(s:Sgd):Option ak:=if oz m s.q=true then some s.q else none
def kX(m:PM)(s:Sgd):Option Sgd:=if yz (eY m s.q) s=true then some s else none
def lw(m:PM)(s:Sgd):Option Sgd:=if oz m s.q=true then some s else none
def j3S(m:PM)(q:ak):Option ak:=if oz m q=true then some q else none
def Jv{α β:Type}[Inhabited α]{f:α->Option β}{l:List α}{k:Nat}(hk:k<l.length){y:β}(h:f l[k]! = some y):(l.take (k+1)).filterMap f=(l.take k).filterMap f++[y]:=by
 rw[Zj,Yg hk,List.filterMap_append]
 rw[getElem!_pos l k hk]at h
 simp[h]
def Jw{α β:Type}[Inhabited α]{f:α->Option β}{l:List α}{k:Nat}(hk:k<l.length)(h:f l[k]! = none):(l.take (k+1)).filterMap f=(l.take k).filterMap f:=by
 rw[Zj,Yg hk,List.filterMap_append]
 rw[getElem!_pos l k hk]at h
 simp[h]
def Jy{α β:Type}(f:α->Option β)(l:List α)(k:Nat):((l.take k).filterMap f).length<=k:=by
 have:=List.length_filterMap_le f (l.take k)
 rw[YR]at this
 omega
attribute [go_sem] List.filterMap_nil Option.map_some Option.map_none Option.getD_some Option.getD_none Option.isSome_some Option.isSome_none
def Ve{α:Type}(l:List α):l.filterMap some=l:=by simp
def qS(a:ak):RSet:=⟨a.name,a.ty,0,[]⟩
theorem Zd1(a b:ak):qC a b=plC (qS a) (qS b):=rfl
theorem Rt(a b:ak):qO a b=lK (qS a) (qS b):=rfl
theorem EA{a b:ak}(ha:az a.name=true)(hb:az b.name=true):qC a b=qO a b:=by
 rw[Zd1,Rt,plC_c (a:=qS a) (b:=qS b) ha hb,Rb (a:=qS a) (b:=qS b) ha hb]
def Zd0{a b:ak}(ha:az a.name=true)(hb:az b.name=true):qO a b=xG (qS a) (qS b):=by
 rw[Rt,Rb (a:=qS a) (b:=qS b) ha hb]
theorem WV(c:Nat->Int)(n:Nat)(mono : ∀i j,i<=j->j<n->c j<0->c i<0):∀m i j,j-i<=m->i<=j->j<=n->(∀k,k<i->c k<0)->(∀k,j<=k->k<n -> ¬c k<0) ->
  (∀k,k<pF c i j->c k<0)/\(∀k,pF c i j<=k->k<n -> ¬c k<0):=by
 intro m
 induction m with
 | zero =>
  intro i j h1 h2 h3 ha hb;rw[BP,XV (by omega)]
  exact⟨ha,λk hk hn=>hb k om hn⟩
 | succ m ih =>
  intro i j h1 h2 h3 ha hb;rw[BP]
  by_cases hij:i<j
  .
   rw[X3 hij]
   by_cases hc:c ((i+j) / 2)<0
   . rw[X3 hc];exact ih _ _ om om h3 (λk hk=>mono k ((i+j) / 2) om om hc) hb
   rw[XV hc];exact ih _ _ om om om ha (λk hk hn hk2=>hc (mono _ k hk hn hk2))
  rw[XV hij];exact⟨ha,λk hk hn=>hb k om hn⟩
theorem TA{α:Type}{c:α->α->Int}(h:Cm c):∀p r:List α,lex c p (p++r)<=0
 | [],[]=>by simp[lex]
 | [],_::_=>by simp[lex]
 | x::p,r=>by
  show pO (c x x) (lex c p (p++r))<=0
  rw[lG,X3 (h.self x)];exact TA h p r
theorem TB{α:Type}{c:α->α->Int}(h:Cm c)(he : ∀x y,c x y=0->x=y):∀p r x:List α,lex c p x<=0->lex c x (p++r)<=0->p <+: x
 | [],r,x,_,_=>List.nil_prefix
 | a::p,r,[],h1,_=>by simp[lex]at h1
 | a::p,r,b::x,h1,h2=>by
  have h1':pO (c a b) (lex c p x)<=0:=h1;have h2':pO (c b a) (lex c x (p++r))<=0:=h2;rw[lG]at h1' h2';have ha:=h.anti a b
  by_cases e:c a b=0
  .
   have e2:c b a=0:=by omega
   rw[X3 e]at h1';rw[X3 e2]at h2';obtain rfl:=he _ _ e;obtain⟨t,rfl⟩:=TB h he p r x h1' h2';exact⟨t,rfl⟩
  rw[XV e]at h1';rw[XV (by omega)]at h2'
  omega
def fE(n c:Str):Prop:=gZ c <+: gZ n
def Ku(n:Str):fE n n:=List.prefix_rfl
def Kt{a b c:Str}(h:fE a b)(k:fE b c):fE a c:=List.IsPrefix.trans k h
def Pd{a b:Str}(h:fE a b)(k:fE b a):a=b :=
 Ld (List.IsPrefix.eq_of_length k (Nat.le_antisymm (List.IsPrefix.length_le k) (List.IsPrefix.length_le h)))
def ZaB{n a b:Str}(h:fE n a)(k:fE n b):fE a b\/fE b a:=List.prefix_or_prefix_of_prefix k h
theorem SA(a b:Str):fQ a b=lex Go.Lib.compareBytes (gZ a) (gZ b):=Io _ _
def Kw{n c:Str}(h:fE n c):fQ c n<=0:=by
 obtain⟨r,hr⟩:=h
 rw[SA,<-hr]
 exact TA J3 _ _
def Kv{n c x:Str}(h:fE n c)(h1:fQ c x<=0)(h2:fQ x n<=0):fE x c:=by
 obtain⟨r,hr⟩:=h
 rw[SA]at h1 h2
 rw[<-hr]at h2
 exact TB J3 (λ_ _=>N9) _ _ _ h1 h2
theorem Bg{s z:Str}:ik s z=true↔fE s z:=by
 unfold fE
 rw[<-Ij,<-Ij,List.reverse_prefix]
 unfold ik
 rw[XU,XX,eu]
 constructor
 .
  rintro⟨h1,h2⟩;refine⟨(bC s).take ((bC s).length-(bC z).length),?_⟩
  conv=>rhs;rw[<-Za ((bC s).length-(bC z).length) (bC s)]
  congr 1
  refine List.ext_getElem (by simp;omega) λi hi hj=>?_
  have:=h2 i (Yi _) hi;unfold xY at this;rw[YA,getElem!_pos (bC s) _ (by omega),getElem!_pos (bC z) _ hi]at this
  rw[List.getElem_drop,this]
 rintro⟨a,ha⟩
 have hl:(bC s).length=a.length+(bC z).length:=by rw[<-ha,X0]
 refine⟨om,λi _ hi=>?_⟩
 unfold xY
 have e:(bC s).length-(bC z).length+i=a.length+i:=by omega
 rw[YA,e,getElem!_pos (bC s) _ (by omega),getElem!_pos (bC z) _ hi]
 have:(bC s)[a.length+i]? = some (bC z)[i]:=by
  rw[<-ha,YL (by omega)]
  simp[hi]
 exact(X7.1 this).2
theorem TM:iC []=false:=by
 unfold iC
 simp
theorem LX:az []=false:=by
 rw[SV,XV (by simp),XV (by simp),yX]
 simp[split,qU,TM]
theorem Ui : ∀(a b:List Str),a≠[]->b≠[]->vD (a++b)=vD a++46::vD b
 | [],_,h,_=>absurd rfl h
 | [p],[],_,h=>absurd rfl h
 | [p],q::r,_,_=>rfl
 | p::q::r,b,_,hb=>by
  have ih:=Ui (q::r) b (by simp) hb
  show p++46::vD ((q::r)++b)=_
  rw[ih]
  simp[vD]
theorem Zbr{s z:Str}:split z <:+ split s↔s=z \/ ∃a,s=a++46::z:=by
 constructor
 .
  rintro⟨a,ha⟩
  by_cases h:a=[]
  .
   subst h
   left
   rw[<-Bc s,<-Bc z,<-ha];rfl
  right
  refine⟨vD a,?_⟩;rw[<-Bc s,<-ha,Ui a _ h (wo z),Bc]
 rintro (h|⟨a,h⟩)
 . rw[h];exact List.suffix_rfl
 rw[h,KM];exact List.suffix_append _ _
theorem Zay{s z:Str}:(decide (z.length<s.length)&&wT s z&&decide ((s.getD (s.length-z.length-1) 0).toNat=46))=true↔∃a,s=a++46::z:=by
 rw[XU,XU,XX,XX]
 unfold wT
 rw[XU,XX,YA]
 constructor
 .
  rintro⟨⟨h1,h2,h3⟩,h4⟩;refine⟨s.take (s.length-z.length-1),?_⟩;have hlt:s.length-z.length-1<s.length:=by omega
  have hc:s[s.length-z.length-1]=46:=by
   apply ZV.1
   show _=46
   rw[<-h4]
   simp[List.getD,hlt]
  conv=>lhs;rw[<-Za (s.length-z.length-1) s]
  rw[YC hlt,hc,show s.length-z.length-1+1=s.length-z.length by omega,h3]
 rintro⟨a,rfl⟩
 have hl:(a++46::z).length=a.length+1+z.length:=by simp;omega
 refine⟨⟨om,om,?_⟩,?_⟩
 .
  rw[hl,show a.length+1+z.length-z.length=a.length+1 by omega]
  simp
 rw[hl,show a.length+1+z.length-z.length-1=a.length by omega]
 simp
theorem Zax{s z:Str}(hs:az s=true)(hz:az z=true):under s z=true↔fE s z:=by
 unfold under fE
 rw[Yc,Yc,YA,YA,Zay]
 by_cases ez:z=[46]
 .
  subst ez;have:gZ [46]=[]:=by simp[gZ]
  rw[this]
  simp
 by_cases es:s=[46]
 .
  subst es;have h1:gZ [46]=[]:=by simp[gZ]
  rw[h1]
  constructor
  .
   rintro ((h|h)|⟨a,h⟩)
   . exact absurd h.symm ez
   . exact absurd h ez
   cases a with
   | nil =>
    have:z=[]:=by simpa using h
    subst this;rw[LX]at hz;cases hz
   | cons x a=>simp at h
  intro h;have:=List.prefix_nil.1 h;unfold gZ at this;rw[XV ez,sO]at this
  cases this
 have e1:gZ s=(split s).reverse:=by unfold gZ;rw[XV es,yX]
 have e2:gZ z=(split z).reverse:=by unfold gZ;rw[XV ez,yX]
 rw[e1,e2,List.reverse_prefix,Zbr]
 constructor
 .
  rintro ((h|h)|h)
  . exact .inl h
  . exact absurd h ez
  exact .inr h
 rintro (h|h)
 . exact .inl (.inl h)
 exact .inr h
theorem D8{s z:Str}(hs:az s=true)(hz:az z=true):kr s z=true↔fE s z:=by
 unfold kr
 rw[hs,hz,ZF,ZF,Zax hs hz]
def Zaz{s z:Str}(hs:az s=true)(hz:az z=true):kr s z=ik s z:=by
 rw[YK,D8 hs hz,Bg]
theorem OT{s:Str}(h:az s=true):jC s=yM s:=by
 by_cases e:s=[46]
 . subst e;rfl
 have hp:bC s=split s:=by unfold bC;rw[XV e,Eg]
 have h0:uk (split s) 0=true:=by
  unfold az at h;rw[XV e]at h
  split at h
  . cases h
  rw[XU,Eg]at h;have:=Zt.2 (wo s);exact(eu _ _ _).1 h.1 0 (XW _) this
 unfold yM
 rw[hp]
 have hpos:=Zt.2 (wo s)
 rw[YG hpos,ZF]
 cases s with
 | nil=>rw[LX]at h;cases h
 | cons c r =>
  obtain⟨p,ps,hq⟩:∃p ps,split r=p::ps:=by
   cases hq:split r with
   | nil=>exact absurd hq (wo r)
   | cons p ps=>exact⟨p,ps,rfl⟩
  by_cases hc:c=46
  .
   subst hc;have hs:split (46::r)=[]::split r:=by rw[split,X3 rfl]
   rw[hs]at h0
   simp[uk,TM]at h0
  have hs:split (c::r)=(c::p)::ps:=by rw[split,XV hc,hq]
  rw[hs]at h0 ⊢;simp only[uk,List.getElem!_cons_zero,decide_true,ZF]at h0 ⊢;rw[YK];unfold jC;simp only[YS,List.getD_cons_zero,XU,XX,YA]
  constructor
  .
   rintro⟨_,h1⟩;rw[Yc]at h0
   rcases h0 with h2|h2
   .
    exfalso
    unfold iC at h2;rw[XU,XU]at h2;have:=(eu _ _ _).1 h2.1.1 0 (XW _) (by simp)
    simp[qf,rX,h1]at this
   exact YA.1 h2
  intro h1;have:=(List.cons.inj h1).1;subst this;exact⟨om,rfl⟩
def qp(a b:ak):Int:=xG (qS a) (qS b)
def JZ:Cm qp:=yA cm_pl qS
theorem y7{a b:ak}:qp a b=0↔a=b:=by
 unfold qp
 rw[Zec]
 cases a;cases b
 simp[qS]
theorem y8{a b:ak}(ha:az a.name=true)(hb:az b.name=true):qO a b=qp a b:=Zd0 ha hb
theorem Cw{a b:ak}(ha:az a.name=true)(hb:az b.name=true):qC a b=qp a b:=by rw[EA ha hb,y8 ha hb]
def Rq{a b:ak}(h:qp a b<0):fQ a.name b.name<=0/\(a.name=b.name->a.ty<b.ty):=by
 have h1:pO (fQ a.name b.name) (Go.Cmp.cmpI a.ty b.ty)<0:=h
 rw[lG]at h1
 split at h1
 .
  rename_i e
  refine⟨om,λ_=>?_⟩
  unfold Go.Cmp.cmpI at h1
  split at h1
  . assumption
  split at h1<;>omega
 rename_i e
 refine⟨om,λe2=>?_⟩
 rw[e2,xk.self]at e
 exact absurd rfl e
def sp(a b:Sgd):Int:=qp a.q b.q
def lW:Cm sp:=yA JZ Sgd.q
def eX(l:List Sgd):Prop:=jR sp l
theorem GN{α:Type}[Inhabited α]{c:α->α->Int}(h:Cm c){l:List α}(k : ∀i,0<i->i<l.length->c l[i-1]! l[i]! < 0):jR c l:=by
 induction l with
 | nil=>exact .nil
 | cons x r ih =>
  have ih:=ih λi h1 h2=>by
   have:=k (i+1) om (by simp;omega)
   obtain⟨j,rfl⟩:∃j,i=j+1:=⟨i-1,om⟩
   simpa using this
  refine YD.2 ⟨?_,ih⟩
  cases r with
  | nil=>simp
  | cons y r =>
   have h1:=k 1 (by omega) (by simp)
   have h1':c x y<0:=by simpa using h1
   intro z hz
   rcases Yl.1 hz with e|e
   . subst e;exact h1'
   have:=(YD.1 ih).1 z e;exact h.lt_le h1' om
def vY{α:Type}[Inhabited α]{c:α->α->Int}{l:List α}(h:jR c l){i j:Nat}(hij:i<j)(hj:j<l.length):c l[i]! l[j]! < 0:=by
 rw[getElem!_pos l i (by omega),getElem!_pos l j hj]
 exact ZH.1 h i j om hj hij
theorem Ed{α:Type}{c:α->α->Int}(h:Cm c):∀{l m:List α},jR c l->jR c m->(∀x,x∈l↔x∈m)->l=m
 | [],[],_,_,_=>rfl
 | [],y::s,_,_,k=>by have:=(k y).2 (by simp);simp at this
 | x::r,[],_,_,k=>by have:=(k x).1 (by simp);simp at this
 | x::r,y::s,hl,hm,k=>by
  have hl':=YD.1 hl;have hm':=YD.1 hm;have e:x=y:=by
   rcases Yl.1 ((k x).1 (by simp))with e|e
   . exact e
   rcases Yl.1 ((k y).2 (by simp))with e2|e2
   . exact e2.symm
   have h1:=hm'.1 x e;have h2:=hl'.1 y e2;have:=h.anti x y;omega
  subst e
  congr 1
  refine Ed h hl'.2 hm'.2 λz=>⟨λhz=>?_,λhz=>?_⟩
  .
   rcases Yl.1 ((k z).1 (by simp[hz]))with e|e
   . subst e;have:=hl'.1 z hz;have:=h.self z;omega
   exact e
  rcases Yl.1 ((k z).2 (by simp[hz]))with e|e
  . subst e;have:=hm'.1 z hz;have:=h.self z;omega
  exact e
def kQ{α:Type}[Inhabited α]{l:List α}{x:α}:x∈l↔∃i,i<l.length/\l[i]! = x:=by
 constructor
 . intro h;obtain⟨i,hi,e⟩:=Zg h;exact⟨i,hi,by rw[getElem!_pos l i hi,e]⟩
 rintro⟨i,hi,e⟩
 rw[getElem!_pos l i hi]at e
 exact e▸YH hi
theorem eO{α:Type}[Inhabited α]{l:List α}{i:Nat}(h:i<l.length):l[i]! ∈ l:=kQ.2 ⟨i,h,rfl⟩
theorem xq{α:Type}[Inhabited α]{l:List α}{p:α->Prop}:(∀x∈l,p x)↔∀i,i<l.length->p l[i]! :=
 ⟨λh i hi=>h _ (eO hi),λh x hx=>by obtain⟨i,hi,rfl⟩:=kQ.1 hx;exact h i hi⟩
theorem AX{l:List Sgd}{q:ak}{s:Sgd}(h:fu l q=some s):s∈l/\s.q=q:=by
 induction l with
 | nil=>cases h
 | cons x l ih =>
  unfold fu at h
  split at h
  . rename_i e;cases h;exact⟨by simp,e⟩
  exact⟨by simp[(ih h).1],(ih h).2⟩
theorem CK{l:List Sgd}{q:ak}:fu l q=none↔∀s∈l,s.q≠q:=by
 induction l with
 | nil=>simp[fu]
 | cons x l ih =>
  unfold fu
  split
  . rename_i e;simp[e]
  rename_i e;rw[ih];simp[e]
theorem vw{l:List Sgd}(h:eX l){s:Sgd}(hs:s∈l):fu l s.q=some s:=by
 induction l with
 | nil=>cases hs
 | cons x l ih =>
  have h':=YD.1 h;unfold fu
  rcases Yl.1 hs with e|e
  . subst e;rw[X3 rfl]
  have:=h'.1 s e;rw[XV,ih h'.2 e];intro e2;unfold sp at this;rw[y7.2 e2]at this;omega
theorem S9{l:List Sgd}(h:eX l){s:Sgd}:s∈l↔fu l s.q=some s:=⟨vw h,λh=>(AX h).1⟩
def Zex{l m:List Sgd}(hl:eX l)(hm:eX m)(h : ∀q,fu l q=fu m q):l=m :=
 Ed lW hl hm λs=>by rw[S9 hl,S9 hm,h]
theorem ZgD(l:List Sgd)(q:ak):∀n k,l.length-k<=n->fu (l.drop k) q=if rO l q k<0 then none else some l[(rO l q k).toNat]! := by
 intro n
 induction n with
 | zero =>
  intro k h;have e:rO l q k = -1:=by rw[vE,XV (by omega)]
  rw[e,Y3 (by omega),X3 (by omega)]
  rfl
 | succ n ih =>
  intro k h;rw[vE]
  by_cases hk:k<l.length
  .
   rw[X3 hk,YC hk];unfold fu;rw[getElem!_pos l k hk]
   by_cases e:l[k].q=q
   . rw[X3 e,X3 e,XV (by omega),show((k:Int)).toNat=k by omega,getElem!_pos l k hk]
   rw[XV e,XV e,ih (k+1) (by omega)]
  rw[XV hk,Y3 (by omega),X3 (by omega)]
  rfl
def J9(l:List Sgd)(q:ak):fu l q=if dM l q<0 then none else some l[(dM l q).toNat]! := ZgD l q _ 0 (XW _)
theorem FL{l:List Sgd}{q:ak}(ho:eX l)(hn : ∀s∈l,az s.set.name=true)(hq:az q.name=true):fu l q=if di l q=true then some l[bg l q]! else none:=by
 have hc : ∀k,k<l.length->qC l[k]!.q q=qp l[k]!.q q:=λk hk=>Cw (hn _ (eO hk)) hq
 obtain⟨h1,h2⟩:=WV (λk=>qC l[k]!.q q) l.length (λi j hij hj h=>by
   rw[hc _ (by omega)]
   rw[hc _ hj]at h
   by_cases e:i=j
   . subst e;exact h
   exact JZ.lt_le (vY ho (by omega:i<j) hj) om) _ 0 l.length (XW _) (Yi _) (XW _) (λk hk=>by omega) (λk h1 h2=>by omega)
 have h1 : ∀k,k<bg l q->qC l[k]!.q q<0:=h1
 have h2 : ∀k,bg l q<=k->k<l.length -> ¬qC l[k]!.q q<0:=h2
 have hle:bg l q<=l.length:=(Oc _ _ 0 l.length (XW _) (Yi _)).1
 by_cases h:di l q=true
 . rw[X3 h];unfold di at h;rw[XU,XX,YA]at h;obtain⟨h3,h4⟩:=h;rw[hc _ h3,y7]at h4;have h5:=vw ho (eO h3);rw[h4]at h5;exact h5
 rw[XV h,CK]
 intro s hs e
 apply h
 obtain⟨k,hk,rfl⟩:=kQ.1 hs
 have hz:qC l[k]!.q q=0:=by rw[hc _ hk,y7,e]
 have hk2:bg l q<=k:=by
  rcases YE k (bg l q)with h5|h5
  . have:=h1 k h5;omega
  exact h5
 have hk3:bg l q=k:=by
  rcases YE (bg l q) k with h5|h5
  .
   have h6:=h2 (bg l q) (XW _) (by omega)
   rw[hc _ (by omega)]at h6
   have h7:=vY ho h5 hk;have h8:qp l[bg l q]!.q l[k]!.q<0:=h7;rw[e]at h8;omega
  omega
 unfold di
 rw[hk3,YG hk,hz]
 rfl
structure nS(z:Zon):Prop where
 apex:az z.apex=true
 wild:jC z.apex=false
 len:z.sets.length<=20000
 ok : ∀s∈z.sets,si s.set
 und : ∀s∈z.sets,fE s.set.name z.apex
 ord:eX z.sets
def nS.nms{z:Zon}(h:nS z):∀s∈z.sets,az s.set.name=true:=λs hs=>(h.ok s hs).name
theorem Lx{z:Zon}:ordered z=true↔nS z:=by
 unfold ordered
 rw[XU,XU,XU,XX,Ya,eu]
 have hO : ∀i,oq z.apex z.sets i=true↔(fq z.sets[i]!.set=true/\kr z.sets[i]!.set.name z.apex=true)/\(i=0\/qC z.sets[i-1]!.q z.sets[i]!.q<0):=by
  intro i;simp[oq]
 constructor
 .
  rintro⟨⟨⟨h1,h2⟩,h3⟩,h4⟩;have h4 : ∀i,i<z.sets.length->_:=λi hi=>(hO i).1 (h4 i (Yi _) hi)
  refine⟨h1,h2,h3,xq.2 λi hi=>(iJ _).1 (h4 i hi).1.1,xq.2 λi hi=>?_,GN lW λi h0 hi=>?_⟩
  . exact(D8 ((iJ _).1 (h4 i hi).1.1).name h1).1 (h4 i hi).1.2
  have h5:=(h4 i hi).2;rw[Cw ((iJ _).1 (h4 (i-1) (by omega)).1.1).name ((iJ _).1 (h4 i hi).1.1).name]at h5
  exact h5.resolve_left om
 intro h
 refine⟨⟨⟨h.apex,h.wild⟩,h.len⟩,λi _ hi=>(hO i).2 ⟨⟨(iJ _).2 (h.ok _ (eO hi)),(D8 (h.nms _ (eO hi)) h.apex).2 (h.und _ (eO hi))⟩,?_⟩⟩
 by_cases e:i=0
 . exact .inl e
 right
 have hi1:i-1<z.sets.length:=by omega
 have n1:az z.sets[i-1]!.q.name=true:=h.nms _ (eO hi1)
 have n2:az z.sets[i]!.q.name=true:=h.nms _ (eO hi)
 rw[Cw n1 n2]
 exact vY h.ord (by omega:i-1<i) hi
theorem H5(a b:Sgd):lK a.set b.set=qO a.q b.q:=rfl
theorem ZeD{z:Zon}:mr z=true↔nS z:=by
 unfold mr
 rw[XU,XU,XU,XX,Ya,eu]
 have hO : ∀i,um z.apex z.sets i=true↔(fq z.sets[i]!.set=true/\ik z.sets[i]!.set.name z.apex=true)/\(i=0\/qO z.sets[i-1]!.q z.sets[i]!.q<0):=by
  intro i;simp[um,H5]
 constructor
 .
  rintro⟨⟨⟨h1,h2⟩,h3⟩,h4⟩;have h4 : ∀i,i<z.sets.length->_:=λi hi=>(hO i).1 (h4 i (Yi _) hi)
  refine⟨h1,by rw[OT h1];exact h2,h3,xq.2 λi hi=>(iJ _).1 (h4 i hi).1.1,xq.2 λi hi=>?_,GN lW λi h0 hi=>?_⟩
  . exact Bg.1 (h4 i hi).1.2
  have h5:=(h4 i hi).2;rw[y8 ((iJ _).1 (h4 (i-1) (by omega)).1.1).name ((iJ _).1 (h4 i hi).1.1).name]at h5
  exact h5.resolve_left om
 intro h
 refine⟨⟨⟨h.apex,by rw[<-OT h.apex];exact h.wild⟩,h.len⟩,λi _ hi=>(hO i).2 ⟨⟨(iJ _).2 (h.ok _ (eO hi)),Bg.2 (h.und _ (eO hi))⟩,?_⟩⟩
 by_cases e:i=0
 . exact .inl e
 right
 have hi1:i-1<z.sets.length:=by omega
 have n1:az z.sets[i-1]!.q.name=true:=h.nms _ (eO hi1)
 have n2:az z.sets[i]!.q.name=true:=h.nms _ (eO hi)
 rw[y8 n1 n2]
 exact vY h.ord (by omega:i-1<i) hi
theorem R4(z:Zon):ordered z=mr z:=by rw[YK,Lx,ZeD]
theorem JF{z:Zon}(h:nS z){q:ak}(hq:az q.name=true):di z.sets q=decide (0<=dM z.sets q):=by
 have h1:=FL h.ord h.nms hq
 have h2:=J9 z.sets q
 rw[h1]at h2
 rw[YK,XX]
 by_cases e:di z.sets q=true
 .
  rw[X3 e]at h2
  split at h2
  . cases h2
  exact⟨λ_=>by omega,λ_=>e⟩
 rw[XV e]at h2
 split at h2
 . exact⟨λh=>absurd h e,λh=>by omega⟩
 cases h2
theorem Vj{z:Zon}(h:nS z){q:ak}(hq:az q.name=true)(hf:0<=dM z.sets q):z.sets[bg z.sets q]! = z.sets[(dM z.sets q).toNat]! := by
 have h1:=FL h.ord h.nms hq
 have h2:=J9 z.sets q
 rw[JF h hq,X3 (YG hf)]at h1
 rw[XV (by omega),h1]at h2
 exact Zu h2
theorem Zke{z:Zon}(h:nS z):vS z=qW z:=by
 unfold vS qW
 congr 1
 have e:aA 2 (pI z) 0=(pI z 0&&pI z 1):=by
  rw[iF,X3 (by omega),iF,X3 (by omega),iF,XV (by omega),Bool.and_true]
 rw[e]
 unfold pI
 rw[JF h h.apex,JF h h.apex]
 rfl
end Go.Zon
namespace Go.Zon
open Go.DL Go.Str Go.Rec Go.Cmp
def Gi{n:Nat}{p q:Nat->Bool}(h : ∀i,i<n->p i=q i):aA n p 0=aA n q 0:=by
 rw[YK,eu,eu]
 exact⟨λk i h1 h2=>by rw[<-h i h2];exact k i h1 h2,λk i h1 h2=>by rw[h i h2];exact k i h1 h2⟩
theorem Xt{n:Nat}{p:Nat->Bool}:aA n p 0=false↔∃i,i<n/\p i=false:=by
 constructor
 .
  intro h
  apply YV
  intro k;have:aA n p 0=true:=(eu _ _ _).2 λi _ hi=>by
   cases e:p i with
   | true=>rfl
   | false=>exact absurd ⟨i,hi,e⟩ k
  rw[this]at h
  cases h
 rintro⟨i,hi,h⟩
 cases e:aA n p 0 with
 | false=>rfl
 | true=>rw[(eu _ _ _).1 e i (Yi _) hi]at h;cases h
theorem Zkg{n:Nat}{p q:Nat->Bool}:aA n (λi=>p i&&q i) 0=(aA n p 0&&aA n q 0):=by
 rw[YK,XU,eu,eu,eu]
 simp only[XU]
 exact⟨λh=>⟨λi h1 h2=>(h i h1 h2).1,λi h1 h2=>(h i h1 h2).2⟩,λh i h1 h2=>⟨h.1 i h1 h2,h.2 i h1 h2⟩⟩
section
variable {z : Zon} (h : nS z)
include h
def AL{i j:Nat}(hij:i<=j)(hj:j<z.sets.length):fQ z.sets[i]!.set.name z.sets[j]!.set.name<=0:=by
 by_cases e:i=j
 . subst e;rw[xk.self];exact Int.le_refl _
 exact(Rq (vY h.ord (by omega:i<j) hj)).1
def LA{i j:Nat}(hij:i<j)(hj:j<z.sets.length)(e:z.sets[i]!.set.name=z.sets[j]!.set.name):z.sets[i]!.set.ty<z.sets[j]!.set.ty :=
 (Rq (vY h.ord hij hj)).2 e
def Zew{i k j:Nat}(hik:i<=k)(hkj:k<=j)(hj:j<z.sets.length)(e:z.sets[i]!.set.name=z.sets[j]!.set.name):z.sets[k]!.set.name=z.sets[j]!.set.name:=by
 have h1:=AL h hik (by omega)
 have h2:=AL h hkj hj
 rw[e]at h1
 have:=xk.anti z.sets[k]!.set.name z.sets[j]!.set.name
 exact EH om
def LW{i:Nat}(hi:i<z.sets.length):z.sets[i]!.set.name≠[]:=by
 intro e
 have:=h.nms _ (eO hi)
 rw[e,LX]at this
 cases this
def ty_le{i:Nat}(hi:i<z.sets.length):1<=z.sets[i]!.set.ty/\z.sets[i]!.set.ty<=8:=jL.1 (h.ok _ (eO hi)).ty
def OA(l:List Sgd):Prop:=∃i,i+1<l.length/\l[i]!.set.name=l[i+1]!.set.name/\(l[i+1]!.set.ty=3\/(l[i]!.set.ty=3/\l[i+1]!.set.ty≠8))
omit h in
theorem Xu(l:List Sgd):∀k,iM l k≠[] -> ∃j,j<k/\l[j]!.set.ty=3/\l[j]!.set.name=iM l k
 | 0,hk=>absurd rfl hk
 | k+1,hk=>by
  unfold iM at hk ⊢
  split at hk
  . rename_i e;exact⟨k,om,e,by rw[X3 e]⟩
  rename_i e
  obtain⟨j,h1,h2,h3⟩:=Xu l k hk;exact⟨j,om,h2,by rw[XV e,h3]⟩
omit h in
def Zki:uP (kU z)=false↔OA z.sets:=by
 unfold uP
 rw[Xt]
 show(∃i,i<z.sets.length/\nR z.sets i=false)↔_
 unfold nR OA
 constructor
 .
  rintro⟨i,hi,k⟩;simp only[Yd,Yy,Yq,Ya,XX,X4,YA,XU,Ya,ZC,ne_eq]at k;obtain⟨k1,k2|⟨k2,k3⟩⟩:=k
  . exact⟨i-1,om,by rw[show i-1+1=i by omega];exact k2.2,.inl (by rw[show i-1+1=i by omega];exact k1)⟩
  exact⟨i,om,k2.2.symm,.inr ⟨k1,k3⟩⟩
 rintro⟨i,hi,k1,k2⟩
 rcases k2 with k2|⟨k2,k3⟩
 .
  refine⟨i+1,hi,?_⟩;have hb:(z.sets[i]!.set.name==z.sets[i+1]!.set.name)=true:=YA.2 k1;rw[YG k2,Nat.add_sub_cancel,hb,YG (show 0<i+1 by omega)]
  rfl
 refine⟨i,om,?_⟩
 have hb:(z.sets[i+1]!.set.name==z.sets[i]!.set.name)=true:=YA.2 k1.symm
 rw[YG k2,YG hi,hb,Y7 k3]
 simp
def Zbd:mW z=false↔OA z.sets:=by
 unfold mW
 rw[Xt]
 have hp : ∀i,kN z.sets i≠[]↔(0<i/\z.sets[i-1]!.set.name=z.sets[i]!.set.name/\z.sets[i]!.set.name≠[]):=by
  intro i;unfold kN;split
  . rename_i q;exact⟨λk=>⟨q.1,q.2,k⟩,λk=>k.2.2⟩
  rename_i q;exact⟨λk=>absurd rfl k,λk=>absurd ⟨k.1,k.2.1⟩ q⟩
 have hpe : ∀i,0<i->z.sets[i-1]!.set.name=z.sets[i]!.set.name->kN z.sets i=z.sets[i]!.set.name:=λi h1 h2=>X3 ⟨h1,h2⟩
 have key : ∀i,ku z.sets i=false↔(kN z.sets i≠[]/\(z.sets[i]!.set.ty=3\/(kN z.sets i=iM z.sets (i+1)/\z.sets[i]!.set.ty≠3/\z.sets[i]!.set.ty≠8))):=by
  intro i;unfold ku
  by_cases a1:kN z.sets i=[]<;>by_cases a2:z.sets[i]!.set.ty=3<;>by_cases a3:kN z.sets i=iM z.sets (i+1)<;>by_cases a4:z.sets[i]!.set.ty=8<;>simp_all
 constructor
 .
  rintro⟨i,hi,k⟩;rw[key]at k;obtain⟨k1,k2⟩:=k;obtain⟨k0,k3,k4⟩:=(hp i).1 k1
  rcases k2 with k2|⟨k5,k6,k7⟩
  . exact⟨i-1,om,by rw[show i-1+1=i by omega];exact k3,.inl (by rw[show i-1+1=i by omega];exact k2)⟩
  rw[hpe i k0 k3]at k5;obtain⟨j,j1,j2,j3⟩:=Xu z.sets (i+1) (by rw[<-k5];exact k4)
  rw[<-k5]at j3;have hji:j<i:=by
   rcases YE j i with e|e
   . exact e
   have:j=i:=by omega
   subst this;exact absurd j2 k6
  have hm:=Zew h (i:=j) (k:=j+1) (j:=i) (by omega) (by omega) hi j3
  refine⟨j,om,by rw[hm,j3],.inr ⟨j2,?_⟩⟩
  have:=ty_le h hi
  by_cases e:j+1=i
  . rw[e];exact k7
  have:=LA h (i:=j+1) (j:=i) om hi hm;omega
 rintro⟨i,hi,k1,k2⟩
 refine⟨i+1,hi,(key _).2 ⟨(hp _).2 ⟨om,k1,LW h hi⟩,?_⟩⟩
 rcases k2 with k2|⟨k2,k3⟩
 . exact .inl k2
 have ht:=LA h (i:=i) (j:=i+1) (by omega) hi k1
 by_cases e:z.sets[i+1]!.set.ty=3
 . exact .inl e
 refine .inr ⟨?_,e,k3⟩
 rw[hpe (i+1) (by omega) k1]
 show _=(if z.sets[i+1]!.set.ty=3 then _ else iM z.sets (i+1))
 rw[XV e]
 show _=(if z.sets[i]!.set.ty=3 then z.sets[i]!.set.name else _)
 rw[X3 k2,k1]
theorem Zkh:uP (kU z)=mW z:=by
 have h1:=Zki (z:=z)
 have h2:=Zbd h
 cases e1:uP (kU z)<;>cases e2:mW z
 . rfl
 . rw[e1]at h1;rw[e2]at h2;have:=h2.2 (h1.1 rfl);cases this
 . rw[e1]at h1;rw[e2]at h2;have:=h1.2 (h2.1 rfl);cases this
 rfl
end
def Top(C:Str->Prop)(n c:Str):Prop:=C c/\fE n c /\ ∀c',C c'->fE c c'->c'=c
def BZ(C:Str->Prop)(n b:Str):Prop:=(b=[] /\ ∀c,C c -> ¬fE n c)\/(b≠[]/\Top C n b)
def Kz{C:Str->Prop}{n c c':Str}(h:Top C n c)(h1:C c')(h2:fE n c'):fE c' c:=by
 rcases ZaB h.2.1 h2 with k|k
 . rw[h.2.2 c' h1 k];exact Ku _
 exact k
def ZjO{C:Str->Prop}{n b b':Str}(h:BZ C n b)(h':BZ C n b'):b=b':=by
 rcases h with⟨h1,h2⟩|⟨h1,h2⟩<;>rcases h' with⟨k1,k2⟩|⟨k1,k2⟩
 . rw[h1,k1]
 . exact absurd k2.2.1 (h2 _ k2.1)
 . exact absurd h2.2.1 (k2 _ h2.1)
 exact Pd (Kz k2 h2.1 h2.2.1) (Kz h2 k2.1 k2.2.1)
def pM(z:Zon)(c:Str):Prop:=∃i,i<z.sets.length/\z.sets[i]!.set.ty=2/\z.sets[i]!.set.name≠z.apex/\z.sets[i]!.set.name=c
theorem Zfs{m:List Str}{a b:Str}:nk (vV m a) b=true↔b=a\/nk m b=true:=by
 unfold vV
 split
 .
  rename_i h
  constructor
  . exact λk=>.inr k
  rintro (k|k)
  . rw[k];exact h
  exact k
 unfold nk
 simp only[XX,Yv,Yl,YZ,or_false]
 exact⟨λk=>k.symm,λk=>k.symm⟩
theorem Wp(z:Zon)(c:Str):∀k,nk (fC z k) c=true↔∃i,i<k/\z.sets[i]!.set.ty=2/\z.sets[i]!.set.name≠z.apex/\z.sets[i]!.set.name=c
 | 0=>by simp[fC,nk]
 | k+1=>by
  have ih:=Wp z c k
  by_cases e:z.sets[k]!.set.ty=2 /\ ¬z.sets[k]!.set.name=z.apex
  .
   rw[Wn e,Zfs,ih]
   constructor
   .
    rintro (k1|⟨i,k1,k2⟩)
    . exact⟨k,om,e.1,e.2,k1.symm⟩
    exact⟨i,om,k2⟩
   rintro⟨i,k1,k2⟩
   by_cases e2:i=k
   . subst e2;exact .inl k2.2.2.symm
   exact .inr ⟨i,om,k2⟩
  rw[Wo e,ih]
  constructor
  . rintro⟨i,k1,k2⟩;exact⟨i,om,k2⟩
  rintro⟨i,k1,k2⟩
  by_cases e2:i=k
  . subst e2;exact absurd ⟨k2.1,k2.2.1⟩ e
  exact⟨i,om,k2⟩
def Wv{z:Zon}{c:Str}:nk (fC z z.sets.length) c=true↔pM z c:=Wp z c _
theorem JW(z:Zon)(c:Str):∀k,c∈lD z k↔∃i,i<k/\z.sets[i]!.set.ty=2/\z.sets[i]!.set.name≠z.apex/\z.sets[i]!.set.name=c
 | 0=>by simp[lD]
 | k+1=>by
  have ih:=JW z c k;unfold lD
  by_cases e:z.sets[k]!.set.ty=2/\z.sets[k]!.set.name≠z.apex
  .
   rw[X3 e,Yv,ih]
   constructor
   .
    rintro (⟨i,k1,k2⟩|k1)
    . exact⟨i,om,k2⟩
    exact⟨k,om,e.1,e.2,by simpa using(Yn.1 k1).symm⟩
   rintro⟨i,k1,k2⟩
   by_cases e2:i=k
   . subst e2;exact .inr (Yn.2 k2.2.2.symm)
   exact .inl ⟨i,om,k2⟩
  rw[XV e,ih]
  constructor
  . rintro⟨i,k1,k2⟩;exact⟨i,om,k2⟩
  rintro⟨i,k1,k2⟩
  by_cases e2:i=k
  . subst e2;exact absurd ⟨k2.1,k2.2.1⟩ e
  exact⟨i,om,k2⟩
section
variable {z : Zon} (h : nS z)
include h
def NS{c:Str}(hc:pM z c):az c=true/\c≠[]:=by
 obtain⟨i,hi,_,_,rfl⟩:=hc
 exact⟨h.nms _ (eO hi),LW h hi⟩
theorem Xd : ∀k,k<=z.sets.length->(k=0\/BZ (pM z) z.sets[k-1]!.set.name (fw (fC z z.sets.length) z.sets k).2)
 | 0,_=>.inl rfl
 | k+1,hk=>by
  have hk':k<z.sets.length:=by omega
  have hn:=h.nms _ (eO hk');have hne:=LW h hk'
  right
  show BZ (pM z) z.sets[k]!.set.name (stepC (fC z z.sets.length) (fw (fC z z.sets.length) z.sets k).2 z.sets[k]!.set.name)
  have ih:=Xd k (by omega)
  generalize hcut:(fw (fC z z.sets.length) z.sets k).2=cut at ih;generalize hN:z.sets[k]!.set.name=n at *;have A : ∀c',pM z c'->fE n c'->c'≠n->cut≠[]/\Top (pM z) n cut:=by
   intro c' hc hu hne';obtain⟨i,hi,hi2,hi3,hi4⟩:=hc;have hik:i<k:=by
    rcases YE i k with e|e
    . exact e
    have h1:=AL h e hi;rw[hN,hi4]at h1;have h2:=Kw hu;have:=xk.anti n c';exact absurd (EH (by omega:fQ c' n=0)) hne'
   have h1:fE z.sets[k-1]!.set.name c':=by
    refine Kv hu ?_ ?_
    . rw[<-hi4];exact AL h (by omega) (by omega)
    rw[<-hN];exact AL h (by omega) hk'
   rcases ih with e|⟨e,e2⟩|⟨e,e2⟩
   . omega
   . exact absurd h1 (e2 _ ⟨i,hi,hi2,hi3,hi4⟩)
   have h3:=Kz e2 ⟨i,hi,hi2,hi3,hi4⟩ h1;exact⟨e,e2.1,Kt hu h3,e2.2.2⟩
  have B:(∀c',pM z c'->fE n c'->c'=n)->BZ (pM z) n (if nk (fC z z.sets.length) n=true then n else[]):=by
   intro hall
   by_cases e:nk (fC z z.sets.length) n=true
   . rw[X3 e];exact .inr ⟨hne,Wv.1 e,Ku _,hall⟩
   rw[XV e];exact .inl ⟨rfl,λc hc hu=>e (by rw[hall c hc hu]at hc;exact Wv.2 hc)⟩
  unfold stepC;dsimp only
  by_cases e1:cut≠[]/\kr n cut=false
  .
   rw[X3 e1];have hCc:pM z cut:=by
    rcases ih with e|⟨e,_⟩|⟨_,e⟩
    . subst e;exact absurd (show cut=[]from hcut.symm) e1.1
    . exact absurd e e1.1
    exact e.1
   have hall : ∀c',pM z c'->fE n c'->c'=n:=by
    intro c' hc hu
    apply YV
    intro hne';obtain⟨_,a2⟩:=A c' hc hu hne';have:=(D8 hn (NS h hCc).1).2 a2.2.1;rw[e1.2]at this;cases this
   have:=B hall
   by_cases e:nk (fC z z.sets.length) n=true
   . rw[X3 ⟨rfl,e⟩];rw[X3 e]at this;exact this
   rw[XV (λq=>e q.2)];rw[XV e]at this;exact this
  rw[XV e1]
  by_cases e2:cut=[]
  .
   have hall : ∀c',pM z c'->fE n c'->c'=n:=by
    intro c' hc hu
    apply YV
    intro hne';exact(A c' hc hu hne').1 e2
   have:=B hall
   by_cases e:nk (fC z z.sets.length) n=true
   . rw[X3 ⟨e2,e⟩];rw[X3 e]at this;exact this
   rw[XV (λq=>e q.2),e2];rw[XV e]at this;exact this
  rw[XV (λq=>e2 q.1)]
  have hT:Top (pM z) z.sets[k-1]!.set.name cut:=by
   rcases ih with e|⟨e,_⟩|⟨_,e⟩
   . subst e;exact absurd (show cut=[]from hcut.symm) e2
   . exact absurd e e2
   exact e
  have hu:kr n cut=true:=by
   cases e:kr n cut with
   | true=>rfl
   | false=>exact absurd ⟨e2,e⟩ e1
  exact .inr ⟨e2,hT.1,(D8 hn (NS h hT.1).1).1 hu,hT.2.2⟩
omit h in
theorem ZjP(m:List Str)(l:List Sgd):∀n k,k<n->(fw m l n).1[k]! = (fw m l (k+1)).2:=by
 intro n
 induction n with
 | zero=>intro k h;omega
 | succ n ih =>
  intro k h;have hl:=z8 m l n;have e1:(fw m l (n+1)).1=(fw m l n).1++[(fw m l (n+1)).2]:=rfl
  by_cases e:k=n
  . subst e;rw[e1];simp[hl]
  rw[<-ih k (by omega),e1,getElem!_pos _ _ (by simp[hl];omega),getElem!_pos _ _ (by omega),List.getElem_append_left]
def ZjS{k:Nat}(hk:k<z.sets.length):BZ (pM z) z.sets[k]!.set.name (DJ z)[k]! := by
 unfold DJ
 rw[ZjP _ _ _ _ hk]
 exact(Xd h (k+1) hk).resolve_left om
theorem Wq : ∀k,k<=z.sets.length->jR fQ (lD z k)
 | 0,_=>.nil
 | k+1,hk=>by
  have ih:=Wq k (by omega)
  unfold lD
  split
  .
   rename_i e
   refine Ze.2 ⟨ih,Z7 _ _,λa ha b hb=>?_⟩
   rw[Yn]at hb;subst hb;obtain⟨i,hi,hi2,hi3,rfl⟩:=(JW z a k).1 ha;have h1:=AL h (show i<=k by omega) (by omega)
   by_cases e2:fQ z.sets[i]!.set.name z.sets[k]!.set.name=0
   . have:=LA h hi om (EH e2);omega
   omega
  exact ih
structure High(cs hs:List Str):Prop where
 sub : ∀x∈hs,x∈cs
 cov : ∀c∈cs,∃x∈hs,fE c x
 pair:hs.Pairwise λa b=>fQ a b<0 /\ ¬fE b a
omit h in
def TJ{α:Type}[Inhabited α]{l:List α}(h:l≠[]):l[l.length-1]! ∈ l:=eO (by have:=Zt.2 h;omega)
omit h in
theorem qY!{α:Type}[Inhabited α]{l:List α}{k:Nat}(h:k<l.length):l.take (k+1)=l.take k++[l[k]!]:=by
 rw[Zj,Yg h,getElem!_pos l k h]
 rfl
omit h in
def Zer{α:Type}[Inhabited α]{r:α->α->Prop}{l:List α}(h:l.Pairwise r){x:α}(hx:x∈l):x=l[l.length-1]! \/ r x l[l.length-1]! := by
 obtain⟨i,hi,rfl⟩:=kQ.1 hx
 by_cases e:i=l.length-1
 . left;rw[<-e]
 right
 rw[getElem!_pos l i hi,getElem!_pos l _ (by omega)]
 exact ZH.1 h i (l.length-1) hi om om
omit h in
theorem UC{cs:List Str}(hc:jR fQ cs):∀k,k<=cs.length->High (cs.take k) (dS cs k)
 | 0,_=>⟨λx hx=>(by simp[dS]at hx),λc hc=>(by simp at hc),(by simp[dS])⟩
 | k+1,hk=>by
  have ih:=UC hc k (by omega)
  have hkl:k<cs.length:=by omega
  have ht:cs.take (k+1)=cs.take k++[cs[k]!]:=qY! hkl;have hlt : ∀x∈cs.take k,fQ x cs[k]! < 0:=by
   intro x hx;obtain⟨i,hi,e⟩:=kQ.1 hx;rw[YR]at hi;have e2:(cs.take k)[i]! = cs[i]! := by
    rw[getElem!_pos _ _ (by rw[YR];omega),getElem!_pos _ _ (by omega),List.getElem_take]
   rw[<-e,e2];exact vY hc om hkl
  unfold dS
  by_cases e:dS cs k=[]\/ik cs[k]! (dS cs k)[(dS cs k).length-1]! = false
  .
   rw[X3 e,ht];refine⟨λx hx=>?_,λc hc'=>?_,Ze.2 ⟨ih.pair,Z7 _ _,λa ha b hb=>?_⟩⟩
   .
    rcases Yv.1 hx with hx|hx
    . exact ZT _ (ih.sub x hx)
    exact List.mem_append_right _ hx
   .
    rcases Yv.1 hc' with hc'|hc'
    . obtain⟨x,hx,hu⟩:=ih.cov c hc';exact⟨x,ZT _ hx,hu⟩
    exact⟨c,List.mem_append_right _ hc',Ku _⟩
   rw[Yn]at hb;subst hb;refine⟨hlt a (ih.sub a ha),λhu=>?_⟩
   have hne:dS cs k≠[]:=λq=>by rw[q]at ha;cases ha
   have hin:=e.resolve_left hne;have hnl : ¬fE cs[k]! (dS cs k)[(dS cs k).length-1]! := λq=>by rw[Bg.2 q]at hin;cases hin
   rcases Zer ih.pair ha with q|q
   . rw[<-q]at hnl;exact hnl hu
   have hl:=hlt _ (ih.sub _ (TJ hne));exact q.2 (Kv hu om om)
  rw[XV e,ht];have hne:dS cs k≠[]:=λq=>e (.inl q)
  have hin:fE cs[k]! (dS cs k)[(dS cs k).length-1]! := by
   apply Bg.1
   cases q:ik cs[k]! (dS cs k)[(dS cs k).length-1]! with
   | true=>rfl
   | false=>exact absurd (.inr q) e
  refine⟨λx hx=>ZT _ (ih.sub x hx),λc hc'=>?_,ih.pair⟩
  rcases Yv.1 hc' with hc'|hc'
  . exact ih.cov c hc'
  rw[Yn]at hc';subst hc';exact⟨_,TJ hne,hin⟩
def Zg1:(∀x∈bW z,pM z x)/\(∀c,pM z c -> ∃x∈bW z,fE c x)/\(bW z).Pairwise λa b=>fQ a b<0 /\ ¬fE b a:=by
 have hh:=UC (Wq h z.sets.length (XW _)) _ (XW _)
 rw[Yt]at hh
 exact⟨λx hx=>(JW z x _).1 (hh.sub x hx),λc hc=>hh.cov c ((JW z c _).2 hc),hh.pair⟩
omit h in
theorem Zkj(hs:List Str)(n:Str):∀m i,hs.length-i<=m->i<=hs.length->(∀k,k<i->fQ hs[k]! n<=0)->(∀k,k<rZ hs n i->fQ hs[k]! n<=0)/\(rZ hs n i<hs.length -> ¬fQ hs[rZ hs n i]! n<=0):=by
 intro m
 induction m with
 | zero=>intro i h1 h2 h3;rw[Ab,XV (by omega)];exact⟨h3,λh=>by omega⟩
 | succ m ih =>
  intro i h1 h2 h3;rw[Ab]
  by_cases e:i<hs.length
  .
   rw[X3 e]
   by_cases e2:fQ hs[i]! n<=0
   .
    rw[X3 e2];refine ih (i+1) om om λk hk=>?_
    by_cases e3:k=i
    . subst e3;exact e2
    exact h3 k om
   rw[XV e2];exact⟨h3,λ_=>e2⟩
  rw[XV e];exact⟨h3,λh=>absurd h e⟩
theorem Xv(hs:List Str):∀k,k<=z.sets.length->iG hs z.sets k<=hs.length/\(0<k->(∀i,i<iG hs z.sets k->fQ hs[i]! z.sets[k-1]!.set.name<=0)/\(iG hs z.sets k<hs.length -> ¬fQ hs[iG hs z.sets k]! z.sets[k-1]!.set.name<=0))
 | 0,_=>⟨Yi _,λh=>by omega⟩
 | k+1,hk=>by
  obtain⟨h1,h2⟩:=Xv hs k om;have h3 : ∀i,i<iG hs z.sets k->fQ hs[i]! z.sets[k]!.set.name<=0:=by
   intro i hi
   by_cases e:k=0
   . subst e;exact absurd hi (Nat.not_lt_zero _)
   exact xk.tr _ _ _ ((h2 om).1 i hi) (AL h om om)
  exact⟨(Zkk hs _ _ _ (XW _) h1).2,λ_=>Zkj hs z.sets[k]!.set.name _ _ (XW _) h1 h3⟩
omit h in
theorem ZjR(hs:List Str)(l:List Sgd):∀n k,k<n->(lX hs l n)[k]! = jA hs l[k]!.set.name (iG hs l (k+1)):=by
 intro n
 induction n with
 | zero=>intro k h;omega
 | succ n ih =>
  intro k h;have hl:=yG hs l n;have e1:lX hs l (n+1)=lX hs l n++[jA hs l[n]!.set.name (iG hs l (n+1))]:=rfl
  by_cases e:k=n
  . subst e;rw[e1];simp[hl]
  rw[<-ih k (by omega),e1,getElem!_pos (lX hs l n++_) k (by simp[hl];omega),getElem!_pos (lX hs l n) k (by omega),List.getElem_append_left]
def ZjQ{k:Nat}(hk:k<z.sets.length):BZ (pM z) z.sets[k]!.set.name (gB z)[k]! := by
 unfold gB
 rw[ZjR _ _ _ _ hk]
 obtain⟨g1,g2,g3⟩:=Zg1 h
 obtain⟨a1,a2⟩:=Xv h (bW z) (k+1) hk
 obtain⟨a3,a4⟩:=a2 om
 rw[show k+1-1=k from rfl]at a3 a4
 generalize iG (bW z) z.sets (k+1)=j at *
 generalize z.sets[k]!.set.name=n at *
 have pr : ∀i i',i<i'->i'<(bW z).length->fQ (bW z)[i]! (bW z)[i']! < 0 /\ ¬fE (bW z)[i']! (bW z)[i]! := by
  intro i i' h1 h2;rw[getElem!_pos _ i (by omega),getElem!_pos _ i' h2]
  exact ZH.1 g3 i i' om h2 h1
 unfold jA
 by_cases e:0<j/\ik n (bW z)[j-1]! = true
 .
  rw[X3 e];have hm:(bW z)[j-1]! ∈ bW z:=eO om;refine .inr ⟨(NS h (g1 _ hm)).2,g1 _ hm,Bg.1 e.2,λc' hc' hu=>?_⟩
  obtain⟨x,hx,hxu⟩:=g2 c' hc';have fG:fE (bW z)[j-1]! x:=Kt hu hxu;obtain⟨i,hi,rfl⟩:=kQ.1 hx;have hij:i=j-1:=by
   rcases Nat.lt_trichotomy i (j-1)with q|q|q
   . exact absurd fG (pr i (j-1) q om).2
   . exact q
   have:=(pr (j-1) i q hi).1;have:=Kw fG;have:=xk.anti (bW z)[j-1]! (bW z)[i]!;omega
  rw[hij]at hxu;exact Pd hxu hu
 rw[XV e]
 refine .inl ⟨rfl,λc hc hu=>?_⟩
 obtain⟨x,hx,hxu⟩:=g2 c hc
 have hnx:fE n x:=Kt hu hxu
 obtain⟨i,hi,rfl⟩:=kQ.1 hx
 have hle:=Kw hnx
 have hij:i<j:=by
  rcases YE i j with q|q
  . exact q
  exfalso
  have h5:=a4 (by omega)
  by_cases q2:i=j
  . subst q2;exact h5 hle
  have h6:=(pr j i (by omega) hi).1
  exact h5 (xk.tr _ _ _ om hle)
 by_cases q:i=j-1
 . exact e ⟨om,by rw[<-q];exact Bg.2 hnx⟩
 have h6:=pr i (j-1) (by omega) (by omega)
 exact h6.2 (Kv hnx om (a3 (j-1) om))
theorem Xe:DJ z=gB z:=by
 have l1:(DJ z).length=z.sets.length:=z8 _ _ _
 have l2:(gB z).length=z.sets.length:=yG _ _ _
 exact CP! om λi hi=>ZjO (ZjS h om) (ZjQ h om)
theorem Zhw:(zK (kU z)&&zN (kU z))=tH z:=by
 unfold tH wX zK zN kU
 rw[Zkg,Xe h,Bool.and_comm]
theorem Zjh:qP (kU z)=rQ z:=by
 unfold rQ kU
 rw[Xe h]
end
theorem su(z:Zon):aI z=jh z:=by
 unfold aI jh
 by_cases e:ordered z=true
 . have h:=Lx.1 e;rw[<-R4,Zke h,Zkh h,Zjh h,<-Zhw h];simp only[ZZ]
 rw[<-R4]
 have:ordered z=false:=by simpa using e
 rw[this]
 simp
def lF{z:Zon}(h:aI z=true):nS z:=by
 unfold aI at h
 simp only[XU]at h
 exact Lx.1 h.1.1.1.1.1
theorem Ar{z:Zon}(h:aI z=true):aL z=cZ z:=by
 have ho:=lF h
 unfold aL cZ
 rw[Vj ho (q:=⟨z.apex,4⟩) ho.apex (Ew (by rw[<-su];exact h))]
end Go.Zon
namespace Go.Zon
open Go.DL Go.Str Go.Rec Go.Cmp
def Zmm{kv:List D}:(D.fmap kv).cells=[.fmap kv]:=rfl
def one_fmap{kv:List D}:(D.fmap kv).one=true:=rfl
def cells_mp{r:Nat}:(D.mp r).cells=[.mp r]:=rfl
def one_mp{r:Nat}:(D.mp r).one=true:=rfl
def one_map{o:Option Nat}:(D.v (.map o)).one=true:=rfl
attribute[go_sem]Zmm one_fmap cells_mp one_mp one_map
def Sr{m:PM}:bA [.fmap (jb m)]=true:=by simp only[bA,D.nr,ZeU,ZG]
def ZeV{m:PZ}:bA [.fmap (qi m)]=true:=by simp only[bA,D.nr,Sq,ZG]
def sj{z:Zon}(h:aI z=true):fH z.sets:=ZdC (by rw[<-su];exact h)
theorem Zfg{m:List Sgd}{s x:Sgd}(h:x∈wL m s):x=s\/x∈m:=by
 induction m with
 | nil=>simp[wL]at h;exact .inl h
 | cons y m ih =>
  unfold wL at h
  split at h
  .
   rcases Yl.1 h with e|e
   . exact .inl e
   exact .inr (by simp[e])
  rcases Yl.1 h with e|e
  . exact .inr (by simp[e])
  exact(ih e).imp id λk=>by simp[k]
theorem Td{l:List Sgd}{x:Sgd}:∀k,k<=l.length->x∈uq l k->x∈l
 | 0,_,h=>by simp[uq]at h
 | k+1,hk,h=>by
  rcases Zfg h with e|e
  . rw[e];exact eO (by omega)
  exact Td k om e
def Tf{l:List Sgd}{q:ak}{x:Sgd}(h:eY (kT l) q=some x):x∈l/\x.q=q:=by
 rw[RJ]at h
 obtain⟨h1,h2⟩:=AX h
 exact⟨Td _ (XW _) h1,h2⟩
def JC{l:List Sgd}(h:fH l){x:Sgd}(hx:x∈l):tJ x:=by
 obtain⟨i,hi,rfl⟩:=kQ.1 hx
 exact h.2 i hi
def Nj{l:List Sgd}(hl:l.length<=1000000)(h : ∀x∈l,tJ x):fH l:=⟨hl,λk hk=>h _ (eO hk)⟩
theorem Te{l:List Sgd}{q:ak}:∀k,k<=l.length->((fu (uq l k) q).isSome=true↔∃s∈l.take k,s.q=q)
 | 0,_=>by simp[uq,fu]
 | k+1,hk=>by
  have ih:=Te (l:=l) (q:=q) k (by omega)
  have e:l.take (k+1)=l.take k++[l[k]!]:=by
   rw[Zj,Yg (by omega),getElem!_pos l k (by omega)];rfl
  show(fu (wL (uq l k) l[k]!) q).isSome=true↔_
  rw[Zfh,e]
  by_cases h2:l[k]!.q=q
  . rw[X3 h2];exact⟨λ_=>⟨l[k]!,by simp,h2⟩,λ_=>rfl⟩
  rw[XV h2,ih]
  constructor
  . rintro⟨s,h3,h4⟩;exact⟨s,ZT _ h3,h4⟩
  rintro⟨s,h3,h4⟩
  rcases Yv.1 h3 with h5|h5
  . exact⟨s,h5,h4⟩
  rw[Yn]at h5;subst h5;exact absurd h4 h2
theorem EJ{l:List Sgd}{q:ak}:(eY (kT l) q).isSome=true↔∃s∈l,s.q=q:=by
 rw[RJ]
 unfold AZ
 rw[Te _ (XW _),Yt]
theorem Zhd{put:List Sgd}{drop:List ak}{q:ak}:(eY (Dl put drop) q).isSome=true↔(q∈drop \/ ∃s∈put,s.q=q):=by
 unfold Dl
 rw[UM _ _ _ _ (XW _),Yt,XB,EJ]
def leS(a b:Sgd):Bool:=decide (sp a b<=0)
def leQ(a b:ak):Bool:=decide (qp a b<=0)
def CY{α:Type}(le:α->α->Bool)(a:α):List α->List α
 | []=>[a]
 | b::l=>if le a b then a::b::l else b::CY le a l
def G5{α:Type}(le:α->α->Bool)(l:List α):List α:=l.foldr (CY le) []
theorem Ut{α:Type}(le:α->α->Bool)(a:α)(l:List α):(CY le a l).Perm (a::l):=by
 induction l with
 | nil=>exact .refl _
 | cons b l ih =>
  unfold CY
  split
  . exact .refl _
  exact(List.Perm.cons b ih).trans (List.Perm.swap a b l)
theorem Zb2{α:Type}(le:α->α->Bool)(l:List α):(G5 le l).Perm l:=by
 induction l with
 | nil=>exact .refl _
 | cons a l ih=>exact(Ut le a _).trans (List.Perm.cons a ih)
theorem ZgS{α:Type}{le:α->α->Bool}(tr : ∀a b c,le a b=true->le b c=true->le a c=true)(tot : ∀a b,(le a b||le b a)=true)(a:α)(l:List α)(h:l.Pairwise λa b=>le a b=true):(CY le a l).Pairwise λa b=>le a b=true:=by
 induction l with
 | nil=>exact Z7 _ _
 | cons b l ih =>
  have h':=YD.1 h;unfold CY
  split
  .
   rename_i e
   refine YD.2 ⟨λz hz=>?_,h⟩
   rcases Yl.1 hz with q|q
   . rw[q];exact e
   exact tr a b z e (h'.1 z q)
  rename_i e
  refine YD.2 ⟨λz hz=>?_,ih h'.2⟩
  rcases Yl.1 ((Ut le a l).mem_iff.1 hz)with q|q
  . rw[q];have:=tot a b;rw[Yc]at this;exact this.resolve_left e
  exact h'.1 z q
theorem Zb1{α:Type}{le:α->α->Bool}(tr : ∀a b c,le a b=true->le b c=true->le a c=true)(tot : ∀a b,(le a b||le b a)=true)(l:List α):(G5 le l).Pairwise λa b=>le a b=true:=by
 induction l with
 | nil=>exact .nil
 | cons a l ih=>exact ZgS tr tot a _ ih
def iO(l:List Sgd):List Sgd:=G5 leS l
def sortQ(l:List ak):List ak:=G5 leQ l
def Zju{α:Type}{c:α->α->Int}(h:Cm c)(a b:α):(decide (c a b<=0)||decide (c b a<=0))=true:=by
 have:=h.anti a b
 by_cases e:c a b<=0
 . simp[e]
 have:c b a<=0:=by omega
 simp[this]
theorem GY(l:List Sgd):(iO l).Perm l:=Zb2 _ l
def ZbZ(l:List Sgd):(iO l).Pairwise λa b=>sp a b<=0 :=
 (Zb1 (le:=leS) (λa b c h1 h2=>YG (lW.tr a b c (YM h1) (YM h2))) (λa b=>Zju lW a b) l).imp λh=>YM h
def Once(l:List Sgd):Prop:=l.Pairwise λa b=>a.q≠b.q
def Sg{l m:List Sgd}(h:Once l)(p:m.Perm l):Once m:=p.symm.pairwise h λe=>e.symm
def R5{l:List Sgd}(h:eX l):Once l:=h.imp λ{a b}k e=>by unfold sp at k;rw[y7.2 e]at k;omega
def Sd{l:List Sgd}(h:Once l)(hs:l.Pairwise λa b=>sp a b<=0):eX l:=(hs.and h).imp λ{a b}k=>by
 by_cases e:sp a b=0
 . exact absurd (y7.1 e) k.2
 have:=k.1;omega
def PX{l:List Sgd}(h:Once l):eX (iO l):=Sd (Sg h (GY l)) (ZbZ l)
theorem Zb0{l m:List Sgd}(ho:Once l)(hp:m.Perm l)(hs:m.Pairwise λa b=>sp a b<=0):m=iO l :=
 Ed lW (Sd (Sg ho hp) hs) (PX ho) λx=>by rw[hp.mem_iff,(GY l).mem_iff]
theorem KR{l:List Sgd}{x:Sgd}:x∈iO l↔x∈l:=(GY l).mem_iff
theorem GZ(l:List Sgd):(iO l).length=l.length:=(GY l).length_eq
def Zdl{α:Type}{d:α->List D}{of:List D->α}(hof : ∀x,of (d x)=x){l:List α}{rows:List (List D)}(p:rows.Perm (l.map d)):(rows.map of).map d=rows/\(rows.map of).Perm l:=by
 constructor
 .
  rw[List.map_map]
  conv=>rhs;rw[<-List.map_id rows]
  refine Zc λx hx=>?_
  obtain⟨y,_,rfl⟩:=Yr.1 (p.mem_iff.1 hx)
  show d (of (d y))=d y
  rw[hof]
 have:=p.map of
 rwa [kR hof]at this
structure DOk(d:aG):Prop where
 apex:az d.apex=true
 wild:jC d.apex=false
 frm:iy d.frm=true
 too:iy d.too=true
 bef:gV d.frm d.too=true
 dlen:d.drop.length<=20000
 plen:d.put.length<=20000
 dok : ∀q∈d.drop,pY q=true
 dord:jR qp d.drop
 pok : ∀s∈d.put,si s.set
 pord:eX d.put
 apart : ∀s∈d.put,s.q ∉ d.drop
theorem wF{q:ak}(h:pY q=true):az q.name=true:=by unfold pY at h;rw[XU]at h;exact h.1
def yx{d:aG}:fO d=true↔DOk d:=by
 have hd : ∀i,Dv d.drop i=true↔(pY d.drop[i]! = true/\(i=0\/qO d.drop[i-1]! d.drop[i]! < 0)):=by intro i;simp[Dv]
 have hp : ∀i,putAt d i=true↔((fq d.put[i]!.set=true/\(i=0\/qO d.put[i-1]!.q d.put[i]!.q<0))/\pG d.drop d.put[i]!.q=false):=by intro i;simp[putAt]
 unfold fO
 simp only[XU,Ya,XX,eu]
 constructor
 .
  rintro⟨⟨⟨⟨⟨⟨⟨⟨h1,h2⟩,h3⟩,h4⟩,h5⟩,h6⟩,h7⟩,h8⟩,h9⟩;have h8 : ∀i,i<d.drop.length->_:=λi hi=>(hd i).1 (h8 i (Yi _) hi)
  have h9 : ∀i,i<d.put.length->_:=λi hi=>(hp i).1 (h9 i (Yi _) hi)
  refine⟨h1,h2,h3,h4,h5,h6,h7,xq.2 λi hi=>(h8 i hi).1,GN JZ λi h0 hi=>?_,xq.2 λi hi=>(iJ _).1 (h9 i hi).1.1,GN lW λi h0 hi=>?_,xq.2 λi hi=>of_decide_eq_false (h9 i hi).2⟩
  . have:=(h8 i hi).2.resolve_left om;rwa [y8 (wF (h8 (i-1) om).1) (wF (h8 i hi).1)]at this
  have:=(h9 i hi).1.2.resolve_left om;have n1:az d.put[i-1]!.q.name=true:=((iJ _).1 (h9 (i-1) om).1.1).name;have n2:az d.put[i]!.q.name=true:=((iJ _).1 (h9 i hi).1.1).name;rwa [y8 n1 n2]at this
 intro h
 refine⟨⟨⟨⟨⟨⟨⟨⟨h.apex,h.wild⟩,h.frm⟩,h.too⟩,h.bef⟩,h.dlen⟩,h.plen⟩,λi _ hi=>(hd i).2 ⟨h.dok _ (eO hi),?_⟩⟩,λi _ hi=>(hp i).2 ⟨⟨(iJ _).2 (h.pok _ (eO hi)),?_⟩,Y7 (h.apart _ (eO hi))⟩⟩
 .
  by_cases e:i=0
  . exact .inl e
  right
  rw[y8 (wF (h.dok _ (eO (by omega)))) (wF (h.dok _ (eO hi)))]
  exact vY h.dord om hi
 by_cases e:i=0
 . exact .inl e
 right
 have n1:az d.put[i-1]!.q.name=true:=(h.pok _ (eO (show i-1<d.put.length by omega))).name
 have n2:az d.put[i]!.q.name=true:=(h.pok _ (eO hi)).name
 rw[y8 n1 n2]
 exact vY h.pord om hi
def uH(l:List ak)(i:Nat):Bool:=pY l[i]! && (decide (i=0)||decide (qC l[i-1]! l[i]! < 0))
def ui(d:aG)(i:Nat):Bool:=fq d.put[i]!.set && !pG d.drop d.put[i]!.q&&(decide (i=0)||decide (qC d.put[i-1]!.q d.put[i]!.q<0))
def xg(d:aG):Bool:=az d.apex && !jC d.apex&&iy d.frm&&iy d.too&&gV d.frm d.too&&decide (d.drop.length<=20000)&&decide (d.put.length<=20000)&&aA d.drop.length (uH d.drop) 0&&aA d.put.length (ui d) 0
theorem zV(d:aG):xg d=fO d:=by
 have e1:aA d.drop.length (uH d.drop) 0=aA d.drop.length (Dv d.drop) 0:=by
  rw[YK,eu,eu];have hC : ∀i,uH d.drop i=true↔(pY d.drop[i]! = true/\(i=0\/qC d.drop[i-1]! d.drop[i]! < 0)):=by intro i;simp[uH]
  have hO : ∀i,Dv d.drop i=true↔(pY d.drop[i]! = true/\(i=0\/qO d.drop[i-1]! d.drop[i]! < 0)):=by intro i;simp[Dv]
  constructor
  .
   intro h i _ hi;have h1:=(hC i).1 (h i (Yi _) hi);have h2:=(hC (i-1)).1 (h (i-1) (Yi _) (by omega))
   exact(hO i).2 ⟨h1.1,h1.2.imp id λk=>by rwa [<-EA (wF h2.1) (wF h1.1)]⟩
  intro h i _ hi;have h1:=(hO i).1 (h i (Yi _) hi);have h2:=(hO (i-1)).1 (h (i-1) (Yi _) (by omega))
  exact(hC i).2 ⟨h1.1,h1.2.imp id λk=>by rwa [EA (wF h2.1) (wF h1.1)]⟩
 have e2:aA d.put.length (ui d) 0=aA d.put.length (putAt d) 0:=by
  rw[YK,eu,eu];have hC : ∀i,ui d i=true↔((fq d.put[i]!.set=true/\pG d.drop d.put[i]!.q=false)/\(i=0\/qC d.put[i-1]!.q d.put[i]!.q<0)):=by intro i;simp[ui]
  have hO : ∀i,putAt d i=true↔((fq d.put[i]!.set=true/\(i=0\/qO d.put[i-1]!.q d.put[i]!.q<0))/\pG d.drop d.put[i]!.q=false):=by intro i;simp[putAt]
  have nm : ∀i:Nat,fq d.put[i]!.set=true->az d.put[i]!.q.name=true:=λi h=>((iJ _).1 h).name
  constructor
  .
   intro h i _ hi;have h1:=(hC i).1 (h i (Yi _) hi);have h2:=(hC (i-1)).1 (h (i-1) (Yi _) (by omega))
   exact(hO i).2 ⟨⟨h1.1.1,h1.2.imp id λk=>by rwa [<-EA (nm _ h2.1.1) (nm _ h1.1.1)]⟩,h1.1.2⟩
  intro h i _ hi;have h1:=(hO i).1 (h i (Yi _) hi);have h2:=(hO (i-1)).1 (h (i-1) (Yi _) (by omega))
  exact(hC i).2 ⟨⟨h1.1.1,h1.2⟩,h1.1.2.imp id λk=>by rwa [EA (nm _ h2.1.1) (nm _ h1.1.1)]⟩
 unfold xg fO
 rw[e1,e2]
def ut(m:List ak):List D:=m.flatMap λq=>[.agg q.d,.b true]
theorem EM(q:ak)(m:List ak):ut (q::m) = .agg q.d :: .b true::ut m:=rfl
@[go_sem]theorem kvS_nil:ut []=[]:=rfl
def uh(m:List ak)(q:ak):List ak:=if pG m q then m else m++[q]
theorem Zgc{m:List ak}{q:ak}:(kF (ut m) (.agg q.d)).getD (.v (.bool false)) = .v (.bool (pG m q)):=by
 induction m with
 | nil=>rfl
 | cons s m ih =>
  rw[EM];simp only[kF,EO]
  by_cases h:q=s
  . subst h;simp[pG]
  simp only[h,decide_false,Yo,Y8,ih,pG,Yl,false_or]
@[go_sem]theorem kvGetD_S{m:List ak}{q:ak}:(kF (ut m) (.agg [.v (.string (bs q.name)),.i q.ty])).getD (.v (.bool false)) = .v (.bool (pG m q)):=Zgc
theorem Zf5{m:List ak}{q:ak}:jm (ut m) (.agg q.d) (.v (.bool true))=ut (uh m q):=by
 induction m with
 | nil=>rfl
 | cons s m ih =>
  rw[EM];simp only[jm,EO]
  by_cases h:q=s
  .
   subst h;have:uh (q::m) q=q::m:=by simp[uh,pG]
   rw[this,EM]
   simp
  have h2:uh (s::m) q=s::uh m q:=by
   unfold uh pG
   by_cases e:q∈m<;>simp[h,e]
  rw[h2,EM];simp only[h,decide_false,Yo,Y8,ih]
@[go_sem]theorem kvSet_S{m:List ak}{q:ak}:jm (ut m) (.agg [.v (.string (bs q.name)),.i q.ty]) (.v (.bool true))=ut (uh m q):=Zf5
def xE(l:List ak):Nat->List ak
 | 0=>[]
 | k+1=>uh (xE l k) l[k]!
@[go_sem]theorem qsTo_0{l:List ak}:xE l 0=[]:=rfl
theorem ZdY{m:List ak}{q x:ak}:x∈uh m q↔x=q\/x∈m:=by
 unfold uh pG
 by_cases e:q∈m
 . simp only[e,decide_true,Zl];exact⟨λh=>.inr h,λh=>h.elim (λk=>k▸e) id⟩
 simp only[e,decide_false,Yo,Y8,Yv,Yn]
 exact⟨λh=>h.symm,λh=>h.symm⟩
theorem Rp{l:List ak}{x:ak}:∀k,k<=l.length->(x∈xE l k↔x∈l.take k)
 | 0,_=>by simp[xE]
 | k+1,hk=>by
  have e:l.take (k+1)=l.take k++[l[k]!]:=by
   rw[Zj,Yg (by omega),getElem!_pos l k (by omega)];rfl
  show x∈uh _ _↔_
  rw[ZdY,Rp k (by omega),e,Yv,Yn]
  exact⟨λh=>h.symm,λh=>h.symm⟩
@[go_sem]theorem ask_qs{l:List ak}{q:ak}:pG (xE l l.length) q=pG l q:=by
 unfold pG
 rw[ZO,Rp _ (XW _),Yt]
def kW(a b:Zon):aG×Int :=
 if aI a=false\/aI b=false\/a.apex≠b.apex then(qL,1)else if gV (aL a) (aL b)=false then(qL,23)else
 (⟨a.apex,aL a,aL b,a.sets.filterMap (lV (kT b.sets)),b.sets.filterMap (kX (kT a.sets))⟩,0)
def gp(z:Zon)(d:aG):List Sgd:=z.sets.filterMap (lw (Dl d.put d.drop))
def ng(z:Zon)(d:aG):Zon:=⟨z.apex,iO (gp z d++d.put)⟩
def ed(z:Zon)(d:aG):Zon×Int :=
 if aI z=false\/fO d=false\/z.apex≠d.apex then(dE,1)else if aL z≠d.frm then(dE,23)else
 if 20000<(gp z d).length+d.put.length then(dE,2)else
 if aI (ng z d)=false\/aL (ng z d)≠d.too then(dE,35)else(ng z d,0)
theorem Zhf{m:PM}{l:List Sgd}{x:Sgd}:x∈l.filterMap (lw m)↔x∈l/\eY m x.q=none:=by
 rw[Zx]
 unfold lw oz
 constructor
 .
  rintro⟨y,hy,h⟩
  cases e:eY m y.q with
  | none=>simp[e]at h;subst h;exact⟨hy,e⟩
  | some v=>simp[e]at h
 rintro⟨h1,h2⟩;exact⟨x,h1,by simp[h2]⟩
theorem Ee{z:Zon}{d:aG}{x:Sgd}:x∈gp z d↔x∈z.sets/\x.q ∉ d.drop /\ ∀s∈d.put,s.q≠x.q:=by
 unfold gp
 rw[Zhf]
 have:eY (Dl d.put d.drop) x.q=none↔¬(eY (Dl d.put d.drop) x.q).isSome=true:=by cases eY (Dl d.put d.drop) x.q<;>simp
 rw[this,Zhd]
 constructor
 . rintro⟨h1,h2⟩;exact⟨h1,λh=>h2 (.inl h),λs hs e=>h2 (.inr ⟨s,hs,e⟩)⟩
 rintro⟨h1,h2,h3⟩;exact⟨h1,λh=>h.elim h2 λ⟨s,hs,e⟩=>h3 s hs e⟩
theorem Vf{α:Type}{r:α->α->Prop}{f:α->Option α}(hf : ∀x y,f x=some y->y=x){l:List α}(h:l.Pairwise r):(l.filterMap f).Pairwise r:=by
 induction l with
 | nil=>exact .nil
 | cons x l ih =>
  have h':=YD.1 h;rw[List.filterMap_cons]
  split
  . exact ih h'.2
  rename_i y hy
  refine YD.2 ⟨λz hz=>?_,ih h'.2⟩
  obtain⟨w,hw,hwz⟩:=Zx.1 hz;rw[hf x y hy,hf w z hwz];exact h'.1 w hw
def Zhe(m:PM)(x y:Sgd)(h:lw m x=some y):y=x:=by
 unfold lw at h
 split at h
 . exact(Zu h).symm
 cases h
def ZbF{z:Zon}{d:aG}(h:eX z.sets):eX (gp z d):=Vf (Zhe _) h
def SF{z:Zon}{d:aG}(hz:eX z.sets)(hd:eX d.put):Once (gp z d++d.put) :=
 Ze.2 ⟨R5 (ZbF hz),R5 hd,λa ha b hb e=>(Ee.1 ha).2.2 b hb e.symm⟩
def ZbH(z:Zon)(d:aG):(gp z d).length<=z.sets.length:=List.length_filterMap_le _ _
theorem Zfc(z:Zon)(d:aG):(ng z d).sets.length=(gp z d).length+d.put.length:=by
 show(iO _).length=_
 rw[GZ,X0]
def Zcj{s:Sgd}(h:s.set.data.length<=100000)(k:s.sigs.length<=100000):tJ s:=⟨h,k⟩
end Go.Zon
namespace Go.Zon
open Go.DL Go.Str Go.Rec Go.Cmp
def Zkp:dE.apex=[]:=rfl
def Zko:dE.sets=[]:=rfl
def dlt0_put:qL.put=[]:=rfl
def ZlZ:qL.drop=[]:=rfl
def Zl0:qL.apex=[]:=rfl
def dlt0_frm:qL.frm=0:=rfl
def dlt0_too:qL.too=0:=rfl
attribute[go_sem]Zkp Zko dlt0_put ZlZ Zl0 dlt0_frm dlt0_too
theorem QH{x s:Sgd}(hq:x.q=s.q):wB x s=true↔x=s:=by
 constructor
 .
  intro h;unfold wB at h;simp only[XU,XX]at h;obtain⟨⟨⟨n,t,l,d⟩,g⟩,⟨⟨n',t',l',d'⟩,g'⟩⟩:=x,s;simp only[Sgd.q,ak.mk.injEq]at hq h
  simp[h,hq]
 rintro rfl;simp[wB]
theorem Lr{m:PM}{q:ak}:eY m q=none↔¬(eY m q).isSome=true:=by cases eY m q<;>simp
theorem Zfz{l:List Sgd}(h:eX l)(q:ak):eY (kT l) q=fu l q:=by
 cases e:fu l q with
 | none =>
  rw[Lr,EJ];rintro⟨s,hs,hq⟩;exact CK.1 e s hs hq
 | some s =>
  obtain⟨h1,h2⟩:=AX e;have:(eY (kT l) q).isSome=true:=EJ.2 ⟨s,h1,h2⟩;obtain⟨x,hx⟩:=YP.1 this;obtain⟨h3,h4⟩:=Tf hx;have h5:=vw h h3;rw[h4,e]at h5;rw[hx,h5]
section
variable {a b : Zon}
def zT(a b:Zon):List ak:=a.sets.filterMap (lV (kT b.sets))
def uX(a b:Zon):List Sgd:=b.sets.filterMap (kX (kT a.sets))
def dD(a b:Zon):aG:=⟨a.apex,aL a,aL b,zT a b,uX a b⟩
theorem FU{q:ak}:q∈zT a b↔(∃s∈a.sets,s.q=q) /\ ∀s∈b.sets,s.q≠q:=by
 unfold zT
 rw[Zx]
 constructor
 .
  rintro⟨s,hs,h⟩;unfold lV oz at h
  cases e:eY (kT b.sets) s.q with
  | some v=>simp[e]at h
  | none =>
   simp[e]at h
   subst h;refine⟨⟨s,hs,rfl⟩,λx hx hq=>?_⟩
   rw[Lr,EJ]at e;exact e ⟨x,hx,hq⟩
 rintro⟨⟨s,hs,rfl⟩,h⟩
 refine⟨s,hs,?_⟩
 have e:eY (kT b.sets) s.q=none:=by rw[Lr,EJ];rintro⟨x,hx,hq⟩;exact h x hx hq
 simp[lV,oz,e]
theorem put_mem(ha:eX a.sets){x:Sgd}:x∈uX a b↔x∈b.sets/\x ∉ a.sets:=by
 unfold uX
 rw[Zx]
 have key : ∀s:Sgd,yz (eY (kT a.sets) s.q) s=true↔s ∉ a.sets:=by
  intro s;rw[Zfz ha]
  cases e:fu a.sets s.q with
  | none=>simp only[yz,true_iff];intro hs;exact CK.1 e s hs rfl
  | some v =>
   obtain⟨h1,h2⟩:=AX e;simp only[yz,Ya]
   constructor
   . intro h hs;have:=vw ha hs;rw[e]at this;have:=Zu this;rw[(QH h2).2 this]at h;cases h
   intro h
   cases q:wB v s with
   | false=>rfl
   | true=>rw[(QH h2).1 q]at h1;exact absurd h1 h
 constructor
 .
  rintro⟨s,hs,h⟩;unfold kX at h
  split at h
  . rename_i e;cases h;exact⟨hs,(key _).1 e⟩
  cases h
 rintro⟨h1,h2⟩
 exact⟨x,h1,by unfold kX;rw[X3 ((key _).2 h2)]⟩
theorem Wm(m:PM)(x y:Sgd)(h:kX m x=some y):y=x:=by
 unfold kX at h
 split at h
 . exact(Zu h).symm
 cases h
def Ru(hb:eX b.sets):eX (uX a b):=Vf (Wm _) hb
theorem Zim(ha:eX a.sets):jR qp (zT a b):=by
 unfold zT
 generalize a.sets=l at ha
 induction l with
 | nil=>exact .nil
 | cons x l ih =>
  have h':=YD.1 ha;rw[List.filterMap_cons]
  split
  . exact ih h'.2
  rename_i y hy
  refine YD.2 ⟨λz hz=>?_,ih h'.2⟩
  obtain⟨w,hw,hwz⟩:=Zx.1 hz;unfold lV at hy hwz
  split at hy
  .
   split at hwz
   . rw[<-Zu hy,<-Zu hwz];exact h'.1 w hw
   cases hwz
  cases hy
theorem yT(h:aI a=true):iy (aL a)=true:=by
 rw[Ar h];exact Hz (by rw[<-su];exact h)
def q_ok{s:Sgd}(h:si s.set):pY s.q=true:=by
 unfold pY
 rw[XU]
 exact⟨h.name,h.ty⟩
def Wl(ha:aI a=true)(hb:aI b=true)(hax:a.apex=b.apex)(hs:gV (aL a) (aL b)=true):DOk (dD a b):=by
 have oa:=lF ha
 have ob:=lF hb
 refine⟨oa.apex,oa.wild,yT ha,yT hb,hs,Yh (List.length_filterMap_le _ _) oa.len,Yh (List.length_filterMap_le _ _) ob.len,λq hq=>?_,Zim oa.ord,λs hs=>?_,Ru ob.ord,λs hs hq=>?_⟩
 . obtain⟨⟨s,h1,rfl⟩,_⟩:=FU.1 hq;exact q_ok (oa.ok s h1)
 . exact ob.ok s ((put_mem oa.ord).1 hs).1
 exact(FU.1 hq).2 s ((put_mem oa.ord).1 hs).1 rfl
theorem ZbI(ha:eX a.sets)(hb:eX b.sets){x:Sgd}:x∈gp a (dD a b)↔x∈a.sets/\x∈b.sets:=by
 rw[Ee]
 constructor
 .
  rintro⟨h1,h2,h3⟩;refine⟨h1,YV λh=>?_⟩
  have h4 : ¬∀s∈b.sets,s.q≠x.q:=λk=>h2 (FU.2 ⟨⟨x,h1,rfl⟩,k⟩)
  apply h4
  intro s hs e;refine h3 s ((put_mem ha).2 ⟨hs,λk=>?_⟩) e
  have:=vw ha k;rw[e,vw ha h1]at this;rw[Zu this]at h;exact h hs
 rintro⟨h1,h2⟩
 refine⟨h1,λk=>(FU.1 k).2 x h2 rfl,λs hs e=>?_⟩
 obtain⟨h3,h4⟩:=(put_mem ha).1 hs
 have:=vw hb h3
 rw[e,vw hb h2]at this
 rw[<-Zu this]at h4
 exact h4 h1
def Zfd(ha:eX a.sets)(hb:eX b.sets)(hax:a.apex=b.apex):ng a (dD a b)=b:=by
 have h1:iO (gp a (dD a b)++(dD a b).put)=b.sets:=by
  refine Ed lW (PX (SF ha (Ru hb))) hb λx=>?_
  rw[KR,Yv,ZbI ha hb]
  show _\/x∈uX a b↔_
  rw[put_mem ha]
  constructor
  .
   rintro (h|h)
   . exact h.2
   exact h.1
  intro h
  by_cases e:x∈a.sets
  . exact .inl ⟨e,h⟩
  exact .inr ⟨h,e⟩
 unfold ng
 rw[h1,hax]
def Zj0{z:Zon}{d:aG}(h1:aI z=true)(h2:fO d=true)(h3:z.apex=d.apex)(h4:aL z=d.frm)(h5:aI (ng z d)=true)(h6:aL (ng z d)=d.too):ed z d=(ng z d,0):=by
 unfold ed
 rw[XV (by rintro (q|q|q);rw[h1]at q;cases q;rw[h2]at q;cases q;exact q h3),XV (λq=>q h4),XV,XV (by rintro (q|q);rw[h5]at q;cases q;exact q h6)]
 have:=(lF h5).len
 rw[Zfc]at this
 omega
def Zj1(ha:aI a=true)(hb:aI b=true)(hax:a.apex=b.apex)(hs:gV (aL a) (aL b)=true):ed a (dD a b)=(b,0):=by
 have e:=Zfd (lF ha).ord (lF hb).ord hax
 have:=Zj0 (d:=dD a b) ha (yx.2 (Wl ha hb hax hs)) rfl rfl (by rw[e];exact hb) (by rw[e];rfl)
 rw[e]at this
 exact this
def ZiJ(ha:aI a=true)(hb:aI b=true)(hax:a.apex=b.apex)(hs:gV (aL a) (aL b)=true):kW a b=(dD a b,0):=by
 unfold kW
 rw[XV (by rintro (q|q|q);rw[ha]at q;cases q;rw[hb]at q;cases q;exact q hax),XV (by rw[hs];exact λq=>by cases q)]
 rfl
end
structure AOk(z:Zon)(d:aG):Prop where
 zok:aI z=true
 dok:fO d=true
 apex:z.apex=d.apex
 frm:aL z=d.frm
 new:aI (ng z d)=true
 too:aL (ng z d)=d.too
def Zj2(z:Zon)(d:aG):ed z d=(dE,1)\/(ed z d=(dE,23)/\aL z≠d.frm)\/ed z d=(dE,2)\/ed z d=(dE,35)\/(ed z d=(ng z d,0)/\AOk z d):=by
 unfold ed
 by_cases h1:aI z=false\/fO d=false\/z.apex≠d.apex
 . exact .inl (X3 h1)
 rw[XV h1]
 by_cases h2:aL z≠d.frm
 . exact .inr (.inl ⟨X3 h2,h2⟩)
 rw[XV h2]
 by_cases h3:20000<(gp z d).length+d.put.length
 . exact .inr (.inr (.inl (X3 h3)))
 rw[XV h3]
 by_cases h4:aI (ng z d)=false\/aL (ng z d)≠d.too
 . exact .inr (.inr (.inr (.inl (X3 h4))))
 refine .inr (.inr (.inr (.inr ⟨XV h4,?_,?_,?_,?_,?_,?_⟩)))
 . cases q:aI z with|true=>rfl|false=>exact absurd (.inl q) h1
 . cases q:fO d with|true=>rfl|false=>exact absurd (.inr (.inl q)) h1
 . exact YV λq=>h1 (.inr (.inr q))
 . exact YV λq=>h2 q
 . cases q:aI (ng z d)with|true=>rfl|false=>exact absurd (.inl q) h4
 exact YV λq=>h4 (.inr q)
def Oj{a b:Int}(h:gV a b=true)(hb:iy b=true):b≠a:=by
 rintro rfl
 unfold gV at h
 simp at h
def Vl{z:Zon}(h:vN z=true):fH z.sets:=by
 unfold vN at h
 simp only[XU,XX]at h
 refine⟨om,λk hk=>?_⟩
 have:=(eu _ _ _).1 h.2 k (Yi _) hk
 simp only[XU,XX]at this
 exact⟨om,om⟩
def Lm{a b:Zon}(h:fH b.sets):fH (uX a b):=by
 refine Nj (Yh (List.length_filterMap_le _ _) h.1) λx hx=>?_
 unfold uX at hx
 obtain⟨s,hs,e⟩:=Zx.1 hx
 rw[Wm _ _ _ e]
 exact JC h hs
theorem Hm(z:Zon):mh z z=true:=YG rfl
end Go.Zon
namespace Go.Jn
open Go.DL Go.Str Go.Rec Go.Cmp Go.Zon
structure dn where
 safe:Str
 pend:List Str
 deriving Inhabited,DecidableEq
def jy(s:Str):List D:=[.list false (s.map bD)]
def ofBy:List D->Str
 | [x]=>gL x
 | _=>[]
def dn.d(x:dn):List D:=[.list false (x.safe.map bD),.list false (x.pend.map jy)]
def dn.of:List D->dn
 | [x,.list _ rows]=>⟨gL x,rows.map ofBy⟩
 | _=>default
def nO:D->dn:=rY dn.of default
def BN:D->UInt8
 | .v (.int _ n)=>UInt8.ofNat n.toNat
 | _=>0
@[go_sem]theorem byte1_v{k:IntKind}{n:Int}:BN (.v (.int k n))=UInt8.ofNat n.toNat:=rfl
def Ii:D->List Str:=wP ofBy
def rU:dn:=⟨[],[]⟩
def rV(d:Nat)(c:UInt8):Nat:=((d ^^^ c.toNat)*1099511628211) % 18446744073709551616
def VQ:Nat:=14695981039346656037
def iD(l:Str):Nat:=l.foldl rV VQ
def dX(u:Nat):Nat->Str
 | 0=>[]
 | k+1=>gU u (8*k)::dX u k
theorem fD(u:Nat):∀k,(dX u k).length=k
 | 0=>rfl
 | k+1=>by simp[dX,fD u k]
theorem beN_8(n:Int):dX (uN n) 8=cB n:=rfl
theorem WT(u:Nat):gU u 0=jJ u:=by simp[gU,jJ]
theorem J8(u:Nat):dX u 1=[jJ u]:=by
 show[gU u (8*0)]=_
 rw[Nat.mul_zero,WT]
def iI(g:RSig):Str:=bO g.zone++cB g.key++cB g.alg++cB g.frm++cB g.unt++cB g.sum
def eZ(s:Sgd):Str:=dX (gY s.set).length 2++gY s.set++jJ s.sigs.length::s.sigs.flatMap iI
def jf(l:List Sgd):Str:=dX l.length 4++l.flatMap eZ
def dY(z:Zon):Str:=bO z.apex++jf z.sets
def kC(q:ak):Str:=bO q.name++[gU (uN q.ty) 0]
def dC(d:aG):Str:=bO d.apex++cB d.frm++cB d.too++dX d.drop.length 4++d.drop.flatMap kC++jf d.put
def rP(k:UInt8)(n:Nat):Str:=k::dX n 4
def cO(k:UInt8)(w:Str):Str:=rP k w.length++dX (iD (rP k w.length)) 8++w++dX (iD w) 8
def au(k:Int)(st:RS):Nat×RS:=(fP (bS k st).1,(bS k st).2)
def bQ(st:RS):Str×RS:=bS (au 1 st).1 (au 1 st).2
def ll(st:RS):RSig×RS :=
 let z:=bQ st
 let a:=au 8 z.2
 let b:=au 8 a.2
 let c:=au 8 b.2
 let e:=au 8 c.2
 let s:=au 8 e.2
 (⟨z.1,sN a.1,sN b.1,sN c.1,sN e.1,s.1⟩,s.2)
def jF:Nat->List RSig->RS->List RSig×RS
 | 0,out,st=>(out,st)
 | k+1,out,st=>if st.2 then(out,st)else jF k (out++[(ll st).1]) (ll st).2
def jW(st:RS):Str×RS:=bS (au 2 st).1 (au 2 st).2
def iA(st:RS):RSet×RS:=((iP (jW st).1).1,if(iP (jW st).1).2=0 then(jW st).2 else((jW st).2.1,true))
def iQ(st:RS):Sgd×RS :=
 let s:=iA st
 let n:=au 1 s.2
 let g:=jF n.1 [] n.2
 (⟨s.1,g.1⟩,g.2)
def jG:Nat->List Sgd->RS->List Sgd×RS
 | 0,out,st=>(out,st)
 | k+1,out,st=>if st.2 then(out,st)else jG k (out++[(iQ st).1]) (iQ st).2
def lm(st:RS):List Sgd×RS:=jG (au 4 st).1 [] (au 4 st).2
def jV(st:RS):Zon×RS:=(⟨(bQ st).1,(lm (bQ st).2).1⟩,(lm (bQ st).2).2)
def ol(st:RS):ak×RS:=(⟨(bQ st).1,sN (au 1 (bQ st).2).1⟩,(au 1 (bQ st).2).2)
def lq:Nat->List ak->RS->List ak×RS
 | 0,out,st=>(out,st)
 | k+1,out,st=>if st.2 then(out,st)else lq k (out++[(ol st).1]) (ol st).2
def fI(st:RS):aG×RS :=
 let a:=bQ st
 let f:=au 8 a.2
 let t:=au 8 f.2
 let n:=au 4 t.2
 let q:=lq n.1 [] n.2
 let p:=lm q.2
 (⟨a.1,sN f.1,sN t.1,q.1,p.1⟩,p.2)
def ib(st:RS):Bool:=st.2||decide (0<st.1.length)
def yZ(w:Str):Option Zon:=if ib (jV (w,false)).2 then none else some (jV (w,false)).1
def wE(w:Str):Option aG:=if ib (fI (w,false)).2 then none else some (fI (w,false)).1
def bN(k:Nat)(b:Str):Nat×Str :=
 if b.length<13\/(b.getD 0 0).toNat≠k then(0,[])else
 let n:=au 4 (b.drop 1,false)
 let h:=au 8 n.2
 let w:=bS n.1 h.2
 let t:=au 8 w.2
 if t.2.2=true\/h.1≠iD (b.take 5)\/t.1≠iD w.1 then(0,[])else(13+n.1+8,w.1)
def rf(b:Str):Option (Zon×Nat) :=
 if(bN 1 b).1=0 then none else
 match yZ (bN 1 b).2 with
 | none=>none
 | some z=>if aI z then some (z,(bN 1 b).1)else none
def kY(z:Zon)(b:Str):Option (Zon×Nat) :=
 if(bN 2 b).1=0 then none else
 match wE (bN 2 b).2 with
 | none=>none
 | some d=>if(ed z d).2=0 then some ((ed z d).1,(bN 2 b).1)else none
def UX(k:Nat)(b:Str)(h:(bN k b).1≠0):21<=(bN k b).1/\13<=b.length:=by
 unfold bN at h ⊢
 split
 . rename_i q;rw[X3 q]at h;exact absurd rfl h
 rename_i q
 rw[XV q]at h
 simp only at h ⊢
 split
 . rename_i r;rw[X3 r]at h;exact absurd rfl h
 rename_i r;exact⟨by show 21<=13+_+8;omega,om⟩
def ZbC{z:Zon}{b:Str}{y:Zon}{n:Nat}(h:kY z b=some (y,n)):0<n/\0<b.length:=by
 unfold kY at h
 split at h
 . cases h
 rename_i q
 obtain⟨h1,h2⟩:=UX 2 b q
 split at h
 . cases h
 split at h
 . simp only[Yf,YJ]at h;omega
 cases h
def more(z:Zon)(b:Str):List (Zon×Nat) :=
 match _h:kY z b with
 | none=>[]
 | some (y,n)=>(y,n)::more y (b.drop n)
termination_by b.length
decreasing_by
 have:=ZbC _h
 rw[Yu]
 omega
def Zfm{z:Zon}{b:Str}(h:kY z b=none):more z b=[]:=by
 rw[more]
 split
 . rfl
 rename_i q;rw[h]at q;cases q
def Zfl{z y:Zon}{b:Str}{n:Nat}(h:kY z b=some (y,n)):more z b=(y,n)::more y (b.drop n):=by
 rw[more]
 split
 . rename_i q;rw[h]at q;cases q
 rename_i q
 rw[h]at q
 simp only[Yf,YJ]at q
 obtain⟨rfl,rfl⟩:=q
 rfl
def jc(b:Str):List (Zon×Nat):=match rf b with
 | none=>[]
 | some (y,n)=>(y,n)::more y (b.drop n)
def gX(l:List (Zon×Nat)):Nat:=(l.map (·.2)).sum
def eH(b:Str):Str:=b.take (gX (jc b))
abbrev dH:=Option Zon
def dH.d(c:dH):List D:=.b c.isSome::(c.getD dE).d
def dH.of:List D->dH
 | [.v (.bool b),.v (.string s),.list _ rows]=>if b then some ⟨s.data.toList,rows.map Sgd.of⟩else none
 | _=>none
def cnt1:D->dH:=rY dH.of none
def stepC(c:dH)(b:Str):Option (Zon×Nat):=match c with
 | none=>rf b
 | some z=>kY z b
def fV(c:dH)(b:Str):dH×Nat:=match stepC c b with
 | none=>(c,0)
 | some (y,n)=>(some y,n)
def gF(b:Str):dH:=(jc b).getLast?.map (·.1)
structure l5 where
 whole:Str
 size:Int
 saved:dH
 all:dH
 deriving Inhabited
def ji(c:dH):List Str->Option dH
 | []=>some c
 | p::l=>if(fV c p).2≠0/\(fV c p).2=p.length then ji (fV c p).1 l else none
def cu(l:List Str):Str:=l.flatten
def fJ(d:dn):Option l5 :=
 if 1000000<d.safe.length\/200<d.pend.length then none else
 match ji (gF d.safe) d.pend with
 | none=>none
 | some c=>some ⟨eH d.safe,(eH d.safe).length+(cu d.pend).length,gF d.safe,c⟩
def rW(z:Zon):dn×Int:=if aI z=false then(rU,1)else if 1000000<(cO 1 (dY z)).length then(rU,41)else(⟨[],[cO 1 (dY z)]⟩,0)
def mP(d:dn)(x:aG):dn×Int:=match fJ d with
 | none=>(rU,1)
 | some o=>if fO x=false then(rU,1)else match o.all with
  | none=>(rU,42)
  | some z =>
   if(ed z x).2≠0 then(rU,(ed z x).2)
   else if 200<=d.pend.length then(rU,2)
   else if 1000000<o.size+(cO 2 (dC x)).length then(rU,41)
   else(⟨o.whole,d.pend++[cO 2 (dC x)]⟩,0)
def qZ(d:dn):dn×Int:=match fJ d with
 | none=>(rU,1)
 | some o=>if 1000000<o.size then(rU,41)else(⟨o.whole++cu d.pend,[]⟩,0)
def oQ(d:dn):Zon×Int:=match fJ d with
 | none=>(dE,1)
 | some o=>match o.saved with
  | none=>(dE,42)
  | some z=>(z,0)
theorem Va{u:Nat}(h:u<18446744073709551616):∀k,(dX u k).foldl gG (u / 2^(8*k))=u
 | 0=>by simp[dX]
 | k+1=>by
  show(dX u k).foldl gG (gG (u / 2^(8*(k+1))) (gU u (8*k)))=u
  rw[show 8*(k+1)=8*k+8 by omega,xB u (8*k) h]
  exact Va h k
theorem IB{u k:Nat}(h:u<18446744073709551616)(hk:u<2^(8*k)):fP (dX u k)=u:=by
 have:=Va h k
 rwa [Nat.div_eq_of_lt hk]at this
def D9{u k:Nat}{more:Str}(h:u<18446744073709551616)(hk:u<2^(8*k)):au k (dX u k++more,false)=(u,(more,false)):=by
 unfold au
 rw[take_ok rfl (by simp[fD])]
 show(fP ((dX u k++more).take k),((dX u k++more).drop k,false))=_
 rw[List.take_left' (fD u k),List.drop_left' (fD u k),IB h hk]
theorem Pf{n:Int}{more:Str}:au 8 (cB n++more,false)=(uN n,(more,false)):=by
 have:=D9 (u:=uN n) (k:=8) (more:=more) (yO n) (yO n)
 rwa [beN_8]at this
theorem Ky{n:Nat}{more:Str}(h:n<=255):au 1 (jJ n::more,false)=(n,(more,false)):=by
 have:=D9 (u:=n) (k:=1) (more:=more) om (show n<256 by omega)
 rwa [J8]at this
theorem GI{t more:Str}(h:t.length<=255):bQ (bO t++more,false)=(t,(more,false)):=by
 unfold bQ bO
 rw[XY,Ky h]
 show bS (t.length:Nat) (t++more,false)=_
 rw[take_ok rfl (by simp)]
 simp
structure Kg(g:RSig):Prop where
 zone:g.zone.length<=255
 key:i64 g.key
 alg:i64 g.alg
 frm:i64 g.frm
 unt:i64 g.unt
 sum:0<=g.sum/\g.sum<18446744073709551616
theorem Zcc{g:RSig}{more:Str}(h:Kg g):ll (iI g++more,false)=(g,(more,false)):=by
 unfold ll iI
 simp only[Yw,GI h.zone,Pf]
 have e1:=Au (n:=g.key) h.key
 have e2:=Au (n:=g.alg) h.alg
 have e3:=Au (n:=g.frm) h.frm
 have e4:=Au (n:=g.unt) h.unt
 have e5:((uN g.sum:Nat):Int)=g.sum:=by have:=h.sum;unfold uN;omega
 rw[e1,e2,e3,e4,e5]
theorem Qf : ∀(l out:List RSig)(more:Str),(∀d∈l,Kg d)->jF l.length out (l.flatMap iI++more,false)=(out++l,(more,false))
 | [],out,more,_=>by simp[jF]
 | d::l,out,more,h=>by
  have e:((d::l).flatMap iI++more)=iI d++(l.flatMap iI++more):=by simp
  rw[e,YS,jF,XV (by simp),Zcc (h d (by simp))]
  show jF l.length (out++[d]) (l.flatMap iI++more,false)=_
  rw[Qf l _ more λx hx=>h x (by simp[hx])]
  simp
structure yJ(s:Sgd):Prop where
 set:si s.set
 len:s.sigs.length<=255
 sig : ∀g∈s.sigs,Kg g
def Zjb{d:Dat}(h:BV d/\d.t.length<=60/\0<=d.n/\0<=d.m):(kI d).length<=77:=by
 simp[kI,bO,iW]
 omega
theorem wW{α:Type}{f:α->Str}{n:Nat}:∀{l:List α},(∀x∈l,(f x).length<=n)->(l.flatMap f).length<=l.length*n
 | [],_=>by simp
 | x::l,h=>by
  rw[ZU,X0,YS,Zh,Nat.one_mul];have h1:=h x (by simp)
  have h2:=wW (f:=f) (n:=n) (l:=l) λy hy=>h y (by simp[hy])
  omega
def El{s:RSet}(h:si s):(gY s).length<=1000:=by
 have h1:=gI h.name
 have h2:=wW (f:=kI) (n:=77) (l:=s.data) λd hd=>Zjb (NL h.ty (h.dat d hd))
 have h3:=h.len
 simp[gY,bO,iW]at h2 ⊢
 omega
theorem Zci{s:Sgd}{more:Str}(h:yJ s):iQ (eZ s++more,false)=(s,(more,false)):=by
 have hl:=El h.set
 have e:eZ s++more=dX (gY s.set).length 2++(gY s.set++(jJ s.sigs.length::(s.sigs.flatMap iI++more))):=by simp[eZ]
 have e0:=D9 (u:=(gY s.set).length) (k:=2) (more:=gY s.set++(jJ s.sigs.length::(s.sigs.flatMap iI++more))) (by omega) (show _<65536 by omega)
 have e1:jW (eZ s++more,false)=(gY s.set,(jJ s.sigs.length::(s.sigs.flatMap iI++more),false)):=by
  unfold jW;rw[e,show((2:Int))=((2:Nat):Int)from rfl,e0]
  show bS ((gY s.set).length:Nat) _=_
  rw[take_ok rfl (by simp)]
  simp
 have e2:iA (eZ s++more,false)=(s.set,(jJ s.sigs.length::(s.sigs.flatMap iI++more),false)):=by
  unfold iA;rw[e1,ZdF h.set];rfl
 unfold iQ
 simp only[e2,Ky h.len,Qf s.sigs [] more h.sig,XZ]
theorem Ql : ∀(l out:List Sgd)(more:Str),(∀d∈l,yJ d)->jG l.length out (l.flatMap eZ++more,false)=(out++l,(more,false))
 | [],out,more,_=>by simp[jG]
 | d::l,out,more,h=>by
  have e:((d::l).flatMap eZ++more)=eZ d++(l.flatMap eZ++more):=by simp
  rw[e,YS,jG,XV (by simp),Zci (h d (by simp))]
  show jG l.length (out++[d]) (l.flatMap eZ++more,false)=_
  rw[Ql l _ more λx hx=>h x (by simp[hx])]
  simp
theorem Qs{l:List Sgd}{more:Str}(hl:l.length<4294967296)(h : ∀d∈l,yJ d):lm (jf l++more,false)=(l,(more,false)):=by
 unfold lm jf
 have:=D9 (u:=l.length) (k:=4) (more:=l.flatMap eZ++more) om (show _<4294967296 by omega)
 rw[Yw,show((4:Int))=((4:Nat):Int)from rfl,this]
 show jG l.length [] _=_
 rw[Ql l [] more h]
 rfl
def XG{z:Zon}{more:Str}(ha:z.apex.length<=255)(hl:z.sets.length<4294967296)(h : ∀d∈z.sets,yJ d):jV (dY z++more,false)=(z,(more,false)):=by
 unfold jV dY
 rw[Yw,GI ha,Qs hl h]
structure Gn(q:ak):Prop where
 name:q.name.length<=255
 ty:0<=q.ty/\q.ty<=255
theorem ZdV{q:ak}{more:Str}(h:Gn q):ol (kC q++more,false)=(q,(more,false)):=by
 have ht:=h.ty
 have e:uN q.ty=q.ty.toNat:=by unfold uN;rw[Int.emod_eq_of_lt (by omega) (by omega)]
 have e1:=Ky (n:=q.ty.toNat) (more:=more) (by omega)
 have e2:sN q.ty.toNat=q.ty:=by unfold sN;rw[IntKind.wrap_i64];omega
 unfold ol kC
 rw[Yw,GI h.name,e,WT,List.singleton_append]
 simp only[e1,e2]
theorem Rn : ∀(l out:List ak)(more:Str),(∀d∈l,Gn d)->lq l.length out (l.flatMap kC++more,false)=(out++l,(more,false))
 | [],out,more,_=>by simp[lq]
 | d::l,out,more,h=>by
  have e:((d::l).flatMap kC++more)=kC d++(l.flatMap kC++more):=by simp
  rw[e,YS,lq,XV (by simp),ZdV (h d (by simp))]
  show lq l.length (out++[d]) (l.flatMap kC++more,false)=_
  rw[Rn l _ more λx hx=>h x (by simp[hx])]
  simp
structure BU(d:aG):Prop where
 apex:d.apex.length<=255
 frm:i64 d.frm
 too:i64 d.too
 drop:d.drop.length<4294967296
 dropq : ∀q∈d.drop,Gn q
 put:d.put.length<4294967296
 puts : ∀s∈d.put,yJ s
def ZiB{d:aG}{more:Str}(h:BU d):fI (dC d++more,false)=(d,(more,false)):=by
 have e:dC d++more=bO d.apex++(cB d.frm++(cB d.too++(dX d.drop.length 4++(d.drop.flatMap kC++(jf d.put++more))))):=by simp[dC]
 have e1:=D9 (u:=d.drop.length) (k:=4) (more:=d.drop.flatMap kC++(jf d.put++more)) (by have:=h.drop;omega) (show _<4294967296 from h.drop)
 rw[show((4:Nat):Int)=4 from rfl]at e1
 unfold fI
 rw[e]
 simp only[GI h.apex,Pf,e1,Rn d.drop [] _ h.dropq,Qs h.put h.puts,Au h.frm,Au h.too,XZ]
structure Gj(z:Zon):Prop where
 apex:z.apex.length<=255
 len:z.sets.length<4294967296
 sets : ∀d∈z.sets,yJ d
def ZdG{z:Zon}(h:Gj z):yZ (dY z)=some z:=by
 have e:=XG (more:=[]) h.apex h.len h.sets
 rw[Yx]at e
 unfold yZ ib
 rw[e]
 rfl
def ZdI{d:aG}(h:BU d):wE (dC d)=some d:=by
 have e:=ZiB (more:=[]) h
 rw[Yx]at e
 unfold wE ib
 rw[e]
 rfl
def CW(k m:Nat)(p:Str):Prop:=(p.getD 0 0).toNat=k/\fP ((p.drop 1).take 4)=m/\fP ((p.drop 5).take 8)=iD (p.take 5)/\fP ((p.drop (13+m)).take 8)=iD ((p.drop 13).take m)
theorem Du{α:Type}(b:List α){i j n:Nat}(h:i+j<=n):((b.take n).drop i).take j=(b.drop i).take j:=by
 rw[List.drop_take,List.take_take,ZK (by omega)]
theorem Uq{k m n:Nat}{b:Str}(h:21+m<=n):CW k m (b.take n)↔CW k m b:=by
 unfold CW
 rw[Du b (by omega),Du b (by omega),Du b (by omega),Du b (by omega),List.take_take,ZK (by omega)]
 have:(b.take n).getD 0 0=b.getD 0 0:=by
  simp only[List.getD];rw[Y5,X3 (by omega)]
 rw[this]
def Jo{k m:Nat}{b w:Str}:bN k b=(21+m,w)↔21+m<=b.length/\CW k m b/\w=(b.drop 13).take m:=by
 unfold bN
 by_cases h1:b.length<13\/(b.getD 0 0).toNat≠k
 .
  rw[X3 h1]
  constructor
  . intro h;simp only[YJ]at h;omega
  rintro⟨h2,h3,_⟩;have:=h3.1;omega
 rw[XV h1]
 have a1:au 4 (b.drop 1,false)=(fP ((b.drop 1).take 4),(b.drop 5,false)):=by
  unfold au;rw[show(4:Int)=((4:Nat):Int)from rfl,take_ok rfl (by simp;omega)]
  show(_,((b.drop 1).drop 4,false))=_
  rw[ZI]
 have a2:au 8 (b.drop 5,false)=(fP ((b.drop 5).take 8),(b.drop 13,false)):=by
  unfold au;rw[show(8:Int)=((8:Nat):Int)from rfl,take_ok rfl (by simp;omega)]
  show(_,((b.drop 5).drop 8,false))=_
  rw[ZI]
 simp only[a1,a2]
 generalize hN:fP ((b.drop 1).take 4)=N
 by_cases h2:N<=(b.drop 13).length
 .
  rw[take_ok rfl h2]
  show(if(au 8 ((b.drop 13).drop N,false)).2.2=true\/_ then _ else _)=_↔_
  rw[ZI]
  by_cases h3:8<=(b.drop (13+N)).length
  .
   have a3:au 8 (b.drop (13+N),false)=(fP ((b.drop (13+N)).take 8),((b.drop (13+N)).drop 8,false)):=by
    unfold au;rw[show(8:Int)=((8:Nat):Int)from rfl,take_ok rfl h3]
   rw[a3];simp only[Yu]at h2 h3
   split
   .
    rename_i h4
    constructor
    . intro h;simp only[YJ]at h;omega
    rintro⟨h5,⟨h6,h7,h8,h9⟩,_⟩;rw[hN]at h7;subst h7
    rcases h4 with h4|h4|h4
    . cases h4
    . exact absurd h8 h4
    exact absurd h9 h4
   rename_i h4
   simp only[YJ]
   constructor
   .
    rintro⟨h5,h6⟩;have hm:N=m:=by omega
    subst hm;refine⟨om,⟨om,hN,?_,?_⟩,h6.symm⟩
    . exact YV λq=>h4 (.inr (.inl q))
    exact YV λq=>h4 (.inr (.inr q))
   rintro⟨h5,⟨h6,h7,h8,h9⟩,h10⟩;rw[hN]at h7;subst h7;exact⟨om,h10.symm⟩
  have a3:(au 8 (b.drop (13+N),false)).2.2=true:=by
   unfold au;rw[vW (.inr (by show((List.drop (13+N) b).length:Int)<8;omega))]
  rw[X3 (.inl a3)];simp only[Yu]at h2 h3
  constructor
  . intro h;simp only[YJ]at h;omega
  rintro⟨h5,⟨_,h7,_⟩,_⟩;rw[hN]at h7;omega
 rw[vW (.inr (by show((List.drop 13 b).length:Int)<N;omega))]
 have a3:(au 8 (b.drop 13,true)).2.2=true:=by
  unfold au;rw[vW (.inl rfl)]
 simp only[Yu]at h2
 show(if(au 8 (b.drop 13,true)).2.2=true\/_ then _ else _)=_↔_
 rw[X3 (.inl a3)]
 constructor
 . intro h;simp only[YJ]at h;omega
 rintro⟨h5,⟨_,h7,_⟩,_⟩
 rw[hN]at h7
 omega
def Jp(k:Nat)(b:Str):bN k b=(0,[]) \/ ∃m,21+m<=b.length/\CW k m b/\bN k b=(21+m,(b.drop 13).take m):=by
 by_cases h:(bN k b).1=0
 .
  refine .inl ?_;unfold bN at h ⊢
  split
  . rfl
  rename_i q
  rw[XV q]at h;simp only at h ⊢
  split
  . rfl
  rename_i r;rw[XV r]at h;simp at h
 obtain⟨h1,_⟩:=UX k b h
 obtain⟨m,hm⟩:∃m,(bN k b).1=21+m:=⟨_,(by omega:(bN k b).1=21+((bN k b).1-21))⟩
 have e:bN k b=(21+m,(bN k b).2):=Prod.ext hm rfl
 obtain⟨h2,h3,h4⟩:=Jo.1 e
 exact .inr ⟨m,h2,h3,by rw[e,h4]⟩
def UY{k n:Nat}{b w r:Str}(h:bN k b=(n,w))(h0:n≠0):bN k (b.take n++r)=(n,w):=by
 obtain h1|⟨m,h1,h2,h3⟩:=Jp k b
 . rw[h]at h1;cases h1;exact absurd rfl h0
 rw[h]at h3
 cases h3
 have hl:(b.take (21+m)).length=21+m:=by simp;omega
 have ht:(b.take (21+m)++r).take (21+m)=b.take (21+m):=List.take_left' hl
 refine Jo.2 ⟨by rw[X0];omega,?_,?_⟩
 . rw[<-Uq (n:=21+m) (XW _),ht,Uq (XW _)];exact h2
 rw[<-Du (b.take (21+m)++r) (n:=21+m) (by omega),ht,Du b (by omega)]
def UZ{k n:Nat}{b w:Str}(h:bN k b=(n,w)):n<=b.length:=by
 obtain h1|⟨m,h1,h2,h3⟩:=Jp k b
 . rw[h]at h1;cases h1;exact Yi _
 rw[h]at h3;cases h3;exact h1
theorem tC(k:UInt8)(w:Str):(cO k w).length=21+w.length:=by
 simp[cO,rP,fD]
 omega
theorem Dx(l:Str):iD l<18446744073709551616:=by
 unfold iD
 rcases List.eq_nil_or_concat l with e|⟨p,z,e⟩
 . subst e;decide
 rw[e,List.concat_eq_append,Zf,YF,ZA]
 unfold rV
 omega
def U3{k:UInt8}{w r:Str}(hw:w.length<4294967296):bN k.toNat (cO k w++r)=(21+w.length,w):=by
 have e:cO k w++r=rP k w.length++(dX (iD (rP k w.length)) 8++(w++(dX (iD w) 8++r))):=by simp[cO]
 have hh:(rP k w.length).length=5:=by simp[rP,fD]
 have n1:=IB (u:=w.length) (k:=4) (by omega) (show _<4294967296 from hw)
 have n2:=IB (u:=iD (rP k w.length)) (k:=8) (Dx _) (Dx _)
 have n3:=IB (u:=iD w) (k:=8) (Dx _) (Dx _)
 have d5:(cO k w++r).drop 5=dX (iD (rP k w.length)) 8++(w++(dX (iD w) 8++r)):=by rw[e,List.drop_left' hh]
 have d13:(cO k w++r).drop 13=w++(dX (iD w) 8++r):=by
  rw[show 13=5+8 from rfl,<-ZI,d5,List.drop_left' (fD _ 8)]
 have dw:(cO k w++r).drop (13+w.length)=dX (iD w) 8++r:=by rw[<-ZI,d13,List.drop_left' rfl]
 refine Jo.2 ⟨by rw[X0,tC];omega,⟨?_,?_,?_,?_⟩,?_⟩
 . rw[e];rfl
 .
  have:((cO k w++r).drop 1).take 4=dX w.length 4:=by
   rw[e]
   show((dX w.length 4++_)).take 4=_
   rw[List.take_left' (fD _ 4)]
  rw[this,n1]
 .
  rw[d5,List.take_left' (fD _ 8),n2]
  congr 1
 . rw[dw,List.take_left' (fD _ 8),n3,d13,List.take_left' rfl]
 rw[d13,List.take_left' rfl]
def GQ{b:Str}{z:Zon}{n:Nat}:rf b=some (z,n)↔n≠0 /\ ∃w,bN 1 b=(n,w)/\yZ w=some z/\aI z=true:=by
 unfold rf
 constructor
 .
  intro h
  split at h
  . cases h
  rename_i q
  split at h
  . cases h
  rename_i z' hz
  split at h
  .
   rename_i hv
   simp only[Yf,YJ]at h;obtain⟨rfl,rfl⟩:=h;exact⟨q,_,rfl,hz,hv⟩
  cases h
 rintro⟨h0,w,h1,h2,h3⟩
 rw[h1]
 rw[XV h0]
 simp only[h2]
 rw[X3 h3]
def GR{y:Zon}{b:Str}{z:Zon}{n:Nat}:kY y b=some (z,n)↔n≠0 /\ ∃w d,bN 2 b=(n,w)/\wE w=some d/\ed y d=(z,0):=by
 unfold kY
 constructor
 .
  intro h
  split at h
  . cases h
  rename_i q
  split at h
  . cases h
  rename_i d hd
  split at h
  .
   rename_i hv
   simp only[Yf,YJ]at h;obtain⟨rfl,rfl⟩:=h;exact⟨q,_,d,rfl,hd,Prod.ext rfl hv⟩
  cases h
 rintro⟨h0,w,d,h1,h2,h3⟩
 rw[h1]
 rw[XV h0]
 simp only[h2,h3]
 exact X3 trivial
theorem KI{c:dH}{b r:Str}{z:Zon}{n:Nat}(h:stepC c b=some (z,n)):stepC c (b.take n++r)=some (z,n):=by
 cases c with
 | none =>
  obtain⟨h0,w,h1,h2,h3⟩:=GQ.1 (show rf b=_ from h)
  exact GQ.2 ⟨h0,w,UY h1 h0,h2,h3⟩
 | some y =>
  obtain⟨h0,w,d,h1,h2,h3⟩:=GR.1 (show kY y b=_ from h)
  exact GR.2 ⟨h0,w,d,UY h1 h0,h2,h3⟩
theorem wm{c:dH}{b:Str}{z:Zon}{n:Nat}(h:stepC c b=some (z,n)):n<=b.length/\0<n:=by
 cases c with
 | none =>
  obtain⟨h0,w,h1,_⟩:=GQ.1 (show rf b=_ from h)
  exact⟨UZ h1,Nat.pos_of_ne_zero h0⟩
 | some y =>
  obtain⟨h0,w,d,h1,_⟩:=GR.1 (show kY y b=_ from h)
  exact⟨UZ h1,Nat.pos_of_ne_zero h0⟩
def fr(c:dH)(b:Str):List (Zon×Nat):=match c with
 | none=>jc b
 | some z=>more z b
theorem zM{c:dH}{b:Str}(h:stepC c b=none):fr c b=[]:=by
 cases c with
 | none=>unfold fr jc;simp only;rw[show rf b=none from h]
 | some z=>exact Zfm h
theorem zL{c:dH}{b:Str}{y:Zon}{n:Nat}(h:stepC c b=some (y,n)):fr c b=(y,n)::fr (some y) (b.drop n):=by
 cases c with
 | none=>unfold fr jc;simp only;rw[show rf b=some (y,n)from h]
 | some z=>exact Zfl h
def vB(c:dH)(l:List (Zon×Nat)):dH:=match l.getLast? with
 | none=>c
 | some x=>some x.1
theorem EL(c:dH)(x:Zon×Nat)(l:List (Zon×Nat)):vB c (x::l)=vB (some x.1) l:=by
 unfold vB
 cases l with
 | nil=>rfl
 | cons y l =>
  rw[List.getLast?_cons_cons]
  cases h:(y::l).getLast? with
  | none=>simp at h
  | some z=>rfl
theorem Ec(x:Zon×Nat)(l:List (Zon×Nat)):gX (x::l)=x.2+gX l:=by simp[gX]
theorem M9 : ∀(n:Nat)(c:dH)(b:Str),b.length<=n->gX (fr c b)<=b.length:=by
 intro n
 induction n with
 | zero =>
  intro c b hb
  cases h:stepC c b with
  | none=>rw[zM h];exact Yi _
  | some x=>have:=wm (z:=x.1) (n:=x.2) h;omega
 | succ n ih =>
  intro c b hb
  cases h:stepC c b with
  | none=>rw[zM h];exact Yi _
  | some x =>
   obtain⟨y,k⟩:=x;obtain⟨h1,h2⟩:=wm h;rw[zL h,Ec];have:=ih (some y) (b.drop k) (by rw[Yu];omega)
   rw[Yu]at this
   show k+_<=_
   omega
theorem Zhv : ∀(n:Nat)(c:dH)(a r:Str),a.length<=n->gX (fr c a)=a.length->fr c (a++r)=fr c a++fr (vB c (fr c a)) r:=by
 intro n
 induction n with
 | zero =>
  intro c a r ha hs;have:a=[]:=Yb om;subst this;have h0:fr c []=[]:=by
   cases h:stepC c []with
   | none=>exact zM h
   | some x=>have:=wm (z:=x.1) (n:=x.2) h;simp at this;omega
  rw[h0];rfl
 | succ n ih =>
  intro c a r ha hs
  cases h:stepC c a with
  | none =>
   have h0:=zM h;rw[h0]at hs ⊢;have:a=[]:=Yb (by simpa[gX]using hs.symm)
   subst this;rfl
  | some x =>
   obtain⟨y,k⟩:=x;obtain⟨h1,h2⟩:=wm h;have hl:stepC c (a++r)=some (y,k):=by
    have:=KI (r:=a.drop k++r) h;rwa [<-Yw,Za]at this
   rw[zL h,Ec]at hs;have hd:(a++r).drop k=a.drop k++r:=List.drop_append_of_le_length h1;rw[zL h,zL hl,hd,EL,XY]
   congr 1
   refine ih (some y) (a.drop k) r (by rw[Yu];omega) ?_
   rw[Yu];simp only at hs;omega
theorem Zht : ∀(n:Nat)(c:dH)(a:Str),a.length<=n->fr c (a.take (gX (fr c a)))=fr c a:=by
 intro n
 induction n with
 | zero =>
  intro c a ha;have:a=[]:=Yb om;subst this
  simp
 | succ n ih =>
  intro c a ha
  cases h:stepC c a with
  | none =>
   rw[zM h];have:fr c (a.take (gX []))=[]:=by
    show fr c (a.take 0)=[]
    rw[Ye]
    cases h':stepC c []with
    | none=>exact zM h'
    | some x=>have:=wm (z:=x.1) (n:=x.2) h';simp at this;omega
   exact this
  | some x =>
   obtain⟨y,k⟩:=x;obtain⟨h1,h2⟩:=wm h;have hs:=M9 _ (some y) (a.drop k) (XW _);rw[Yu]at hs;rw[zL h,Ec];have e:a.take (k+gX (fr (some y) (a.drop k)))=a.take k++(a.drop k).take (gX (fr (some y) (a.drop k))):=List.take_add;have hl:=KI (r:=(a.drop k).take (gX (fr (some y) (a.drop k)))) h;rw[<-e]at hl;have hd:(a.take (k+gX (fr (some y) (a.drop k)))).drop k=(a.drop k).take (gX (fr (some y) (a.drop k))):=by rw[List.drop_take];congr 1;omega
   rw[show((y,k):Zon×Nat).2=k from rfl,zL hl,hd,ih (some y) (a.drop k) (by rw[Yu];omega)]
theorem N8(p:Str)(l:List Str):cu (p::l)=p++cu l:=by simp[cu]
theorem U5(c:dH):fr c []=[]:=by
 cases h:stepC c []with
 | none=>exact zM h
 | some x=>have:=wm (z:=x.1) (n:=x.2) h;simp at this;omega
theorem EI{c:dH}{p:Str}{y:Zon}{n:Nat}(h:stepC c p=some (y,n)):fV c p=(some y,n):=by unfold fV;rw[h]
theorem CJ{c:dH}{p:Str}(h:stepC c p=none):fV c p=(c,0):=by unfold fV;rw[h]
theorem ZfX(c:dH):∀(l m:List (Zon×Nat)),vB c (l++m)=vB (vB c l) m:=by
 intro l m
 induction l generalizing c with
 | nil=>rfl
 | cons x l ih=>rw[XY,EL,EL];exact ih _
theorem RN : ∀(l:List Str)(c c':dH),ji c l=some c'->c'=vB c (fr c (cu l))/\gX (fr c (cu l))=(cu l).length
 | [],c,c',h=>by
  simp only[ji,Yf]at h;subst h;have:cu []=[]:=rfl;rw[this,U5];exact⟨rfl,rfl⟩
 | p::l,c,c',h=>by
  unfold ji at h
  split at h
  .
   rename_i q
   cases hs:stepC c p with
   | none=>rw[CJ hs]at q;exact absurd rfl q.1
   | some x =>
    obtain⟨y,k⟩:=x;rw[EI hs]at q h;obtain⟨q1,q2⟩:=q;simp only at q1 q2 h;subst q2;obtain⟨i1,i2⟩:=RN l (some y) c' h;have hl:=KI (r:=cu l) hs;rw[Yt]at hl;rw[N8,zL hl,List.drop_left' rfl,EL,Ec,X0];exact⟨i1,by rw[i2]⟩
  cases h
theorem Cf(b:Str):gF b=vB none (jc b):=by
 unfold gF vB
 cases h:(jc b).getLast? <;> rfl
theorem Cx(b:Str):(eH b).length=gX (jc b):=by
 have:=M9 _ none b (XW _)
 unfold eH
 rw[YR]
 exact ZK this
theorem Ik(b:Str):jc (eH b)=jc b:=Zht _ none b (XW _)
theorem Zeo(b:Str):eH (eH b)=eH b:=by
 have e:eH (eH b)=(eH b).take (gX (jc (eH b))):=rfl
 rw[e,Ik,<-Cx,Yt]
theorem RU(b:Str):gF (eH b)=gF b:=by rw[Cf,Cf,Ik]
theorem U2(b r:Str):jc (eH b++r)=jc b++fr (gF b) r:=by
 have h:=Zhv _ none (eH b) r (XW _) (by show gX (jc (eH b))=_;rw[Ik,Cx])
 have e:fr none (eH b)=jc b:=Ik b
 rw[e,<-Cf]at h
 exact h
def CB{d:dn}{o:l5}(h:fJ d=some o):d.safe.length<=1000000/\d.pend.length<=200/\o.whole=eH d.safe/\o.size=((eH d.safe).length+(cu d.pend).length:Nat)/\o.saved=gF d.safe/\ji (gF d.safe) d.pend=some o.all:=by
 unfold fJ at h
 split at h
 . cases h
 rename_i q
 split at h
 . cases h
 rename_i c hc
 cases h
 exact⟨om,om,rfl,by push_cast;rfl,rfl,hc⟩
end Go.Jn
namespace Go.Zon
open Go.DL Go.Str Go.Rec Go.Cmp
def NT(l:List ak):Nat->List ak
 | 0=>[]
 | k+1=>if k=0\/l[k]! ≠ l[k-1]! then NT l k++[l[k]!]else NT l k
def cpF(l:List ak):List ak:=NT l l.length
def stayJ(d e:aG):List Sgd:=gp ⟨d.apex,d.put⟩ e
def Lj(d e:aG):List Sgd:=iO (stayJ d e++e.put)
def VF(d e:aG):List ak:=(cpF (sortQ (d.drop++e.drop))).filterMap (j3S (kT (Lj d e)))
def uniP(d e:aG):aG:=⟨d.apex,d.frm,e.too,VF d e,Lj d e⟩
def rM(d e:aG):aG×Int :=
 if fO d=false\/fO e=false\/d.apex≠e.apex then(qL,1)else if d.too≠e.frm\/gV d.frm e.too=false then(qL,23)else
 if 20000<(VF d e).length\/20000<(Lj d e).length then(qL,2)else(uniP d e,0)
def SG{z:Zon}{d:aG}{x:Sgd}:x∈(ng z d).sets↔(x∈z.sets/\x.q ∉ d.drop /\ ∀s∈d.put,s.q≠x.q)\/x∈d.put:=by
 show x∈iO _↔_
 rw[KR,Yv,Ee]
def Oo{z:Zon}{d:aG}{x:Zon}(h:ed z d=(x,0)):x=ng z d/\AOk z d:=by
 rcases Zj2 z d with ha|⟨ha,_⟩|ha|ha|⟨ha,hk⟩
 . rw[ha]at h;cases h
 . rw[ha]at h;cases h
 . rw[ha]at h;cases h
 . rw[ha]at h;cases h
 rw[ha]at h;exact⟨(YJ _ _ _ _▸h).1.symm,hk⟩

end Go.Zon
namespace Go.Jn
open Go.DL Go.Str Go.Rec Go.Cmp Go.Zon
def cut_at{l:Str}{i a n:Nat}(h1:a<=i)(h2:i<a+n)(h3:i<l.length):∃h:i-a<((l.drop a).take n).length,((l.drop a).take n)[i-a]=l[i]:=by
 have h:i-a<((l.drop a).take n).length:=by rw[YR,Yu];omega
 refine⟨h,?_⟩
 rw[List.getElem_take,List.getElem_drop]
 congr 1
 omega
theorem RL{c:dH}{p:Str}{y:Zon}{l:List Str}(h:stepC c p=some (y,p.length)):ji c (p::l)=ji (some y) l:=by
 have h0:=(wm h).2
 show(if(fV c p).2≠0/\(fV c p).2=p.length then ji (fV c p).1 l else none)=_
 rw[EI h,if_pos ⟨by dsimp only;omega,rfl⟩]
theorem Ih : ∀(l m:List Str)(c:dH),ji c (l++m)=(ji c l).bind λc1=>ji c1 m
 | [],m,c=>rfl
 | p::l,m,c=>by
  show(if(fV c p).2≠0/\(fV c p).2=p.length then ji (fV c p).1 (l++m)else none)=(if(fV c p).2≠0/\(fV c p).2=p.length then ji (fV c p).1 l else none).bind λc1=>ji c1 m
  split
  . exact Ih l m _
  rfl
theorem Zai{b:Str}{l:List Str}{c:dH}(h:ji (gF b) l=some c):gF (eH b++cu l)=c/\eH (eH b++cu l)=eH b++cu l:=by
 obtain⟨h7,h8⟩:=RN _ _ _ h
 constructor
 . rw[Cf,U2,ZfX,<-Cf,<-h7]
 have e:eH (eH b++cu l)=(eH b++cu l).take (gX (jc (eH b++cu l))):=rfl
 rw[e,U2]
 have:gX (jc b++fr (gF b) (cu l))=(eH b++cu l).length:=by
  rw[X0,Cx,<-h8]
  simp[gX]
 rw[this,Yt]
theorem Zjy(a b:List Str):cu (a++b)=cu a++cu b:=by simp[cu]
theorem WQ{l:List Str}{i:Nat}(h:i<l.length):cu (l.take (i+1))=cu (l.take i)++l[i]! := by
 rw[Zj]
 have e:l[i]?.toList=[l[i]!]:=by simp[h,getElem!_pos]
 rw[e]
 simp[cu]
theorem ZfJ{s:Str}(h:s.length<=1000000):oQ ⟨s,[]⟩=match gF s with
  | none=>(dE,42)
  | some z=>(z,0):=by
 unfold oQ fJ
 rw[XV (λq=>q.elim (λq=>absurd q (show ¬1000000<s.length by omega)) (λq=>by simp at q))]
 rfl
def Lu(b:Str):(eH b).length<=b.length:=by
 unfold eH
 rw[YR]
 exact Nat.min_le_right _ _
def Zby{z y:Zon}{x:aG}(hx:BU x)(hl:(dC x).length<4294967296)(h:ed z x=(y,0)):kY z (cO 2 (dC x))=some (y,(cO 2 (dC x)).length):=by
 have h1:=U3 (k:=2) (w:=dC x) (r:=[]) hl
 rw[Yx]at h1
 exact GR.2 ⟨by rw[tC];omega,dC x,x,by rw[tC];exact h1,ZdI hx,h⟩
def ZbD(z:Zon)(b:Str):stepC (some z) b=kY z b:=rfl
def ZbE(b:Str):stepC none b=rf b:=rfl
theorem Zbx{z y:Zon}{x:aG}(hx:BU x)(hl:(dC x).length<4294967296)(h:ed z x=(y,0)):stepC (some z) (cO 2 (dC x))=some (y,(cO 2 (dC x)).length):=(ZbD _ _).trans (Zby hx hl h)
def ZhI{z:Zon}(hz:Gj z)(hl:(dY z).length<4294967296)(h:aI z=true):rf (cO 1 (dY z))=some (z,(cO 1 (dY z)).length):=by
 have h1:=U3 (k:=1) (w:=dY z) (r:=[]) hl
 rw[Yx]at h1
 exact GQ.2 ⟨by rw[tC];omega,dY z,by rw[tC];exact h1,ZdG hz,h⟩
def Zj3{d:dn}{o:l5}{z y:Zon}{x:aG}(h:fJ d=some o)(ha:o.all=some z)(hx:BU x)(hl:(dC x).length<4294967296)(hy:ed z x=(y,0))(hp:d.pend.length<200) :
  fJ ⟨o.whole,d.pend++[cO 2 (dC x)]⟩=some ⟨o.whole,o.size+(cO 2 (dC x)).length,o.saved,some y⟩:=by
 obtain⟨k1,k2,k3,k4,k5,k6⟩:=CB h
 have hw:=Lu d.safe
 unfold fJ
 rw[XV (by rintro (q|q);rw[k3]at q;simp only at q;omega;simp at q;omega)]
 have e1:ji (gF o.whole) (d.pend++[cO 2 (dC x)])=some (some y):=by
  rw[k3,RU,Ih,k6,ha]
  show ji (some z) [cO 2 (dC x)]=_
  rw[RL (c:=some z) (p:=cO 2 (dC x)) (y:=y) (l:=[]) (Zbx hx hl hy)];rfl
 simp only[e1]
 rw[k3,Zeo,RU,k4,k5]
 have e2:cu (d.pend++[cO 2 (dC x)])=cu d.pend++cO 2 (dC x):=by simp[cu]
 rw[e2,X0]
 push_cast
 rw[Int.add_assoc]
theorem ZhH{z:Zon}(hz:Gj z)(hl:(dY z).length<4294967296)(h:aI z=true):stepC none (cO 1 (dY z))=some (z,(cO 1 (dY z)).length):=(ZbE _).trans (ZhI hz hl h)
theorem Ka{d:dn}{o:l5}{z:Zon}{x:aG}{y:Zon}(h:fJ d=some o)(ha:o.all=some z)(hy:ed z x=(y,0)) :
  mP d x=if 200<=d.pend.length then(rU,2)else if 1000000<o.size+(cO 2 (dC x)).length then(rU,41)else(⟨o.whole,d.pend++[cO 2 (dC x)]⟩,0):=by
 obtain⟨_,k⟩:=Oo hy
 unfold mP
 simp only[h,ha,hy]
 rw[XV (by rw[k.dok];simp),XV (by simp)]
theorem Zj4{d:dn}{o:l5}{z:Zon}{x:aG}(h:fJ d=some o)(ha:o.all=some z)(hy:(ed z x).2≠0):mP d x=(rU,if fO x=false then 1 else(ed z x).2):=by
 unfold mP
 simp only[h,ha]
 split<;>first|rfl|(rw[X3 hy])
theorem Zj8{d:dn}{o:l5}{x:aG}(h:fJ d=some o)(ha:o.all=none):mP d x=(rU,if fO x=false then 1 else 42):=by
 unfold mP
 simp only[h,ha]
 split<;>rfl
def Gl(z:Zon):Prop:=∀s∈z.sets,∀g∈s.sigs,0<=g.sum/\g.sum<18446744073709551616
def BS(x:aG):Prop:=∀s∈x.put,∀g∈s.sigs,0<=g.sum/\g.sum<18446744073709551616
def OE{z:Zon}(h:aI z=true){s:Sgd}(hs:s∈z.sets):s.sigs.length<=6 /\ ∀g∈s.sigs,g.zone=z.apex/\i64 g.key/\i64 g.alg/\i64 g.frm/\i64 g.unt:=by
 simp only[aI,XU]at h
 obtain⟨i,hi,rfl⟩:=Zg hs
 have h1:=(eu _ _ _).1 h.2 i (Yi _) hi
 have h1:rR z i=true:=h1
 unfold rR mg at h1
 rw[XU]at h1
 rw[<-getElem!_pos z.sets i hi]
 refine⟨by have:=h1.1;simpa using this,λg hg=>?_⟩
 obtain⟨j,hj,rfl⟩:=Zg hg
 have h2:=(eu _ _ _).1 h1.2 j (Yi _) hj
 simp only[lc,XU,XX,jL,YA]at h2
 rw[<-getElem!_pos z.sets[i]!.sigs j hj]
 obtain⟨⟨⟨⟨⟨⟨a1,a2⟩,a3⟩,a4⟩,a5⟩,a6⟩,_⟩:=h2
 unfold i64
 exact⟨a1,om,om,om,om⟩
def OG{z:Zon}(h:aI z=true){s:Sgd}(hs:s∈z.sets)(hu : ∀g∈s.sigs,0<=g.sum/\g.sum<18446744073709551616):yJ s:=by
 obtain⟨h1,h2⟩:=OE h hs
 have ha:=gI (lF h).apex
 exact⟨(lF h).ok s hs,om,λg hg=>by obtain⟨a,b,c,d,e⟩:=h2 g hg;exact⟨by rw[a];omega,b,c,d,e,hu g hg⟩⟩
theorem OD{z:Zon}(h:aI z=true)(hu:Gl z):Gj z:=by
 have ha:=gI (lF h).apex
 have hl:=(lF h).len
 exact⟨om,om,λs hs=>OG h hs (hu s hs)⟩
def QB{n:Int}(h:iy n=true):i64 n:=by
 simp only[iy,XU,XX]at h
 unfold i64
 omega
def ZdZ{q:ak}(h:pY q=true):Gn q:=by
 have h1:=gI (wF h)
 simp only[pY,XU,jL]at h
 exact⟨om,om⟩
def VN{z y:Zon}{x:aG}(h:ed z x=(y,0))(hu:BS x):BU x:=by
 obtain⟨rfl,k⟩:=Oo h
 have hd:=yx.1 k.dok
 have ha:=gI hd.apex
 have h1:=hd.dlen
 have h2:=hd.plen
 exact⟨om,QB hd.frm,QB hd.too,om,λq hq=>ZdZ (hd.dok q hq),om,λs hs=>OG k.new (SG.2 (.inr hs)) (hu s hs)⟩
def Qn{z:Zon}(h:aI z=true){s:Sgd}(hs:s∈z.sets):(eZ s).length<=1700:=by
 obtain⟨h1,h2⟩:=OE h hs
 have ha:=gI (lF h).apex
 have hb:=El ((lF h).ok s hs)
 have hf:=wW (f:=iI) (n:=101) (l:=s.sigs) λg hg=>by
  have:=(h2 g hg).1;simp only[iI,bO,X0,YS,iW,this];omega
 simp only[eZ,X0,YS,fD]
 omega
def ZiA{z y:Zon}{x:aG}(h:ed z x=(y,0)):(dC x).length<=100+x.drop.length*62+x.put.length*1700:=by
 obtain⟨rfl,k⟩:=Oo h
 have hd:=yx.1 k.dok
 have ha:=gI hd.apex
 have h1:=wW (f:=kC) (n:=62) (l:=x.drop) λq hq=>by
  have:=gI (wF (hd.dok q hq));simp only[kC,bO,X0,YS,Zq];omega
 have h2:=wW (f:=eZ) (n:=1700) (l:=x.put) λs hs=>Qn k.new (SG.2 (.inr hs))
 simp only[dC,jf,bO,X0,YS,iW,fD]
 omega
def XD{z:Zon}(h:aI z=true):(dY z).length<=100+z.sets.length*1700:=by
 have ha:=gI (lF h).apex
 have h2:=wW (f:=eZ) (n:=1700) (l:=z.sets) λs hs=>Qn h hs
 simp only[dY,jf,bO,X0,YS,fD]
 omega
def tO{α:Type}(f:RS->α×RS)(enc:α->Nat)(ok:α->Prop):Prop:=∀st:RS,(f st).2.2=false->st.2=false/\st.1.length=enc (f st).1+(f st).2.1.length/\ok (f st).1
theorem MW(k:Nat):tO (bS k) (λ_=>k) (λs=>s.length=k):=by
 intro st h
 cases hs:st.2 with
 | true=>rw[vW (.inl hs)]at h;cases h
 | false =>
  by_cases hk:k<=st.1.length
  .
   rw[take_ok hs hk];refine⟨rfl,?_,?_⟩
   .
    show st.1.length=k+(st.1.drop k).length
    rw[Yu];omega
   show(st.1.take k).length=k
   rw[YR];omega
  rw[vW (.inr (by omega))]at h;cases h
def Jg(k:Nat):tO (au k) (λ_=>k) (λu=>u<18446744073709551616):=by
 intro st h
 obtain⟨h1,h2,_⟩:=MW k st h
 exact⟨h1,h2,Sn _⟩
def MU:tO (au 1) (λ_=>1) (λu=>u<18446744073709551616):=Jg 1
def Zhh:tO (au 2) (λ_=>2) (λu=>u<18446744073709551616):=Jg 2
def UN:tO (au 4) (λ_=>4) (λu=>u<18446744073709551616):=Jg 4
def BA:tO (au 8) (λ_=>8) (λu=>u<18446744073709551616):=Jg 8
def MV:tO bQ (λt=>(bO t).length) (λ_=>True):=by
 intro st h
 obtain⟨h1,h2,h3⟩:=MW (au 1 st).1 (au 1 st).2 h
 obtain⟨h4,h5,_⟩:=MU st h1
 refine⟨h4,?_,trivial⟩
 have e:(bQ st).1.length=(au 1 st).1:=h3
 have e2:(au 1 st).2.1.length=(au 1 st).1+(bQ st).2.1.length:=h2
 show st.1.length=(bQ st).1.length+1+_
 have e3:st.1.length=1+(au 1 st).2.1.length:=h5
 omega
def Ov(g:RSig):Prop:=0<=g.sum/\g.sum<18446744073709551616
theorem Qi(g:RSig):(iI g).length=(bO g.zone).length+40:=by
 simp only[iI,X0,iW]
def Zhi:tO ll (λg=>(iI g).length) Ov:=by
 intro st h
 obtain⟨h1,a1,a2⟩:=BA _ h
 obtain⟨h2,b1,_⟩:=BA _ h1
 obtain⟨h3,c1,_⟩:=BA _ h2
 obtain⟨h4,d1,_⟩:=BA _ h3
 obtain⟨h5,e1,_⟩:=BA _ h4
 obtain⟨h6,f1,_⟩:=MV _ h5
 have es:(ll st).1.sum=(((au 8 (au 8 (au 8 (au 8 (au 8 (bQ st).2).2).2).2).2).1:Nat):Int):=rfl
 refine⟨h6,?_,by unfold Ov;rw[es];omega⟩
 show st.1.length=(iI (ll st).1).length+(ll st).2.1.length
 rw[Qi]
 show st.1.length=(bO (bQ st).1).length+40+_
 have g0:(ll st).2.1.length=(au 8 (au 8 (au 8 (au 8 (au 8 (bQ st).2).2).2).2).2).2.1.length:=rfl
 dsimp only at a1 b1 c1 d1 e1 f1
 rw[g0]
 omega
def mZ{α:Type}(f:RS->α×RS):Nat->List α->RS->List α×RS
 | 0,out,st=>(out,st)
 | k+1,out,st=>if st.2 then(out,st)else mZ f k (out++[(f st).1]) (f st).2
theorem Jh{α:Type}{f:RS->α×RS}{enc:α->Nat}{ok:α->Prop}(hf:tO f enc ok):∀(k:Nat)(out:List α)(st:RS),(mZ f k out st).2.2=false ->
  st.2=false /\ ∃l,(mZ f k out st).1=out++l/\st.1.length=(l.map enc).sum+(mZ f k out st).2.1.length/\(∀x∈l,ok x)
 | 0,out,st,h=>⟨h,[],by simp[mZ],by simp[mZ],λx hx=>by cases hx⟩
 | k+1,out,st,h=>by
  unfold mZ at h ⊢
  split at h
  . rename_i q;rw[q]at h;cases h
  rename_i q
  rw[XV q];obtain⟨h1,l,h2,h3,h4⟩:=Jh hf k _ _ h;obtain⟨h5,h6,h7⟩:=hf st h1;refine⟨h5,(f st).1::l,by rw[h2];simp,?_,λx hx=>?_⟩
  . rw[h6,h3];simp;omega
  rcases Yl.1 hx with e|e
  . subst e;exact h7
  exact h4 x e
theorem Ha : ∀(k:Nat)(out:List RSig)(st:RS),jF k out st=mZ ll k out st
 | 0,_,_=>rfl
 | k+1,out,st=>by unfold jF mZ;rw[Ha k]
theorem Hd : ∀(k:Nat)(out:List Sgd)(st:RS),jG k out st=mZ iQ k out st
 | 0,_,_=>rfl
 | k+1,out,st=>by unfold jG mZ;rw[Hd k]
theorem Ey : ∀(k:Nat)(out:List ak)(st:RS),lq k out st=mZ ol k out st
 | 0,_,_=>rfl
 | k+1,out,st=>by unfold lq mZ;rw[Ey k]
theorem JA{α:Type}(f:α->Str):∀l:List α,(l.flatMap f).length=(l.map λx=>(f x).length).sum
 | []=>rfl
 | x::l=>by rw[ZU,X0,X8,List.sum_cons,JA f l]
def Xx(s:Sgd):Prop:=∀g∈s.sigs,Ov g
def Zhj:tO iQ (λs=>(eZ s).length) Xx:=by
 intro st h
 have h:(jF (au 1 (iA st).2).1 [] (au 1 (iA st).2).2).2.2=false:=h
 rw[Ha]at h
 obtain⟨h1,l,h2,h3,h4⟩:=Jh Zhi _ _ _ h
 obtain⟨h5,h6,_⟩:=MU _ h1
 have hr:(iP (jW st).1).2=0:=by
  apply YV
  intro q;unfold iA at h5;rw[XV q]at h5
  cases h5
 have e2:iA st=((iP (jW st).1).1,(jW st).2):=by unfold iA;rw[X3 hr]
 rw[e2]at h5
 obtain⟨h7,h8,h9⟩:=MW (au 2 st).1 (au 2 st).2 h5
 obtain⟨h10,h11,_⟩:=Zhh st h7
 have hb:=(ZjD hr).2
 have es:(iQ st).1=⟨(iP (jW st).1).1,l⟩:=by
  show(⟨(iA st).1,(jF (au 1 (iA st).2).1 [] (au 1 (iA st).2).2).1⟩:Sgd)=_
  rw[Ha,h2,e2];rfl
 have er:(iQ st).2=(mZ ll (au 1 (iA st).2).1 [] (au 1 (iA st).2).2).2:=by
  show(jF (au 1 (iA st).2).1 [] (au 1 (iA st).2).2).2=_
  rw[Ha]
 refine⟨h10,?_,by rw[es];exact h4⟩
 rw[es,er]
 show st.1.length=(dX (gY (iP (jW st).1).1).length 2++gY (iP (jW st).1).1++jJ l.length::l.flatMap iI).length+_
 rw[hb]
 simp only[X0,YS,fD,JA]
 have k1:(jW st).1.length=(au 2 st).1:=h9
 have k2:(au 2 st).2.1.length=(au 2 st).1+(jW st).2.1.length:=h8
 have k3:st.1.length=2+(au 2 st).2.1.length:=h11
 have k4:(iA st).2.1.length=1+(au 1 (iA st).2).2.1.length:=h6
 have k5:(iA st).2.1.length=(jW st).2.1.length:=by rw[e2]
 omega
def SgdsS(l:List Sgd):Prop:=∀s∈l,Xx s
theorem Zcn(l:List Sgd):(jf l).length=4+(l.map λs=>(eZ s).length).sum:=by
 simp only[jf,X0,fD,JA]
def Zhk:tO lm (λl=>(jf l).length) SgdsS:=by
 intro st h
 have h:(jG (au 4 st).1 [] (au 4 st).2).2.2=false:=h
 rw[Hd]at h
 obtain⟨h1,l,h2,h3,h4⟩:=Jh Zhj _ _ _ h
 obtain⟨h5,h6,_⟩:=UN _ h1
 have es:(lm st).1=l:=by
  show(jG (au 4 st).1 [] (au 4 st).2).1=l
  rw[Hd,h2];rfl
 have er:(lm st).2=(mZ iQ (au 4 st).1 [] (au 4 st).2).2:=by
  show(jG (au 4 st).1 [] (au 4 st).2).2=_
  rw[Hd]
 refine⟨h5,?_,by rw[es];exact h4⟩
 rw[es,er]
 show st.1.length=(jf l).length+_
 rw[Zcn]
 have k3:st.1.length=4+(au 4 st).2.1.length:=h6
 omega
def Zhl:tO ol (λq=>(kC q).length) (λ_=>True):=by
 intro st h
 obtain⟨h1,h2,h3⟩:=MU (bQ st).2 h
 obtain⟨h4,h5,_⟩:=MV st h1
 refine⟨h4,?_,trivial⟩
 dsimp only at h2 h5
 show st.1.length=(bO (bQ st).1++[_]).length+(au 1 (bQ st).2).2.1.length
 rw[X0,List.length_singleton]
 have k:(bQ st).2.1.length=1+(au 1 (bQ st).2).2.1.length:=h2
 omega
def Zhm:tO fI (λd=>(dC d).length) BS:=by
 intro st h
 obtain⟨h1,a1,a2⟩:=Zhk _ h
 rw[Ey]at h1 a1
 obtain⟨h2,l,b1,b2,_⟩:=Jh Zhl _ _ _ h1
 obtain⟨h3,c1,_⟩:=UN _ h2
 obtain⟨h4,d1,_⟩:=BA _ h3
 obtain⟨h5,e1,_⟩:=BA _ h4
 obtain⟨h6,f1,_⟩:=MV _ h5
 refine⟨h6,?_,a2⟩
 have es:(fI st).1.drop=l:=by
  show(lq _ [] _).1=l
  rw[Ey,b1];rfl
 have hl:(dC (fI st).1).length=(bO (bQ st).1).length+20+(l.map λx=>(kC x).length).sum+(jf (fI st).1.put).length:=by
  unfold dC;rw[es];simp only[X0,iW,fD,JA]
  show(bO (bQ st).1).length+8+8+4+_+_=_
  omega
 dsimp only at *
 rw[hl]
 have g0:(fI st).2.1.length=(lm (mZ ol (au 4 (au 8 (au 8 (bQ st).2).2).2).1 [] (au 4 (au 8 (au 8 (bQ st).2).2).2).2).2).2.1.length:=by
  rw[<-Ey];rfl
 have g1:(jf (fI st).1.put).length=(jf (lm (mZ ol (au 4 (au 8 (au 8 (bQ st).2).2).2).1 [] (au 4 (au 8 (au 8 (bQ st).2).2).2).2).2).1).length:=by
  rw[<-Ey];rfl
 rw[g0,g1]
 omega
def ZdH{w:Str}{d:aG}(h:wE w=some d):(dC d).length=w.length/\BS d:=by
 unfold wE at h
 split at h
 . cases h
 rename_i q
 cases h
 unfold ib at q
 simp only[Yc,XX,not_or,Bool.not_eq_true]at q
 obtain⟨_,h2,h3⟩:=Zhm (w,false) q.1
 exact⟨by dsimp only at h2;omega,h3⟩
def Zbq{d:dn}{o:l5}(h:fJ d=some o)(hs:o.size<=1000000):qZ d=(⟨o.whole++cu d.pend,[]⟩,0)/\gF (o.whole++cu d.pend)=o.all/\(o.whole++cu d.pend).length<=1000000:=by
 obtain⟨_,_,h3,h4,_,h6⟩:=CB h
 refine⟨?_,?_,?_⟩
 . unfold qZ;rw[h];simp only;rw[XV (by omega)]
 . rw[h3,(Zai h6).1]
 rw[h3,X0];omega
def ZjT{z:Zon}(hz:aI z=true)(hu:Gl z)(hl:(dY z).length<=900000):rW z=(⟨[],[cO 1 (dY z)]⟩,0) /\ ∃o,fJ ⟨[],[cO 1 (dY z)]⟩=some o/\o.all=some z/\o.saved=none/\o.whole=[]/\o.size<=1000000:=by
 have hfl:=tC 1 (dY z)
 constructor
 . unfold rW;rw[XV (by rw[hz];simp),XV (by omega)]
 have e0:jc []=[]:=U5 none
 have ew:gF []=none:=by unfold gF;rw[e0];rfl
 have ep:eH []=[]:=by unfold eH;simp
 have e1:ji (gF []) [cO 1 (dY z)]=some (some z):=by
  rw[ew,RL (c:=none) (p:=cO 1 (dY z)) (y:=z) (l:=[]) (ZhH (OD hz hu) (by omega) hz)]
  rfl
 refine⟨⟨eH [],((eH []).length:Int)+(cu [cO 1 (dY z)]).length,gF [],some z⟩,?_,rfl,ew,ep,?_⟩
 .
  unfold fJ;rw[XV (by rintro (q|q)<;>simp at q)]
  simp only[e1]
 show((eH []).length:Int)+(cu [cO 1 (dY z)]).length<=_
 rw[ep]
 simp only[cu,List.flatten_cons,List.flatten_nil,Yx,Zq]
 omega
def wG(w:Str):Zon:=if(jV (w,false)).2.2=true then dE else(jV (w,false)).1
def rE(w:Str):aG:=if(fI (w,false)).2.2=true then qL else(fI (w,false)).1
def Ko:D->Value
 | .v x=>x
 | _=>undef
@[go_sem]theorem val1_v(x:Value):Ko (.v x)=x:=rfl
def isE:Value->Bool
 | .nilIface=>false
 | _=>true
def l5.d(o:l5):List D:=.list false (o.whole.map bD) :: .i o.size::(o.saved.d++o.all.d)
def LD:l5:=⟨[],0,none,none⟩
def u6(d:dn):l5:=(fJ d).getD LD
@[go_sem]theorem cnt_d(c:dH):c.d=[.v (.bool c.isSome),.v (.string (bs (c.getD dE).apex)),.list false ((c.getD dE).sets.map Sgd.d)]:=rfl
def mkC(b:Bool)(z:Zon):dH:=if b then some z else none
@[go_sem]theorem mkC_c(c:dH):mkC c.isSome (c.getD dE)=c:=by
 cases c<;>rfl
@[go_sem]theorem cnt1_agg{b:Bool}{s:ByteArray}{f:Bool}{rows:List (List D)}:cnt1 (.agg [.v (.bool b),.v (.string s),.list f rows])=mkC b (aO (.agg [.v (.string s),.list f rows])):=by
 cases b<;>rfl
attribute [go_sem] Option.isSome_some Option.isSome_none Option.getD_some Option.getD_none
def dsk_d(x:dn):x.d=[.list false (x.safe.map bD),.list false (x.pend.map jy)]:=rfl
def dsk1_agg{f g:Bool}{rows lh:List (List D)}:nO (.agg [.list f rows,.list g lh])=⟨gL (.list f rows),Ii (.list g lh)⟩:=rfl
attribute[go_sem]dsk_d dsk1_agg
@[go_sem]theorem Zk3{f:Bool}{l:List Str}:Ii (.list f (l.map jy))=l:=kR (f:=jy) (g:=ofBy) (λx=>by show gL (.list false (x.map bD))=x;exact ZjE) l
@[go_sem]theorem opn_d(o:l5):o.d=[.list false (o.whole.map bD),.i o.size,.v (.bool o.saved.isSome),.v (.string (bs (o.saved.getD dE).apex)),.list false ((o.saved.getD dE).sets.map Sgd.d),.v (.bool o.all.isSome),.v (.string (bs (o.all.getD dE).apex)),.list false ((o.all.getD dE).sets.map Sgd.d)]:=rfl
@[go_sem]theorem Ze1{l:List Str}:bu (l.map jy)=true:=by
 induction l with
 | nil=>rfl
 | cons x l ih=>simp[go_sem,jy,bu,bA,D.nr,ih]
@[go_sem]theorem dsk_eta(x:dn):(⟨x.safe,x.pend⟩:dn)=x:=rfl
def UW(k:Nat)(b:Str):(bN k b).2.length<=b.length/\(bN k b).1<=b.length:=by
 rcases Jp k b with e|⟨m,h1,h2,h3⟩
 . rw[e];exact⟨Yi _,Yi _⟩
 rw[h3,YR,Yu]
 dsimp only
 omega
theorem Si{w:Str}(h:ib (jV (w,false)).2=false):yZ w=some (wG w):=by
 unfold yZ wG
 rw[XV (by rw[h];simp)]
 unfold ib at h
 simp only[Yd]at h
 rw[XV (by rw[h.1];simp)]
theorem LF{w:Str}(h:ib (fI (w,false)).2=false):wE w=some (rE w):=by
 unfold wE rE
 rw[XV (by rw[h];simp)]
 unfold ib at h
 simp only[Yd]at h
 rw[XV (by rw[h.1];simp)]
theorem Ze7{w:Str}(h:(bN 1 w).1=0\/ib (jV ((bN 1 w).2,false)).2=true\/aI (wG (bN 1 w).2)=false):fV none w=(none,0):=by
 refine CJ ?_
 show rf w=none
 unfold rf
 by_cases h0:(bN 1 w).1=0
 . rw[X3 h0]
 rw[XV h0]
 cases ho:ib (jV ((bN 1 w).2,false)).2 with
 | true =>
  have:yZ (bN 1 w).2=none:=by unfold yZ;rw[X3 ho]
  simp only[this]
 | false =>
  simp only[Si ho]
  rcases h with h|h|h
  . exact absurd h h0
  . rw[ho]at h;cases h
  rw[XV (by rw[h];simp)]
def Ze6{w:Str}(h0:(bN 1 w).1≠0)(h1:ib (jV ((bN 1 w).2,false)).2=false)(h2:aI (wG (bN 1 w).2)=true):fV none w=(some (wG (bN 1 w).2),(bN 1 w).1):=by
 refine EI ?_
 show rf w=_
 unfold rf
 rw[XV h0]
 simp only[Si h1]
 rw[X3 h2]
def Zfb{z:Zon}{w:Str}(h:(bN 2 w).1=0):fV (some z) w=(some z,0):=by
 refine CJ ?_
 show kY z w=none
 unfold kY
 rw[X3 h]
def Ze9{z:Zon}{w:Str}(h:ib (fI ((bN 2 w).2,false)).2=true):fV (some z) w=(some z,0):=by
 refine CJ ?_
 show kY z w=none
 unfold kY
 split
 . rfl
 have:wE (bN 2 w).2=none:=by unfold wE;rw[X3 h]
 simp only[this]
def Zfa{z:Zon}{w:Str}(h1:ib (fI ((bN 2 w).2,false)).2=false)(h:(ed z (rE (bN 2 w).2)).2≠0):fV (some z) w=(some z,0):=by
 refine CJ ?_
 show kY z w=none
 unfold kY
 split
 . rfl
 simp only[LF h1]
 rw[XV h]
def Ze8{z:Zon}{w:Str}(h0:(bN 2 w).1≠0)(h1:ib (fI ((bN 2 w).2,false)).2=false)(h:(ed z (rE (bN 2 w).2)).2=0):fV (some z) w=(some (ed z (rE (bN 2 w).2)).1,(bN 2 w).1):=by
 refine EI ?_
 show kY z w=_
 unfold kY
 rw[XV h0]
 simp only[LF h1]
 rw[X3 h]
theorem JB{α:Type}{f:α->Str}{n:Nat}:∀{l:List α},(∀x∈l,n<=(f x).length)->l.length*n<=(l.flatMap f).length
 | [],_=>by simp
 | x::l,h=>by
  rw[ZU,X0,YS,Zh,Nat.one_mul];have h1:=h x (by simp)
  have h2:=JB (f:=f) (n:=n) (l:=l) λy hy=>h y (by simp[hy])
  omega
theorem Zfq{α:Type}{f:α->Str}{l:List α}{x:α}(h:x∈l):(f x).length<=(l.flatMap f).length:=by
 induction l with
 | nil=>cases h
 | cons y l ih =>
  rw[ZU,X0]
  rcases Yl.1 h with e|e
  . subst e;omega
  have:=ih e;omega
def Zcm{l:List Sgd}(h:(jf l).length<=1000000):fH l:=by
 have e:(jf l).length=4+(l.flatMap eZ).length:=by simp only[jf,X0,fD]
 have h1:=JB (f:=eZ) (n:=1) (l:=l) λs _=>by simp[eZ];omega
 refine Nj om λs hs=>?_
 have h2:=Zfq (f:=eZ) hs
 have h3:=JB (f:=iI) (n:=40) (l:=s.sigs) λg _=>by rw[Qi];omega
 have h4:=JB (f:=kI) (n:=16) (l:=s.set.data) λd _=>by simp[kI,iW]
 have h5:(eZ s).length=2+(gY s.set).length+1+(s.sigs.flatMap iI).length:=by
  simp only[eZ,X0,YS,fD];omega
 have h6:(s.set.data.flatMap kI).length<=(gY s.set).length:=by
  simp only[gY,X0,YS];omega
 exact Zcj om om
def Zeb{w:Str}(hw:w.length<=1000000)(h:ib (fI (w,false)).2=false):fH (rE w).put:=by
 obtain⟨h1,_⟩:=ZdH (LF h)
 refine Zcm ?_
 have:(jf (rE w).put).length<=(dC (rE w)).length:=by
  simp only[dC,X0];omega
 omega
theorem SC(c:dH)(w:Str):(stepC c w=none/\fV c w=(c,0)) \/ ∃y n,stepC c w=some (y,n)/\fV c w=(some y,n)/\0<n/\n<=w.length:=by
 cases h:stepC c w with
 | none=>exact .inl ⟨rfl,CJ h⟩
 | some x =>
  obtain⟨y,n⟩:=x;obtain⟨h1,h2⟩:=wm h;exact .inr ⟨y,n,rfl,EI h,h2,h1⟩
def Gq(w:Str)(at_:Nat)(c:dH):Prop:=at_<=w.length/\gX (jc w)=at_+gX (fr c (w.drop at_))/\gF w=vB c (fr c (w.drop at_))
def VL(w:Str):Gq w 0 none:=by
 refine⟨Yi _,?_,?_⟩
 . rw[X6,Nat.zero_add];rfl
 rw[X6,Cf];rfl
def VK{w:Str}{a n:Nat}{c:dH}{y:Zon}(h:Gq w a c)(hs:stepC c (w.drop a)=some (y,n)):Gq w (a+n) (some y):=by
 obtain⟨h1,h2,h3⟩:=h
 have h4:=(wm hs).1
 rw[Yu]at h4
 rw[zL hs,ZI]at h2 h3
 rw[Ec]at h2
 rw[EL]at h3
 exact⟨om,by dsimp only at h2;omega,h3⟩
def Ziy{w:Str}{a:Nat}{c:dH}(h:Gq w a c)(hs:stepC c (w.drop a)=none):gX (jc w)=a/\gF w=c:=by
 obtain⟨h1,h2,h3⟩:=h
 rw[zM hs]at h2 h3
 exact⟨h2,h3⟩
def AA(c:dH)(l:List Str)(k:Nat):Option dH:=ji c (l.take k)
def Lt{c ck:dH}{l:List Str}{k:Nat}(h:AA c l k=some ck)(hk:k<l.length):AA c l (k+1)=if(fV ck l[k]!).2≠0/\(fV ck l[k]!).2=l[k]!.length then some (fV ck l[k]!).1 else none:=by
 unfold AA at h ⊢
 rw[Zj,Ih,h]
 have e:l[k]?.toList=[l[k]!]:=by simp[hk,getElem!_pos]
 rw[e]
 rfl
def RO{c:dH}{l:List Str}{k:Nat}(h:AA c l k=none):ji c l=none:=by
 rw[<-Za k l,Ih,show ji c (l.take k)=none from h]
 rfl
def Zel{c:dH}{l:List Str}:AA c l l.length=ji c l:=by unfold AA;rw[Yt]
def WP{l:List Str}{k:Nat}(hk:k<l.length):(cu (l.take (k+1))).length=(cu (l.take k)).length+l[k]!.length:=by
 rw[WQ hk,X0]
def Zjx{l:List Str}(k:Nat):(cu (l.take k)).length<=(cu l).length:=by
 conv=>rhs;rw[<-Za k l,Zjy,X0]
 omega
@[go_sem]theorem wkr_byR{l:List Str}:eB (l.map jy)=l.map jy:=by
 induction l with
 | nil=>rfl
 | cons x l ih =>
  rw[X8]
  show dZ (jy x)::eB (l.map jy)=_
  rw[ih];have:dZ (jy x)=jy x:=by simp[jy,dZ,go_sem]
  rw[this]
@[go_sem]theorem all_byR{l:List Str}:(∀r∈l.map jy,r.length=1)=True:=by
 apply eq_true
 intro r hr
 obtain⟨x,_,rfl⟩:=Yr.1 hr
 rfl
def ZeA{d:dn}{c:dH}(h1:d.safe.length<=1000000)(h2:d.pend.length<=200)(h:ji (gF d.safe) d.pend=some c):fJ d=some ⟨eH d.safe,(eH d.safe).length+(cu d.pend).length,gF d.safe,c⟩:=by
 unfold fJ
 rw[XV (by omega),h]
def Sb{d:dn}(h:ji (gF d.safe) d.pend=none):fJ d=none:=by
 unfold fJ
 split
 . rfl
 rw[h]
def ZeB{d:dn}(h:1000000<d.safe.length\/200<d.pend.length):fJ d=none:=by
 unfold fJ
 rw[X3 h]
structure mU(d:dn):Prop where
 pend : ∀p∈d.pend,p.length<=1000000
 safe:d.safe.length<=1000000000
 many:d.pend.length<=1000000
theorem mU.at{d:dn}(h:mU d){k:Nat}(hk:k<d.pend.length):d.pend[k]!.length<=1000000:=by
 rw[getElem!_pos d.pend k hk]
 exact h.pend _ (YH hk)
theorem N7{d:dn}(h:mU d)(k:Nat)(h2:d.pend.length<=200):(cu (d.pend.take k)).length<=200000000:=by
 have key : ∀l:List Str,(∀p∈l,p.length<=1000000)->(cu l).length<=l.length*1000000:=by
  intro l
  induction l with
  | nil=>intro _;simp[cu]
  | cons p l ih =>
   intro hp;have h1:=hp p (by simp)
   have h2:=ih λq hq=>hp q (by simp[hq])
   rw[N8,X0,YS];omega
 have:=key (d.pend.take k) λp hp=>h.pend p (List.mem_of_mem_take hp)
 rw[YR]at this
 omega
def Zgt{d:aG}(h:fO d=false):rM d d=(qL,1):=by unfold rM;rw[X3 (.inl h)]
def Zgs{d:aG}(h:fO d=true):rM d d=(qL,23):=by
 have hd:=yx.1 h
 have hne:d.too≠d.frm:=Oj hd.bef hd.too
 unfold rM
 rw[XV o3j,X3 (.inl hne)]
def M0{l:List Str}{n:Nat}(h:n<l.length):(l.map jy).getD n []=[.list false (l[n]!.map bD)]:=by
 simp[List.getD,h,jy,getElem!_pos]
end Go.Jn
