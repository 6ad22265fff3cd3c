/-
  MANY TEXTS OF MINE IN ONE (a claim has a limit of files): DW, DSimp, Types, DWalk, DRange, Str, Rec, Cmp, Rec2, Rec3, Rec4, Rec5, Sym, Rec6, Zon, Zon2, Zon3, Zdl, Zdm, Zdn, Zdo, Zdp, Zla, Zlb, Zlc, Zld, Lk, Zdq, Lv, Zdr, Zds, Jn, Ls, Ld. Conditions: none.
-/
import Derived.Deep.LoopGhost
import Derived.RangeFuncRecord
import Derived.Test.YtjhhnhgflmkenaaGreatDoorProg
import Derived.KernelRfl
import Derived.Lib.Bytealg
import Derived.Shelf.Small.Strs
import Derived.Test.YtjhhnhgflmkenaaGreatDoorMST1
set_option linter.unusedVariables false
set_option linter.unusedSimpArgs false
set_option linter.unusedSectionVars false
set_option linter.defProp false
set_option linter.unnecessarySimpa false
namespace Go.DL
open Go.RowKit
theorem _root_.o3y{p:Prop}(h:p:=by rw[e];omega):p:=h
theorem _root_.o3r{p:Prop}(h:p:=by rw[J];exact hok):p:=h
theorem _root_.o2B{p:Prop}(h:p:=by rw[h];exact Bool.noConfusion):p:=h
theorem _root_.o1M{p:Prop}(h:p:=by unfold ak at hz;simp only[XU]at hz;exact hz.1.1.1.1.1):p:=h
variable{C:aO}{L:List Oper}{P:Program}{Q:Exit->S->Prop}{b nx:Nat}{fn:Func}{h:H}{ops:Array Oper}{ro:Option Nat}{s:S}{w:World}
variable[Glob P]
variable [Dr]
def S.clear(s:S):S:={ s with ok:=True }
def St.clear{B:dn}{g:Mem}{a:Act}(h:St P B s g a w):St P B s.clear g a w:=⟨h.sz,h.tm,h.mem,h.df,h.en,h.bd⟩
def DW(P:Program)[Glob P](ro:Option Nat)(c:Code)(Q:Exit->S->Prop)(s:S):Prop :=
 ∀(B:dn)(g:Mem)(a:Act)(w:World),St P B s g a w->(∀r,g.U r->r<s.nx) ->
  c.wpIn (Fw ro) 0 P (λe t T=>∃f L,Q e f/\St P B f L t T/\gL s.e.x g L w T/\(∀r,L.U r->r<f.nx)/\f.e.x=s.e.x) a w
theorem wpIn_loop_ghost{F:Fence}{n:Nat}{Q:Exit->Act->World->Prop}{a:Act}{c:Code}(I:Nat->Act->World->Prop)(g:Nat)(h0:I g a w)(round : ∀k a w,I k a w->c.wpIn F n P (Exit.then (λt T=>∃k',k'<k/\I k' t T) Q) a w):(Code.loop c).wpIn F n P Q a w:=by
 refine wpIn_loop (λa w=>∃k,I k a w) (λa w=>leastOf λk=>I k a w) ⟨g,h0⟩ λa w h=>?_;let⟨J,Y⟩:=leastOf_spec h;refine wpIn_mono (round _ a w J) λe t T j=>?_;cases e with
 | normal =>
  let⟨k',K,f⟩:=j;exact⟨⟨k',f⟩,Nat.lt_of_le_of_lt ((leastOf_spec ⟨k',f⟩).2 k' f) K⟩
 | _=>exact j
section
variable {ro : Option Nat} {Q : Exit -> S -> Prop} {s : S}
def DW.mono{c:Code}{f:Exit->S->Prop}(h:DW P ro c Q s)(hq : ∀e s,Q e s->f e s):DW P ro c f s :=
 λB g a w N Z=>wpIn_mono (h B g a w N Z) λ_ _ _⟨j,L,q,r⟩=>⟨j,L,hq _ _ q,r⟩
def bM(h:Q .normal s):DW P ro .skip Q s:=λ_ g _ _ N Z=>wpIn_skip ⟨s,g,h,N,gL.refl _ _ _,Z,rfl⟩
def aB{id:Nat}(h:Q (.exit id) s):DW P ro (.exit id) Q s:=λ_ g _ _ N Z=>wpIn_exit ⟨s,g,h,N,gL.refl _ _ _,Z,rfl⟩
theorem jb(h:Q .ret s):DW P ro .ret Q s:=λ_ g _ _ N Z=>wpIn_ret ⟨s,g,h,N,gL.refl _ _ _,Z,rfl⟩
def thenS(next:S->Prop)(Q:Exit->S->Prop):Exit->S->Prop
 | .normal,s=>next s
 | e,s=>Q e s
theorem aj{x y:Code}(h:DW P ro x (thenS (DW P ro y Q) Q) s):DW P ro (.seq x y) Q s:=by
 intro B g a w N Z;refine wpIn_seq (wpIn_mono (h B g a w N Z) ?_);rintro e t T ⟨o,L,K,c,k,n,E⟩;cases e with
 | normal=>exact wpIn_mono (K B L t T c n) λe p z⟨f,j,q,r,m,u,v⟩=>⟨f,j,q,r,k.trans (E▸m),u,v.trans E⟩
 | _=>exact⟨o,L,K,c,k,n,E⟩
def Zm0{x y:Code}(M:S->Prop)(h:DW P ro x (thenS M Q) s)(k : ∀w,M w->DW P ro y Q w):DW P ro (.seq x y) Q s :=
 aj (h.mono λe w K=>by cases e<;>first|exact k w K|exact K)
def Mm{c:Operand}{x y:Code}{t:Bool}(j:s.ev c = .v (.bool t))(ht:t=true->DW P ro x Q s)(f:t=false->DW P ro y Q s):DW P ro (.cond c x y) Q s:=by intro B g a w N Z;have h:=bT N c;rw[j]at h;exact wpIn_cond_split h.v_inv (λe=>ht e B g a w N Z) (λe=>f e B g a w N Z)
def Gf(id:Nat)(Q:Exit->S->Prop):Exit->S->Prop
 | .exit a,s=>if a=id then Q .normal s else Q (.exit a) s
 | e,s=>Q e s
theorem dK{id:Nat}{c:Code}(h:DW P ro c (Gf id Q) s):DW P ro (.block id c) Q s:=by
 intro B g a w N Z;refine wpIn_block (wpIn_mono (h B g a w N Z) ?_);rintro e t T ⟨f,L,K,r⟩;cases e with
 | exit j =>
  simp only[Exit.inBlock,Gf]at K ⊢;split
  . rename_i e;rw[X0 e]at K;exact⟨f,L,K,r⟩
  rename_i e;rw[XV e]at K;exact⟨f,L,K,r⟩
 | _=>exact⟨f,L,K,r⟩
def qX(L:List Oper):Bool:=(List.range L.length).all λi=>(L.getD i default).after.toList.all λe=>!Region.binds .any e||decide (e.on<i)
theorem ZaL{W:cu}{a:Option Nat}:∀(l:List Nat)(u:S),(l.foldl (stepG P W C L b a) u).nx=u.nx/\(l.foldl (stepG P W C L b a) u).e=u.e:=by
 intro l;induction l with
 | nil=>intro u;exact⟨rfl,rfl⟩
 | cons k l c =>
  intro u;simp only[YM];rw[(c _).1,(c _).2];unfold stepG;cases L[k]? <;> exact⟨rfl,rfl⟩
def Zm1{fin:S}{id:Nat}(y:Option Nat)(ps:List Pr)(m:P.follows .mixedOrders=true/\xW C ops.toList y ps=true/\qX ops.toList=true)(X:(List.range' 0 ops.toList.length).foldl (stepG P (words P) C ops.toList s.nx y) (s.begin ops.toList.length)=fin)(z : ∀p∈ps,∀r∈kW ops.toList s.nx p.j fin,r ∉ kW ops.toList s.nx p.i fin)(hok:fin.ok)(hq:Q .normal fin.clear):DW P ro (.region id ops true) Q s:=by
 intro B g a w N Z;have j:St P B (s.begin ops.toList.length) g a w:=⟨N.sz,N.tm,N.mem,N.df,N.en,N.bd⟩;have E:fin.nx=s.nx+ops.size:=by rw[<-X,(ZaL _ _).1];simp[S.begin]
 have n:fin.clear.e.x=s.e.x:=by show fin.e.x=s.e.x;rw[<-X,(ZaL _ _).2];rfl
 let⟨J,Y,A⟩:=m;refine wpIn_region_any J ?_;let⟨F,u⟩:=Mq j;have f : ∀i,(Array.replicate ops.size false).getD i false=false:=by intro i;by_cases h:i<ops.size<;>simp[Array.getD,h]
 have c:todo ops.size (Array.replicate ops.size false)=List.range' 0 ops.toList.length:=by unfold todo;rw[Y1.2 (λi _=>by rw[f];rfl),Zg];simp
 refine Znk (C:=C) (B:=B) (b:=s.nx) (fin:=fin) Y z ops.size _ (s.begin ops.toList.length) g a _ (by simp) (by rw[c];simp) (λi o _ hi=>by rw[f]at hi;cases hi) (λi o t e G I=>?_) F u (λr O=>.inl (Z r O)) (by rw[c,X]) hok
  (λL M T K W k=>⟨_,L,hq,K.clear,W.toX,λr O=>by show r<fin.nx;rw[E];exact k r O,n⟩)
 unfold qX at A;simp only[YA,Zk,Yc,Ya,XY]at A;have v:i<ops.toList.length:=(X8.1 t).1;have x:ops.toList.getD i default=o:=by simp only[List.getD,t,YV]
 have:=A i v e (by rw[x];exact G);rcases this with h|h
 . rw[I]at h;cases h
 exact h
theorem ZaK [Glob P]{W:cu}{L:List Oper}{b:Nat}{a:Option Nat}:∀(l:List Nat)(u:S),(∀k∈l,a≠some k)->l.foldl (stepG P W C L b a) u=l.foldl (bF P W C L b) u
 | [],u,_=>rfl
 | k::l,u,h=>by simp only[YM];rw[zA (h k (by simp)),ZaK l _ λm v=>h m (by simp[v])]
def QI{fin:S}{id:Nat}(ps:List Pr)(m:P.follows .mixedOrders=true/\xW C ops.toList none ps=true/\qX ops.toList=true)(J:exec P (words P) C ops.toList s=fin)(a : ∀p∈ps,∀r∈kW ops.toList s.nx p.j fin,r ∉ kW ops.toList s.nx p.i fin)(hok:fin.ok)(hq:Q .normal fin.clear):DW P ro (.region id ops true) Q s:=by refine Zm1 none ps m ?_ a hok hq;rw[ZaK _ _ (λ_ _ h=>by cases h),<-J];have:=ZaT (P:=P) (W:=words P) (C:=C) (L:=ops.toList) (b:=s.nx) ops.toList.length 0 (s.begin ops.toList.length) om;rw[X4]at this;exact this.symm
def ZoX(o:Oper):y8 C o=true:=by unfold y8;split<;>rfl
def Zoy(h:EA C L=true):xW C L none []=true:=by unfold EA at h;unfold xW;simp only[XU,YA,Zk,Yc]at h ⊢;exact⟨⟨⟨λx _=>ZoX x,λp F=>by cases F⟩,rfl⟩,λi hi j A=>(h i hi j A).elim (λq=>.inl (.inl q)) λq=>.inr ⟨⟨rfl,rfl⟩,q⟩⟩
theorem Zm2{id:Nat}{draw:Bool}(m:draw=true->P.follows .mixedOrders=true/\EA C ops.toList=true/\qX ops.toList=true)(hok:(exec P (words P) C ops.toList s).ok)(hq:Q .normal (exec P (words P) C ops.toList s).clear):DW P ro (.region id ops draw) Q s:=by
 intro B g a w N Z;have j:St P B (s.begin ops.toList.length) g a w:=⟨N.sz,N.tm,N.mem,N.df,N.en,N.bd⟩;have o : ∀(l:List Nat)(u:S),(l.foldl (bF P (words P) C ops.toList s.nx) u).nx=u.nx:=by
  intro l;induction l with
  | nil=>intro u;rfl
  | cons i l k =>
   intro u;simp only[YM];rw[k];unfold bF;split
   . exact Et.2
   rfl
 have y:=ZaT (P:=P) (W:=words P) (C:=C) (L:=ops.toList) (b:=s.nx) ops.toList.length 0 (s.begin ops.toList.length) (by omega);simp only[X4]at y;have X:exec P (words P) C ops.toList s=(List.range' 0 ops.toList.length).foldl (bF P (words P) C ops.toList s.nx) (s.begin ops.toList.length):=y;have z:(exec P (words P) C ops.toList s).nx=s.nx+ops.size:=by rw[X,o];simp[S.begin]
 have v : ∀(l:List Nat)(u:S),(l.foldl (bF P (words P) C ops.toList s.nx) u).e=u.e:=by
  intro l;induction l with
  | nil=>intro u;rfl
  | cons i l k =>
   intro u;simp only[YM];rw[k];unfold bF;split
   . unfold dM;split<;>rfl
   rfl
 have x:(exec P (words P) C ops.toList s).clear.e.x=s.e.x:=by show(exec P (words P) C ops.toList s).e.x=s.e.x;rw[X,v];rfl
 have fin : ∀c t T,St P B (exec P (words P) C ops.toList s) c t T->ay g c w T->(∀r,c.U r->r<s.nx+ops.size) -> ∃f h,Q .normal f/\St P B f h t T/\gL s.e.x g h w T/\(∀r,h.U r->r<f.nx)/\f.e.x=s.e.x :=
  λc t T J Y A=>⟨_,c,hq,J.clear,Y.toX,λr O=>by show r<(exec P (words P) C ops.toList s).nx;rw[z];exact A r O,x⟩
 cases draw with
 | false =>
  refine wpIn_region ?_;have:=ZmO (P:=P) (C:=C) (B:=B) (ops:=ops) (b:=s.nx) (ro:=ro) (n:=0) (Q:=λe t T=>∃f c,Q e f/\St P B f c t T/\gL s.e.x g c w T/\(∀r,c.U r->r<f.nx)/\f.e.x=s.e.x) ops.size 0 (s.begin ops.toList.length) g a w j (ay.refl _ _) (λr O=>by have:=Z r O;omega) om
   (by simp only[X4];exact hok) (by simp only[X4];exact fin)
  rw[Zg];exact this
 | true =>
  let⟨J,Y,A⟩:=m rfl;exact QI [] ⟨J,Zoy Y,A⟩ rfl (λp F=>by cases F) hok hq B g a w N Z
end
def S.init(n:Nat)(args:List D):S:={ n,t:=λi=>args.getD i .junk,h:=λ_=>none,nx:=0 }
def GV [Glob P](s:S):ResultVar->D
 | .tmp t=>s.t t
 | .cell a t=>(nU P t (s.t a) s.h).1
def UN [Glob P](s:S):ResultVar->Prop
 | .tmp _=>True
 | .cell a t=>(nU P t (s.t a) s.h).2
def tK(P:Program)[Glob P](z:List ResultVar)(s:S):D:=match z.map (GV (P:=P) s)with
 | [d]=>d
 | ds=>.tuple ds
def rP(P:Program)[Glob P](s:S):List ResultVar->Prop
 | []=>True
 | r::z=>UN (P:=P) s r/\rP P s z
def Kq(tmps:Array Value)(r:ResultVar):Sem Value:=match r with
 | .tmp t=>pure (tmps.getD t undef)
 | .cell a t=>do loadVar t (<-asAddr (tmps.getD a undef))
theorem UM [Glob P]{B:dn}{s:S}{g:Mem}{a:Act}{w:World}(hs:St P B { s with e:=Env.tt } g a w):∀z:List ResultVar,rP P s z -> ∃j:List Value,(z.mapM (Kq a.tmps)).run P w = .ok j w/\aF w g (z.map (GV (P:=P) s)) j
 | [],_=>⟨[],by simp,.nil⟩
 | r::z,h=>by
  let⟨j,J,Y⟩:=UM hs z h.2;cases r with
  | tmp t=>exact⟨a.tmps.getD t undef::j,by simp only[List.mapM_cons,Sem.run_bind,Kq,Sem.run_pure,Result.andThen_ok,J],.cons (hs.tm t) Y⟩
  | cell c t =>
   let⟨f,W,k⟩:=h.1;let⟨p,F,m⟩:=Vo hs.mem (hs.tm c) (by intro e;rw[e]at f;simp at f;omega);let⟨v,n,U⟩:=UC m f W k;refine⟨v::j,?_,.cons U Y⟩;simp only[List.mapM_cons,Sem.run_bind,Kq,F,asAddr,Sem.run_pure,Result.andThen_ok,n,J]
theorem Fg{B:dn}{g:Mem}{a:Act}(hs:St P B { s with e:=Env.tt } g a w)(hok:rP P s fn.results.toList):∃v,(results fn a.tmps).run P w = .ok v w/\ae w g (tK P fn.results.toList s) v:=by
 let⟨j,J,Y⟩:=UM hs _ hok;have U:(results fn a.tmps).run P w = .ok (if h:j.toArray.size=1 then j.toArray[0]else .tuple j.toArray) w:=by have e:results fn a.tmps=(do let j <-fn.results.mapM (Kq a.tmps);pure (if h:j.size=1 then j[0]else .tuple j):Sem Value):=rfl;rw[e,Array.mapM_eq_mapM_toList];simp[J]
 refine⟨_,U,?_⟩;unfold tK;split
 . rename_i d m;rw[m]at Y;obtain⟨v,l,rfl,A,c⟩:=Y.of_cons;rw[c.of_nil];simpa using A
 rename_i N;rw[dif_neg (λh=>?_)]
 . exact .mk_tuple (by simpa using Y)
 have f:(fn.results.toList.map (GV (P:=P) s)).length=1:=by rw[Y.1];simpa using h
 match hq:fn.results.toList.map (GV (P:=P) s),f with
 | [d],_=>exact N d hq
def Jt:Obj->Prop
 | .cells .. | .map .. => True
 | _=>False
theorem K6{tmps:Array Value}{R:Ending->World->Prop}{n B:Nat}{g:Mem}:∀(ds:List Deferred)(w:World),Marks B g ds w ->
  (∀w',w'.drawn=w.drawn->w'.os=w.os->w'.tape=w.tape->w'.output=w.output->w'.heap.size=w.heap.size->(∀k:Nat,k<B->w'.heap[k]? = w.heap[k]?)->(∀k:Nat,g.I k->w'.heap[k]? = w.heap[k]?)->(∀(k:Nat)o,w.heap[k]? = some o->Jt o->w'.heap[k]? = w.heap[k]?) -> ∃v,(results fn tmps).run P w' = .ok v w'/\R (.returned v) w') ->
  LeavesInM Fence.wide n P fn tmps R ds .returning w:=by
 intro ds;induction ds with
 | nil =>
  intro w _ h;exact h w rfl rfl rfl rfl rfl (λ_ _=>rfl) (λ_ _=>rfl) (λ_ _ _ _=>rfl)
 | cons d ds z =>
  rintro w ⟨⟨D,J,Y,A,h4,U⟩,W⟩ h;refine⟨by simp,.inl ⟨D,w.putObj D (.deferred none),J,run_takeDeferred Y,?_⟩⟩;have N : ∀k,k≠D->(w.putObj D (.deferred none)).heap[k]? = w.heap[k]? := λk X=>World.putObj_heap_other X;have j : ∀ds:List Deferred,(∀u∈ds,u.target ≠ .collected D)->Marks B g ds w->Marks B g ds (w.putObj D (.deferred none)):=by
   intro ds;induction ds with
   | nil=>intro _ _;trivial
   | cons e ds m =>
    rintro a ⟨⟨x,G,c,E,F,I⟩,K⟩;refine⟨⟨x,G,?_,E,F,I⟩,m (λu p=>a u (by simp[p])) K⟩;rw[N x (λr=>by subst r;exact a e (by simp) G)];exact c
  refine z _ (j ds A W) λw' f y O L M T V Z=>?_;refine h w' (by rw[f];rfl) (by rw[y];rfl) (by rw[O];rfl) (by rw[L];rfl) (by rw[M];simp) (λk X=>?_) (λk X=>?_) (λk o X t=>?_)
  . rw[T k X,N k (by omega)]
  . rw[V k X,N k (λe=>by subst e;exact U X)]
  have:k≠D:=λr=>by subst r;rw[Y]at X;cases X;exact t
  rw[Z k o (by rw[N k this];exact X) t,N k this]
def HM.marks{g:Mem}{w':World}(v:HM P h g w)(f:w'.heap.size=w.heap.size)(a : ∀k:Nat,g.I k->w'.heap[k]? = w.heap[k]?)(n : ∀(k:Nat)o,w.heap[k]? = some o->Jt o->w'.heap[k]? = w.heap[k]?):HM P h g w':=by
 refine⟨v.dead,λr R O=>?_,v.inj,v.used,λb p=>by rw[f];exact v.imm b p,v.gr.later λb p=>⟨p,a b p⟩⟩;let⟨G,c,J,Y,A,t,U⟩:=v.blk r R O;refine⟨G,c,J,Y,A,t,?_⟩;rcases U with U|⟨b,L,rfl,W,y,T,V⟩
 . exact .inl U
 have B:w'.heap[b]? = w.heap[b]? := by
  let⟨x,E,z⟩:=W.some;exact n b x E (by rcases z with⟨_,_,_,rfl⟩|⟨_,_,rfl⟩<;>trivial)
 exact .inr ⟨b,L,rfl,by rw[B];exact W,y,T,λi row hi=>⟨(V i row hi).1,λj d m=>by let⟨u,F,I,K⟩:=(V i row hi).2 j d m;exact⟨u,F,I,K.mono (λb p=>⟨p,a b p⟩) (λ_ h=>h) (λ_ _=>.inl rfl)⟩⟩⟩
def St.marks{B:dn}{g:Mem}{a:Act}{w':World}(hs:St P B s g a w)(c:w'.heap.size=w.heap.size)(f : ∀k:Nat,g.I k->w'.heap[k]? = w.heap[k]?)(j : ∀(k:Nat)o,w.heap[k]? = some o->Jt o->w'.heap[k]? = w.heap[k]?) :
  St P (dn.of B.n) { s with e:=Env.tt } g { a with defers:=[] } w' :=
 ⟨hs.sz,λi=>(hs.tm i).mono (λb p=>⟨p,f b p⟩) (λ_ h=>h) (λ_ _=>.inl rfl),hs.mem.marks c f j,kJ.start,trivial,by rw[c];exact hs.bd⟩
def BK{n:Nat}{args:List D}{vs:List Value}{g:Mem}(hr:aF w g args vs)(hn:args.length<=n)(v:HM P h g w) :
  St P (dn.of w.heap.size) { S.init n args with h:=h,nx:=nx } g { tmps:=vs.toArray++Array.replicate (n-vs.toArray.size) undef,defers:=[] } w:=by
 have c:vs.length=args.length:=hr.1.symm;refine⟨by simp[S.init];omega,λi=>?_,v,kJ.start,trivial,XW _⟩;simp only[S.init];by_cases hi:i<args.length
 .
  have y:args.getD i .junk=args[i]:=by simp[List.getD,Yi hi]
  have a:i<vs.length:=by omega
  have O:(vs.toArray++Array.replicate (n-vs.toArray.size) undef).getD i undef=vs[i]:=by simp[Array.getElem?_append,a]
  rw[y,O];exact hr.2 i _ _ (by simp) (by simp)
 have y:args.getD i .junk = .junk:=by simp[List.getD,ZZ (Nat.le_of_not_lt hi)]
 rw[y];exact .junk _
def Zie{f:FuncId}{c:Code}{args:List D}{res:D}(a:P.funcs[f]? = some fn)(p:fn.body=some c)(z:fE P f=true)(A:args.all D.nr=true)(hn:args.length<=fn.ntmps)(h:DW P none c (λe s=>(e = .normal\/e = .ret)/\rP P s fn.results.toList /\ ∃k,dU s.h k (tK P fn.results.toList s)/\wk (snap s.h k (tK P fn.results.toList s))=res) (S.init fn.ntmps args)):PureCt P f args res:=by
 refine⟨z,A,λw I j M E O=>?_⟩;have U:HM P (λ_=>none) (jF I) w:=by
  refine⟨λ_ _=>rfl,?_,?_,?_,M,E⟩
  . intro r R h;cases h
  . intro r V b c Z s G h;cases h
  intro r h;exact absurd rfl h
 have N:St P (dn.of w.heap.size) (S.init fn.ntmps args) (jF I) { tmps:=j.toArray++Array.replicate (fn.ntmps-j.toArray.size) undef,defers:=[] } w:=BK O hn U;refine callsIn_of_wp_marks (n:=0) a p trivial (wpIn_mono (F:=Fence.wide) (h (dn.of w.heap.size) (jF I) _ w N (λr h=>False.elim h)) ?_);rintro e t T ⟨G,L,⟨J,ho,k,X,o⟩,u,x,_⟩;have x:=x.out;have m:LeavesInM Fence.wide 0 P fn t.tmps (λe T=>∃v,e = .returned v/\EI w T/\ae T (jF λb=>I b\/(w.heap.size<=b/\b<T.heap.size)) res v) t.defers .returning T:=by
  refine K6 (P:=P) t.defers T u.df.marks λw2 e0 y e2 e3 K e5 e6 e7=>?_;have g:=u.marks K e6 e7;let⟨v,h1,Y⟩:=Fg (fn:=fn) g ho;refine⟨v,h1,v,rfl,⟨by rw[y,x.os],by rw[e2,x.tape],by rw[e3,x.output],by rw[K];exact x.size,by rw[e0];exact x.drawn,λb p=>?_⟩,?_⟩
  . rw[e5 b p,x.same b p (λr c s h=>by cases h)]
  let⟨B,W⟩:=J3 g.mem k _ v (xw Y) X;have B:=B.wk;have W:=JC _ W;rw[o]at B W;refine B.clean W λb p=>?_;rcases p with p|⟨r,c,s,p⟩
  .
   rcases x.inew b p with h|h|⟨r,c,s,h⟩
   . exact .inl h
   . exact .inr ⟨h,g.mem.imm b p⟩
   cases h
  rcases x.new r b c s p with⟨V,Z,G,h⟩|h
  . cases h
  exact .inr ⟨h,(pY g.mem p).1⟩
 rcases J with rfl|rfl<;>exact m
variable{W:cu}{a cs xs:List D}{args:Array Operand}{c i len off r:Nat}{d:D}{dst:Option Tmp}{e:Env}{f g want:Bool}{k k':IntKind}{n:Int}{ok:Prop}{op:BinOp}{p:Option Addr}{pos:String}{ps:Array (Nat×Operand)}{rows:List (List D)}{t ty u:TypeId}{x y:Operand}{α:Type}
attribute [go_sem_proc] Nat.reduceEqDiff Nat.reduceAdd Nat.reduceLeDiff Nat.reduceBEq Nat.reduceSub Nat.reduceMul Int.reduceLT Int.reduceLE Int.reduceEq Int.reduceNeg Int.reduceToNat reduceIte Nat.reduceLT reduceCtorEq
attribute [go_sem] decide_true decide_false Bool.not_true Bool.not_false Int.toNat_natCast
def S.out(s:S)(dst:Option Tmp)(r:D×H×Prop):S:={ n:=s.n,t:=s.put dst r.1,h:=r.2.1,nx:=s.nx,ok:=s.ok/\dN s.n dst=true/\r.2.2,e:=s.e }
def S.outG(s:S)(dst:Option Tmp)(op:Op)(C:aO)(a:D)(want:Bool)(r:D×H×Prop):S :=
 { n:=s.n,t:=s.put dst (.cond (l5 a want) r.1),h:=s.h,nx:=s.nx,ok:=s.ok/\dN s.n dst=true/\vW a=true/\bW C op ≠ .writes/\(l5 a want=true->r.2.2),e:=s.e }
def exec_eq:exec P W C L s=bu P W C L s.nx 0 L { n:=s.n,t:=s.t,h:=s.h,nx:=s.nx+L.length,ok:=s.ok,e:=s.e }:=rfl
def Zro:bu P W C L b i [] s=s:=rfl
def Zrp{o:Oper}{a:List Oper}:bu P W C L b i (o::a) s=bu P W C L b (i+1) a (dM P W C L b i o s):=rfl
attribute[go_sem]exec_eq Zro Zrp
@[go_sem]theorem Zrq{op:Op}{a:Array Edge} :
  dM P W C L b i { dst:=dst,op:=op,type:=ty,pos:=pos,after:=a,guard:=none } s=s.out dst (aW P W C true op ((aU op).map s.ev) s.h (b+i)):=rfl
def FU(L:List Oper)(j:Nat)(t:Nat->D):D:=((L[j]?).bind (·.dst)).elim .junk t
@[go_sem]theorem Zrr{j:Nat}{op:Op}{a:Array Edge} :
  dM P W C L b i { dst:=dst,op:=op,type:=ty,pos:=pos,after:=a,guard:=some (j,want) } s =
   s.outG dst op C (FU L j s.t) want (aW P W C (l5 (FU L j s.t) want) op ((aU op).map s.ev) s.h (b+i)):=rfl
@[go_sem]theorem Zrm{op:Op}{a:Array Edge}{c:Option (Nat×Bool)}{t:Nat->D} :
  FU ({ dst:=dst,op:=op,type:=ty,pos:=pos,after:=a,guard:=c }::L) 0 t=dst.elim .junk t:=rfl
@[go_sem]theorem Zrn{o:Oper}{j:Nat}{t:Nat->D}:FU (o::L) (j+1) t=FU L j t:=by simp[FU]
@[go_sem]theorem out_some{n:Nat}{t:Nat->D}{d:Tmp}{x:D}{h':H}{p:Prop}:S.out { n,t,h,nx,ok,e } (some d) (x,h',p)={ n,t:=upd t d x,h:=h',nx,ok:=ok/\decide (d<n)=true/\p,e }:=rfl
@[go_sem]theorem ZqF{n:Nat}{t:Nat->D}{x:D}{h':H}{p:Prop}:S.out { n,t,h,nx,ok,e } none (x,h',p)={ n,t,h:=h',nx,ok:=ok/\p,e }:=by simp[S.out,S.put,dN]
@[go_sem]theorem ZqG{n:Nat}{t:Nat->D}{d:Tmp}{op:Op}{a:D}{x:D}{h':H}{p:Prop} :
  S.outG { n,t,h,nx,ok,e } (some d) op C a want (x,h',p)={ n,t:=upd t d (.cond (l5 a want) x),h,nx,ok:=ok/\decide (d<n)=true/\vW a=true/\bW C op ≠ .writes/\(l5 a want=true->p),e }:=rfl
theorem aH{n:Nat}{t:Nat->D}:S.clear { n,t,h,nx,ok,e }={ n,t,h,nx,ok:=True,e }:=rfl
def init_eq{n:Nat}{args:List D}:S.init n args={ n,t:=λi=>args.getD i .junk,h:=λ_=>none,nx:=0,ok:=True,e:=Env.tt }:=rfl
def ev_tmp{i:Tmp}:s.ev (.tmp i)=s.t i:=rfl
def ev_const{x:Value}:s.ev (.const x)=qm x:=rfl
def Zrs{g:Nat}:s.ev (.global g) = .v (.pointer (some ⟨g,0,none⟩)):=rfl
def ev_func{f:FuncId}:s.ev (.func f) = .fn (.func f) [] []:=rfl
def ofV_int:qm (.int k n) = .v (.int k n):=rfl
def ofV_bool{b:Bool}:qm (.bool b) = .v (.bool b):=rfl
def ZqK{s:ByteArray}:qm (.string s) = .v (.string s):=rfl
def ofV_nil:qm (.slice none 0 0) = .list true []:=rfl
def ZqM:qm .nilFunc = .v .nilFunc:=rfl
def ZqL:qm .nilIface = .v .nilIface:=rfl
def ofV_ptr:qm (.pointer p) = .v (.pointer p):=rfl
attribute[go_sem]aH init_eq ev_tmp ev_const Zrs ev_func ofV_int ofV_bool ZqK ofV_nil ZqM ZqL ofV_ptr
@[go_sem]theorem upd_hit{f:Nat->α}{x:α}:upd f i x i=x:=by simp[upd]
@[go_sem]theorem upd_miss{f:Nat->α}{j:Nat}{x:α}(h:(j=i)=False):upd f i x j=f j:=by simp only[upd];rw[XV (by rw[h];exact id)]
attribute [go_sem] List.take_succ_cons List.take_zero List.take_nil List.drop_zero List.drop_succ_cons List.drop_nil List.set_cons_zero List.set_cons_succ List.cons_append List.nil_append List.append_nil Bool.false_eq_true Nat.zero_add Nat.add_zero Nat.add_assoc List.length_map List.headD_cons
attribute [go_sem] ne_eq imp_self Bool.not_eq_true' Bool.not_eq_false' Bool.and_self and_self
attribute [go_sem] eq_self not_false_eq_true and_true true_and List.length_cons List.length_nil List.getD_cons_zero List.getD_cons_succ List.getD_nil implies_true true_implies
@[go_sem]theorem size_lit{l:List α}:l.toArray.size=l.length:=rfl
attribute [go_sem] aU List.map_cons List.map_nil
def sd_v{x:Value}:sd (.v x) = .v x:=rfl
def sd_agg{x:List D}:sd (.agg x) = .agg x:=rfl
def sd_list{x:List (List D)}:sd (.list f x) = .list f x:=rfl
def sd_eptr{x:List D}:sd (.eptr x) = .eptr x:=rfl
def sd_mrow{a:Nat}:sd (.mrow a b c) = .mrow a b c:=rfl
def sd_mptr{a:Nat}:sd (.mptr a b c) = .mptr a b c:=rfl
def sd_fn{f:Fn}{b:List D}:sd (.fn f a b) = .fn f a b:=rfl
def sd_tuple:sd (.tuple a) = .tuple a:=rfl
def sd_cond:sd (.cond g d)=d:=rfl
def sd_mp:sd (.mp r) = .mp r:=rfl
def sd_fmap:sd (.fmap a) = .fmap a:=rfl
def sg_mp:sg (.mp r)=true:=rfl
def sg_fmap:sg (.fmap a)=true:=rfl
def sg_v{x:Value}:sg (.v x)=true:=rfl
def sg_agg{x:List D}:sg (.agg x)=true:=rfl
def sg_list{x:List (List D)}:sg (.list f x)=true:=rfl
def sg_eptr{x:List D}:sg (.eptr x)=true:=rfl
def sg_mrow{a:Nat}:sg (.mrow a b c)=true:=rfl
def sg_mptr{a:Nat}:sg (.mptr a b c)=true:=rfl
def sg_fn{f:Fn}{b:List D}:sg (.fn f a b)=true:=rfl
def sg_tuple:sg (.tuple a)=true:=rfl
def sg_cond:sg (.cond g d)=g:=rfl
attribute[go_sem]sd_v sd_agg sd_list sd_eptr sd_mrow sd_mptr sd_fn sd_tuple sd_cond sd_mp sd_fmap sg_mp sg_fmap sg_v sg_agg sg_list sg_eptr sg_mrow sg_mptr sg_fn sg_tuple sg_cond
attribute [go_sem] List.all_cons List.all_nil Bool.and_true Bool.true_and
def gval_v{b:Bool}:l5 (.v (.bool b)) want=(b==want):=rfl
def gval_c{b:Bool}:l5 (.cond g (.v (.bool b))) want=(g&&(b==want)):=rfl
def gok_v{b:Bool}:vW (.v (.bool b))=true:=rfl
def gok_c{b:Bool}:vW (.cond g (.v (.bool b)))=true:=rfl
attribute[go_sem]gval_v gval_c gok_v gok_c
attribute [go_sem] Option.elim beq_true beq_false
@[go_sem]theorem e_move:aW P W C g (.move x) [d] h b=(sd d,h,(g=true->sg d=true)/\True):=by simp[aW,fC,bz]
@[go_sem]theorem e_assign:aW P W C g (.assign x) [d] h b=(sd d,h,(g=true->sg d=true)/\True):=by simp[aW,fC,bz]
@[go_sem]theorem e_alloc{e:TypeId}:aW P W C g (.alloc e) [] h b=(.mptr b 0 0,upd h b (some ⟨e,[zeroCells P e]⟩),(zeroCells P e).length=P.cellsOf e/\(zeroCells P e).all D.one=true/\0<P.cellsOf e):=by simp[aW,fC,bz]
@[go_sem]theorem e_box{e:TypeId}:aW P W C g (.box e x) [d] h b=(.mptr b 0 0,upd h b (some ⟨e,[(sd d).cells]⟩),(g=true->sg d=true)/\(sd d).cells.length=P.cellsOf e/\(sd d).cells.all D.one=true/\0<P.cellsOf e):=by simp[aW,fC,bz]
@[go_sem]theorem e_build:aW P W C g (.build t ps) xs h b=((Gc P t ps.toList (xs.map sd)).1,h,(g=true->xs.all sg=true)/\(Gc P t ps.toList (xs.map sd)).2):=by simp[aW,fC,bz,still]
@[go_sem]theorem ZrC{n:Nat}:aW P W C g (.buildSlice t n ps) xs h b=if C.bs then((wM P t n ps.toList (xs.map sd) h b).1,(wM P t n ps.toList (xs.map sd) h b).2.1,(g=true->xs.all sg=true)/\(wM P t n ps.toList (xs.map sd) h b).2.2)else((EE P t n ps.toList (xs.map sd)).1,h,(g=true->xs.all sg=true)/\(EE P t n ps.toList (xs.map sd)).2):=by cases p:C.bs<;>simp[aW,fC,bz,still,p]
@[go_sem]theorem e_load:aW P W C g (.load t x) [d] h b=(zP P t (jG P (sd d) h),h,(g=true->sg d=true)/\P.cellsOf t<=(jG P (sd d) h).length/\0<P.cellsOf t/\(P.underlying t).isSome=true):=by simp[aW,fC,bz,still,nU]
@[go_sem]theorem e_store{u:D}:aW P W C g (.store t x y) [d,u] h b=(.v undef,(lS P t (sd d) (sd u) h).1,(g=true->(sg d&&sg u)=true)/\(lS P t (sd d) (sd u) h).2):=by simp[aW,fC,bz]
@[go_sem]theorem Zrt:aW P W C g (.nilCheck x) [d] h b=(sd d,h,(g=true->sg d=true)/\zZ (sd d)=true):=by simp[aW,fC,bz]
@[go_sem]theorem e_binOp{a:D}:aW P W C g (.binOp op t x y u) [d,a] h b=((AC P t op (sd d) (sd a)).1,h,(g=true->(sg d&&sg a)=true)/\(AC P t op (sd d) (sd a)).2):=by simp[aW,fC,bz,still]
@[go_sem]theorem e_unOp{op:UnOp}:aW P W C g (.unOp op t x) [d] h b=((CL op (sd d)).1,h,(g=true->sg d=true)/\(CL op (sd d)).2):=by simp[aW,fC,bz,still]
@[go_sem]theorem ZrB{s:TypeId}:aW P W C g (.convert s t x) [d] h b=((Ez P s t (sd d)).1,h,(g=true->sg d=true)/\(Ez P s t (sd d)).2):=by simp[aW,fC,bz,still]
@[go_sem]theorem Zrx{f:Fn}{a c:Array Operand}:aW P W C g (.makeFunc f a c) xs h b=(.fn f ((xs.map sd).take a.size) ((xs.map sd).drop a.size),h,(g=true->xs.all sg=true)/\True):=by simp[aW,fC,bz]
@[go_sem]theorem e_slice{l hi m:Option Operand}:aW P W C g (.slice t x l hi m) (d::xs) h b =
  ((rE P t (sd d) (kQ l (xs.map sd)).1 (kQ hi (kQ l (xs.map sd)).2).1 (kQ m (kQ hi (kQ l (xs.map sd)).2).2).1 h).1,h,(g=true->(sg d&&xs.all sg)=true)/\(rE P t (sd d) (kQ l (xs.map sd)).1 (kQ hi (kQ l (xs.map sd)).2).1 (kQ m (kQ hi (kQ l (xs.map sd)).2).2).1 h).2):=by simp[aW,fC,bz,still]
@[go_sem]theorem Zrz{f:Nat}:aW P W C g (.fieldAddr t x f) [d] h b=((Er P t f (sd d)).1,h,(g=true->sg d=true)/\(Er P t f (sd d)).2):=by simp[aW,fC,bz,still]
@[go_sem]theorem Zry{u:D}:aW P W C g (.indexAddr t x y) [d,u] h b=((jH P t (sd d) (sd u) h).1,h,(g=true->(sg d&&sg u)=true)/\(jH P t (sd d) (sd u) h).2):=by simp[aW,fC,bz,still]
@[go_sem]theorem e_index{u:D}:aW P W C g (.index t x y) [d,u] h b=((D8 P t (sd d) (sd u)).1,h,(g=true->(sg d&&sg u)=true)/\(D8 P t (sd d) (sd u)).2):=by simp[aW,fC,bz,still]
@[go_sem]theorem ZrA{ds:List D}:aW P W C g (.extract x i) [.tuple ds] h b=(ds.getD i .junk,h,i<ds.length):=by simp[aW,fC,bz,sd,sg]
@[go_sem]theorem e_len:aW P W C g (.call { callee:=.builtin .len,args:=args,argTypes:=#[t] }) [d] h b=(.v (.int .i64 (bQ (sd d))),h,(g=true->sg d=true)/\DK P t (sd d)=true):=by simp[aW,fC,bz]
@[go_sem]theorem e_append{a:D}:aW P W C g (.call { callee:=.builtin .append,args:=args,argTypes:=#[t,u] }) [d,a] h b=((jm P t u (sd d) (sd a) h b).1,(jm P t u (sd d) (sd a) h b).2.1,(g=true->(sg d&&sg a)=true)/\(jm P t u (sd d) (sd a) h b).2.2):=by simp[aW,fC,bz]
@[go_sem]theorem e_call{f:Operand}{a:Array TypeId}:aW P W C g (.call { callee:=.value f,args:=args,argTypes:=a }) xs h b=((kZ W C f (xs.map sd) h b).1,(kZ W C f (xs.map sd) h b).2.1,(g=true->xs.all sg=true)/\(kZ W C f (xs.map sd) h b).2.2):=by simp[aW,fC,bz]
@[go_sem]theorem Zrw{r:Option Operand}:aW P W C g (.makeMap t r) xs h b=(.mp b,upd h b (some ⟨t,gZ []⟩),(g=true->xs.all sg=true)/\(qx P t).isSome=true/\P.cellsOf t=1/\Ll (xs.map sd)=true):=by simp[aW,fC,bz,DF]
@[go_sem]theorem Zru{z:Operand}{m k:D}:aW P W C g (.mapUpdate t x y z) [m,k,d] h b=(.v undef,(vD P t (sd m) (sd k) (sd d) h).1,(g=true->(sg m&&(sg k&&sg d))=true)/\(vD P t (sd m) (sd k) (sd d) h).2):=by simp[aW,fC,bz]
@[go_sem]theorem e_insert{z:Operand}{m k:D}:aW P W C g (.insert t x y z) [m,k,d] h b=(.v undef,(vD P t (sd m) (sd k) (sd d) h).1,(g=true->(sg m&&(sg k&&sg d))=true)/\(vD P t (sd m) (sd k) (sd d) h).2):=by simp[aW,fC,bz]
@[go_sem]theorem e_lookup{ok:Bool}{m k:D}:aW P W C g (.lookup t x y ok) [m,k] h b=((tZ P t ok (sd m) (sd k) h).1,h,(g=true->(sg m&&sg k)=true)/\(tZ P t ok (sd m) (sd k) h).2):=by simp[aW,fC,bz,still]
@[go_sem]theorem Zrv{u:D}:aW P W C g (.makeSlice t x y) [d,u] h b=((rW P t h b (sd d) (sd u)).1,(rW P t h b (sd d) (sd u)).2.1,(g=true->(sg d&&sg u)=true)/\(rW P t h b (sd d) (sd u)).2.2):=by simp[aW,fC,bz]
@[go_sem]theorem mkSl_i [Glob P]{t:TypeId}{h:H}{b:Nat}{k k':IntKind}{n m:Int}:rW P t h b (.v (.int k n)) (.v (.int k' m))=(match bS P t with
  | some e=>(.mrow b 0 n.toNat,upd h b (some ⟨e,List.replicate n.toNat (zeroCells P e)⟩),n<=m/\0<=n/\P.bytesOf e*m<=281474976710656/\m<=9223372036854775807/\eH P e=true/\(zeroCells P e).length=P.cellsOf e/\(zeroCells P e).all D.one=true/\0<P.cellsOf e)
  | none=>(.junk,h,False)):=rfl
@[go_sem]theorem ZqO{ok:Bool}:(bW C (.lookup t x y ok) = .writes)=False:=by simp[bW]
def Zre:Ll []=true:=rfl
def Zrf:Ll [.v (.int k n)]=true:=rfl
attribute[go_sem]Zre Zrf
@[go_sem]theorem Zp3{k:D}:vD P t (.mp r) k d h=(match qx P t with
 | some (a,_)=>match h r with
  | some bl=>match rZ bl with
   | some c=>(upd h r (some ⟨bl.ty,gZ (ib c k d)⟩),mP P a k=true/\jl P a c=true/\uh P a=true)
   | none=>(h,False)
  | none=>(h,False)
 | _=>(h,False)):=by unfold vD;cases qx P t<;>rfl
@[go_sem]theorem lookD_eq{ok:Bool}{m k:D}:tZ P t ok m k h=(match qx P t with
 | some (c,e)=>match zW h m with
  | some a=>(if ok then .tuple [(iZ a k).getD (zh P e),.b (iZ a k).isSome]else(iZ a k).getD (zh P e),mP P c k=true/\jl P c a=true/\uh P c=true/\Iu P e=true)
  | none=>(.junk,False)
 | _=>(.junk,False)):=by unfold tZ;cases qx P t<;>cases zW h m<;>rfl
@[go_sem]theorem kvH_fmap:zW h (.fmap a)=some a:=rfl
@[go_sem]theorem kvH_mp:zW h (.mp r)=(match h r with|some R=>rZ R|none=>none):=by show(h r).bind rZ=_;cases h r<;>rfl
def kvB_rows:rZ ⟨t,gZ a⟩=some a:=rfl
def bv_v{b:Bool}:bv (.v (.bool b))=b:=rfl
def isB_v{b:Bool}:z8 (.v (.bool b))=true:=rfl
attribute[go_sem]kvB_rows bv_v isB_v
@[go_sem]theorem e_pick{z:Operand}{c a b:D}{n:Nat} :
  aW P W C g (.pick x y z) [c,a,b] h n=(.v (.bool (bif bv (sd c)then bv (sd a)else bv (sd b))),h,(g=true->(sg c=true/\z8 (sd c)=true)/\(bv (sd c)=true->sg a=true/\z8 (sd a)=true)/\(bv (sd c)=false->sg b=true/\z8 (sd b)=true))):=rfl
attribute [go_sem] cond_true cond_false
@[go_sem]theorem nw_move:(bW C (.move x) = .writes)=False:=by simp[bW]
@[go_sem]theorem nw_load:(bW C (.load t x) = .writes)=False:=by simp[bW]
@[go_sem]theorem nw_binOp:(bW C (.binOp op t x y u) = .writes)=False:=by simp[bW]
@[go_sem]theorem nw_unOp{op:UnOp}:(bW C (.unOp op t x) = .writes)=False:=by simp[bW]
@[go_sem]theorem ZqQ{f:Nat}:(bW C (.fieldAddr t x f) = .writes)=False:=by simp[bW]
@[go_sem]theorem ZqP:(bW C (.indexAddr t x y) = .writes)=False:=by simp[bW]
@[go_sem]theorem nw_index:(bW C (.index t x y) = .writes)=False:=by simp[bW]
@[go_sem]theorem nw_pick{z:Operand}:(bW C (.pick x y z) = .writes)=False:=by simp[bW]
@[go_sem]theorem nw_slice{a b c:Option Operand}:(bW C (.slice t x a b c) = .writes)=False:=by simp[bW]
@[go_sem]theorem ZqN:(bW C (.nilCheck x) = .writes)=False:=by simp[bW]
@[go_sem]theorem nw_build:(bW C (.build t ps) = .writes)=False:=by simp[bW]
@[go_sem]theorem ZqR{n:Nat}:(bW C (.buildSlice t n ps) = .writes)=(C.bs=true):=by cases p:C.bs<;>simp[bW,p]
@[go_sem]theorem nw_len{a:Array TypeId}:(bW C (.call { callee:=.builtin .len,args:=args,argTypes:=a }) = .writes)=False:=by simp[bW]
@[go_sem]theorem nw_call{f:Operand}{a:Array TypeId}:(bW C (.call { callee:=.value f,args:=args,argTypes:=a }) = .writes)=False:=by cases h:C.cf<;>simp[bW,HY,h]
@[go_sem]theorem bif_or{c b:Bool}:(bif c then true else b)=(c||b):=by cases c<;>rfl
@[go_sem]theorem bif_and{c b:Bool}:(bif c then b else false)=(c&&b):=by cases c<;>rfl
def Zse:D.cells (.agg cs)=cs:=rfl
def cells_v{x:Value}:D.cells (.v x)=[.v x]:=rfl
def Zsb{x:List (List D)}:D.cells (.list f x)=[.list f x]:=rfl
def Zr9{a:Nat}:D.cells (.mrow a b c)=[.mrow a b c]:=rfl
def Zsa{a:Nat}:D.cells (.mptr a b c)=[.mptr a b c]:=rfl
def Zsd:D.cells (.eptr a)=[.eptr a]:=rfl
def cells_fn{f:Fn}{b:List D}:D.cells (.fn f a b)=[.fn f a b]:=rfl
def one_int:D.one (.v (.int k n))=true:=rfl
def one_bool{b:Bool}:D.one (.v (.bool b))=true:=rfl
def ZqH{b:ByteArray}:D.one (.v (.string b))=true:=rfl
def ZqJ:D.one (.v .nilFunc)=true:=rfl
def ZqI:D.one (.v .nilIface)=true:=rfl
def one_list{x:List (List D)}:D.one (.list f x)=true:=rfl
def one_mrow{a:Nat}:D.one (.mrow a b c)=true:=rfl
def one_mptr{a:Nat}:D.one (.mptr a b c)=true:=rfl
def one_eptr:D.one (.eptr a)=true:=rfl
def one_fn{f:Fn}{b:List D}:D.one (.fn f a b)=true:=rfl
def ldc_eptr:jG P (.eptr cs) h=cs:=rfl
def ldc_mptr:jG P (.mptr r i off) h=match h r with|some b=>(b.rows.getD i []).drop off|none=>[]:=rfl
def ldD_eq{a:D}:nU P t a h=(zP P t (jG P a h),P.cellsOf t<=(jG P a h).length/\0<P.cellsOf t/\(P.underlying t).isSome=true):=rfl
attribute[go_sem]Zse cells_v Zsb Zr9 Zsa Zsd cells_fn one_int one_bool ZqH ZqJ ZqI one_list one_mrow one_mptr one_eptr one_fn ldc_eptr ldc_mptr ldD_eq
theorem Xf{x o:Nat}:jG P (.v (.pointer (some ⟨x,o,none⟩))) h=match Glob.tab P x with|some M=>(M.drop o).map D.v|none=>[]:=rfl
@[go_sem]theorem ZqZ:iN (.mptr r i off) h=match h r with|some b=>(b.rows.getD i []).drop off|none=>[]:=rfl
attribute [go_sem] zP Er IW splice
def ZqB{n:Nat}:Bj n (.eptr cs) = .eptr (cs.drop n):=rfl
def ZqA{n:Nat}:Bj n (.mptr r i off) = .mptr r i (off+n):=rfl
attribute[go_sem]ZqB ZqA
@[go_sem]theorem Zqz{n x o:Nat}:Bj n (.v (.pointer (some ⟨x,o,none⟩))) = .v (.pointer (some ⟨x,o+n,none⟩)):=by simp only[Bj,oQ]
def Zq4:zZ (.eptr cs)=true:=rfl
def Zq3:zZ (.mptr r i off)=true:=rfl
attribute[go_sem]Zq4 Zq3
@[go_sem]theorem stH_mptr [Glob P]{t:TypeId}{r i off:Nat}{x:D}{h:H}:lS P t (.mptr r i off) x h=match h r with
  | some b=>(upd h r (some { b with rows:=b.rows.set i (splice (b.rows.getD i []) off x.cells) }),x.cells.length=P.cellsOf t/\0<P.cellsOf t/\i<b.rows.length/\off+x.cells.length<=(b.rows.getD i []).length/\x.cells.all D.one=true)
  | none=>(h,False):=rfl
@[go_sem]theorem Zrj:jH P t (.list f rows) (.v (.int k n)) h=match bS P t with
  | none=>yM P t (.list f rows) (.v (.int k n))
  | some e=>(.eptr (rows.getD n.toNat []),0<=n/\n<rows.length/\0<P.cellsOf e/\(rows.getD n.toNat []).length=P.cellsOf e):=by unfold jH;cases bS P t<;>rfl
@[go_sem]theorem Zrh:jH P t (.mrow r off len) (.v (.int k n)) h=match bS P t with
  | none=>yM P t (.mrow r off len) (.v (.int k n))
  | some e=>(.mptr r (off+n.toNat) 0,0<=n/\n<len/\0<P.cellsOf e/\match h r with|some R=>R.ty=e|none=>False):=by unfold jH;cases bS P t<;>rfl
@[go_sem]theorem Zrg:jH P t (.v (.pointer p)) (.v (.int k n)) h=match bS P t with
  | none=>yM P t (.v (.pointer p)) (.v (.int k n))
  | some _=>(.junk,False):=by unfold jH;cases bS P t<;>rfl
def isGp_ptr{p:Addr}:BJ (.v (.pointer (some p)))=true:=rfl
def Zrb:BJ (.mptr r i off)=true:=rfl
attribute[go_sem]isGp_ptr Zrb
@[go_sem]theorem Zri:jH P t (.mptr r i off) (.v (.int k n)) h=match bS P t with
  | none=>yM P t (.mptr r i off) (.v (.int k n))
  | some _=>(.junk,False):=by unfold jH;cases bS P t<;>rfl
@[go_sem]theorem Zrk{x:D}:yM P t x (.v (.int k n))=match qZ P t with
  | some (m,e)=>(Bj (n.toNat*P.cellsOf e) x,BJ x=true/\0<=n/\n<m/\0<P.cellsOf e)
  | none=>(.junk,False):=by unfold yM;cases qZ P t<;>rfl
def Zqx:aG (.list f rows) h=rows:=rfl
def Zqw:aG (.mrow r off len) h=match h r with|some b=>(b.rows.drop off).take len|none=>[]:=rfl
def ZqY:bQ (.list f rows)=rows.length:=rfl
def ZqX:bQ (.mrow r off len)=len:=rfl
def ZqW{s:ByteArray}:bQ (.v (.string s))=s.size:=rfl
def ZqV:DK P t (.list f rows)=(bS P t).isSome:=rfl
def ZqU:DK P t (.mrow r off len)=(bS P t).isSome:=rfl
def ZqT{s:ByteArray}:DK P t (.v (.string s))=match P.underlying t with|some .string=>true|_=>false:=rfl
attribute[go_sem]Zqx Zqw ZqY ZqX ZqW ZqV ZqU ZqT
attribute [go_sem] Option.isSome_some
def Zp8:iy P t h (.list f rows)=(bS P t).isSome:=rfl
def Zp7:iy P t h (.mrow r off len)=((bS P t).isSome&&(h r).isSome):=rfl
def Zp6{s:ByteArray}:iy P t h (.v (.string s))=match P.underlying t with|some .string=>true|_=>false:=rfl
attribute[go_sem]Zp8 Zp7 Zp6
@[go_sem]theorem Zsr{y:D}:jm P t u (.list true rows) y h b=match bS P t with
  | none=>(.junk,h,False)
  | some e=>(.mrow b 0 (rows.length+(aG y h).length),upd h b (some ⟨e,rows++aG y h⟩),(0<P.cellsOf e/\(rows.length+(aG y h).length)*P.bytesOf e<=140737488355328/\rows.length+(aG y h).length<=9223372036854775807) /\
    ((aG y h).length=bQ y/\iy P u h y=true/\eH P e=true /\ ∀r∈aG y h,r.length=P.cellsOf e)/\(aG y h=[]->rows=[]) /\ ∀r∈rows,r.length=P.cellsOf e):=by
 unfold jm;cases bS P t<;>rfl
@[go_sem]theorem Zps{n:Nat}{y:D}:jm P t u (.mrow r 0 n) y h b=match bS P t with
  | none=>(.junk,h,False)
  | some e=>match h r with
   | none=>(.junk,h,False)
   | some R=>(.mrow b 0 (n+(aG y h).length),upd (upd h r none) b (some ⟨e,R.rows++aG y h⟩),(0<P.cellsOf e/\(n+(aG y h).length)*P.bytesOf e<=140737488355328/\n+(aG y h).length<=9223372036854775807) /\
    ((aG y h).length=bQ y/\iy P u h y=true/\eH P e=true /\ ∀r∈aG y h,r.length=P.cellsOf e)/\R.ty=e/\R.rows.length=n/\r≠b):=by
 unfold jm;cases bS P t with
 | none=>rfl
 | some e=>cases O:h r with
  | none=>simp only[O]
  | some R=>simp only[bQ,O]
attribute [go_sem] Gc Am Cg EE wM Da
def binD_v{a b:Value}:AC P t op (.v a) (.v b)=(.v (fP P t op a b).1,(fP P t op a b).2):=rfl
def binV_lss{a b:Int}:fP P t .lss (.int k a) (.int k' b)=(.bool (decide (a<b)),k=k'):=rfl
def binV_leq{a b:Int}:fP P t .leq (.int k a) (.int k' b)=(.bool (decide (a<=b)),k=k'):=rfl
def binV_gtr{a b:Int}:fP P t .gtr (.int k a) (.int k' b)=(.bool (decide (b<a)),k=k'):=rfl
def binV_geq{a b:Int}:fP P t .geq (.int k a) (.int k' b)=(.bool (decide (b<=a)),k=k'):=rfl
def binV_eql{a b:Int}:fP P t .eql (.int k a) (.int k' b)=(.bool (a==b),k=k'):=rfl
def binV_neq{a b:Int}:fP P t .neq (.int k a) (.int k' b)=(.bool (a != b),k=k'):=rfl
def binV_add{a b:Int}:fP P t .add (.int k a) (.int k' b)=if k.signed then(.int k (a+b),k=k'/\sj k (a+b))else(.int k (k.wrap (a+b)),k=k'):=rfl
def binV_sub{a b:Int}:fP P t .sub (.int k a) (.int k' b)=if k.signed then(.int k (a-b),k=k'/\sj k (a-b))else(.int k (k.wrap (a-b)),k=k'):=rfl
def binV_mul{a b:Int}:fP P t .mul (.int k a) (.int k' b)=if k.signed then(.int k (a*b),k=k'/\sj k (a*b))else(.int k (k.wrap (a*b)),k=k'):=rfl
def binV_quo{a b:Int}:fP P t .quo (.int k a) (.int k' b)=(.int k (a / b),k=k'/\0<=a/\1<=b/\sj k a):=rfl
def binV_rem{a b:Int}:fP P t .rem (.int k a) (.int k' b)=(.int k (a % b),k=k'/\0<=a/\1<=b):=rfl
def binV_eqb{a b:Bool}:fP P t .eql (.bool a) (.bool b)=(.bool (a==b),P.underlying t=some .bool):=rfl
def binV_eqs{a b:ByteArray}:fP P t .eql (.string a) (.string b)=(.bool (a.data.toList==b.data.toList),True):=rfl
def binV_nes{a b:ByteArray}:fP P t .neq (.string a) (.string b)=(.bool (a.data.toList != b.data.toList),True):=rfl
def Zsq{a b:ByteArray}:fP P t .add (.string a) (.string b)=(.string (a++b),a.size+b.size<=9223372036854775807):=rfl
def Zsm{a b:ByteArray}:fP P t .lss (.string a) (.string b)=(.bool (Go.Op.bytesLess a.data.toList b.data.toList),True):=rfl
def Zsn{a b:ByteArray}:fP P t .gtr (.string a) (.string b)=(.bool !(Go.Op.bytesLess a.data.toList b.data.toList||a.data.toList==b.data.toList),True):=rfl
def binV_shl{a b:Int}:fP P t .shl (.int k a) (.int k' b)=(.int k (k.wrap (a*2^(min b.toNat k.bits))),0<=b):=rfl
def binV_shr{a b:Int}:fP P t .shr (.int k a) (.int k' b)=(.int k (a.fdiv (2^(min b.toNat k.bits))),0<=b):=rfl
def binV_or{a b:Int}:fP P t .or (.int k a) (.int k' b)=(.int k (k.wrap (BitVec.ofInt k.bits a ||| BitVec.ofInt k.bits b).toNat),k=k'):=rfl
attribute[go_sem]binD_v binV_lss binV_leq binV_gtr binV_geq binV_eql binV_neq binV_add binV_sub binV_mul binV_quo binV_rem binV_eqb binV_eqs binV_nes Zsq Zsm Zsn binV_shl binV_shr binV_or
def M4(k:IntKind)(a b:Int):Int:=k.wrap (BitVec.ofInt k.bits a ^^^ BitVec.ofInt k.bits b).toNat
@[go_sem]theorem binV_xor{a b:Int}:fP P t .xor (.int k a) (.int k' b)=(.int k (M4 k a b),k=k'):=rfl
def orI(k:IntKind)(a b:Int):Int:=k.wrap (BitVec.ofInt k.bits a ||| BitVec.ofInt k.bits b).toNat
def Rz(k:IntKind)(a b:Int):Int:=k.wrap (BitVec.ofInt k.bits a &&& BitVec.ofInt k.bits b).toNat
def Ry(k:IntKind)(a b:Int):Int:=k.wrap (BitVec.ofInt k.bits a &&& ~~~BitVec.ofInt k.bits b).toNat
def binD_eq{m:List D}:AC P t .eql (.agg xs) (.agg m)=(.v (.bool (qQ xs m)),match xQ P t with|some ks=>uq ks xs m=true|none=>False):=rfl
def binD_ne{m:List D}:AC P t .neq (.agg xs) (.agg m)=(.v (.bool (!qQ xs m)),match xQ P t with|some ks=>uq ks xs m=true|none=>False):=rfl
attribute[go_sem]binD_eq binD_ne
attribute [go_sem] qQ uq
def eqCell_i{a b:Int}:ou (.v (.int k a)) (.v (.int k' b))=(a==b):=rfl
def eqCell_s{a b:ByteArray}:ou (.v (.string a)) (.v (.string b))=(a.data.toList==b.data.toList):=rfl
def ZqD{a b:Int}:Dl .i (.v (.int k a)) (.v (.int k' b))=(k==k'):=rfl
def ZqC{a b:ByteArray}:Dl .s (.v (.string a)) (.v (.string b))=true:=rfl
def Zqr:IntKind.i64.signed=true:=rfl
def Zqq:IntKind.u64.signed=false:=rfl
attribute[go_sem]eqCell_i eqCell_s ZqD ZqC Zqr Zqq
@[go_sem]theorem inK_i64:sj .i64 n=(-9223372036854775808<=n/\n<=9223372036854775807):=by simp[sj,IntKind.min,IntKind.max,IntKind.signed,IntKind.bits]
@[go_sem]theorem unD_not{b:Bool}:CL .not (.v (.bool b))=(.v (.bool !b),True):=rfl
attribute [go_sem] Ez
def idxV_s{s:ByteArray}:D8 P t (.v (.string s)) (.v (.int k n))=(.v (.int .u8 (s.data.toList.getD n.toNat 0).toNat),0<=n/\n<s.size/\P.underlying t=some .string):=rfl
def bnd_none{d:Nat}:bnd none d=d:=rfl
def bnd_some{d:Nat}:bnd (some (.v (.int k n))) d=n:=rfl
def Zsk:EF none=true:=rfl
def Zsj:EF (some (.v (.int k n)))=true:=rfl
attribute[go_sem]idxV_s bnd_none bnd_some Zsk Zsj
attribute [go_sem] Option.toList_some Option.toList_none kQ rE
attribute [go_sem] mV
def wk_v{x:Value}:wk (.v x) = .v x:=rfl
def wk_agg:wk (.agg cs) = .agg (dA cs):=rfl
def wk_list:wk (.list f rows) = .list false (dB rows):=rfl
def wk_eptr:wk (.eptr cs) = .eptr (dA cs):=rfl
def wk_tuple:wk (.tuple cs) = .tuple (dA cs):=rfl
def wk_mrow{a:Nat}:wk (.mrow a b c) = .mrow a b c:=rfl
def wk_mptr{a:Nat}:wk (.mptr a b c) = .mptr a b c:=rfl
def wk_fn{f:Fn}{b:List D}:wk (.fn f a b) = .fn f a b:=rfl
def wk_fmap:wk (.fmap a) = .fmap (dA a):=rfl
def Zr1:wI h (.fmap a) = .fmap a:=rfl
def ZrW:xS h (.fmap a)=True:=rfl
attribute[go_sem]wk_v wk_agg wk_list wk_eptr wk_tuple wk_mrow wk_mptr wk_fn wk_fmap Zr1 ZrW
@[go_sem]theorem Zqb{k:Nat}{x:List D}:snap h k (.fmap x) = .fmap x:=by cases k<;>rfl
@[go_sem]theorem Zqk{k:Nat}{x:List D}:dU h k (.fmap x)=(aX x=true):=by cases k<;>rfl
attribute [go_sem] dA dB
def ZrI:deref h (.list f rows) = .list f rows:=rfl
def deref_v{x:Value}:deref h (.v x) = .v x:=rfl
def ZrK{x:List D}:deref h (.agg x) = .agg x:=rfl
def deref_fn{f:Fn}{b:List D}:deref h (.fn f a b) = .fn f (a.map (Ar h)) (b.map (Ar h)):=rfl
def ZrH{a:Nat}:deref h (.mptr a b c) = .eptr ((iN (.mptr a b c) h).map (wI h)):=rfl
def ZrY{a:Nat}:Ar h (.mptr a b c) = .eptr ((iN (.mptr a b c) h).map (wI h)):=rfl
def ZrZ{x:List D}:Ar h (.eptr x) = .eptr x:=rfl
def deref0_v{x:Value}:wI h (.v x) = .v x:=rfl
def Zr0:wI h (.list f rows) = .list f rows:=rfl
def ZrJ{x:List D}:deref h (.eptr x) = .eptr x:=rfl
def Zq9{x:List D}:kU (.eptr x)=false:=rfl
def ZrQ{x:List D}:qV h (.eptr x)=True:=rfl
def ZrG{a:Nat}:deref h (.mrow a b c) = .list false (aG (.mrow a b c) h):=rfl
def Zq7:kU (.list f rows)=false:=rfl
def isMrow_v{x:Value}:kU (.v x)=false:=rfl
def Zra{x:List D}:kU (.agg x)=false:=rfl
def Zq8{f:Fn}{b:List D}:kU (.fn f a b)=(a.any BI||b.any BI):=rfl
def Zq6{a:Nat}:kU (.mptr a b c)=true:=rfl
def Zq1{a:Nat}:BI (.mptr a b c)=true:=rfl
def Zq2{x:List D}:BI (.eptr x)=false:=rfl
def Zq5{a:Nat}:kU (.mrow a b c)=true:=rfl
def ZrO:qV h (.list f rows)=True:=rfl
def ZrL{x:Value}:qV h (.v x)=True:=rfl
def ZrR{x:List D}:qV h (.agg x)=True:=rfl
def ZrP{f:Fn}{b:List D}:qV h (.fn f a b)=((∀c∈a,Ex h c) /\ ∀c∈b,Ex h c):=rfl
def ZrN:qV h (.mptr r i off)=((h r).isSome=true /\ ∀c∈iN (.mptr r i off) h,xS h c):=rfl
def ZrS:Ex h (.mptr r i off)=((h r).isSome=true /\ ∀c∈iN (.mptr r i off) h,xS h c):=rfl
def ZrT{x:List D}:Ex h (.eptr x)=True:=rfl
def ZrU{x:Value}:xS h (.v x)=True:=rfl
def ZrV:xS h (.list f rows)=True:=rfl
def ZrM:qV h (.mrow r off len)=((h r).isSome=true/\(aG (.mrow r off len) h).length=len):=rfl
attribute[go_sem]ZrI deref_v ZrK deref_fn ZrH ZrY ZrZ deref0_v Zr0 ZrJ Zq9 ZrQ ZrG Zq7 isMrow_v Zra Zq8 Zq6 Zq1 Zq2 Zq5 ZrO ZrL ZrR ZrP ZrN ZrS ZrT ZrU ZrV ZrM
attribute [go_sem] List.any_cons List.any_nil Bool.or_false Bool.or_true Bool.false_or Bool.true_or
@[go_sem]theorem Zsf{k:FuncId}{m:List D}:kZ W C (.func k) (d::m) h b=if C.pure k then
   (if C.cf then(C.pf k (m.map wk),h,W.pureCt k (m.map wk) (C.pf k (m.map wk))/\m.any kU=false)
   else if C.dp then(C.pf k (m.map (jr h)),h,W.pureCt k (m.map (jr h)) (C.pf k (m.map (jr h)))/\flat (C.pf k (m.map (jr h)))=true /\ ∀y∈m,dU h 5 y)
   else(C.pf k (m.map (mV h)),h,W.pureCt k (m.map (mV h)) (C.pf k (m.map (mV h)))/\(m.any kU=true->flat (C.pf k (m.map (mV h)))=true /\ ∀y∈m,qV h y)))
  else if C.cf then(.junk,h,False)else(C.pf k (m.map (mV h)),h,∀b,W.ct k (m.map wk) h b (C.pf k (m.map (mV h))) h):=rfl
@[go_sem]theorem call_tmp{k:FuncId}{t:Tmp}{first m:List D}:kZ W C (.tmp t) (.fn (.func k) first a::m) h b=if C.pure k then
   (if C.cf then(C.pf k ((first++m++a).map wk),h,W.pureCt k ((first++m++a).map wk) (C.pf k ((first++m++a).map wk))/\(first++m++a).any kU=false)
   else if C.dp then(C.pf k ((first++m++a).map (jr h)),h,W.pureCt k ((first++m++a).map (jr h)) (C.pf k ((first++m++a).map (jr h)))/\flat (C.pf k ((first++m++a).map (jr h)))=true /\ ∀y∈first++m++a,dU h 5 y)
   else(C.pf k ((first++m++a).map (mV h)),h,W.pureCt k ((first++m++a).map (mV h)) (C.pf k ((first++m++a).map (mV h)))/\((first++m++a).any kU=true->flat (C.pf k ((first++m++a).map (mV h)))=true /\ ∀y∈first++m++a,qV h y)))
  else(.junk,h,False):=rfl
def Zp1{k:FuncId}{r:D}:(words P).pureCt k xs r=PureCt P k xs r:=rfl
def words_ct{k:FuncId}{h':H}{r:D}:(words P).ct k xs h b r h'=Ct P k xs h b r h':=rfl
def flat_v{x:Value}:flat (.v x)=true:=rfl
attribute[go_sem]Zp1 words_ct flat_v
attribute [go_sem] rP UN GV tK
attribute [go_sem] List.forall_mem_cons List.not_mem_nil false_implies forall_const
@[go_sem]theorem snap_v{k:Nat}{x:Value}:snap h k (.v x) = .v x:=by cases k<;>rfl
@[go_sem]theorem snap_list{k:Nat}{x:List (List D)}:snap h k (.list f x) = .list f x:=by cases k<;>rfl
theorem snap_mrow{k:Nat}:snap h (k+1) (.mrow r off len) = .list false ((aG (.mrow r off len) h).map λrow=>row.map (snap h k)):=rfl
theorem snap_agg{k:Nat}:snap h (k+1) (.agg cs) = .agg (cs.map (snap h k)):=rfl
def Zp9{k:Nat}:snap h (k+1) (.tuple cs) = .tuple (cs.map (snap h k)):=rfl
attribute[go_sem]snap_mrow snap_agg Zp9
@[go_sem]theorem snapOk_v{k:Nat}{x:Value}:dU h k (.v x)=True:=by cases k<;>simp[dU,D.nr]
@[go_sem]theorem Zqi{k:Nat}{x:List (List D)}:dU h k (.list f x)=(aQ x=true):=by cases k<;>rfl
def Zqg{k:Nat}:dU h (k+1) (.mrow r off len)=(qV h (.mrow r off len) /\ ∀row∈aG (.mrow r off len) h,∀c∈row,dU h k c):=rfl
def Zql{k:Nat}:dU h (k+1) (.agg cs) = ∀c∈cs,dU h k c:=rfl
def Zqe{k:Nat}:dU h (k+1) (.tuple cs) = ∀c∈cs,dU h k c:=rfl
def Zqa{k:Nat}:snap h (k+1) (.mptr r i off) = .eptr ((iN (.mptr r i off) h).map (snap h k)):=rfl
theorem TJ{k:Nat}{f:Fn}{b:List D}:snap h (k+1) (.fn f a b) = .fn f (a.map (snap h k)) (b.map (snap h k)):=rfl
def Zqh{k:Nat}:dU h (k+1) (.mptr r i off)=((h r).isSome=true /\ ∀c∈iN (.mptr r i off) h,dU h k c):=rfl
def Zqj{k:Nat}{f:Fn}{b:List D}:dU h (k+1) (.fn f a b)=((∀c∈a,dU h k c) /\ ∀c∈b,dU h k c):=rfl
attribute[go_sem]Zqg Zql Zqe Zqa TJ Zqh Zqj
theorem Zft(rows:List (List D)):(rows.map λrow=>row.map (snap h 0))=rows:=by
 have:(λrow:List D=>row.map (snap h 0))=id:=by funext row;exact List.map_id row
 rw[this];exact List.map_id rows
def Zfx(hn:aQ rows=true):∀row∈rows,∀c∈row,dU h 0 c:=λ_ J _ Y=>uO (Hg hn J) Y
def Za4{s':S}{id:Nat}{draw:Bool}(J:exec P (words P) C ops.toList s=s')(m:draw=true->P.follows .mixedOrders=true/\EA C ops.toList=true/\qX ops.toList=true)(hok:s'.ok)(hq:Q .normal s'.clear):DW P ro (.region id ops draw) Q s :=
 Zm2 (C:=C) m o3r (by rw[J];exact hq)
end Go.DL
namespace Go.Proofs.YtjhhnhgflmkenaaGreatDoor
open Go.Proofs.Tryz
open Go.DL
def Kk:List Value:=[.int .i64 0,.int .i64 0,.int .i64 0,.int .i64 0,.int .i64 0,.bool false,.bool false,.bool false,.int .i64 0,.int .i64 1,.int .i64 1000000,.int .i64 0,.int .i64 0,.bool false,.bool false,.bool true,.int .i64 1,.int .i64 0,.int .i64 0,.int .i64 0,.int .i64 0,.bool false,.bool false,.bool false,.int .i64 1,.int .i64 0,.int .i64 0,.int .i64 0,.int .i64 0,.bool false,.bool true,.bool false,.int .i64 0,.int .i64 0,.int .i64 65535,.int .i64 0,.int .i64 100000,.bool false,.bool true,.bool false,.int .i64 3,.int .i64 0,.int .i64 0,.int .i64 0,.int .i64 0,.bool false,.bool false,.bool true,.int .i64 0,.int .i64 1,.int .i64 1000000,.int .i64 1,.int .i64 3,.bool false,.bool false,.bool false,.int .i64 0,.int .i64 1,.int .i64 1000000,.int .i64 1,.int .i64 3,.bool false,.bool false,.bool false,.int .i64 2,.int .i64 2,.int .i64 510,.int .i64 0,.int .i64 0,.bool true,.bool false,.bool true]
def kE(a:Addr):Value:=.iface 401 (.pointer (some a))
def toldF(a:Addr)(x:Nat):Option (List Value):=if x=1 then some Kk else if x=0 then some [kE a]else none
class Told [Glob prog]:Prop where
 tab : ∃a:Addr,∀x,Glob.tab prog x=toldF a x
section
variable [Glob prog] [Told]
noncomputable def iQ:Addr:=(Told.tab (self:=inferInstance)).choose
def SX(x:Nat):Glob.tab prog x=toldF iQ x:=(Told.tab (self:=inferInstance)).choose_spec x
theorem glob0:Glob.tab prog 1=some Kk:=SX 1
theorem globE:Glob.tab prog 0=some [kE iQ]:=SX 0
end
variable [Glob prog]
def zQ:prog.follows .mixedOrders=true:=by kernel_rfl
@[go_sem]theorem ty_1:dJ prog 3=false/\prog.cellsOf 3=1/\prog.bytesOf 3=8/\zeroCells prog 3=[.v (.int .i64 0)]/\eH prog 3=true/\prog.underlying 3=some (.int .i64)/\uh prog 3=true/\zh prog 3 = .v (.int .i64 0)/\dJ prog 4=false/\prog.cellsOf 4=1/\prog.bytesOf 4=1/\zeroCells prog 4=[.v (.bool false)]/\eH prog 4=true/\prog.underlying 4=some .bool/\zh prog 4 = .v (.bool false)/\Iu prog 4=true/\dJ prog 5=false/\prog.cellsOf 5=1/\prog.bytesOf 5=1/\zeroCells prog 5=[.v (.int .u8 0)]/\eH prog 5=true/\prog.underlying 5=some (.int .u8)/\dJ prog 9=false/\prog.cellsOf 9=1/\prog.bytesOf 9=16/\zeroCells prog 9=[.v (.string ⟨⟨[]⟩⟩)]/\eH prog 9=true/\prog.underlying 9=some .string/\uh prog 9=true/\dJ prog 22=false/\prog.cellsOf 22=1/\(prog.underlying 22).isSome=true/\bS prog 22=some 56/\dJ prog 24=true/\prog.cellsOf 24=2/\prog.bytesOf 24=40/\zeroCells prog 24=[.v (.string ⟨⟨[]⟩⟩),.list true []]/\eH prog 24=true/\(prog.underlying 24).isSome=true/\bq prog 24 0=some (0,9):=by and_intros<;>kernel_rfl
@[go_sem]theorem ty_2:bq prog 24 1=some (1,22)/\iK prog 24=true/\dJ prog 25=false/\prog.cellsOf 25=1/\(prog.underlying 25).isSome=true/\bS prog 25=some 134/\dJ prog 26=false/\prog.cellsOf 26=1/\(prog.underlying 26).isSome=true/\bS prog 26=some 72/\dJ prog 28=true/\prog.cellsOf 28=2/\zeroCells prog 28=[.list true [],.list true []]/\eH prog 28=true/\(prog.underlying 28).isSome=true/\bq prog 28 0=some (0,25)/\bq prog 28 1=some (1,26)/\iK prog 28=true/\bS prog 29=some 62/\dJ prog 31=true/\prog.cellsOf 31=2/\prog.bytesOf 31=24/\zeroCells prog 31=[.v (.string ⟨⟨[]⟩⟩),.v (.int .i64 0)]/\eH prog 31=true/\(prog.underlying 31).isSome=true/\bq prog 31 0=some (0,9)/\bq prog 31 1=some (1,3)/\iK prog 31=true/\uh prog 31=true/\bS prog 34=some 28/\dJ prog 36=false/\prog.cellsOf 36=1/\(prog.underlying 36).isSome=true/\bS prog 36=some 24/\dJ prog 39=false/\prog.cellsOf 39=1/\zeroCells prog 39=[.v (.int .i64 0)]/\prog.underlying 39=some (.int .i64)/\dJ prog 44=true/\prog.cellsOf 44=4:=by and_intros<;>kernel_rfl
@[go_sem]theorem ty_3:zeroCells prog 44=[.v (.bool false),.v (.string ⟨⟨[]⟩⟩),.list true [],.v (.int .i64 0)]/\(prog.underlying 44).isSome=true/\bq prog 44 0=some (0,4)/\bq prog 44 1=some (1,24)/\bq prog 44 2=some (3,3)/\iK prog 44=true/\bS prog 48=some 4/\dJ prog 51=false/\prog.cellsOf 51=1/\(prog.underlying 51).isSome=true/\bS prog 51=some 70/\dJ prog 53=true/\prog.cellsOf 53=4/\prog.bytesOf 53=56/\zeroCells prog 53=[.v (.string ⟨⟨[]⟩⟩),.v (.int .i64 0),.v (.int .i64 0),.list true []]/\eH prog 53=true/\(prog.underlying 53).isSome=true/\bq prog 53 0=some (0,9)/\bq prog 53 1=some (1,3)/\bq prog 53 2=some (2,3)/\bq prog 53 3=some (3,51)/\iK prog 53=true/\dJ prog 54=false/\prog.cellsOf 54=1/\(prog.underlying 54).isSome=true/\bS prog 54=some 59/\dJ prog 56=true/\prog.cellsOf 56=5/\prog.bytesOf 56=80/\zeroCells prog 56=[.v (.string ⟨⟨[]⟩⟩),.v (.int .i64 0),.v (.int .i64 0),.list true [],.list true []]/\eH prog 56=true/\(prog.underlying 56).isSome=true/\bq prog 56 0=some (0,53)/\bq prog 56 1=some (4,54)/\iK prog 56=true/\zh prog 56 = .agg [.v (.string ⟨⟨[]⟩⟩),.v (.int .i64 0),.v (.int .i64 0),.list true [],.list true []]/\Iu prog 56=true/\dJ prog 57=false/\prog.cellsOf 57=1/\prog.underlying 57=some (.int .u64):=by and_intros<;>kernel_rfl
@[go_sem]theorem ty_4:dJ prog 59=true/\prog.cellsOf 59=6/\prog.bytesOf 59=56/\zeroCells prog 59=[.v (.string ⟨⟨[]⟩⟩),.v (.int .i64 0),.v (.int .i64 0),.v (.int .i64 0),.v (.int .i64 0),.v (.int .u64 0)]/\eH prog 59=true/\(prog.underlying 59).isSome=true/\bq prog 59 0=some (0,9)/\bq prog 59 1=some (1,3)/\bq prog 59 2=some (2,3)/\bq prog 59 3=some (3,3)/\bq prog 59 4=some (4,3)/\bq prog 59 5=some (5,57)/\iK prog 59=true/\xQ prog 59=some [.s,.i,.i,.i,.i,.i]/\dJ prog 62=true/\prog.cellsOf 62=2/\prog.bytesOf 62=16/\zeroCells prog 62=[.v (.int .i64 0),.v (.int .i64 0)]/\eH prog 62=true/\(prog.underlying 62).isSome=true/\bq prog 62 0=some (0,3)/\bq prog 62 1=some (1,3)/\dJ prog 64=true/\prog.cellsOf 64=3/\zeroCells prog 64=[.v (.int .i64 0),.list true [],.v (.string ⟨⟨[]⟩⟩)]/\(prog.underlying 64).isSome=true/\bq prog 64 0=some (0,3)/\bq prog 64 1=some (1,22)/\bq prog 64 2=some (2,9)/\iK prog 64=true/\dJ prog 70=true/\prog.cellsOf 70=3/\prog.bytesOf 70=32/\zeroCells prog 70=[.v (.string ⟨⟨[]⟩⟩),.v (.int .i64 0),.v (.int .i64 0)]/\eH prog 70=true/\(prog.underlying 70).isSome=true/\bq prog 70 0=some (0,9)/\bq prog 70 1=some (1,3)/\bq prog 70 2=some (2,3)/\iK prog 70=true:=by and_intros<;>kernel_rfl
@[go_sem]theorem ty_5:xQ prog 70=some [.s,.i,.i]/\dJ prog 72=true/\prog.cellsOf 72=5/\zeroCells prog 72=[.v (.int .i64 0),.v (.string ⟨⟨[]⟩⟩),.v (.int .i64 0),.v (.int .i64 0),.list true []]/\eH prog 72=true/\(prog.underlying 72).isSome=true/\bq prog 72 0=some (0,3)/\bq prog 72 1=some (1,53)/\iK prog 72=true/\dJ prog 75=false/\prog.cellsOf 75=1/\(prog.underlying 75).isSome=true/\bS prog 75=some 31/\dJ prog 77=true/\prog.cellsOf 77=5/\prog.bytesOf 77=80/\zeroCells prog 77=[.v (.string ⟨⟨[]⟩⟩),.v (.int .i64 0),.v (.int .i64 0),.list true [],.list true []]/\eH prog 77=true/\(prog.underlying 77).isSome=true/\bq prog 77 0=some (0,9)/\bq prog 77 1=some (1,3)/\bq prog 77 2=some (2,3)/\bq prog 77 3=some (3,75)/\bq prog 77 4=some (4,22)/\iK prog 77=true/\dJ prog 80=false/\prog.cellsOf 80=1/\prog.bytesOf 80=24/\eH prog 80=true/\(prog.underlying 80).isSome=true/\bS prog 80=some 5/\dJ prog 81=false/\prog.cellsOf 81=1/\(prog.underlying 81).isSome=true/\bS prog 81=some 80/\dJ prog 83=true/\prog.cellsOf 83=2/\zeroCells prog 83=[.list true [],.list true []]/\(prog.underlying 83).isSome=true/\bq prog 83 0=some (0,80):=by and_intros<;>kernel_rfl
@[go_sem]theorem ty_6:bq prog 83 1=some (1,81)/\iK prog 83=true/\prog.cellsOf 92=1/\qx prog 92=some (3,4):=by and_intros<;>kernel_rfl
@[go_sem]theorem ko3(x:Int):mP prog 3 (.v (.int .i64 x))=true:=by kernel_rfl
@[go_sem]theorem ty_7:dJ prog 97=false/\prog.cellsOf 97=1/\zeroCells prog 97=[.list true []]/\(prog.underlying 97).isSome=true/\bS prog 97=some 9/\bS prog 100=some 53/\dJ prog 114=false/\prog.cellsOf 114=1/\(prog.underlying 114).isSome=true/\bS prog 114=some 77/\dJ prog 116=true/\prog.cellsOf 116=4/\zeroCells prog 116=[.v (.bool false),.v (.string ⟨⟨[]⟩⟩),.list true [],.list true []]/\(prog.underlying 116).isSome=true/\bq prog 116 0=some (0,4)/\bq prog 116 1=some (1,24)/\bq prog 116 2=some (3,114)/\iK prog 116=true/\dJ prog 124=false/\prog.cellsOf 124=1/\(prog.underlying 124).isSome=true/\dJ prog 126=false/\prog.cellsOf 126=1/\(prog.underlying 126).isSome=true/\qx prog 126=some (31,3):=by and_intros<;>kernel_rfl
@[go_sem]theorem Hz(x:ByteArray)(c:Int):mP prog 31 (.agg [.v (.string x),.v (.int .i64 c)])=true:=by kernel_rfl
@[go_sem]theorem hz3:Iu prog 3=true:=by kernel_rfl
@[go_sem]theorem ty_8:prog.cellsOf 128=8/\zeroCells prog 128=[.v (.string ⟨⟨[]⟩⟩),.list true [],.v (.map none),.v (.string ⟨⟨[]⟩⟩),.v (.int .i64 0),.v (.string ⟨⟨[]⟩⟩),.v (.bool false),.v (.string ⟨⟨[]⟩⟩)]/\bq prog 128 0=some (0,9)/\bq prog 128 1=some (1,22)/\bq prog 128 2=some (2,126)/\bq prog 128 3=some (3,31)/\bq prog 128 4=some (5,9)/\bq prog 128 5=some (6,4)/\bq prog 128 6=some (7,9)/\iK prog 128=true/\dJ prog 129=false/\prog.cellsOf 129=1/\eH prog 129=true/\(prog.underlying 129).isSome=true/\bS prog 130=some 129/\dJ prog 134=true/\prog.cellsOf 134=5/\zeroCells prog 134=[.v (.int .i64 0),.v (.string ⟨⟨[]⟩⟩),.v (.int .i64 0),.v (.int .i64 0),.list true []]/\(prog.underlying 134).isSome=true/\bq prog 134 0=some (0,3)/\bq prog 134 1=some (1,53)/\bS prog 139=some 3/\dJ prog 140=false/\prog.cellsOf 140=1/\zeroCells prog 140=[.v (.map none)]/\(prog.underlying 140).isSome=true/\qx prog 140=some (31,56)/\dJ prog 143=false/\prog.cellsOf 143=1/\(prog.underlying 143).isSome=true/\dJ prog 152=true/\prog.cellsOf 152=3/\zeroCells prog 152=[.v (.bool false),.v (.string ⟨⟨[]⟩⟩),.list true []]/\(prog.underlying 152).isSome=true/\bq prog 152 0=some (0,4)/\bq prog 152 1=some (1,24)/\iK prog 152=true/\dJ prog 154=true/\prog.cellsOf 154=8/\zeroCells prog 154=[.list true [],.v (.int .i64 0),.v (.bool false),.v (.string ⟨⟨[]⟩⟩),.list true [],.v (.bool false),.v (.string ⟨⟨[]⟩⟩),.list true []]:=by and_intros<;>kernel_rfl
@[go_sem]theorem ty_9:(prog.underlying 154).isSome=true/\bq prog 154 0=some (0,80)/\bq prog 154 1=some (1,3)/\bq prog 154 2=some (2,152)/\bq prog 154 3=some (5,152)/\iK prog 154=true/\dJ prog 166=true/\prog.cellsOf 166=2/\zeroCells prog 166=[.v (.string ⟨⟨[]⟩⟩),.list true []]/\(prog.underlying 166).isSome=true/\bq prog 166 0=some (0,24)/\iK prog 166=true/\dJ prog 168=true/\prog.cellsOf 168=3/\zeroCells prog 168=[.v (.string ⟨⟨[]⟩⟩),.list true [],.list true []]/\(prog.underlying 168).isSome=true/\bq prog 168 0=some (0,166)/\bq prog 168 1=some (2,97)/\iK prog 168=true/\prog.cellsOf 170=1/\qx prog 170=some (9,3):=by and_intros<;>kernel_rfl
@[go_sem]theorem ko9(x:ByteArray):mP prog 9 (.v (.string x))=true:=by kernel_rfl
@[go_sem]theorem ty_10:prog.underlying 174=some (.int .u64)/\prog.cellsOf 175=1/\qx prog 175=some (9,4)/\prog.cellsOf 204=1/\zeroCells prog 204=[.v (.int .i64 0)]/\bq prog 204 0=some (0,39)/\iK prog 204=true/\dJ prog 206=false/\prog.cellsOf 206=1/\(prog.underlying 206).isSome=true/\dJ prog 207=true/\prog.cellsOf 207=5/\zeroCells prog 207=[.v .nilFunc,.v .nilFunc,.v .nilFunc,.v .nilFunc,.v .nilFunc]/\(prog.underlying 207).isSome=true/\bS prog 207=none/\qZ prog 207=some (5,206)/\iK prog 207=true:=by and_intros<;>kernel_rfl
@[go_sem]theorem fn207{f:Nat}:bq prog 207 f=none:=by kernel_rfl
@[go_sem]theorem ty_11:dJ prog 209=false/\prog.cellsOf 209=1/\(prog.underlying 209).isSome=true/\prog.cellsOf 215=1/\prog.cellsOf 217=3/\bq prog 217 0=some (0,80)/\bq prog 217 1=some (1,3)/\bq prog 217 2=some (2,215)/\prog.cellsOf 219=3/\zeroCells prog 219=[.list true [],.v (.int .i64 0),.v (.int .i8 0)]/\bq prog 219 0=some (0,217)/\dJ prog 221=false/\prog.cellsOf 221=1/\zeroCells prog 221=[.v .nilIface]/\(prog.underlying 221).isSome=true/\dJ prog 223=false/\prog.cellsOf 223=1/\zeroCells prog 223=[.v .nilFunc]/\(prog.underlying 223).isSome=true/\prog.underlying 253=some .string/\dJ prog 256=false/\prog.cellsOf 256=1/\zeroCells prog 256=[.v (.int .u64 0)]/\prog.underlying 256=some (.int .u64)/\prog.cellsOf 257=8/\zeroCells prog 257=[.v (.int .u8 0),.v (.int .u8 0),.v (.int .u8 0),.v (.int .u8 0),.v (.int .u8 0),.v (.int .u8 0),.v (.int .u8 0),.v (.int .u8 0)]/\bS prog 257=none/\qZ prog 257=some (8,5)/\dJ prog 302=false/\prog.cellsOf 302=1/\(prog.underlying 302).isSome=true/\prog.cellsOf 310=1/\qx prog 310=some (31,4)/\dJ prog 316=true/\prog.cellsOf 316=8/\zeroCells prog 316=[.v (.int .i64 0),.v (.int .i64 0),.v (.int .i64 0),.v (.int .i64 0),.v (.int .i64 0),.v (.bool false),.v (.bool false),.v (.bool false)]/\(prog.underlying 316).isSome=true/\bq prog 316 0=some (0,3)/\bq prog 316 1=some (1,3)/\bq prog 316 2=some (2,3):=by and_intros<;>kernel_rfl
@[go_sem]theorem ty_12:bq prog 316 3=some (3,3)/\bq prog 316 4=some (4,3)/\bq prog 316 5=some (5,4)/\bq prog 316 6=some (6,4)/\bq prog 316 7=some (7,4)/\bS prog 317=none/\qZ prog 317=some (9,316)/\dJ prog 323=false/\prog.cellsOf 323=1/\eH prog 323=true/\(prog.underlying 323).isSome=true/\dJ prog 329=false/\prog.cellsOf 329=1/\zeroCells prog 329=[.v .nilFunc]/\(prog.underlying 329).isSome=true/\prog.cellsOf 337=1/\zeroCells prog 337=[.list true []]/\bq prog 337 0=some (0,80)/\iK prog 337=true/\bS prog 367=some 323/\prog.cellsOf 392=2/\zeroCells prog 392=[.list true [],.v (.bool false)]/\bq prog 392 0=some (0,80)/\bq prog 392 1=some (1,4)/\iK prog 392=true:=by and_intros<;>kernel_rfl
end Go.Proofs.YtjhhnhgflmkenaaGreatDoor
namespace Go.DL
open Go.RowKit
variable{C:aO}{P:Program}{Q:Exit->S->Prop}{args:Array Operand}{c:Code}{ds:List Deferred}{f:FuncId}{g:Mem}{h:H}{n:Nat}{ops:Array Oper}{ro:Option Nat}{s:S}{ts:Array TypeId}{w:World}{α:Type}
variable[Glob P]
variable [Dr]
def Za5{nx:Nat}{t:Nat->D}{ok:Prop}{e:Env}{id:Nat}{draw:Bool}(J:exec P (words P) C ops.toList s=⟨n,t,h,nx,ok,e⟩)(m:draw=true->P.follows .mixedOrders=true/\EA C ops.toList=true/\qX ops.toList=true)(hok:ok)(hq:Q .normal ⟨n,t,h,nx,True,e⟩):DW P ro (.region id ops draw) Q s :=
 Za4 (C:=C) J m hok hq
theorem sM{nx:Nat}{t:Nat->D}{ok:Prop}{e:Env}{id:Nat}{draw:Bool}{y:Code}(J:exec P (words P) C ops.toList s=⟨n,t,h,nx,ok,e⟩)(m:draw=true->P.follows .mixedOrders=true/\EA C ops.toList=true/\qX ops.toList=true)(hok:ok)(hq:DW P ro y Q ⟨n,t,h,nx,True,e⟩):DW P ro (.seq (.region id ops draw) y) Q s :=
 aj (Za4 (C:=C) J m hok hq)
@[go_sem]theorem ne_add{r i:Nat}(h:r<n):(r=n+i)=False:=by simp;omega
@[go_sem]theorem add_ne{r i:Nat}(h:r<n):(n+i=r)=False:=by simp;omega
@[go_sem]theorem zq{β:Type}{f:α->β}{l:List α}:(l.map f).take l.length=l.map f:=by rw[Ye];simp
@[go_sem]theorem Zp4{β:Type}{f:α->β}{l:List α}{x:β}:(l.map f++[x]).take (l.length+1)=l.map f++[x]:=by rw[Ye];simp
@[go_sem]theorem Zc6 : ∀{a b:List (List D)},dB (a++b)=dB a++dB b
 | [],_=>rfl
 | r::a,b=>by simp only[XX,dB,Zc6]
attribute [go_sem] Zft Wh aQ aX
@[go_sem]theorem Zqf{rows:List (List D)}:(∀row∈rows,∀c∈row,dU h 0 c)=(aQ rows=true):=by apply propext;refine⟨λk=>OV λr O=>Dx λc j=>k r O c j,λk=>Zfx k⟩
def nr_v{x:Value}:D.nr (.v x)=true:=rfl
def nr_list{f:Bool}{rows:List (List D)}:D.nr (.list f rows)=aQ rows:=rfl
attribute[go_sem]nr_v nr_list
def tab:List (Nat×D)->Nat->D
 | [],_=>.junk
 | (j,x)::l,i=>if i=j then x else tab l i
@[go_sem]theorem tab_hit{i:Nat}{x:D}{l:List (Nat×D)}:tab ((i,x)::l) i=x:=by simp[tab]
@[go_sem]theorem tab_miss{j i:Nat}{x:D}{l:List (Nat×D)}(h:(i=j)=False):tab ((j,x)::l) i=tab l i:=by simp only[tab];rw[XV (by rw[h];exact id)]
def Tb(t:Nat->D)(p:Nat×D):Prop:=t p.1=p.2\/wk (t p.1)=p.2
@[go_sem]theorem tb_eq{t:Nat->D}{i:Nat}{d:D}:Tb t (i,d)=(t i=d\/wk (t i)=d):=rfl
attribute [go_sem] true_or
theorem JN{t:Nat->D}:∀{l:List (Nat×D)},(∀p∈l,Tb t p) -> ∀i,tab l i=t i\/tab l i=wk (t i)\/tab l i = .junk
 | [],_,_=>.inr (.inr rfl)
 | (j,x)::l,h,i=>by
  simp only[tab];split
  .
   rename_i e;subst e;rcases h (i,x) (by simp)with h|h
   . exact .inl h.symm
   exact .inr (.inl h.symm)
  exact JN (λp F=>h p (by simp[F])) i
theorem Marks.only{B:Nat}{g:Mem}{h':H}{w:World}:∀{ds:List Deferred},Marks B g ds w->Marks B (g.only h') ds w
 | [],_=>trivial
 | _::_,⟨J,Y⟩=>⟨J,Marks.only Y⟩
theorem kJ.only{B:dn}{h':H}(h:kJ B g ds w):kJ B (g.only h') ds w:=h.map λ_ k=>k.only
def St.forget{B:dn}{a:Act}(hs:St P B s g a w){c:Nat->D}{h':H}{nx':Nat}(ht : ∀i,c i=s.t i\/c i=wk (s.t i)\/c i = .junk)(hh : ∀r,h' r=s.h r\/h' r=none) :
  St P B { n:=s.n,t:=c,h:=h',nx:=nx',e:=s.e } (g.only h') a w:=by
 refine⟨hs.sz,λi=>?_,hs.mem.only hh,hs.df.only,s.e.st P s.h g _ w w hs.mem xx.weak hs.en,hs.bd⟩;rcases ht i with e|e|e
 . show ae w (g.only h') (c i) _;rw[e];exact(hs.tm i).only
 . show ae w (g.only h') (c i) _;rw[e];exact(hs.tm i).wk.only
 show ae w (g.only h') (c i) _;rw[e];exact .junk _
def Zm9(f:Nat->D)(h':H)(nx':Nat)(ht : ∀i,f i=s.t i\/f i=wk (s.t i)\/f i = .junk)(hh : ∀r,h' r=s.h r\/h' r=none)(hn:s.nx<=nx')(h:DW P ro c Q { n:=s.n,t:=f,h:=h',nx:=nx',e:=s.e }):DW P ro c Q s:=by intro B g a w N Z;exact wpIn_mono (h B _ a w (N.forget ht hh) λr O=>YG (Z r O) hn) λe k T⟨j,L,q,r,m,u,v⟩=>⟨j,L,q,r,xx.toX.trans m,u,v⟩
def QG(l:List (Nat×D))(h':H)(nx':Nat)(ht : ∀p∈l,Tb s.t p)(hh : ∀r,h' r=s.h r\/h' r=none)(hn:s.nx<=nx')(h:DW P ro c Q { n:=s.n,t:=tab l,h:=h',nx:=nx',e:=s.e }):DW P ro c Q s :=
 Zm9 _ _ _ (JN ht) hh hn h
theorem Za6(A:α->Prop)(μ:α->Nat)(y:α->List (Nat×D))(hh:α->H)(m:α->Nat)(a0:α)(hA:A a0)(ht : ∀p∈y a0,Tb s.t p)(G : ∀r,hh a0 r=s.h r\/hh a0 r=none)(hn:s.nx<=m a0)(round : ∀a,A a->DW P ro c (thenS (λo=>∃j,A j/\μ j<μ a/\(∀p∈y j,Tb o.t p)/\(∀r,hh j r=o.h r\/hh j r=none)/\o.nx<=m j/\o.n=s.n/\o.e=s.e) Q) { n:=s.n,t:=tab (y a),h:=hh a,nx:=m a,e:=s.e }):DW P ro (.loop c) Q s:=by
 intro B g a w N Z;refine wpIn_loop_ghost (λk j T=>∃x L,A x/\μ x=k/\St P B { n:=s.n,t:=tab (y x),h:=hh x,nx:=m x,e:=s.e } L j T/\gL s.e.x g L w T /\ ∀r,L.U r->r<m x) (μ a0) ⟨a0,_,hA,rfl,N.forget (JN ht) G,xx.toX,λr O=>YG (Z r O) hn⟩ ?_;rintro k V X ⟨x,g1,E,rfl,F,u,eP⟩;refine wpIn_mono (round x E B g1 V X F eP) ?_;rintro e a2 w2 ⟨s2,M,K,f,v,R,I⟩;cases e with
 | normal =>
  let⟨z,J,Y,h3,h4,U,W,h7⟩:=K;refine⟨μ z,Y,z,M.only (hh z),J,rfl,?_,(u.trans v).trans xx.toX,λr O=>YG (R r O) U⟩;have:=f.forget (nx':=m z) (JN h3) h4;rw[W,h7]at this;exact this
 | _=>exact⟨s2,M,K,f,u.trans v,R,I⟩
def htab:List (Nat×dE)->H
 | []=>λ_=>none
 | (r,b)::l=>upd (htab l) r (some b)
def htab_nil:htab []=λ_=>none:=rfl
def Zrl{r:Nat}{b:dE}{l:List (Nat×dE)}:htab ((r,b)::l)=upd (htab l) r (some b):=rfl
attribute[go_sem]htab_nil Zrl
theorem Lm{h:H}:∀{l:List (Nat×dE)},(∀p∈l,h p.1=some p.2) -> ∀r,htab l r=h r\/htab l r=none
 | [],_,_=>.inr rfl
 | (j,x)::l,a,i=>by
  simp only[htab,upd];split
  . rename_i e;subst e;exact .inl (a (i,x) (by simp)).symm
  exact Lm (λp F=>a p (by simp[F])) i
def O7{keep:List Nat}{fx:List (Nat×D)}(a:keep.map (λi=>(i,s.t i))=fx):∀p∈fx,Tb s.t p:=by intro p F;rw[<-a]at F;obtain⟨i,_,rfl⟩:=Yp.1 F;exact .inl rfl
theorem Zm4 [Glob P]{c:Code}{s:S}{α:Type}(keep:List Nat)(A:α->Prop)(μ:α->Nat)(g:α->List (Nat×D))(j:α->List (Nat×dE))(k:α->Nat)(a0:α){fx:List (Nat×D)}(o:keep.map (λi=>(i,s.t i))=fx)(hA:A a0)(ht : ∀p∈g a0,Tb s.t p)(hh : ∀p∈j a0,s.h p.1=some p.2)(hn:s.nx<=k a0)
  (round : ∀a,A a->DW P ro c (thenS (λw=>∃f,A f/\μ f<μ a/\(∀p∈g f,Tb w.t p)/\(∀p∈fx,Tb w.t p)/\(∀p∈j f,w.h p.1=some p.2)/\w.nx<=k f/\w.n=s.n/\w.e=s.e) Q) { n:=s.n,t:=tab (g a++fx),h:=htab (j a),nx:=k a,e:=s.e }):DW P ro (.loop c) Q s :=
 Za6 A μ (λa=>g a++fx) (λa=>htab (j a)) k a0 hA (λp F=>(Yu.1 F).elim (ht p) (O7 o p)) (Lm hh) hn λa m=>(round a m).mono λe w K=>by
  cases e with
  | normal =>
   let⟨f,J,Y,r,u,U,W,v,T⟩:=K;exact⟨f,J,Y,λp F=>(Yu.1 F).elim (r p) (u p),Lm U,W,v,T⟩
  | _=>exact K
def Eu(keep:List Nat)(a:List (Nat×dE)){fx:List (Nat×D)}(f:keep.map (λi=>(i,s.t i))=fx)(hh : ∀p∈a,s.h p.1=some p.2)(h:DW P ro c Q { n:=s.n,t:=tab fx,h:=htab a,nx:=s.nx,e:=s.e }):DW P ro c Q s :=
 QG fx (htab a) s.nx (O7 f) (Lm hh) (XW _) h
theorem Zm5(i:Nat){f:Bool}{rows:List (List D)}(J:s.t i = .list f rows)(h:rows.length<=maxLen->DW P ro c Q s):DW P ro c Q s:=by
 intro B g a w N Z;refine h ?_ B g a w N Z;have O:=N.tm i;rw[J]at O;generalize a.tmps.getD i undef=v at O;cases O with
 | empty=>simp[maxLen]
 | list _ _ m I k n o p r t N j O=>omega
theorem wu(i:Nat)(ty:TypeId)(hi:s.t i = .list true [])(o:0<P.cellsOf ty)(h:DW P ro c Q { n:=s.n,t:=upd s.t i (.mrow s.nx 0 0),h:=upd s.h s.nx (some ⟨ty,[]⟩),nx:=s.nx+1,e:=s.e }):DW P ro c Q s:=by
 intro B g a w N Z;have p : ¬g.U s.nx:=λh=>Nat.lt_irrefl _ (Z _ h);let⟨L,K,W,k,M,f⟩:=N.mem.putNone (h':=upd s.h s.nx (some ⟨ty,[]⟩)) s.nx ⟨ty,[]⟩ p (bI _ _ _) (λr O=>.inl (aI _ _ _ _ O)) o rfl;have y:St P B { n:=s.n,t:=upd s.t i (.mrow s.nx 0 0),h:=upd s.h s.nx (some ⟨ty,[]⟩),nx:=s.nx+1,e:=s.e } L a w:=by
  refine⟨N.sz,λj=>?_,M,N.df.later N.mem f,Env.later N.mem f N.en,N.bd⟩;by_cases e:j=i
  .
   subst e;simp only[bI];have O:=N.tm j;rw[hi]at O;generalize a.tmps.getD j undef=v at O;have z : ∃x,v = .slice x 0 0:=by
    cases O with
    | empty _ x I A V=>exact⟨x,by rw[A rfl]⟩
    | list _ _ R I F X Y hl A=>exact⟨some R,by rw[A rfl];rfl⟩
   obtain⟨x,rfl⟩:=z;refine .mrow _ _ _ _ ⟨x,0,rfl,XW _,λh=>absurd h om⟩ ((W _).2 (.inr rfl)) λG c sz J=>?_;rw[K]at J;cases J;exact⟨⟨XW _,Yh _⟩,.inl ⟨rfl,x,rfl⟩⟩
  simp only[aI _ _ _ _ e];exact(N.tm j).later N.mem f
 exact wpIn_mono (h B L a w y (λr O=>by
  rcases(W r).1 O with h|h
  . exact Nat.lt_succ_of_lt (Z r h)
  subst h;exact Nat.lt_succ_self _)) λe a' T⟨U,E,q,r,m,u,v⟩=>⟨U,E,q,r,f.toX.trans m,u,v⟩
theorem ZmV{v:Value}(hr:ae w g (.list true []) v):∃x,v = .slice x 0 0:=by
 cases hr with
 | empty _ x I a f=>exact⟨x,by rw[a rfl]⟩
 | list _ _ c I h j k m a=>exact⟨some c,by rw[a rfl];rfl⟩
def bG(P:Program)[Glob P](f:FuncId)(args:List D)(h:H)(n:Nat)(R:D->H->Nat->Prop):Prop :=
 fE P f=true /\ ∀(w:World)(g:Mem)(j:List Value),HM P h g w->(∀r,g.U r->r<n)->aF w g args j ->
  CallsIn Fence.wide 0 P f j.toArray w λe T=>∃v L a I c,R a I c/\e = .returned v/\ae T L a v/\HM P I L T/\ay g L w T /\ ∀r,L.U r->r<c
def bG.mono{args:List D}{R m:D->H->Nat->Prop}(k:bG P f args h n R)(i : ∀d h' a,R d h' a->m d h' a):bG P f args h n m :=
 ⟨k.1,λw g j J Y A=>(k.2 w g j J Y A).mono λ_ _⟨v,L,c,h',a,q,r⟩=>⟨v,L,c,h',a,i _ _ _ q,r⟩⟩
theorem Dz(v:HM P h g w)(Z : ∀r,g.U r->r<n):∀r,n<=r->h r=none:=by
 intro r O;cases K:h r with
 | none=>rfl
 | some R =>
  let⟨G,a,J,_⟩:=v.blk r R K;have:=Z r (v.used r (by rw[J];simp));omega
def ZhO{fn:Func}{args:List D}{R:D->H->Nat->Prop}(a:P.funcs[f]? = some fn)(p:fn.body=some c)(B:fE P f=true)(hn:args.length<=fn.ntmps)(M:(∀r,n<=r->h r=none)->DW P none c (λe s=>(e = .normal\/e = .ret)/\rP P s fn.results.toList /\ ∃h' m,(∀r,h' r=s.h r\/h' r=none)/\s.nx<=m/\R (tK P fn.results.toList s) h' m) { n:=fn.ntmps,t:=λi=>args.getD i .junk,h:=h,nx:=n }):bG P f args h n R:=by
 refine⟨B,λw g j I Z O=>?_⟩;have U:=BK (P:=P) (n:=fn.ntmps) O hn I (nx:=n);refine callsIn_of_wp_marks (n:=0) a p trivial (wpIn_mono (F:=Fence.wide) (M (Dz I Z) (dn.of w.heap.size) g _ w U Z) ?_);rintro e E T ⟨s',L,⟨J,V,h',m,W,G,hR⟩,u,x,iP,_⟩;have x:=x.out;have o:LeavesInM Fence.wide 0 P fn E.tmps (λe T=>∃v L z h' m,R z h' m/\e = .returned v/\ae T L z v/\HM P h' L T/\ay g L w T /\ ∀r,L.U r->r<m) E.defers .returning T:=by
  refine K6 (P:=P) E.defers T u.df.marks λw2 e0 y e2 e3 K e5 e6 e7=>?_;have A:=u.marks K e6 e7;let⟨v,h1,Y⟩:=Fg (fn:=fn) A V;have xz:ay g L w w2:=by refine⟨by rw[y,x.os],by rw[e2,x.tape],by rw[e3,x.output],by rw[K];exact x.size,by rw[e0];exact x.drawn,x.U,x.M,x.new,x.I,x.inew,λk X N=>?_⟩;rw[e5 k X];exact x.same k X N
  exact⟨v,h1,v,L.only h',_,h',m,hR,rfl,Y.only,A.mem.only W,xz.trans xx,λr O=>YG (iP r O) G⟩
 rcases J with rfl|rfl<;>exact o
def PureCt.rct{args:List D}{res:D}(k:PureCt P f args res)(h:H)(n:Nat):bG P f args h n (λd h' B=>d=res/\h'=h/\B=n):=by
 let⟨x,y,E⟩:=k;refine⟨x,λw g vs o Z O=>?_⟩;refine(E w g.I _ o.imm o.gr (O.clean y λ_ h=>h)).mono ?_;rintro e T ⟨v,rfl,a,F⟩;let z:Mem:={ g with I:=λb=>g.I b\/(w.heap.size<=b/\b<T.heap.size) };have mono:ay g z w T:=⟨a.os,a.tape,a.output,a.size,a.drawn,λ_ h=>h,λ_ _=>.inl rfl,λr b c s h=>.inl ⟨r,c,s,h⟩,λ_ h=>.inl h,λb h=>by rcases h with h|h;exact .inl h;exact .inr (.inl h.1),λb p _=>a.block b p⟩;refine⟨v,z,res,h,n,⟨rfl,rfl,rfl⟩,rfl,by refine ae.mono ?_ ?_ ?_ F;exact λb p=>⟨p,rfl⟩;exact λ_ h=>False.elim h;exact λ_ h=>False.elim h,⟨o.dead,λr R O=>?_,o.inj,o.used,λb p=>?_,o.gr.later (o.kept mono)⟩,mono,Z⟩
 .
  let⟨G,c,J,Y,A,M,U⟩:=o.blk r R O;refine⟨G,c,J,Y,A,M,?_⟩;rcases U with U|⟨b,L,rfl,W,N,X,V⟩
  . exact .inl U
  have K:=(pY o J).1;refine .inr ⟨b,L,rfl,by rw[a.block b K];exact W,N,λt=>?_,λi row hi=>⟨(V i row hi).1,λj d m=>?_⟩⟩
  .
   rcases t with t|t
   . exact X t
   omega
  let⟨u,k3,k4,k5⟩:=(V i row hi).2 j d m;exact⟨u,k3,k4,k5.later o mono⟩
 rcases p with p|p
 . exact YG (o.imm b p) a.size
 exact p.2
def dP{a:Array α}{k:Nat}{o:α}(h:a.toList[k]? = some o):a[k]? = some o:=by rwa [Zf]at h
theorem wm{B:dn}{b:Nat}{Q:Exit->Act->World->Prop}{w0:World}{g0:Mem}{rest:List Nat}:∀(k i:Nat)(s:S)(g:Mem)(a:Act)(w:World),St P B s g a w->ay g0 g w0 w->(∀r,g.U r->r<b+i) ->
  i+k<=ops.size->(bu P (words P) C ops.toList b i ((ops.toList.drop i).take k) s).ok ->
  (∀g' t T,St P B (bu P (words P) C ops.toList b i ((ops.toList.drop i).take k) s) g' t T->ay g0 g' w0 T->(∀r,g'.U r->r<b+(i+k))->wpOpsIn (Fw ro) n P ops Q rest t T) ->
  wpOpsIn (Fw ro) n P ops Q (List.range' i k++rest) a w:=by
 intro k;induction k with
 | zero =>
  intro i s g a w f v Z X G c;exact c g a w f v Z
 | succ k u =>
  intro i s g a w f v Z X G c;have K:i<ops.size:=by omega
  have m:(ops.toList.drop i).take (k+1)=ops[i]::(ops.toList.drop (i+1)).take k:=by rw[YE (by simpa using K)];simp
  rw[m]at G c;simp only[bu]at G c;rw[Zd,XX,wpOpsIn_cons];refine I1 f (b:=b) (N:=b+i) (λh=>by have:=Z _ h;omega) Z (by simp[K]) (Mg G) λg' t T J Y A=>?_;refine u (i+1) _ g' t T J (v.trans Y) (λr O=>by
                                 rcases A r O with h|h;· have:=Z r h;omega
                                 omega) om G λj o p x W y=>c j o p x W λr O=>by have:=y r O;omega
theorem aF.wk{ds:List D}{vs:List Value}(h:aF w g ds vs):aF w g (ds.map wk) vs :=
 ⟨by simpa using h.1,λi d x J Y=>by obtain⟨y,A,rfl⟩:=ji J;exact(h.2 i y x A Y).wk⟩
theorem Znd{s1:S}{id:Nat}(k:Nat){o:Oper}{f:Operand}{aY:FuncId}{first aD xs:List D}(R:D->H->Nat->Prop)(ho:ops[k]? = some o)(p:o.op = .call { callee:=.value f,args:=args,argTypes:=ts })(hg:o.guard=none)(J:bu P (words P) C ops.toList s.nx 0 (ops.toList.take k) { n:=s.n,t:=s.t,h:=s.h,nx:=s.nx+k,ok:=s.ok,e:=s.e }=s1)(hok:s1.ok)(m:dN s1.n o.dst=true)(hf:s1.ev f = .fn (.func aY) first aD)(ab:(args.toList.map s1.ev).all sg=true)(E:((args.toList.map s1.ev).map sd).map wk=xs)(hct:bG P aY (first++xs++aD) s1.h (s.nx+k) R)(hk : ∀res h' n',R res h' n' -> ∃z,bu P (words P) C ops.toList n' (k+1) (ops.toList.drop (k+1)) { n:=s1.n,t:=s1.put o.dst res,h:=h',nx:=n'+ops.size,ok:=True,e:=s1.e }=z/\z.ok/\Q .normal z.clear) :
  DW P ro (.region id ops false) Q s:=by
 intro B g a w G Z;have K:k<ops.size:=(Yo.1 ho).1;refine wpIn_region ?_;have O:List.range ops.size=List.range' 0 k++(k::List.range' (k+1) (ops.size-(k+1))):=by
  rw[Zg];have:ops.size=k+((ops.size-(k+1))+1):=by omega
  conv=>lhs;rw[this]
  rw[<-Zo,Zd];simp
 rw[O];have ac:St P B { n:=s.n,t:=s.t,h:=s.h,nx:=s.nx+k,ok:=s.ok,e:=s.e } g a w:=⟨G.sz,G.tm,G.mem,G.df,G.en,G.bd⟩;have e0:(ops.toList.drop 0).take k=ops.toList.take k:=rfl;refine wm (C:=C) (b:=s.nx) k 0 _ g a w ac (ay.refl _ _) (λr O=>by have:=Z r O;omega) (by omega) (by rw[e0,J];exact hok) λg1 N w1 F am eP=>?_;rw[e0,J]at F;rw[wpOpsIn_cons];unfold wpOpIn;rw[ho];simp only;have hw:Region.wanted o (yielded ops N.tmps)=true:=by simp[Region.wanted,hg]
 rw[X0 hw];have I : ∀c,o.op ≠ .defer c:=by intro c e;rw[e]at p;cases p
 have kz:o.semAt (Fw ro).round N.eval=execOp N.eval o:=Oper.semAt_eq _ _ _ I;refine⟨λ_ _=>trivial,?_⟩;rw[kz];let⟨aq,hct⟩:=hct;have y:=bT F f;rw[hf]at y;have fK:=aF.wk (ym (xP F args.toList) ab);rw[E]at fK;generalize hv:N.eval f=vf at y;cases y with|fn _ _ _ fs M l1 l2 r1 r2 =>
 have U:(execOp N.eval o).run P w1 = .ok (.enter aY (fs++args.map N.eval++M)) w1:=by simp[execOp,p,resolve,Deferred.ofValue,hv,invoke,xX aq]
 rw[U,Oper.uponIn_enter];have e:fs++args.map N.eval++M=(fs.toList++args.toList.map N.eval++M.toList).toArray:=by apply Zr;simp
 rw[e];refine⟨λh=>by simp[Fw,Fence.wide]at h,AA ((hct w1 g1 _ F.mem (λr O=>by have:=eP r O;omega) (aF.append (aF.append ⟨by simpa using l1,λi d x h1 Y=>r1 i d x h1 (by simpa using Y)⟩ fK) ⟨by simpa using l2,λi d x h1 Y=>r2 i d x h1 (by simpa using Y)⟩)).mono ?_)⟩;rintro e T ⟨v,L,res,h',n',hR,rfl,q1,q2,q3,q4⟩;let⟨z,X,ar,hQ⟩:=hk res h' n' hR;have j:=nL F q3 q2 m q1 True;have aw:St P B { n:=s1.n,t:=s1.put o.dst res,h:=h',nx:=n'+ops.size,ok:=True,e:=s1.e } L (N.put o.dst v) T:=⟨j.sz,j.tm,j.mem,j.df,j.en,j.bd⟩;have b7 : ∀(l:List Oper)(i:Nat)(u:S),(bu P (words P) C ops.toList n' i l u).nx=u.nx:=by
  intro l;induction l with
  | nil=>intro i u;rfl
  | cons x l ih=>intro i u;simp only[bu];rw[ih,Et.2]
 have V : ∀(l:List Oper)(i b:Nat)(u:S),(bu P (words P) C ops.toList b i l u).e=u.e:=by
  intro l;induction l with
  | nil=>intro i b u;rfl
  | cons x l ih =>
   intro i b u;simp only[bu];rw[ih];unfold dM;split<;>rfl
 have e3:(ops.toList.drop (k+1)).take (ops.size-(k+1))=ops.toList.drop (k+1):=Ye (by simp);have:=wm (ro:=ro) (P:=P) (C:=C) (B:=B) (ops:=ops) (b:=n') (n:=0) (rest:=[]) (g0:=g) (w0:=w) (Q:=λe a' T=>∃s' L,Q e s'/\St P B s' L a' T/\gL s.e.x g L w T/\(∀r,L.U r->r<s'.nx)/\s'.e.x=s.e.x) (ops.size-(k+1)) (k+1) _ L _ T aw (am.trans q3) (λr O=>by have:=q4 r O;omega) om
  (by rw[e3,X];exact ar) λb8 b9 bb p1 p2 p3=>by
   rw[e3,X]at p1;refine⟨_,b8,hQ,p1.clear,p2.toX,λr O=>?_,?_⟩
   . have A:=p3 r O;have h4:=b7 (ops.toList.drop (k+1)) (k+1) { n:=s1.n,t:=s1.put o.dst res,h:=h',nx:=n'+ops.size,ok:=True,e:=s1.e };rw[X]at h4;show r<z.nx;rw[h4];show r<n'+ops.size;omega
   have h5:=V (ops.toList.drop (k+1)) (k+1) n' { n:=s1.n,t:=s1.put o.dst res,h:=h',nx:=n'+ops.size,ok:=True,e:=s1.e };rw[X]at h5;have W:=V (ops.toList.take k) 0 s.nx { n:=s.n,t:=s.t,h:=s.h,nx:=s.nx+k,ok:=s.ok,e:=s.e };rw[J]at W;show z.e.x=s.e.x;rw[h5];show s1.e.x=s.e.x;rw[W]
 rw[YH]at this;exact this
variable{l:Nat}
def recAt(r:Loop)(j:Option Code):Loop:={ r with state:=if j.isNone then .ready else .done,pending:=j }
def Env.loop(l:Nat)(r:Loop)(t:Nat->D):Env where
 p g w:=w.heap[l]? = some (.loop r) /\ ¬g.I l /\ ∀i,ae w g (t i) (r.tmps.getD i undef)
 x:=some l
 st P _ h g g' w w' hm k:=letI:Dr:=drF;λ⟨J,Y,A⟩=>⟨Hl hm k J (λc e f=>by simp),λa=>by
   rcases k.inew l a with e|e|⟨r,c,s,e⟩
   . exact Y e
   . have:=(Yo.1 J).1;omega
   . exact zO hm J (λc e f=>by simp) (λc e=>by simp) r c s e,λi=>(A i).later hm k⟩
theorem HM.keptX{g':Mem}{w':World}(v:HM P h g w)(k:gL (some l) g g' w w')(a : ¬g.I l):∀b,g.I b->g'.I b/\w'.heap[b]? = w.heap[b]? := by
 refine λb p=>⟨k.I b p,k.same b (v.imm b p) (λr c s e=>?_) (λe=>a (by cases e;exact p))⟩;cases O:h r with
 | none=>rw[v.dead r O]at e;cases e
 | some R =>
  let⟨G,j,y,_,_,_,U⟩:=v.blk r R O;rw[e]at y;simp only[Yj,YL]at y;rcases U with⟨W,_⟩|⟨m,L,W,_,_,f,_⟩
  . rw[<-y.1]at W;cases W
  rw[<-y.1]at W;cases W;exact f p
def OW{g':Mem}{w':World}(v:HM P h g w)(k:gL (some l) g g' w w'){D:Nat}{o:Obj}(a:w.heap[D]? = some o)(t : ∀c e f,o ≠ .cells c e f)(m:l≠D)(j : ∀c e,o ≠ .map c e:=by intro c e;simp):w'.heap[D]? = some o:=by rw[k.same D (Yo.1 a).1 (zO v a t j) (λe=>m (by cases e;rfl))];exact a
theorem Marks.laterX [Glob P]{h:H}{g g':Mem}{w w':World}{l:Nat}(v:HM P h g w)(k:gL (some l) g g' w w'){r:Loop}(a:w.heap[l]? = some (.loop r)){B:Nat}:∀{ds:List Deferred},Marks B g ds w->Marks B g' ds w'
 | [],_=>trivial
 | d::ds,⟨⟨D,J,h2,A,Y,h5⟩,W⟩=>⟨⟨D,J,OW v k h2 (λc e f=>by simp) (λe=>by subst e;rw[a]at h2;cases h2),A,Y,λj=>by
   rcases k.inew D j with e|e|⟨r,c,s,e⟩
   . exact h5 e
   . have:=(Yo.1 h2).1;omega
   exact zO v h2 (λc e f=>by simp) (λc e=>by simp) r c s e⟩,W.laterX v k a⟩
def kJ.laterX{g':Mem}{w':World}(v:HM P h g w)(k:gL (some l) g g' w w'){r:Loop}(a:w.heap[l]? = some (.loop r)){B:dn}(m:kJ B g ds w):kJ B g' ds w':=m.map λ_ h=>h.laterX v k a
def O4(o:Obj):gL (some l) g g w (w.putObj l o) :=
 ⟨rfl,rfl,rfl,by simp,λ_=>XW _,λ_ h=>h,λ_ _=>.inl rfl,λr _ c s h=>.inl ⟨r,c,s,h⟩,λ_ h=>h,λ_ h=>.inl h,λ_ _ _ E=>World.putObj_heap_other (λe=>E (by rw[e]))⟩
def HM.putLoop{r:Loop}(v:HM P h g w)(a:w.heap[l]? = some (.loop r))(c : ¬g.I l)(o:Obj):HM P h g (w.putObj l o) :=
 v.marks (by simp) (λk X=>World.putObj_heap_other (λe=>c (e▸X))) λk o X t=>World.putObj_heap_other (λf=>by subst f;rw[a]at X;cases X;exact t)
def yu(t:Nat->D)(ps:List Nat)(ds:List D):Nat->D:=(ps.zip ds).foldl (λt p=>upd t p.1 p.2) t
theorem Ka{t:Nat->D}{ds:List D}:yu t [] ds=t:=rfl
theorem Kb{t:Nat->D}{p:Nat}{ps:List Nat}{d:D}{ds:List D}:yu t (p::ps) (d::ds)=yu (upd t p d) ps ds:=rfl
attribute[go_sem]Ka Kb
theorem Uo{w:World}{g:Mem}:∀(ps:List Nat)(ds:List D)(vs:List Value)(t:Nat->D)(tmps:Array Value),aF w g ds vs->(∀p∈ps,p<tmps.size)->(∀i,ae w g (t i) (tmps.getD i undef)) ->
  ((ps.zip vs).foldl (λtmps(p:Nat×Value)=>tmps.setIfInBounds p.1 p.2) tmps).size=tmps.size /\ ∀i,ae w g (yu t ps ds i) (((ps.zip vs).foldl (λtmps(p:Nat×Value)=>tmps.setIfInBounds p.1 p.2) tmps).getD i undef)
 | [],_,_,_,_,_,_,h=>⟨rfl,h⟩
 | p::ps,ds,vs,t,tmps,O,hp,h=>by
  cases ds with
  | nil=>rw[O.of_nil];exact⟨rfl,h⟩
  | cons d ds =>
   obtain⟨x,xs,rfl,J,h2⟩:=O.of_cons;have:=Uo ps ds xs (upd t p d) (tmps.setIfInBounds p x) h2 (λq a=>by simpa using hp q (by simp[a])) (λi=>by
    by_cases e:i=p
    . subst e;have K:=hp i (by simp);rw[bI];simpa[K]using J
    rw[aI _ _ _ _ e];have:(tmps.setIfInBounds p x).getD i undef=tmps.getD i undef:=by simp[Ne.symm e]
    rw[this];exact h i)
   refine⟨by simpa using this.1,this.2⟩
theorem Mi{s1:S}{id:Nat}(k:Nat){o:Oper}{f:Operand}{r:Loop}{t:Nat->D}{xs:List D}(ho:ops[k]? = some o)(aq:o.op = .call { callee:=.value f,args:=args,argTypes:=ts })(M:o.guard=none)(be:s.e=Env.loop l (recAt r none) t)(J:bu P (words P) C ops.toList s.nx 0 (ops.toList.take k) { n:=s.n,t:=s.t,h:=s.h,nx:=s.nx+k,ok:=s.ok,e:=s.e }=s1)(hok:s1.ok)(m:dN s1.n o.dst=true)(hf:s1.ev f = .fn (.yield l) [] [])(cq:(args.toList.map s1.ev).all sg=true)(E:(args.toList.map s1.ev).map sd=xs)(cr:xs.length=r.params.size)(cw : ∀p∈r.params.toList,p<r.tmps.size)(ar:DW P (some l) r.assign (thenS (λs2=>s2.e=Env.tt/\DW P (some l) r.body (λe G=>G.e=Env.tt /\ ∃b j,(match e with | .normal=>b=true/\j=none | .ret=>b=false/\j=some .ret | .exit i=>b=false/\j=some (.exit i)|_=>False) /\
    ∃s2,bu P (words P) C ops.toList G.nx (k+1) (ops.toList.drop (k+1)) { n:=s1.n,t:=s1.put o.dst (.v (.bool b)),h:=G.h,nx:=G.nx+ops.size,ok:=True,e:=Env.loop l (recAt r j) t }=s2/\s2.ok/\Q .normal s2.clear) s2) (λ_ _=>False))
   { n:=r.tmps.size,t:=yu t r.params.toList xs,h:=s1.h,nx:=s.nx+k }) :
  DW P none (.region id ops false) Q s:=by
 intro B g a w hs Z;have cQ:k<ops.size:=(Yo.1 ho).1;have bh : ∀(l:List Oper)(i b:Nat)(u:S),(bu P (words P) C ops.toList b i l u).e=u.e:=by
  intro l;induction l with
  | nil=>intro i b u;rfl
  | cons x l ih =>
   intro i b u;simp only[bu];rw[ih];unfold dM;split<;>rfl
 have bm : ∀(l:List Oper)(i b:Nat)(u:S),(bu P (words P) C ops.toList b i l u).nx=u.nx:=by
  intro l;induction l with
  | nil=>intro i b u;rfl
  | cons x l ih=>intro i b u;simp only[bu];rw[ih,Et.2]
 refine wpIn_region ?_;have O:List.range ops.size=List.range' 0 k++(k::List.range' (k+1) (ops.size-(k+1))):=by
  rw[Zg];have:ops.size=k+((ops.size-(k+1))+1):=by omega
  conv=>lhs;rw[this]
  rw[<-Zo,Zd];simp
 rw[O];have cA:St P B { n:=s.n,t:=s.t,h:=s.h,nx:=s.nx+k,ok:=s.ok,e:=s.e } g a w:=⟨hs.sz,hs.tm,hs.mem,hs.df,hs.en,hs.bd⟩;have e0:(ops.toList.drop 0).take k=ops.toList.take k:=rfl;refine wm (C:=C) (b:=s.nx) k 0 _ g a w cA (ay.refl _ _) (λr O=>by have:=Z r O;omega) (by omega) (by rw[e0,J];exact hok) λg1 N w1 F cC eP=>?_;rw[e0,J]at F;have bp:s1.e=Env.loop l (recAt r none) t:=by have W:=bh (ops.toList.take k) 0 s.nx { n:=s.n,t:=s.t,h:=s.h,nx:=s.nx+k,ok:=s.ok,e:=s.e };rw[J]at W;rw[W];exact be
 obtain⟨R,br,bw⟩:(Env.loop l (recAt r none) t).p g1 w1:=by rw[<-bp];exact F.en
 rw[wpOpsIn_cons];unfold wpOpIn;rw[ho];simp only;have hw:Region.wanted o (yielded ops N.tmps)=true:=by simp[Region.wanted,M]
 rw[X0 hw];have bx : ∀c,o.op ≠ .defer c:=by intro c e;rw[e]at aq;cases aq
 have kz:o.semAt (Fw none).round N.eval=execOp N.eval o:=Oper.semAt_eq _ _ _ bx;refine⟨λ_ _=>trivial,?_⟩;rw[kz];have aw:=bT F f;rw[hf]at aw;have fK:=ym (xP F args.toList) cq;rw[E]at fK;generalize hv:N.eval f=vf at aw;cases aw with|fn _ _ _ fs cs l1 l2 r1 r2 =>
 have cD:fs = #[]:=by apply ZB;simpa using l1.symm
 have cE:cs = #[]:=by apply ZB;simpa using l2.symm
 subst cD;subst cE;have cF:(args.map N.eval).size=(recAt r none).params.size:=by have h1:=fK.1;show(args.map N.eval).size=r.params.size;rw[<-cr,h1];simp
 have U:(execOp N.eval o).run P w1 = .ok (.round l r.fn ((r.params.zip (args.map N.eval)).foldl (λz(t,a)=>z.setIfInBounds t a) r.tmps) r.assign r.body) w1:=by
  have:=run_yield (P:=P) (w:=w1) (l:=l) (r:=recAt r none) (args:=args.map N.eval) R cF;have y:(execOp N.eval o).run P w1=(Instr.yield l (args.map N.eval)).run P w1:=by simp[execOp,aq,resolve,Deferred.ofValue,hv,invoke]
  rw[y];exact this
 rw[U,Oper.uponIn_round];refine⟨λh=>by simp[Fw,Fence.wide]at h,?_⟩;let⟨ca,cb⟩:=Uo r.params.toList xs _ t r.tmps fK cw bw;have cg:(r.params.zip (args.map N.eval)).foldl (λz(t,a)=>z.setIfInBounds t a) r.tmps=(r.params.toList.zip (args.toList.map N.eval)).foldl (λz(p:Nat×Value)=>z.setIfInBounds p.1 p.2) r.tmps:=by rw[<-Array.foldl_toList];simp
 rw[cg];generalize (r.params.toList.zip (args.toList.map N.eval)).foldl (λz(p:Nat×Value)=>z.setIfInBounds p.1 p.2) r.tmps=tm at ca cb;have cG:St P (dn.of 0) { n:=r.tmps.size,t:=yu t r.params.toList xs,h:=s1.h,nx:=s.nx+k } g1 { tmps:=tm,defers:=[] } w1:=⟨ca,cb,F.mem,kJ.start,trivial,Yh _⟩;refine roundIn_of_wpIn trivial (wpIn_mono (ar (dn.of 0) g1 _ w1 cG (λr O=>by have:=eP r O;show r<s.nx+k;omega)) ?_);rintro e a2 w2 ⟨s2,g2,K,V,cH,BU,cR⟩;cases e with
 | normal =>
  have PK:ay g1 g2 w1 w2:=cH.out;have ac:=Hl F.mem PK R (λc e f=>by simp);have b7 : ¬g2.I l:=λhI=>by
   rcases PK.inew l hI with e|e|⟨r,c,s,e⟩
   . exact br e
   . have:=(Yo.1 R).1;omega
   exact zO F.mem R (λc e f=>by simp) (λc e=>by simp) r c s e
  refine⟨_,run_beginRound ac rfl,?_⟩;have ch:l<w2.heap.size:=(Yo.1 ac).1;let⟨ci,cI⟩:=K;have b8:St P (dn.of 0) s2 g2 a2 (w2.putObj l (.loop { recAt r none with state:=.busy })):=by refine⟨V.sz,λi=>(V.tm i).mono (λb hb=>⟨hb,World.putObj_heap_other (λe=>b7 (by rw[<-e];exact hb))⟩) (λ_ h=>h) (λ_ _=>.inl rfl),V.mem.putLoop ac b7 _,V.df.laterX V.mem (O4 _) ac,?_,Yh _⟩;rw[ci];trivial
  refine wpIn_mono (cI (dn.of 0) g2 a2 _ b8 BU) ?_;rintro e a3 w3 ⟨s3,g3,⟨_,b,j,I,s4,e4,cJ,hQ⟩,cL,cj,cM,_⟩;rw[ci]at cj;have PI:=cj.out;have am:(w2.putObj l (.loop { recAt r none with state:=.busy })).heap[l]? = some (.loop { recAt r none with state:=.busy }):=World.putObj_heap_same ch;have b9:=Hl b8.mem PI am (λc e f=>by simp);have cl : ¬g3.I l:=λhI=>by
   rcases PI.inew l hI with e|e|⟨r,c,s,e⟩
   . exact b7 e
   . simp at e;omega
   exact zO b8.mem am (λc e f=>by simp) (λc e=>by simp) r c s e
  have cm:l<w3.heap.size:=(Yo.1 b9).1;have fin:b=j.isNone -> ∃v T,(Instr.endRound l j).run P w3 = .ok v T/\(λe X=>match e with
    | Ending.returned v=>wpOpsIn (Fw none) 0 P ops (λe a' T=>∃G L,Q e G/\St P B G L a' T/\gL s.e.x g L w T/\(∀r,L.U r->r<G.nx)/\G.e.x=s.e.x) (List.range' (k+1) (ops.size-(k+1))) (N.put o.dst v) X
    | Ending.panicked bb=>∃G L,Q (.panic bb) G/\St P B G L N X/\gL s.e.x g L w X/\(∀r,L.U r->r<G.nx)/\G.e.x=s.e.x
    | Ending.outgrown=>LetsOut (λe a' T=>∃G L,Q e G/\St P B G L a' T/\gL s.e.x g L w T/\(∀r,L.U r->r<G.nx)/\G.e.x=s.e.x)) (.returned v) T:=by
   rintro rfl;refine⟨_,_,run_endRound j b9,?_⟩;have mX:gL (some l) g1 g3 w1 (w3.putObj l (.loop (recAt r j))):=PK.toX.trans ((O4 _).trans (PI.toX.trans (O4 _)));have kept:=F.mem.keptX mX br;have ab:St P B { n:=s1.n,t:=s1.t,h:=s3.h,nx:=s3.nx+ops.size,ok:=True,e:=Env.loop l (recAt r j) t } g3 N (w3.putObj l (.loop (recAt r j))) :=
    ⟨F.sz,λi=>(F.tm i).mono kept mX.U mX.M,cL.mem.putLoop b9 cl _,F.df.laterX F.mem mX R,⟨World.putObj_heap_same cm,cl,λi=>(bw i).mono kept mX.U mX.M⟩,Yd F.bd mX.size⟩
   have co:=nL ab (ay.refl _ _) ab.mem m (.v (.bool j.isNone)) True;have e3:(ops.toList.drop (k+1)).take (ops.size-(k+1))=ops.toList.drop (k+1):=Ye (by simp);have:=wm (ro:=none) (P:=P) (C:=C) (B:=B) (ops:=ops) (b:=s3.nx) (n:=0) (rest:=[]) (g0:=g3) (w0:=w3.putObj l (.loop (recAt r j))) (Q:=λe a' T=>∃G L,Q e G/\St P B G L a' T/\gL s.e.x g L w T/\(∀r,L.U r->r<G.nx)/\G.e.x=s.e.x) (ops.size-(k+1)) (k+1) _ g3 _ _ co (ay.refl _ _) (λr O=>by have:=cM r O;omega) om
    (by rw[e3];exact e4▸cJ) λcp cN X p1 p2 p3=>by
     rw[e3]at p1;have p1:St P B s4 cp cN X:=e4▸p1;have E:s.e.x=some l:=by rw[be];rfl
     refine⟨_,cp,hQ,p1.clear,?_,λr' cP=>?_,?_⟩
     . rw[E];exact cC.toX.trans (mX.trans p2.toX)
     . have A:=p3 r' cP;have Y:=bm (ops.toList.drop (k+1)) (k+1) s3.nx { n:=s1.n,t:=s1.put o.dst (.v (.bool j.isNone)),h:=s3.h,nx:=s3.nx+ops.size,ok:=True,e:=Env.loop l (recAt r j) t };rw[e4]at Y;show r'<s4.nx;rw[Y];show r'<s3.nx+ops.size;omega
     have h5:=bh (ops.toList.drop (k+1)) (k+1) s3.nx { n:=s1.n,t:=s1.put o.dst (.v (.bool j.isNone)),h:=s3.h,nx:=s3.nx+ops.size,ok:=True,e:=Env.loop l (recAt r j) t };rw[e4]at h5;show s4.e.x=s.e.x;rw[h5,E];rfl
   rw[YH]at this;exact this
  cases e with
  | normal=>obtain⟨rfl,rfl⟩:=I;exact fin rfl
  | ret=>obtain⟨rfl,rfl⟩:=I;exact fin rfl
  | exit i=>obtain⟨rfl,rfl⟩:=I;exact fin rfl
  | _=>exact I.elim
 | _=>exact K.elim
def HM.lay(v:HM P h g w)(o:Obj):HM P h g (w.alloc o)/\ay g g w (w.alloc o):=by
 have mono:ay g g w (w.alloc o) :=
  ⟨rfl,rfl,rfl,by simp,λ_=>XW _,λ_ h=>h,λ_ _=>.inl rfl,λr b c s h=>.inl ⟨r,c,s,h⟩,λ_ h=>h,λb h=>.inl h,λb p _=>Below.heap_alloc w o b p⟩
 refine⟨⟨v.dead,λr R O=>?_,v.inj,v.used,λb p=>YG (v.imm b p) (by simp),v.gr.later (v.kept mono)⟩,mono⟩;let⟨G,c,J,Y,A,a,U⟩:=v.blk r R O;refine⟨G,c,J,Y,A,a,?_⟩;rcases U with U|⟨b,L,rfl,W,f,T,V⟩
 . exact .inl U
 have K:=(pY v J).1;refine .inr ⟨b,L,rfl,by rw[Below.heap_alloc w o b K];exact W,f,T,λi row hi=>⟨(V i row hi).1,λj d m=>?_⟩⟩;let⟨u,k,n,t⟩:=(V i row hi).2 j d m;exact⟨u,k,n,t.later v mono⟩
theorem Mj{gf:Operand}{ps:Array Tmp}{assign body:Code}{fn:Func}{first aD:List D}(he:s.e=Env.tt)(bm:s.ev gf = .fn (.func f) first aD)(hf:P.funcs[f]? = some fn)(p:fn.body=some c)(bp:fE P f=true)(hn:(first++[D.fn (.yield 0) [] []]++aD).length<=fn.ntmps)(b8:fn.results = #[])(b9 : ∀l r,r.params=ps->r.assign=assign->r.body=body->r.tmps.size=s.n->DW P none c (λe R=>(e = .normal\/e = .ret) /\ ∃j,R.e=Env.loop l (recAt r j) s.t /\
    (match j with|none=>Q .normal { n:=s.n,t:=s.t,h:=R.h,nx:=R.nx }|some .ret=>Q .ret { n:=s.n,t:=s.t,h:=R.h,nx:=R.nx }|some (.exit i)=>Q (.exit i) { n:=s.n,t:=s.t,h:=R.h,nx:=R.nx }|_=>False))
   { n:=fn.ntmps,t:=λi=>(first++[D.fn (.yield l) [] []]++aD).getD i .junk,h:=s.h,nx:=s.nx,e:=Env.loop l (recAt r none) s.t }):DW P none (.rangeFunc gf ps assign body) Q s:=by
 intro B g a w N Z;refine wpIn_rangeFunc λbr _=>?_;let V:=w.heap.size;let l:=w.heap.size+1;let r:Loop:={ state:=.ready,pending:=none,fn:=br,tmps:=a.tmps,params:=ps,assign:=assign,body:=body,defers:=w.heap.size };let I:=(w.alloc (.deferred (some []))).alloc (.loop r);have ab:=bT N gf;rw[bm]at ab;generalize u:a.eval gf=vf at ab;cases ab with|fn _ _ _ fs M l1 l2 r1 r2 =>
 let⟨q1,W⟩:=N.mem.lay (.deferred (some []));let⟨k,q4⟩:=q1.lay (.loop r);have tY:ay g g w I:=W.trans q4;have bw:I.heap[l]? = some (.loop r):=by have:=World.alloc_heap_new (w.alloc (.deferred (some []))) (.loop r);simpa[l,I]using this
 have bb:I.heap[V]? = some (.deferred (some [])):=by have J:=World.alloc_heap_new w (.deferred (some []));have Y:=Below.heap_alloc (w.alloc (.deferred (some []))) (.loop r) V (by simp[V]);exact Y.trans J
 have o:I.heap.size=w.heap.size+2:=by simp[I]
 have ac : ¬g.I l:=λh=>by have:=N.mem.imm l h;simp[l]at this;omega
 have bx : ¬g.I V:=λh=>by have:=N.mem.imm V h;simp[V]at this
 refine⟨l,_,I,⟨.fn (.func f) M,fs ++ #[.func (.yield l) #[] #[]]⟩,I,f,fs ++ #[.func (.yield l) #[] #[]]++M,I,run_enterLoop_outer _ _ _ _ _,?_,λ_ _=>trivial,?_,λh=>by simp[Fw,Fence.wide]at h,?_⟩
 . have:a.eval (.const (Value.func (.yield l) #[] #[]))=Value.func (.yield l) #[] #[]:=rfl;simp[resolve,Deferred.ofValue,u,this]
 . simp[invoke,xX bp]
 have am:aF I g (first++[D.fn (.yield l) [] []]++aD) (fs.toList++[Value.func (.yield l) #[] #[]]++M.toList):=by refine aF.append (aF.append ⟨by simpa using l1,λi d x J Y=>(r1 i d x J (by simpa using Y)).later N.mem tY⟩ (.cons (x:=Value.func (.yield l) #[] #[]) (.fn (.yield l) [] [] #[] #[] rfl rfl (λ_ _ _ h=>by simp at h) (λ_ _ _ h=>by simp at h)) .nil)) ⟨by simpa using l2,λi d x J Y=>(r2 i d x J (by simpa using Y)).later N.mem tY⟩
 have e:fs ++ #[.func (.yield l) #[] #[]]++M=(fs.toList++[Value.func (.yield l) #[] #[]]++M.toList).toArray:=by apply Zr;simp
 rw[e];have ca:(first++[D.fn (.yield l) [] []]++aD).length<=fn.ntmps:=by simpa using hn
 have v:=BK (P:=P) (n:=fn.ntmps) am ca k (nx:=s.nx);have cb:St P (dn.of I.heap.size) { n:=fn.ntmps,t:=λi=>(first++[D.fn (.yield l) [] []]++aD).getD i .junk,h:=s.h,nx:=s.nx,e:=Env.loop l (recAt r none) s.t } g _ I :=
  ⟨v.sz,v.tm,v.mem,v.df,⟨bw,ac,λi=>(N.tm i).later N.mem tY⟩,v.bd⟩
 refine AA (callsIn_of_wp_marks (n:=0) hf p trivial (wpIn_mono (F:=Fence.wide) (b9 l r rfl rfl rfl N.sz (dn.of I.heap.size) g _ I cb Z) ?_));rintro e a' T ⟨R,L,⟨X,j,cg,K⟩,aq,m,iP,_⟩;have m:gL (some l) g L I T:=m;obtain⟨ch,be,_⟩:(Env.loop l (recAt r j) s.t).p L T:=by rw[<-cg];exact aq.en
 have ar:LeavesInM Fence.wide 0 P fn a'.tmps (rangePost (Fw none) 0 P l (λe a' T=>∃R L,Q e R/\St P B R L a' T/\gL s.e.x g L w T/\(∀r,L.U r->r<R.nx)/\R.e.x=s.e.x) { a with defers:=[{ target:=.collected w.heap.size,args:=#[] }]++a.defers }) a'.defers .returning T:=by
  refine K6 (P:=P) a'.defers T aq.df.marks λw2 e0 y O e3 e4 e5 e6 e7=>?_;refine⟨.tuple #[],by simp[results,b8],?_⟩;have ci:l<I.heap.size:=by rw[o];simp[l]
  have aw:w2.heap[l]? = some (.loop (recAt r j)):=by rw[e5 l ci];exact ch
  have cj:l<w2.heap.size:=(Yo.1 aw).1;refine⟨_,_,run_endLoop aw (by cases j<;>simp[recAt]),?_⟩;have z : ∀b,b≠l->b<I.heap.size->(w2.putObj l (.loop { recAt r j with state:=.exhausted })).heap[b]? = T.heap[b]? := λb J Y=>by rw[World.putObj_heap_other J,e5 b Y]
  have kept : ∀b,g.I b->L.I b/\(w2.putObj l (.loop { recAt r j with state:=.exhausted })).heap[b]? = w.heap[b]? := λb p=>by let⟨G,k2⟩:=k.keptX m ac b p;refine⟨G,?_⟩;rw[z b (λe=>ac (e▸p)) (k.imm b p),k2];exact(N.mem.kept tY b p).2
  have b7 : ¬L.I V:=λhI=>by
   rcases m.inew V hI with e|e|⟨r,c,s,e⟩
   . exact bx e
   . rw[o]at e;simp[V]at e;omega
   exact zO k bb (λc e f=>by simp) (λc e=>by simp) r c s e
  have marks : ∀ds:List Deferred,Marks B.n g ds w->(∀d∈ds,d.target ≠ .collected V)/\Marks B.n L ds (w2.putObj l (.loop { recAt r j with state:=.exhausted })):=by
   intro ds;induction ds with
   | nil=>intro _;exact⟨λ_ h=>by simp at h,trivial⟩
   | cons d ds ih =>
    rintro⟨⟨Dd,J,Y,A,h4,U⟩,h6⟩;let⟨i1,i2⟩:=ih h6;have cl:Dd<w.heap.size:=(Yo.1 Y).1;have X:Dd≠l:=by simp[l];omega
    have bh:I.heap[Dd]? = some (.deferred (some [])):=Hl N.mem tY Y (λc e f=>by simp);refine⟨λd' cm=>?_,⟨Dd,J,?_,A,h4,λhI=>?_⟩,i2⟩
    .
     rcases Yl.1 cm with rfl|h
     . rw[J];intro e;cases e;simp[V]at cl
     exact i1 d' h
    . rw[z Dd X (by rw[o];omega)];exact OW k m bh (λc e f=>by simp) (Ne.symm X)
    rcases m.inew Dd hI with e|e|⟨r,c,s,e⟩
    . exact U e
    . rw[o]at e;omega
    exact zO k bh (λc e f=>by simp) (λc e=>by simp) r c s e
  let⟨ms,co,cp⟩:=N.df;let⟨cq,cr⟩:=marks ms cp;have fin:St P B { n:=s.n,t:=s.t,h:=R.h,nx:=R.nx } L { a with defers:=[{ target:=.collected w.heap.size,args:=#[] }]++a.defers } (w2.putObj l (.loop { recAt r j with state:=.exhausted })):=by
   refine⟨N.sz,λi=>(N.tm i).mono kept m.U m.M,(aq.mem.marks e4 e6 e7).putLoop aw be _,⟨{ target:=.collected w.heap.size,args:=#[] }::ms,by rw[co];rfl,⟨V,rfl,?_,cq,N.bd,b7⟩,cr⟩,trivial,?_⟩
   . rw[z V (by simp[V,l]) (by rw[o];simp[V])];exact OW k m bb (λc e f=>by simp) (by simp[V,l])
   simp only[World.putObj_size];rw[e4];exact Yd N.bd (Yd tY.size m.size)
  have O5:gL s.e.x g L w (w2.putObj l (.loop { recAt r j with state:=.exhausted })):=by
   refine⟨by show w2.os=_;rw[y,m.os,tY.os],by show w2.tape=_;rw[O,m.tape,tY.tape],by show w2.output=_;rw[e3,m.output,tY.output],by simp only[World.putObj_size];rw[e4];exact Yd tY.size m.size,by show Dr.dr->w.drawn<=w2.drawn;rw[e0];exact λd=>Yd (tY.drawn d) (m.drawn d),m.U,m.M,λr b c s h=>?_,m.I,λb h=>?_,λb J Y _=>?_⟩
   .
    rcases m.new r b c s h with h|h
    . exact .inl h
    exact .inr (Yd tY.size h)
   .
    rcases m.inew b h with h|h|h
    . exact .inl h
    . exact .inr (.inl (Yd tY.size h))
    exact .inr (.inr h)
   have X:b≠l:=by simp[l];omega
   rw[z b X (by rw[o];omega),m.same b (by rw[o];omega) Y (λe=>X (by cases e;rfl))];exact tY.same b J Y
  have E:({ n:=s.n,t:=s.t,h:=R.h,nx:=R.nx }:S).e.x=s.e.x:=by rw[he]
  match j,K with
  | none,K=>exact⟨_,L,K,fin,O5,iP,E⟩
  | some .ret,K=>exact wpIn_ret ⟨_,L,K,fin,O5,iP,E⟩
  | some (.exit i),K=>exact wpIn_exit ⟨_,L,K,fin,O5,iP,E⟩
 rcases X with rfl|rfl<;>exact ar
end Go.DL
namespace Go.Str
open Go.DL
variable{c:UInt8}{k:Nat}{more:Bool}
abbrev Str:=List UInt8
def bs(l:Str):ByteArray:=⟨l.toArray⟩
abbrev _root_.Go.DL.D.s(x:Str):D:=.v (.string (bs x))
@[go_sem]theorem bs_mk(l:Str):(ByteArray.mk l.toArray)=bs l:=rfl
@[go_sem]theorem mh(l:Str):(bs l).data.toList=l:=by simp[bs]
@[go_sem]theorem Zo8(l:Str):(bs l).size=l.length:=by simp[bs,ByteArray.size]
def Rp{a b:ByteArray}(h:a.data.toList=b.data.toList):a=b:=by cases a;cases b;congr 1;exact Zr h
@[go_sem]theorem Zsh(l:Str)(i j:Nat):(bs l).extract i j=bs ((l.take j).drop i):=by apply Rp;rw[ByteArray.data_extract];simp[bs,List.drop_take]
@[go_sem]theorem Zsi(a b:Str):bs a++bs b=bs (a++b):=by apply Rp;rw[ByteArray.data_append];simp[bs]
theorem bs_of(a:ByteArray):a=bs a.data.toList:=by apply Rp;simp[bs]
def bD(b:UInt8):List D:=[.v (.int .u8 b.toNat)]
def sR(s:Str):List D:=[.v (.string (bs s))]
def av:D->Str
 | .v (.string s)=>s.data.toList
 | _=>[]
def aK:D->Int
 | .v (.int _ n)=>n
 | _=>0
def AB:D->Bool
 | .v (.bool b)=>b
 | _=>false
def OT:List D->Str
 | [d]=>av d
 | _=>[]
def yl:D->List Str
 | .list _ V=>V.map OT
 | _=>[]
def gu:D->Str
 | .list _ V=>V.map Go.DL.byteOf
 | _=>[]
def str1_v{s:ByteArray}:av (.v (.string s))=s.data.toList:=rfl
def int1_v{k:IntKind}{n:Int}:aK (.v (.int k n))=n:=rfl
def bool1_v{b:Bool}:AB (.v (.bool b))=b:=rfl
attribute[go_sem]str1_v int1_v bool1_v
theorem lG{α β:Type}{f:α->β}{g:β->α}(h : ∀x,g (f x)=x)(l:List α):(l.map f).map g=l:=by rw[List.map_map];exact(Y3 λx _=>h x).trans (List.map_id l)
@[go_sem]theorem Zp5{f:Bool}{l:List Str}:yl (.list f (l.map sR))=l:=lG (f:=sR) (g:=OT) (λx=>mh x) l
@[go_sem]theorem Zo3{f:Bool}{l:Str}:gu (.list f (l.map bD))=l:=lG (f:=bD) (g:=Go.DL.byteOf) (λx=>by simp[Go.DL.byteOf,bD]) l
@[go_sem]theorem Zsg{f:Bool}:gu (.list f [])=[]:=rfl
attribute [go_sem] sR bD
def kC{l:List Str}{n:Nat}(h:n<l.length):(l.map sR).getD n []=[.v (.string (bs l[n]!))]:=by simp[List.getD,h,getElem!_pos,sR]
@[go_sem]theorem wkr_sR{l:List Str}:dB (l.map sR)=l.map sR:=by
 induction l with
 | nil=>rfl
 | cons x l k=>simp only[X7,dB,k];rfl
@[go_sem]theorem Wd{l:List Str}:aQ (l.map sR)=true:=by
 induction l with
 | nil=>rfl
 | cons x l k=>simp only[X7,aQ,k];rfl
@[go_sem]theorem wkr_bD{l:Str}:dB (l.map bD)=l.map bD:=by
 induction l with
 | nil=>rfl
 | cons x l k=>simp only[X7,dB,k];rfl
@[go_sem]theorem nrr_bD{l:Str}:aQ (l.map bD)=true:=by
 induction l with
 | nil=>rfl
 | cons x l k=>simp only[X7,aQ,k];rfl
def ax(n:Nat)(p:Nat->Bool)(k:Nat):Bool:=if k<n then p k&&ax n p (k+1)else true
termination_by n-k
theorem iI(n:Nat)(p:Nat->Bool)(k:Nat):ax n p k=if k<n then p k&&ax n p (k+1)else true:=by rw[ax]
theorem dG(n:Nat)(p:Nat->Bool)(k:Nat):ax n p k=true↔∀i,k<=i->i<n->p i=true:=by
 rw[iI];split
 .
  rename_i h;rw[XU,dG n p (k+1)];refine⟨λ⟨J,Y⟩i hi f=>?_,λJ=>⟨J k (XW _) h,λi hi f=>J i om f⟩⟩;by_cases e:i=k
  . subst e;exact J
  exact Y i om f
 rename_i h;exact⟨λ_ i hi f=>by omega,λ_=>rfl⟩
termination_by n-k
def uu(c:UInt8):Bool:=(decide (97<=c.toNat)&&decide (c.toNat<=122))||(decide (48<=c.toNat)&&decide (c.toNat<=57))
def rT(l:Str)(i:Nat):Bool:=uu (l.getD i 0)||(decide ((l.getD i 0).toNat=45)&&decide (0<i)&&decide (i+1<l.length))
def gJ(l:Str):Bool:=ax l.length (rT l) 0&&decide (1<=l.length)&&decide (l.length<=12)
def zN(l:Str)(i:Nat):Bool:=uu (l.getD i 0)||decide ((l.getD i 0).toNat=45)
theorem ZkG(l:Str):gJ l=if l.length<1 then false else if 12<l.length then false else if(l.getD 0 0).toNat=45 then false else if(l.getD (l.length-1) 0).toNat=45 then false else ax l.length (zN l) 0:=by
 by_cases J:l.length<1
 . rw[X0 J];unfold gJ;rw[YY (by omega : ¬1<=l.length)];simp
 rw[XV J];by_cases g:12<l.length
 . rw[X0 g];unfold gJ;rw[YY (by omega : ¬l.length<=12)];simp
 rw[XV g];have e:gJ l=ax l.length (rT l) 0:=by unfold gJ;rw[YB (by omega:1<=l.length),YB (by omega:l.length<=12)];simp
 rw[e];have a : ∀c:UInt8,c.toNat=45->uu c=false:=by intro c j;simp[uu,j]
 by_cases A:(l.getD 0 0).toNat=45
 .
  rw[X0 A];cases h:ax l.length (rT l) 0 with
  | false=>rfl
  | true =>
   have:=(dG _ _ _).1 h 0 (XW _) om;simp only[rT,a _ A,Nat.lt_irrefl,decide_false,Bool.and_false,Bool.false_and,ZT]at this;exact this.symm
 rw[XV A];by_cases Y:(l.getD (l.length-1) 0).toNat=45
 .
  rw[X0 Y];cases h:ax l.length (rT l) 0 with
  | false=>rfl
  | true =>
   have:=(dG _ _ _).1 h (l.length-1) (Yh _) om;simp only[rT,a _ Y,Bool.false_or,XU,XY]at this;omega
 rw[XV Y,YD,dG,dG];refine⟨λh i hi f=>?_,λh i hi f=>?_⟩
 . have:=h i hi f;simp only[rT,zN,Yc,XU,XY]at this ⊢;exact this.imp id λh=>h.1.1
 have:=h i hi f;simp only[rT,zN,Yc,XU,XY]at this ⊢;rcases this with U|U
 . exact .inl U
 refine .inr ⟨⟨U,?_⟩,?_⟩
 .
  rcases Nat.eq_zero_or_pos i with e|e
  . subst e;exact absurd U A
  exact e
 rcases YK (i+1) l.length with e|e
 . exact e
 have:i=l.length-1:=by omega
 subst this;exact absurd U Y
def split(l:Str):List Str:=match l with
 | []=>[[]]
 | c::r=>if c=46 then[]::split r else match split r with
  | []=>[[c]]
  | p::g=>(c::p)::g
def qf(out:List Str)(c:UInt8):List Str:=if c=46 then out++[[]]else out.set (out.length-1) (out[out.length-1]! ++ [c])
def Zff{out:List Str}(h:(c.toNat:Int)=46):qf out c=out++[[]]:=by
 have:c=46:=by apply ZV.1;simpa using Int.ofNat.inj h
 unfold qf;rw[X0 this]
def Zfh{out:List Str}(h : ¬(c.toNat:Int)=46):qf out c=out.set (out.length-1) (out[out.length-1]! ++ [c]):=by unfold qf;rw[XV];intro e;subst e;exact h rfl
def ZiW{l:Str}(h:k<l.length):(l.take (k+1)).drop k=[l.getD k 0]:=by rw[Zp,List.drop_append_of_le_length (by simp;omega),Y5 (by simp;omega)];simp[List.getD,h]
def yt(l:Str)(k:Nat)(out:List Str):List Str:=if k<l.length then yt l (k+1) (qf out (l.getD k 0))else out
termination_by l.length-k
theorem GD(l:Str)(k:Nat)(out:List Str):yt l k out=if k<l.length then yt l (k+1) (qf out (l.getD k 0))else out:=by rw[yt]
def jO(l:Str):List Str:=yt l 0 [[]]
def nW(l:Str)(c:Int):Nat->Int
 | 0=>-1
 | k+1=>if((l.getD k 0).toNat:Int)=c then k else nW l c k
theorem Xk{l:Str}{c:Int}(h:0<k):nW l c k=if((l.getD (k-1) 0).toNat:Int)=c then((k-1:Nat):Int)else nW l c (k-1):=by obtain⟨j,rfl⟩:∃j,k=j+1:=⟨k-1,om⟩;rw[nW];rfl
def dR(l:Str)(c:Int):Int:=nW l c l.length
theorem Pk(l:Str)(c:Int):∀k,nW l c k<k /\ -1<=nW l c k
 | 0=>by simp[nW]
 | k+1=>by have:=Pk l c k;unfold nW;split<;>omega
def Hu(l:Str)(c:Int):dR l c<l.length /\ -1<=dR l c:=Pk l c l.length
def Zfg{out:List Str}(h : ∀x∈out,x.length<=k):(∀x∈qf out c,x.length<=k+1)/\(qf out c).length<=out.length+1:=by
 unfold qf;split
 .
  refine⟨λx E=>?_,by simp⟩;rcases Yu.1 E with E|E
  . exact Nat.le_succ_of_le (h x E)
  simp at E;subst E;exact Yh _
 refine⟨λx E=>?_,by simp⟩;rcases List.mem_or_eq_of_mem_set E with E|E
 . exact Nat.le_succ_of_le (h x E)
 subst E;rw[X3];refine Nat.succ_le_succ ?_;by_cases t:out.length-1<out.length
 . exact h _ (by rw[getElem!_pos out _ t];exact Yz _)
 rw[getElem!_neg out _ t];exact Yh _
theorem Tz(l:Str)(k:Nat)(out:List Str)(hk:k<=l.length)(h : ∀x∈out,x.length<=k):(∀x∈yt l k out,x.length<=l.length)/\(yt l k out).length<=out.length+(l.length-k):=by
 rw[GD];split
 . rename_i K;let⟨J,Y⟩:=Zfg (c:=l.getD k 0) h;let⟨A,a⟩:=Tz l (k+1) _ om J;exact⟨A,om⟩
 exact⟨λx E=>Yd (h x E) hk,om⟩
termination_by l.length-k
def JW(l:Str):(∀x∈jO l,x.length<=l.length)/\(jO l).length<=l.length+1:=by let⟨J,Y⟩:=Tz l 0 [[]] (Yh _) (by simp);exact⟨J,by unfold jO;simp only[YI,Zw]at Y;omega⟩
def Zfi(l:Str)(i:Nat):(jO l)[i]!.length<=l.length:=by
 by_cases h:i<(jO l).length
 . exact(JW l).1 _ (by rw[getElem!_pos (jO l) i h];exact Yz _)
 rw[getElem!_neg (jO l) i h];exact Yh _
def rM(l:Str):List Str:=l.drop (dR l 46+1).toNat::(if _h:dR l 46<0 then[]else rM (l.take (dR l 46).toNat))
termination_by l.length
decreasing_by
 have:=Pk l 46 l.length;unfold dR at *
 simp;omega
theorem tH(l:Str):rM l=l.drop (dR l 46+1).toNat::(if dR l 46<0 then[]else rM (l.take (dR l 46).toNat)):=by rw[rM];split<;>rfl
def jf(ps:List Str)(i:Nat):Bool:=gJ ps[i]! || (decide (i=0)&&ps[i]! == [42])
def ai(l:Str):Bool:=if l=[46]then true else if 60<l.length then false else ax (jO l).length (jf (jO l)) 0&&decide ((jO l).length<=8)
def bA(l:Str):List Str:=if l=[46]then[]else jO l
def sW:List Str->Nat->Bool->Bool
 | [],_,_=>true
 | x::r,n,a=>if a||decide (8<n+1)then false else if !(x==[42]) && !gJ x then false else sW r (n+1) (x==[42])
theorem yo(l:Str):split l≠[]:=by
 cases l with
 | nil=>simp[split]
 | cons c r =>
  unfold split;split
  . simp
  split<;>simp
theorem NA{x:Str}{xs:List Str}(c:UInt8)(h:xs≠[]):qf (x::xs) c=x::qf xs c:=by
 unfold qf;split
 . rfl
 have a:0<xs.length:=Zl.2 h;obtain⟨n,f⟩:∃n,xs.length=n+1:=⟨xs.length-1,om⟩;simp[f]
theorem Tx(c:UInt8):∀p:Str,split (p++[c])=qf (split p) c
 | []=>by
  by_cases h:c=46
  . subst h;rfl
  simp[split,qf,h]
 | a::p=>by
  have k:=Tx c p;show split (a::(p++[c]))=_;rw[split,split.eq_2 a p];by_cases h:a=46
  . rw[X0 h,X0 h,k,NA c (yo p)]
  rw[XV h,XV h,k];cases K:split p with
  | nil=>exact absurd K (yo p)
  | cons q f =>
   by_cases j:c=46
   . simp[qf,j]
   cases f with
   | nil=>simp[qf,j]
   | cons r z =>
    rw[NA (x:=q) (xs:=r::z) c (by simp),NA (x:=a::q) (xs:=r::z) c (by simp)]
theorem Ty(l:Str)(k:Nat)(hk:k<=l.length):yt l k (split (l.take k))=split l:=by
 rw[GD];split
 . rename_i h;rw[<-Tx,<-Ty l (k+1) (by omega)];congr 2;rw[Zp];simp[List.getD,h]
 rw[Ye (by omega)]
termination_by l.length-k
theorem AX(l:Str):jO l=split l:=Ty l 0 (Yh _)
theorem GA : ∀l:Str,(∀x∈l,x≠46)->split l=[l]
 | [],_=>rfl
 | c::r,h=>by rw[split,XV (h c (by simp)),GA r (λx E=>h x (by simp[E]))]
theorem JV(b:Str):∀a:Str,split (a++46::b)=split a++split b
 | []=>by rfl
 | x::a=>by
  show split (x::(a++46::b))=_;rw[split,split.eq_2 x a,JV b a];by_cases h:x=46
  . rw[X0 h,X0 h];rfl
  rw[XV h,XV h];cases hq:split a with
  | nil=>exact absurd hq (yo a)
  | cons q c=>rfl
theorem Xl(l:Str)(c:Int):∀k,(nW l c k<0 -> ∀j,j<k -> ¬((l.getD j 0).toNat:Int)=c)/\(0<=nW l c k->((l.getD (nW l c k).toNat 0).toNat:Int)=c /\ ∀j,(nW l c k).toNat<j->j<k -> ¬((l.getD j 0).toNat:Int)=c)
 | 0=>by simp[nW]
 | k+1=>by
  let⟨J,a⟩:=Xl l c k;unfold nW;by_cases h:((l.getD k 0).toNat:Int)=c
  . rw[X0 h];exact⟨λA=>by omega,λ_=>⟨by simpa using h,λj Y U=>by simp at Y;omega⟩⟩
  rw[XV h];refine⟨λA j f=>?_,λA=>⟨(a A).1,λj Y U=>?_⟩⟩
  .
   by_cases e:j=k
   . subst e;exact h
   exact J A j om
  by_cases e:j=k
  . subst e;exact h
  exact(a A).2 j Y om
def Wj{l:Str}{n:Nat}(h : ∀j,n<=j->j<l.length -> ¬((l.getD j 0).toNat:Int)=46):∀x∈l.drop n,x≠46:=by
 intro x E e;subst e;let⟨i,hi,J⟩:=Zb E;rw[List.getElem_drop]at J;have a:n+i<l.length:=by simp at hi;omega
 refine h (n+i) om a ?_;have:l.getD (n+i) 0=46:=by simp only[List.getD,Yi a,YV];exact J
 rw[this];rfl
theorem xg(l:Str):rM l=(split l).reverse:=by
 rw[tH];let⟨J,Y⟩:=Xl l 46 l.length;let⟨m,o⟩:=Hu l 46;by_cases h:dR l 46<0
 .
  rw[X0 h];have e:(dR l 46+1).toNat=0:=by omega
  have N:=GA l (λx E=>by have:=Wj (l:=l) (n:=0) (λj _ A=>J h j A) x;exact this (by simpa using E));rw[e,N];rfl
 rw[XV h];let⟨U,W⟩:=Y (by unfold dR at h;omega);generalize hi:(dR l 46).toNat=i at *
 have a:(nW l 46 l.length).toNat=i:=hi;have e:(dR l 46+1).toNat=i+1:=by omega
 have K:i<l.length:=by omega
 rw[a]at U W;have c:l=l.take i++46::l.drop (i+1):=by
  have g:l[i]=46:=by
   have:l.getD i 0=l[i]:=by simp[List.getD,K]
   rw[this]at U;apply ZV.1;simpa using Int.ofNat.inj U
  conv=>lhs;rw[<-Zj i l]
  rw[YE K,g]
 have N:=GA (l.drop (i+1)) (Wj λj A f=>W j (by omega) f);have k:=xg (l.take i);rw[e,k]
 conv=>rhs;rw[c]
 rw[JV,N];simp
termination_by l.length
decreasing_by
 simp;omega
theorem Sg{x:Str}{r:List Str}{n:Nat}{w:Bool}(h:(w||decide (8<(n:Int)+1))=true):sW (x::r) n w=false:=by
 unfold sW
 rw[X0]
 rw[<-h,ZQ.2 (by omega:8<n+1↔8<(n:Int)+1)]
def Zoz{n:Nat}{w:Bool}(h:(w||decide (8<(n:Int)+1))=false):n+1<=8:=by rw[Yg,X6]at h;omega
theorem Sd{x:Str}{r:List Str}{n:Nat}{w:Bool}(h:(w||decide (8<(n:Int)+1))=false)(k:(!(x==[42]) && !gJ x)=true):sW (x::r) n w=false:=by
 unfold sW
 rw[XV,X0 k]
 rw[ZQ.2 (by omega:8<n+1↔8<(n:Int)+1),h]
 simp
theorem Sc{x:Str}{r:List Str}{n:Nat}{w:Bool}(h:(w||decide (8<(n:Int)+1))=false)(k:(!(x==[42]) && !gJ x)=false):sW (x::r) n w=sW r (n+1) (x==[42]):=by
 conv=>lhs;unfold sW
 rw[XV,XV]
 . rw[k];simp
 rw[ZQ.2 (by omega:8<n+1↔8<(n:Int)+1),h]
 simp
theorem ZeW:gJ [42]=false:=by unfold gJ;rw[iI];rfl
theorem Sb(h:Str):∀(m:List Str)(n:Nat)(w:Bool),sW (m++[h]) n w=(!w&&m.all gJ&&(gJ h||h==[42])&&decide (n+m.length+1<=8))
 | [],n,w=>by simp only[XZ,sW,List.all_nil,Zw,Zx];cases w<;>cases h1:gJ h<;>cases h2:(h==[42])<;>by_cases h3:n+1<=8<;>simp[h3,show ¬8<n+1↔n+1<=8 by omega]<;>omega
 | y::m,n,w=>by
  have k:=Sb h m (n+1) (y==[42]);simp only[XX,sW,List.all_cons,YI];rw[k];have e:n+1+m.length+1=n+(m.length+1)+1:=by omega
  rw[e];by_cases N:y=[42]
  . subst N;rw[ZeW];cases w<;>simp
  have a:(y==[42])=false:=by simpa using N
  rw[a];by_cases h3:8<n+1
  .
   have Y : ¬n+(m.length+1)+1<=8:=by omega
   simp[h3,Y]
  cases w<;>cases gJ y<;>simp[h3]
theorem ZpN(h:Str)(t:List Str):ax (h::t).length (jf (h::t)) 0=(t.all gJ&&(gJ h||h==[42])):=by
 rw[YD,dG];simp only[jf,XU,Yc,YA,XY,YF];refine⟨λq=>⟨λx E=>?_,?_⟩,λ⟨B,W⟩i _ hi=>?_⟩
 .
  obtain⟨i,hi,rfl⟩:=Zb E;have:=q (i+1) (Yh _) (by simp;omega);rcases this with J|J
  . simpa[hi]using J
  omega
 . have:=q 0 (XW _) (by simp);simpa using this
 cases i with
 | zero=>simpa using W
 | succ i =>
  have a:i<t.length:=by simpa using hi
  exact .inl (by simpa[a]using B t[i] (Yz a))
theorem WE(l:Str):ai l=if l=[46]then true else if 60<l.length then false else sW (rM l) 0 false:=by
 unfold ai;rw[xg,<-AX];cases K:jO l with
 | nil=>exact absurd (by rw[<-AX];exact K) (yo l)
 | cons h t =>
  rw[ZpN,List.reverse_cons,Sb];simp
theorem ZiF{ps:List Str}(h1:gJ ps[k]! = false)(h2:0<k \/ ¬ps[k]! = [42]):jf ps k=false:=by
 unfold jf;rw[h1,Bool.false_or,YT,X6,Ze];rcases h2 with h|h
 . exact .inl om
 exact .inr h
theorem ZiE{ps:List Str}(h:gJ ps[k]! = true\/(¬0<k/\ps[k]! = [42])):jf ps k=true:=by
 unfold jf;rw[Yc,XU,XY,YF];rcases h with h|⟨J,Y⟩
 . exact .inl h
 exact .inr ⟨om,Y⟩
def dH(l:Str):List Str:=if l=[46]then[]else rM l
def pl(more:Bool)(rest:Str):List Str:=if more then rM rest else[]
def zK(more:Bool)(rest:Str):Str:=if more then rest.drop (dR rest 46+1).toNat else[]
def uJ(more:Bool)(rest:Str):Bool:=more&&decide (0<=dR rest 46)
def uI(more:Bool)(rest:Str):Str:=if uJ more rest then rest.take (dR rest 46).toNat else rest
theorem Vu{rest:Str}:pl true rest=zK true rest::pl (uJ true rest) (uI true rest):=by
 unfold pl zK uJ uI uJ;rw[X0 rfl,X0 rfl,tH];by_cases h:dR rest 46<0
 .
  have : ¬0<=dR rest 46:=by omega
  simp[h,this]
 have:0<=dR rest 46:=by omega
 simp[h,this]
def Ziw(more:Bool)(rest:Str):(uI more rest).length<=rest.length:=by
 unfold uI;split
 . simp;omega
 exact XW _
def wL:List Str->List Str->Int
 | [],_=>-1
 | _::_,[]=>1
 | x::xs,y::m=>if Go.Lib.compareBytes x y != 0 then Go.Lib.compareBytes x y else wL xs m
def kS(a b:Str):Int:=if a=b then 0 else wL (dH a) (dH b)
def iE{l:Str}(h:ai l=true):l.length<=60:=by
 unfold ai at h;split at h
 . rename_i e;subst e;decide
 split at h
 . cases h
 omega
theorem ZhD(l:Str):dH l=pl (l != [46]) l:=by
 unfold dH pl;by_cases h:l=[46]
 . subst h;rfl
 have:(l != [46])=true:=by simpa using h
 rw[XV h,this];rfl
theorem MF{rest r2:Str}(h:(!more)=true):wL (rM rest) (pl more r2)=1:=by
 cases more with
 | true=>cases h
 | false=>rw[tH];rfl
theorem ZbS{rest r2:Str}(h:(!more)=false)(k:(Go.Lib.compareBytes (rest.drop (dR rest 46+1).toNat) (zK more r2) != 0)=true):wL (rM rest) (pl more r2)=Go.Lib.compareBytes (rest.drop (dR rest 46+1).toNat) (zK more r2):=by
 cases more with
 | false=>cases h
 | true=>rw[tH,Vu,wL,X0 k]
theorem Q4{rest r2:Str}(h:(!more)=false)(k:(Go.Lib.compareBytes (rest.drop (dR rest 46+1).toNat) (zK more r2) != 0)=false):wL (rM rest) (pl more r2)=wL (if dR rest 46<0 then[]else rM (rest.take (dR rest 46).toNat)) (pl (uJ more r2) (uI more r2)):=by
 cases more with
 | false=>cases h
 | true=>rw[tH,Vu,wL,XV (by rw[k];simp)]
def yD:List Str->List Str->Int
 | [],[]=>0
 | [],_::_=>-1
 | _::_,[]=>1
 | x::xs,y::m=>if Go.Op.bytesLess x y then -1 else if !(Go.Op.bytesLess x y||x==y)then 1 else yD xs m
def fQ(a b:Str):Int:=yD (dH a) (dH b)
def Bq(l m:List Str)(i:Nat):Int:=if i<=l.length/\i<=m.length then(if Go.Op.bytesLess l[l.length-i]! m[m.length-i]! then -1 else if !(Go.Op.bytesLess l[l.length-i]! m[m.length-i]! || l[l.length-i]! == m[m.length-i]!)then 1 else Bq l m (i+1))else if l.length<m.length then -1 else if m.length<l.length then 1 else 0
termination_by l.length+1-i
theorem Dq(l m:List Str)(i:Nat):Bq l m i=if i<=l.length/\i<=m.length then(if Go.Op.bytesLess l[l.length-i]! m[m.length-i]! then -1 else if !(Go.Op.bytesLess l[l.length-i]! m[m.length-i]! || l[l.length-i]! == m[m.length-i]!)then 1 else Bq l m (i+1))else if l.length<m.length then -1 else if m.length<l.length then 1 else 0:=by rw[Bq]
theorem Ko{l:List Str}(h:k<l.length):l.reverse.drop k=l[l.length-(k+1)]! :: l.reverse.drop (k+1):=by
 rw[YE (by simpa using h),List.getElem_reverse];congr 1;have Y:l.length-1-k<l.length:=by omega
 have e:l.length-(k+1)=l.length-1-k:=by omega
 rw[e,getElem!_pos l _ Y]
theorem VL(l m:List Str)(k:Nat)(h1:k<=l.length)(h2:k<=m.length):Bq l m (k+1)=yD (l.reverse.drop k) (m.reverse.drop k):=by
 rw[Dq];by_cases h:k+1<=l.length/\k+1<=m.length
 . rw[X0 h,Ko (by omega:k<l.length),Ko (by omega:k<m.length),yD,VL l m (k+1) h.1 h.2]
 rw[XV h];by_cases y:k=l.length
 .
  rw[Y5 (by simp;omega)];by_cases O:k=m.length
  . rw[Y5 (by simp;omega),XV (by omega),XV (by omega)];rfl
  rw[Ko (by omega:k<m.length),X0 (by omega)];rfl
 have O:k=m.length:=by omega
 have v:m.reverse.drop k=[]:=Y5 (by simp;omega);rw[v,Ko (by omega:k<l.length),XV (by omega),X0 (by omega)];rfl
termination_by l.length-k
theorem KH(l:Str):(bA l).reverse=dH l:=by
 unfold bA dH;split
 . rfl
 rw[xg,AX]
theorem Zjt(a b:Str):fQ a b=Bq (bA a) (bA b) 1:=by rw[VL _ _ 0 (Yh _) (Yh _),X4,X4,KH,KH];rfl
theorem Jo : ∀a:Str,Go.Op.bytesLess a a=false
 | []=>rfl
 | c::r=>by simp[Go.Op.bytesLess,Jo r]
theorem Jf : ∀a b:Str,Go.Lib.compareBytes a b=if Go.Op.bytesLess a b then -1 else if a==b then 0 else 1
 | [],[]=>rfl
 | [],_::_=>rfl
 | _::_,[]=>by simp[Go.Lib.compareBytes,Go.Op.bytesLess]
 | x::a,y::b=>by
  unfold Go.Lib.compareBytes Go.Op.bytesLess;by_cases h1:x<y
  . simp[h1]
  by_cases h2:y<x
  .
   have h3 : ¬x=y:=λe=>by subst e;exact h1 h2
   simp[h1,h2,h3]
  have h3:x=y:=by apply ZV.1;have Y : ¬x.toNat<y.toNat:=h1;have U : ¬y.toNat<x.toNat:=h2;omega
  subst h3;simp[h1,Jf a b]
theorem ZbT : ∀xs m:List Str,xs≠m->wL xs m=yD xs m
 | [],[],h=>absurd rfl h
 | [],_::_,_=>rfl
 | _::_,[],_=>rfl
 | x::xs,y::m,h=>by
  unfold wL yD;rw[Jf];by_cases h1:Go.Op.bytesLess x y=true
  . simp[h1]
  by_cases h2:x=y
  . subst h2;simp[Jo];exact ZbT xs m λe=>h (by rw[e])
  have h3:(x==y)=false:=by simpa using h2
  simp[h1,h3]
theorem VK : ∀xs:List Str,yD xs xs=0
 | []=>rfl
 | x::xs=>by simp[yD,Jo,VK xs]
def jT:List Str->Str
 | []=>[]
 | [p]=>p
 | p::q::r=>p++46::jT (q::r)
theorem DZ : ∀l:Str,jT (split l)=l
 | []=>rfl
 | c::r=>by
  have k:=DZ r;unfold split;by_cases h:c=46
  .
   rw[X0 h];cases N:split r with
   | nil=>exact absurd N (yo r)
   | cons q a=>rw[N]at k;rw[jT,k,h];rfl
  rw[XV h];cases N:split r with
  | nil=>exact absurd N (yo r)
  | cons q a =>
   rw[N]at k;cases a with
   | nil=>simp only[jT]at k ⊢;rw[k]
   | cons W f=>simp only[jT]at k ⊢;rw[<-k];rfl
theorem Db{a b:Str}(h:dH a=dH b):a=b:=by
 unfold dH at h;have c : ∀l:Str,rM l≠[]:=λl e=>by rw[tH]at e;cases e
 by_cases m:a=[46]<;>by_cases p:b=[46]
 . rw[m,p]
 . rw[X0 m,XV p]at h;exact absurd h.symm (c b)
 . rw[XV m,X0 p]at h;exact absurd h (c a)
 rw[XV m,XV p,xg,xg]at h;rw[<-DZ a,<-DZ b,List.reverse_inj.1 h]
theorem OY(a b:Str):kS a b=fQ a b:=by
 unfold kS fQ;by_cases h:a=b
 . subst h;rw[X0 rfl,VK]
 rw[XV h,ZbT _ _ λe=>h (Db e)]
def Oz(l:Str):(∀x∈bA l,x.length<=l.length)/\(bA l).length<=l.length+1:=by
 unfold bA;split
 . exact⟨by simp,Yh _⟩
 exact JW l
end Go.Str
namespace Go.Rec
open Go.DL Go.Str
variable{f:Bool}
structure Dat where
 t:Str
 n:Int
 m:Int
 deriving Inhabited,DecidableEq
structure RSet where
 name:Str
 ty:Int
 life:Int
 data:List Dat
 deriving Inhabited,DecidableEq
structure yc where
 text:Int
 n0:Int
 n1:Int
 m0:Int
 m1:Int
 even:Bool
 single:Bool
 wild:Bool
 deriving Inhabited,DecidableEq
def Dat.d(x:Dat):List D:=[.v (.string (bs x.t)),.i x.n,.i x.m]
def Dat.of:List D->Dat
 | [.v (.string s),.v (.int _ n),.v (.int _ m)]=>⟨s.data.toList,n,m⟩
 | _=>default
def RSet.d(x:RSet):List D:=[.v (.string (bs x.name)),.i x.ty,.i x.life,.l (x.data.map Dat.d)]
def RSet.of:List D->RSet
 | [.v (.string s),.v (.int _ t),.v (.int _ l),.list _ V]=>⟨s.data.toList,t,l,V.map Dat.of⟩
 | _=>default
def yc.d(r:yc):List D:=[.i r.text,.i r.n0,.i r.n1,.i r.m0,.i r.m1,.b r.even,.b r.single,.b r.wild]
def yc.of:List D->yc
 | [.v (.int _ a),.v (.int _ b),.v (.int _ c),.v (.int _ d),.v (.int _ e),.v (.bool f),.v (.bool g),.v (.bool h)]=>⟨a,b,c,d,e,f,g,h⟩
 | _=>default
def pV{α:Type}(f:List D->α)(z:α):D->α
 | .agg M=>f M
 | _=>z
def xC{α:Type}(f:List D->α):D->List α
 | .list _ V=>V.map f
 | _=>[]
def iR(n:Int):List D:=[.i n]
def ofI:List D->Int
 | [.v (.int _ n)]=>n
 | _=>0
def pG:D->List Int:=xC ofI
def kF:D->Dat:=pV Dat.of default
def pQ:D->List Dat:=xC Dat.of
def set1:D->RSet:=pV RSet.of default
def N8:D->yc:=pV yc.of default
attribute [go_sem] Dat.d RSet.d yc.d iR
theorem G9(x:Dat):Dat.of x.d=x:=by simp[Dat.of,Dat.d,mh]
@[go_sem]theorem Zr4{l:List Dat}:pQ (.list f (l.map Dat.d))=l:=lG G9 l
@[go_sem]theorem Zr3:pQ (.list f [])=[]:=rfl
@[go_sem]theorem ZlF{l:List Int}:pG (.list f (l.map iR))=l:=lG (f:=iR) (g:=ofI) (λ_=>rfl) l
def dat1_agg{s:ByteArray}{n m:Int}{k k':IntKind}:kF (.agg [.v (.string s),.v (.int k n),.v (.int k' m)])=⟨s.data.toList,n,m⟩:=rfl
def set1_agg{s:ByteArray}{n m:Int}{k k':IntKind}{rows:List (List D)}:set1 (.agg [.v (.string s),.v (.int k n),.v (.int k' m),.list f rows])=⟨s.data.toList,n,m,pQ (.list f rows)⟩:=rfl
def Zqu{r:yc}:N8 (.agg [.i r.text,.i r.n0,.i r.n1,.i r.m0,.i r.m1,.b r.even,.b r.single,.b r.wild])=r:=rfl
attribute[go_sem]dat1_agg set1_agg Zqu
def aP(x a hi:Int):Bool:=decide (a<=x)&&decide (x<=hi)
def cmpI(x y:Int):Int:=if x<y then -1 else if y<x then 1 else 0
def xA(a b:Str):Bool:=Go.Op.bytesLess a b
def wK(a b:Str):Int:=if xA a b then -1 else if !(xA a b||a==b)then 1 else 0
def Ai(s p:Str):Bool:=decide (p.length<=s.length)&&s.take p.length==p
def jq(s:Str):Bool:=decide (0<s.length)&&decide ((s.getD 0 0).toNat=42)
theorem wU(s:Str):Ai s [42]=jq s:=by
 cases s with
 | nil=>rfl
 | cons c r =>
  simp only[Ai,jq,YI,Zw,X5,Yf,List.getD_cons_zero];have J:decide (0+1<=r.length+1)=true:=by simp
  have Y:decide (0<r.length+1)=true:=by simp
  rw[J,Y,ZE,ZE,YD,YF,XY];constructor
  . intro h;have:=(List.cons.inj h).1;subst this;rfl
  intro h;have:c=42:=ZV.1 h;subst this;rfl
def xq(l:List Int)(k:Nat):Int:=if k<l.length then if l[k]! != 0 then l[k]! else xq l (k+1)else 0
termination_by l.length-k
theorem Dt(l:List Int)(k:Nat):xq l k=if k<l.length then if l[k]! != 0 then l[k]! else xq l (k+1)else 0:=by rw[xq]
def uW(l:Str)(i:Nat):Bool:=uu (l.getD i 0)||decide ((l.getD i 0).toNat=32)
def xN(l:Str):Bool:=if l.length<1 then false else if 40<l.length then false else if(l.getD 0 0).toNat=32 then false else if(l.getD (l.length-1) 0).toNat=32 then false else ax l.length (uW l) 0
def less(a b:Dat):Bool:=if a.t != b.t then xA a.t b.t else if a.n != b.n then decide (a.n<b.n)else decide (a.m<b.m)
end Go.Rec
namespace Go.Cmp
open Go.Str
structure Cm{α:Type}(c:α->α->Int):Prop where
 anti : ∀x y,c y x = - c x y
 tr : ∀x y z,c x y<=0->c y z<=0->c x z<=0
 lo : ∀x y, -1<=c x y
namespace Cm
variable {α : Type} {c : α -> α -> Int} (h : Cm c)
include h
theorem hi(x y:α):c x y<=1:=by have:=h.lo y x;have:=h.anti x y;omega
def self(x:α):c x x=0:=by have:=h.anti x x;omega
def lt_le{x y z:α}(a:c x y<0)(b:c y z<=0):c x z<0:=by
 have J:=h.tr x y z (by omega) b;by_cases e:c x z=0
 . have Y:=h.tr y z x b (by have:=h.anti x z;omega);have:=h.anti x y;omega
 omega
def le_lt{x y z:α}(a:c x y<=0)(b:c y z<0):c x z<0:=by
 have J:=h.tr x y z a (by omega);by_cases e:c x z=0
 . have Y:=h.tr z x y (by have:=h.anti x z;omega) a;have:=h.anti y z;omega
 omega
def eq_eq{x y z:α}(a:c x y=0)(b:c y z=0):c x z=0:=by have J:=h.tr x y z (by omega) (by omega);have Y:=h.tr z y x (by have:=h.anti y z;omega) (by have:=h.anti x y;omega);have:=h.anti x z;omega
end Cm
def rC(a b:Int):Int:=if a != 0 then a else b
def Q5{α:Type}{c d:α->α->Int}(h:Cm c)(k:Cm d):Cm λx y=>rC (c x y) (d x y):=by
 have e : ∀x y,rC (c x y) (d x y)=if c x y=0 then d x y else c x y:=by intro x y;unfold rC;by_cases q:c x y=0<;>simp[q]
 refine⟨λx y=>?_,λx y z=>?_,λx y=>?_⟩
 . simp only[e];have:=h.anti x y;have:=k.anti x y;split<;>split<;>omega
 .
  simp only[e];intro a b;by_cases f:c x y=0<;>by_cases O:c y z=0
  . rw[if_pos f]at a;rw[if_pos O]at b;rw[if_pos (h.eq_eq f O)];exact k.tr _ _ _ a b
  . rw[if_neg O]at b;have:=h.le_lt (x:=x) (by omega:c x y<=0) (by omega:c y z<0);rw[if_neg (by omega)];omega
  . rw[if_neg f]at a;have:=h.lt_le (by omega:c x y<0) (by omega:c y z<=0);rw[if_neg (by omega)];omega
  rw[if_neg f]at a;rw[if_neg O]at b;have:=h.lt_le (by omega:c x y<0) (by omega:c y z<=0);rw[if_neg (by omega)];omega
 simp only[e];have:=h.lo x y;have:=k.lo x y;split<;>omega
def Av{α β:Type}{c:β->β->Int}(h:Cm c)(f:α->β):Cm λx y=>c (f x) (f y) :=
 ⟨λx y=>h.anti _ _,λx y z=>h.tr _ _ _,λx y=>h.lo _ _⟩
def cmpI(x y:Int):Int:=if x<y then -1 else if y<x then 1 else 0
def MH:Cm cmpI:=by refine⟨λx y=>?_,λx y z=>?_,λx y=>?_⟩<;>unfold cmpI<;>(repeat' split)<;>omega
def Je{x y:Int}:cmpI x y=0↔x=y:=by unfold cmpI;(repeat' split)<;>omega
def lex{α:Type}(c:α->α->Int):List α->List α->Int
 | [],[]=>0
 | [],_::_=>-1
 | _::_,[]=>1
 | x::xs,y::m=>rC (c x y) (lex c xs m)
theorem mD{a b:Int}:rC a b=if a=0 then b else a:=by unfold rC;by_cases q:a=0<;>simp[q]
theorem ZbU{α:Type}{c:α->α->Int}(h:Cm c):Cm (lex c):=by
 refine⟨?_,?_,?_⟩
 .
  intro x;induction x with
  | nil=>intro y;cases y<;>rfl
  | cons x g k =>
   intro y;cases y with
   | nil=>rfl
   | cons y m =>
    simp only[lex,mD];have:=h.anti x y;have:=k m;split<;>split<;>omega
 .
  intro x;induction x with
  | nil =>
   intro y z _ _;cases z
   . simp[lex]
   simp[lex]
  | cons x g k =>
   intro y z a b;cases y with
   | nil=>simp[lex]at a
   | cons y m =>
    cases z with
    | nil=>simp[lex]at b
    | cons z j =>
     simp only[lex,mD]at a b ⊢;by_cases f:c x y=0<;>by_cases O:c y z=0
     . rw[if_pos f]at a;rw[if_pos O]at b;rw[if_pos (h.eq_eq f O)];exact k _ _ a b
     . rw[if_neg O]at b;have:=h.le_lt (x:=x) (by omega:c x y<=0) (by omega:c y z<0);rw[if_neg (by omega)];omega
     . rw[if_neg f]at a;have:=h.lt_le (by omega:c x y<0) (by omega:c y z<=0);rw[if_neg (by omega)];omega
     rw[if_neg f]at a;rw[if_neg O]at b;have:=h.lt_le (by omega:c x y<0) (by omega:c y z<=0);rw[if_neg (by omega)];omega
 intro x;induction x with
 | nil=>intro y;cases y<;>simp[lex]
 | cons x g k =>
  intro y;cases y with
  | nil=>simp[lex]
  | cons y m =>
   simp only[lex,mD];have:=h.lo x y;have:=k m;split<;>omega
theorem Pg{α:Type}{c:α->α->Int}(h : ∀x y,c x y=0->x=y):∀xs m:List α,lex c xs m=0->xs=m
 | [],[],_=>rfl
 | [],_::_,e=>by simp[lex]at e
 | _::_,[],e=>by simp[lex]at e
 | x::xs,y::m,e=>by
  simp only[lex,mD]at e;split at e
  . rename_i q;rw[h _ _ q,Pg h xs m e]
  rename_i q;exact absurd e q
def Jd(x y:UInt8):Int:=cmpI x.toNat y.toNat
def cm_u:Cm Jd:=Av MH λx:UInt8=>(x.toNat:Int)
def ZoB{x y:UInt8}(h:Jd x y=0):x=y:=UInt8.toNat_inj.1 (by have:=Je.1 h;omega)
theorem Q3 : ∀a b:Str,Go.Lib.compareBytes a b=lex Jd a b
 | [],[]=>rfl
 | [],_::_=>rfl
 | _::_,[]=>rfl
 | x::a,y::b=>by
  unfold Go.Lib.compareBytes lex;have k:=Q3 a b;simp only[mD,Jd,cmpI];by_cases h1:x<y
  .
   have:(x.toNat:Int)<y.toNat:=by have:x.toNat<y.toNat:=h1;omega
   simp[h1,this]
  have c : ¬(x.toNat:Int)<y.toNat:=by have : ¬x.toNat<y.toNat:=h1;omega
  by_cases Y:y<x
  .
   have:(y.toNat:Int)<x.toNat:=by have:y.toNat<x.toNat:=Y;omega
   simp[h1,Y,c,this]
  have f : ¬(y.toNat:Int)<x.toNat:=by have : ¬y.toNat<x.toNat:=Y;omega
  simp[h1,Y,c,f,k]
def MI:Cm (Go.Lib.compareBytes):=by
 have:Go.Lib.compareBytes=lex Jd:=by funext a b;exact Q3 a b
 rw[this];exact ZbU cm_u
def Rb{a b:Str}(h:Go.Lib.compareBytes a b=0):a=b:=by rw[Q3]at h;exact Pg (λ_ _=>ZoB) a b h
theorem KM : ∀xs m:List Str,yD xs m=lex Go.Lib.compareBytes xs m
 | [],[]=>rfl
 | [],_::_=>rfl
 | _::_,[]=>rfl
 | x::xs,y::m=>by
  unfold yD lex;have k:=KM xs m;rw[Jf,mD,k];by_cases h1:Go.Op.bytesLess x y=true
  . simp[h1]
  by_cases h2:x=y
  . subst h2;simp[Jo]
  have h3:(x==y)=false:=by simpa using h2
  simp[h1,h3]
def y5:Cm fQ:=by
 have:fQ=λa b=>lex Go.Lib.compareBytes (dH a) (dH b):=by funext a b;exact KM _ _
 rw[this];exact Av (ZbU MI) dH
theorem Hm{a b:Str}(h:fQ a b=0):a=b:=by unfold fQ at h;rw[KM]at h;exact Db (Pg (λ_ _=>Rb) _ _ h)
section
variable {α : Type} (c : α -> α -> Int) (m : α -> α -> α)
structure Un:Prop where
 left : ∀x y,c x y=0->c (m x y) x=0
 comm : ∀x y,c x y=0->m x y=m y x
 swap : ∀x y z,c x y=0->c x z=0->m (m x y) z=m (m x z) y
variable {c m}
def Sorted(c:α->α->Int)(l:List α):Prop:=l.Pairwise λx y=>c x y<=0
def j5(c:α->α->Int)(l:List α):Prop:=l.Pairwise λx y=>c x y<0
end
end Go.Cmp
namespace Go.Rec
open Go.DL Go.Str Go.Cmp
variable{a b:RSet}{k:Int}{l:List Dat}{n:Nat}
def gM(k:Nat):yc:=match k with
 | 1=>⟨0,1,1000000,0,0,false,false,true⟩
 | 2=>⟨1,0,0,0,0,false,false,false⟩
 | 3=>⟨1,0,0,0,0,false,true,false⟩
 | 4=>⟨0,0,65535,0,100000,false,true,false⟩
 | 5=>⟨3,0,0,0,0,false,false,true⟩
 | 6=>⟨0,1,1000000,1,3,false,false,false⟩
 | 7=>⟨0,1,1000000,1,3,false,false,false⟩
 | 8=>⟨2,2,510,0,0,true,false,true⟩
 | _=>⟨0,0,0,0,0,false,false,false⟩
def zm(k:Int)(t:Str):Bool:=if k=1 then ai t && !jq t else if k=2 then ai t else if k=3 then xN t else t==[]
def jX(r:yc)(d:Dat):Bool:=aP d.n r.n0 r.n1&&aP d.m r.m0 r.m1 && !(r.even&&d.n % 2 != 0)&&zm r.text d.t
def qh(k:Int)(d:Dat):Bool :=
 if k=1 then d.t==[]&&aP d.n 1 1000000&&d.m==0
 else if k=2\/k=3 then ai d.t && !jq d.t&&d.n==0&&d.m==0
 else if k=4 then d.t==[]&&aP d.n 0 65535&&aP d.m 0 100000
 else if k=5 then xN d.t&&d.n==0&&d.m==0
 else if k=6\/k=7 then d.t==[]&&aP d.n 1 1000000&&aP d.m 1 3
 else if k=8 then ai d.t&&aP d.n 2 510&&d.n % 2==0&&d.m==0
 else false
theorem ZlJ(n:Int):aP n 0 0=(n==0):=by unfold aP;rw[YD,XU,XY,XY,YF];omega
theorem kV{n a b:Int}:aP n a b=true↔a<=n/\n<=b:=by unfold aP;rw[XU,XY,XY]
def kinds(h:aP k 1 8=true):k=1\/k=2\/k=3\/k=4\/k=5\/k=6\/k=7\/k=8:=by have:=kV.1 h;omega
theorem Zbz(h:aP k 1 8=true)(d:Dat):qh k d=jX (gM k.toNat) d:=by rw[YD];rcases kinds h with h|h|h|h|h|h|h|h<;>subst h<;>simp[qh,jX,gM,zm,ZlJ]<;>constructor<;>intro q<;>simp_all
def CU(k:Int):Bool:=decide (k=3)||decide (k=4)
theorem TS(h:aP k 1 8=true):CU k=(gM k.toNat).single:=by rcases kinds h with h|h|h|h|h|h|h|h<;>subst h<;>rfl
theorem Zda(h:aP k 1 8=true):(k != 1&&k != 5&&k != 8) = !(gM k.toNat).wild:=by rcases kinds h with h|h|h|h|h|h|h|h<;>subst h<;>rfl
def eD(a b:Dat):Int:=rC (Go.Lib.compareBytes a.t b.t) (rC (Go.Cmp.cmpI a.n b.n) (Go.Cmp.cmpI a.m b.m))
def u6:Cm eD:=Q5 (Av MI Dat.t) (Q5 (Av MH Dat.n) (Av MH Dat.m))
def ZbA{a b:Dat}(h:eD a b=0):a=b:=by
 unfold eD at h;rw[mD]at h;split at h
 .
  rename_i J;rw[mD]at h;split at h
  . rename_i Y;have y:=Rb J;have O:=Je.1 Y;have c:=Je.1 h;cases a;cases b;simp only at y O c;subst y;subst O;subst c;rfl
  exact absurd h ‹_›
 exact absurd h ‹_›
theorem Pi(a b:Dat):less a b=decide (eD a b<0):=by
 unfold less eD xA;rw[mD,mD,Jf];by_cases J:a.t=b.t
 .
  rw[J];simp[Jo];by_cases Y:a.n=b.n
  .
   rw[Y];simp[Go.Cmp.cmpI];by_cases A:a.m<b.m
   . simp[A]
   simp[A];split<;>omega
  simp[Y,Go.Cmp.cmpI];by_cases A:a.n<b.n
  . simp[A]
  have:b.n<a.n:=by omega
  simp[A,this]
 have Y:(a.t==b.t)=false:=by simpa using J
 simp[J,Y];cases A:Go.Op.bytesLess a.t b.t<;>simp
theorem ZoC(a b:Str):wK a b=Go.Lib.compareBytes a b:=by
 rw[Jf];unfold wK xA;by_cases h:Go.Op.bytesLess a b=true
 . simp[h]
 cases Y:(a==b)<;>simp[h]
theorem ZiS(a b c:Int):xq [a,b,c] 0=if a != 0 then a else if b != 0 then b else if c != 0 then c else 0:=by rw[Dt,Dt _ (0+1),Dt _ (0+1+1),Dt _ (0+1+1+1)];simp
theorem VM(a b:Dat):xq [wK a.t b.t,cmpI a.n b.n,cmpI a.m b.m] 0=eD a b:=by
 rw[ZiS,ZoC];unfold eD rC;show(if _ then _ else if _ then _ else if Go.Cmp.cmpI a.m b.m != 0 then Go.Cmp.cmpI a.m b.m else 0)=_;by_cases h:Go.Cmp.cmpI a.m b.m=0
 . simp[h];rfl
 simp[h];rfl
def pR(k:Nat)(l:List Dat)(i:Nat):Bool:=jX (gM k) l[i]! && (decide (i=0)||decide (eD l[i-1]! l[i]! < 0))
def fw(s:RSet):Bool:=ai s.name&&aP s.ty 1 8&&aP s.life 0 100000&&aP s.data.length 1 8 && !((gM s.ty.toNat).single&&(s.data.length:Int) != 1) && !(jq s.name && !(gM s.ty.toNat).wild)&&ax s.data.length (pR s.ty.toNat s.data) 0
structure ve(s:RSet):Prop where
 name:ai s.name=true
 ty:aP s.ty 1 8=true
 life:aP s.life 0 100000=true
 len:1<=s.data.length/\s.data.length<=8
 single:(gM s.ty.toNat).single=true->s.data.length=1
 wild:jq s.name=true->(gM s.ty.toNat).wild=true
 dat : ∀d∈s.data,jX (gM s.ty.toNat) d=true
 sorted:j5 eD s.data
theorem ZeF(h : ∀i,0<i->i<l.length->eD l[i-1]! l[i]! < 0):j5 eD l:=by
 induction l with
 | nil=>exact .nil
 | cons x r k =>
  have k:=k λi J Y=>by have:=h (i+1) om (by simp;omega);obtain⟨j,rfl⟩:∃j,i=j+1:=⟨i-1,om⟩;simpa using this
  refine YJ.2 ⟨λy o=>?_,k⟩;cases r with
  | nil=>cases o
  | cons z r =>
   have a:eD x z<0:=by simpa using h 1 om (by simp)
   rcases Yl.1 o with e|e
   . subst e;exact a
   have:=(YJ.1 k).1 y e;exact u6.lt_le a om
def Zpn(h:j5 eD l){i j:Nat}(h1:i<j)(h2:j<l.length):eD l[i]! l[j]! < 0:=by rw[getElem!_pos l i (by omega),getElem!_pos l j h2];exact Y6.1 h i j om h2 h1
theorem iA(s:RSet):fw s=true↔ve s:=by
 unfold fw;simp only[XU,Ya,YT,ZP,Yr,dG];constructor
 .
  rintro⟨⟨⟨⟨⟨⟨J,Y⟩,A⟩,c⟩,U⟩,W⟩,a⟩;have c:=kV.1 c;have m : ∀i,i<s.data.length->jX (gM s.ty.toNat) s.data[i]! = true:=λi hi=>by have:=a i (Yh _) hi;unfold pR at this;exact(XU _ _▸this).1
  refine⟨J,Y,A,om,λq=>?_,λq=>?_,λd f=>?_,ZeF λi hi g=>?_⟩
  .
   rcases U with h|h
   . rw[q]at h;cases h
   omega
  .
   rcases W with h|h
   . rw[q]at h;cases h
   exact h
  . obtain⟨i,hi,rfl⟩:=Zb f;have:=m i hi;rwa [getElem!_pos s.data i hi]at this
  have:=a i (Yh _) g;unfold pR at this;rw[XU,Yc,XY,XY]at this;exact this.2.resolve_left om
 intro ⟨J,Y,A,c,U,W,a,T⟩;refine⟨⟨⟨⟨⟨⟨J,Y⟩,A⟩,kV.2 om⟩,?_⟩,?_⟩,λi _ hi=>?_⟩
 .
  by_cases q:(gM s.ty.toNat).single=true
  . right;have:=U q;omega
  left;simpa using q
 .
  by_cases q:jq s.name=true
  . right;exact W q
  left;simpa using q
 unfold pR;rw[XU,Yc,XY,XY];refine⟨by rw[getElem!_pos s.data i hi];exact a _ (Yz _),?_⟩;by_cases e:i=0
 . exact .inl e
 exact .inr (Zpn T om hi)
instance(s:RSet):Decidable (ve s):=decidable_of_iff _ (iA s)
def Bw(a b:Str):Int:=if ai a&&ai b then kS a b else 0
def plC(a b:RSet):Int:=if a.name=b.name then cmpI a.ty b.ty else Bw a.name b.name
def mH(a b:RSet):Int:=rC (Bw a.name b.name) (cmpI a.ty b.ty)
def zI(a b:RSet):Int:=rC (fQ a.name b.name) (cmpI a.ty b.ty)
def cm_pl:Cm zI:=Q5 (Av y5 RSet.name) (Av MH RSet.ty)
theorem Zin:zI a b=0↔a.name=b.name/\a.ty=b.ty:=by
 unfold zI;rw[mD];constructor
 .
  intro h;split at h
  . exact⟨Hm ‹_›,Je.1 h⟩
  exact absurd h ‹_›
 rintro⟨J,Y⟩;rw[J,Y,X0 (y5.self _)];exact Je.2 rfl
theorem plC_c(m:ai a.name=true)(p:ai b.name=true):plC a b=zI a b:=by
 unfold plC zI Bw;rw[m,p,mD];by_cases h:a.name=b.name
 . rw[X0 h,h,X0 (y5.self _)]
 rw[XV h,XV (λe=>h (Hm e)),OY];rfl
theorem U5(m:ai a.name=true)(p:ai b.name=true):mH a b=zI a b:=by unfold mH zI Bw;rw[m,p,OY];rfl
def uN(n:Int):Nat:=(n % 18446744073709551616).toNat
def jZ(u a:Nat):UInt8:=UInt8.ofNat (u / 2^a)
def bZ(n:Int):Str:=[jZ (uN n) 56,jZ (uN n) 48,jZ (uN n) 40,jZ (uN n) 32,jZ (uN n) 24,jZ (uN n) 16,jZ (uN n) 8,jZ (uN n) 0]
theorem j4(n:Int):(bZ n).length=8:=rfl
def Gw(n:Int):uN n<18446744073709551616:=by unfold uN;omega
def mE(n:Nat)(c:UInt8):Nat:=(n*256+c.toNat) % 18446744073709551616
def gU(l:Str):Nat:=l.foldl mE 0
def sN(n:Nat):Int:=IntKind.i64.wrap (n:Int)
def numOf(l:Str):Int:=sN (gU l)
theorem Re(u a:Nat):(jZ u a).toNat=u / 2^a % 256:=by simp[jZ]
theorem V4 : ∀l:Str,gU l<18446744073709551616:=by
 intro l;unfold gU;rcases List.eq_nil_or_concat l with e|⟨p,z,e⟩
 . subst e;decide
 rw[e,List.concat_eq_append,Za,YM,ZH];unfold mE;omega
theorem uN_sN{u:Nat}(h:u<18446744073709551616):uN (sN u)=u:=by unfold uN sN;rw[IntKind.wrap_i64];omega
theorem Zpk{l:Str}(h:l.length=8):bZ (numOf l)=l:=by
 unfold numOf bZ;rw[uN_sN (V4 l)]
 match l,h with
 | [f,w,I,a,g,j,m,n],_ =>
  have p:=f.toNat_lt;have J:=w.toNat_lt;have Y:=I.toNat_lt;have A:=a.toNat_lt;have o:=g.toNat_lt;have U:=j.toNat_lt;have W:=m.toNat_lt;have r:=n.toNat_lt;have e:gU [f,w,I,a,g,j,m,n]=((((((f.toNat*256+w.toNat)*256+I.toNat)*256+a.toNat)*256+g.toNat)*256+j.toNat)*256+m.toNat)*256+n.toNat:=by simp only[gU,YM,ZH,mE];omega
  have k : ∀(s:Nat)(c:UInt8),gU [f,w,I,a,g,j,m,n] / 2^s % 256=c.toNat->jZ (gU [f,w,I,a,g,j,m,n]) s=c:=λs c q=>ZV.1 (by rw[Re];exact q);rw[k 56 f o3y,k 48 w o3y,k 40 I o3y,k 32 a o3y,k 24 g o3y,k 16 j o3y,k 8 m o3y,k 0 n o3y]
def jS(n:Nat):UInt8:=UInt8.ofNat n
def dC(t:Str):Str:=jS t.length::t
def uY(d:Dat):Str:=dC d.t++bZ d.n++bZ d.m
def lv(s:RSet):Str:=dC s.name++bZ s.ty++bZ s.life++jS s.data.length::s.data.flatMap uY
abbrev RS:=Str×Bool
def cB(n:Int)(st:RS):Str×RS:=if st.2||decide ((st.1.length:Int)<n)then([],(st.1,true))else(st.1.take n.toNat,(st.1.drop n.toNat,false))
def dY(st:RS):Nat×RS:=(if(cB 1 st).1.length=1 then((cB 1 st).1.getD 0 0).toNat else 0,(cB 1 st).2)
def bP(st:RS):Str×RS:=cB (dY st).1 (dY st).2
def aT(st:RS):Int×RS:=(numOf (cB 8 st).1,(cB 8 st).2)
def jE(st:RS):Dat×RS:=(⟨(bP st).1,(aT (bP st).2).1,(aT (aT (bP st).2).2).1⟩,(aT (aT (bP st).2).2).2)
def kP:Nat->List Dat->RS->List Dat×RS
 | 0,out,n=>(out,n)
 | k+1,out,n=>if(jE n).2.2 then(out,(jE n).2)else kP k (out++[(jE n).1]) (jE n).2
def tQ(st:RS):RSet×RS :=
 let a:=bP st;let b:=aT a.2;let c:=aT b.2;let n:=dY c.2;let d:=kP n.1 [] n.2
 (⟨a.1,b.1,c.1,d.1⟩,d.2)
def Wl:RSet:=⟨[],0,0,[]⟩
def jB(x:Str):RSet×Int:=if(tQ (x,false)).2.2||decide (0<(tQ (x,false)).2.1.length) || !fw (tQ (x,false)).1 then(Wl,10)else((tQ (x,false)).1,0)
theorem take_ok{st:RS}(h1:st.2=false)(h2:n<=st.1.length):cB n st=(st.1.take n,(st.1.drop n,false)):=by unfold cB;rw[h1,Bool.false_or,YY (by omega)];rfl
theorem yj{st:RS}{n:Int}(h:st.2=true\/(st.1.length:Int)<n):cB n st=([],(st.1,true)):=by
 unfold cB;have:(st.2||decide ((st.1.length:Int)<n))=true:=by rw[Yc,XY];exact h
 rw[this];rfl
def Nq{n:Int}{s:RS}(h:s.2=true):(cB n s).2.2=true:=by rw[yj (.inl h)]
theorem OU{s:RS}(h:s.2=true):(aT s).2.2=true:=Nq h
theorem ZbN{s:RS}(h:s.2=true):(dY s).2.2=true:=Nq h
def Zen{s:RS}(h:s.2=true):(bP s).2.2=true:=Nq (ZbN h)
theorem KP{s:RS}(h:(aT s).2.2=false):s.2=false:=by
 cases q:s.2 with
 | false=>rfl
 | true=>rw[OU q]at h;cases h
theorem ZiX{s:RS}(h:(dY s).2.2=false):s.2=false:=by
 cases q:s.2 with
 | false=>rfl
 | true=>rw[ZbN q]at h;cases h
theorem Zn5 : ∀(k:Nat)(out:List Dat)(s:RS),s.2=true->(kP k out s).2.2=true
 | 0,_,_,h=>h
 | k+1,out,s,h=>by unfold kP;have:(jE s).2.2=true:=OU (OU (Zen h));rw[X0 this];exact this
def i64(n:Int):Prop:=-9223372036854775808<=n/\n<=9223372036854775807
structure Jy(d:Dat):Prop where
 t:d.t.length<=255
 n:i64 d.n
 m:i64 d.m
structure SetSz(s:RSet):Prop where
 name:s.name.length<=255
 ty:i64 s.ty
 life:i64 s.life
 len:s.data.length<=255
 dat : ∀d∈s.data,Jy d
def Zi8(l:Str):i64 (numOf l):=by unfold i64 numOf sN;rw[IntKind.wrap_i64];omega
theorem Zkx(h:n<=255):(jS n).toNat=n:=by unfold jS;simp;omega
theorem Xc(c:UInt8):jS c.toNat=c:=by apply ZV.1;rw[Zkx (by have:=c.toNat_lt;omega)]
def count_cons(c:UInt8)(r:Str):dY (c::r,false)=(c.toNat,(r,false)):=by have e:=take_ok (st:=(c::r,false)) (n:=1) rfl (by simp);rw[show((1:Nat):Int)=1 from rfl]at e;unfold dY;rw[e];rfl
def JM{s:RS}(h:(cB n s).2.2=false):s.2=false/\n<=s.1.length:=by
 by_cases q:s.2=true\/(s.1.length:Int)<n
 . rw[yj q]at h;cases h
 have : ¬s.2=true /\ ¬(s.1.length:Int)<n:=not_or.1 q;exact⟨by simpa using this.1,om⟩
theorem ZbL{s:RS}(h:(dY s).2.2=false):∃c r,s=(c::r,false)/\dY s=(c.toNat,(r,false)):=by
 let⟨J,Y⟩:=JM (n:=1) (s:=s) h;let⟨l,b⟩:=s;simp only at J Y;subst J;cases l with
 | nil=>simp at Y
 | cons c r=>exact⟨c,r,rfl,count_cons c r⟩
def S9{s:RS}(h:(bP s).2.2=false):s.1=dC (bP s).1++(bP s).2.1/\(bP s).1.length<=255:=by
 have j:(dY s).2.2=false:=(JM (n:=(dY s).1) (s:=(dY s).2) h).1;obtain⟨c,r,rfl,e⟩:=ZbL j;have a:=(JM (n:=(dY (c::r,false)).1) (s:=(dY (c::r,false)).2) h).2;unfold bP;rw[e]at a ⊢;have a:c.toNat<=r.length:=a;have O:cB (((c.toNat,(r,false)):Nat×RS).1:Nat) ((c.toNat,(r,false)):Nat×RS).2=(r.take c.toNat,(r.drop c.toNat,false)):=take_ok (st:=(r,false)) rfl a;rw[O];have f:=c.toNat_lt;refine⟨?_,by show(r.take c.toNat).length<=255;simp;omega⟩;show c::r=jS (r.take c.toNat).length::r.take c.toNat++r.drop c.toNat;have:(r.take c.toNat).length=c.toNat:=by simp;omega
 rw[this,Xc];simp
def KS{s:RS}(h:(aT s).2.2=false):s.1=bZ (aT s).1++(aT s).2.1/\i64 (aT s).1:=by let⟨J,Y⟩:=JM (n:=8) (s:=s) h;have e:=take_ok (n:=8) J Y;rw[show((8:Nat):Int)=8 from rfl]at e;unfold aT;rw[e];refine⟨?_,Zi8 _⟩;show s.1=bZ (numOf (s.1.take 8))++s.1.drop 8;rw[Zpk (by simp;omega),Zj]
def Zn9{s:RS}(h:(jE s).2.2=false):s.1=uY (jE s).1++(jE s).2.1/\Jy (jE s).1:=by have B:(aT (bP s).2).2.2=false:=KP h;have W:=KP B;let⟨N,a⟩:=S9 W;let⟨c,f⟩:=KS B;let⟨w,I⟩:=KS (s:=(aT (bP s).2).2) h;refine⟨?_,⟨a,f,I⟩⟩;unfold jE uY;rw[N,c,w];simp
theorem Zbu : ∀(k:Nat)(out:List Dat)(s:RS),s.2=false->(kP k out s).2.2=false -> ∃l,(kP k out s).1=out++l/\l.length=k/\s.1=l.flatMap uY++(kP k out s).2.1 /\ ∀d∈l,Jy d
 | 0,out,s,_,_=>⟨[],by simp[kP]⟩
 | k+1,out,s,n,h=>by
  unfold kP at h ⊢;cases q:(jE s).2.2 with
  | true=>rw[q,X0 rfl,q]at h;cases h
  | false =>
   rw[q,XV (by simp)]at h;rw[XV (by simp)];let⟨N,a⟩:=Zn9 q;let⟨l,c,f,g,j⟩:=Zbu k _ _ q h;refine⟨(jE s).1::l,by rw[c];simp,by simp[f],by(rw[N];(conv=>lhs;rw[g]);simp),λd m=>?_⟩;rcases Yl.1 m with e|e
   . subst e;exact a
   exact j d e
theorem Zgc{s:RS}(h:(tQ s).2.2=false):s.1=lv (tQ s).1++(tQ s).2.1/\SetSz (tQ s).1:=by
 have m:(kP (dY (aT (aT (bP s).2).2).2).1 [] (dY (aT (aT (bP s).2).2).2).2).2.2=false:=h;have a:(dY (aT (aT (bP s).2).2).2).2.2=false:=by
  cases q:(dY (aT (aT (bP s).2).2).2).2.2 with
  | false=>rfl
  | true=>rw[Zn5 _ _ _ q]at m;cases m
 have k:=ZiX a;have W:=KP k;have B:=KP W;let⟨N,g⟩:=S9 B;let⟨j,n⟩:=KS W;let⟨w,I⟩:=KS k;let⟨c,r,o,f⟩:=ZbL a;let⟨l,y,O,p,t⟩:=Zbu _ _ _ a m;have u:=c.toNat_lt;have v:l.length=c.toNat:=by rw[O,f]
 have x:(tQ s).1=⟨(bP s).1,(aT (bP s).2).1,(aT (aT (bP s).2).2).1,l⟩:=by show RSet.mk _ _ _ _=_;rw[y];rfl
 rw[x];refine⟨?_,⟨g,n,I,by show l.length<=255;omega,t⟩⟩;have z:(tQ s).2.1=(kP (dY (aT (aT (bP s).2).2).2).1 [] (dY (aT (aT (bP s).2).2).2).2).2.1:=rfl;rw[z,N]
 conv=>lhs;rw[j,w,o]
 have A:r=(dY (aT (aT (bP s).2).2).2).2.1:=by rw[f]
 show dC _++(bZ _++(bZ _++c::r))=(dC _++bZ _++bZ _++jS l.length::l.flatMap uY)++_;rw[v,Xc,A]
 conv=>lhs;rw[p]
 simp
def Zep{t:Str}(h:zm k t=true):t.length<=60:=by
 unfold zm at h;split at h
 . rw[XU]at h;exact iE h.1
 split at h
 . exact iE h
 split at h
 .
  unfold xN at h;split at h
  . cases h
  split at h
  . cases h
  omega
 rw[YF]at h;subst h;simp
def Zby(hk:aP k 1 8=true){d:Dat}(h:jX (gM k.toNat) d=true):Jy d/\d.t.length<=60/\0<=d.n/\0<=d.m:=by unfold jX at h;simp only[XU,kV]at h;have n:=Zep h.2;have f:=h.1.1.1;have v:=h.1.1.2;refine⟨⟨om,?_,?_⟩,n,?_,?_⟩<;>(try unfold i64)<;>rcases kinds hk with e|e|e|e|e|e|e|e<;>subst e<;>simp[gM]at f v<;>omega
def qW(s:RSet):Str×Int:=if fw s then(lv s,0)else([],1)
def Zo1{x:Str}(h:(jB x).2=0):ve (jB x).1/\lv (jB x).1=x:=by
 unfold jB at h ⊢;split at h
 . cases h
 rename_i q;rw[XV q];simp only[Yc,not_or,XY,Ya,Bool.not_eq_false]at q;let⟨⟨B,W⟩,k⟩:=q;have B:(tQ (x,false)).2.2=false:=by simpa using B
 let⟨J,_⟩:=Zgc B;have Y:(tQ (x,false)).2.1=[]:=Yb om;rw[Y,YH]at J;exact⟨(iA _).1 k,J.symm⟩
def xc(a b:RSet):Bool:=decide (a=b)
def IJ{l:List Int}(h:n<l.length):(l.map iR).getD n []=[.i l[n]!]:=by simp[List.getD,h,getElem!_pos,iR]
theorem oh(h:n<l.length):(l.map Dat.d).getD n []=l[n]!.d:=by simp[List.getD,h,getElem!_pos]
theorem getD_set{l:List RSet}(h:n<l.length):(l.map RSet.d).getD n []=l[n]!.d:=by simp[List.getD,h,getElem!_pos]
@[go_sem]theorem Zjg{l:List Int}:aQ (l.map iR)=true:=by
 induction l with
 | nil=>rfl
 | cons x l k=>simp only[X7,aQ,k];rfl
@[go_sem]theorem mM:aQ (l.map Dat.d)=true:=by
 induction l with
 | nil=>rfl
 | cons x l k=>simp only[X7,aQ,k];rfl
@[go_sem]theorem qb:dB (l.map Dat.d)=l.map Dat.d:=by
 induction l with
 | nil=>rfl
 | cons x l k=>simp only[X7,dB,k];rfl
@[go_sem]theorem wkr_set{l:List RSet}:dB (l.map RSet.d)=l.map RSet.d:=by
 induction l with
 | nil=>rfl
 | cons x l k=>simp only[X7,dB,k,RSet.d,wk,dA,qb]
theorem NS{s:RSet}(w:(ai s.name=true/\aP s.ty 1 8=true)/\aP s.life 0 100000=true)(I:aP s.data.length 1 8=true)(a:((gM s.ty.toNat).single=false\/(s.data.length:Int)=1)/\(jq s.name=false\/(gM s.ty.toNat).wild=true)):fw s=ax s.data.length (pR s.ty.toNat s.data) 0:=by let⟨J,Y⟩:=a;unfold fw;rw[I,w.1.1,w.1.2,w.2];rcases J with J|J<;>rcases Y with Y|Y<;>simp[J,Y]
theorem Zbv{t k:Nat}(h:jX (gM t) l[k]! = true/\(¬(0:Int)<k \/ ¬0<=eD l[k-1]! l[k]!)):pR t l k=true:=by unfold pR;rw[XU,Yc,XY,XY];exact⟨h.1,h.2.imp (λq=>by omega) λq=>by omega⟩
theorem Zbw{t k:Nat}(h:jX (gM t) l[k]! = false\/((0:Int)<k/\0<=eD l[k-1]! l[k]!)):pR t l k=false:=by unfold pR;rw[YT,Yg,X6,X6];exact h.imp id λq=>⟨om,om⟩
theorem R9(w:Bool)(h:aP k 1 8=true):(((w&&(k != 1))&&(k != 5))&&(k != 8))=(w && !(gM k.toNat).wild):=by rw[<-Zda h,ZI,ZI,ZI]
theorem Um{s:RSet}(w:(((ai s.name=true/\aP s.ty 1 8=true)/\aP s.life 0 100000=true)/\aP s.data.length 1 8=true)/\(CU s.ty=false \/ ¬(1:Int)<s.data.length))(I:jq s.name=false\/(gM s.ty.toNat).wild=true):fw s=ax s.data.length (pR s.ty.toNat s.data) 0:=by let⟨⟨⟨⟨J,Y⟩,A⟩,a⟩,U⟩:=w;refine NS ⟨⟨J,Y⟩,A⟩ a ⟨?_,I⟩;rw[TS Y]at U;have:=kV.1 a;exact U.imp id λq=>by omega
theorem Zga{s:RSet}(w:(((ai s.name=false\/aP s.ty 1 8=false)\/aP s.life 0 100000=false)\/aP s.data.length 1 8=false)\/(CU s.ty=true/\(1:Int)<s.data.length)):fw s=false:=by
 cases q:fw s with
 | false=>rfl
 | true =>
  have h:=(iA s).1 q;rcases w with(((w|w)|w)|w)|⟨w,I⟩
  . rw[h.name]at w;cases w
  . rw[h.ty]at w;cases w
  . rw[h.life]at w;cases w
  . have:=kV.2 (show(1:Int)<=s.data.length/\(s.data.length:Int)<=8 by have:=h.len;omega);rw[this]at w;cases w
  rw[TS h.ty]at w;have:=h.single w;omega
theorem Zf9{s:RSet}(c:jq s.name=true/\(gM s.ty.toNat).wild=false):fw s=false:=by
 cases q:fw s with
 | false=>rfl
 | true =>
  have h:=((iA s).1 q).wild c.1;rw[c.2]at h;cases h
theorem Zn6{t:Int}{k:Nat}(ht:aP t 1 8=true)(h:qh t l[k]! = true/\(¬(0:Int)<k\/less l[k-1]! l[k]! = true)):pR t.toNat l k=true:=by rw[Zbz ht,Pi]at h;exact Zbv ⟨h.1,h.2.imp id λq=>by have:=YP q;omega⟩
theorem Zn8{t:Int}{k:Nat}(ht:aP t 1 8=true)(h:qh t l[k]! = false\/((0:Int)<k/\less l[k-1]! l[k]! = false)):pR t.toNat l k=false:=by rw[Zbz ht,Pi]at h;exact Zbw (h.imp id λq=>⟨q.1,by have:=of_decide_eq_false q.2;omega⟩)
theorem ZgW(h1:((a.name=b.name/\a.ty=b.ty)/\a.life=b.life)/\(a.data.length:Int)=b.data.length)(h2 : ∀i,i<a.data.length->a.data[i]! = b.data[i]!):xc a b=true:=by unfold xc;rw[XY];let⟨h,c,j,f⟩:=a;let⟨k,m,R,g⟩:=b;simp only at h1 h2;obtain⟨⟨⟨rfl,rfl⟩,rfl⟩,n⟩:=h1;congr 1;refine List.ext_getElem om λi hi A=>?_;have:=h2 i hi;rwa [getElem!_pos f i hi,getElem!_pos g i A]at this
theorem ZgX(h:((a.name≠b.name\/a.ty≠b.ty)\/a.life≠b.life)\/(a.data.length:Int)≠b.data.length):xc a b=false:=by unfold xc;rw[X6];rintro rfl;simp at h
theorem ZgY{k:Nat}(h:a.data[k]! ≠ b.data[k]!):xc a b=false:=by unfold xc;rw[X6];rintro rfl;exact h rfl
def Zn7{x y:Dat}(h:(!(x.t==y.t&&(x.n==y.n&&x.m==y.m)))=false):x=y:=by let⟨a,b,c⟩:=x;let⟨d,e,f⟩:=y;simp at h;simp[h]
theorem Zoa{x y:Dat}(h:(!(x.t==y.t&&(x.n==y.n&&x.m==y.m)))=true):x≠y:=by rintro rfl;simp at h
@[go_sem]theorem Zqv{t:Str}{h:H}:aG (.v (.string (bs t))) h=t.map bD:=by simp only[aG,mh];rfl
@[go_sem]theorem Zp0(n:Nat):IntKind.u8.wrap (n:Int)=((jS n).toNat:Int):=by rw[IntKind.wrap_u8];simp[jS]
def Zg7(k:Nat):(gM k).even=true->0<=(gM k).n0:=by unfold gM;split<;>simp
end Go.Rec
namespace Go.Cmp
variable{α:Type}{c:α->α->Int}
variable [Inhabited α]
def sw(s:List α)(i j:Nat):List α:=(s.set i s[j]!).set j s[i]!
end Go.Cmp
namespace Go.Rec
open Go.DL Go.Str Go.Cmp
end Go.Rec
namespace Go.Zon
open Go.DL Go.Str Go.Rec
variable{a c:Str}{f:Bool}{i k n:Nat}{m:List Str}{p:Nat->Bool}{rows:List (List D)}{α:Type}
structure RSig where
 zone:Str
 key:Int
 alg:Int
 frm:Int
 unt:Int
 sum:Int
 deriving Inhabited,DecidableEq
structure Sgd where
 set:RSet
 sigs:List RSig
 deriving Inhabited,DecidableEq
structure Qst where
 name:Str
 ty:Int
 deriving Inhabited,DecidableEq
structure Zon where
 apex:Str
 sets:List Sgd
 deriving Inhabited,DecidableEq
def Sgd.q(s:Sgd):Qst:=⟨s.set.name,s.set.ty⟩
def RSig.d(x:RSig):List D:=[.v (.string (bs x.zone)),.i x.key,.i x.alg,.i x.frm,.i x.unt,.v (.int .u64 x.sum)]
def RSig.of:List D->RSig
 | [.v (.string s),.v (.int _ a),.v (.int _ b),.v (.int _ c),.v (.int _ d),.v (.int _ e)]=>⟨s.data.toList,a,b,c,d,e⟩
 | _=>default
def Sgd.d(x:Sgd):List D:=[.v (.string (bs x.set.name)),.i x.set.ty,.i x.set.life,.l (x.set.data.map Dat.d),.l (x.sigs.map RSig.d)]
def Sgd.of:List D->Sgd
 | [.v (.string s),.v (.int _ t),.v (.int _ l),.list _ V,.list _ a]=>⟨⟨s.data.toList,t,l,V.map Dat.of⟩,a.map RSig.of⟩
 | _=>default
def Qst.d(x:Qst):List D:=[.v (.string (bs x.name)),.i x.ty]
def Qst.of:List D->Qst
 | [.v (.string s),.v (.int _ t)]=>⟨s.data.toList,t⟩
 | _=>default
def Zon.d(x:Zon):List D:=[.v (.string (bs x.apex)),.l (x.sets.map Sgd.d)]
def Zon.of:List D->Zon
 | [.v (.string s),.list _ V]=>⟨s.data.toList,V.map Sgd.of⟩
 | _=>default
structure Lay where
 z:Zon
 b:List Str
 deriving Inhabited,DecidableEq
def Lay.d(x:Lay):List D:=[.v (.string (bs x.z.apex)),.l (x.z.sets.map Sgd.d),.l (x.b.map sR)]
def Lay.of:List D->Lay
 | [.v (.string s),.list _ V,.list _ b]=>⟨⟨s.data.toList,V.map Sgd.of⟩,b.map OT⟩
 | _=>default
def dw:D->Sgd:=pV Sgd.of default
def eZ:D->List Sgd:=xC Sgd.of
def NK:D->RSig:=pV RSig.of default
def uE:D->List RSig:=xC RSig.of
def jC:D->Qst:=pV Qst.of default
def KD:D->List Qst:=xC Qst.of
def aC:D->Zon:=pV Zon.of default
def zU:D->Lay:=pV Lay.of default
attribute [go_sem] RSig.d Sgd.d Qst.d Zon.d Lay.d
theorem OO(x:RSig):RSig.of x.d=x:=by simp[RSig.of,RSig.d,mh]
theorem Fu(x:Sgd):Sgd.of x.d=x:=by simp[Sgd.of,Sgd.d,mh,lG G9,lG OO]
theorem OP(x:Qst):Qst.of x.d=x:=by simp[Qst.of,Qst.d,mh]
@[go_sem]theorem Zqs{l:List Sgd}:eZ (.list f (l.map Sgd.d))=l:=lG Fu l
@[go_sem]theorem Zqp{l:List RSig}:uE (.list f (l.map RSig.d))=l:=lG OO l
@[go_sem]theorem Zqo:uE (.list f [])=[]:=rfl
@[go_sem]theorem Zqy{l:List Qst}:KD (.list f (l.map Qst.d))=l:=lG OP l
def sgd1_agg{s:ByteArray}{t l:Int}{k k':IntKind}{c:Bool}{a:List (List D)}:dw (.agg [.v (.string s),.v (.int k t),.v (.int k' l),.list f rows,.list c a])=⟨⟨s.data.toList,t,l,pQ (.list f rows)⟩,uE (.list c a)⟩:=rfl
def qst1_agg{s:ByteArray}{t:Int}{k:IntKind}:jC (.agg [.v (.string s),.v (.int k t)])=⟨s.data.toList,t⟩:=rfl
def zon1_agg{s:ByteArray}:aC (.agg [.v (.string s),.list f rows])=⟨s.data.toList,eZ (.list f rows)⟩:=rfl
attribute[go_sem]sgd1_agg qst1_agg zon1_agg
@[go_sem]theorem sig1_agg{x:RSig}:NK (.agg [.v (.string (bs x.zone)),.i x.key,.i x.alg,.i x.frm,.i x.unt,.v (.int .u64 x.sum)])=x:=by show RSig.of x.d=x;exact OO x
def lay1_agg{s:ByteArray}{a:Bool}{b:List (List D)}:zU (.agg [.v (.string s),.list f rows,.list a b])=⟨⟨s.data.toList,eZ (.list f rows)⟩,yl (.list a b)⟩:=rfl
def qst_eta{x:Qst}:(⟨x.name,x.ty⟩:Qst)=x:=rfl
def set_eta{x:RSet}:(⟨x.name,x.ty,x.life,x.data⟩:RSet)=x:=rfl
def dat_eta{x:Dat}:(⟨x.t,x.n,x.m⟩:Dat)=x:=rfl
def sgd_eta{x:Sgd}:(⟨x.set,x.sigs⟩:Sgd)=x:=rfl
def zon_eta{x:Zon}:(⟨x.apex,x.sets⟩:Zon)=x:=rfl
def lay_eta{x:Lay}:(⟨x.z,x.b⟩:Lay)=x:=rfl
attribute[go_sem]lay1_agg qst_eta set_eta dat_eta sgd_eta zon_eta lay_eta
def P8{f:α->List D}{l:List α}(h:l.length<=n):(l.map f).getD n []=[]:=by simp[List.getD,h]
def bN{l:List Sgd}(h:n<l.length):(l.map Sgd.d).getD n []=[.v (.string (bs l[n]!.set.name)),.i l[n]!.set.ty,.i l[n]!.set.life,.l (l[n]!.set.data.map Dat.d),.l (l[n]!.sigs.map RSig.d)]:=by simp[List.getD,h,Sgd.d,getElem!_pos]
def vY{l:List RSig}(h:n<l.length):(l.map RSig.d).getD n []=[.v (.string (bs l[n]!.zone)),.i l[n]!.key,.i l[n]!.alg,.i l[n]!.frm,.i l[n]!.unt,.v (.int .u64 l[n]!.sum)]:=by simp[List.getD,h,RSig.d,getElem!_pos]
def LG{l:List Qst}(h:n<l.length):(l.map Qst.d).getD n []=[.v (.string (bs l[n]!.name)),.i l[n]!.ty]:=by simp[List.getD,h,Qst.d,getElem!_pos]
@[go_sem]theorem Bu{l:List RSig}:aQ (l.map RSig.d)=true:=by
 induction l with
 | nil=>rfl
 | cons x l k=>simp only[X7,aQ,k,RSig.d,aX,D.nr];rfl
@[go_sem]theorem CE{l:List RSig}:dB (l.map RSig.d)=l.map RSig.d:=by
 induction l with
 | nil=>rfl
 | cons x l k=>simp only[X7,dB,k,RSig.d,wk,dA]
@[go_sem]theorem Dy{l:List Sgd}:aQ (l.map Sgd.d)=true:=by
 induction l with
 | nil=>rfl
 | cons x l k=>simp only[X7,aQ,k,Sgd.d,aX,D.nr,mM,Bu];rfl
@[go_sem]theorem R3{l:List Sgd}:dB (l.map Sgd.d)=l.map Sgd.d:=by
 induction l with
 | nil=>rfl
 | cons x l k=>simp only[X7,dB,k,Sgd.d,wk,dA,qb,CE]
@[go_sem]theorem We{l:List Qst}:aQ (l.map Qst.d)=true:=by
 induction l with
 | nil=>rfl
 | cons x l k=>simp only[X7,aQ,k,Qst.d,aX,D.nr];rfl
@[go_sem]theorem Zc3{l:List Qst}:dB (l.map Qst.d)=l.map Qst.d:=by
 induction l with
 | nil=>rfl
 | cons x l k=>simp only[X7,dB,k,Qst.d,wk,dA]
@[go_sem]theorem all_sgd{l:List Sgd}:(∀r∈l.map Sgd.d,r.length=5)=True:=by apply eq_true;intro r O;obtain⟨x,_,rfl⟩:=Yp.1 O;rfl
@[go_sem]theorem all_sig{l:List RSig}:(∀r∈l.map RSig.d,r.length=6)=True:=by apply eq_true;intro r O;obtain⟨x,_,rfl⟩:=Yp.1 O;rfl
@[go_sem]theorem all_qst{l:List Qst}:(∀r∈l.map Qst.d,r.length=2)=True:=by apply eq_true;intro r O;obtain⟨x,_,rfl⟩:=Yp.1 O;rfl
def yP(s p:Str):Bool:=decide (p.length<=s.length)&&s.drop (s.length-p.length)==p
def under(s z:Str):Bool:=s==z||z==[46]||(decide (z.length<s.length)&&yP s z&&decide ((s.getD (s.length-z.length-1) 0).toNat=46))
def fT(s z:Str):Bool:=ai s&&ai z&&under s z
def Aa(l m:List Str)(i:Nat):Bool:=l[l.length-m.length+i]! == m[i]!
def ig(s z:Str):Bool:=decide ((bA z).length<=(bA s).length)&&ax (bA z).length (Aa (bA s) (bA z)) 0
def AQ(s:Str):Bool:=decide (0<(bA s).length)&&(bA s)[0]! == [42]
def VC(s:Str):(bA s).length<=s.length+1:=by
 unfold bA;split
 . exact Yh _
 exact(JW s).2
def qC(a b:Qst):Int:=if a.name=b.name then cmpI a.ty b.ty else(if ai a.name&&ai b.name then kS a.name b.name else 0)
def ku(q:Qst):Bool:=ai q.name&&aP q.ty 1 8
def fits(t:Int)(a:Bool):Bool:=if t=3\/t=6 then !a else if t=4\/t=7 then a else true
def lu(a:Str)(l:List RSig)(i:Nat):Bool :=
 l[i]!.zone==a&&aP l[i]!.key 1 1000000&&aP l[i]!.alg 1 3&&decide (0<=l[i]!.frm)&&decide (l[i]!.frm<=l[i]!.unt)&&decide (l[i]!.unt<=20000000) &&
 (decide (i=0)||(decide (l[i]!.frm=l[0]!.frm)&&decide (l[i]!.unt=l[0]!.unt)&&decide (l[i-1]!.key<l[i]!.key)))
def kg(l:List RSig)(a:Str):Bool:=decide (l.length<=6)&&ax l.length (lu a l) 0
def lT(a b:Sgd):Bool:=decide (a=b)
def rJ(a b:List Sgd):Bool:=decide (a=b)
def nJ(a b:Zon):Bool:=decide (a=b)
def NP{a b:Sgd}(h1:a.set=b.set)(h2:a.sigs=b.sigs):a=b:=by cases a;cases b;simp_all
theorem FC![Inhabited α]{a b:List α}(c:a.length=b.length)(h : ∀i,i<a.length->a[i]! = b[i]!):a=b:=by refine List.ext_getElem c λi J Y=>?_;have:=h i J;rwa [getElem!_pos a i J,getElem!_pos b i Y]at this
theorem gB(h:n<=k):ax n p k=true:=by rw[iI,XV (by omega)]
theorem ed(h:k<n)(a:p k=false):ax n p k=false:=by rw[iI,X0 h,a];rfl
theorem bC(h:k<n)(a:p k=true):ax n p k=ax n p (k+1):=by rw[iI,X0 h,a];rfl
def kG(c:Nat->Int)(i j:Nat):Nat:=if i<j then(if c ((i+j) / 2)<0 then kG c ((i+j) / 2+1) j else kG c i ((i+j) / 2))else i
termination_by j-i
theorem wN(c:Nat->Int)(i j:Nat):kG c i j=if i<j then(if c ((i+j) / 2)<0 then kG c ((i+j) / 2+1) j else kG c i ((i+j) / 2))else i:=by rw[kG]
theorem Rh(c:Nat->Int):∀(n i j:Nat),j-i<=n->i<=j->kG c i j<=j/\i<=kG c i j:=by
 intro n;induction n with
 | zero=>intro i j J Y;rw[wN,XV (by omega)];omega
 | succ n k =>
  intro i j J Y;rw[wN];split
  .
   split
   . have:=k ((i+j) / 2+1) j om om;omega
   have:=k i ((i+j) / 2) om om;omega
  omega
def aV(l:List Sgd)(q:Qst):Nat:=kG (λk=>qC l[k]!.q q) 0 l.length
def bV(l:List Sgd)(q:Qst):Bool:=decide (aV l q<l.length)&&qC l[aV l q]!.q q==0
def KY{j:Nat}(h:i+j<=9223372036854775807):IntKind.i64.wrap ((IntKind.u64.wrap ((i:Int)+j)).fdiv (2^(min 1 64)))=(((i+j) / 2:Nat):Int):=by
 have e:IntKind.u64.wrap ((i:Int)+j)=(i:Int)+j:=by rw[IntKind.wrap_u64];omega
 have O:((2:Int)^(min 1 64))=2:=rfl;rw[e,O,Int.fdiv_eq_ediv_of_nonneg _ (by omega),IntKind.wrap_i64];omega
def vP(m:List Str):List D:=m.flatMap λs=>[.v (.string (bs s)),.b true]
def nS(m:List Str)(n:Str):Bool:=decide (n∈m)
def yh(m:List Str)(n:Str):List Str:=if nS m n then m else m++[n]
theorem DR(s:Str)(m:List Str):vP (s::m) = .v (.string (bs s)) :: .b true::vP m:=rfl
theorem XA{b:Str}:lX (.v (.string (bs a))) (.v (.string (bs b)))=(a==b):=by simp[lX,ou,mh]
@[go_sem]theorem kvT_nil:vP []=[]:=rfl
@[go_sem]theorem V6:aX (vP m)=true:=by
 induction m with
 | nil=>rfl
 | cons s m k=>rw[DR];simp only[aX,k];rfl
@[go_sem]theorem wks_kvT:dA (vP m)=vP m:=by
 induction m with
 | nil=>rfl
 | cons s m k=>rw[DR];simp only[dA,k];rfl
@[go_sem]theorem kvGetD_T{n:Str}:(iZ (vP m) (.v (.string (bs n)))).getD (.v (.bool false)) = .v (.bool (nS m n)):=by
 induction m with
 | nil=>rfl
 | cons s m k =>
  rw[DR];simp only[iZ,XA];by_cases h:n=s
  . subst h;simp[nS]
  .
   have:(n==s)=false:=by simp[h]
   rw[this];simp only[Yn,Y8,k,nS,Yl,h,false_or]
@[go_sem]theorem kvSet_T{n:Str}:ib (vP m) (.v (.string (bs n))) (.v (.bool true))=vP (yh m n):=by
 induction m with
 | nil=>rfl
 | cons s m k =>
  rw[DR];simp only[ib,XA];by_cases h:n=s
  .
   subst h;have:yh (n::m) n=n::m:=by simp[yh,nS]
   rw[this,DR];simp
  .
   have J:(n==s)=false:=by simp[h]
   rw[J,k];have Y:yh (s::m) n=s::yh m n:=by unfold yh nS;by_cases q:n∈m<;>simp[h,q]
   rw[Y,DR];rfl
def lW(a:Str)(l:List Sgd)(i:Nat):Bool:=fw l[i]!.set&&fT l[i]!.set.name a&&(decide (i=0)||decide (qC l[i-1]!.q l[i]!.q<0))
def ordered(z:Zon):Bool:=ai z.apex && !jq z.apex&&decide (z.sets.length<=20000)&&ax z.sets.length (lW z.apex z.sets) 0
def oq(a:Str)(l:List Sgd)(i:Nat):Bool:=fits l[i]!.set.ty (l[i]!.set.name==a)
def ng(z:Zon)(i:Nat):Bool:=bV z.sets ⟨z.apex,if i=0 then 4 else 2⟩
def ru(z:Zon):Bool:=ax 2 (ng z) 0&&ax z.sets.length (oq z.apex z.sets) 0
def dO(z:Zon):Nat->List Str
 | 0=>[]
 | k+1=>if z.sets[k]!.set.ty=2/\z.sets[k]!.set.name≠z.apex then yh (dO z k) z.sets[k]!.set.name else dO z k
def stepC(m:List Str)(cut n:Str):Str :=
 let c:=if cut≠[]/\fT n cut=false then[]else cut
 if c=[]/\nS m n=true then n else c
def dL(m:List Str)(l:List Sgd):Nat->List Str×Str
 | 0=>([],[])
 | k+1=>let c:=stepC m (dL m l k).2 l[k]!.set.name;((dL m l k).1++[c],c)
def kH(z:Zon):List Str:=(dL (dO z z.sets.length) z.sets z.sets.length).1
theorem QT{z:Zon}(h:z.sets[k]!.set.ty=2 /\ ¬z.sets[k]!.set.name=z.apex):dO z (k+1)=yh (dO z k) z.sets[k]!.set.name:=X0 h
theorem QU{z:Zon}(h : ¬(z.sets[k]!.set.ty=2 /\ ¬z.sets[k]!.set.name=z.apex)):dO z (k+1)=dO z k:=XV h
theorem Cx(m:List Str)(l:List Sgd):∀k,(dL m l k).1.length=k
 | 0=>rfl
 | k+1=>by simp[dL,Cx m l k]
def tJ(m:List Str)(l:List Sgd)(n k:Nat):List Str:=(dL m l k).1++List.replicate (n-k) []
theorem Ob{l:List Sgd}(h:k<=n):(tJ m l n k).length=n:=by simp[tJ,Cx];omega
theorem Zht{l:List Sgd}(h:k<n)(j:c=(dL m l (k+1)).2):(tJ m l n k).set k c=tJ m l n (k+1):=by
 have e:n-k=(n-(k+1))+1:=by omega
 unfold tJ;rw[e,List.replicate_succ,List.set_append_right _ _ (by rw[Cx];exact XW _),Cx,Yq,Yx];have:(dL m l (k+1)).1=(dL m l k).1++[c]:=by rw[j];rfl
 rw[this,YR];rfl
@[go_sem]theorem rowsB_0{l:List Sgd}:(tJ m l n 0).map sR=List.replicate n [.v (.string (bs []))]:=by simp[tJ,dL,sR]
def Fe{l:List Sgd}(h:k<n)(j:(dL m l (k+1)).2=c):((tJ m l n k).map sR).set k [.v (.string (bs c))]=(tJ m l n (k+1)).map sR:=by rw[<-Zht h j.symm,List.map_set];rfl
@[go_sem]theorem cutsTo_0{z:Zon}:dO z 0=[]:=rfl
theorem Zhu(m:List Str)(l:List Sgd)(n:Nat):tJ m l n n=(dL m l n).1:=by simp[tJ]
def bB(z:Zon):Lay:=⟨z,kH z⟩
def lc(l:List Sgd)(i:Nat):Bool:=!decide (l[i]!.set.ty=3)||(!(decide (0<i)&&l[i-1]!.set.name==l[i]!.set.name) && !(decide (i+1<l.length)&&l[i+1]!.set.name==l[i]!.set.name && !decide (l[i+1]!.set.ty=8)))
def sU(x:Lay):Bool:=ax x.z.sets.length (lc x.z.sets) 0
def cutAt(x:Lay)(i:Nat):Bool:=let t:=x.z.sets[i]!.set.ty
 if x.b[i]! = []then !decide (t=6)else if x.b[i]! = x.z.sets[i]!.set.name then decide (t=2)||decide (t=6)||decide (t=8)||decide (t=1)else decide (t=1)
def mg(x:Lay):Bool:=ax x.z.sets.length (cutAt x) 0
def vX(x:Lay)(i:Nat):Bool:=!(!(x.b[i]! == [])&&(decide (x.z.sets[i]!.set.ty=2)||decide (x.z.sets[i]!.set.ty=1))&&decide (0<x.z.sets[i]!.sigs.length))
def Ca(x:Lay):Bool:=ax x.z.sets.length (vX x) 0
def sI(z:Zon)(i:Nat):Bool:=kg z.sets[i]!.sigs z.apex
def Cb(x:Lay):Bool:=ax x.z.sets.length (sI x.z) 0
def ak(z:Zon):Bool:=ordered z&&ru z&&sU (bB z)&&mg (bB z)&&Ca (bB z)&&Cb (bB z)
def MO(z:Zon):(bB z).b.length=(bB z).z.sets.length:=Cx _ _ _
def OG{z:Zon}(h:ordered z=true):z.sets.length<=1000000:=by simp only[ordered,XU,XY]at h;omega
def zM{z:Zon}(h:ak z=true):z.sets.length<=1000000:=by simp only[ak,XU]at h;exact OG h.1.1.1.1.1
def ZeT{z:Zon}(h:ak z=true):aV z.sets ⟨z.apex,4⟩<z.sets.length/\0<z.sets[aV z.sets ⟨z.apex,4⟩]!.set.data.length:=by simp only[ak,XU]at h;let⟨⟨⟨⟨⟨J,Y⟩,_⟩,_⟩,_⟩,_⟩:=h;simp only[ru,XU]at Y;have A:=(dG _ _ _).1 Y.1 0 (XW _) (by omega);simp only[ng,Zm,bV,XU,XY]at A;refine⟨A.1,?_⟩;simp only[ordered,XU]at J;have a:=(dG _ _ _).1 J.2 _ (Yh _) A.1;simp only[lW,XU]at a;have:=((iA _).1 a.1.1).len;omega
def aL(z:Zon):Int:=z.sets[aV z.sets ⟨z.apex,4⟩]!.set.data[0]!.n
open Go.Cmp
variable{b:Qst}{hs:List Str}{l:List Sgd}{s:Str}{z:Zon}
def sK(x:Sgd):Prop:=x.set.data.length<=100000/\x.sigs.length<=100000
def cZ(l:List Sgd):Prop:=l.length<=1000000 /\ ∀k,k<l.length->sK l[k]!
def uQ(z:Zon):Prop:=z.sets.length<=1000000 /\ ∀k,k<z.sets.length->z.sets[k]!.set.name.length<=1000
theorem ZfZ{a b:Sgd}(h1:a.set=b.set)(c:a.sigs.length=b.sigs.length)(h : ∀i,i<a.sigs.length->a.sigs[i]! = b.sigs[i]!):lT a b=true :=
 YB (NP h1 (FC! c h))
theorem Zf1{a b:Sgd}(h : ¬(a.set=b.set/\a.sigs.length=b.sigs.length)):lT a b=false :=
 YY λe=>h ⟨by rw[e],by rw[e]⟩
theorem Zf0{a b:Sgd}(h:a.sigs[k]! ≠ b.sigs[k]!):lT a b=false :=
 YY λe=>h (by rw[e])
theorem Uh{a b:List Sgd}(h:lT a[k]! b[k]! = false):rJ a b=false :=
 YY λe=>(of_decide_eq_false h) (by rw[e])
theorem Uc{a b:List Sgd}(c:a.length=b.length)(h : ∀i,i<a.length->lT a[i]! b[i]! = true):rJ a b=true :=
 YB (FC! c λi hi=>YP (h i hi))
theorem Ud{a b:List Sgd}(h:a.length≠b.length):rJ a b=false:=YY λe=>h (by rw[e])
theorem ZgU(a b:Zon):nJ a b=(a.apex==b.apex&&rJ a.sets b.sets):=by cases a;cases b;rw[YD];simp[nJ,rJ]
def vL(a:Str)(l:List Sgd)(i:Nat):Bool:=fw l[i]!.set&&ig l[i]!.set.name a&&(decide (i=0)||decide (mH l[i-1]!.set l[i]!.set<0))
def nQ(z:Zon):Bool:=ai z.apex && !AQ z.apex&&decide (z.sets.length<=20000)&&ax z.sets.length (vL z.apex z.sets) 0
def G8(h:nQ z=true):uQ z:=by simp only[nQ,XU,XY]at h;refine⟨om,λk X=>?_⟩;have:=(dG _ _ _).1 h.2 k (Yh _) X;simp only[vL,XU]at this;have:=iE ((iA _).1 this.1.1).name;omega
def Zgb{s:RSet}(h:fw s=true):s.name.length<=1000:=by have:=iE ((iA _).1 h).name;omega
def uk(l:List Sgd)(q:Qst)(k:Nat):Int:=if k<l.length then(if l[k]!.q=q then(k:Int)else uk l q (k+1))else -1
termination_by l.length-k
theorem xE(l:List Sgd)(q:Qst)(k:Nat):uk l q k=if k<l.length then(if l[k]!.q=q then(k:Int)else uk l q (k+1))else -1:=by rw[uk]
def dV(l:List Sgd)(q:Qst):Int:=uk l q 0
theorem Zaa(l:List Sgd)(q:Qst):∀n k,l.length-k<=n->uk l q k<l.length/\(0<=uk l q k->l[(uk l q k).toNat]!.q=q):=by
 intro n;induction n with
 | zero=>intro k h;rw[xE,XV (by omega)];exact⟨om,λh=>by omega⟩
 | succ n a =>
  intro k h;rw[xE];split
  .
   split
   . rename_i J Y;exact⟨om,λ_=>by simpa using Y⟩
   exact a (k+1) om
  exact⟨om,λh=>by omega⟩
def Rq(l:List Sgd)(q:Qst):dV l q<l.length:=(Zaa l q _ 0 (XW _)).1
def Zco{q:Qst}(h:0<=dV l q):l[(dV l q).toNat]!.q=q:=(Zaa l q _ 0 (XW _)).2 h
def tq(z:Zon):Bool:=decide (0<=dV z.sets ⟨z.apex,4⟩)&&decide (0<=dV z.sets ⟨z.apex,2⟩)&&ax z.sets.length (oq z.apex z.sets) 0
def iT(l:List Sgd):Nat->Str
 | 0=>[]
 | k+1=>if l[k]!.set.ty=3 then l[k]!.set.name else iT l k
def lC(l:List Sgd)(i:Nat):Str:=if 0<i/\l[i-1]!.set.name=l[i]!.set.name then l[i]!.set.name else[]
def kL(l:List Sgd)(i:Nat):Bool:=!((!(lC l i==[])&&decide (l[i]!.set.ty=3))||(!(lC l i==[])&&(lC l i==iT l (i+1)) && !decide (l[i]!.set.ty=3) && !decide (l[i]!.set.ty=8)))
def oZ(z:Zon):Bool:=ax z.sets.length (kL z.sets) 0
def mf(z:Zon):Nat->List Str
 | 0=>[]
 | k+1=>if z.sets[k]!.set.ty=2/\z.sets[k]!.set.name≠z.apex then mf z k++[z.sets[k]!.set.name]else mf z k
def gW(z:Zon):List Str:=mf z z.sets.length
def eu(cs:List Str):Nat->List Str
 | 0=>[]
 | k+1=>if eu cs k=[]\/ig cs[k]! (eu cs k)[(eu cs k).length-1]! = false then eu cs k++[cs[k]!]else eu cs k
def cO(z:Zon):List Str:=eu (gW z) (gW z).length
def uw(hs:List Str)(n:Str)(i:Nat):Nat:=if i<hs.length then(if fQ hs[i]! n<=0 then uw hs n (i+1)else i)else i
termination_by hs.length-i
theorem Cz(hs:List Str)(n:Str)(i:Nat):uw hs n i=if i<hs.length then(if fQ hs[i]! n<=0 then uw hs n (i+1)else i)else i:=by rw[uw]
theorem ZpS(hs:List Str)(n:Str):∀m i,hs.length-i<=m->i<=hs.length->i<=uw hs n i/\uw hs n i<=hs.length:=by
 intro m;induction m with
 | zero=>intro i h Y;rw[Cz,XV (by omega)];omega
 | succ m k =>
  intro i h Y;rw[Cz];split
  .
   split
   . have:=k (i+1) om om;omega
   omega
  omega
def jM(hs:List Str)(n:Str)(j:Nat):Str:=if 0<j/\ig n hs[j-1]! = true then hs[j-1]! else[]
def iJ(hs:List Str)(l:List Sgd):Nat->Nat
 | 0=>0
 | k+1=>uw hs l[k]!.set.name (iJ hs l k)
def mZ(hs:List Str)(l:List Sgd):Nat->List Str
 | 0=>[]
 | k+1=>mZ hs l k++[jM hs l[k]!.set.name (iJ hs l (k+1))]
def gK(z:Zon):List Str:=mZ (cO z) z.sets z.sets.length
theorem AJ(hs:List Str)(l:List Sgd):∀k,(mZ hs l k).length=k
 | 0=>rfl
 | k+1=>by simp[mZ,AJ hs l k]
def nK(hs:List Str)(l:List Sgd)(n k:Nat):List Str:=mZ hs l k++List.replicate (n-k) []
theorem Oa(h:k<=n):(nK hs l n k).length=n:=by simp[nK,AJ];omega
theorem Zhq(h:k<n)(j:jM hs l[k]!.set.name (iJ hs l (k+1))=c):(nK hs l n k).set k c=nK hs l n (k+1):=by
 have e:n-k=(n-(k+1))+1:=by omega
 unfold nK;rw[e,List.replicate_succ,List.set_append_right _ _ (by rw[AJ];exact XW _),AJ,Yq,Yx,<-j];have:mZ hs l (k+1)=mZ hs l k++[jM hs l[k]!.set.name (iJ hs l (k+1))]:=rfl;rw[this,YR];rfl
def Km(h:k<n)(j:jM hs l[k]!.set.name (iJ hs l (k+1))=c):((nK hs l n k).map sR).set k [.v (.string (bs c))]=(nK hs l n (k+1)).map sR:=by rw[<-Zhq h j,List.map_set];rfl
def Kn(h:k<n)(j:jM hs l[k]!.set.name (iJ hs l (k+1))=[]):nK hs l n (k+1)=nK hs l n k:=by
 have e:n-k=(n-(k+1))+1:=by omega
 have:mZ hs l (k+1)=mZ hs l k++[jM hs l[k]!.set.name (iJ hs l (k+1))]:=rfl;unfold nK;rw[e,List.replicate_succ,this,j,YR];rfl
@[go_sem]theorem rowsR_0:(nK hs l n 0).map sR=List.replicate n [.v (.string (bs []))]:=by simp[nK,mZ,sR]
theorem Zhr(hs:List Str)(l:List Sgd)(n:Nat):nK hs l n n=mZ hs l n:=by simp[nK]
def uo(z:Zon):Bool:=mg ⟨z,gK z⟩
def iW(x:Lay)(i:Nat):Bool:=x.b[i]! == []||(!decide (x.z.sets[i]!.set.ty=2) && !decide (x.z.sets[i]!.set.ty=1))
def pE(x:Lay):Nat->List Bool
 | 0=>[]
 | k+1=>pE x k++[iW x k]
def uL(z:Zon):List Bool:=pE ⟨z,gK z⟩ z.sets.length
theorem xm(x:Lay):∀k,(pE x k).length=k
 | 0=>rfl
 | k+1=>by simp[pE,xm x k]
theorem OB(x:Lay):∀n k,k<n->(pE x n)[k]! = iW x k:=by
 intro n;induction n with
 | zero=>intro k h;omega
 | succ n c =>
  intro k h;have a:=xm x n;by_cases e:k=n
  . subst e;simp[pE,a]
  have X:k<n:=by omega
  rw[<-c k X];simp only[pE];rw[getElem!_pos _ _ (by simp[a];omega),getElem!_pos _ _ (by omega),List.getElem_append_left]
def bR(b:Bool):List D:=[.b b]
def o8(x:Lay)(n k:Nat):List Bool:=pE x k++List.replicate (n-k) false
theorem Fb{x:Lay}(h:k<=n):(o8 x n k).length=n:=by simp[o8,xm];omega
def rO{x:Lay}{c:Bool}(h:k<n)(j:iW x k=c):((o8 x n k).map bR).set k [.b c]=(o8 x n (k+1)).map bR:=by
 have e:n-k=(n-(k+1))+1:=by omega
 have:pE x (k+1)=pE x k++[c]:=by rw[<-j];rfl
 have O:(o8 x n k).set k c=o8 x n (k+1):=by unfold o8;rw[e,List.replicate_succ,List.set_append_right _ _ (by rw[xm];exact XW _),xm,Yq,Yx,this,YR];rfl
 rw[<-O,List.map_set];rfl
@[go_sem]theorem rowsO_0{x:Lay}:(o8 x n 0).map bR=List.replicate n [.b false]:=by simp[o8,pE,bR]
theorem UI(x:Lay)(n:Nat):o8 x n n=pE x n:=by simp[o8]
@[go_sem]theorem nrr_bR{l:List Bool}:aQ (l.map bR)=true:=by
 induction l with
 | nil=>rfl
 | cons x l k=>simp only[X7,aQ,k,bR,aX];rfl
@[go_sem]theorem wkr_bR{l:List Bool}:dB (l.map bR)=l.map bR:=by
 induction l with
 | nil=>rfl
 | cons x l k=>simp only[X7,dB,k,bR,dA];rfl
@[go_sem]theorem all_bR{l:List Bool}:(∀r∈l.map bR,r.length=1)=True:=by apply eq_true;intro r O;obtain⟨x,_,rfl⟩:=Yp.1 O;rfl
def IK{l:List Bool}(h:n<l.length):(l.map bR).getD n []=[.b l[n]!]:=by simp[List.getD,h,bR,getElem!_pos]
def yT(x:Lay)(i:Nat):Bool:=sI x.z i&&vX x i
def uX(z:Zon):Bool:=ax z.sets.length (yT ⟨z,gK z⟩) 0
def jA(z:Zon):Bool:=nQ z&&tq z&&oZ z&&uo z&&uX z
def dF(z:Zon):Int:=z.sets[(dV z.sets ⟨z.apex,4⟩).toNat]!.set.data[0]!.n
def xO(z:Zon):Bool:=decide (z.sets.length<=100)&&ax z.sets.length (λi=>decide (z.sets[i]!.set.data.length<=20)&&decide (z.sets[i]!.sigs.length<=20)) 0
structure aM where
 apex:Str
 frm:Int
 too:Int
 drop:List Qst
 put:List Sgd
 deriving Inhabited,DecidableEq
def aM.d(x:aM):List D:=[.v (.string (bs x.apex)),.i x.frm,.i x.too,.l (x.drop.map Qst.d),.l (x.put.map Sgd.d)]
def aM.of:List D->aM
 | [.v (.string s),.v (.int _ a),.v (.int _ b),.list _ q,.list _ r]=>⟨s.data.toList,a,b,q.map Qst.of,r.map Sgd.of⟩
 | _=>default
def jK:D->aM:=pV aM.of default
attribute [go_sem] aM.d
def Zi1(x:aM):aM.of x.d=x:=by simp[aM.of,aM.d,mh,lG OP,lG Fu]
def dlt1_agg{s:ByteArray}{a b:Int}{k k':IntKind}{c:Bool}{q r:List (List D)}:jK (.agg [.v (.string s),.v (.int k a),.v (.int k' b),.list f q,.list c r])=⟨s.data.toList,a,b,KD (.list f q),eZ (.list c r)⟩:=rfl
def dlt_eta{x:aM}:(⟨x.apex,x.frm,x.too,x.drop,x.put⟩:aM)=x:=rfl
attribute[go_sem]dlt1_agg dlt_eta
def iB(x:Int):Bool:=decide (0<=x)&&decide (x<65536)
def gX(a b:Int):Bool:=decide (1<=(b-a+65536) % 65536)&&decide ((b-a+65536) % 65536<=32767)
def nT(a b:Int):Bool×Int:=if iB a&&iB b then(gX a b,0)else(false,1)
def qO(a b:Qst):Int:=mH ⟨a.name,a.ty,0,[]⟩ ⟨b.name,b.ty,0,[]⟩
def qY(l:List Qst)(q:Qst):Bool:=decide (q∈l)
def F6(l:List Qst)(i:Nat):Bool:=ku l[i]! && (decide (i=0)||decide (qO l[i-1]! l[i]! < 0))
def putAt(d:aM)(i:Nat):Bool:=fw d.put[i]!.set&&(decide (i=0)||decide (qO d.put[i-1]!.q d.put[i]!.q<0)) && !qY d.drop d.put[i]!.q
def fO(d:aM):Bool:=ai d.apex && !jq d.apex&&iB d.frm&&iB d.too&&gX d.frm d.too&&decide (d.drop.length<=20000)&&decide (d.put.length<=20000)&&ax d.drop.length (F6 d.drop) 0&&ax d.put.length (putAt d) 0
def Kv(h:jA z=true):nQ z=true/\tq z=true/\oZ z=true/\uo z=true/\uX z=true:=by simp only[jA,XU]at h;exact⟨h.1.1.1.1,h.1.1.1.2,h.1.1.2,h.1.2,h.2⟩
def Od(h:jA z=true)(hk:k<z.sets.length):ve z.sets[k]!.set:=by have J:=(Kv h).1;simp only[nQ,XU]at J;have:=(dG _ _ _).1 J.2 k (Yh _) hk;simp only[vL,XU]at this;exact(iA _).1 this.1.1
def UV(h:jA z=true):z.sets.length<=20000:=by have J:=(Kv h).1;simp only[nQ,XU,XY]at J;exact J.1.2
def ZhI(h:jA z=true)(hk:k<z.sets.length):z.sets[k]!.sigs.length<=6:=by have J:=(Kv h).2.2.2.2;simp only[uX]at J;have:=(dG _ _ _).1 J k (Yh _) hk;simp only[yT,sI,kg,XU,XY]at this;exact this.1.1
def ZhJ(h:jA z=true):cZ z.sets:=by
 have a:=UV h;refine⟨om,λk X=>⟨?_,?_⟩⟩
 . have:=(Od h X).len;omega
 have:=ZhI h X;omega
theorem GX(h:jA z=true):0<=dV z.sets ⟨z.apex,4⟩:=by have J:=(Kv h).2.1;simp only[tq,XU,XY]at J;exact J.1.1
def UU(h:jA z=true):(dV z.sets ⟨z.apex,4⟩).toNat<z.sets.length:=by have:=GX h;have:=Rq z.sets ⟨z.apex,4⟩;omega
def UW(h:jA z=true):0<z.sets[(dV z.sets ⟨z.apex,4⟩).toNat]!.set.data.length:=by have:=(Od h (UU h)).len;omega
def Ku(h:jA z=true):iB (dF z)=true:=by have N:=Od h (UU h);have m:=UW h;have K:=Zco (GX h);have n:z.sets[(dV z.sets ⟨z.apex,4⟩).toNat]!.set.ty=4:=congrArg Qst.ty K;have:=N.dat _ (Yz m);rw[n]at this;unfold jX at this;simp only[XU,kV]at this;have f:=this.1.1.1;rw[<-getElem!_pos _ 0 m]at f;simp only[iB,dF,XU];have J:0<=z.sets[(dV z.sets ⟨z.apex,4⟩).toNat]!.set.data[0]!.n:=f.1;have Y:z.sets[(dV z.sets ⟨z.apex,4⟩).toNat]!.set.data[0]!.n<=65535:=f.2;exact⟨YB J,YB om⟩
def sS:aM:=⟨[],0,0,[],[]⟩
def dQ:Zon:=⟨[],[]⟩


def nX(m:List Sgd):List D:=m.flatMap λs=>[.agg s.q.d,.agg s.d]
theorem BG(s:Sgd)(m:List Sgd):nX (s::m) = .agg s.q.d :: .agg s.d::nX m:=rfl
theorem ZkS:nX []=[]:=rfl
theorem DX{a:Qst}:lX (.agg a.d) (.agg b.d)=decide (a=b):=by cases a;cases b;rw[YD];simp[lX,qQ,ou,Qst.d,mh]
def fB:List Sgd->Qst->Option Sgd
 | s::m,q=>if s.q=q then some s else fB m q
 | [],_=>none
def yI:List Sgd->Sgd->List Sgd
 | x::m,s=>if x.q=s.q then s::m else x::yI m s
 | [],s=>[s]
theorem ZkQ{m:List Sgd}{s:Sgd}:ib (nX m) (.agg s.q.d) (.agg s.d)=nX (yI m s):=by
 induction m with
 | nil=>rfl
 | cons x m k =>
  rw[BG];simp only[ib,DX,yI];by_cases h:x.q=s.q
  . rw[X0 h,h];simp[BG]
  have Y : ¬s.q=x.q:=λe=>h e.symm;rw[XV h];simp only[Y,decide_false,Yn,Y8,k,BG]
@[go_sem]theorem Zi9{m:List Sgd}:aX (nX m)=true:=by
 induction m with
 | nil=>rfl
 | cons s m k =>
  rw[BG];simp only[aX,k,D.nr,Qst.d,Sgd.d,mM,Bu,Zt]
@[go_sem]theorem wks_kvQ{m:List Sgd}:dA (nX m)=nX m:=by
 induction m with
 | nil=>rfl
 | cons s m k =>
  rw[BG];simp only[dA,wk,k,Qst.d,Sgd.d,qb,CE]
def vO(l:List Sgd):Nat->List Sgd
 | 0=>[]
 | k+1=>yI (vO l k) l[k]!
def DJ(l:List Sgd):List Sgd:=vO l l.length
theorem ZjO{m:List Sgd}{s:Sgd}{q:Qst}:fB (yI m s) q=if s.q=q then some s else fB m q:=by
 induction m with
 | nil=>rfl
 | cons x m k =>
  simp only[yI,fB];by_cases h:x.q=s.q
  .
   rw[X0 h];simp only[fB];by_cases Y:s.q=q
   . simp[Y]
   rw[XV Y,XV Y,XV (by rw[h];exact Y)]
  rw[XV h];simp only[fB,k];by_cases Y:s.q=q
  . rw[X0 Y,X0 Y,XV (by rw[<-Y];exact h)]
  rw[XV Y,XV Y]
def qS(a:Qst):RSet:=⟨a.name,a.ty,0,[]⟩
theorem Zh9(a b:Qst):qC a b=plC (qS a) (qS b):=rfl
theorem Ve(a b:Qst):qO a b=mH (qS a) (qS b):=rfl
theorem G6{a:Qst}(m:ai a.name=true)(p:ai b.name=true):qC a b=qO a b:=by rw[Zh9,Ve,plC_c (a:=qS a) (b:=qS b) m p,U5 (a:=qS a) (b:=qS b) m p]
def Zh8{a:Qst}(m:ai a.name=true)(p:ai b.name=true):qO a b=zI (qS a) (qS b):=by rw[Ve,U5 (a:=qS a) (b:=qS b) m p]
theorem Zcb(c:Nat->Int)(n:Nat)(mono : ∀i j,i<=j->j<n->c j<0->c i<0):∀m i j,j-i<=m->i<=j->j<=n->(∀k,k<i->c k<0)->(∀k,j<=k->k<n -> ¬c k<0) ->
  (∀k,k<kG c i j->c k<0)/\(∀k,kG c i j<=k->k<n -> ¬c k<0):=by
 intro m;induction m with
 | zero =>
  intro i j J Y A g p;rw[wN,XV (by omega)];exact⟨g,λk X f=>p k om f⟩
 | succ m o =>
  intro i j J Y A g p;rw[wN];by_cases a:i<j
  .
   rw[X0 a];by_cases h:c ((i+j) / 2)<0
   . rw[X0 h];exact o _ _ om om A (λk X=>mono k ((i+j) / 2) om om h) p
   rw[XV h];exact o _ _ om om om g (λk X f U=>h (mono _ k X f U))
  rw[XV a];exact⟨g,λk X f=>p k om f⟩
theorem W9{α:Type}{c:α->α->Int}(h:Cm c):∀p r:List α,lex c p (p++r)<=0
 | [],[]=>by simp[lex]
 | [],_::_=>by simp[lex]
 | x::p,r=>by show rC (c x x) (lex c p (p++r))<=0;rw[mD,X0 (h.self x)];exact W9 h p r
theorem Xa{α:Type}{c:α->α->Int}(h:Cm c)(j : ∀x y,c x y=0->x=y):∀p r x:List α,lex c p x<=0->lex c x (p++r)<=0->p <+: x
 | [],r,x,_,_=>List.nil_prefix
 | a::p,r,[],J,_=>by simp[lex]at J
 | a::p,r,b::x,J,Y=>by
  have f:rC (c a b) (lex c p x)<=0:=J;have g:rC (c b a) (lex c x (p++r))<=0:=Y;rw[mD]at f g;have m:=h.anti a b;by_cases e:c a b=0
  .
   have O:c b a=0:=by omega
   rw[X0 e]at f;rw[X0 O]at g;obtain rfl:=j _ _ e;obtain⟨t,rfl⟩:=Xa h j p r x f g;exact⟨t,rfl⟩
  rw[XV e]at f;rw[XV (by omega)]at g;omega
def dW(n c:Str):Prop:=dH c <+: dH n
def JH(n:Str):dW n n:=List.prefix_rfl
def Nc{b:Str}(h:dW a b)(k:dW b c):dW a c:=List.IsPrefix.trans k h
def Sy{b:Str}(h:dW a b)(k:dW b a):a=b :=
 Db (List.IsPrefix.eq_of_length k (Nat.le_antisymm (List.IsPrefix.length_le k) (List.IsPrefix.length_le h)))
def ZdF{n b:Str}(h:dW n a)(k:dW n b):dW a b\/dW b a:=List.prefix_or_prefix_of_prefix k h
theorem Wq(a b:Str):fQ a b=lex Go.Lib.compareBytes (dH a) (dH b):=KM _ _
def Ng{n:Str}(h:dW n c):fQ c n<=0:=by let⟨r,O⟩:=h;rw[Wq,<-O];exact W9 MI _ _
def Nf{n x:Str}(h:dW n c)(h1:fQ c x<=0)(h2:fQ x n<=0):dW x c:=by let⟨r,O⟩:=h;rw[Wq]at h1 h2;rw[<-O]at h2;exact Xa MI (λ_ _=>Rb) _ _ _ h1 h2
theorem D7{z:Str}:ig s z=true↔dW s z:=by
 unfold dW;rw[<-KH,<-KH,List.reverse_prefix];unfold ig;rw[XU,XY,dG];constructor
 .
  rintro⟨J,Y⟩;refine⟨(bA s).take ((bA s).length-(bA z).length),?_⟩
  conv=>rhs;rw[<-Zj ((bA s).length-(bA z).length) (bA s)]
  congr 1;refine List.ext_getElem (by simp;omega) λi hi A=>?_;have:=Y i (Yh _) hi;unfold Aa at this;rw[YF,getElem!_pos (bA s) _ (by omega),getElem!_pos (bA z) _ hi]at this;rw[List.getElem_drop,this]
 rintro⟨a,m⟩;have h:(bA s).length=a.length+(bA z).length:=by rw[<-m,X3]
 refine⟨om,λi _ hi=>?_⟩;unfold Aa;have e:(bA s).length-(bA z).length+i=a.length+i:=by omega
 rw[YF,e,getElem!_pos (bA s) _ (by omega),getElem!_pos (bA z) _ hi];have:(bA s)[a.length+i]? = some (bA z)[i]:=by rw[<-m,YN (by omega)];simp[hi]
 exact(X8.1 this).2
theorem Pm:gJ []=false:=by unfold gJ;simp
theorem O1:ai []=false:=by rw[WE,XV (by simp),XV (by simp),xg];simp[split,sW,Pm]
theorem XK : ∀(a b:List Str),a≠[]->b≠[]->jT (a++b)=jT a++46::jT b
 | [],_,h,_=>absurd rfl h
 | [p],[],_,h=>absurd rfl h
 | [p],q::r,_,_=>rfl
 | p::q::r,b,_,c=>by have k:=XK (q::r) b (by simp) c;show p++46::jT ((q::r)++b)=_;rw[k];simp[jT]
theorem ZeD{z:Str}:split z <:+ split s↔s=z \/ ∃a,s=a++46::z:=by
 constructor
 .
  rintro⟨a,m⟩;by_cases h:a=[]
  . subst h;left;rw[<-DZ s,<-DZ z,<-m];rfl
  right;refine⟨jT a,?_⟩;rw[<-DZ s,<-m,XK a _ h (yo z),DZ]
 rintro (h|⟨a,h⟩)
 . rw[h];exact List.suffix_rfl
 rw[h,JV];exact List.suffix_append _ _
theorem ZdC{z:Str}:(decide (z.length<s.length)&&yP s z&&decide ((s.getD (s.length-z.length-1) 0).toNat=46))=true↔∃a,s=a++46::z:=by
 rw[XU,XU,XY,XY];unfold yP;rw[XU,XY,YF];constructor
 .
  rintro⟨⟨J,c,A⟩,Y⟩;refine⟨s.take (s.length-z.length-1),?_⟩;have K:s.length-z.length-1<s.length:=by omega
  have j:s[s.length-z.length-1]=46:=by apply ZV.1;show _=46;rw[<-Y];simp[List.getD,K]
  conv=>lhs;rw[<-Zj (s.length-z.length-1) s]
  rw[YE K,j,show s.length-z.length-1+1=s.length-z.length by omega,A]
 rintro⟨a,rfl⟩;have h:(a++46::z).length=a.length+1+z.length:=by simp;omega
 refine⟨⟨om,om,?_⟩,?_⟩
 . rw[h,show a.length+1+z.length-z.length=a.length+1 by omega];simp
 rw[h,show a.length+1+z.length-z.length-1=a.length by omega];simp
theorem JG{z:Str}(hs:ai s=true)(hz:ai z=true):under s z=true↔dW s z:=by
 unfold under dW;rw[Yc,Yc,YF,YF,ZdC];by_cases c:z=[46]
 .
  subst c;have:dH [46]=[]:=by simp[dH]
  rw[this];simp
 by_cases f:s=[46]
 .
  subst f;have J:dH [46]=[]:=by simp[dH]
  rw[J];constructor
  .
   rintro ((h|h)|⟨a,h⟩)
   . exact absurd h.symm c
   . exact absurd h c
   cases a with
   | nil =>
    have:z=[]:=by simpa using h
    subst this;rw[O1]at hz;cases hz
   | cons x a=>simp at h
  intro h;have:=List.prefix_nil.1 h;unfold dH at this;rw[XV c,tH]at this;cases this
 have y:dH s=(split s).reverse:=by unfold dH;rw[XV f,xg]
 have O:dH z=(split z).reverse:=by unfold dH;rw[XV c,xg]
 rw[y,O,List.reverse_prefix,ZeD];constructor
 .
  rintro ((h|h)|h)
  . exact .inl h
  . exact absurd h c
  exact .inr h
 rintro (h|h)
 . exact .inl (.inl h)
 exact .inr h
theorem Gt{z:Str}(hs:ai s=true)(hz:ai z=true):fT s z=true↔dW s z:=by unfold fT;rw[hs,hz,ZE,ZE,JG hs hz]
def ZdD{z:Str}(hs:ai s=true)(hz:ai z=true):fT s z=ig s z:=by rw[YD,Gt hs hz,D7]
theorem R7(h:ai s=true):jq s=AQ s:=by
 by_cases e:s=[46]
 . subst e;rfl
 have F:bA s=split s:=by unfold bA;rw[XV e,AX]
 have a:jf (split s) 0=true:=by
  unfold ai at h;rw[XV e]at h;split at h
  . cases h
  rw[XU,AX]at h;have:=Zl.2 (yo s);exact(dG _ _ _).1 h.1 0 (XW _) this
 unfold AQ;rw[F];have f:=Zl.2 (yo s);rw[YB f,ZE];cases s with
 | nil=>rw[O1]at h;cases h
 | cons c r =>
  obtain⟨p,g,K⟩:∃p g,split r=p::g:=by
   cases K:split r with
   | nil=>exact absurd K (yo r)
   | cons p g=>exact⟨p,g,rfl⟩
  by_cases j:c=46
  .
   subst j;have N:split (46::r)=[]::split r:=by rw[split,X0 rfl]
   rw[N]at a;simp[jf,Pm]at a
  have N:split (c::r)=(c::p)::g:=by rw[split,XV j,K]
  rw[N]at a ⊢;simp only[jf,List.getElem!_cons_zero,decide_true,ZE]at a ⊢;rw[YD];unfold jq;simp only[YI,List.getD_cons_zero,XU,XY,YF];constructor
  .
   rintro⟨_,J⟩;rw[Yc]at a;rcases a with Y|Y
   . exfalso;unfold gJ at Y;rw[XU,XU]at Y;have:=(dG _ _ _).1 Y.1.1 0 (XW _) (by simp);simp[rT,uu,J]at this
   exact YF.1 Y
  intro J;have:=(List.cons.inj J).1;subst this;exact⟨om,rfl⟩
def qp(a b:Qst):Int:=zI (qS a) (qS b)
def MG:Cm qp:=Av cm_pl qS
theorem Bh{a:Qst}:qp a b=0↔a=b:=by unfold qp;rw[Zin];cases a;cases b;simp[qS]
theorem Bi{a:Qst}(m:ai a.name=true)(p:ai b.name=true):qO a b=qp a b:=Zh8 m p
theorem Fj{a:Qst}(m:ai a.name=true)(p:ai b.name=true):qC a b=qp a b:=by rw[G6 m p,Bi m p]
def Vd{a:Qst}(h:qp a b<0):fQ a.name b.name<=0/\(a.name=b.name->a.ty<b.ty):=by
 have J:rC (fQ a.name b.name) (Go.Cmp.cmpI a.ty b.ty)<0:=h;rw[mD]at J;split at J
 .
  rename_i e;refine⟨om,λ_=>?_⟩;unfold Go.Cmp.cmpI at J;split at J
  . assumption
  split at J<;>omega
 rename_i e;refine⟨om,λO=>?_⟩;rw[O,y5.self]at e;exact absurd rfl e
def sp(a b:Sgd):Int:=qp a.q b.q
def mY:Cm sp:=Av MG Sgd.q
def fe(l:List Sgd):Prop:=j5 sp l
theorem JO[Inhabited α]{c:α->α->Int}(h:Cm c){l:List α}(k : ∀i,0<i->i<l.length->c l[i-1]! l[i]! < 0):j5 c l:=by
 induction l with
 | nil=>exact .nil
 | cons x r f =>
  have f:=f λi J Y=>by have:=k (i+1) om (by simp;omega);obtain⟨j,rfl⟩:∃j,i=j+1:=⟨i-1,om⟩;simpa using this
  refine YJ.2 ⟨?_,f⟩;cases r with
  | nil=>simp
  | cons y r =>
   have J:=k 1 (by omega) (by simp);have a:c x y<0:=by simpa using J
   intro z V;rcases Yl.1 V with e|e
   . subst e;exact a
   have:=(YJ.1 f).1 z e;exact h.lt_le a om
def yn[Inhabited α]{c:α->α->Int}{l:List α}(h:j5 c l){j:Nat}(a:i<j)(A:j<l.length):c l[i]! l[j]! < 0:=by rw[getElem!_pos l i (by omega),getElem!_pos l j A];exact Y6.1 h i j om A a
theorem Gx{α:Type}{c:α->α->Int}(h:Cm c):∀{l m:List α},j5 c l->j5 c m->(∀x,x∈l↔x∈m)->l=m
 | [],[],_,_,_=>rfl
 | [],y::s,_,_,k=>by have:=(k y).2 (by simp);simp at this
 | x::r,[],_,_,k=>by have:=(k x).1 (by simp);simp at this
 | x::r,y::s,g,v,k=>by
  have a:=YJ.1 g;have f:=YJ.1 v;have e:x=y:=by
   rcases Yl.1 ((k x).1 (by simp))with e|e
   . exact e
   rcases Yl.1 ((k y).2 (by simp))with e2|e2
   . exact e2.symm
   have J:=f.1 x e;have Y:=a.1 y e2;have:=h.anti x y;omega
  subst e;congr 1;refine Gx h a.2 f.2 λz=>⟨λV=>?_,λV=>?_⟩
  .
   rcases Yl.1 ((k z).1 (by simp[V]))with e|e
   . subst e;have:=a.1 z V;have:=h.self z;omega
   exact e
  rcases Yl.1 ((k z).2 (by simp[V]))with e|e
  . subst e;have:=f.1 z V;have:=h.self z;omega
  exact e
def jh[Inhabited α]{l:List α}{x:α}:x∈l↔∃i,i<l.length/\l[i]! = x:=by
 constructor
 . intro h;let⟨i,hi,e⟩:=Zb h;exact⟨i,hi,by rw[getElem!_pos l i hi,e]⟩
 rintro⟨i,hi,e⟩;rw[getElem!_pos l i hi]at e;exact e▸Yz hi
theorem eO[Inhabited α]{l:List α}(h:i<l.length):l[i]! ∈ l:=jh.2 ⟨i,h,rfl⟩
theorem za[Inhabited α]{l:List α}{p:α->Prop}:(∀x∈l,p x)↔∀i,i<l.length->p l[i]! :=
 ⟨λh i hi=>h _ (eO hi),λh x E=>by obtain⟨i,hi,rfl⟩:=jh.1 E;exact h i hi⟩
theorem zR{q:Qst}{s:Sgd}(h:fB l q=some s):s∈l/\s.q=q:=by
 induction l with
 | nil=>cases h
 | cons x l k =>
  unfold fB at h;split at h
  . rename_i e;cases h;exact⟨by simp,e⟩
  exact⟨by simp[(k h).1],(k h).2⟩
theorem Fx{q:Qst}:fB l q=none↔∀s∈l,s.q≠q:=by
 induction l with
 | nil=>simp[fB]
 | cons x l k =>
  unfold fB;split
  . rename_i e;simp[e]
  rename_i e;rw[k];simp[e]
theorem vN(h:fe l){s:Sgd}(hs:s∈l):fB l s.q=some s:=by
 induction l with
 | nil=>cases hs
 | cons x l k =>
  have I:=YJ.1 h;unfold fB;rcases Yl.1 hs with e|e
  . subst e;rw[X0 rfl]
  have:=I.1 s e;rw[XV,k I.2 e];intro O;unfold sp at this;rw[Bh.2 O]at this;omega
theorem WH(h:fe l){s:Sgd}:s∈l↔fB l s.q=some s:=⟨vN h,λh=>(zR h).1⟩
def ZiP{m:List Sgd}(a:fe l)(v:fe m)(h : ∀q,fB l q=fB m q):l=m :=
 Gx mY a v λs=>by rw[WH a,WH v,h]
theorem Zlt(l:List Sgd)(q:Qst):∀n k,l.length-k<=n->fB (l.drop k) q=if uk l q k<0 then none else some l[(uk l q k).toNat]! := by
 intro n;induction n with
 | zero =>
  intro k h;have e:uk l q k = -1:=by rw[xE,XV (by omega)]
  rw[e,Y5 (by omega),X0 (by omega)];rfl
 | succ n a =>
  intro k h;rw[xE];by_cases X:k<l.length
  .
   rw[X0 X,YE X];unfold fB;rw[getElem!_pos l k X];by_cases e:l[k].q=q
   . rw[X0 e,X0 e,XV (by omega),show((k:Int)).toNat=k by omega,getElem!_pos l k X]
   rw[XV e,XV e,a (k+1) (by omega)]
  rw[XV X,Y5 (by omega),X0 (by omega)];rfl
def MR(l:List Sgd)(q:Qst):fB l q=if dV l q<0 then none else some l[(dV l q).toNat]! := Zlt l q _ 0 (XW _)
theorem Cf{q:Qst}(t:fe l)(hn : ∀s∈l,ai s.set.name=true)(hq:ai q.name=true):fB l q=if bV l q=true then some l[aV l q]! else none:=by
 have a : ∀k,k<l.length->qC l[k]!.q q=qp l[k]!.q q:=λk X=>Fj (hn _ (eO X)) hq;let⟨J,Y⟩:=Zcb (λk=>qC l[k]!.q q) l.length (λi j g A h=>by
   rw[a _ (by omega)];rw[a _ A]at h;by_cases e:i=j
   . subst e;exact h
   exact MG.lt_le (yn t (by omega:i<j) A) om) _ 0 l.length (XW _) (Yh _) (XW _) (λk X=>by omega) (λk J Y=>by omega)
 have J : ∀k,k<aV l q->qC l[k]!.q q<0:=J;have Y : ∀k,aV l q<=k->k<l.length -> ¬qC l[k]!.q q<0:=Y;have m:aV l q<=l.length:=(Rh _ _ 0 l.length (XW _) (Yh _)).1;by_cases h:bV l q=true
 . rw[X0 h];unfold bV at h;rw[XU,XY,YF]at h;let⟨c,f⟩:=h;rw[a _ c,Bh]at f;have U:=vN t (eO c);rw[f]at U;exact U
 rw[XV h,Fx];intro s N e;apply h;obtain⟨k,X,rfl⟩:=jh.1 N;have V:qC l[k]!.q q=0:=by rw[a _ X,Bh,e]
 have n:aV l q<=k:=by
  rcases YK k (aV l q)with U|U
  . have:=J k U;omega
  exact U
 have v:aV l q=k:=by
  rcases YK (aV l q) k with U|U
  . have W:=Y (aV l q) (XW _) (by omega);rw[a _ (by omega)]at W;have o:=yn t U X;have T:qp l[aV l q]!.q l[k]!.q<0:=o;rw[e]at T;omega
  omega
 unfold bV;rw[v,YB X,V];rfl
structure mi(z:Zon):Prop where
 apex:ai z.apex=true
 wild:jq z.apex=false
 len:z.sets.length<=20000
 ok : ∀s∈z.sets,ve s.set
 und : ∀s∈z.sets,dW s.set.name z.apex
 ord:fe z.sets
def mi.nms(h:mi z):∀s∈z.sets,ai s.set.name=true:=λs N=>(h.ok s N).name
theorem zL:ordered z=true↔mi z:=by
 unfold ordered;rw[XU,XU,XU,XY,Ya,dG];have c : ∀i,lW z.apex z.sets i=true↔(fw z.sets[i]!.set=true/\fT z.sets[i]!.set.name z.apex=true)/\(i=0\/qC z.sets[i-1]!.q z.sets[i]!.q<0):=by intro i;simp[lW]
 constructor
 .
  rintro⟨⟨⟨J,f⟩,A⟩,Y⟩;have Y : ∀i,i<z.sets.length->_:=λi hi=>(c i).1 (Y i (Yh _) hi);refine⟨J,f,A,za.2 λi hi=>(iA _).1 (Y i hi).1.1,za.2 λi hi=>?_,JO mY λi p hi=>?_⟩
  . exact(Gt ((iA _).1 (Y i hi).1.1).name J).1 (Y i hi).1.2
  have U:=(Y i hi).2;rw[Fj ((iA _).1 (Y (i-1) (by omega)).1.1).name ((iA _).1 (Y i hi).1.1).name]at U;exact U.resolve_left om
 intro h;refine⟨⟨⟨h.apex,h.wild⟩,h.len⟩,λi _ hi=>(c i).2 ⟨⟨(iA _).2 (h.ok _ (eO hi)),(Gt (h.nms _ (eO hi)) h.apex).2 (h.und _ (eO hi))⟩,?_⟩⟩;by_cases e:i=0
 . exact .inl e
 right;have a:i-1<z.sets.length:=by omega
 have g:ai z.sets[i-1]!.q.name=true:=h.nms _ (eO a);have r:ai z.sets[i]!.q.name=true:=h.nms _ (eO hi);rw[Fj g r];exact yn h.ord (by omega:i-1<i) hi
theorem Kz(a b:Sgd):mH a.set b.set=qO a.q b.q:=rfl
theorem ZiV:nQ z=true↔mi z:=by
 unfold nQ;rw[XU,XU,XU,XY,Ya,dG];have c : ∀i,vL z.apex z.sets i=true↔(fw z.sets[i]!.set=true/\ig z.sets[i]!.set.name z.apex=true)/\(i=0\/qO z.sets[i-1]!.q z.sets[i]!.q<0):=by intro i;simp[vL,Kz]
 constructor
 .
  rintro⟨⟨⟨J,f⟩,A⟩,Y⟩;have Y : ∀i,i<z.sets.length->_:=λi hi=>(c i).1 (Y i (Yh _) hi);refine⟨J,by rw[R7 J];exact f,A,za.2 λi hi=>(iA _).1 (Y i hi).1.1,za.2 λi hi=>?_,JO mY λi p hi=>?_⟩
  . exact D7.1 (Y i hi).1.2
  have U:=(Y i hi).2;rw[Bi ((iA _).1 (Y (i-1) (by omega)).1.1).name ((iA _).1 (Y i hi).1.1).name]at U;exact U.resolve_left om
 intro h;refine⟨⟨⟨h.apex,by rw[<-R7 h.apex];exact h.wild⟩,h.len⟩,λi _ hi=>(c i).2 ⟨⟨(iA _).2 (h.ok _ (eO hi)),D7.2 (h.und _ (eO hi))⟩,?_⟩⟩;by_cases e:i=0
 . exact .inl e
 right;have a:i-1<z.sets.length:=by omega
 have g:ai z.sets[i-1]!.q.name=true:=h.nms _ (eO a);have r:ai z.sets[i]!.q.name=true:=h.nms _ (eO hi);rw[Bi g r];exact yn h.ord (by omega:i-1<i) hi
theorem OD(z:Zon):ordered z=nQ z:=by rw[YD,zL,ZiV]
theorem Me(h:mi z){q:Qst}(hq:ai q.name=true):bV z.sets q=decide (0<=dV z.sets q):=by
 have J:=Cf h.ord h.nms hq;have Y:=MR z.sets q;rw[J]at Y;rw[YD,XY];by_cases e:bV z.sets q=true
 .
  rw[X0 e]at Y;split at Y
  . cases Y
  exact⟨λ_=>by omega,λ_=>e⟩
 rw[XV e]at Y;split at Y
 . exact⟨λh=>absurd h e,λh=>by omega⟩
 cases Y
theorem ZaR(h:mi z){q:Qst}(hq:ai q.name=true)(a:0<=dV z.sets q):z.sets[aV z.sets q]! = z.sets[(dV z.sets q).toNat]! := by
 have J:=Cf h.ord h.nms hq;have Y:=MR z.sets q;rw[Me h hq,X0 (YB a)]at J;rw[XV (by omega),J]at Y;exact Zu Y
theorem ZpC(h:mi z):ru z=tq z:=by
 unfold ru tq;congr 1;have e:ax 2 (ng z) 0=(ng z 0&&ng z 1):=by rw[iI,X0 (by omega),iI,X0 (by omega),iI,XV (by omega),Bool.and_true]
 rw[e];unfold ng;rw[Me h h.apex,Me h h.apex];rfl
def Js{q:Nat->Bool}(h : ∀i,i<n->p i=q i):ax n p 0=ax n q 0:=by rw[YD,dG,dG];exact⟨λk i J Y=>by rw[<-h i Y];exact k i J Y,λk i J Y=>by rw[h i Y];exact k i J Y⟩
theorem Zcz:ax n p 0=false↔∃i,i<n/\p i=false:=by
 constructor
 .
  intro h;apply YW;intro k;have:ax n p 0=true:=(dG _ _ _).2 λi _ hi=>by
   cases e:p i with
   | true=>rfl
   | false=>exact absurd ⟨i,hi,e⟩ k
  rw[this]at h;cases h
 rintro⟨i,hi,h⟩;cases e:ax n p 0 with
 | false=>rfl
 | true=>rw[(dG _ _ _).1 e i (Yh _) hi]at h;cases h
theorem ZpO{q:Nat->Bool}:ax n (λi=>p i&&q i) 0=(ax n p 0&&ax n q 0):=by rw[YD,XU,dG,dG,dG];simp only[XU];exact⟨λh=>⟨λi J Y=>(h i J Y).1,λi J Y=>(h i J Y).2⟩,λh i J Y=>⟨h.1 i J Y,h.2 i J Y⟩⟩
section
variable {z : Zon} (h : mi z)
include h
def Dp{j:Nat}(a:i<=j)(A:j<z.sets.length):fQ z.sets[i]!.set.name z.sets[j]!.set.name<=0:=by
 by_cases e:i=j
 . subst e;rw[y5.self];exact Int.le_refl _
 exact(Vd (yn h.ord (by omega:i<j) A)).1
def OE{j:Nat}(a:i<j)(A:j<z.sets.length)(e:z.sets[i]!.set.name=z.sets[j]!.set.name):z.sets[i]!.set.ty<z.sets[j]!.set.ty :=
 (Vd (yn h.ord a A)).2 e
def ZiO{j:Nat}(R:i<=k)(a:k<=j)(A:j<z.sets.length)(e:z.sets[i]!.set.name=z.sets[j]!.set.name):z.sets[k]!.set.name=z.sets[j]!.set.name:=by have J:=Dp h R (by omega);have Y:=Dp h a A;rw[e]at J;have:=y5.anti z.sets[k]!.set.name z.sets[j]!.set.name;exact Hm om
def O0(hi:i<z.sets.length):z.sets[i]!.set.name≠[]:=by intro e;have:=h.nms _ (eO hi);rw[e,O1]at this;cases this
def ty_le(hi:i<z.sets.length):1<=z.sets[i]!.set.ty/\z.sets[i]!.set.ty<=8:=kV.1 (h.ok _ (eO hi)).ty
def RL(l:List Sgd):Prop:=∃i,i+1<l.length/\l[i]!.set.name=l[i+1]!.set.name/\(l[i+1]!.set.ty=3\/(l[i]!.set.ty=3/\l[i+1]!.set.ty≠8))
omit h in
theorem ZcA(l:List Sgd):∀k,iT l k≠[] -> ∃j,j<k/\l[j]!.set.ty=3/\l[j]!.set.name=iT l k
 | 0,hk=>absurd rfl hk
 | k+1,hk=>by
  unfold iT at hk ⊢;split at hk
  . rename_i e;exact⟨k,om,e,by rw[X0 e]⟩
  rename_i e;let⟨j,J,Y,A⟩:=ZcA l k hk;exact⟨j,om,Y,by rw[XV e,A]⟩
omit h in
def ZpQ:sU (bB z)=false↔RL z.sets:=by
 unfold sU;rw[Zcz];show(∃i,i<z.sets.length/\lc z.sets i=false)↔_;unfold lc RL;constructor
 .
  rintro⟨i,hi,k⟩;simp only[Yg,YT,Yr,Ya,XY,X6,YF,XU,Ya,ZN,ne_eq]at k;obtain⟨G,c|⟨c,Y⟩⟩:=k
  . exact⟨i-1,om,by rw[show i-1+1=i by omega];exact c.2,.inl (by rw[show i-1+1=i by omega];exact G)⟩
  exact⟨i,om,c.2.symm,.inr ⟨G,Y⟩⟩
 rintro⟨i,hi,G,c⟩;rcases c with c|⟨c,Y⟩
 . refine⟨i+1,hi,?_⟩;have p:(z.sets[i]!.set.name==z.sets[i+1]!.set.name)=true:=YF.2 G;rw[YB c,Nat.add_sub_cancel,p,YB (show 0<i+1 by omega)];rfl
 refine⟨i,om,?_⟩;have p:(z.sets[i+1]!.set.name==z.sets[i]!.set.name)=true:=YF.2 G.symm;rw[YB c,YB hi,p,YY Y];simp
def Zel:oZ z=false↔RL z.sets:=by
 unfold oZ;rw[Zcz];have F : ∀i,lC z.sets i≠[]↔(0<i/\z.sets[i-1]!.set.name=z.sets[i]!.set.name/\z.sets[i]!.set.name≠[]):=by
  intro i;unfold lC;split
  . rename_i q;exact⟨λk=>⟨q.1,q.2,k⟩,λk=>k.2.2⟩
  rename_i q;exact⟨λk=>absurd rfl k,λk=>absurd ⟨k.1,k.2.1⟩ q⟩
 have a : ∀i,0<i->z.sets[i-1]!.set.name=z.sets[i]!.set.name->lC z.sets i=z.sets[i]!.set.name:=λi J o=>X0 ⟨J,o⟩;have O : ∀i,kL z.sets i=false↔(lC z.sets i≠[]/\(z.sets[i]!.set.ty=3\/(lC z.sets i=iT z.sets (i+1)/\z.sets[i]!.set.ty≠3/\z.sets[i]!.set.ty≠8))):=by intro i;unfold kL;by_cases N:lC z.sets i=[]<;>by_cases x:z.sets[i]!.set.ty=3<;>by_cases a3:lC z.sets i=iT z.sets (i+1)<;>by_cases a4:z.sets[i]!.set.ty=8<;>simp_all
 constructor
 .
  rintro⟨i,hi,k⟩;rw[O]at k;let⟨G,c⟩:=k;let⟨p,Y,r⟩:=(F i).1 G;rcases c with c|⟨f,t,u⟩
  . exact⟨i-1,om,by rw[show i-1+1=i by omega];exact Y,.inl (by rw[show i-1+1=i by omega];exact c)⟩
  rw[a i p Y]at f;let⟨j,y,m,g⟩:=ZcA z.sets (i+1) (by rw[<-f];exact r);rw[<-f]at g;have w:j<i:=by
   rcases YK j i with e|e
   . exact e
   have:j=i:=by omega
   subst this;exact absurd m t
  have v:=ZiO h (i:=j) (k:=j+1) (j:=i) (by omega) (by omega) hi g;refine⟨j,om,by rw[v,g],.inr ⟨m,?_⟩⟩;have:=ty_le h hi;by_cases e:j+1=i
  . rw[e];exact u
  have:=OE h (i:=j+1) (j:=i) om hi v;omega
 rintro⟨i,hi,G,c⟩;refine⟨i+1,hi,(O _).2 ⟨(F _).2 ⟨om,G,O0 h hi⟩,?_⟩⟩;rcases c with c|⟨c,Y⟩
 . exact .inl c
 have n:=OE h (i:=i) (j:=i+1) (by omega) hi G;by_cases e:z.sets[i+1]!.set.ty=3
 . exact .inl e
 refine .inr ⟨?_,e,Y⟩;rw[a (i+1) (by omega) G];show _=(if z.sets[i+1]!.set.ty=3 then _ else iT z.sets (i+1));rw[XV e];show _=(if z.sets[i]!.set.ty=3 then z.sets[i]!.set.name else _);rw[X0 c,G]
theorem ZpP:sU (bB z)=oZ z:=by
 have J:=ZpQ (z:=z);have Y:=Zel h;cases y:sU (bB z)<;>cases O:oZ z
 . rfl
 . rw[y]at J;rw[O]at Y;have:=Y.2 (J.1 rfl);cases this
 . rw[y]at J;rw[O]at Y;have:=J.2 (Y.1 rfl);cases this
 rfl
end
def Top(C:Str->Prop)(n c:Str):Prop:=C c/\dW n c /\ ∀a,C a->dW c a->a=c
def EJ(C:Str->Prop)(n b:Str):Prop:=(b=[] /\ ∀c,C c -> ¬dW n c)\/(b≠[]/\Top C n b)
def Nk{C:Str->Prop}{n:Str}(h:Top C n c)(h1:C a)(h2:dW n a):dW a c:=by
 rcases ZdF h.2.1 h2 with k|k
 . rw[h.2.2 a h1 k];exact JH _
 exact k
def Zcj{C:Str->Prop}{n b b':Str}(h:EJ C n b)(h':EJ C n b'):b=b':=by
 rcases h with⟨J,Y⟩|⟨J,Y⟩<;>rcases h' with⟨G,c⟩|⟨G,c⟩
 . rw[J,G]
 . exact absurd c.2.1 (Y _ c.1)
 . exact absurd Y.2.1 (c _ Y.1)
 exact Sy (Nk c Y.1 Y.2.1) (Nk Y c.1 c.2.1)
def rz(z:Zon)(c:Str):Prop:=∃i,i<z.sets.length/\z.sets[i]!.set.ty=2/\z.sets[i]!.set.name≠z.apex/\z.sets[i]!.set.name=c
theorem ZjZ{b:Str}:nS (yh m a) b=true↔b=a\/nS m b=true:=by
 unfold yh;split
 .
  rename_i h;constructor
  . exact λk=>.inr k
  rintro (k|k)
  . rw[k];exact h
  exact k
 unfold nS;simp only[XY,Yu,Yl,Y2,or_false];exact⟨λk=>k.symm,λk=>k.symm⟩
theorem ZbD(z:Zon)(c:Str):∀k,nS (dO z k) c=true↔∃i,i<k/\z.sets[i]!.set.ty=2/\z.sets[i]!.set.name≠z.apex/\z.sets[i]!.set.name=c
 | 0=>by simp[dO,nS]
 | k+1=>by
  have f:=ZbD z c k;by_cases e:z.sets[k]!.set.ty=2 /\ ¬z.sets[k]!.set.name=z.apex
  .
   rw[QT e,ZjZ,f];constructor
   .
    rintro (G|⟨i,G,a⟩)
    . exact⟨k,om,e.1,e.2,G.symm⟩
    exact⟨i,om,a⟩
   rintro⟨i,G,a⟩;by_cases O:i=k
   . subst O;exact .inl a.2.2.symm
   exact .inr ⟨i,om,a⟩
  rw[QU e,f];constructor
  . rintro⟨i,G,a⟩;exact⟨i,om,a⟩
  rintro⟨i,G,a⟩;by_cases O:i=k
  . subst O;exact absurd ⟨a.1,a.2.1⟩ e
  exact⟨i,om,a⟩
def QZ:nS (dO z z.sets.length) c=true↔rz z c:=ZbD z c _
theorem ME(z:Zon)(c:Str):∀k,c∈mf z k↔∃i,i<k/\z.sets[i]!.set.ty=2/\z.sets[i]!.set.name≠z.apex/\z.sets[i]!.set.name=c
 | 0=>by simp[mf]
 | k+1=>by
  have f:=ME z c k;unfold mf;by_cases e:z.sets[k]!.set.ty=2/\z.sets[k]!.set.name≠z.apex
  .
   rw[X0 e,Yu,f];constructor
   .
    rintro (⟨i,G,a⟩|G)
    . exact⟨i,om,a⟩
    exact⟨k,om,e.1,e.2,by simpa using(Yk.1 G).symm⟩
   rintro⟨i,G,a⟩;by_cases O:i=k
   . subst O;exact .inr (Yk.2 a.2.2.symm)
   exact .inl ⟨i,om,a⟩
  rw[XV e,f];constructor
  . rintro⟨i,G,a⟩;exact⟨i,om,a⟩
  rintro⟨i,G,a⟩;by_cases O:i=k
  . subst O;exact absurd ⟨a.1,a.2.1⟩ e
  exact⟨i,om,a⟩
section
variable {z : Zon} (h : mi z)
include h
def QY(j:rz z c):ai c=true/\c≠[]:=by obtain⟨i,hi,_,_,rfl⟩:=j;exact⟨h.nms _ (eO hi),O0 h hi⟩
theorem Zck : ∀k,k<=z.sets.length->(k=0\/EJ (rz z) z.sets[k-1]!.set.name (dL (dO z z.sets.length) z.sets k).2)
 | 0,_=>.inl rfl
 | k+1,X=>by
  have r:k<z.sets.length:=by omega
  have f:=h.nms _ (eO r);have N:=O0 h r;right;show EJ (rz z) z.sets[k]!.set.name (stepC (dO z z.sets.length) (dL (dO z z.sets.length) z.sets k).2 z.sets[k]!.set.name);have w:=Zck k (by omega);generalize p:(dL (dO z z.sets.length) z.sets k).2=cut at w;generalize F:z.sets[k]!.set.name=n at *;have A : ∀a,rz z a->dW n a->a≠n->cut≠[]/\Top (rz z) n cut:=by
   intro a j u m;let⟨i,hi,t,v,o⟩:=j;have R:i<k:=by
    rcases YK i k with e|e
    . exact e
    have J:=Dp h e hi;rw[F,o]at J;have Y:=Ng u;have:=y5.anti n a;exact absurd (Hm (by omega:fQ a n=0)) m
   have J:dW z.sets[k-1]!.set.name a:=by
    refine Nf u ?_ ?_
    . rw[<-o];exact Dp h (by omega) (by omega)
    rw[<-F];exact Dp h (by omega) r
   rcases w with e|⟨e,O⟩|⟨e,O⟩
   . omega
   . exact absurd J (O _ ⟨i,hi,t,v,o⟩)
   have G:=Nk O ⟨i,hi,t,v,o⟩ J;exact⟨e,O.1,Nc u G,O.2.2⟩
  have B:(∀a,rz z a->dW n a->a=n)->EJ (rz z) n (if nS (dO z z.sets.length) n=true then n else[]):=by
   intro g;by_cases e:nS (dO z z.sets.length) n=true
   . rw[X0 e];exact .inr ⟨N,QZ.1 e,JH _,g⟩
   rw[XV e];exact .inl ⟨rfl,λc j u=>e (by rw[g c j u]at j;exact QZ.2 j)⟩
  unfold stepC;dsimp only;by_cases y:cut≠[]/\fT n cut=false
  .
   rw[X0 y];have x:rz z cut:=by
    rcases w with e|⟨e,_⟩|⟨_,e⟩
    . subst e;exact absurd (show cut=[]from p.symm) y.1
    . exact absurd e y.1
    exact e.1
   have g : ∀a,rz z a->dW n a->a=n:=by intro a j u;apply YW;intro m;let⟨_,I⟩:=A a j u m;have:=(Gt f (QY h x).1).2 I.2.1;rw[y.2]at this;cases this
   have:=B g;by_cases e:nS (dO z z.sets.length) n=true
   . rw[X0 ⟨rfl,e⟩];rw[X0 e]at this;exact this
   rw[XV (λq=>e q.2)];rw[XV e]at this;exact this
  rw[XV y];by_cases O:cut=[]
  .
   have g : ∀a,rz z a->dW n a->a=n:=by intro a j u;apply YW;intro m;exact(A a j u m).1 O
   have:=B g;by_cases e:nS (dO z z.sets.length) n=true
   . rw[X0 ⟨O,e⟩];rw[X0 e]at this;exact this
   rw[XV (λq=>e q.2),O];rw[XV e]at this;exact this
  rw[XV (λq=>O q.1)];have E:Top (rz z) z.sets[k-1]!.set.name cut:=by
   rcases w with e|⟨e,_⟩|⟨_,e⟩
   . subst e;exact absurd (show cut=[]from p.symm) O
   . exact absurd e O
   exact e
  have u:fT n cut=true:=by
   cases e:fT n cut with
   | true=>rfl
   | false=>exact absurd ⟨O,e⟩ y
  exact .inr ⟨O,E.1,(Gt f (QY h E.1).1).1 u,E.2.2⟩
omit h in
theorem Rj(m:List Str)(l:List Sgd):∀n k,k<n->(dL m l n).1[k]! = (dL m l (k+1)).2:=by
 intro n;induction n with
 | zero=>intro k h;omega
 | succ n c =>
  intro k h;have a:=Cx m l n;have y:(dL m l (n+1)).1=(dL m l n).1++[(dL m l (n+1)).2]:=rfl;by_cases e:k=n
  . subst e;rw[y];simp[a]
  rw[<-c k (by omega),y,getElem!_pos _ _ (by simp[a];omega),getElem!_pos _ _ (by omega),List.getElem_append_left]
def Rm(hk:k<z.sets.length):EJ (rz z) z.sets[k]!.set.name (kH z)[k]! := by
 unfold kH;rw[Rj _ _ _ _ hk];exact(Zck h (k+1) hk).resolve_left om
theorem ZbE : ∀k,k<=z.sets.length->j5 fQ (mf z k)
 | 0,_=>.nil
 | k+1,X=>by
  have c:=ZbE k (by omega);unfold mf;split
  .
   rename_i e;refine Zh.2 ⟨c,Z7 _ _,λa m b p=>?_⟩;rw[Yk]at p;subst p;obtain⟨i,hi,f,g,rfl⟩:=(ME z a k).1 m;have J:=Dp h (show i<=k by omega) (by omega);by_cases O:fQ z.sets[i]!.set.name z.sets[k]!.set.name=0
   . have:=OE h hi om (Hm O);omega
   omega
  exact c
structure High(cs hs:List Str):Prop where
 sub : ∀x∈hs,x∈cs
 cov : ∀c∈cs,∃x∈hs,dW c x
 pair:hs.Pairwise λa b=>fQ a b<0 /\ ¬dW b a
omit h in
def Xj[Inhabited α]{l:List α}(h:l≠[]):l[l.length-1]! ∈ l:=eO (by have:=Zl.2 h;omega)
omit h in
theorem nE![Inhabited α]{l:List α}(h:k<l.length):l.take (k+1)=l.take k++[l[k]!]:=by rw[Zp,Yi h,getElem!_pos l k h];rfl
omit h in
def ZiG[Inhabited α]{r:α->α->Prop}{l:List α}(h:l.Pairwise r){x:α}(E:x∈l):x=l[l.length-1]! \/ r x l[l.length-1]! := by
 obtain⟨i,hi,rfl⟩:=jh.1 E;by_cases e:i=l.length-1
 . left;rw[<-e]
 right;rw[getElem!_pos l i hi,getElem!_pos l _ (by omega)];exact Y6.1 h i (l.length-1) hi om om
omit h in
theorem Zan{cs:List Str}(j:j5 fQ cs):∀k,k<=cs.length->High (cs.take k) (eu cs k)
 | 0,_=>⟨λx E=>(by simp[eu]at E),λc j=>(by simp at j),(by simp[eu])⟩
 | k+1,X=>by
  have g:=Zan j k (by omega);have r:k<cs.length:=by omega
  have n:cs.take (k+1)=cs.take k++[cs[k]!]:=nE! r;have K : ∀x∈cs.take k,fQ x cs[k]! < 0:=by
   intro x E;let⟨i,hi,e⟩:=jh.1 E;rw[YO]at hi;have O:(cs.take k)[i]! = cs[i]! := by
    rw[getElem!_pos _ _ (by rw[YO];omega),getElem!_pos _ _ (by omega),List.getElem_take]
   rw[<-e,O];exact yn j om r
  unfold eu;by_cases e:eu cs k=[]\/ig cs[k]! (eu cs k)[(eu cs k).length-1]! = false
  .
   rw[X0 e,n];refine⟨λx E=>?_,λc f=>?_,Zh.2 ⟨g.pair,Z7 _ _,λa m b p=>?_⟩⟩
   .
    rcases Yu.1 E with E|E
    . exact ZG _ (g.sub x E)
    exact List.mem_append_right _ E
   .
    rcases Yu.1 f with f|f
    . let⟨x,E,u⟩:=g.cov c f;exact⟨x,ZG _ E,u⟩
    exact⟨c,List.mem_append_right _ f,JH _⟩
   rw[Yk]at p;subst p;refine⟨K a (g.sub a m),λu=>?_⟩;have N:eu cs k≠[]:=λq=>by rw[q]at m;cases m
   have o:=e.resolve_left N;have t : ¬dW cs[k]! (eu cs k)[(eu cs k).length-1]! := λq=>by rw[D7.2 q]at o;cases o
   rcases ZiG g.pair m with q|q
   . rw[<-q]at t;exact t u
   have h:=K _ (g.sub _ (Xj N));exact q.2 (Nf u om om)
  rw[XV e,n];have N:eu cs k≠[]:=λq=>e (.inl q);have o:dW cs[k]! (eu cs k)[(eu cs k).length-1]! := by
   apply D7.1;cases q:ig cs[k]! (eu cs k)[(eu cs k).length-1]! with
   | true=>rfl
   | false=>exact absurd (.inr q) e
  refine⟨λx E=>ZG _ (g.sub x E),λc f=>?_,g.pair⟩;rcases Yu.1 f with f|f
  . exact g.cov c f
  rw[Yk]at f;subst f;exact⟨_,Xj N,o⟩
def ZlW:(∀x∈cO z,rz z x)/\(∀c,rz z c -> ∃x∈cO z,dW c x)/\(cO z).Pairwise λa b=>fQ a b<0 /\ ¬dW b a:=by have p:=Zan (ZbE h z.sets.length (XW _)) _ (XW _);rw[Yt]at p;exact⟨λx E=>(ME z x _).1 (p.sub x E),λc j=>p.cov c ((ME z c _).2 j),p.pair⟩
omit h in
theorem ZpR(hs:List Str)(n:Str):∀m i,hs.length-i<=m->i<=hs.length->(∀k,k<i->fQ hs[k]! n<=0)->(∀k,k<uw hs n i->fQ hs[k]! n<=0)/\(uw hs n i<hs.length -> ¬fQ hs[uw hs n i]! n<=0):=by
 intro m;induction m with
 | zero=>intro i J Y A;rw[Cz,XV (by omega)];exact⟨A,λh=>by omega⟩
 | succ m a =>
  intro i J Y A;rw[Cz];by_cases e:i<hs.length
  .
   rw[X0 e];by_cases O:fQ hs[i]! n<=0
   .
    rw[X0 O];refine a (i+1) om om λk X=>?_;by_cases c:k=i
    . subst c;exact O
    exact A k om
   rw[XV O];exact⟨A,λ_=>O⟩
  rw[XV e];exact⟨A,λh=>absurd h e⟩
theorem ZcB(hs:List Str):∀k,k<=z.sets.length->iJ hs z.sets k<=hs.length/\(0<k->(∀i,i<iJ hs z.sets k->fQ hs[i]! z.sets[k-1]!.set.name<=0)/\(iJ hs z.sets k<hs.length -> ¬fQ hs[iJ hs z.sets k]! z.sets[k-1]!.set.name<=0))
 | 0,_=>⟨Yh _,λh=>by omega⟩
 | k+1,X=>by
  let⟨J,Y⟩:=ZcB hs k om;have h3 : ∀i,i<iJ hs z.sets k->fQ hs[i]! z.sets[k]!.set.name<=0:=by
   intro i hi;by_cases e:k=0
   . subst e;exact absurd hi (Nat.not_lt_zero _)
   exact y5.tr _ _ _ ((Y om).1 i hi) (Dp h om om)
  exact⟨(ZpS hs _ _ _ (XW _) J).2,λ_=>ZpR hs z.sets[k]!.set.name _ _ (XW _) J h3⟩
omit h in
theorem Zpg(hs:List Str)(l:List Sgd):∀n k,k<n->(mZ hs l n)[k]! = jM hs l[k]!.set.name (iJ hs l (k+1)):=by
 intro n;induction n with
 | zero=>intro k h;omega
 | succ n c =>
  intro k h;have a:=AJ hs l n;have y:mZ hs l (n+1)=mZ hs l n++[jM hs l[n]!.set.name (iJ hs l (n+1))]:=rfl;by_cases e:k=n
  . subst e;rw[y];simp[a]
  rw[<-c k (by omega),y,getElem!_pos (mZ hs l n++_) k (by simp[a];omega),getElem!_pos (mZ hs l n) k (by omega),List.getElem_append_left]
def Zpf(hk:k<z.sets.length):EJ (rz z) z.sets[k]!.set.name (gK z)[k]! := by
 unfold gK;rw[Zpg _ _ _ _ hk];let⟨t,w,A⟩:=ZlW h;let⟨N,B⟩:=ZcB h (cO z) (k+1) hk;let⟨a3,a4⟩:=B om;rw[show k+1-1=k from rfl]at a3 a4;generalize iJ (cO z) z.sets (k+1)=j at *
 generalize z.sets[k]!.set.name=n at *
 have p : ∀i f,i<f->f<(cO z).length->fQ (cO z)[i]! (cO z)[f]! < 0 /\ ¬dW (cO z)[f]! (cO z)[i]! := by
  intro i f h1 h2;rw[getElem!_pos _ i (by omega),getElem!_pos _ f h2];exact Y6.1 A i f om h2 h1
 unfold jM;by_cases e:0<j/\ig n (cO z)[j-1]! = true
 .
  rw[X0 e];have v:(cO z)[j-1]! ∈ cO z:=eO om;refine .inr ⟨(QY h (t _ v)).2,t _ v,D7.1 e.2,λF r u=>?_⟩;let⟨x,E,a⟩:=w F r;have y:dW (cO z)[j-1]! x:=Nc u a;obtain⟨i,hi,rfl⟩:=jh.1 E;have m:i=j-1:=by
   rcases Nat.lt_trichotomy i (j-1)with q|q|q
   . exact absurd y (p i (j-1) q om).2
   . exact q
   have:=(p (j-1) i q hi).1;have:=Ng y;have:=y5.anti (cO z)[j-1]! (cO z)[i]!;omega
  rw[m]at a;exact Sy a u
 rw[XV e];refine .inl ⟨rfl,λc G u=>?_⟩;let⟨x,E,a⟩:=w c G;have g:dW n x:=Nc u a;obtain⟨i,hi,rfl⟩:=jh.1 E;have o:=Ng g;have m:i<j:=by
  rcases YK i j with q|q
  . exact q
  exfalso;have U:=a4 (by omega);by_cases I:i=j
  . subst I;exact U o
  have W:=(p j i (by omega) hi).1;exact U (y5.tr _ _ _ om o)
 by_cases q:i=j-1
 . exact e ⟨om,by rw[<-q];exact D7.2 g⟩
 have W:=p i (j-1) (by omega) (by omega);exact W.2 (Nf g om (a3 (j-1) om))
theorem Rl:kH z=gK z:=by have a:(kH z).length=z.sets.length:=Cx _ _ _;have c:(gK z).length=z.sets.length:=AJ _ _ _;exact FC! om λi hi=>Zcj (Rm h om) (Zpf h om)
theorem Zmv:(Ca (bB z)&&Cb (bB z))=uX z:=by unfold uX yT Ca Cb bB;rw[ZpO,Rl h,Bool.and_comm]
theorem Zog:mg (bB z)=uo z:=by unfold uo bB;rw[Rl h]
end
theorem uy(z:Zon):ak z=jA z:=by
 unfold ak jA;by_cases e:ordered z=true
 . have h:=zL.1 e;rw[<-OD,ZpC h,ZpP h,Zog h,<-Zmv h];simp only[ZI]
 rw[<-OD];have:ordered z=false:=by simpa using e
 rw[this];simp
def lL(h:ak z=true):mi z:=by unfold ak at h;simp only[XU]at h;exact zL.1 h.1.1.1.1.1
theorem C8(h:ak z=true):aL z=dF z:=by have t:=lL h;unfold aL dF;rw[ZaR t (q:=⟨z.apex,4⟩) t.apex (GX (by rw[<-uy];exact h))]
variable{ds:List Dat}{le:α->α->Bool}{ls:List Str}{ps:List Int}{x:Sgd}
def jR(s:Str):Str:=if 46∈s then s.drop (s.idxOf 46+1)else[46]
theorem XT:Go.Lib.indexByte s 46=if 46∈s then(s.idxOf 46:Int)else -1:=by
 induction s with
 | nil=>rfl
 | cons c r k =>
  unfold Go.Lib.indexByte;rw[k];by_cases e:c=46
  . subst e;simp
  have O:(c==46)=false:=Ze.2 e;rw[List.idxOf_cons,O];by_cases h:(46:UInt8)∈r
  .
   have p : ¬((r.idxOf 46:Int) = -1):=by omega
   simp[h,p]
  simp[h,Ne.symm e]
def HV(s:Str)(c:Int):Int:=Go.Lib.indexByte s c.toNat.toUInt8
theorem Zab(h:(46:UInt8)∈s):HV s 46=(s.idxOf 46:Int):=XT.trans (X0 h)
theorem Zac(h : ¬(46:UInt8)∈s):HV s 46 = -1:=XT.trans (XV h)
def tO(s:Str):Str:=if ai s && !(s==[46])then jR s else[]
theorem ZlM(h:(46:UInt8)∈s):s=s.take (s.idxOf 46)++46::s.drop (s.idxOf 46+1) /\ ∀x∈s.take (s.idxOf 46),x≠46:=by
 induction s with
 | nil=>simp at h
 | cons c r k =>
  by_cases e:c=46
  . subst e;simp
  have Y:(46:UInt8)∈r:=by rcases Yl.1 h with h|h;exact absurd h.symm e;exact h
  let⟨A,a⟩:=k Y;rw[show(c::r).idxOf 46=(r.idxOf 46).succ by rw[List.idxOf_cons,show(c==46)=false from Ze.2 e];rfl];constructor
  . simp only[Nat.succ_eq_add_one,X5,X9,XX,Y0,true_and];exact A
  intro x E;simp only[Nat.succ_eq_add_one,X5,Yl]at E;rcases E with rfl|E
  . exact e
  exact a x E
def Zfe(h:(46:UInt8)∈s):split s=s.take (s.idxOf 46)::split (s.drop (s.idxOf 46+1)):=by
 let⟨J,Y⟩:=ZlM h
 conv=>lhs;rw[J]
 rw[JV,GA _ Y];rfl
def WF(h:ai s=true)(hr:s≠[46]):s.length<=60/\(split s).length<=8 /\ ∀i,i<(split s).length->jf (split s) i=true:=by
 unfold ai at h;rw[XV hr]at h;split at h
 . cases h
 rw[AX,XU]at h;exact⟨om,by simpa using h.2,λi hi=>(dG _ _ _).1 h.1 i (Yh _) hi⟩
theorem Bo(h:ai s=true)(hr:s≠[46]):ai (jR s)=true/\dH (jR s)=(dH s).dropLast:=by
 unfold jR;have f : ∀t:Str,t≠[46]->dH t=(split t).reverse:=λt n=>by unfold dH;rw[XV n,xg]
 let⟨J,Y,A⟩:=WF h hr;by_cases a:(46:UInt8)∈s
 .
  rw[X0 a];have N:=Zfe a;have c:s.drop (s.idxOf 46+1)≠[46]:=λe=>by
   rw[e]at N;have:=A 1 (by rw[N];show 1<3;omega);rw[N]at this;have O:split [46]=[[],[]]:=by decide
   rw[O]at this;have V:gJ []=true:=by simpa[jf]using this
   rw[Pm]at V;cases V
  constructor
  .
   unfold ai;rw[XV c,XV (by simp;omega),AX,XU];rw[N]at Y A;refine⟨(dG _ _ _).2 λi _ hi=>?_,by simp at Y ⊢;omega⟩;have:=A (i+1) (by simpa using hi);have g:gJ (split (s.drop (s.idxOf 46+1)))[i]! = true:=by simpa[jf]using this
   unfold jf;rw[g];rfl
  rw[f s hr,f _ c,N,List.reverse_cons,List.dropLast_concat]
 rw[XV a];refine⟨by decide,?_⟩;rw[f s hr,GA s (λx E e=>a (e▸E))];rfl
def Gu(h:ai s=true)(u:dW s a)(N:s≠a):s≠[46]/\dW (jR s) a:=by
 have O:s≠[46]:=λe=>by
  subst e;let⟨t,n⟩:=u;have f:dH [46]=[]:=by decide
  rw[f]at n;have:dH a=[]:=(List.append_eq_nil_iff.1 n).1;exact N (Db (by rw[f,this]))
 refine⟨O,?_⟩;show dH a <+: dH (jR s);rw[(Bo h O).2];let⟨t,n⟩:=u;have c:t≠[]:=λe=>N (Db (by rw[e,YH]at n;exact n.symm));rw[<-n,List.dropLast_append_of_ne_nil c];exact⟨_,rfl⟩
def Au(z:Zon):Nat->Str->Str×Bool
 | 0,_=>([],false)
 | f+1,n=>if n=z.apex then([],false)else if bV z.sets ⟨n,2⟩then(n,true)else Au z f (jR n)
def fF(z:Zon)(s:Str):Str×Bool:=Au z ((dH s).length+1) s
def jY(z:Zon)(s:Str):Str×Bool×Int:=if ai s&&ak z then(if under s z.apex then((fF z s).1,(fF z s).2,0)else([],false,20))else([],false,1)
theorem Zom{z:Zon}{n:Str}(h:n=z.apex):∀f,Au z f n=([],false)
 | 0=>rfl
 | f+1=>by rw[Au,X0 h]
def ZbI{n:Str}(hn:ai n=true)(u:dW n z.apex)(N:n≠z.apex)(a:bV z.sets ⟨n,2⟩=false) :
  fF z n=fF z (jR n)/\(dH (jR n)).length<(dH n).length:=by
 let⟨O,_⟩:=Gu hn u N;have e:=(Bo hn O).2;have h:(dH (jR n)).length+1=(dH n).length:=by rw[e,List.length_dropLast];have:dH n≠[]:=λc=>O (Db (by rw[c];decide));have:=Zl.2 this;omega
 refine⟨?_,om⟩;unfold fF;rw[show(dH n).length+1=((dH (jR n)).length+1)+1 by omega,Au,XV N,XV (by rw[a];simp)]
theorem Zoh{n:Str}(N:n≠z.apex)(a:bV z.sets ⟨n,2⟩=true):fF z n=(n,true):=by unfold fF;rw[Au,XV N,X0 a]
theorem Zoi{n:Str}(h:n=z.apex):fF z n=([],false):=Zom h _
@[go_sem]theorem K7:(bB z).z=z:=rfl
def fV(x:Lay):Nat->List Str
 | 0=>[]
 | k+1=>if !(x.b[k]! == []) && !(x.b[k]! == x.z.sets[k]!.set.name)then fV x k
   else if(fV x k).length=0\/(fV x k)[(fV x k).length-1]! ≠ x.z.sets[k]!.set.name then fV x k++[x.z.sets[k]!.set.name]else fV x k
@[go_sem]theorem nmTo_0{x:Lay}:fV x 0=[]:=rfl
def DD(x:Lay)(k:Nat):Prop:=x.b[k]! = []\/x.b[k]! = x.z.sets[k]!.set.name
def Zjs{x:Lay}(h : ¬DD x k):fV x (k+1)=fV x k:=by unfold DD at h;rw[fV,X0 (by simp only[XU,Ya,Ze];exact⟨λe=>h (.inl e),λe=>h (.inr e)⟩)]
def Wp{x:Lay}(h:DD x k)(h2:(fV x k).length=0\/(fV x k)[(fV x k).length-1]! ≠ x.z.sets[k]!.set.name):fV x (k+1)=fV x k++[x.z.sets[k]!.set.name]:=by unfold DD at h;rw[fV,XV (by simp only[XU,Ya,Ze];rintro⟨a,b⟩;exact h.elim a b),X0 h2]
def Wo{x:Lay}(h2 : ¬((fV x k).length=0\/(fV x k)[(fV x k).length-1]! ≠ x.z.sets[k]!.set.name)):fV x (k+1)=fV x k:=by
 rw[fV];split
 . rfl
 first|rfl|rw[XV h2]
def cK(z:Zon):List Str:=fV (bB z) z.sets.length
theorem OX(x:Lay):∀k,(fV x k).length<=k
 | 0=>XW _
 | k+1=>by
  have:=OX x k;unfold fV;split
  . omega
  split
  . simp;omega
  omega
abbrev PM:=List (Qst×Sgd)
def Pj{h h2:H}{r:Nat}{y:Option dE}(hn : ∀q,n<=q->h q=none)(hr:h2 r=y)(hk : ∀q,q<n->h2 q=h q):∀q,upd h r y q=h2 q\/upd h r y q=none:=by
 intro q;by_cases e:q=r
 . subst e;left;rw[bI,hr]
 rw[aI _ _ _ _ e];by_cases W:q<n
 . left;exact(hk q W).symm
 right;exact hn q om
def jk(m:PM):List D:=m.flatMap λp=>[.agg p.1.d,.agg p.2.d]
theorem DT(p:Qst×Sgd)(m:PM):jk (p::m) = .agg p.1.d :: .agg p.2.d::jk m:=rfl
def fq:PM->Qst->Option Sgd
 | p::m,q=>if p.1=q then some p.2 else fq m q
 | [],_=>none
def G7:PM->Qst->Sgd->PM
 | p::m,q,s=>if p.1=q then(q,s)::m else p::G7 m q s
 | [],q,s=>[(q,s)]
theorem ZkX{m:PM}{q:Qst}:iZ (jk m) (.agg q.d)=(fq m q).map λs=>.agg s.d:=by
 induction m with
 | nil=>rfl
 | cons p m k =>
  rw[DT];simp only[iZ,DX,fq];by_cases h:p.1=q
  . subst h;simp
  have Y : ¬q=p.1:=λe=>h e.symm;simp only[h,Y,decide_false,Yn,Y8,k]
@[go_sem]theorem kvGet_P{m:PM}{q:Qst}:iZ (jk m) (.agg [.v (.string (bs q.name)),.i q.ty])=(fq m q).map λs=>.agg [.v (.string (bs s.set.name)),.i s.set.ty,.i s.set.life,.l (s.set.data.map Dat.d),.l (s.sigs.map RSig.d)]:=ZkX
@[go_sem]theorem Zja{m:PM}:aX (jk m)=true:=by
 induction m with
 | nil=>rfl
 | cons p m k =>
  rw[DT];simp only[aX,k,D.nr,Qst.d,Sgd.d,mM,Bu,Zt]
@[go_sem]theorem wks_kvP{m:PM}:dA (jk m)=jk m:=by
 induction m with
 | nil=>rfl
 | cons p m k =>
  rw[DT];simp only[dA,wk,k,Qst.d,Sgd.d,qb,CE]
def PM.of:List D->PM
 | .agg k :: .agg v::l=>(Qst.of k,Sgd.of v)::PM.of l
 | _=>[]
theorem OQ(m:PM):PM.of (jk m)=m:=by
 induction m with
 | nil=>rfl
 | cons p m k=>rw[DT,PM.of,k,OP,Fu]
def fmap1:D->PM
 | .fmap a=>PM.of a
 | _=>[]
def yJ:D->PM
 | .eptr [d]=>fmap1 d
 | _=>[]
def Jm:D->PM
 | .fn _ _ [d]=>yJ d
 | _=>[]
@[go_sem]theorem mapc1_kv{m:PM}:yJ (.eptr [.fmap (jk m)])=m:=OQ m
@[go_sem]theorem capm1_kv{f:Fn}{x:List D}{m:PM}:Jm (.fn f x [.eptr [.fmap (jk m)]])=m:=OQ m
theorem Zii{m:PM}{q x:Qst}{s:Sgd}:fq (G7 m q s) x=if q=x then some s else fq m x:=by
 induction m with
 | nil=>rfl
 | cons p m k =>
  simp only[G7,fq];by_cases h:p.1=q
  .
   rw[X0 h];simp only[fq];by_cases Y:q=x
   . simp[Y]
   rw[XV Y,XV Y,XV (by rw[h];exact Y)]
  rw[XV h];simp only[fq,k];by_cases Y:q=x
  . rw[X0 Y,X0 Y,XV (by rw[<-Y];exact h)]
  rw[XV Y,XV Y]
def lH(l:List Sgd):PM:=(DJ l).map λs=>(s.q,s)
theorem kvQ_P(l:List Sgd):nX l=jk (l.map λs=>(s.q,s)):=by
 induction l with
 | nil=>rfl
 | cons s l k=>rw[BG,X7,DT,k]
theorem ZkU(l:List Sgd):nX (DJ l)=jk (lH l):=kvQ_P _
theorem ZiA(l:List Sgd)(q:Qst):fq (l.map λs=>(s.q,s)) q=fB l q:=by
 induction l with
 | nil=>rfl
 | cons s l k=>simp only[X7,fq,fB,k]
theorem VA(l:List Sgd)(q:Qst):fq (lH l) q=fB (DJ l) q:=ZiA _ _
abbrev PZ:=List (Qst×Option Sgd)
def vZ:Option Sgd->List D
 | some s=>s.d
 | none=>[.v (.string (bs [])),.i 0,.i 0,.e,.e]
def rY(m:PZ):List D:=m.flatMap λp=>[.agg p.1.d,.agg (vZ p.2)]
theorem DN(p:Qst×Option Sgd)(m:PZ):rY (p::m) = .agg p.1.d :: .agg (vZ p.2)::rY m:=rfl
def zg:PZ->Qst->Option Sgd->PZ
 | p::m,q,s=>if p.1=q then(q,s)::m else p::zg m q s
 | [],q,s=>[(q,s)]
theorem ZkO{m:PZ}{q:Qst}{s:Option Sgd}:ib (rY m) (.agg q.d) (.agg (vZ s))=rY (zg m q s):=by
 induction m with
 | nil=>rfl
 | cons p m k =>
  rw[DN];simp only[ib,DX,zg];by_cases h:p.1=q
  . rw[X0 h,h];simp[DN]
  have Y : ¬q=p.1:=λe=>h e.symm;rw[XV h];simp only[Y,decide_false,Yn,Y8,k,DN]
@[go_sem]theorem kvSet_Z{m:PZ}{q:Qst}:ib (rY m) (.agg [.v (.string (bs q.name)),.i q.ty]) (.agg [.v (.string (bs [])),.i 0,.i 0,.e,.e])=rY (zg m q none):=ZkO (s:=none)
@[go_sem]theorem V5{m:PZ}:aX (rY m)=true:=by
 induction m with
 | nil=>rfl
 | cons p m k =>
  rw[DN];cases F:p.2 with
  | none=>simp only[aX,k,D.nr,Qst.d,vZ,aQ,Zt]
  | some s=>simp only[aX,k,D.nr,Qst.d,vZ,Sgd.d,mM,Bu,Zt]
def GI:Sgd:=⟨⟨[],0,0,[]⟩,[]⟩
def zp(m:PZ):PM:=m.map λp=>(p.1,p.2.getD GI)
@[go_sem]theorem wks_kvZ{m:PZ}:dA (rY m)=jk (zp m):=by
 induction m with
 | nil=>rfl
 | cons p m k =>
  rw[DN];have:zp (p::m)=(p.1,p.2.getD GI)::zp m:=rfl;rw[this,DT];cases F:p.2 with
  | none=>simp only[dA,wk,k,Qst.d,vZ,Option.getD_none,GI,Sgd.d,dB,Yy]
  | some s=>simp only[dA,wk,k,Qst.d,vZ,YV,Sgd.d,qb,CE]
theorem ZcI(m:PZ)(q:Qst)(s:Option Sgd):zp (zg m q s)=G7 (zp m) q (s.getD GI):=by
 induction m with
 | nil=>rfl
 | cons p m k =>
  have e:zp (p::m)=(p.1,p.2.getD GI)::zp m:=rfl;unfold zg;rw[e];unfold G7;by_cases h:p.1=q
  . rw[X0 h,X0 h];rfl
  rw[XV h,XV h,<-k];rfl
def yK(l:List Sgd):PZ:=(DJ l).map λs=>(s.q,some s)
theorem kvQ_Z(l:List Sgd):nX l=rY (l.map λs=>(s.q,some s)):=by
 induction l with
 | nil=>rfl
 | cons s l k=>rw[BG,X7,DN,k];rfl
theorem ZkT(l:List Sgd):nX (DJ l)=rY (yK l):=kvQ_Z _
theorem ZcJ(l:List Sgd):zp (yK l)=lH l:=by unfold zp yK lH;rw[List.map_map];rfl
def yR(m:PZ)(l:List Qst):Nat->PZ
 | 0=>m
 | k+1=>zg (yR m l k) l[k]! none
@[go_sem]theorem goesZ_0{m:PZ}{l:List Qst}:yR m l 0=m:=rfl
def FW(put:List Sgd)(drop:List Qst):PM:=zp (yR (yK put) drop drop.length)
theorem Zat(m:PZ)(l:List Qst)(q:Qst):∀k,k<=l.length->((fq (zp (yR m l k)) q).isSome=true↔(q∈l.take k\/(fq (zp m) q).isSome=true))
 | 0,_=>by simp[yR]
 | k+1,h=>by
  have a:=Zat m l q k (by omega);have hk:k<l.length:=by omega
  have e:l.take (k+1)=l.take k++[l[k]!]:=by rw[Zp,Yi hk,getElem!_pos l k hk];rfl
  show(fq (zp (zg (yR m l k) l[k]! none)) q).isSome=true↔_;rw[ZcI,Zii,e,Yu];by_cases Y:l[k]! = q
  . rw[X0 Y];simp[Y]
  rw[XV Y,a];have:(q∈[l[k]!])=False:=YS λx=>Y (Yk.1 x).symm;rw[this,or_false]
def yz(a b:Sgd):Bool:=decide (a.set.life=b.set.life)&&decide (a.set.data=b.set.data)&&decide (a.sigs=b.sigs)
def kX(a b:List Dat):Bool:=decide (a=b)
def yV(a b:List RSig):Bool:=decide (a=b)
theorem ZaY{a b:List α}(h:(a.length:Int)≠b.length):a≠b:=by rintro rfl;exact h rfl
theorem ZgV(a b:Sgd):yz a b=(a.set.life==b.set.life&&kX a.set.data b.set.data&&yV a.sigs b.sigs):=by rw[YD];simp[yz,kX,yV]
theorem Mx{x y:Dat}(h:x.t=y.t/\x.n=y.n/\x.m=y.m):x=y:=by cases x;cases y;simp_all
def qo(m:PM)(q:Qst):Bool:=!(fq m q).isSome
def Aq(o:Option Sgd)(s:Sgd):Bool:=match o with
 | none=>true
 | some x=>!yz x s
def mW(m:PM)(s:Sgd):Option Qst:=if qo m s.q=true then some s.q else none
def lK(m:PM)(s:Sgd):Option Sgd:=if Aq (fq m s.q) s=true then some s else none
def l8(m:PM)(s:Sgd):Option Sgd:=if qo m s.q=true then some s else none
def j3S(m:PM)(q:Qst):Option Qst:=if qo m q=true then some q else none
def LX{β:Type}[Inhabited α]{f:α->Option β}{l:List α}(hk:k<l.length){y:β}(h:f l[k]! = some y):(l.take (k+1)).filterMap f=(l.take k).filterMap f++[y]:=by rw[Zp,Yi hk,List.filterMap_append];rw[getElem!_pos l k hk]at h;simp[h]
def LY{β:Type}[Inhabited α]{f:α->Option β}{l:List α}(hk:k<l.length)(h:f l[k]! = none):(l.take (k+1)).filterMap f=(l.take k).filterMap f:=by rw[Zp,Yi hk,List.filterMap_append];rw[getElem!_pos l k hk]at h;simp[h]
def LZ{β:Type}(f:α->Option β)(l:List α)(k:Nat):((l.take k).filterMap f).length<=k:=by have:=List.length_filterMap_le f (l.take k);rw[YO]at this;omega
attribute [go_sem] List.filterMap_nil Option.map_some Option.map_none Option.getD_some Option.getD_none Option.isSome_some Option.isSome_none
def ZaM(l:List α):l.filterMap some=l:=by simp
structure jo where
 kind:Int
 sets:List Sgd
 cut:Str
 deriving Inhabited,DecidableEq
def jo.d(x:jo):List D:=[.i x.kind,.l (x.sets.map Sgd.d),.v (.string (bs x.cut))]
def jo.df(f:Bool)(x:jo):List D:=[.i x.kind,.list f (x.sets.map Sgd.d),.v (.string (bs x.cut))]
abbrev IM:=List (Qst×Int)
def ug(m:IM):List D:=m.flatMap λp=>[.agg p.1.d,.i p.2]
theorem DV(p:Qst×Int)(m:IM):ug (p::m) = .agg p.1.d :: .i p.2::ug m:=rfl
def ul:IM->Qst->Option Int
 | p::m,q=>if p.1=q then some p.2 else ul m q
 | [],_=>none
def D5:IM->Qst->Int->IM
 | p::m,q,s=>if p.1=q then(q,s)::m else p::D5 m q s
 | [],q,s=>[(q,s)]
theorem ZkY{m:IM}{q:Qst}:iZ (ug m) (.agg q.d)=(ul m q).map λs=>.i s:=by
 induction m with
 | nil=>rfl
 | cons p m k =>
  rw[DV];simp only[iZ,DX,ul];by_cases h:p.1=q
  . subst h;simp
  have Y : ¬q=p.1:=λe=>h e.symm;simp only[h,Y,decide_false,Yn,Y8,k]
@[go_sem]theorem kvGet_Ix{m:IM}{n:Str}{t:Int}:iZ (ug m) (.agg [.v (.string (bs n)),.i t])=(ul m ⟨n,t⟩).map λs=>.i s:=ZkY (q:=⟨n,t⟩)
theorem ZkR{m:IM}{q:Qst}{s:Int}:ib (ug m) (.agg q.d) (.i s)=ug (D5 m q s):=by
 induction m with
 | nil=>rfl
 | cons p m k =>
  rw[DV];simp only[ib,DX,D5];by_cases h:p.1=q
  . rw[X0 h,h];simp[DV]
  have Y : ¬q=p.1:=λe=>h e.symm;rw[XV h];simp only[Y,decide_false,Yn,Y8,k,DV]
def vJ(l:List Sgd):Nat->IM
 | 0=>[]
 | k+1=>D5 (vJ l k) l[k]!.q k
def bK(l:List Sgd)(q:Qst):Int:=(ul (vJ l l.length) q).getD (-1)
theorem Zai{m:IM}{q r:Qst}{s:Int}:ul (D5 m q s) r=if q=r then some s else ul m r:=by
 induction m with
 | nil=>simp[D5,ul]
 | cons p m k =>
  unfold D5;by_cases h:p.1=q
  .
   rw[X0 h];simp only[ul];by_cases e:q=r
   . rw[X0 e,X0 e]
   rw[XV e,XV e,XV (λO=>e (h▸O))]
  rw[XV h];simp only[ul,k];by_cases e:p.1=r
  . rw[X0 e,X0 e,XV (λO=>h (e.trans O.symm))]
  rw[XV e,XV e]
theorem Oq(l:List Sgd)(q:Qst):∀k,k<=l.length -> ∀i,ul (vJ l k) q=some i -> ∃j:Nat,i=j/\j<k/\l[j]!.q=q
 | 0,_,i,h=>by cases h
 | k+1,X,i,h=>by
  rw[vJ,Zai]at h;by_cases e:l[k]!.q=q
  . rw[X0 e]at h;cases h;exact⟨k,rfl,om,e⟩
  rw[XV e]at h;let⟨j,J,Y,A⟩:=Oq l q k om i h;exact⟨j,J,om,A⟩
theorem Ziv{q:Qst}(h:0<=bK l q):(bK l q).toNat<l.length/\l[(bK l q).toNat]!.q=q:=by
 unfold bK at h ⊢;cases e:ul (vJ l l.length) q with
 | none=>rw[e]at h;simp at h
 | some i =>
  obtain⟨j,rfl,Y,A⟩:=Oq l q _ (XW _) i e;exact⟨by simpa using Y,by simpa using A⟩
def tN(l:List Sgd)(q:Qst):bK l q<l.length:=by
 by_cases h:0<=bK l q
 . have:=(Ziv h).1;omega
 omega
def uZ(a b:Str):Int:=if ai a&&ai b then kS a b else 0
def Nz(p:Nat->Bool)(n:Nat):Nat:=kG (λk=>if p k then 0 else -1) 0 n
def JS{X j:Nat}(hv:X=kG (λk=>if p k then 0 else -1) i j)(h:i<j):(p ((i+j) / 2)=false->X=kG (λk=>if p k then 0 else -1) ((i+j) / 2+1) j)/\(p ((i+j) / 2)=true->X=kG (λk=>if p k then 0 else -1) i ((i+j) / 2)):=by rw[wN,X0 h]at hv;exact⟨λY=>by rw[Y,X0 (by decide)]at hv;exact hv,λY=>by rw[Y,XV (by decide)]at hv;exact hv⟩
def Ao(l:List Sgd)(n:Str):Nat:=Nz (λi=>decide (0<=uZ l[i]!.set.name n)) l.length
def kD(l:List Sgd)(n:Str):Bool:=decide (Ao l n<l.length)&&fT l[Ao l n]!.set.name n
def zl(l:List Sgd)(n:Str):Nat:=Nz (λi=>decide (0<uZ l[i]!.set.name n)) l.length
def wJ(l:List Sgd):Nat->Int
 | 0=>-1
 | k+1=>if l[k]!.set.ty=8 then k else wJ l k
def jc(l:List Sgd)(n:Str):Int:=wJ l (zl l n)
theorem Zop(h:0<k)(h2:l[k-1]!.set.ty=8):wJ l k=(k:Int)-1:=by obtain⟨m,rfl⟩:∃m,k=m+1:=⟨k-1,om⟩;rw[Nat.add_sub_cancel]at h2;rw[wJ,X0 h2];omega
theorem Zoq(h:0<k)(h2 : ¬l[k-1]!.set.ty=8):wJ l k=wJ l (k-1):=by
 obtain⟨m,rfl⟩:∃m,k=m+1:=⟨k-1,om⟩;rw[Nat.add_sub_cancel]at *
 rw[wJ,XV h2]
theorem JU(p:Nat->Bool)(n:Nat):Nz p n<=n:=by
 have : ∀m i j,j-i<=m->i<=j->kG (λk=>if p k then(0:Int)else -1) i j<=j:=by
  intro m;induction m with
  | zero=>intro i j J Y;rw[wN,XV (by omega)];exact Y
  | succ m c =>
   intro i j J Y;rw[wN];by_cases a:i<j
   .
    rw[X0 a];by_cases q:(if p ((i+j) / 2)=true then(0:Int)else -1)<0
    . rw[X0 q];exact c _ _ (by omega) (by omega)
    rw[XV q];exact Yd (c i ((i+j) / 2) (by omega) (by omega)) (by omega)
   rw[XV a];exact Y
 exact this n 0 n om (Yh _)
theorem ZbK(l:List Sgd):∀k, -1<=wJ l k/\wJ l k<k
 | 0=>by simp[wJ]
 | k+1=>by have:=ZbK l k;unfold wJ;split<;>omega
def xU(l:List Sgd)(n:Str):jc l n<l.length:=by have J:=(ZbK l (zl l n)).2;have Y:zl l n<=l.length:=JU _ _;unfold jc;omega
def si(ls:List Str):Str×Int :=
 if ls=[]then([46],0)
 else if 8<ls.length then([],11)
 else if ax ls.length (jf ls) 0=false then([],11)
 else if 60<(jT ls).length then([],11)
 else(jT ls,0)
def zC(n:Str):List Str:=[42]::bA n
def R8(n:Str):Str:=(si (zC n)).1
def MJ(z:Zon):Nat->Str->Str
 | 0,n=>n
 | f+1,n=>if n=z.apex\/kD z.sets n=true then n else MJ z f (tO n)
def Cu(z:Zon)(n:Str):Str:=MJ z ((dH n).length+1) n
def ZbW{n:Str}(hn:ai n=true)(u:dW n z.apex)(N:n≠z.apex)(J:kD z.sets n=false):Cu z n=Cu z (jR n)/\(dH (jR n)).length<(dH n).length:=by
 let⟨O,_⟩:=Gu hn u N;have e:=(Bo hn O).2;have h:(dH (jR n)).length+1=(dH n).length:=by rw[e,List.length_dropLast];have:dH n≠[]:=λa=>O (Db (by rw[a];decide));have:=Zl.2 this;omega
 have F:tO n=jR n:=by unfold tO;rw[hn,Ze.2 O];rfl
 refine⟨?_,om⟩;unfold Cu;rw[show(dH n).length+1=((dH (jR n)).length+1)+1 by omega,MJ,XV (by rw[J];simp[N]),F]
def ZoI{n:Str}(h:n=z.apex\/kD z.sets n=true):Cu z n=n:=by unfold Cu;rw[MJ,X0 h]
theorem Zli{l:List Str}(h:(si l).2≠0):(si l).1=[]:=by
 unfold si at h ⊢
 repeat' split
 all_goals first|rfl|(simp_all;done)
def nI(ls:List Str):List Str:=List.replicate (8-ls.length) []++ls
theorem ET(h:ls.length<=8):(nI ls).length=8:=by simp[nI];omega
def Zfk(h:ls.length<8):(nI ls).set (8-ls.length-1) a=nI (a::ls):=by unfold nI;rw[List.set_append_left _ _ (by simp;omega)];obtain⟨m,v⟩:∃m,8-ls.length=m+1:=⟨8-ls.length-1,om⟩;rw[v,Nat.add_sub_cancel,YI,show 8-(ls.length+1)=m by omega,List.replicate_succ',List.set_append_right _ _ (by simp)];simp
def TA(h:ls.length<=8):(((nI ls).map sR).take 8).drop (8-ls.length)=ls.map sR:=by rw[Ye (by rw[YX,ET h];exact XW _)];unfold nI;rw[Yv,List.drop_append_of_le_length (by simp),List.drop_of_length_le (by simp),XZ]
def wV(z:Zon)(n:Str):Str:=R8 (Cu z n)
theorem Zak : ∀{l:List Int}{x:Int}{k:Nat},k<l.length->l[k]! = x->(∀i,i<k->l[i]! ≠ x)->l.idxOf x=k
 | [],_,_,h,_,_=>by simp at h
 | y::l,x,0,_,h,_=>by simp at h;subst h;simp
 | y::l,x,k+1,X,h,f=>by
  have h0:y≠x:=by simpa using f 0 (Nat.succ_pos _)
  have:=Zak (l:=l) (x:=x) (k:=k) (by simpa using X) (by simpa using h) (λi hi=>by simpa using f (i+1) om);rw[List.idxOf_cons,Ze.2 h0,this];rfl
def Ab(l:List Int)(x:Int):Int:=if x∈l then(l.idxOf x:Int)else -1
theorem ZlQ{l:List Int}{x:Int}(hk:k<l.length)(h:l[k]! = x)(hn : ∀i,i<k->l[i]! ≠ x):Ab l x=k:=by unfold Ab;rw[X0 (by rw[<-h,getElem!_pos l k hk];exact Yz hk),Zak hk h hn]
theorem ZlR{l:List Int}{x:Int}(hn : ∀i,i<l.length->l[i]! ≠ x):Ab l x = -1:=by unfold Ab;rw[XV];intro h;let⟨i,hi,e⟩:=Zb h;exact hn i hi (by rw[getElem!_pos l i hi];exact e)
theorem ZlS{l:List Int}{x:Int}:decide (0<=Ab l x)=decide (x∈l):=by
 unfold Ab;split
 . rename_i h;simp[h]
 rename_i h;simp[h]
def qi(l:List Sgd)(ps:List Int):Nat->List Sgd
 | 0=>[]
 | k+1=>if ps[k]! < 0\/ps[k]! ∈ ps.take k then qi l ps k else qi l ps k++[l[ps[k]!.toNat]!]
@[go_sem]theorem pickTo_0:qi l ps 0=[]:=rfl
def Vz(h:ps[k]! < 0\/ps[k]! ∈ ps.take k):qi l ps (k+1)=qi l ps k:=X0 h
def Vy(h : ¬(ps[k]! < 0\/ps[k]! ∈ ps.take k)):qi l ps (k+1)=qi l ps k++[l[ps[k]!.toNat]!]:=XV h
def nM(l:List Sgd)(ps:List Int):List Sgd:=qi l ps ps.length
theorem Ou(l:List Sgd)(ps:List Int):∀k,(qi l ps k).length<=k
 | 0=>XW _
 | k+1=>by
  have:=Ou l ps k;unfold qi;split
  . omega
  simp;omega
theorem Ot(l:List Sgd)(ps:List Int)(hp : ∀i,i<ps.length->ps[i]! < l.length):∀k,k<=ps.length -> ∀s∈qi l ps k,s∈l
 | 0,_,s,h=>by cases h
 | k+1,X,s,h=>by
  unfold qi at h;split at h
  . exact Ot l ps hp k om s h
  rename_i f;rcases Yu.1 h with h|h
  . exact Ot l ps hp k om s h
  rw[Yk.1 h];have:=hp k om;exact eO om
def K4{l:List Int}{n:Int}(h : ∀x∈l,x<n):∀i,i<l.length->l[i]! < n:=λi hi=>h _ (by rw[getElem!_pos l i hi];exact Yz hi)
def xM(l:List Sgd)(cut:Str)(ds:List Dat):Nat->List Int
 | 0=>[]
 | k+1=>if fT ds[k]!.t cut then xM l cut ds k++[bK l ⟨ds[k]!.t,1⟩]else xM l cut ds k
def Di(l:List Sgd)(c:Str):Int:=if bK l ⟨c,6⟩<0 then bK l ⟨c,8⟩else bK l ⟨c,6⟩
def Zik(l:List Sgd)(c:Str):Di l c<l.length:=by unfold Di;split<;>exact tN _ _
theorem Zmf(h:fT ds[k]!.t c=true):xM l c ds (k+1)=xM l c ds k++[bK l ⟨ds[k]!.t,1⟩]:=X0 h
theorem Zmg(h:fT ds[k]!.t c=false):xM l c ds (k+1)=xM l c ds k:=XV o2B
theorem Zau(l:List Sgd)(c:Str)(ds:List Dat):∀k,(xM l c ds k).length<=k
 | 0=>XW _
 | k+1=>by
  have:=Zau l c ds k;unfold xM;split
  . simp;omega
  omega
theorem PX(l:List Sgd)(c:Str)(ds:List Dat):∀k,∀x∈xM l c ds k,x<(l.length:Int)
 | 0,x,h=>by cases h
 | k+1,x,h=>by
  unfold xM at h;split at h
  .
   rcases Yu.1 h with h|h
   . exact PX l c ds k x h
   rw[Yk.1 h];exact tN _ _
  exact PX l c ds k x h
def mI(l:List Sgd)(cut:Str)(ds:List Dat)(k:Nat):List Int:=[bK l ⟨cut,2⟩,Di l cut]++xM l cut ds k
def pls_0:(mI l c ds 0).map iR=[[.i (bK l ⟨c,2⟩)],[.i (Di l c)]]:=rfl
def pls_l0:(mI l c ds 0).length=2:=rfl
attribute[go_sem]pls_0 pls_l0
def Zil(h:fT ds[k]!.t c=true):mI l c ds (k+1)=mI l c ds k++[bK l ⟨ds[k]!.t,1⟩]:=by unfold mI;rw[Zmf h,YR]
def Zim(h:fT ds[k]!.t c=false):mI l c ds (k+1)=mI l c ds k:=by unfold mI;rw[Zmg h]
def Oo(l:List Sgd)(c:Str)(ds:List Dat)(k:Nat):(mI l c ds k).length<=2+k:=by have:=Zau l c ds k;unfold mI;rw[X3];simp;omega
def Vp(l:List Sgd)(c:Str)(ds:List Dat)(k:Nat):∀i,i<(mI l c ds k).length->(mI l c ds k)[i]! < (l.length:Int):=K4 λx E=>by
 unfold mI at E;rcases Yu.1 E with e|e
 .
  rcases Yl.1 e with e|e
  . rw[e];exact tN _ _
  rw[Yk.1 e];exact Zik _ _
 exact PX _ _ _ _ _ e
def Kt(l:List Sgd)(cut:Str):List Int :=
 mI l cut l[(bK l ⟨cut,2⟩).toNat]!.set.data l[(bK l ⟨cut,2⟩).toNat]!.set.data.length
structure Vw where
 z:Zon
 q:Qst
 cut:Str
 beh:Bool
 wc:Str
 deriving Inhabited
def Rt(v:Vw):Bool:=!v.beh||(v.q.name==v.cut&&(v.q.ty==6||v.q.ty==8))
def fA(v:Vw)(k:Nat):jo×Bool :=
 let l:=v.z.sets;let n:=bK l ⟨v.z.apex,4⟩
 match k with
 | 0=>if Rt v then(⟨0,[],[]⟩,false)else(⟨4,nM l (Kt l v.cut),v.cut⟩,true)
 | 1=>(⟨1,nM l [bK l v.q],[]⟩,decide (0<=bK l v.q))
 | 2=>(⟨3,nM l [bK l ⟨v.q.name,3⟩],[]⟩,decide (0<=bK l ⟨v.q.name,3⟩) && !decide (v.q.ty=8))
 | 3=>if kD l v.q.name then(⟨5,nM l [n,jc l v.q.name],[]⟩,true)else(⟨0,[],[]⟩,false)
 | 4=>(⟨2,nM l [bK l ⟨v.wc,v.q.ty⟩,jc l v.q.name],[]⟩,decide (0<=bK l ⟨v.wc,v.q.ty⟩))
 | 5=>(⟨3,nM l [bK l ⟨v.wc,3⟩,jc l v.q.name],[]⟩,decide (0<=bK l ⟨v.wc,3⟩) && !decide (v.q.ty=8))
 | _=>if v.wc==[] || !kD l v.wc then(⟨0,[],[]⟩,false)else(⟨5,nM l [n,jc l v.q.name,jc l v.wc],[]⟩,true)
def Bv(v:Vw):jo:=⟨6,nM v.z.sets [bK v.z.sets ⟨v.z.apex,4⟩,jc v.z.sets v.q.name,if v.wc=[]then -1 else jc v.z.sets v.wc],[]⟩
theorem SQ{v:Vw}(h:Rt v=true):fA v 0=(⟨0,[],[]⟩,false):=X0 h
theorem SS{v:Vw}(h:Rt v=false):fA v 0=(⟨4,nM v.z.sets (Kt v.z.sets v.cut),v.cut⟩,true):=XV o2B
theorem Nj{v:Vw}(h:kD v.z.sets v.q.name=true):fA v 3=(⟨5,nM v.z.sets [bK v.z.sets ⟨v.z.apex,4⟩,jc v.z.sets v.q.name],[]⟩,true):=X0 h
theorem SN{v:Vw}(h:kD v.z.sets v.q.name=false):fA v 3=(⟨0,[],[]⟩,false):=XV o2B
theorem SK{v:Vw}(h:(v.wc==[] || !kD v.z.sets v.wc)=true):fA v 6=(⟨0,[],[]⟩,false):=X0 h
theorem SL{v:Vw}(h:(v.wc==[] || !kD v.z.sets v.wc)=false):fA v 6=(⟨5,nM v.z.sets [bK v.z.sets ⟨v.z.apex,4⟩,jc v.z.sets v.q.name,jc v.z.sets v.wc],[]⟩,true):=XV o2B
theorem Wm{v:Vw}(h:v.wc≠[]):Bv v=⟨6,nM v.z.sets [bK v.z.sets ⟨v.z.apex,4⟩,jc v.z.sets v.q.name,jc v.z.sets v.wc],[]⟩:=by unfold Bv;rw[XV h]
theorem Wn{v:Vw}(h:v.wc=[]):Bv v=⟨6,nM v.z.sets [bK v.z.sets ⟨v.z.apex,4⟩,jc v.z.sets v.q.name, -1],[]⟩:=by unfold Bv;rw[X0 h]
def wW(z:Zon)(q:Qst)(k:Nat):Vw:=⟨z,q,(fF z q.name).1,(fF z q.name).2,if k<=3 then[]else wV z q.name⟩
def xZ(z:Zon)(q:Qst):Nat->Nat->jo
 | 0,k=>Bv (wW z q k)
 | f+1,k=>if(fA (wW z q k) k).2 then(fA (wW z q k) k).1 else xZ z q f (k+1)
theorem BZ{q:Qst}(hk:k<7)(h:(fA (wW z q k) k).2=true):xZ z q (7-k) k=(fA (wW z q k) k).1:=by rw[show 7-k=(6-k)+1 by omega,xZ,X0 h]
theorem Ej{q:Qst}(hk:k<7)(h:(fA (wW z q k) k).2=false):xZ z q (7-k) k=xZ z q (7-(k+1)) (k+1):=by rw[show 7-k=(6-k)+1 by omega,xZ,XV o2B,show 7-(k+1)=6-k by omega]
theorem Zmc{q:Qst}:xZ z q (7-7) 7=Bv (wW z q 7):=rfl
def Rx(z:Zon)(q:Qst):jo:=xZ z q 7 0
def pU(z:Zon)(q:Qst):jo×Int :=
 if aP q.ty 1 8=false then(⟨0,[],[]⟩,1)
 else if(jY z q.name).2.2=20 then(⟨7,[],[]⟩,0)
 else if(jY z q.name).2.2≠0 then(⟨0,[],[]⟩,(jY z q.name).2.2)
 else(Rx z q,0)
theorem Zcx{q:Qst}(hz:ak z=true)(hq:ku q=true):(pU z q).2=0:=by
 unfold ku at hq;rw[XU]at hq;unfold pU jY;rw[hq.1,hz,hq.2];simp only[Zt,Zm];by_cases h:under q.name z.apex=true
 . rw[X0 h];rfl
 rw[XV h];rfl
def E9(a b:jo):Bool:=rJ a.sets b.sets&&decide (a.kind=b.kind)&&decide (a.cut=b.cut)
theorem UA(a:jo):E9 a a=true:=by simp[E9,rJ]
def Zsc{a:List D}:(D.fmap a).cells=[.fmap a]:=rfl
def one_fmap{a:List D}:(D.fmap a).one=true:=rfl
def cells_mp{r:Nat}:(D.mp r).cells=[.mp r]:=rfl
def one_mp{r:Nat}:(D.mp r).one=true:=rfl
def one_map{o:Option Nat}:(D.v (.map o)).one=true:=rfl
attribute[go_sem]Zsc one_fmap cells_mp one_mp one_map
def V7{m:PM}:aX [.fmap (jk m)]=true:=by simp only[aX,D.nr,Zja,Zt]
def Zjd{m:PZ}:aX [.fmap (rY m)]=true:=by simp only[aX,D.nr,V5,Zt]
def rA(h:ak z=true):cZ z.sets:=ZhJ (by rw[<-uy];exact h)
theorem ZjN{m:List Sgd}{s:Sgd}(h:x∈yI m s):x=s\/x∈m:=by
 induction m with
 | nil=>simp[yI]at h;exact .inl h
 | cons y m a =>
  unfold yI at h;split at h
  .
   rcases Yl.1 h with e|e
   . exact .inl e
   exact .inr (by simp[e])
  rcases Yl.1 h with e|e
  . exact .inr (by simp[e])
  exact(a e).imp id λk=>by simp[k]
theorem WK{l:List Sgd}{x:Sgd}:∀k,k<=l.length->x∈vO l k->x∈l
 | 0,_,h=>by simp[vO]at h
 | k+1,X,h=>by
  rcases ZjN h with e|e
  . rw[e];exact eO (by omega)
  exact WK k om e
def WM{q:Qst}(h:fq (lH l) q=some x):x∈l/\x.q=q:=by rw[VA]at h;let⟨J,Y⟩:=zR h;exact⟨WK _ (XW _) J,Y⟩
def Ma(h:cZ l)(E:x∈l):sK x:=by obtain⟨i,hi,rfl⟩:=jh.1 E;exact h.2 i hi
def Qs(a:l.length<=1000000)(h : ∀x∈l,sK x):cZ l:=⟨a,λk X=>h _ (eO X)⟩
theorem WL{l:List Sgd}{q:Qst}:∀k,k<=l.length->((fB (vO l k) q).isSome=true↔∃s∈l.take k,s.q=q)
 | 0,_=>by simp[vO,fB]
 | k+1,X=>by
  have c:=WL (l:=l) (q:=q) k (by omega);have e:l.take (k+1)=l.take k++[l[k]!]:=by rw[Zp,Yi (by omega),getElem!_pos l k (by omega)];rfl
  show(fB (yI (vO l k) l[k]!) q).isSome=true↔_;rw[ZjO,e];by_cases Y:l[k]!.q=q
  . rw[X0 Y];exact⟨λ_=>⟨l[k]!,by simp,Y⟩,λ_=>rfl⟩
  rw[XV Y,c];constructor
  . rintro⟨s,A,a⟩;exact⟨s,ZG _ A,a⟩
  rintro⟨s,A,a⟩;rcases Yu.1 A with U|U
  . exact⟨s,U,a⟩
  rw[Yk]at U;subst U;exact absurd a Y
theorem Hq{q:Qst}:(fq (lH l) q).isSome=true↔∃s∈l,s.q=q:=by rw[VA];unfold DJ;rw[WL _ (XW _),Yt]
theorem Zmb{put:List Sgd}{drop:List Qst}{q:Qst}:(fq (FW put drop) q).isSome=true↔(q∈drop \/ ∃s∈put,s.q=q):=by unfold FW;rw[Zat _ _ _ _ (XW _),Yt,ZcJ,Hq]
def leS(a b:Sgd):Bool:=decide (sp a b<=0)
def leQ(a b:Qst):Bool:=decide (qp a b<=0)
def FK{α:Type}(le:α->α->Bool)(a:α):List α->List α
 | []=>[a]
 | b::l=>if le a b then a::b::l else b::FK le a l
def J2(le:α->α->Bool)(l:List α):List α:=l.foldr (FK le) []
theorem Zah(le:α->α->Bool)(a:α)(l:List α):(FK le a l).Perm (a::l):=by
 induction l with
 | nil=>exact .refl _
 | cons b l k =>
  unfold FK;split
  . exact .refl _
  exact(List.Perm.cons b k).trans (List.Perm.swap a b l)
theorem Zfr(le:α->α->Bool)(l:List α):(J2 le l).Perm l:=by
 induction l with
 | nil=>exact .refl _
 | cons a l k=>exact(Zah le a _).trans (List.Perm.cons a k)
theorem ZlI(g : ∀a b c,le a b=true->le b c=true->le a c=true)(f : ∀a b,(le a b||le b a)=true)(a:α)(l:List α)(h:l.Pairwise λa b=>le a b=true):(FK le a l).Pairwise λa b=>le a b=true:=by
 induction l with
 | nil=>exact Z7 _ _
 | cons b l k =>
  have I:=YJ.1 h;unfold FK;split
  .
   rename_i e;refine YJ.2 ⟨λz V=>?_,h⟩;rcases Yl.1 V with q|q
   . rw[q];exact e
   exact g a b z e (I.1 z q)
  rename_i e;refine YJ.2 ⟨λz V=>?_,k I.2⟩;rcases Yl.1 ((Zah le a l).mem_iff.1 V)with q|q
  . rw[q];have:=f a b;rw[Yc]at this;exact this.resolve_left e
  exact I.1 z q
theorem Zfq(g : ∀a b c,le a b=true->le b c=true->le a c=true)(f : ∀a b,(le a b||le b a)=true)(l:List α):(J2 le l).Pairwise λa b=>le a b=true:=by
 induction l with
 | nil=>exact .nil
 | cons a l k=>exact ZlI g f a _ k
def iU(l:List Sgd):List Sgd:=J2 leS l
def sortQ(l:List Qst):List Qst:=J2 leQ l
def ZoH{c:α->α->Int}(h:Cm c)(a b:α):(decide (c a b<=0)||decide (c b a<=0))=true:=by
 have:=h.anti a b;by_cases e:c a b<=0
 . simp[e]
 have:c b a<=0:=by omega
 simp[this]
theorem JY(l:List Sgd):(iU l).Perm l:=Zfr _ l
def Zfo(l:List Sgd):(iU l).Pairwise λa b=>sp a b<=0 :=
 (Zfq (le:=leS) (λa b c J Y=>YB (mY.tr a b c (YP J) (YP Y))) (λa b=>ZoH mY a b) l).imp λh=>YP h
def Once(l:List Sgd):Prop:=l.Pairwise λa b=>a.q≠b.q
def VS{m:List Sgd}(h:Once l)(p:m.Perm l):Once m:=p.symm.pairwise h λe=>e.symm
def VI(h:fe l):Once l:=h.imp λ{a b}k e=>by unfold sp at k;rw[Bh.2 e]at k;omega
def VR(h:Once l)(hs:l.Pairwise λa b=>sp a b<=0):fe l:=(hs.and h).imp λ{a b}k=>by
 by_cases e:sp a b=0
 . exact absurd (Bh.1 e) k.2
 have:=k.1;omega
def TD(h:Once l):fe (iU l):=VR (VS h (JY l)) (Zfo l)
theorem Zfp{m:List Sgd}(t:Once l)(hp:m.Perm l)(hs:m.Pairwise λa b=>sp a b<=0):m=iU l :=
 Gx mY (VR (VS t hp) hs) (TD t) λx=>by rw[hp.mem_iff,(JY l).mem_iff]
theorem NF:x∈iU l↔x∈l:=(JY l).mem_iff
theorem JZ(l:List Sgd):(iU l).length=l.length:=(JY l).length_eq
def UF{d:α->List D}{of:List D->α}(a : ∀x,of (d x)=x){l:List α}(p:rows.Perm (l.map d)):(rows.map of).map d=rows/\(rows.map of).Perm l:=by
 constructor
 .
  rw[List.map_map]
  conv=>rhs;rw[<-List.map_id rows]
  refine Y3 λx E=>?_;obtain⟨y,_,rfl⟩:=Yp.1 (p.mem_iff.1 E);show d (of (d y))=d y;rw[a]
 have:=p.map of;rwa [lG a]at this
structure DOk(d:aM):Prop where
 apex:ai d.apex=true
 wild:jq d.apex=false
 frm:iB d.frm=true
 too:iB d.too=true
 bef:gX d.frm d.too=true
 dlen:d.drop.length<=20000
 plen:d.put.length<=20000
 dok : ∀q∈d.drop,ku q=true
 dord:j5 qp d.drop
 pok : ∀s∈d.put,ve s.set
 pord:fe d.put
 apart : ∀s∈d.put,s.q ∉ d.drop
theorem yB{q:Qst}(h:ku q=true):ai q.name=true:=by unfold ku at h;rw[XU]at h;exact h.1
def Ap{d:aM}:fO d=true↔DOk d:=by
 have m : ∀i,F6 d.drop i=true↔(ku d.drop[i]! = true/\(i=0\/qO d.drop[i-1]! d.drop[i]! < 0)):=by intro i;simp[F6]
 have F : ∀i,putAt d i=true↔((fw d.put[i]!.set=true/\(i=0\/qO d.put[i-1]!.q d.put[i]!.q<0))/\qY d.drop d.put[i]!.q=false):=by intro i;simp[putAt]
 unfold fO;simp only[XU,Ya,XY,dG];constructor
 .
  rintro⟨⟨⟨⟨⟨⟨⟨⟨J,Y⟩,A⟩,c⟩,U⟩,W⟩,f⟩,T⟩,V⟩;have T : ∀i,i<d.drop.length->_:=λi hi=>(m i).1 (T i (Yh _) hi);have V : ∀i,i<d.put.length->_:=λi hi=>(F i).1 (V i (Yh _) hi);refine⟨J,Y,A,c,U,W,f,za.2 λi hi=>(T i hi).1,JO MG λi p hi=>?_,za.2 λi hi=>(iA _).1 (V i hi).1.1,JO mY λi p hi=>?_,za.2 λi hi=>of_decide_eq_false (V i hi).2⟩
  . have:=(T i hi).2.resolve_left om;rwa [Bi (yB (T (i-1) om).1) (yB (T i hi).1)]at this
  have:=(V i hi).1.2.resolve_left om;have a:ai d.put[i-1]!.q.name=true:=((iA _).1 (V (i-1) om).1.1).name;have r:ai d.put[i]!.q.name=true:=((iA _).1 (V i hi).1.1).name;rwa [Bi a r]at this
 intro h;refine⟨⟨⟨⟨⟨⟨⟨⟨h.apex,h.wild⟩,h.frm⟩,h.too⟩,h.bef⟩,h.dlen⟩,h.plen⟩,λi _ hi=>(m i).2 ⟨h.dok _ (eO hi),?_⟩⟩,λi _ hi=>(F i).2 ⟨⟨(iA _).2 (h.pok _ (eO hi)),?_⟩,YY (h.apart _ (eO hi))⟩⟩
 .
  by_cases e:i=0
  . exact .inl e
  right;rw[Bi (yB (h.dok _ (eO (by omega)))) (yB (h.dok _ (eO hi)))];exact yn h.dord om hi
 by_cases e:i=0
 . exact .inl e
 right;have a:ai d.put[i-1]!.q.name=true:=(h.pok _ (eO (show i-1<d.put.length by omega))).name;have r:ai d.put[i]!.q.name=true:=(h.pok _ (eO hi)).name;rw[Bi a r];exact yn h.pord om hi
def wy(l:List Qst)(i:Nat):Bool:=ku l[i]! && (decide (i=0)||decide (qC l[i-1]! l[i]! < 0))
def vH(d:aM)(i:Nat):Bool:=fw d.put[i]!.set && !qY d.drop d.put[i]!.q&&(decide (i=0)||decide (qC d.put[i-1]!.q d.put[i]!.q<0))
def yZ(d:aM):Bool:=ai d.apex && !jq d.apex&&iB d.frm&&iB d.too&&gX d.frm d.too&&decide (d.drop.length<=20000)&&decide (d.put.length<=20000)&&ax d.drop.length (wy d.drop) 0&&ax d.put.length (vH d) 0
theorem Cn(d:aM):yZ d=fO d:=by
 have y:ax d.drop.length (wy d.drop) 0=ax d.drop.length (F6 d.drop) 0:=by
  rw[YD,dG,dG];have a : ∀i,wy d.drop i=true↔(ku d.drop[i]! = true/\(i=0\/qC d.drop[i-1]! d.drop[i]! < 0)):=by intro i;simp[wy]
  have c : ∀i,F6 d.drop i=true↔(ku d.drop[i]! = true/\(i=0\/qO d.drop[i-1]! d.drop[i]! < 0)):=by intro i;simp[F6]
  constructor
  . intro h i _ hi;have J:=(a i).1 (h i (Yh _) hi);have Y:=(a (i-1)).1 (h (i-1) (Yh _) (by omega));exact(c i).2 ⟨J.1,J.2.imp id λk=>by rwa [<-G6 (yB Y.1) (yB J.1)]⟩
  intro h i _ hi;have J:=(c i).1 (h i (Yh _) hi);have Y:=(c (i-1)).1 (h (i-1) (Yh _) (by omega));exact(a i).2 ⟨J.1,J.2.imp id λk=>by rwa [G6 (yB Y.1) (yB J.1)]⟩
 have O:ax d.put.length (vH d) 0=ax d.put.length (putAt d) 0:=by
  rw[YD,dG,dG];have a : ∀i,vH d i=true↔((fw d.put[i]!.set=true/\qY d.drop d.put[i]!.q=false)/\(i=0\/qC d.put[i-1]!.q d.put[i]!.q<0)):=by intro i;simp[vH]
  have c : ∀i,putAt d i=true↔((fw d.put[i]!.set=true/\(i=0\/qO d.put[i-1]!.q d.put[i]!.q<0))/\qY d.drop d.put[i]!.q=false):=by intro i;simp[putAt]
  have nm : ∀i:Nat,fw d.put[i]!.set=true->ai d.put[i]!.q.name=true:=λi h=>((iA _).1 h).name;constructor
  . intro h i _ hi;have J:=(a i).1 (h i (Yh _) hi);have Y:=(a (i-1)).1 (h (i-1) (Yh _) (by omega));exact(c i).2 ⟨⟨J.1.1,J.2.imp id λk=>by rwa [<-G6 (nm _ Y.1.1) (nm _ J.1.1)]⟩,J.1.2⟩
  intro h i _ hi;have J:=(c i).1 (h i (Yh _) hi);have Y:=(c (i-1)).1 (h (i-1) (Yh _) (by omega));exact(a i).2 ⟨⟨J.1.1,J.2⟩,J.1.2.imp id λk=>by rwa [G6 (nm _ Y.1.1) (nm _ J.1.1)]⟩
 unfold yZ fO;rw[y,O]
def vQ(m:List Qst):List D:=m.flatMap λq=>[.agg q.d,.b true]
theorem Hw(q:Qst)(m:List Qst):vQ (q::m) = .agg q.d :: .b true::vQ m:=rfl
@[go_sem]theorem kvS_nil:vQ []=[]:=rfl
def vG(m:List Qst)(q:Qst):List Qst:=if qY m q then m else m++[q]
theorem ZkZ{m:List Qst}{q:Qst}:(iZ (vQ m) (.agg q.d)).getD (.v (.bool false)) = .v (.bool (qY m q)):=by
 induction m with
 | nil=>rfl
 | cons s m k =>
  rw[Hw];simp only[iZ,DX];by_cases h:q=s
  . subst h;simp[qY]
  simp only[h,decide_false,Yn,Y8,k,qY,Yl,false_or]
@[go_sem]theorem kvGetD_S{m:List Qst}{q:Qst}:(iZ (vQ m) (.agg [.v (.string (bs q.name)),.i q.ty])).getD (.v (.bool false)) = .v (.bool (qY m q)):=ZkZ
theorem ZkP{m:List Qst}{q:Qst}:ib (vQ m) (.agg q.d) (.v (.bool true))=vQ (vG m q):=by
 induction m with
 | nil=>rfl
 | cons s m k =>
  rw[Hw];simp only[ib,DX];by_cases h:q=s
  .
   subst h;have:vG (q::m) q=q::m:=by simp[vG,qY]
   rw[this,Hw];simp
  have Y:vG (s::m) q=s::vG m q:=by unfold vG qY;by_cases e:q∈m<;>simp[h,e]
  rw[Y,Hw];simp only[h,decide_false,Yn,Y8,k]
@[go_sem]theorem kvSet_S{m:List Qst}{q:Qst}:ib (vQ m) (.agg [.v (.string (bs q.name)),.i q.ty]) (.v (.bool true))=vQ (vG m q):=ZkP
def zH(l:List Qst):Nat->List Qst
 | 0=>[]
 | k+1=>vG (zH l k) l[k]!
@[go_sem]theorem qsTo_0{l:List Qst}:zH l 0=[]:=rfl
theorem Zh6{m:List Qst}{q x:Qst}:x∈vG m q↔x=q\/x∈m:=by
 unfold vG qY;by_cases e:q∈m
 . simp only[e,decide_true,Zm];exact⟨λh=>.inr h,λh=>h.elim (λk=>k▸e) id⟩
 simp only[e,decide_false,Yn,Y8,Yu,Yk];exact⟨λh=>h.symm,λh=>h.symm⟩
theorem Vb{l:List Qst}{x:Qst}:∀k,k<=l.length->(x∈zH l k↔x∈l.take k)
 | 0,_=>by simp[zH]
 | k+1,X=>by
  have e:l.take (k+1)=l.take k++[l[k]!]:=by rw[Zp,Yi (by omega),getElem!_pos l k (by omega)];rfl
  show x∈vG _ _↔_;rw[Zh6,Vb k (by omega),e,Yu,Yk];exact⟨λh=>h.symm,λh=>h.symm⟩
@[go_sem]theorem ask_qs{l:List Qst}{q:Qst}:qY (zH l l.length) q=qY l q:=by unfold qY;rw[ZQ,Vb _ (XW _),Yt]
def lJ(a b:Zon):aM×Int :=
 if ak a=false\/ak b=false\/a.apex≠b.apex then(sS,1)else if gX (aL a) (aL b)=false then(sS,23)else
 (⟨a.apex,aL a,aL b,a.sets.filterMap (mW (lH b.sets)),b.sets.filterMap (lK (lH a.sets))⟩,0)
def gF(z:Zon)(d:aM):List Sgd:=z.sets.filterMap (l8 (FW d.put d.drop))
def pF(z:Zon)(d:aM):Zon:=⟨z.apex,iU (gF z d++d.put)⟩
def eY(z:Zon)(d:aM):Zon×Int :=
 if ak z=false\/fO d=false\/z.apex≠d.apex then(dQ,1)else if aL z≠d.frm then(dQ,23)else
 if 20000<(gF z d).length+d.put.length then(dQ,2)else
 if ak (pF z d)=false\/aL (pF z d)≠d.too then(dQ,35)else(pF z d,0)
theorem Zme{m:PM}:x∈l.filterMap (l8 m)↔x∈l/\fq m x.q=none:=by
 rw[Zz];unfold l8 qo;constructor
 .
  rintro⟨y,o,h⟩;cases e:fq m y.q with
  | none=>simp[e]at h;subst h;exact⟨o,e⟩
  | some v=>simp[e]at h
 rintro⟨J,Y⟩;exact⟨x,J,by simp[Y]⟩
theorem Gy{d:aM}:x∈gF z d↔x∈z.sets/\x.q ∉ d.drop /\ ∀s∈d.put,s.q≠x.q:=by
 unfold gF;rw[Zme];have:fq (FW d.put d.drop) x.q=none↔¬(fq (FW d.put d.drop) x.q).isSome=true:=by cases fq (FW d.put d.drop) x.q<;>simp
 rw[this,Zmb];constructor
 . rintro⟨J,Y⟩;exact⟨J,λh=>Y (.inl h),λs N e=>Y (.inr ⟨s,N,e⟩)⟩
 rintro⟨J,Y,A⟩;exact⟨J,λh=>h.elim Y λ⟨s,N,e⟩=>A s N e⟩
theorem ZaN{α:Type}{r:α->α->Prop}{f:α->Option α}(hf : ∀x y,f x=some y->y=x){l:List α}(h:l.Pairwise r):(l.filterMap f).Pairwise r:=by
 induction l with
 | nil=>exact .nil
 | cons x l ih =>
  have h':=YJ.1 h;rw[List.filterMap_cons]
  split
  . exact ih h'.2
  rename_i y hy
  refine YJ.2 ⟨λz hz=>?_,ih h'.2⟩
  obtain⟨w,hw,hwz⟩:=Zz.1 hz;rw[hf x y hy,hf w z hwz];exact h'.1 w hw
def Zmd(m:PM)(x y:Sgd)(h:l8 m x=some y):y=x:=by
 unfold l8 at h;split at h
 . exact(Zu h).symm
 cases h
def ZeP{d:aM}(h:fe z.sets):fe (gF z d):=ZaN (Zmd _) h
def Wv{d:aM}(hz:fe z.sets)(m:fe d.put):Once (gF z d++d.put) :=
 Zh.2 ⟨VI (ZeP hz),VI m,λa c b p e=>(Gy.1 c).2.2 b p e.symm⟩
def ZeR(z:Zon)(d:aM):(gF z d).length<=z.sets.length:=List.length_filterMap_le _ _
theorem ZjF(z:Zon)(d:aM):(pF z d).sets.length=(gF z d).length+d.put.length:=by show(iU _).length=_;rw[JZ,X3]
def Zf2{s:Sgd}(h:s.set.data.length<=100000)(k:s.sigs.length<=100000):sK s:=⟨h,k⟩
def ZpZ:dQ.apex=[]:=rfl
def ZpY:dQ.sets=[]:=rfl
def dlt0_put:sS.put=[]:=rfl
def ZrE:sS.drop=[]:=rfl
def ZrF:sS.apex=[]:=rfl
def dlt0_frm:sS.frm=0:=rfl
def dlt0_too:sS.too=0:=rfl
attribute[go_sem]ZpZ ZpY dlt0_put ZrE ZrF dlt0_frm dlt0_too
theorem Uz{s:Sgd}(hq:x.q=s.q):yz x s=true↔x=s:=by
 constructor
 . intro h;unfold yz at h;simp only[XU,XY]at h;obtain⟨⟨⟨n,t,l,d⟩,g⟩,⟨⟨a,c,f,u⟩,L⟩⟩:=x,s;simp only[Sgd.q,Qst.mk.injEq]at hq h;simp[h,hq]
 rintro rfl;simp[yz]
theorem Ov{m:PM}{q:Qst}:fq m q=none↔¬(fq m q).isSome=true:=by cases fq m q<;>simp
theorem Zj7(h:fe l)(q:Qst):fq (lH l) q=fB l q:=by
 cases e:fB l q with
 | none =>
  rw[Ov,Hq];rintro⟨s,N,K⟩;exact Fx.1 e s N K
 | some s =>
  let⟨J,Y⟩:=zR e;have:(fq (lH l) q).isSome=true:=Hq.2 ⟨s,J,Y⟩;let⟨x,E⟩:=YU.1 this;let⟨A,a⟩:=WM E;have U:=vN h A;rw[a,e]at U;rw[E,U]
section
variable {a b : Zon}
def I5(a b:Zon):List Qst:=a.sets.filterMap (mW (lH b.sets))
def Dh(a b:Zon):List Sgd:=b.sets.filterMap (lK (lH a.sets))
def dD(a b:Zon):aM:=⟨a.apex,aL a,aL b,I5 a b,Dh a b⟩
theorem Mo{q:Qst}:q∈I5 a b↔(∃s∈a.sets,s.q=q) /\ ∀s∈b.sets,s.q≠q:=by
 unfold I5;rw[Zz];constructor
 .
  rintro⟨s,N,h⟩;unfold mW qo at h;cases e:fq (lH b.sets) s.q with
  | some v=>simp[e]at h
  | none =>
   simp[e]at h;subst h;refine⟨⟨s,N,rfl⟩,λx E K=>?_⟩;rw[Ov,Hq]at e;exact e ⟨x,E,K⟩
 rintro⟨⟨s,N,rfl⟩,h⟩;refine⟨s,N,?_⟩;have e:fq (lH b.sets) s.q=none:=by rw[Ov,Hq];rintro⟨x,E,K⟩;exact h x E K
 simp[mW,qo,e]
theorem put_mem(m:fe a.sets):x∈Dh a b↔x∈b.sets/\x ∉ a.sets:=by
 unfold Dh;rw[Zz];have O : ∀s:Sgd,Aq (fq (lH a.sets) s.q) s=true↔s ∉ a.sets:=by
  intro s;rw[Zj7 m];cases e:fB a.sets s.q with
  | none=>simp only[Aq,true_iff];intro N;exact Fx.1 e s N rfl
  | some v =>
   let⟨J,Y⟩:=zR e;simp only[Aq,Ya];constructor
   . intro h N;have:=vN m N;rw[e]at this;have:=Zu this;rw[(Uz Y).2 this]at h;cases h
   intro h;cases q:yz v s with
   | false=>rfl
   | true=>rw[(Uz Y).1 q]at J;exact absurd J h
 constructor
 .
  rintro⟨s,N,h⟩;unfold lK at h;split at h
  . rename_i e;cases h;exact⟨N,(O _).1 e⟩
  cases h
 rintro⟨J,Y⟩;exact⟨x,J,by unfold lK;rw[X0 ((O _).2 Y)]⟩
theorem ZbC(m:PM)(x y:Sgd)(h:lK m x=some y):y=x:=by
 unfold lK at h;split at h
 . exact(Zu h).symm
 cases h
def Vf(p:fe b.sets):fe (Dh a b):=ZaN (ZbC _) p
theorem Zni(m:fe a.sets):j5 qp (I5 a b):=by
 unfold I5;generalize a.sets=l at m;induction l with
 | nil=>exact .nil
 | cons x l k =>
  have I:=YJ.1 m;rw[List.filterMap_cons];split
  . exact k I.2
  rename_i y o;refine YJ.2 ⟨λz V=>?_,k I.2⟩;let⟨w,f,c⟩:=Zz.1 V;unfold mW at o c;split at o
  .
   split at c
   . rw[<-Zu o,<-Zu c];exact I.1 w f
   cases c
  cases o
theorem A7(h:ak a=true):iB (aL a)=true:=by rw[C8 h];exact Ku (by rw[<-uy];exact h)
def q_ok{s:Sgd}(h:ve s.set):ku s.q=true:=by unfold ku;rw[XU];exact⟨h.name,h.ty⟩
def ZbB(m:ak a=true)(p:ak b=true)(g:a.apex=b.apex)(hs:gX (aL a) (aL b)=true):DOk (dD a b):=by
 have c:=lL m;have f:=lL p;refine⟨c.apex,c.wild,A7 m,A7 p,hs,Yd (List.length_filterMap_le _ _) c.len,Yd (List.length_filterMap_le _ _) f.len,λq K=>?_,Zni c.ord,λs hs=>?_,Vf f.ord,λs hs K=>?_⟩
 . obtain⟨⟨s,J,rfl⟩,_⟩:=Mo.1 K;exact q_ok (c.ok s J)
 . exact f.ok s ((put_mem c.ord).1 hs).1
 exact(Mo.1 K).2 s ((put_mem c.ord).1 hs).1 rfl
theorem ZeS(m:fe a.sets)(p:fe b.sets):x∈gF a (dD a b)↔x∈a.sets/\x∈b.sets:=by
 rw[Gy];constructor
 . rintro⟨J,Y,A⟩;refine⟨J,YW λh=>?_⟩;have c : ¬∀s∈b.sets,s.q≠x.q:=λk=>Y (Mo.2 ⟨⟨x,J,rfl⟩,k⟩);apply c;intro s N e;refine A s ((put_mem m).2 ⟨N,λk=>?_⟩) e;have:=vN m k;rw[e,vN m J]at this;rw[Zu this]at h;exact h N
 rintro⟨J,Y⟩;refine⟨J,λk=>(Mo.1 k).2 x Y rfl,λs N e=>?_⟩;let⟨A,c⟩:=(put_mem m).1 N;have:=vN p A;rw[e,vN p Y]at this;rw[<-Zu this]at c;exact c J
def ZjH(m:fe a.sets)(p:fe b.sets)(c:a.apex=b.apex):pF a (dD a b)=b:=by
 have J:iU (gF a (dD a b)++(dD a b).put)=b.sets:=by
  refine Gx mY (TD (Wv m (Vf p))) p λx=>?_;rw[NF,Yu,ZeS m p];show _\/x∈Dh a b↔_;rw[put_mem m];constructor
  .
   rintro (h|h)
   . exact h.2
   exact h.1
  intro h;by_cases e:x∈a.sets
  . exact .inl ⟨e,h⟩
  exact .inr ⟨h,e⟩
 unfold pF;rw[J,c]
def Zpo{d:aM}(h1:ak z=true)(h2:fO d=true)(h3:z.apex=d.apex)(h4:aL z=d.frm)(h5:ak (pF z d)=true)(W:aL (pF z d)=d.too):eY z d=(pF z d,0):=by unfold eY;rw[XV (by rintro (q|q|q);rw[h1]at q;cases q;rw[h2]at q;cases q;exact q h3),XV (λq=>q h4),XV,XV (by rintro (q|q);rw[h5]at q;cases q;exact q W)];have:=(lL h5).len;rw[ZjF]at this;omega
def Zpp(m:ak a=true)(p:ak b=true)(c:a.apex=b.apex)(hs:gX (aL a) (aL b)=true):eY a (dD a b)=(b,0):=by have e:=ZjH (lL m).ord (lL p).ord c;have:=Zpo (d:=dD a b) m (Ap.2 (ZbB m p c hs)) rfl rfl (by rw[e];exact p) (by rw[e];rfl);rw[e]at this;exact this
def ZnH(m:ak a=true)(p:ak b=true)(c:a.apex=b.apex)(hs:gX (aL a) (aL b)=true):lJ a b=(dD a b,0):=by unfold lJ;rw[XV (by rintro (q|q|q);rw[m]at q;cases q;rw[p]at q;cases q;exact q c),XV (by rw[hs];exact λq=>by cases q)];rfl
end
structure AOk(z:Zon)(d:aM):Prop where
 zok:ak z=true
 dok:fO d=true
 apex:z.apex=d.apex
 frm:aL z=d.frm
 new:ak (pF z d)=true
 too:aL (pF z d)=d.too
def Zpq(z:Zon)(d:aM):eY z d=(dQ,1)\/(eY z d=(dQ,23)/\aL z≠d.frm)\/eY z d=(dQ,2)\/eY z d=(dQ,35)\/(eY z d=(pF z d,0)/\AOk z d):=by
 unfold eY;by_cases J:ak z=false\/fO d=false\/z.apex≠d.apex
 . exact .inl (X0 J)
 rw[XV J];by_cases Y:aL z≠d.frm
 . exact .inr (.inl ⟨X0 Y,Y⟩)
 rw[XV Y];by_cases A:20000<(gF z d).length+d.put.length
 . exact .inr (.inr (.inl (X0 A)))
 rw[XV A];by_cases a:ak (pF z d)=false\/aL (pF z d)≠d.too
 . exact .inr (.inr (.inr (.inl (X0 a))))
 refine .inr (.inr (.inr (.inr ⟨XV a,?_,?_,?_,?_,?_,?_⟩)))
 . cases q:ak z with|true=>rfl|false=>exact absurd (.inl q) J
 . cases q:fO d with|true=>rfl|false=>exact absurd (.inr (.inl q)) J
 . exact YW λq=>J (.inr (.inr q))
 . exact YW λq=>Y q
 . cases q:ak (pF z d)with|true=>rfl|false=>exact absurd (.inl q) a
 exact YW λq=>a (.inr q)
def Rn{a b:Int}(h:gX a b=true)(p:iB b=true):b≠a:=by rintro rfl;unfold gX at h;simp at h
def ZmL(h:xO z=true):cZ z.sets:=by unfold xO at h;simp only[XU,XY]at h;refine⟨om,λk X=>?_⟩;have:=(dG _ _ _).1 h.2 k (Yh _) X;simp only[XU,XY]at this;exact⟨om,om⟩
def Vj{a b:Zon}(h:cZ b.sets):cZ (Dh a b):=by refine Qs (Yd (List.length_filterMap_le _ _) h.1) λx E=>?_;unfold Dh at E;let⟨s,N,e⟩:=Zz.1 E;rw[ZbC _ _ _ e];exact Ma h N
theorem Kj(z:Zon):nJ z z=true:=YB rfl
end Go.Zon
namespace Go.Jn
open Go.DL Go.Str Go.Rec Go.Cmp Go.Zon
structure eQ where
 safe:Str
 pend:List Str
 deriving Inhabited,DecidableEq
def jL(s:Str):List D:=[.l (s.map bD)]
def ofBy:List D->Str
 | [x]=>gu x
 | _=>[]
def eQ.d(x:eQ):List D:=[.l (x.safe.map bD),.l (x.pend.map jL)]
def eQ.of:List D->eQ
 | [x,.list _ V]=>⟨gu x,V.map ofBy⟩
 | _=>default
def pO:D->eQ:=pV eQ.of default
def ED:D->UInt8
 | .v (.int _ n)=>UInt8.ofNat n.toNat
 | _=>0
@[go_sem]theorem byte1_v{k:IntKind}{n:Int}:ED (.v (.int k n))=UInt8.ofNat n.toNat:=rfl
def KG:D->List Str:=xC ofBy
def ut:eQ:=⟨[],[]⟩
def gP(d:Nat)(c:UInt8):Nat:=((d ^^^ c.toNat)*1099511628211) % 18446744073709551616
def Co:Nat:=14695981039346656037
def dig(l:Str):Nat:=l.foldl gP Co
def iH(u:Nat):Nat->Str
 | 0=>[]
 | k+1=>jZ u (8*k)::iH u k
theorem jd(u:Nat):∀k,(iH u k).length=k
 | 0=>rfl
 | k+1=>by simp[iH,jd u k]
theorem Zo4(u:Nat):jZ u 0=jS u:=by simp[jZ,jS]
theorem Ro(u:Nat):iH u 1=[jS u]:=by show[jZ u (8*0)]=_;rw[Nat.mul_zero,Zo4]
def o7(g:RSig):Str:=dC g.zone++bZ g.key++bZ g.alg++bZ g.frm++bZ g.unt++bZ g.sum
def jv(s:Sgd):Str:=iH (lv s.set).length 2++lv s.set++jS s.sigs.length::s.sigs.flatMap o7
def mF(l:List Sgd):Str:=iH l.length 4++l.flatMap jv
def lg(z:Zon):Str:=dC z.apex++mF z.sets
def xh(q:Qst):Str:=dC q.name++[jZ (uN q.ty) 0]
def il(d:aM):Str:=dC d.apex++bZ d.frm++bZ d.too++iH d.drop.length 4++d.drop.flatMap xh++mF d.put
def BQ(k:UInt8)(n:Nat):Str:=k::iH n 4
def jI(k:UInt8)(w:Str):Str:=BQ k w.length++iH (dig (BQ k w.length)) 8++w++iH (dig w) 8
def au(k:Int)(st:RS):Nat×RS:=(gU (cB k st).1,(cB k st).2)
def bY(st:RS):Str×RS:=cB (au 1 st).1 (au 1 st).2
def nO(st:RS):RSig×RS :=
 let z:=bY st;let a:=au 8 z.2;let b:=au 8 a.2;let c:=au 8 b.2;let e:=au 8 c.2;let s:=au 8 e.2
 (⟨z.1,sN a.1,sN b.1,sN c.1,sN e.1,s.1⟩,s.2)
def lV:Nat->List RSig->RS->List RSig×RS
 | 0,out,n=>(out,n)
 | k+1,out,n=>if n.2 then(out,n)else lV k (out++[(nO n).1]) (nO n).2
def lF(st:RS):Str×RS:=cB (au 2 st).1 (au 2 st).2
def iV(st:RS):RSet×RS:=((jB (lF st).1).1,if(jB (lF st).1).2=0 then(lF st).2 else((lF st).2.1,true))
def jD(st:RS):Sgd×RS :=
 let s:=iV st;let n:=au 1 s.2;let g:=lV n.1 [] n.2
 (⟨s.1,g.1⟩,g.2)
def mK:Nat->List Sgd->RS->List Sgd×RS
 | 0,out,n=>(out,n)
 | k+1,out,n=>if n.2 then(out,n)else mK k (out++[(jD n).1]) (jD n).2
def nP(st:RS):List Sgd×RS:=mK (au 4 st).1 [] (au 4 st).2
def lD(st:RS):Zon×RS:=(⟨(bY st).1,(nP (bY st).2).1⟩,(nP (bY st).2).2)
def tV(st:RS):Qst×RS:=(⟨(bY st).1,sN (au 1 (bY st).2).1⟩,(au 1 (bY st).2).2)
def qj:Nat->List Qst->RS->List Qst×RS
 | 0,out,n=>(out,n)
 | k+1,out,n=>if n.2 then(out,n)else qj k (out++[(tV n).1]) (tV n).2
def fU(st:RS):aM×RS :=
 let a:=bY st;let f:=au 8 a.2;let t:=au 8 f.2;let n:=au 4 t.2;let q:=qj n.1 [] n.2;let p:=nP q.2
 (⟨a.1,sN f.1,sN t.1,q.1,p.1⟩,p.2)
def iM(st:RS):Bool:=st.2||decide (0<st.1.length)
def Fh(w:Str):Option Zon:=if iM (lD (w,false)).2 then none else some (lD (w,false)).1
def Bg(w:Str):Option aM:=if iM (fU (w,false)).2 then none else some (fU (w,false)).1
def bU(k:Nat)(b:Str):Nat×Str :=
 if b.length<13\/(b.getD 0 0).toNat≠k then(0,[])else
 let n:=au 4 (b.drop 1,false);let h:=au 8 n.2;let w:=cB n.1 h.2;let t:=au 8 w.2
 if t.2.2=true\/h.1≠dig (b.take 5)\/t.1≠dig w.1 then(0,[])else(13+n.1+8,w.1)
def wY(b:Str):Option (Zon×Nat) :=
 if(bU 1 b).1=0 then none else
 match Fh (bU 1 b).2 with
 | none=>none
 | some z=>if ak z then some (z,(bU 1 b).1)else none
def o6(z:Zon)(b:Str):Option (Zon×Nat) :=
 if(bU 2 b).1=0 then none else
 match Bg (bU 2 b).2 with
 | none=>none
 | some d=>if(eY z d).2=0 then some ((eY z d).1,(bU 2 b).1)else none
def Zaz(k:Nat)(b:Str)(h:(bU k b).1≠0):21<=(bU k b).1/\13<=b.length:=by
 unfold bU at h ⊢;split
 . rename_i q;rw[X0 q]at h;exact absurd rfl h
 rename_i q;rw[XV q]at h;simp only at h ⊢;split
 . rename_i r;rw[X0 r]at h;exact absurd rfl h
 rename_i r;exact⟨by show 21<=13+_+8;omega,om⟩
def ZeN{z:Zon}{b:Str}{y:Zon}{n:Nat}(h:o6 z b=some (y,n)):0<n/\0<b.length:=by
 unfold o6 at h;split at h
 . cases h
 rename_i q;let⟨J,Y⟩:=Zaz 2 b q;split at h
 . cases h
 split at h
 . simp only[Yj,YL]at h;omega
 cases h
def more(z:Zon)(b:Str):List (Zon×Nat) :=
 match _h:o6 z b with
 | none=>[]
 | some (y,n)=>(y,n)::more y (b.drop n)
termination_by b.length
decreasing_by
 have:=ZeN _h;rw[Yw];omega
def ZjT{z:Zon}{b:Str}(h:o6 z b=none):more z b=[]:=by
 rw[more];split
 . rfl
 rename_i q;rw[h]at q;cases q
def ZjS{z y:Zon}{b:Str}{n:Nat}(h:o6 z b=some (y,n)):more z b=(y,n)::more y (b.drop n):=by
 rw[more];split
 . rename_i q;rw[h]at q;cases q
 rename_i q;rw[h]at q;simp only[Yj,YL]at q;obtain⟨rfl,rfl⟩:=q;rfl
def qP(b:Str):List (Zon×Nat):=match wY b with
 | none=>[]
 | some (y,n)=>(y,n)::more y (b.drop n)
def rD(l:List (Zon×Nat)):Nat:=(l.map (·.2)).sum
def uK(b:Str):Str:=b.take (rD (qP b))
abbrev eT:=Option Zon
def eT.d(c:eT):List D:=.b c.isSome::(c.getD dQ).d
def eT.of:List D->eT
 | [.v (.bool b),.v (.string s),.list _ V]=>if b then some ⟨s.data.toList,V.map Sgd.of⟩else none
 | _=>none
def cnt1:D->eT:=pV eT.of none
def stepC(c:eT)(b:Str):Option (Zon×Nat):=match c with
 | none=>wY b
 | some z=>o6 z b
def nextF(c:eT)(b:Str):eT×Nat:=match stepC c b with
 | none=>(c,0)
 | some (y,n)=>(some y,n)
def mq(b:Str):eT:=(qP b).getLast?.map (·.1)
structure vg where
 whole:Str
 size:Int
 saved:eT
 all:eT
 deriving Inhabited
def rQ(c:eT):List Str->Option eT
 | []=>some c
 | p::l=>if(nextF c p).2≠0/\(nextF c p).2=p.length then rQ (nextF c p).1 l else none
def fG(l:List Str):Str:=l.flatten
def iX(d:eQ):Option vg :=
 if 1000000<d.safe.length\/200<d.pend.length then none else
 match rQ (mq d.safe) d.pend with
 | none=>none
 | some c=>some ⟨uK d.safe,(uK d.safe).length+(fG d.pend).length,mq d.safe,c⟩
def xY(z:Zon):eQ×Int:=if ak z=false then(ut,1)else if 1000000<(jI 1 (lg z)).length then(ut,41)else(⟨[],[jI 1 (lg z)]⟩,0)
def rf(d:eQ)(x:aM):eQ×Int:=match iX d with
 | none=>(ut,1)
 | some o=>if fO x=false then(ut,1)else match o.all with
  | none=>(ut,42)
  | some z =>
   if(eY z x).2≠0 then(ut,(eY z x).2)
   else if 200<=d.pend.length then(ut,2)
   else if 1000000<o.size+(jI 2 (il x)).length then(ut,41)
   else(⟨o.whole,d.pend++[jI 2 (il x)]⟩,0)
def wX(d:eQ):eQ×Int:=match iX d with
 | none=>(ut,1)
 | some o=>if 1000000<o.size then(ut,41)else(⟨o.whole++fG d.pend,[]⟩,0)
def uR(d:eQ):Zon×Int:=match iX d with
 | none=>(dQ,1)
 | some o=>match o.saved with
  | none=>(dQ,42)
  | some z=>(z,0)
def allR(d:eQ):Option Str:=(iX d).map λo=>o.whole++fG d.pend
end Go.Jn
namespace Go.Zon
open Go.DL Go.Str Go.Rec Go.Cmp
variable{f u:Int}{z:Zon}
structure SKey where
 n:Int
 a:Int
 deriving Inhabited,DecidableEq
def SKey.d(k:SKey):List D:=[.i k.n,.i k.a]
def uD(k:SKey):Bool:=aP k.n 1 1000000&&aP k.a 1 3
def oU(f u:Int):Bool:=decide (0<=f)&&decide (f<=u)&&decide (u<=20000000)
def ES(b a:Str)(k:SKey)(f u:Int):Nat:=Go.Jn.dig (b++jS a.length::a++bZ k.n++bZ k.a++bZ f++bZ u)
def TY:RSig:=⟨[],0,0,0,0,0⟩
def zF(s:RSet)(a:Str)(k:SKey)(f u:Int):Bool:=uD k&&oU f u&&ai a && !jq a&&decide ((qW s).2=0)&&fT s.name a
def EW(s:RSet)(a:Str)(k:SKey)(f u:Int):RSig:=⟨a,k.n,k.a,f,u,(ES (qW s).1 a k f u:Int)⟩
def fu(s:RSet)(a:Str)(k:SKey)(f u:Int):RSig×Int:=if zF s a k f u then(EW s a k f u,0)else(TY,1)
def y7(s:RSet)(g:RSig)(k:SKey):Bool:=decide ((fu s g.zone k g.frm g.unt).2=0)&&decide ((fu s g.zone k g.frm g.unt).1=g)
def ZoL{s:RSet}{a:Str}{k:SKey}(h:(fu s a k f u).2=0):y7 s (fu s a k f u).1 k=true:=by
 unfold fu at h ⊢;by_cases e:zF s a k f u=true
 . rw[X0 e];unfold y7;show(decide ((fu s a k f u).2=0)&&decide ((fu s a k f u).1=EW s a k f u))=true;unfold fu;rw[X0 e];simp
 rw[XV e]at h;cases h
def AZ(z:Zon)(ks:List SKey)(f u:Int)(i:Nat):Sgd:=⟨z.sets[i]!.set,if iW (bB z) i=true then ks.map λk=>(fu z.sets[i]!.set z.apex k f u).1 else[]⟩
def CV(z:Zon)(ks:List SKey)(f u:Int):Nat->List Sgd
 | 0=>[]
 | i+1=>CV z ks f u i++[AZ z ks f u i]
def jy(z:Zon)(ks:List SKey)(f u:Int):Zon:=⟨z.apex,CV z ks f u z.sets.length⟩
theorem NL(z:Zon)(ks:List SKey)(f u:Int):∀i,(CV z ks f u i).length=i
 | 0=>rfl
 | i+1=>by simp[CV,NL z ks f u i]
theorem Ub(z:Zon)(ks:List SKey)(f u:Int):∀n i,i<n->(CV z ks f u n)[i]! = AZ z ks f u i
 | 0,i,h=>by omega
 | n+1,i,h=>by
  have a:=NL z ks f u n;unfold CV;by_cases e:i<n
  . rw[<-Ub z ks f u n i e,getElem!_pos _ _ (by simp;omega),getElem!_pos _ _ (by omega),List.getElem_append_left]
  have:i=n:=by omega
  subst this;rw[getElem!_pos _ _ (by simp[a]),List.getElem_append_right (by omega)];simp[a]
theorem Ki{ks:List SKey}{i:Nat}(h:i<z.sets.length):(jy z ks f u).sets[i]! = AZ z ks f u i:=Ub z ks f u _ i h
theorem GK{ks:List SKey}:(jy z ks f u).sets.length=z.sets.length:=NL z ks f u _
section
variable {z y : Zon} (ha : y.apex = z.apex) (hl : y.sets.length = z.sets.length) (hs : ∀i : Nat, y.sets[i]!.set = z.sets[i]!.set)
include hs in
theorem J7(i:Nat):y.sets[i]!.q=z.sets[i]!.q:=by unfold Sgd.q;rw[hs i]
include ha hl hs in
theorem Zfy:ordered y=ordered z:=by
 unfold ordered;have e:lW y.apex y.sets=lW z.apex z.sets:=funext λi=>by unfold lW;rw[hs i,ha,J7 hs i,J7 hs (i-1)]
 rw[e,ha,hl]
include hl hs in
theorem TL(q:Qst):aV y.sets q=aV z.sets q/\bV y.sets q=bV z.sets q:=by
 have e:aV y.sets q=aV z.sets q:=by unfold aV;rw[hl,show(λk:Nat=>qC y.sets[k]!.q q)=λk:Nat=>qC z.sets[k]!.q q from funext λk=>by rw[J7 hs k]]
 exact⟨e,by unfold bV;rw[e,hl,J7 hs _]⟩
include ha hl hs in
theorem ZfA:ru y=ru z:=by
 unfold ru;have e:oq y.apex y.sets=oq z.apex z.sets:=funext λi=>by unfold oq;rw[hs i,ha]
 have O:ng y=ng z:=funext λi=>by unfold ng;rw[ha];exact(TL hl hs _).2
 rw[e,O,hl]
include ha hs in
theorem TN : ∀k,dO y k=dO z k
 | 0=>rfl
 | k+1=>by unfold dO;rw[hs k,ha,TN k]
include hs in
theorem TP(m:List Str):∀k,dL m y.sets k=dL m z.sets k
 | 0=>rfl
 | k+1=>by unfold dL;rw[hs k,TP m k]
include ha hl hs in
theorem NG:kH y=kH z:=by unfold kH;rw[hl,TN ha hs,TP hs]
include hl hs in
theorem ZfB:sU (bB y)=sU (bB z):=by
 unfold sU bB;have e:lc y.sets=lc z.sets:=funext λi=>by unfold lc;rw[hs i,hs (i-1),hs (i+1),hl]
 show ax y.sets.length (lc y.sets) 0=ax z.sets.length (lc z.sets) 0;rw[e,hl]
include ha hl hs in
theorem Zfz:mg (bB y)=mg (bB z):=by
 unfold mg;have e:cutAt (bB y)=cutAt (bB z):=funext λi=>by unfold cutAt bB;show(let t:=y.sets[i]!.set.ty;if(kH y)[i]! = []then !decide (t=6)else if(kH y)[i]! = y.sets[i]!.set.name then decide (t=2)||decide (t=6)||decide (t=8)||decide (t=1)else decide (t=1))=_;rw[hs i,NG ha hl hs]
 show ax y.sets.length (cutAt (bB y)) 0=ax z.sets.length (cutAt (bB z)) 0;rw[e,hl]
end
def NV{ks:List SKey}(i:Nat):(jy z ks f u).sets[i]!.set=z.sets[i]!.set:=by
 by_cases h:i<z.sets.length
 . rw[Ki h];rfl
 rw[getElem!_neg (jy z ks f u).sets i (by rw[GK];exact h),getElem!_neg z.sets i h]
def ZgL{s:RSet}{a:Str}{ks:List SKey}(hk:ks.length<=6)(hv : ∀k∈ks,uD k=true)(j:oU f u=true)(B : ∀i,0<i->i<ks.length->ks[i-1]!.n<ks[i]!.n)(m : ∀k∈ks,(fu s a k f u).2=0) :
  kg (ks.map λk=>(fu s a k f u).1) a=true:=by
 have g : ∀i,i<ks.length->(ks.map λk=>(fu s a k f u).1)[i]! = EW s a ks[i]! f u:=by
  intro i hi;rw[getElem!_pos (ks.map λk=>(fu s a k f u).1) i (by simpa using hi),List.getElem_map,getElem!_pos ks i hi];have:=m _ (Yz hi);unfold fu at this ⊢;by_cases e:zF s a ks[i] f u=true
  . rw[X0 e]
  rw[XV e]at this;cases this
 unfold kg;rw[XU];refine⟨by simpa using hk,(dG _ _ _).2 λi _ hi=>?_⟩;have h:i<ks.length:=by simpa using hi
 have c:=hv _ (eO h);unfold uD at c;rw[XU]at c;unfold oU at j;simp only[XU,XY]at j;unfold lu;rw[g i h,g 0 (by omega)];by_cases e:i=0
 . subst e;simp[EW,c.1,c.2,j, -List.getElem!_eq_getElem?_getD]
 rw[g (i-1) (by omega)];simp[EW,c.1,c.2,j,e,B i om h, -List.getElem!_eq_getElem?_getD]
def ZgM{ks:List SKey}(hz:ak z=true)(hk:ks.length<=6)(hv : ∀k∈ks,uD k=true)(g:oU f u=true)(B : ∀i,0<i->i<ks.length->ks[i-1]!.n<ks[i]!.n)(c : ∀i,i<z.sets.length->iW (bB z) i=true -> ∀k∈ks,(fu z.sets[i]!.set z.apex k f u).2=0):ak (jy z ks f u)=true:=by
 have m:(jy z ks f u).apex=z.apex:=rfl;have h:=GK (z:=z) (ks:=ks) (f:=f) (u:=u);have N:=NV (z:=z) (ks:=ks) (f:=f) (u:=u);unfold ak at hz ⊢;simp only[XU]at hz ⊢;let⟨⟨⟨⟨⟨J,Y⟩,A⟩,j⟩,U⟩,W⟩:=hz;refine⟨⟨⟨⟨⟨by rw[Zfy m h N];exact J,by rw[ZfA m h N];exact Y⟩,by rw[ZfB h N];exact A⟩,by rw[Zfz m h N];exact j⟩,?_⟩,?_⟩
 .
  refine(dG _ _ _).2 λi _ hi=>?_;have a:i<z.sets.length:=by rw[<-h];exact hi
  unfold vX bB;show(!(!((kH (jy z ks f u))[i]! == [])&&(decide ((jy z ks f u).sets[i]!.set.ty=2)||decide ((jy z ks f u).sets[i]!.set.ty=1))&&decide (0<(jy z ks f u).sets[i]!.sigs.length)))=true;rw[NG m h N,N i,Ki a];by_cases t:iW (bB z) i=true
  . unfold iW at t;have n:((kH z)[i]! == []||(!decide (z.sets[i]!.set.ty=2) && !decide (z.sets[i]!.set.ty=1)))=true:=t;revert n;cases ((kH z)[i]! == [])<;>cases decide (z.sets[i]!.set.ty=2)<;>cases decide (z.sets[i]!.set.ty=1)<;>simp
  unfold AZ;rw[XV t];simp
 refine(dG _ _ _).2 λi _ hi=>?_;have a:i<z.sets.length:=by rw[<-h];exact hi
 unfold sI bB;show kg (jy z ks f u).sets[i]!.sigs z.apex=true;rw[Ki a];unfold AZ;by_cases t:iW (bB z) i=true
 . rw[X0 t];exact ZgL hk hv g B (c i a t)
 rw[XV t];show kg [] z.apex=true;unfold kg ax;rfl
theorem Uy{ks:List SKey}:aL (jy z ks f u)=aL z:=by have N:=NV (z:=z) (ks:=ks) (f:=f) (u:=u);unfold aL;show(jy z ks f u).sets[aV (jy z ks f u).sets ⟨z.apex,4⟩]!.set.data[0]!.n=_;rw[(TL GK N _).1,N]
theorem ZiJ{ks:List SKey}(i:Nat):iW (bB (jy z ks f u)) i=iW (bB z) i:=by have N:=NV (z:=z) (ks:=ks) (f:=f) (u:=u);unfold iW bB;show((kH (jy z ks f u))[i]! == []||(!decide ((jy z ks f u).sets[i]!.set.ty=2) && !decide ((jy z ks f u).sets[i]!.set.ty=1)))=_;rw[NG (z:=z) (y:=jy z ks f u) rfl GK N,N i]
variable{k:Nat}{l:List Sgd}{nx:List RSet}
def bL(l:List Sgd):List Sgd:=l.filter λs=>!decide (s.set.ty=8)
theorem ZfS(h : ∀s∈l,s.set.ty≠8):bL l=l:=Y1.2 λs N=>by simp[h s N]
def tC(l:List Sgd)(k:Nat):List Sgd:=bL (l.take k)
@[go_sem]theorem siftTo_0:tC l 0=[]:=rfl
theorem ZfR(l:List Sgd):tC l l.length=bL l:=by unfold tC;rw[Yt]
def ZfQ(l:List Sgd)(k:Nat):(tC l k).length<=k:=by unfold tC bL;exact Yd (List.length_filter_le _ _) (by rw[YO];omega)
theorem T9(hk:k<l.length):tC l (k+1)=tC l k++bL [l[k]!]:=by unfold tC bL;rw[nE! hk,List.filter_append]
def ZfM(hk:k<l.length)(h : ¬l[k]!.set.ty=8):tC l (k+1)=tC l k++[l[k]!]:=by rw[T9 hk];simp[bL,h, -List.getElem!_eq_getElem?_getD]
def ZfN(hk:k<l.length)(h:l[k]!.set.ty=8):tC l (k+1)=tC l k:=by rw[T9 hk];simp[bL,h, -List.getElem!_eq_getElem?_getD]
def dz(l:List Sgd)(nx:List RSet):Nat->List Sgd×Nat
 | 0=>([],0)
 | k+1 =>
  if k+1<l.length/\l[k+1]!.set.name=l[k]!.set.name then((dz l nx k).1++[l[k]!],(dz l nx k).2)
  else if(dz l nx k).2<nx.length/\nx[(dz l nx k).2]!.name=l[k]!.set.name then((dz l nx k).1++[l[k]!]++[⟨nx[(dz l nx k).2]!,[]⟩],(dz l nx k).2+1)
  else((dz l nx k).1++[l[k]!],(dz l nx k).2)
def ML(l:List Sgd)(nx:List RSet):List Sgd:=(dz l nx l.length).1
@[go_sem]theorem chnTo_0:dz l nx 0=([],0):=rfl
theorem ZbZ(h:k+1<l.length/\l[k+1]!.set.name=l[k]!.set.name):dz l nx (k+1)=((dz l nx k).1++[l[k]!],(dz l nx k).2):=X0 h
theorem ZbY(h : ¬(k+1<l.length/\l[k+1]!.set.name=l[k]!.set.name))(h2:(dz l nx k).2<nx.length/\nx[(dz l nx k).2]!.name=l[k]!.set.name):dz l nx (k+1)=((dz l nx k).1++[l[k]!]++[⟨nx[(dz l nx k).2]!,[]⟩],(dz l nx k).2+1):=by rw[dz,XV h,X0 h2]
theorem ZbX(h : ¬(k+1<l.length/\l[k+1]!.set.name=l[k]!.set.name))(h2 : ¬((dz l nx k).2<nx.length/\nx[(dz l nx k).2]!.name=l[k]!.set.name)):dz l nx (k+1)=((dz l nx k).1++[l[k]!],(dz l nx k).2):=by rw[dz,XV h,XV h2]
theorem Q6(l:List Sgd)(nx:List RSet):∀k,(dz l nx k).1.length=k+(dz l nx k).2/\(dz l nx k).2<=nx.length
 | 0=>⟨rfl,Yh _⟩
 | k+1=>by
  have:=Q6 l nx k;unfold dz;split
  . simp;omega
  split
  . simp;omega
  simp;omega
theorem Zb0(l:List Sgd)(nx:List RSet):∀k j,j<k->l[j]! ∈ (dz l nx k).1
 | 0,j,h=>by omega
 | k+1,j,h=>by
  have hk:l[j]! ∈ (dz l nx k).1++[l[k]!]:=by
   by_cases e:j=k
   . subst e;simp
   exact ZG _ (Zb0 l nx k j om)
  unfold dz;split
  . exact hk
  split
  . exact ZG _ hk
  exact hk
def ZoM{s:Sgd}(h:s∈l):s∈ML l nx:=by obtain⟨i,hi,rfl⟩:=jh.1 h;exact Zb0 l nx _ i hi
def Ur{y:Zon}(hz:ak z=true)(o:ak y=true)(m:y.apex=z.apex)(c : ∀s∈z.sets,s∈y.sets):aL y=aL z:=by
 have oz:mi z:=zL.1 o1M;have g:mi y:=zL.1 (by unfold ak at o;simp only[XU]at o;exact o.1.1.1.1.1);have h:ru z=true:=by unfold ak at hz;simp only[XU]at hz;exact hz.1.1.1.1.2
 have a:bV z.sets ⟨z.apex,4⟩=true:=by unfold ru at h;rw[XU]at h;exact(dG _ _ _).1 h.1 0 (XW _) om
 have j:=Cf oz.ord oz.nms (q:=⟨z.apex,4⟩) oz.apex;rw[X0 a]at j;let⟨v,K⟩:=zR j;have O:=vN g.ord (c _ v);rw[K]at O;have f:=Cf g.ord g.nms (q:=⟨z.apex,4⟩) oz.apex;rw[O]at f;unfold aL;rw[m];split at f
 . rw[Zu f]
 cases f
end Go.Zon
