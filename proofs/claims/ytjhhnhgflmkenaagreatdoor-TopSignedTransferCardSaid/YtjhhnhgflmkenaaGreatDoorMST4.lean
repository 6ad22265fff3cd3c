/-
  MANY TEXTS OF MINE IN ONE (a claim has a limit of files): DBuf, DXc, DXl, RcW12, DXm, Zsem, DlW2, DlW3, DlW4, DlW5, DlW7, DSort, Upm, Upn, Upo, Upq, Upr, Ups, Upt, Usem, DAr, DLv, Ts, Ta, DClaim, DLaid, Tla, DeCon, NmW1, NmW2, NmW3, NmW4, NmW5, NmW6, RcW1, RcW3, RcW4, RcW5, RcW6, RcW7, RcW8, JbW1, JbW2, JbW3. Conditions: none.
-/
import Derived.Shelf.SlSortCmp.NoneTotal
import Derived.Lib.ConvBytes
import Derived.Carry
import Derived.RowKit
import Derived.ChangeSame
import Derived.OpenShut
import Derived.LaidMore
import Derived.Lay
import Derived.Test.YtjhhnhgflmkenaaGreatDoorRows
import Derived.Stop.LaidErr
import Derived.Test.YtjhhnhgflmkenaaGreatDoorMST3
set_option linter.unusedVariables false
set_option linter.unusedSimpArgs false
set_option linter.unusedSectionVars false
set_option linter.defProp false
set_option linter.unnecessarySimpa false
namespace Go.DL
open Go.RowKit
theorem _root_.o3z{p:Prop}(h:p:=by simp[qh, *]):p:=h
theorem _root_.o3j{p:Prop}(h:p:=by first|decide|simp):p:=h
theorem _root_.o3h{p:Prop}(h:p:=by simp only[go_sem,ff]):p:=h
theorem _root_.o2Q{p:Prop}(h:p:=by simp only[X3,tu,j4];omega):p:=h
theorem _root_.o2O{p:Prop}(h:p:=by show(_:Nat)<_;(simp;omega)):p:=h
theorem _root_.o2x{p:Prop}(h:p:=by first|(simp)|(dsimp only;simp)):p:=h
theorem _root_.o2r{p:Prop}(h:p:=by simp only[X7,Yy,go_sem,ff];exact rfl):p:=h
theorem _root_.o2q{p:Prop}(h:p:=by simp only[X5,Yf,go_sem,ff];exact rfl):p:=h
theorem _root_.o2o{p:Prop}(h:p:=by rw[show(prog).bytesOf 5=1 from rfl];omega):p:=h
theorem _root_.o2n{p:Prop}(h:p:=by first|(simp;omega)|(dsimp only;simp;omega)):p:=h
theorem _root_.o2m{p:Prop}(h:p:=by(repeat' split)<;>first|rfl|(exfalso;omega)):p:=h
theorem _root_.o2e{p:Prop}(h:p:=by first|(rw[u,tH,Sg o];done)|(rw[u,tH,Sd o g])):p:=h
theorem _root_.o2b{p:Prop}(h:p:=by(try simp only[go_sem,ff]);all_goals exact ok0):p:=h
theorem _root_.o1U{p:Prop}(h:p:=by let⟨⟨J,Y⟩,A⟩:=w;rcases A with A|A<;>simp[jX,zm, *]):p:=h
theorem _root_.o1T{p:Prop}(h:p:=by simp only[X9,X4,X5,Yf,S.put,Yq,go_sem,ff];exact rfl):p:=h
theorem _root_.o1O{p:Prop}(h:p:=by first|exact ZR _ _|(refine⟨?_,ZR _ _⟩;simp_all [zK])):p:=h
theorem _root_.o1N{p:Prop}(h:p:=by unfold Go.Lib.bytesWorld Go.World.freeze;split<;>rfl):p:=h
theorem _root_.o1J{p:Prop}(h:p:=by first|(intro i hi;omega)|(dsimp only;intro i hi;omega)):p:=h
theorem _root_.o1F{p:Prop}(h:p:=by first|(simp only[go_sem,ff];done)|(simp[go_sem,ff];done)):p:=h
theorem _root_.o1y{p:Prop}(h:p:=by intro o t;simp only[Yl,Y2,or_false]at t;rcases t with rfl<;>rfl):p:=h
theorem _root_.o1w{p:Prop}(h:p:=by(try simp only[go_sem,ff]);all_goals (first|done|rfl|decide|simp)):p:=h
theorem _root_.o1t{p:Prop}(h:p:=by simp only[mH,mD,Bw,Go.Rec.cmpI];simp_all<;>(repeat' split)<;>omega):p:=h
theorem _root_.o1s{p:Prop}(h:p:=by first|(simp only[go_sem,ff];done)|(simp only[go_sem,ff];exact rfl)):p:=h
theorem _root_.o1k{p:Prop}(h:p:=by first|(first|omega|(simp;omega))|(dsimp only;first|omega|(simp;omega))):p:=h
theorem _root_.o1g{p:Prop}(h:p:=by first|(rw[w.1,w.2,kS,XV I,u,Q4 c g,X0 v];rfl)|(rw[w.1,w.2,kS,XV I,d0];rfl)):p:=h
theorem _root_.o1a{p:Prop}(h:p:=by rw[u,iI,XV (by omega),XV (by omega),XV (by omega),XV (by omega),XV (by omega)]):p:=h
theorem _root_.o0Y{p:Prop}(h:p:=by simp only[cmpI,wK,xA];first|(simp_all;done)|((repeat' split)<;>first|rfl|omega)):p:=h
theorem _root_.o0Q{p:Prop}(h:p:=by intro q;left;by_cases y:q=r<;>by_cases O:q=m<;>simp_all [upd,uJ,uI]<;>(rw[XV (by omega)])):p:=h
theorem _root_.o0F{p:Prop}(h:p:=by first|(rw[w.1,w.2,kS,XV I,u,MF c];done)|(rw[w.1,w.2,kS,XV I,u,MF c];rfl)|(rw[w.1,w.2,kS,XV I,u,ZbS c g];rfl)):p:=h
theorem _root_.o0t{p:Prop}(h:p:=by have T:uW s k=false:=(by simp only[uW,uu,Yg,YT,X6];(try simp only[aP,XU,YT,XY,X6]at a);omega);rw[u,iI,X0 U,T];(repeat' split)<;>rfl):p:=h
theorem _root_.o0m{p:Prop}(h:p:=by(try simp only[go_sem,ff]);all_goals (first|done|(simp;done)|(refine⟨.inl ?_,.inl (by simp)⟩;exact congrArg (λx=>D.v (Value.int IntKind.u64 x)) a)|(simp;omega))):p:=h
theorem _root_.o0k{p:Prop}(h:p:=by first|trivial|(repeat' with_reducible apply And.intro)<;>first|(intros;exact Ba _ _ _)|(intros;exact vF _)|(intros;exact Bb _)|(intro h;simp only[XU,kV]at h;omega)|omega):p:=h
theorem _root_.o0i{p:Prop}(h:p:=by(try simp only[go_sem,ff]);all_goals (first|done|(simp;done)|(simp[Dat.d,jE];done)|((repeat' (with_reducible apply And.intro))<;>first|rfl|(left;simp;done)|(simp[Dat.d,jE];done)))):p:=h
theorem _root_.o0g{p:Prop}(h:p:=by(try simp only[go_sem,ff]);all_goals (first|done|(simp[sR];done)|(simp[sR];omega)|((repeat' (with_reducible apply And.intro))<;>first|(left;simp[sR];done)|(right;simp[go_sem,sR];done)))):p:=h
theorem _root_.o0c{p:Prop}(h:p:=by(try dsimp only);have T:uW s k=true:=(by simp only[uW,uu,Bool.or_eq_true,Bool.and_eq_true,decide_eq_true_eq];(try simp only[aP,Bool.and_eq_true,Bool.and_eq_false_iff,decide_eq_true_eq,decide_eq_false_iff_not]at a);omega);rw[u,iI,if_pos U,T];rfl):p:=h
variable{C:aO}{E:Env}{P:Program}{Q:Exit->S->Prop}{R:D->H->Nat->Prop}{X:List PanicEntry->H->Nat->Prop}{aY:FuncId}{args:Array Operand}{b len m n off r:Nat}{c:List PanicEntry}{e t u:TypeId}{f x y:Operand}{first:List D}{fn:Func}{g:Mem}{h:H}{kk q:IntKind}{o:Oper}{ops:Array Oper}{ro:Option Nat}{rows:List (List D)}{s s1:S}{ts:Array TypeId}{v:Value}{w:World}
variable[Glob P]
variable [Dr]
def Zos(m:HM P h g w){y:D}{x z:Value}(ht:P.underlying t=some (.slice e))(hr:h r=some ⟨e,rows⟩)(E:ae w g (.mrow r off len) x)(o:ae w g y z)(n:(aG y h).length=bQ y)(hs:iy P u h y=true)(hrl : ∀q∈aG y h,q.length=P.cellsOf e)(h0:0<bQ y)(hk:bQ y<=len)(M:off<=rows.length)(ty:TypeId) :
  ∃g' w',(Builtin.copy_ #[t,u] ty #[x,z]).run P w = .ok (.int .i64 (bQ y:Nat)) w'/\HM P (upd h r (some ⟨e,rows.take off++aG y h++rows.drop (off+bQ y)⟩)) g' w'/\ay g g' w w' /\ ∀q,g'.U q->g.U q:=by
 let⟨G,c,J,Y,A,h4,U⟩:=m.blk r _ hr;simp only at J Y A;let⟨v,F,N,R,_⟩:=Fa m o Y n hrl hs;cases E with|mrow _ _ _ _ T Z p =>
 let⟨K,V⟩:=p _ _ _ J;rcases V with⟨f,a,rfl⟩|⟨f,b,rfl,rfl⟩
 . let⟨a',c',X,O,_⟩:=T;cases X;omega
 let⟨L,c1,I,c3⟩:=JB m (off:=off) hr J K.2 F M (by rw[n];exact Yd (Nat.add_le_add_left hk _) K.1);let⟨g',q1,W,k,q4,q5⟩:=c3 _ rfl;rw[n]at k;have B:=run_storeCells_at P b (off*P.cellsOf e) e v 0 L w c1 (by simpa using I) F.one;simp only[Zx]at B;have j:Nat.min (bQ y) len=bQ y:=Z4 hk;refine⟨g',_,?_,k,q4,q5⟩;simp[Builtin.copy_,run_underlying ht,N,rG Y,j,R,B,goInt]
def Zgw{i:Nat}(k:Nat){z:D}{news:List (List D)}(z9:eG P C ops i k o b s s1)(f:o.op = .call { callee:=.builtin .copy,args:=#[x,y],argTypes:=#[t,u] })(ht:P.underlying t=some (.slice e))(E:s1.ev x = .mrow r off len)(A:s1.ev y=z)(hr:s1.h r=some ⟨e,rows⟩)(F:aG z s1.h=news)(v:bQ z=m)(O:news.length=m)(hs:iy P u s1.h z=true)(hrl : ∀q∈news,q.length=P.cellsOf e)(h0:0<m)(U:m<=len)(K:off<=rows.length)(hk:aA P ro ops (k+1) b { n:=s1.n,t:=s1.put o.dst (.i m),h:=upd s1.h r (some ⟨e,rows.take off++news++rows.drop (off+m)⟩),nx:=s1.nx,ok:=True,e:=s1.e } Q):aA P ro ops i b s Q:=by let⟨R,V,M,J,G,X⟩:=z9;subst A;subst F;subst v;refine jP (C:=C) k (λd I=>d = .i (bQ (s1.ev y):Nat)/\I=upd s1.h r (some ⟨e,rows.take off++aG (s1.ev y) s1.h++rows.drop (off+bQ (s1.ev y))⟩)) R V M (λc e=>by rw[f]at e;cases e) J G X (λB g a w j _=>?_) (λd I⟨A,p⟩=>by subst A;subst p;exact hk);have N:=bT j x;rw[E]at N;let⟨L,T,Y,W,Z,q4⟩:=Zos (u:=u) j.mem ht hr N (bT j y) O hs hrl h0 U K o.type;refine⟨_,_,⟨rfl,rfl⟩,_,L,T,.inl ?_,.v _,W,Z,λr hr=>.inl (q4 r hr)⟩;let⟨od,oo,gT,op,oa,og⟩:=o;simp only at f;subst f;simp[Go.BigFrame.execOp_builtin,Go.BigFrame.builtin_copy,Y]
def Pw:D->Bool
 | .list _ _ | .mrow _ _ _=>true
 | _=>false
theorem Zly{x:D}(h:Pw x=true)(hr:ae w g x v):∃a c,v = .slice a (bQ x) c:=by
 cases hr with
 | empty f a I=>exact⟨a,I,rfl⟩
 | list f V j I=>exact⟨some j,I,rfl⟩
 | mrow r off W v E=>let⟨a,c,e,_⟩:=E;exact⟨a,c,e⟩
 | _=>cases h
theorem Zgx{i:Nat}(k:Nat){V L:D}(z9:eG P C ops i k o b s s1)(z:o.op = .call { callee:=.builtin .copy,args:=#[x,y],argTypes:=#[t,u] })(ht:P.underlying t=some (.slice e))(hp:0<P.cellsOf e)(E:s1.ev x=V)(N:s1.ev y=L)(T:Pw V=true)(W:bQ L=0)(X:(aG L s1.h).length=0)(hs:iy P u s1.h L=true)(hk:aA P ro ops (k+1) b { n:=s1.n,t:=s1.put o.dst (.i 0),h:=s1.h,nx:=s1.nx,ok:=True,e:=s1.e } Q):aA P ro ops i b s Q:=by
 let⟨R,ho,M,J,G,m⟩:=z9;subst E;subst N;refine jP (C:=C) k (λd I=>d = .i 0/\I=s1.h) R ho M (λc e=>by rw[z]at e;cases e) J G m (λB g a w f _=>?_) (λd I⟨N,p⟩=>by subst N;subst p;exact hk);have j:aG (s1.ev y) s1.h=[]:=Yb X;let⟨ad,c,hv⟩:=Zly T (bT f x);let⟨v,r1,Y,Z,_⟩:=Fa f.mem (bT f y) hp (by rw[X,W]) (by rw[j];intro q K;cases K) hs;rw[W]at Y Z;have A:v=[]:=by have:=r1.1;rw[j]at this;exact Yb (by simpa using this)
 subst A;have hf:=Z w rfl;have U:(Builtin.copy_ #[t,u] o.type #[a.eval x,a.eval y]).run P w = .ok (.int .i64 0) w:=by rw[hv];have F:Nat.min 0 (bQ (s1.ev x))=0:=Nat.zero_min _;cases ad<;>simp[Builtin.copy_,run_underlying ht,Y,rG hp,F,hf,goInt,storeCells]
 refine⟨_,_,⟨rfl,rfl⟩,_,g,w,.inl ?_,.v _,f.mem,ay.refl _ _,λr O=>.inl O⟩;let⟨od,oo,gT,op,oa,og⟩:=o;simp only at z;subst z;simp[Go.BigFrame.execOp_builtin,Go.BigFrame.builtin_copy,U]
theorem ZeG(v:HM P h g w){i:Nat}{x:D}{N vs f:Value}(hr:h r=some ⟨e,rows⟩)(hs:ae w g (.mrow r off len) vs)(R:ae w g (.mptr r i 0) N)(E:ae w g x f)(hi:i=rows.length)(hl:i<off+len)(y:x.cells.length=P.cellsOf e)(h1:x.cells.all D.one=true) :
  ∃g' w',(Instr.storeAt e N f).run P w = .ok () w'/\HM P (upd h r (some ⟨e,rows++[x.cells]⟩)) g' w'/\ay g g' w w' /\ ∀q,g'.U q->g.U q:=by
 let⟨T,c,t,k,U,p4,p5⟩:=v.blk r _ hr;simp only at t k U;cases hs with|mrow _ _ _ _ fI Z z =>
 let⟨q1,W⟩:=z _ _ _ t;cases R with|mptr _ _ _ _ V _ u =>
 obtain⟨F,b,rfl,rfl⟩:=u _ _ _ t;let⟨G,O,Y⟩:=E.cells h1;have X:RowsIn w g (P.cellsOf e) [x.cells] f.cells.toList:=by
  refine⟨by simp[Y,y],λj row A=>?_⟩;cases j with
  | succ j=>simp at A
  | zero =>
   simp at A;subst A;refine⟨y,λj d m=>?_⟩;have o:j<f.cells.toList.length:=by rw[<-G.1];exact(X8.1 m).1
   exact⟨f.cells.toList[j],by simp[o],O _ (by simp),G.2 j d _ m (by simp[o])⟩
 let⟨L,c1,I,a⟩:=JB v (off:=i) hr t F X om (by simp;omega);let⟨g',ab,ac,p,J,K⟩:=a _ rfl;have n:rows.take i++[x.cells]++rows.drop (i+[x.cells].length)=rows++[x.cells]:=by rw[hi,Yt,Y5 (by simp),YH]
 rw[n]at p;have B:=run_storeCells_at P b (i*P.cellsOf e) e f.cells.toList 0 L w c1 (by simpa using I) O;simp only[Zx]at B;refine⟨g',_,?_,p,J,K⟩;have M:f.cells.size=P.cellsOf e:=by simpa[y]using Y
 simp[Instr.storeAt,Instr.sureAddr,storeVar,rG k,M,B]
theorem Zgi{i:Nat}(k:Nat){z:Operand}{A:D}(z9:eG P C ops i k o b s s1)(v:o.op = .store e x y)(E:s1.ev x = .mptr r n 0)(K:s1.ev y=A)(hz:s1.ev z = .mrow r off len)(hr:s1.h r=some ⟨e,rows⟩)(hn:n=rows.length)(N:n<off+len)(j:A.cells.length=P.cellsOf e)(h1:A.cells.all D.one=true)(hk:aA P ro ops (k+1) b { n:=s1.n,t:=s1.put o.dst (.v undef),h:=upd s1.h r (some ⟨e,rows++[A.cells]⟩),nx:=s1.nx,ok:=True,e:=s1.e } Q):aA P ro ops i b s Q:=by let⟨R,O,M,J,G,m⟩:=z9;subst K;refine jP (C:=C) k (λd I=>d = .v undef/\I=upd s1.h r (some ⟨e,rows++[(s1.ev y).cells]⟩)) R O M (λc e=>by rw[v]at e;cases e) J G m (λB g a w f _=>?_) (λd I⟨K,p⟩=>by subst K;subst p;exact hk);have u:=bT f z;rw[hz]at u;have F:=bT f x;rw[E]at F;let⟨L,T,U,W,V,X⟩:=ZeG f.mem hr u F (bT f y) hn N j h1;refine⟨_,_,⟨rfl,rfl⟩,undef,L,T,.inr ⟨?_,rfl⟩,.v _,W,V,λr hr=>.inl (X r hr)⟩;let⟨Y,Z,gT,op,oa,og⟩:=o;simp only at v;subst v;simp[execOp,U]
def E8{i:Nat}(k:Nat)(d:D)(v:Value)(R:i<=k)(x:ops[k]? = some o)(M:o.guard=none)(f : ∀c,o.op ≠ .defer c)(J:bu P (words P) C ops.toList b i ((ops.toList.drop i).take (k-i)) s=s1)(hok:s1.ok)(m:dN s1.n o.dst=true)(U : ∀(B:dn)(g:Mem)(a:Act)(w:World),St P B s1 g a w->(execOp a.eval o).run P w = .ok (.value v) w/\ae w g d v)(hk:aA P ro ops (k+1) b { n:=s1.n,t:=s1.put o.dst d,h:=s1.h,nx:=s1.nx,ok:=True,e:=s1.e } Q):aA P ro ops i b s Q :=
 jP (C:=C) k (λu I=>u=d/\I=s1.h) R x M f J hok m (λB g a w j _=>by let⟨y,Y⟩:=U B g a w j;exact⟨_,_,⟨rfl,rfl⟩,v,g,w,.inl y,Y,j.mem,ay.refl _ _,λr O=>.inl O⟩) (λu I⟨z,p⟩=>by subst z;subst p;exact hk)
theorem ZgA{i:Nat}(k:Nat)(z9:eG P C ops i k o b s s1)(r:o.op = .call { callee:=.builtin .cap,args:=#[x],argTypes:=#[t] })(ht:P.underlying t=some (.slice e))(E:s1.ev x = .list true [])(hk:aA P ro ops (k+1) b { n:=s1.n,t:=s1.put o.dst (.i 0),h:=s1.h,nx:=s1.nx,ok:=True,e:=s1.e } Q):aA P ro ops i b s Q:=by
 let⟨R,A,M,J,G,m⟩:=z9;refine E8 (C:=C) k (.i 0) (.int .i64 0) R A M (λc e=>by rw[r]at e;cases e) J G m (λB g a w p=>?_) hk;have u:=bT p x;rw[E]at u;obtain⟨f,y⟩:∃f,a.eval x = .slice f 0 0:=by
  generalize a.eval x=v at u;cases u with
  | empty j f I z L=>have:=z rfl;subst this;exact⟨f,rfl⟩
  | list j V f I N O T F z K=>have:=z rfl;subst this;exact⟨some f,rfl⟩
 refine⟨?_,.v _⟩;let⟨U,W,X,op,Y,og⟩:=o;simp only at r;subst r;simp[Go.BigFrame.execOp_builtin,Go.BigFrame.builtin_cap,y,Builtin.cap_,run_underlying ht,goInt]
def Zgt{i:Nat}(k:Nat)(z9:eG P C ops i k o b s s1){K:TypeId}(f:o.op = .binOp .eql t x (.const (.slice none 0 0)) K)(ht:P.underlying t=some (.slice e))(E:s1.ev x = .mrow r off len)(h0:0<len)(hk:aA P ro ops (k+1) b { n:=s1.n,t:=s1.put o.dst (.b false),h:=s1.h,nx:=s1.nx,ok:=True,e:=s1.e } Q):aA P ro ops i b s Q:=by
 let⟨R,L,M,J,G,m⟩:=z9;refine E8 (C:=C) k (.b false) (.bool false) R L M (λc e=>by rw[f]at e;cases e) J G m (λB g a w z=>?_) hk;have u:=bT z x;rw[E]at u;obtain⟨A,c,I,F⟩:∃A c,a.eval x = .slice (some A) len c/\True:=by
  generalize a.eval x=v at u;cases u with|mrow _ _ _ _ N Z T =>
  let⟨X,V,y,O,W⟩:=N;obtain⟨p,rfl⟩:=W h0;exact⟨p,V,y,trivial⟩
 have U:=Go.Lib.run_eql_slice_nil (P:=P) w t e (some A) len c 0 0 ht;have j:a.eval (.const (.slice none 0 0)) = .slice none 0 0:=rfl;refine⟨?_,.v _⟩;let⟨Y,oo,gT,op,oa,og⟩:=o;simp only at f;subst f;simp[execOp,I,j,eqGuard,U]
def Env.both(E F:Env):Env:=⟨λg w=>E.p g w/\F.p g w,E.x,λP _ h g L w T v k⟨J,Y⟩=>⟨E.st P h g L w T v k J,F.st P h g L w T v k Y⟩⟩
def Env.capLt(r k:Nat):Env where
 p:=λg w=>g.U r /\ ∀G c a,g.M r=some (G,c,a)->c<k
 x:=none
 st:=λP _ h g L w T v q⟨Y,A⟩=>⟨@ay.U drF _ _ _ _ q r Y,λG f a J=>by
  rcases @ay.M drF _ _ _ _ q r Y with e|e
  . exact A G f a (e▸J)
  . rw[e]at J;cases J⟩
def wQ(P:Program)[Glob P](f:FuncId)(args:List D)(h:H)(n:Nat)(E:Env)(R:D->H->Nat->Env->Prop):Prop :=
 fE P f=true /\ ∀(w:World)(g:Mem)(j:List Value),HM P h g w->(∀r,g.U r->r<n)->E.p g w->aF w g args j ->
  CallsIn Fence.wide 0 P f j.toArray w λe T=>∃v L a I c k,R a I c k/\e = .returned v/\ae T L a v/\HM P I L T/\ay g L w T/\(∀r,L.U r->r<c)/\k.p L T
def ZhQ{f:FuncId}{c:Code}{args:List D}{R:D->H->Nat->Env->Prop}(FT:E.x=none)(a:P.funcs[f]? = some fn)(p:fn.body=some c)(B:fE P f=true)(hn:args.length<=fn.ntmps)(hw:(∀r,n<=r->h r=none)->DW P none c (λe s=>(e = .normal\/e = .ret)/\rP P s fn.results.toList /\ ∃h' n',(∀r,h' r=s.h r\/h' r=none)/\s.nx<=n' /\ ∃m:Env,(∀g w G,s.e.p g w->m.p g G)/\R (tK P fn.results.toList s) h' n' m) { n:=fn.ntmps,t:=λi=>args.getD i .junk,h:=h,nx:=n,e:=E }):wQ P f args h n E R:=by
 refine⟨B,λw g j V Z hE O=>?_⟩;have N:=BK (P:=P) (n:=fn.ntmps) O hn V (nx:=n);have N:St P (dn.of w.heap.size) { n:=fn.ntmps,t:=λi=>args.getD i .junk,h:=h,nx:=n,e:=E } g _ w:=⟨N.sz,N.tm,N.mem,N.df,hE,N.bd⟩;refine callsIn_of_wp_marks (n:=0) a p trivial (wpIn_mono (F:=Fence.wide) (hw (Dz V Z) (dn.of w.heap.size) g _ w N Z) ?_);rintro e I T ⟨s',L,⟨J,ho,h',n',hh,K,m,M,hR⟩,o,x,iP,ab⟩;rw[show({ n:=fn.ntmps,t:=λi=>args.getD i .junk,h:=h,nx:=n,e:=E }:S).e.x=none from FT]at x;have x:=x.out;have u:LeavesInM Fence.wide 0 P fn I.tmps (λe T=>∃v L A h' n' m,R A h' n' m/\e = .returned v/\ae T L A v/\HM P h' L T/\ay g L w T/\(∀r,L.U r->r<n')/\m.p L T) I.defers .returning T:=by
  refine K6 (P:=P) I.defers T o.df.marks λG e0 y e2 e3 W e5 e6 e7=>?_;have z:=o.marks W e6 e7;let⟨v,h1,Y⟩:=Fg (fn:=fn) z ho;have xz:ay g L w G:=by refine⟨by rw[y,x.os],by rw[e2,x.tape],by rw[e3,x.output],by rw[W];exact x.size,by rw[e0];exact x.drawn,x.U,x.M,x.new,x.I,x.inew,λk X U=>?_⟩;rw[e5 k X];exact x.same k X U
  exact⟨v,h1,v,L.only h',_,h',n',m,hR,rfl,Y.only,z.mem.only hh,xz.trans xx,λr O=>YG (iP r O) K,m.st P _ _ _ _ _ z.mem xx.weak (M _ _ _ o.en)⟩
 rcases J with rfl|rfl<;>exact u
def ZhP{f:FuncId}{args:List D}{U:Nat}{c:Array Oper}{id:Nat}{y:Code}(FT:E.x=none)(k:Nat){A:Operand}{V:List D}{x:S}(a:P.funcs[f]? = some fn)(p:fn.body=some (.seq (.region U c false) (.seq (.region id ops false) y)))(X:fE P f=true)(hn:args.length<=fn.ntmps)(PP : ∀o∈c.toList,o.guard=none)(z:bu P (words P) C c.toList n 0 c.toList { n:=fn.ntmps,t:=λi=>args.getD i .junk,h:=h,nx:=n+c.size,e:=Env.tt }=x)(G:x.ok)(ho:ops[k]? = some o)(M:o.guard=none)(Y:o.op = .defer { callee:=.value A,args:=#[],argTypes:=ts })(ab : ∀o∈ops.toList.take k,o.guard=none)(J:bu P (words P) C ops.toList (n+c.size) 0 (ops.toList.take k) { n:=x.n,t:=x.t,h:=x.h,nx:=n+c.size+ops.size,e:=E }=s1)(hok:s1.ok)(m:dN s1.n o.dst=true)(Ag:s1.ev A = .fn (.func aY) [] V)(hw:(∀r,n<=r->h r=none)->aA P none ops (k+1) (n+c.size) { n:=s1.n,t:=s1.put o.dst .junk,h:=s1.h,nx:=s1.nx,ok:=True,e:=s1.e } (thenS (DW P none y (EH P fn aY V R)) (EH P fn aY V R))):wQ P f args h n E (λd h' n' E'=>E'=Env.tt/\R d h' n'):=by
 refine⟨X,λw g j hm Z hE O=>?_⟩;refine CallsIn.mono (callsIn_of_wp_marks (R:=λe T=>∃v L u h' n',R u h' n'/\e = .returned v/\ae T L u v/\HM P h' L T/\ay g L w T /\ ∀r,L.U r->r<n') (n:=0) a p trivial (wpIn_seq (wpIn_region ?_))) (λe T⟨v,L,u,h',n',B,W,q3,q4,q5,q6⟩=>⟨v,L,u,h',n',Env.tt,⟨rfl,B⟩,W,q3,q4,q5,q6,trivial⟩);have N:=BK (P:=P) (n:=fn.ntmps) O hn hm (nx:=n+c.size);have ac:List.range c.size=List.range' 0 c.size++[]:=by rw[YH,Zg]
 rw[ac];have e0:(c.toList.drop 0).take c.size=c.toList:=by rw[X4];exact Ye (by simp)
 refine Qy (ro:=none) (C:=C) (b:=n) c.size 0 _ g _ w N (ay.refl _ _) (λr O=>by have:=Z r O;omega) (by omega) (by rw[e0];exact PP) (by rw[e0];exact z▸G) λg1 a1 w1 F I eP am=>?_;rw[e0]at F;have F:St P (dn.of w.heap.size) x g1 a1 w1:=z▸F;have K:x.nx=n+c.size:=by rw[<-z];exact Qz _ _ _ _ _
 rw[<-K]at J hw;exact Zbq (C:=C) (E:=E) k ho M Y ab FT (Env.later hm I hE) J hok m Ag (hw (Dz hm Z)) F I (λr O=>by rw[K];have:=eP r O;omega) am
section
variable [Glob P] {C : aO} {s s1 : S} {ops : Array Oper} {i b : Nat}
def ZgE(k:Nat){aD xs:List D}(R:D->H->Nat->Env->Prop)(am:i<=k)(ho:ops[k]? = some o)(p:o.op = .call { callee:=.value f,args:=args,argTypes:=ts })(hg:o.guard=none)(J:bu P (words P) C ops.toList b i ((ops.toList.drop i).take (k-i)) s=s1)(hok:s1.ok)(m:dN s1.n o.dst=true)(hf:s1.ev f = .fn (.func aY) first aD)(I:(args.toList.map s1.ev).all sg=true)(hx:(args.toList.map s1.ev).map sd=xs)(hct:wQ P aY (first++xs++aD) s1.h (b+k) E R)(hE : ∀g w,s1.e.p g w->E.p g w)(hk : ∀res h' n' A,R res h' n' A->aA P ro ops (k+1) n' { n:=s1.n,t:=s1.put o.dst res,h:=h',nx:=n'+ops.size,ok:=True,e:=Env.both s1.e A } Q):aA P ro ops i b s Q:=by
 intro B g0 g a w0 w hs hm Z;have K:k<ops.size:=(Yo.1 ho).1;have O:List.range' i (ops.size-i)=List.range' i (k-i)++(k::List.range' (k+1) (ops.size-(k+1))):=by
  have:ops.size-i=(k-i)+((ops.size-(k+1))+1):=by omega
  rw[this,<-Zo,Zd];have y:i+(k-i)=k:=by omega
  rw[y]
 rw[O];refine wm (C:=C) (b:=b) (k-i) i s g a w hs hm Z (by omega) o3r λg1 N V F X eP=>?_;rw[J]at F;have eP : ∀r,g1.U r->r<b+k:=λr O=>by have:=eP r O;omega
 have ab:s1.e=s.e:=by rw[<-J];exact wo _ _ _ _ _
 rw[wpOpsIn_cons];unfold wpOpIn;rw[ho];simp only;have hw:Region.wanted o (yielded ops N.tmps)=true:=by simp[Region.wanted,hg]
 rw[X0 hw];have G : ∀c,o.op ≠ .defer c:=by intro c e;rw[e]at p;cases p
 have kz:o.semAt (Fw ro).round N.eval=execOp N.eval o:=Oper.semAt_eq _ _ _ G;refine⟨λ_ _=>trivial,?_⟩;rw[kz];let⟨ac,hct⟩:=hct;have z:=bT F f;rw[hf]at z;have fK:=ym (xP F args.toList) I;rw[hx]at fK;generalize u:N.eval f=vf at z;cases z with|fn _ _ _ fs M l1 l2 r1 r2 =>
 have U:(execOp N.eval o).run P V = .ok (.enter aY (fs++args.map N.eval++M)) V:=by simp[execOp,p,resolve,Deferred.ofValue,u,invoke,xX ac]
 rw[U,Oper.uponIn_enter];have e:fs++args.map N.eval++M=(fs.toList++args.toList.map N.eval++M.toList).toArray:=by apply Zr;simp
 rw[e];refine⟨λh=>by simp[Fw,Fence.wide]at h,AA ((hct V g1 _ F.mem eP (hE _ _ F.en) (aF.append (aF.append ⟨by simpa using l1,λi d x h1 Y=>r1 i d x h1 (by simpa using Y)⟩ fK) ⟨by simpa using l2,λi d x h1 Y=>r2 i d x h1 (by simpa using Y)⟩)).mono ?_)⟩;rintro e T ⟨v,L,res,h',n',A,hR,rfl,q1,W,q3,q4,q5⟩;have j:=nL F q3 W m q1 True;have:=hk res h' n' A hR B g0 L (N.put o.dst v) w0 T ⟨j.sz,j.tm,j.mem,j.df,⟨j.en,q5⟩,j.bd⟩ (X.trans q3) (λr O=>by have:=q4 r O;omega);rw[show(Env.both s1.e A).x=s.e.x by rw[<-ab];rfl]at this;exact this
def Mc{A B:Prop}{c:H->Prop}{f:Nat->Prop}{g:Env->Prop}{R:H->Nat->Env->Prop}{n':Nat}(h':H)(a:Env)(hE:g a)(hn:f n':=by first|exact XW _|omega)(hr:R h' n' a:=by(try simp only[go_sem,ff]);all_goals simp)(hh:c h':=by exact λ_=>.inl rfl)
  (m:A:=by first|exact .inr rfl|exact .inl rfl|trivial|simp)(p:B:=by simp only[go_sem,ff]):A/\B /\ ∃h' n',c h'/\f n' /\ ∃a,g a/\R h' n' a:=⟨m,p,h',n',hh,hn,a,hE,hr⟩
def Znc{c:Code}{k:Nat}{t:Nat->D}{nx:Nat}{ok:Prop}(hr:h r=some ⟨e,rows⟩)(hE : ∀g w,E.p g w->(Env.capLt r k).p g w)(h0:m<k->DW P ro c Q ⟨n,t,h,nx,ok,Env.lim E r m⟩):DW P ro c Q ⟨n,t,h,nx,ok,Env.lim E r m⟩:=by intro B g a w N Z;let⟨G,f,J,_⟩:=N.mem.blk r _ hr;have Y:=N.en.2.2 _ _ _ J;have A:=(hE g w N.en.1).2 _ _ _ J;exact h0 om B g a w N Z
def QH{c:Code}(k:Nat)(hr:s.h r=some ⟨e,rows⟩)(h:DW P ro c Q { n:=s.n,t:=s.t,h:=upd s.h r (some ⟨e,rows.take k⟩),nx:=s.nx,ok:=s.ok,e:=s.e }):DW P ro c Q s :=
 λB g a w N Z=>h B g a w ⟨N.sz,N.tm,N.mem.shrink hr k,N.df,N.en,N.bd⟩ Z
end
theorem Zpt(X:HM P h g w)(p : ¬g.U b)(ht:P.underlying t=some (.slice e))(Z:P.underlying u=some (.int kk))(hp:0<P.cellsOf e)(hz:eH P e=true)(E:(zeroCells P e).all D.one=true)(n:(zeroCells P e).length=P.cellsOf e)(F:0<m)(hby:m*P.bytesOf e<=140737488355328)(h63:m<=4611686018427387904)(ty:TypeId) :
  ∃v g' w',(Builtin.append_ #[t,u] ty #[.slice none 0 0,.int .i64 m]).run P w = .ok v w'/\ae w' g' (.mrow b 0 m) v/\HM P (upd h b (some ⟨e,List.replicate m (zeroCells P e)⟩)) g' w'/\ay g g' w w' /\ ∀q,g'.U q->g.U q\/q=b:=by
 let⟨i,hi,N⟩:=yL hp;have a:=hz;unfold eH at a;cases f:i.zero with
 | none=>simp[hi,f]at a
 | some z =>
 simp only[hi,f,Option.bind_some,YF]at a;have T:i.bytes=P.bytesOf e:=by simp[Program.bytesOf,hi]
 have o:RowsIn w g (P.cellsOf e) (List.replicate m (zeroCells P e)) (Builtin.zeroCells z.cells m).toList:=by
  refine⟨by simp[size_zeroCells,a],λj row A=>?_⟩;let⟨x,U⟩:=X8.1 A;simp only[List.length_replicate]at x;simp only[List.getElem_replicate]at U;subst U;refine⟨n,λq d V=>?_⟩;let⟨I,B,ab⟩:=CB (P:=P) hi f w g E;have W:q<P.cellsOf e:=by have:=(X8.1 V).1;omega
  refine⟨z.cells[q]!,?_,?_,?_⟩
  . simp only[Zf];have K:=BL x W;unfold Builtin.zeroCells;simp only[Array.getElem?_map,a];rw[Array.getElem?_range,X0 K];simp only[YZ];rw[ZF,Z0,ZC W]
  .
   have k:q<z.cells.size:=by omega
   rw[getElem!_pos z.cells q k];exact B _ (by simp)
  have k:q<z.cells.size:=by omega
  rw[getElem!_pos z.cells q k];exact I.2 q d _ V (by simp[k])
 have J:=grownCap_ge w m 0 e;let⟨g',G,c,Y,k4⟩:=LB (h':=upd h b (some ⟨e,List.replicate m (zeroCells P e)⟩)) X p o hp a (bI _ _ _) (λr O=>.inl (aI _ _ _ _ O)) (grownCap w m 0 e) (by rw[List.length_replicate];exact J) (by omega)
  (grownCap_le_maxLen _ _ _ _ o2V)
 rw[List.length_replicate]at G c Y;have L:(Builtin.append_ #[t,u] ty #[.slice none 0 0,.int .i64 m]).run P w = .ok (.slice (some ⟨w.heap.size,0,none⟩) m (grownCap w m 0 e))
   (w.drew.alloc (.cells ((Builtin.zeroCells z.cells m).toList.toArray++Builtin.zeroCells z.cells (grownCap w m 0 e-m)) e)):=by
  have y : ¬(m<=0):=by omega
  have M:m≠0:=by omega
  have e2:IntKind.i64.wrap (m:Int)=m:=by rw[IntKind.wrap_i64];omega
  have e3 : ¬((m:Int)<0):=by omega
  have e4 : ¬(281474976710656<(m:Int)*(i.bytes:Int)):=by
   rw[T];have e9:((m*P.bytesOf e:Nat):Int)=(m:Int)*(P.bytesOf e:Int):=by simp
   omega
  have e5 : ¬(9223372036854775807<(m:Int)):=by omega
  have R : ¬(281474976710656<Builtin.nextslicecap m 0*i.bytes):=by have:=growslice_fits (need:=m) (old:=0) (bytes:=i.bytes) F (by rw[T];exact hby);omega
  have e6 : ¬(m*P.cellsOf e=0):=by intro h;rcases Nat.mul_eq_zero.1 h with h|h<;>omega
  have e7 : ¬(m*i.size=0):=by rw[N];exact e6
  simp[Builtin.append_,run_underlying ht,run_underlying Z,sizeOf,typeInfo,zeroValue,hi,f,asInt,asIntOf,y,M,e2,e3,e4,e5,e7,R,Question.forced,run_firstCells_none,newRow,grownCap]
 exact⟨_,g',_,L,G,c,Y,k4⟩
section
variable [Glob P] {C : aO} {s s1 : S} {ops : Array Oper} {i b : Nat}
def ZgH(k:Nat)(z9:eG P C ops i k o b s s1)(r:o.op = .call { callee:=.builtin .append,args:=#[.const (.slice none 0 0),y],argTypes:=#[t,u] })(ht:P.underlying t=some (.slice e))(N:P.underlying u=some (.int kk))(hp:0<P.cellsOf e)(hz:eH P e=true)(A:(zeroCells P e).all D.one=true)(f:(zeroCells P e).length=P.cellsOf e)(E:s1.ev y = .i m)(F:0<m)(hby:m*P.bytesOf e<=140737488355328)(h63:m<=4611686018427387904)(hk:aA P ro ops (k+1) b { n:=s1.n,t:=s1.put o.dst (.mrow (b+k) 0 m),h:=upd s1.h (b+k) (some ⟨e,List.replicate m (zeroCells P e)⟩),nx:=s1.nx,ok:=True,e:=s1.e } Q):aA P ro ops i b s Q:=by let⟨R,O,M,J,G,U⟩:=z9;refine jP (C:=C) k (λd I=>d = .mrow (b+k) 0 m/\I=upd s1.h (b+k) (some ⟨e,List.replicate m (zeroCells P e)⟩)) R O M (λc e=>by rw[r]at e;cases e) J G U (λB g a w x K=>?_) (λd I⟨E,p⟩=>by subst E;subst p;exact hk);have z:=bT x y;rw[E]at z;have z:=z.v_inv;let⟨v,L,T,V,W,X,Y,Z⟩:=Zpt x.mem K ht N hp hz A f F hby h63 o.type;refine⟨_,_,⟨rfl,rfl⟩,v,L,T,.inl ?_,W,X,Y,Z⟩;have j:a.eval (.const (.slice none 0 0)) = .slice none 0 0:=rfl;let⟨od,oo,gT,op,oa,og⟩:=o;simp only at r;subst r;simp[Go.BigFrame.execOp_builtin,Go.BigFrame.builtin_append,z,j,V]
def Zgm(k:Nat){hi:Operand}(z9:eG P C ops i k o b s s1)(p:o.op = .slice t x none (some hi) none)(ht:P.underlying t=some (.slice e))(E:s1.ev x = .mrow r off len)(hh:s1.ev hi = .i m)(hr:s1.h r=some ⟨e,rows⟩)(h0:0<m)(hl:off+m<=rows.length)(hk:aA P ro ops (k+1) b { n:=s1.n,t:=s1.put o.dst (.mrow r off m),h:=s1.h,nx:=s1.nx,ok:=True,e:=s1.e } Q):aA P ro ops i b s Q:=by
 let⟨R,W,M,X,G,hd⟩:=z9;refine jP (C:=C) k (λd I=>d = .mrow r off m/\I=s1.h) R W M (λc e=>by rw[p]at e;cases e) X G hd (λB g a w j _=>?_) (λd I⟨hy,hh⟩=>by subst hy;subst hh;exact hk);have u:=bT j x;rw[E]at u;have z:=(bT j hi);rw[hh]at z;have z:=z.v_inv;let⟨L,F,J,Y,A,h4,h5⟩:=j.mem.blk r _ hr;simp only at Y A;generalize lI:a.eval x=v at u;cases u with|mrow _ _ _ _ fI Z N =>
 let⟨p1,p2⟩:=N _ _ _ J;rcases p2 with⟨f,_⟩|⟨f,O,rfl,rfl⟩
 . omega
 have r2:=ow (P:=P) (o:=some (.i m)) (vo:=some (a.eval hi)) (d:=len) (y:=F-off) (w:=w) (g:=g) (by rw[z];exact .v _) rfl (by simp[bnd]) o3g (if true then .sliceAcap else .sliceAlen);have r1:=ow (P:=P) (o:=none) (vo:=none) (d:=0) (y:=(bnd (some (.i m)) len).toNat) (w:=w) (g:=g) trivial rfl (by simp[bnd]) (by simp[bnd]) .sliceB;have U:=CR ht Y (a:=some ⟨O,off*P.cellsOf e,none⟩) (len:=len) (vm:=none) (Gd (P:=P) (len:=len) r2 r1);have V : ¬(F-off=0):=by omega
 simp only[bnd,Int.toNat_natCast,V,Y8,Nat.zero_mul,Nat.sub_zero,YZ,oQ,Zx]at U;have T:m<=F-off:=by omega
 refine⟨_,_,⟨rfl,rfl⟩,.slice (some ⟨O,off*P.cellsOf e,none⟩) m (F-off),g,w,.inl ?_,.mrow r off m _ ⟨_,_,rfl,T,λ_=>⟨_,rfl⟩⟩ Z λL c' sz K=>?_,j.mem,ay.refl _ _,λr hr=>.inl hr⟩
 . let⟨od,oo,gT,op,oa,og⟩:=o;simp only at p;subst p;simp[execOp,lI,U]
 rw[J]at K;simp only[Yj,YL]at K;obtain⟨rfl,rfl,rfl⟩:=K;exact⟨om,.inr ⟨f,O,rfl,rfl⟩⟩
end
def Zg4{a:Array (String×TypeId)}(ht:P.underlying t=some (.interface a))(w:World):(Op.equal t .nilIface .nilIface).run P w = .ok true w /\ ∀T v,(Op.equal t (.iface T v) .nilIface).run P w = .ok false w/\(Op.equal t .nilIface (.iface T v)).run P w = .ok false w:=by
 have G : ∀d:Nat,(Op.equalIn (d+1) t .nilIface .nilIface).run P w = .ok true w:=λd=>by simp[Op.equalIn,run_underlying ht]
 have c : ∀(d:Nat)T v,(Op.equalIn (d+1) t (.iface T v) .nilIface).run P w = .ok false w:=λd T v=>by simp[Op.equalIn,run_underlying ht]
 have Y : ∀(d:Nat)T v,(Op.equalIn (d+1) t .nilIface (.iface T v)).run P w = .ok false w:=λd T v=>by simp[Op.equalIn,run_underlying ht]
 exact⟨by simp[Op.equal,Op.maxDepth,G 9999],λT v=>⟨by simp[Op.equal,Op.maxDepth,c 9999],by simp[Op.equal,Op.maxDepth,Y 9999]⟩⟩
def Zgv{i:Nat}(k:Nat){F:TypeId}{I:Array (String×TypeId)}{f:BinOp}(y:Bool)(z9:eG P C ops i k o b s s1)(r:o.op = .binOp f t x (.const .nilIface) F)(ht:P.underlying t=some (.interface I))(p:f = .eql\/f = .neq)(E:s1.ev x = .v v)(hv:(v = .nilIface/\y=true)\/(∃T u,v = .iface T u)/\y=false)(hk:aA P ro ops (k+1) b { n:=s1.n,t:=s1.put o.dst (.b (if f = .eql then y else !y)),h:=s1.h,nx:=s1.nx,ok:=True,e:=s1.e } Q):aA P ro ops i b s Q:=by
 let⟨R,K,M,J,G,m⟩:=z9;refine E8 (C:=C) k (.b (if f = .eql then y else !y)) (.bool (if f = .eql then y else !y)) R K M (λc e=>by rw[r]at e;cases e) J G m (λB g a w z=>?_) hk;have O:=bT z x;rw[E]at O;have O:=O.v_inv;have j:a.eval (.const .nilIface) = .nilIface:=rfl;let⟨L,Y⟩:=Zg4 (P:=P) ht w;refine⟨?_,.v _⟩;let⟨N,U,V,op,W,og⟩:=o;simp only at r;subst r;rcases hv with⟨rfl,rfl⟩|⟨⟨T,u,rfl⟩,rfl⟩
 . rcases p with rfl|rfl<;>simp[execOp,O,j,eqGuard,binOp,L]
 let⟨A,_⟩:=Y T u;rcases p with rfl|rfl<;>simp[execOp,O,j,eqGuard,binOp,A]
def ZgC{i:Nat}(k:Nat){kk:Nat}(z9:eG P C ops i k o b s s1)(z:o.op = .call { callee:=.builtin .cap,args:=#[x],argTypes:=#[t] })(ht:P.underlying t=some (.slice e))(hE : ∀g w,s1.e.p g w->(Env.capLt r kk).p g w)(V:s1.ev x = .mrow r off len)(hr:s1.h r=some ⟨e,rows⟩)(hk : ∀c:Nat,len<=c->off+c<kk->aA P ro ops (k+1) b { n:=s1.n,t:=s1.put o.dst (.i c),h:=s1.h,nx:=s1.nx,ok:=True,e:=Env.lim s1.e r (off+c) } Q):aA P ro ops i b s Q:=by
 let⟨R,W,M,X,G,m⟩:=z9;refine Uv (C:=C) k (λd I E=>∃c:Nat,d = .i c/\I=s1.h/\E=Env.lim s1.e r (off+c)/\len<=c/\off+c<kk) R W M (λc e=>by rw[z]at e;cases e) X G m (λB g a w j _=>?_) (λd I E⟨c,J,Y,A,N,U⟩=>by subst J;subst Y;subst A;exact hk c N U);have u:=bT j x;rw[V]at u;let⟨F,c0,J,Y,A,N,U⟩:=j.mem.blk r _ hr;have p:=(hE g w j.en).2 _ _ _ J;have O : ∃(T:Option Addr)(c:Nat),a.eval x = .slice T len c/\len<=c/\c0=off+c/\g.U r:=by
  generalize a.eval x=v at u;cases u with|mrow _ _ _ _ fI Z L =>
  let⟨p1,p2⟩:=L _ _ _ J;let⟨a',c',y,e2,_⟩:=fI;rcases p2 with⟨f,a,rfl⟩|⟨f,b0,rfl,rfl⟩
  . cases y;exact⟨a',0,rfl,om,om,Z⟩
  cases y;exact⟨_,_,rfl,e2,om,Z⟩
 let⟨T,c,k1,k2,k4,k5⟩:=O;refine⟨_,_,_,.int .i64 c,g,w,⟨c,rfl,rfl,rfl,k2,om⟩,rfl,?_,.v _,j.mem,ay.refl _ _,λr hr=>.inl hr,j.en,k5,λF c' sz K=>?_⟩
 . let⟨od,oo,gT,op,oa,og⟩:=o;simp only at z;subst z;simp[Go.BigFrame.execOp_builtin,Go.BigFrame.builtin_cap,k1,Builtin.cap_,run_underlying ht,goInt]
 rw[J]at K;simp only[Yj,YL]at K;obtain⟨rfl,rfl,rfl⟩:=K;exact k4
def ZgB{i:Nat}(k:Nat){I:Nat}(z9:eG P C ops i k o b s s1)(p:o.op = .call { callee:=.builtin .cap,args:=#[x],argTypes:=#[t] })(ht:P.underlying t=some (.slice e))(hE:s1.e=Env.lim E r I)(N:s1.ev x = .mrow r off len)(hr:s1.h r=some ⟨e,rows⟩)(hk:aA P ro ops (k+1) b { n:=s1.n,t:=s1.put o.dst (.i (I-off:Nat)),h:=s1.h,nx:=s1.nx,ok:=True,e:=s1.e } Q):aA P ro ops i b s Q:=by
 let⟨R,T,M,V,G,m⟩:=z9;refine E8 (C:=C) k (.i (I-off:Nat)) (.int .i64 (I-off:Nat)) R T M (λc e=>by rw[p]at e;cases e) V G m (λB g a w z=>?_) hk;have u:=bT z x;rw[N]at u;let⟨W,X,J,Y,A,h4,U⟩:=z.mem.blk r _ hr;have F:=z.en;rw[hE]at F;have j:=F.2.2 _ _ _ J;subst j;have O : ∃(L:Option Addr),a.eval x = .slice L len (X-off):=by
  generalize a.eval x=v at u;cases u with|mrow _ _ _ _ fI Z K =>
  let⟨p1,p2⟩:=K _ _ _ J;let⟨a',c',y,e2,_⟩:=fI;rcases p2 with⟨f,a,rfl⟩|⟨f,b0,rfl,rfl⟩
  . cases y;exact⟨a',by congr 1;omega⟩
  exact⟨_,rfl⟩
 let⟨L,k1⟩:=O;refine⟨?_,.v _⟩;let⟨od,oo,gT,op,oa,og⟩:=o;simp only at p;subst p;simp[Go.BigFrame.execOp_builtin,Go.BigFrame.builtin_cap,k1,Builtin.cap_,run_underlying ht,goInt]
def ZjV(K:HM P h g w)(L : ¬g.U b){k k':IntKind}(ht:P.underlying t=some (.slice e))(c0:0<n)(M:n<=m)(I:P.bytesOf e*(m:Int)<=281474976710656)(a:(m:Int)<=9223372036854775807)(c4:eH P e=true)(R:(zeroCells P e).length=P.cellsOf e)(T:(zeroCells P e).all D.one=true)(B:0<P.cellsOf e) :
  ∃v g' w',(Instr.makeSlice t (.int k n) (.int k' m)).run P w = .ok v w'/\ae w' g' (.mrow b 0 n) v/\HM P (upd h b (some ⟨e,List.replicate m (zeroCells P e)⟩)) g' w'/\ay g g' w w' /\ ∀r,g'.U r->g.U r\/r=b:=by
 let⟨i,hi,N⟩:=yL B;let⟨i',z,o,V⟩:=Jz (P:=P) (t:=e) om;rw[hi]at o;cases o;let⟨X,Z,z3⟩:=CB hi V w g T;have y:(i.bytes:Int)*m<=281474976710656:=by
  have:P.bytesOf e=i.bytes:=by simp[Program.bytesOf,hi]
  rw[<-this];exact I
 have U:=run_make (P:=P) w t e i z ht hi V k k' n m (by omega) (by omega) y a;have f:z.cells.size=P.cellsOf e:=by omega
 rw[N,<-f]at U;simp only[Int.toNat_natCast]at U;let⟨g',Y,A,h4,h5,W⟩:=K.put (h':=upd h b (some ⟨e,List.replicate m (zeroCells P e)⟩)) (w':=w.alloc (.cells (madeCells z.cells (m*z.cells.size)) e)) b w.heap.size m ⟨e,List.replicate m (zeroCells P e)⟩ (madeCells z.cells (m*z.cells.size)) (.inl L) (bI _ _ _)
  (λr O=>.inl (aI _ _ _ _ O)) (.inl (XW _)) (heap_alloc_new w _) (by rw[size_madeCells,f]) B (by simp) o2V
  (by
   intro p row F;have u:p<m:=by have:=(X8.1 F).1;simpa using this
   rw[List.getElem?_replicate,X0 u]at F;cases F;refine⟨R,λj d E=>?_⟩;have x:j<z.cells.size:=by have:=(X8.1 E).1;omega
   refine⟨z.cells[j],?_,Z _ (by simp),X.2 j d _ E (by simp[x])⟩;show(madeCells z.cells (m*z.cells.size))[p*P.cellsOf e+j]? = _;rw[<-f];exact WO u x)
  (World.grownBy_alloc w _ _)
 refine⟨_,g',_,U,?_,h5,W,λr O=>(A r).1 O⟩;refine .mrow b 0 n _ ⟨_,_,rfl,M,λ_=>⟨_,rfl⟩⟩ ((A b).2 (.inr rfl)) λG c sz J=>?_;rw[Y]at J;simp only[Yj,YL]at J;obtain⟨rfl,rfl,rfl⟩:=J;exact⟨⟨om,by simp only[maxLen];omega⟩,.inr ⟨om,w.heap.size,rfl,by simp⟩⟩
def Zgu{i:Nat}(k:Nat){F:IntKind}(z9:eG P C ops i k o b s s1)(r:o.op = .makeSlice t x y)(ht:P.underlying t=some (.slice e))(K:P.bytesOf e*(m:Int)<=281474976710656)(N:eH P e=true)(O:(zeroCells P e).length=P.cellsOf e)(U:(zeroCells P e).all D.one=true)(V:0<P.cellsOf e)(E:s1.ev x = .v (.int q n))(z:s1.ev y = .v (.int F m))(X:0<n)(Y:n<=m)(Z:(m:Int)<=9223372036854775807)(hk:aA P ro ops (k+1) b { n:=s1.n,t:=s1.put o.dst (.mrow (b+k) 0 n),h:=upd s1.h (b+k) (some ⟨e,List.replicate m (zeroCells P e)⟩),nx:=s1.nx,ok:=True,e:=s1.e } Q):aA P ro ops i b s Q:=by let⟨R,ho,M,J,G,hd⟩:=z9;refine jP (C:=C) k (λd I=>d = .mrow (b+k) 0 n/\I=upd s1.h (b+k) (some ⟨e,List.replicate m (zeroCells P e)⟩)) R ho M (λc e=>by rw[r]at e;cases e) J G hd (λB g a w f A=>?_) (λd I⟨z,p⟩=>by subst z;subst p;exact hk);have j:=bT f x;rw[E]at j;have j:=j.v_inv;have u:=bT f y;rw[z]at u;have u:=u.v_inv;let⟨v,L,T,q1,W,q3,q4,q5⟩:=ZjV (k:=q) (k':=F) f.mem A ht X Y K Z N O U V;refine⟨_,_,⟨rfl,rfl⟩,v,L,T,.inl ?_,W,q3,q4,q5⟩;let⟨od,oo,gT,op,oa,og⟩:=o;simp only at r;subst r;simp[execOp,j,u,q1]
theorem wQ.i{f:FuncId}{args:List D}{R:D->H->Nat->Env->Prop}(k:wQ P f args h n E R):Gj P f args h n E (λd h' n'=>∃c,R d h' n' c) :=
 ⟨k.1,λw g j J Y A o=>(k.2 w g j J Y A o).mono λ_ _⟨v,L,m,h',n',c,B,W,p,a,r,t,u⟩=>⟨v,L,m,h',n',⟨c,B⟩,W,p,a,r,t⟩⟩
def bG.ie{f:FuncId}{args:List D}(k:bG P f args h n R):Gj P f args h n Env.tt R:=⟨k.1,λw g j J Y _ a=>k.2 w g j J Y a⟩
section
variable [Glob P] (C : aO) {s s1 : S} {ops : Array Oper} {i b : Nat} {o : Oper} (k : Nat)
def Qb(hk:aA P ro ops (k+1) b { n:=s1.n,t:=s1.put o.dst (.i 0),h:=s1.h,nx:=s1.nx,ok:=True,e:=s1.e } Q)(z9:eG P C ops i k o b s s1:=by exact pos)(r:o.op = .call { callee:=.builtin .cap,args:=#[x],argTypes:=#[t] }:=by exact rfl)(ht:P.underlying t=some (.slice e):=by kernel_rfl)(E:s1.ev x = .list true []:=by simp only[go_sem,ff];first|done|exact rfl):aA P ro ops i b s Q:=ZgA k z9 r ht E hk
def gmnil{c:TypeId}(hk:aA P ro ops (k+1) b { n:=s1.n,t:=s1.put o.dst (.b false),h:=s1.h,nx:=s1.nx,ok:=True,e:=s1.e } Q)(z9:eG P C ops i k o b s s1:=by exact pos)(a:o.op = .binOp .eql t x (.const (.slice none 0 0)) c:=by exact rfl)(ht:P.underlying t=some (.slice e):=by kernel_rfl)(E:s1.ev x = .mrow r off len:=by simp only[go_sem,ff];first|done|exact rfl)(h0:0<len:=by first|omega|(simp;done)|(simp;omega)):aA P ro ops i b s Q:=Zgt k z9 a ht E h0 hk
def Zmo{a:TypeId}{f:Bool}(hk : ∀y:Bool,(y=true->rows=[])->aA P ro ops (k+1) b { n:=s1.n,t:=s1.put o.dst (.b y),h:=s1.h,nx:=s1.nx,ok:=True,e:=s1.e } Q)(R:i<=k:=by omega)(c:ops[k]? = some o:=by exact dP rfl)(M:o.guard=none:=by exact rfl)(r:o.op = .binOp .eql t x (.const (.slice none 0 0)) a:=by exact rfl)(ht:P.underlying t=some (.slice e):=by kernel_rfl)(J:bu P (words P) C ops.toList b i ((ops.toList.drop i).take (k-i)) s=s1:=by simp only[X9,X4,X5,Yf,S.put,Yq,Nat.reduceSub,go_sem,ff];first|done|exact rfl)(hok:s1.ok:=by(try simp only[go_sem,ff]);all_goals exact ok0)(m:dN s1.n o.dst=true:=by(try simp only[go_sem,ff]);all_goals (first|done|rfl|decide|simp))(E:s1.ev x = .list f rows:=by simp only[go_sem,ff];first|done|exact rfl):aA P ro ops i b s Q:=GJ k R c M r ht J hok m E hk
def Qa{a:D}{news:List (List D)}(hk:aA P ro ops (k+1) b { n:=s1.n,t:=s1.put o.dst (.i m),h:=upd s1.h r (some ⟨e,rows.take off++news++rows.drop (off+m)⟩),nx:=s1.nx,ok:=True,e:=s1.e } Q)(z9:eG P C ops i k o b s s1:=by exact pos)(c:o.op = .call { callee:=.builtin .copy,args:=#[x,y],argTypes:=#[t,u] }:=by exact rfl)(ht:P.underlying t=some (.slice e):=by kernel_rfl)(E:s1.ev x = .mrow r off len:=by simp only[go_sem,ff];first|done|exact rfl)(j:s1.ev y=a:=by simp only[go_sem,ff];first|done|exact rfl)(hr:s1.h r=some ⟨e,rows⟩:=by simp only[go_sem,ff];first|done|exact rfl)(f:aG a s1.h=news:=by simp only[aG,go_sem,ff];first|done|exact rfl)(v:bQ a=m:=by first|rfl|(simp only[bQ,go_sem,ff];done)|(simp[bQ];done)|(simp[bQ];omega))(p:news.length=m:=by first|(simp only[go_sem,ff];done)|(simp;done)|(simp;omega))(hs:iy P u s1.h a=true:=by simp only[go_sem,ff])(hrl : ∀q∈news,q.length=P.cellsOf e:=by simp only[go_sem,ff])(h0:0<m:=by first|omega|(simp;done)|(simp;omega))(w:m<=len:=by first|omega|(simp;done)|(simp;omega))(g:off<=rows.length:=by first|omega|(simp;done)|(simp;omega)):aA P ro ops i b s Q:=Zgw k z9 c ht E j hr f v p hs hrl h0 w g hk
def IP{f a:D}(hk:aA P ro ops (k+1) b { n:=s1.n,t:=s1.put o.dst (.i 0),h:=s1.h,nx:=s1.nx,ok:=True,e:=s1.e } Q)(z9:eG P C ops i k o b s s1:=by exact pos)(r:o.op = .call { callee:=.builtin .copy,args:=#[x,y],argTypes:=#[t,u] }:=by exact rfl)(ht:P.underlying t=some (.slice e):=by kernel_rfl)(hp:0<P.cellsOf e:=by exact YP (by kernel_rfl))(E:s1.ev x=f:=by simp only[go_sem,ff];first|done|exact rfl)(g:s1.ev y=a:=by simp only[go_sem,ff];first|done|exact rfl)(c:Pw f=true:=by rfl)(v:bQ a=0:=by first|rfl|(simp only[bQ,go_sem,ff];done)|(simp[bQ];done))(j:(aG a s1.h).length=0:=by first|rfl|(simp only[aG,go_sem,ff];done)|(simp[aG];done))(hs:iy P u s1.h a=true:=by simp only[go_sem,ff]):aA P ro ops i b s Q:=Zgx k z9 r ht hp E g c v j hs hk
def Zl6{z:Operand}{a:D}(hk:aA P ro ops (k+1) b { n:=s1.n,t:=s1.put o.dst (.v undef),h:=upd s1.h r (some ⟨e,rows++[a.cells]⟩),nx:=s1.nx,ok:=True,e:=s1.e } Q)(z9:eG P C ops i k o b s s1:=by exact pos)(c:o.op = .store e x y:=by exact rfl)(E:s1.ev x = .mptr r n 0:=by simp only[go_sem,ff];first|done|exact rfl)(hz:s1.ev z = .mrow r off len:=by simp only[go_sem,ff];first|done|exact rfl)(f:s1.ev y=a:=by simp only[go_sem,ff];first|done|exact rfl)(hr:s1.h r=some ⟨e,rows⟩:=by simp only[go_sem,ff];first|done|exact rfl)(hn:n=rows.length:=by first|omega|(simp;done)|(simp;omega))(g:n<off+len:=by first|omega|(simp;done)|(simp;omega))(j:a.cells.length=P.cellsOf e:=by simp only[go_sem,ff])(h1:a.cells.all D.one=true:=by rfl):aA P ro ops i b s Q:=Zgi k z9 c E f hz hr hn g j h1 hk
def PW(m:Nat)(c:0<m)(hby:m*P.bytesOf e<=140737488355328)(h63:m<=4611686018427387904)(hk:aA P ro ops (k+1) b { n:=s1.n,t:=s1.put o.dst (.mrow (b+k) 0 m),h:=upd s1.h (b+k) (some ⟨e,List.replicate m (zeroCells P e)⟩),nx:=s1.nx,ok:=True,e:=s1.e } Q)(z9:eG P C ops i k o b s s1:=by exact pos)(r:o.op = .call { callee:=.builtin .append,args:=#[.const (.slice none 0 0),y],argTypes:=#[t,u] }:=by exact rfl)(ht:P.underlying t=some (.slice e):=by kernel_rfl)(g:P.underlying u=some (.int kk):=by kernel_rfl)(hp:0<P.cellsOf e:=by exact YP (by kernel_rfl))(hz:eH P e=true:=by kernel_rfl)(f:(zeroCells P e).all D.one=true:=by kernel_rfl)(a:(zeroCells P e).length=P.cellsOf e:=by kernel_rfl)(j:s1.ev y = .i m:=by simp only[go_sem,ff];first|done|exact rfl):aA P ro ops i b s Q:=ZgH k z9 r ht g hp hz f a j c hby h63 hk
def Zas{hi:Operand}(m:Nat)(hk:aA P ro ops (k+1) b { n:=s1.n,t:=s1.put o.dst (.mrow r off m),h:=s1.h,nx:=s1.nx,ok:=True,e:=s1.e } Q)(z9:eG P C ops i k o b s s1:=by exact pos)(a:o.op = .slice t x none (some hi) none:=by exact rfl)(ht:P.underlying t=some (.slice e):=by kernel_rfl)(E:s1.ev x = .mrow r off len:=by simp only[go_sem,ff];first|done|exact rfl)(hh:s1.ev hi = .i m:=by simp only[go_sem,ff];first|done|exact rfl)(hr:s1.h r=some ⟨e,rows⟩:=by simp only[go_sem,ff];first|done|exact rfl)(h0:0<m:=by first|omega|(simp;done)|(simp;omega))(c:off+m<=rows.length:=by first|omega|(simp;done)|(simp;omega)):aA P ro ops i b s Q:=Zgm k z9 a ht E hh hr h0 c hk
def Zmh{f:TypeId}{g:Array (String×TypeId)}{a:BinOp}(y:Bool)(hk:aA P ro ops (k+1) b { n:=s1.n,t:=s1.put o.dst (.b (if a = .eql then y else !y)),h:=s1.h,nx:=s1.nx,ok:=True,e:=s1.e } Q)(hv:(v = .nilIface/\y=true)\/(∃T u,v = .iface T u)/\y=false:=by first|exact .inl ⟨rfl,rfl⟩|exact .inr ⟨⟨_,_,rfl⟩,rfl⟩)(z9:eG P C ops i k o b s s1:=by exact pos)(r:o.op = .binOp a t x (.const .nilIface) f:=by exact rfl)(ht:P.underlying t=some (.interface g):=by kernel_rfl)(c:a = .eql\/a = .neq:=by first|exact .inl rfl|exact .inr rfl)(E:s1.ev x = .v v:=by simp only[go_sem,ff];first|done|exact rfl):aA P ro ops i b s Q:=Zgv k y z9 r ht c E hv hk
def gcapE(kk:Nat)(hE : ∀g w,s1.e.p g w->(Env.capLt r kk).p g w)(hk : ∀c:Nat,len<=c->off+c<kk->aA P ro ops (k+1) b { n:=s1.n,t:=s1.put o.dst (.i c),h:=s1.h,nx:=s1.nx,ok:=True,e:=Env.lim s1.e r (off+c) } Q)(z9:eG P C ops i k o b s s1:=by exact pos)(a:o.op = .call { callee:=.builtin .cap,args:=#[x],argTypes:=#[t] }:=by exact rfl)(ht:P.underlying t=some (.slice e):=by kernel_rfl)(E:s1.ev x = .mrow r off len:=by simp only[go_sem,ff];first|done|exact rfl)(hr:s1.h r=some ⟨e,rows⟩:=by simp only[go_sem,ff];first|done|exact rfl):aA P ro ops i b s Q:=ZgC k z9 a ht hE E hr hk
def gcapQ{c:Nat}(hE:s1.e=Env.lim E r c)(hk:aA P ro ops (k+1) b { n:=s1.n,t:=s1.put o.dst (.i (c-off:Nat)),h:=s1.h,nx:=s1.nx,ok:=True,e:=s1.e } Q)(z9:eG P C ops i k o b s s1:=by exact pos)(a:o.op = .call { callee:=.builtin .cap,args:=#[x],argTypes:=#[t] }:=by exact rfl)(ht:P.underlying t=some (.slice e):=by kernel_rfl)(f:s1.ev x = .mrow r off len:=by simp only[go_sem,ff];first|done|exact rfl)(hr:s1.h r=some ⟨e,rows⟩:=by simp only[go_sem,ff];first|done|exact rfl):aA P ro ops i b s Q:=ZgB k z9 a ht hE f hr hk
def gmkC(n m:Nat)(f:0<n)(w:n<=m)(a:(m:Int)<=9223372036854775807)(I:P.bytesOf e*(m:Int)<=281474976710656)(hk:aA P ro ops (k+1) b { n:=s1.n,t:=s1.put o.dst (.mrow (b+k) 0 n),h:=upd s1.h (b+k) (some ⟨e,List.replicate m (zeroCells P e)⟩),nx:=s1.nx,ok:=True,e:=s1.e } Q)(z9:eG P C ops i k o b s s1:=by exact pos)(r:o.op = .makeSlice t x y:=by exact rfl)(ht:P.underlying t=some (.slice e):=by kernel_rfl)(c:eH P e=true:=by kernel_rfl)(g:(zeroCells P e).length=P.cellsOf e:=by kernel_rfl)(j:(zeroCells P e).all D.one=true:=by kernel_rfl)(p:0<P.cellsOf e:=by exact YP (by kernel_rfl))(E:s1.ev x = .i n:=by simp only[go_sem,ff];first|done|exact rfl)(u:s1.ev y = .i m:=by simp only[go_sem,ff];first|done|exact rfl):aA P ro ops i b s Q:=Zgu k z9 r ht I c g j p E u f w a hk
end
theorem dw_to{c:Code}(fx:List (Nat×D))(h2:H)(r a:Nat)(g:Env)(h:DW P ro c Q { n:=r,t:=tab fx,h:=h2,nx:=a,e:=g })(f:fx.map (λp=>s.t p.1)=fx.map Prod.snd:=by rfl)(hh:s.h=h2:=by rfl)(hn:s.n=r:=by rfl)(E:s.nx=a:=by rfl)(J:s.e=g:=by rfl):DW P ro c Q s:=by
 subst hh;subst hn;subst E;subst J;have O : ∀l:List (Nat×D),l.map (λp=>s.t p.1)=l.map Prod.snd -> ∀p∈l,s.t p.1=p.2:=by
  intro l;induction l with
  | nil=>intro _ p F;cases F
  | cons q l k =>
   intro e p F;simp only[X7,Y0]at e;rcases Yl.1 F with rfl|F
   . exact e.1
   exact k e.2 p F
 exact QG fx s.h s.nx (λp F=>Or.inl (O fx f p F)) (λ_=>.inl rfl) (XW _) h
theorem iq{A:S->Prop}:thenS A Q (.panic c) s=Q (.panic c) s:=rfl
theorem iG{i:Nat}:Gf i Q (.panic c) s=Q (.panic c) s:=rfl
def F3{n':Nat}{e:Exit}(J:e = .normal\/e = .ret)(h':H)(hn:s.nx<=n':=by first|exact XW _|omega)(hr:R (tK P fn.results.toList s) h' n':=by(try simp only[go_sem,ff]);all_goals simp)(hh : ∀r,h' r=s.h r\/h' r=none:=by exact λ_=>.inl rfl)(p:rP P s fn.results.toList:=by simp only[go_sem,ff]):RB P fn R X e s:=by rcases J with rfl|rfl<;>exact⟨p,h',n',hh,hn,hr⟩
def jJ{n':Nat}(h':H)(E:X c h' n')(hn:s.nx<=n':=by first|exact XW _|omega)(hh : ∀r,h' r=s.h r\/h' r=none:=by exact λ_=>.inl rfl):RB P fn R X (.panic c) s:=⟨h',n',hh,hn,E⟩
def Zgs{i:Nat}(k:Nat){j:TypeId}{m n v:Int}(hv:q.wrap (m*n)=v)(z9:eG P C ops i k o b s s1)(r:o.op = .binOp .mul t x y j)(hq:q.signed=false)(E:s1.ev x = .v (.int q m))(p:s1.ev y = .v (.int q n))(hk:aA P ro ops (k+1) b { n:=s1.n,t:=s1.put o.dst (.v (.int q v)),h:=s1.h,nx:=s1.nx,ok:=True,e:=s1.e } Q):aA P ro ops i b s Q:=by let⟨R,u,M,z,G,A⟩:=z9;refine E8 (C:=C) k (.v (.int q v)) (.int q v) R u M (λc e=>by rw[r]at e;cases e) z G A (λB g a w f=>?_) hk;have J:=bT f x;rw[E]at J;have J:=J.v_inv;have Y:=bT f y;rw[p]at Y;have Y:=Y.v_inv;refine⟨?_,.v _⟩;let⟨F,I,K,op,L,og⟩:=o;simp only at r;subst r;simp[execOp,J,Y,eqGuard,binOp,Op.intArith,hv]
section
variable [Glob P] (C : aO) {s s1 : S} {ops : Array Oper} {i b : Nat} {o : Oper} (k : Nat)
def gmulu{a:TypeId}{m n v:Int}(hv:q.wrap (m*n)=v)(hk:aA P ro ops (k+1) b { n:=s1.n,t:=s1.put o.dst (.v (.int q v)),h:=s1.h,nx:=s1.nx,ok:=True,e:=s1.e } Q)(z9:eG P C ops i k o b s s1:=by exact pos)(r:o.op = .binOp .mul t x y a:=by exact rfl)(hq:q.signed=false:=by rfl)(E:s1.ev x = .v (.int q m):=by simp only[go_sem,ff];first|done|exact rfl)(c:s1.ev y = .v (.int q n):=by simp only[go_sem,ff];first|done|exact rfl):aA P ro ops i b s Q:=Zgs k hv z9 r hq E c hk
end
def Zgr{i:Nat}(k:Nat){j:Nat}(R:i<=k)(z:ops[k]? = some o)(M:o.guard=none)(f:o.op = .nilCheck x)(A:bu P (words P) C ops.toList b i ((ops.toList.drop i).take (k-i)) s=s1)(hok:s1.ok)(m:dN s1.n o.dst=true)(E:s1.ev x = .mptr r j off)(hk:aA P ro ops (k+1) b { n:=s1.n,t:=s1.put o.dst (.mptr r j off),h:=s1.h,nx:=s1.nx,ok:=True,e:=s1.e } Q):aA P ro ops i b s Q:=by
 refine jP (C:=C) k (λu I=>u = .mptr r j off/\I=s1.h) R z M (λc e=>by rw[f]at e;cases e) A hok m (λB g a w y _=>?_) (λd I⟨F,G⟩=>by subst F;subst G;exact hk);have J:=bT y x;rw[E]at J;have Y:=J;generalize K:a.eval x=v at Y;cases Y with|mptr _ _ _ _ L _ _ =>
 obtain⟨p,rfl⟩:=L;refine⟨_,_,⟨rfl,rfl⟩,_,g,w,.inl ?_,J,y.mem,ay.refl _ _,λr O=>.inl O⟩;let⟨N,T,U,op,V,og⟩:=o;simp only at f;subst f;simp[execOp,K]
def Zgj{i:Nat}(k:Nat){c d:D}(R:i<=k)(N:ops[k]? = some o)(M:o.guard=none)(f:o.op = .store t x y)(J:bu P (words P) C ops.toList b i ((ops.toList.drop i).take (k-i)) s=s1)(hok:s1.ok)(m:dN s1.n o.dst=true)(E:s1.ev x = .mptr r 0 0)(A:s1.ev y=d)(hr:s1.h r=some ⟨e,[[c]]⟩)(ht:P.cellsOf t=1)(j:d.cells=[d])(h1:d.one=true)(hk:aA P ro ops (k+1) b { n:=s1.n,t:=s1.put o.dst (.v undef),h:=upd s1.h r (some ⟨e,[[d]]⟩),nx:=s1.nx,ok:=True,e:=s1.e } Q):aA P ro ops i b s Q:=by
 have z:(lS P t (.mptr r 0 0) d s1.h).1=upd s1.h r (some ⟨e,[[d]]⟩):=by unfold lS;simp only[hr,j];rfl
 refine jP (C:=C) k (λu I=>u = .v undef/\I=upd s1.h r (some ⟨e,[[d]]⟩)) R N M (λc e=>by rw[f]at e;cases e) J hok m (λB g a w v _=>?_) (λd I⟨A,p⟩=>by subst A;subst p;exact hk);have F:=bT v x;rw[E]at F;have W:=bT v y;rw[A]at W;let⟨L,T,G,K,Y,O⟩:=Ti (t:=t) v.mem F W (by unfold lS;simp only[hr,j];exact⟨by simp[ht],om,by simp,by simp,by simp[h1]⟩);rw[z]at K;refine⟨_,_,⟨rfl,rfl⟩,undef,L,T,.inr ⟨?_,rfl⟩,.v _,K,Y,λr hr=>.inl (O r hr)⟩;let⟨U,V,X,op,Z,og⟩:=o;simp only at f;subst f;simp[execOp,G]
section
variable [Glob P] (C : aO) {s s1 : S} {ops : Array Oper} {i b : Nat} {o : Oper} (k : Nat)
def gnilc{j:Nat}(hk:aA P ro ops (k+1) b { n:=s1.n,t:=s1.put o.dst (.mptr r j off),h:=s1.h,nx:=s1.nx,ok:=True,e:=s1.e } Q)(R:i<=k:=by omega)(c:ops[k]? = some o:=by exact dP rfl)(M:o.guard=none:=by exact rfl)(a:o.op = .nilCheck x:=by exact rfl)(J:bu P (words P) C ops.toList b i ((ops.toList.drop i).take (k-i)) s=s1:=by first|rfl|(simp only[X9,X4,X5,Yf,S.put,Yq,Nat.reduceSub,go_sem,ff];first|done|exact rfl))(hok:s1.ok:=by(try simp only[go_sem,ff]);all_goals exact ok0)(m:dN s1.n o.dst=true:=by(try simp only[go_sem,ff]);all_goals (first|done|rfl|decide|simp))(E:s1.ev x = .mptr r j off:=by first|rfl|(simp only[go_sem,ff];first|done|exact rfl)):aA P ro ops i b s Q:=Zgr k R c M a J hok m E hk
def gst1{c d:D}(hk:aA P ro ops (k+1) b { n:=s1.n,t:=s1.put o.dst (.v undef),h:=upd s1.h r (some ⟨e,[[d]]⟩),nx:=s1.nx,ok:=True,e:=s1.e } Q)(R:i<=k:=by omega)(f:ops[k]? = some o:=by exact dP rfl)(M:o.guard=none:=by exact rfl)(a:o.op = .store t x y:=by exact rfl)(J:bu P (words P) C ops.toList b i ((ops.toList.drop i).take (k-i)) s=s1:=by first|rfl|(simp only[X9,X4,X5,Yf,S.put,Yq,Nat.reduceSub,go_sem,ff];first|done|exact rfl))(hok:s1.ok:=by(try simp only[go_sem,ff]);all_goals exact ok0)(m:dN s1.n o.dst=true:=by(try simp only[go_sem,ff]);all_goals (first|done|rfl|decide|simp))(E:s1.ev x = .mptr r 0 0:=by first|rfl|(simp only[go_sem,ff];first|done|exact rfl))(g:s1.ev y=d:=by first|rfl|(simp only[go_sem,ff];first|done|exact rfl))(hr:s1.h r=some ⟨e,[[c]]⟩:=by first|(simp only[bI];done)|(simp only[go_sem,ff];first|done|exact rfl))(ht:P.cellsOf t=1:=by kernel_rfl)(j:d.cells=[d]:=by rfl)(h1:d.one=true:=by rfl):aA P ro ops i b s Q:=Zgj k R f M a J hok m E g hr ht j h1 hk
def gend(C:aO)(hq:Q .normal s.clear)(hi:i=ops.size:=by rfl)(hok:s.ok:=by trivial)(hn:s.nx=b+ops.size:=by rfl):aA P ro ops i b s Q:=by subst hi;exact yw (C:=C) (XW _) (by rw[List.drop_of_length_le (by simp)];rfl) hok hn hq
end
variable{B:dn}
def ZgF{i:Nat}(k:Nat){p:BinOp}{A:TypeId}{j u:Value}(hv:(fP P t p j u).1=v)(hp:(fP P t p j u).2)(z9:eG P C ops i k o b s s1)(r:o.op = .binOp p t x y A)(E:s1.ev x = .v j)(F:s1.ev y = .v u)(hk:aA P ro ops (k+1) b { n:=s1.n,t:=s1.put o.dst (.v v),h:=s1.h,nx:=s1.nx,ok:=True,e:=s1.e } Q):aA P ro ops i b s Q:=by
 let⟨R,I,M,K,G,m⟩:=z9;refine E8 (C:=C) k (.v v) v R I M (λc e=>by rw[r]at e;cases e) K G m (λB g a w f=>?_) hk;have J:=bT f x;rw[E]at J;have J:=J.v_inv;have Y:=bT f y;rw[F]at Y;have Y:=Y.v_inv;have z:=Zci hp x y w;rw[hv]at z;refine⟨?_,.v _⟩;let⟨L,T,N,op,O,og⟩:=o;simp only at r;subst r;rw[<-J,<-Y]at z;have:execOp a.eval ⟨L,.binOp p t x y A,N,op,O,og⟩=(do let v <-(do eqGuard p t x y (a.eval x) (a.eval y);binOp p t (a.eval x) (a.eval y):Sem Value);return .value v):=by simp[execOp]
 rw[this,Sem.run_bind,z];rfl
section
variable [Glob P] (C : aO) {ro : Option Nat} {Q : Exit -> S -> Prop} {s sq : S} {ops : Array Oper} {id : Nat} {y : Code}
def gbin{i:Nat}(k:Nat){p:BinOp}{f:TypeId}{y:Operand}{a c:Value}(v:Value)(hk:aA P ro ops (k+1) b { n:=s1.n,t:=s1.put o.dst (.v v),h:=s1.h,nx:=s1.nx,ok:=True,e:=s1.e } Q)(z9:eG P C ops i k o b s s1:=by exact pos)(r:o.op = .binOp p t x y f:=by exact rfl)(E:s1.ev x = .v a:=by simp only[go_sem,ff];first|done|exact rfl)(g:s1.ev y = .v c:=by simp only[go_sem,ff];first|done|exact rfl)(hv:(fP P t p a c).1=v:=by rfl)(hp:(fP P t p a c).2:=by trivial):aA P ro ops i b s Q:=ZgF k hv hp z9 r E g hk
end
theorem AR{a b:Option dE}:upd (upd h r a) r b=upd h r b:=by funext q;unfold upd;split<;>rfl
variable{F:D->H->Nat->S}
structure ZcG(C:aO)(ops:Array Oper)(k1 k3 k2:Nat):Prop where
 lt:k1<k3
 le3:k3<=k2
 le:k2<=ops.size
 back : ∀(i:Nat)o,ops.toList[i]? = some o -> ∀e∈o.after.toList,Region.binds .any e=true->e.on<i
 ord : ∀i,k2<=i->i<ops.size -> ∀j,j<i->((eF ops.toList []).getD i 0).testBit j=true
 quiet : ∀(i:Nat)o,i<k3->i≠k1->((eF ops.toList []).getD k1 0).testBit i=false->ops.toList[i]? = some o->uH C o=true
 wait : ∀i,k3<=i->i<k2->((eF ops.toList []).getD i 0).testBit k1=true
 comm : ∀(i j:Nat)x y,i<k2->j<i->i≠k1->j≠k1->ops.toList[j]? = some x->ops.toList[i]? = some y->((eF ops.toList []).getD i 0).testBit j=true\/nk C ops.toList x y=true
 call : ∀(i:Nat)x y,i<k3->i≠k1->ops.toList[i]? = some x->ops.toList[k1]? = some y->((eF ops.toList []).getD k1 0).testBit i=true\/iL ops.toList x y=true
 late : ∀(i j:Nat)x y,i<=j->j<k3->i≠k1->j≠k1->ops.toList[i]? = some x->ops.toList[j]? = some y -> ∀z∈looks ops.toList x,y.dst≠some z
theorem Zej{k1 Y k2:Nat}{F:Array Bool}(h1:k1<Y)(h2:Y<=k2)(h3 : ∀j,Y<=j->F.getD j false=false):dS k1 k2 F=dS k1 Y F++List.range' Y (k2-Y):=by
 have e:List.range k2=List.range Y++List.range' Y (k2-Y):=by
  rw[Zg,Zg];have:k2=Y+(k2-Y):=by omega
  conv=>lhs;rw[this]
  rw[<-Zo];simp
 unfold dS;rw[e,List.filter_append];congr 1;refine Y1.2 λj A=>?_;simp only[List.mem_range'_1]at A;rw[h3 j A.1];simp;omega
theorem ZeZ{k1 Y k2:Nat}{Q:Exit->Act->World->Prop}{w0:World}{g0:Mem}{sq:S}(Dc:ZcG C ops k1 Y k2){o1:Oper}{aD xs:List D}(ho:ops[k1]? = some o1)(am:o1.op = .call { callee:=.value f,args:=args,argTypes:=ts })(hg:o1.guard=none)(hd:dN sq.n o1.dst=true)(hf:sq.ev f = .fn (.func aY) first aD)(b9:(args.toList.map sq.ev).all sg=true)(hx:(args.toList.map sq.ev).map sd=xs)(hct:pW P aY (first++xs++aD) sq.h (b+k2) R X)(hok:sq.ok)(ca : ∀res h' n',R res h' n' -> ∀(i:Nat)o,i<Y->i≠k1->((eF ops.toList []).getD k1 0).testBit i=false->ops.toList[i]? = some o ->
   aJ P (words P) C ops.toList b i o sq.n sq.ev sq.t h'=((aJ P (words P) C ops.toList b i o sq.n sq.ev sq.t sq.h).1,h',(aJ P (words P) C ops.toList b i o sq.n sq.ev sq.t sq.h).2.2))(hF : ∀res h' n',R res h' n'->(List.range' Y (k2-Y)).foldl (bF P (words P) C ops.toList n') { n:=sq.n,t:=sq.put o1.dst res,h:=h',nx:=n'+ops.size,ok:=True,e:=sq.e }=F res h' n'/\(F res h' n').ok)(hQ : ∀res h' n',R res h' n' -> ∀g' a' T,St P B (F res h' n') g' a' T->ay g0 g' w0 T->(∀r,g'.U r->r<n'+k2)->wpOpsIn (Fw ro) n P ops Q (List.range' k2 (ops.size-k2)) a' T)(hp : ∀c h' n',X c h' n' -> ∀(t:Nat->D)g' a' T,St P B { n:=sq.n,t:=t,h:=h',nx:=n',ok:=True,e:=sq.e } g' a' T->ay g0 g' w0 T->(∀r,g'.U r->r<n')->Q (.panic c) a' T) :
  ∀(I:Nat)(p:Array Bool)(s:S)(g:Mem)(a:Act)(w:World),p.size=ops.size->p.getD k1 false=false->(∀j,Y<=j->p.getD j false=false)->(dS k1 Y p).length+(k2-Y)+1+(ops.size-k2)<=I->Closed ops p ->
   St P B s g a w->ay g0 g w0 w->(∀r,g.U r->r<b \/ ∃j,p.getD j false=true/\j<Y/\r=b+j)->(dS k1 Y p).foldl (bF P (words P) C ops.toList b) s=sq ->
   wpAnyIn (Fw ro) n P .any ops Q I p a w:=by
 intro I;have cq:=Dc.le;have bb:=Dc.lt;have be:=Dc.le3;induction I with
 | zero=>intro p s g a w E ac U cb;omega
 | succ I ih =>
  intro p s g a w E ac U cb hX hs hm Z ab;refine⟨λO=>?_,λi hi=>?_⟩
  . exfalso;have:=UX E Dc.back O k1 om;rw[ac]at this;cases this
  let⟨K,yQ,uT⟩:=(yA E).1 hi;have cg:i<k2:=by
   by_cases q:i<k2
   . exact q
   exfalso;have:=AL (L:=ops.toList) (X:=λk=>p.getD k false=true) hX i ops[i] (by simp[K]) uT k1 (Dc.ord i om K k1 om);rw[ac]at this;cases this
  have bh:i<Y:=by
   by_cases q:i<Y
   . exact q
   exfalso;have:=AL (L:=ops.toList) (X:=λk=>p.getD k false=true) hX i ops[i] (by simp[K]) uT k1 (Dc.wait i om cg);rw[ac]at this;cases this
  by_cases N:i=k1
  .
   subst N;have ch:ops.toList[i]? = some o1:=by rw[Zf];exact ho
   have cr:ops[i]=o1:=by
    have:ops[i]? = some ops[i]:=by simp[K]
    rw[ho]at this;exact(Zu this).symm
   have Ad : ∀j∈dS i Y p,∀x,ops.toList[j]? = some x->((eF ops.toList []).getD i 0).testBit j=false/\iL ops.toList x o1=true:=by
    intro j A x aw;let⟨j1,j2,j3⟩:=mO.1 A;have bm:((eF ops.toList []).getD i 0).testBit j=false:=by
     cases q:((eF ops.toList []).getD i 0).testBit j with
     | false=>rfl
     | true =>
      have:=AL (L:=ops.toList) (X:=λk=>p.getD k false=true) hX i ops[i] (by simp[K]) uT j q;rw[j3]at this;cases this
    rcases Dc.call j x o1 j1 j2 aw ch with h|h
    . rw[bm]at h;cases h
    exact⟨bm,h⟩
   have aq:=LQ (P:=P) (W:=words P) (C:=C) (L:=ops.toList) (b:=b) (y:=o1) (dS i Y p) s λj A x aw=>(Ad j A x aw).2;rw[ab,am]at aq;simp only[aU,X7,Y0]at aq;have Pz:sq.h=s.h:=by rw[<-ab];exact LU _ _ λj A o ho=>Dc.quiet j o (mO.1 A).1 (mO.1 A).2.1 (Ad j A o ho).1 ho
   have FO:sq.n=s.n/\sq.e=s.e:=by rw[<-ab];exact IQ _ _
   rw[Pz]at hct;rw[aq.2]at b9 hx;have ci:s.ev f = .fn (.func aY) first aD:=by rw[<-aq.1];exact hf
   have eP : ∀r,g.U r->r<b+k2:=λr O=>by rcases Z r O with h|⟨j,_,h,rfl⟩<;>omega
   unfold wpOpIn;rw[ho];simp only;have hw:Region.wanted o1 (yielded ops a.tmps)=true:=by simp[Region.wanted,hg]
   rw[X0 hw];have bp : ∀c,o1.op ≠ .defer c:=by intro c e;rw[e]at am;cases am
   have kz:o1.semAt (Fw ro).round a.eval=execOp a.eval o1:=Oper.semAt_eq _ _ _ bp;refine⟨λ_ _=>trivial,?_⟩;rw[kz];let⟨cj,hct⟩:=hct;have b7:=bT hs f;rw[ci]at b7;have fK:=ym (xP hs args.toList) b9;rw[hx]at fK;generalize u:a.eval f=vf at b7;cases b7 with|fn _ _ _ fs M l1 l2 r1 r2 =>
   have br:(execOp a.eval o1).run P w = .ok (.enter aY (fs++args.map a.eval++M)) w:=by simp[execOp,am,resolve,Deferred.ofValue,u,invoke,xX cj]
   rw[br,Oper.uponIn_enter];have e:fs++args.map a.eval++M=(fs.toList++args.toList.map a.eval++M.toList).toArray:=by apply Zr;simp
   rw[e];refine⟨λh=>by simp[Fw,Fence.wide]at h,AA ((hct w g _ hs.mem eP (aF.append (aF.append ⟨by simpa using l1,λi d x J h2=>r1 i d x J (by simpa using h2)⟩ fK) ⟨by simpa using l2,λi d x J h2=>r2 i d x J (by simpa using h2)⟩)).mono ?_)⟩;rintro e T ⟨g',h',n',q2,q3,q4,⟨v,res,hR,rfl,q1⟩|⟨c,cl,rfl⟩⟩
   .
    have G:=nL hs q3 q2 (show dN s.n o1.dst=true by rw[<-FO.1];exact hd) q1 True;have b8:dS i Y (p.setIfInBounds i true)=dS i Y p:=by
     unfold dS;refine Z5 λk _=>?_;rw[getD_set (by omega) k];by_cases e:k=i
     . simp[e]
     have e2:(k==i)=false:=by simpa using e
     rw[e2,ZT]
    have sD:(dS i Y p).Pairwise (· < ·):=Z6 _ ZW;have qM:=L6 (P:=P) (W:=words P) (C:=C) (L:=ops.toList) (b:=b) (b':=n') (m:=n'+ops.size) (d:=o1.dst) (res:=res) (h':=h') (sq:=sq) (dS i Y p) s sD (λj A o ar=>by let⟨j1,j2,j3⟩:=mO.1 A;let⟨v3,k4⟩:=Ad j A o ar;refine⟨Dc.quiet j o j1 j2 v3 ar,λz V=>?_,λm hm cm y hy=>Dc.late j m o y cm (mO.1 hm).1 j2 (mO.1 hm).2.1 ar hy,ca res h' n' hR j o j1 j2 v3 ar⟩;simp only[iL,XU,V]at k4;refine⟨by simpa using k4.2,λe=>?_⟩;have:=k4.1;rw[e]at this;simp at this) ab hok
    have bw : ∀j,Y<=j->(p.setIfInBounds i true).getD j false=false:=λj A=>by
     rw[getD_set (by omega),U j A];have:(j==i)=false:=by simp;omega
     rw[this];rfl
    have bx:dS i k2 (p.setIfInBounds i true)=dS i Y p++List.range' Y (k2-Y):=by rw[Zej bb be bw,b8]
    let⟨co,cp⟩:=hF res h' n' hR;refine Ny (B:=B) (g0:=g0) (w0:=w0) (b:=n') (k1:=i) (k2:=k2) (fin:=F res h' n') Dc.le Dc.back Dc.ord Dc.comm I (p.setIfInBounds i true) { n:=s.n,t:=s.put o1.dst res,h:=h',nx:=n'+ops.size,ok:=True,e:=s.e } g' _ T (by simp[E]) (λ_=>by rw[getD_set (by omega)];simp) (λj A=>bw j (by omega)) (by rw[bx,X3,List.length_range'];omega) (hX.set E hi)
     ⟨G.sz,G.tm,G.mem,G.df,G.en,G.bd⟩ (hm.trans q3) (λr O=>.inl (q4 r O)) (by rw[bx,Za,qM];exact co) cp (hQ res h' n' hR)
   have G:=nL (dst:=none) hs q3 q2 rfl (.junk undef) True;exact hp c h' n' cl s.t g' _ T (by rw[FO.1,FO.2];exact⟨G.sz,G.tm,G.mem,G.df,G.en,G.bd⟩) (hm.trans q3) q4
  refine Oi om (λi j x y q1 q2=>Dc.comm i j x y om q2) E hX hs Z ab hok hi bh N λg' a' T s' q1 q2 q3 q4 q5=>?_;refine ih _ s' g' a' T (by simp[E]) (by rw[getD_set (by omega),ac];simp;exact λh=>N h.symm) (λj A=>?_) (by omega) (hX.set E hi) q1 (hm.trans q2) q3 q4;rw[getD_set (by omega),U j A];have:(j==i)=false:=by simp;omega
  rw[this];rfl
def Jc(C:aO)(L:List Oper)(k1 Y k2:Nat):Bool :=
 decide (k1<Y)&&decide (Y<=k2)&&decide (k2<=L.length)&&qX L
 && ((List.range L.length).all λi=>decide (i<k2)||(List.range i).all λj=>((eF L []).getD i 0).testBit j)
 && ((List.range k2).all λi=>decide (i<Y)||((eF L []).getD i 0).testBit k1)
 && ((List.range Y).all λi=>i==k1||((uH C (L.getD i default)||((eF L []).getD k1 0).testBit i)&&(((eF L []).getD k1 0).testBit i||iL L (L.getD i default) (L.getD k1 default))))
 && ((List.range k2).all λi=>i==k1||(List.range i).all λj=>j==k1||((eF L []).getD i 0).testBit j||nk C L (L.getD j default) (L.getD i default))
 && ((List.range Y).all λj=>j==k1||(List.range (j+1)).all λi=>i==k1||match(L.getD j default).dst with
  | none=>true
  | some d=>!(looks L (L.getD i default)).contains d)
def Znl{k1 Y k2:Nat}(h:Jc C ops.toList k1 Y k2=true):ZcG C ops k1 Y k2:=by
 unfold Jc at h;simp only[XU,XY]at h;let⟨⟨⟨⟨⟨⟨⟨⟨J,f⟩,v⟩,g⟩,r⟩,u⟩,U⟩,T⟩,W⟩:=h;have a : ∀(i:Nat)o,ops.toList[i]? = some o->ops.toList.getD i default=o:=λi o t=>by simp only[List.getD,t,YV]
 simp only[YA,Zk,Yc,XU,YF,XY]at r U W u T;refine⟨J,f,by simpa using v,?_,?_,?_,?_,?_,?_,?_⟩
 .
  intro i o t e w p;unfold qX at g;simp only[YA,Zk,Yc,Ya,XY]at g;have:=g i (X8.1 t).1 e (by rw[a i o t];exact w);rcases this with h|h
  . rw[p]at h;cases h
  exact h
 .
  intro i hi k j A;rcases r i (by simpa using k)with h|h
  . omega
  exact h j A
 .
  intro i o hi N m t;rcases U i hi with h|h
  . exact absurd h N
  have:=h.1;rw[a i o t,m]at this;exact this.resolve_right (by simp)
 .
  intro i hi k;rcases u i k with h|h
  . omega
  exact h
 .
  intro i j x y hi A N n E c;rcases T i hi with h|h
  . exact absurd h N
  rcases h j A with(h|h)|h
  . exact absurd h n
  . exact .inl h
  rw[a j x E,a i y c]at h;exact .inr h
 .
  intro i x y hi N E c;rcases U i hi with h|h
  . exact absurd h N
  have:=h.2;rw[a i x E,a k1 y c]at this;exact this
 intro i j x y B A N n E c z V e;rcases W j A with h|h
 . exact absurd h n
 rcases h i om with h|h
 . exact absurd h N
 rw[a i x E,a j y c,e]at h;simp at h;exact h V
def Za9{sq:S}{id:Nat}(k1 Y k2:Nat){A:Oper}{aD xs:List D}(R:D->H->Nat->Prop)(X:List PanicEntry->H->Nat->Prop)(pK:P.follows .mixedOrders=true)(hD:Jc C ops.toList k1 Y k2=true)(ho:ops[k1]? = some A)(J:A.op = .call { callee:=.value f,args:=args,argTypes:=ts })(M:A.guard=none)(y:((List.range Y).filter (· != k1)).foldl (bF P (words P) C ops.toList s.nx) s=sq)(hok:sq.ok)(m:dN sq.n A.dst=true)(hf:sq.ev f = .fn (.func aY) first aD)(U:(args.toList.map sq.ev).all sg=true)(E:(args.toList.map sq.ev).map sd=xs)(hct:pW P aY (first++xs++aD) sq.h (s.nx+k2) R X)(V : ∀res h' n',R res h' n' -> ∀(i:Nat)o,i<Y->i≠k1->((eF ops.toList []).getD k1 0).testBit i=false->ops.toList[i]? = some o ->
   aJ P (words P) C ops.toList s.nx i o sq.n sq.ev sq.t h'=((aJ P (words P) C ops.toList s.nx i o sq.n sq.ev sq.t sq.h).1,h',(aJ P (words P) C ops.toList s.nx i o sq.n sq.ev sq.t sq.h).2.2))(hF : ∀res h' n',R res h' n'->bu P (words P) C ops.toList n' Y ((ops.toList.drop Y).take (k2-Y)) { n:=sq.n,t:=sq.put A.dst res,h:=h',nx:=n'+ops.size,ok:=True,e:=sq.e }=F res h' n')(BX : ∀res h' n',R res h' n'->(F res h' n').ok)(ab : ∀res h' n',R res h' n'->(F res h' n').e=sq.e)(hk : ∀res h' n',R res h' n'->aA P ro ops k2 n' (F res h' n') Q)(hp : ∀c h' n',X c h' n' -> ∀t,Q (.panic c) { n:=sq.n,t:=t,h:=h',nx:=n',ok:=True,e:=sq.e }):DW P ro (.region id ops true) Q s:=by
 intro B g a w N Z;refine wpIn_region_any pK ?_;let⟨ac,am⟩:=Mq N;have I:=Znl hD;have K:=I.lt;have ar:=I.le3;have b7:=I.le;have u : ∀i,(Array.replicate ops.size false).getD i false=false:=by intro i;by_cases h:i<ops.size<;>simp[Array.getD,h]
 have v:dS k1 Y (Array.replicate ops.size false)=(List.range Y).filter (· != k1):=by unfold dS;exact Z5 λi _=>by rw[u];simp
 have aw:(dS k1 Y (Array.replicate ops.size false)).length<Y:=by rw[v];have:=(List.length_filter_lt_length_iff_exists (p:=λx=>x != k1) (l:=List.range Y)).2 ⟨k1,by simpa using K,by simp⟩;simpa using this
 have z:sq.e=s.e:=by rw[<-y];exact(IQ _ _).2
 refine ZeZ (B:=B) (C:=C) (g0:=g) (w0:=w) (b:=s.nx) (n:=0) (F:=F) I ho J M m hf U E hct hok V (λres h' n' G=>⟨?_,BX res h' n' G⟩) (λres h' n' G L a' T q1 W k=>?_) (λc h' n' aq t L a' T q1 W k=>⟨_,L,hp c h' n' aq t,q1,by rw[<-z];exact W.toX,k,by rw[<-z]⟩) ops.size _ s g a _ (by simp) (u k1) (λj _=>u j) (by omega) (λi o _ hi=>by rw[u]at hi;cases hi) ac am (λr O=>.inl (Z r O)) (by rw[v];exact y)
 . rw[<-hF res h' n' G];exact(Mf (k2-Y) Y _ (by simp;omega)).symm
 have:=hk res h' n' G B g L a' w T q1 W k;simp only[ab res h' n' G,z]at this;exact this
def Ut{i:Nat}(h:aA P ro ops i b { n:=s.n,t:=s.t,h:=s.h,nx:=s.nx,ok:=True,e:=s.e } Q):aA P ro ops i b s Q :=
 λB c g a f w N v Z=>h B c g a f w ⟨N.sz,N.tm,N.mem,N.df,N.en,N.bd⟩ v Z
section
variable [Glob P] (C : aO) {ro : Option Nat} {Q : Exit -> S -> Prop} {s sq : S} {ops : Array Oper} {id : Nat} {y : Code}
def dr1L(k1 Y k2:Nat)(z:List (Nat×Nat)){k:Oper}{B:Array TypeId}{A xs:List D}(G:P.follows .mixedOrders=true:=by exact zQ)(J:Jc C ops.toList k1 Y k2=true:=by kernel_rfl)(v:IR C ops.toList k1 Y z=true:=by kernel_rfl)(w:ops[k1]? = some k:=by exact dP rfl)(x:k.op = .call { callee:=.value f,args:=args,argTypes:=B }:=by exact rfl)(M:k.guard=none:=by exact rfl)(u:((List.range Y).filter (· != k1)).foldl (bF P (words P) C ops.toList s.nx) s=sq:=by exact KA (by decide) (by decide) o0X o0X)(hok:sq.ok:=by(try simp only[go_sem,ff]);all_goals exact ok0)(m:dN sq.n k.dst=true:=by(try simp only[go_sem,ff]);all_goals (first|done|rfl|decide|simp))(a:sq.ev f = .fn (.func aY) first A:=by simp only[go_sem,ff];first|done|exact rfl)(y:(args.toList.map sq.ev).all sg=true:=by simp only[go_sem,ff])(E:(args.toList.map sq.ev).map sd=xs:=by simp only[go_sem,ff];first|done|exact rfl)(hct:pW P aY (first++xs++A) sq.h (s.nx+k2) R X)(hkeep : ∀j I g,R j I g -> ∀p∈z,∀r,named r (sd (sq.t p.2))=true->I r=sq.h r)(BX : ∀j I g,R j I g->(bu P (words P) C ops.toList g Y ((ops.toList.drop Y).take (k2-Y)) { n:=sq.n,t:=sq.put k.dst j,h:=I,nx:=g+ops.size,ok:=True,e:=sq.e }).ok)(hk : ∀j I g,R j I g->aA P ro ops k2 g (bu P (words P) C ops.toList g Y ((ops.toList.drop Y).take (k2-Y)) { n:=sq.n,t:=sq.put k.dst j,h:=I,nx:=g+ops.size,ok:=True,e:=sq.e }) Q)(hp : ∀c I g,X c I g -> ∀t,Q (.panic c) { n:=sq.n,t:=t,h:=I,nx:=g,ok:=True,e:=sq.e }):DW P ro (.region id ops true) Q s :=
 (Za9 (F:=λj I g=>(bu P (words P) C ops.toList g Y ((ops.toList.drop Y).take (k2-Y)) { n:=sq.n,t:=sq.put k.dst j,h:=I,nx:=g+ops.size,ok:=True,e:=sq.e })) k1 Y k2 R X G J w x M u hok m a y E hct (λj I g O i o hi N K w=>Qq v (hkeep j I g O) i o hi N K w) (λ_ _ _ _=>rfl) BX (λ_ _ _ _=>wo _ _ _ _ _) hk hp)
def gto{i:Nat}(hk:aA P ro ops i b { n:=s1.n,t:=s1.t,h:=s1.h,nx:=s1.nx,ok:=True,e:=s1.e } Q)(J:s=s1:=by simp only[X9,X4,X5,Yf,S.put,Yq,Nat.reduceSub,Nat.reduceAdd,go_sem,ff];first|done|exact rfl):aA P ro ops i b s Q:=by subst J;exact Ut hk
end
end Go.DL
namespace Go.Proofs.YtjhhnhgflmkenaaGreatDoor
open Go.Proofs.Tryz
open Go.DL Go.Str Go.Rec Go.Cmp Go.RowKit
set_option maxRecDepth 10000
variable [Dr][Glob prog][Told]
end Go.Proofs.YtjhhnhgflmkenaaGreatDoor
namespace Go.DL
open Go.RowKit
variable{P:Program}{Q:Exit->S->Prop}{ro:Option Nat}
variable[Glob P]
variable [Dr]
def Kh{C:aO}{s s1:S}{ops:Array Oper}{i b:Nat}(k:Nat){o:Oper}{x:Operand}{d r:D}{y t:TypeId}{v z:Value}(U : ∀w:World,(Instr.typeAssert v y t true).run P w = .ok z w)(hv : ∀(w:World)(g:Mem)q,ae w g d q->q=v)(hr : ∀(w:World)(g:Mem),ae w g r z)(R:i<=k)(F:ops[k]? = some o)(M:o.guard=none)(f:o.op = .typeAssert x y t true)(J:bu P (words P) C ops.toList b i ((ops.toList.drop i).take (k-i)) s=s1)(hok:s1.ok)(m:dN s1.n o.dst=true)(E:s1.ev x=d)(hk:aA P ro ops (k+1) b { n:=s1.n,t:=s1.put o.dst r,h:=s1.h,nx:=s1.nx,ok:=True,e:=s1.e } Q):aA P ro ops i b s Q:=by refine jP (C:=C) k (λd I=>d=r/\I=s1.h) R F M (λc e=>by rw[f]at e;cases e) J hok m (λB g a w j _=>?_) (λd I⟨G,p⟩=>by subst G;subst p;exact hk);have A:=bT j x;rw[E]at A;have u:=hv _ _ _ A;refine⟨_,_,⟨rfl,rfl⟩,_,g,w,.inl ?_,hr w g,j.mem,ay.refl _ _,λr hr=>.inl hr⟩;let⟨K,L,N,op,O,og⟩:=o;simp only at f;subst f;simp[execOp,u,U]
def Zcp{f t:TypeId}{want:Array (String×TypeId)}{z:Value}{c:TypeInfo}(u:P.underlying t=some (.interface want))(a:P.info? t=some c)(hz:c.zero=some z)(w:World):(Instr.typeAssert .nilIface f t true).run P w = .ok (.tuple #[z,.bool false]) w:=by simp[Instr.typeAssert,run_underlying u,zeroValue,typeInfo,a,hz]
def Vl{f:FuncId}{args:List D}{res:D}(n:args.all D.nr=true)(j:bG P f args (λ_=>none) 0 (λd h' g=>∃k,dU h' k d/\wk (snap h' k d)=res)):PureCt P f args res:=by
 refine⟨j.1,n,λw I t u o O=>?_⟩;have y:HM P (λ_=>none) (jF I) w:=by
  refine⟨λ_ _=>rfl,?_,?_,?_,u,o⟩
  . intro r R h;cases h
  . intro r z b c A s E h;cases h
  intro r h;exact absurd rfl h
 refine(j.2 w (jF I) t y (λr h=>False.elim h) O).mono ?_;rintro e T ⟨v,L,d,h',g,⟨k,X,m⟩,rfl,Y,a,x,Z⟩;refine⟨v,rfl,⟨x.os,x.tape,x.output,x.size,x.drawn,λb p=>x.same b p (λr c s h=>by cases h)⟩,?_⟩;let⟨B,W⟩:=J3 a k _ v (xw Y) X;have B:=B.wk;have W:=JC _ W;rw[m]at B W;refine B.clean W λb p=>?_;rcases p with p|⟨r,c,s,p⟩
 .
  rcases x.inew b p with h|h|⟨r,c,s,h⟩
  . exact .inl h
  . exact .inr ⟨h,a.imm b p⟩
  cases h
 rcases x.new r b c s p with⟨z,A,E,h⟩|h
 . cases h
 exact .inr ⟨h,(pY a p).1⟩
theorem ZfD{t:TypeId}{x:D}{a b c:Option D}{h h':H}(hn : ∀r,named r x=true->h' r=h r):rE P t x a b c h'=rE P t x a b c h:=by
 cases x with
 | mrow r off W =>
  have:=hn r (by simp[named]);unfold rE;simp only[this]
 | v x=>cases x<;>rfl
 | _=>rfl
def ZiM{C:aO}{W:cu}{L:List Oper}{b i:Nat}{o:Oper}{ev:Operand->D}{t:Nat->D}{n:Nat}{h h':H}{ty:TypeId}{x:Operand}{l hi m:Option Operand}(M:o.guard=none)(a:o.op = .slice ty x l hi m)(hn : ∀r,named r (sd (ev x))=true->h' r=h r):aJ P W C L b i o n ev t h'=((aJ P W C L b i o n ev t h).1,h',(aJ P W C L b i o n ev t h).2.2):=by simp only[aJ,M,aW,a,fC,Yn,Y8,aU,X7,bz,still,ZfD hn]
def Qr(C:aO)(L:List Oper)(k1 k2:Nat)(a:List (Nat×Nat)):Bool:=(List.range k2).all λi=>i==k1||((eF L []).getD k1 0).testBit i||((L.getD i default).guard.isNone&&(bW C (L.getD i default).op == .none||a.any λp=>p.1==i&&match(L.getD i default).op with
 | .load _ (.tmp t)=>t==p.2
 | .slice _ (.tmp t) _ _ _=>t==p.2
 | _=>false))
theorem Zmw{C:aO}{L:List Oper}{k1 k2:Nat}{f:List (Nat×Nat)}(h:Qr C L k1 k2 f=true){h':H}{sq:S}{b:Nat}(hk : ∀p∈f,∀r,named r (sd (sq.t p.2))=true->h' r=sq.h r)(i:Nat)(o:Oper)(hi:i<k2)(N:i≠k1)(j:((eF L []).getD k1 0).testBit i=false)(k:L[i]? = some o) :
  aJ P (words P) C L b i o sq.n sq.ev sq.t h'=((aJ P (words P) C L b i o sq.n sq.ev sq.t sq.h).1,h',(aJ P (words P) C L b i o sq.n sq.ev sq.t sq.h).2.2):=by
 have c:L.getD i default=o:=by simp only[List.getD,k,YV]
 unfold Qr at h;have J:=YA.1 h i (Zk.2 hi);rw[c,j]at J;simp only[ZT,Yc,YF,XU,ZY]at J;rcases J with J|⟨M,J|⟨p,F,Y,A⟩⟩
 . exact absurd J N
 . exact KL (Zi.1 M) (.inl J)
 cases a:o.op with
 | load ty x =>
  rw[a]at A;cases x with
  | tmp t =>
   simp only[YF]at A;subst A;refine KL (Zi.1 M) (.inr ?_);rw[a];refine⟨trivial,λd g r O=>?_⟩;simp only[aU,X7,Yy,Yk]at g;subst g;exact hk p F r O
  | _=>simp at A
 | slice ty x l n m =>
  rw[a]at A;cases x with
  | tmp t =>
   simp only[YF]at A;subst A;exact ZiM (Zi.1 M) a λr O=>hk p F r O
  | _=>simp at A
 | _=>rw[a]at A;simp at A
section
variable [Glob P] (C : aO) {s sq : S} {ops : Array Oper} {id : Nat} {y : Code}
def dr1M(k1 Y k2:Nat)(z:List (Nat×Nat)){k:Oper}{f:Operand}{args:Array Operand}{B:Array TypeId}{aY:FuncId}{first A xs:List D}{R:D->H->Nat->Prop}{X:List PanicEntry->H->Nat->Prop}
  (G:P.follows .mixedOrders=true:=by exact zQ)(J:Jc C ops.toList k1 Y k2=true:=by kernel_rfl)(v:Qr C ops.toList k1 Y z=true:=by kernel_rfl)(w:ops[k1]? = some k:=by exact dP rfl)(x:k.op = .call { callee:=.value f,args:=args,argTypes:=B }:=by exact rfl)(M:k.guard=none:=by exact rfl)
  (u:((List.range Y).filter (· != k1)).foldl (bF P (words P) C ops.toList s.nx) s=sq:=by exact KA (by decide) (by decide) o0X o0X)(hok:sq.ok:=by(try simp only[go_sem,ff]);all_goals exact ok0)(m:dN sq.n k.dst=true:=by(try simp only[go_sem,ff]);all_goals (first|done|rfl|decide|simp))
  (a:sq.ev f = .fn (.func aY) first A:=by simp only[go_sem,ff];first|done|exact rfl)(y:(args.toList.map sq.ev).all sg=true:=by simp only[go_sem,ff])(E:(args.toList.map sq.ev).map sd=xs:=by simp only[go_sem,ff];first|done|exact rfl)
  (hct:pW P aY (first++xs++A) sq.h (s.nx+k2) R X)
  (hkeep : ∀j I g,R j I g -> ∀p∈z,∀r,named r (sd (sq.t p.2))=true->I r=sq.h r)
  (BX : ∀j I g,R j I g->(bu P (words P) C ops.toList g Y ((ops.toList.drop Y).take (k2-Y)) { n:=sq.n,t:=sq.put k.dst j,h:=I,nx:=g+ops.size,ok:=True,e:=sq.e }).ok)
  (hk : ∀j I g,R j I g->aA P ro ops k2 g (bu P (words P) C ops.toList g Y ((ops.toList.drop Y).take (k2-Y)) { n:=sq.n,t:=sq.put k.dst j,h:=I,nx:=g+ops.size,ok:=True,e:=sq.e }) Q)
  (hp : ∀c I g,X c I g -> ∀t,Q (.panic c) { n:=sq.n,t:=t,h:=I,nx:=g,ok:=True,e:=sq.e }):DW P ro (.region id ops true) Q s :=
 (Za9 (F:=λj I g=>(bu P (words P) C ops.toList g Y ((ops.toList.drop Y).take (k2-Y)) { n:=sq.n,t:=sq.put k.dst j,h:=I,nx:=g+ops.size,ok:=True,e:=sq.e })) k1 Y k2 R X G J w x M u hok m a y E hct (λj I g O i o hi N K w=>Zmw v (hkeep j I g O) i o hi N K w) (λ_ _ _ _=>rfl) BX (λ_ _ _ _=>wo _ _ _ _ _) hk hp)
end
end Go.DL
namespace Go.Zon
open Go.DL
def Ke(f:D):Sgd->Option Sgd:=match f with
 | .fn (.func k) _ [d]=>if k=72 then lK (yJ d)else l8 (yJ d)
 | _=>some
@[go_sem]theorem semS_d2{m:PM}:Ke (.fn (.func 72) [] [.eptr [.fmap (jk m)]])=lK m:=congrArg lK (OQ m)
@[go_sem]theorem semS_156:Ke (.fn (.func 156) [] [])=some:=rfl
end Go.Zon
namespace Go.Proofs.YtjhhnhgflmkenaaGreatDoor
open Go.Proofs.Tryz
open Go.DL Go.Str Go.Rec Go.Cmp Go.Zon
set_option maxRecDepth 10000
variable [Dr][Glob prog][Told]
@[go_sem]theorem sgd_snoc{l:List Sgd}{x:Sgd}:(l++[x]).map Sgd.d=l.map Sgd.d++[[.v (.string (bs x.set.name)),.i x.set.ty,.i x.set.life,.l (x.set.data.map Dat.d),.l (x.sigs.map RSig.d)]]:=by simp[Sgd.d]




end Go.Proofs.YtjhhnhgflmkenaaGreatDoor
namespace Go.DL
open Go.RowKit
variable{P:Program}
variable[Glob P]
variable [Dr]
def RD(cf:List D->List D->Int)(rows:List (List D)):Prop:=rows.Pairwise λx y=>¬cf y x<0
structure SwoOn(cf:List D->List D->Int)(rows:List (List D)):Prop where
 irrefl : ∀x∈rows,¬cf x x<0
 trans : ∀x∈rows,∀y∈rows,∀z∈rows,cf x y<0->cf y z<0->cf x z<0
 ntrans : ∀x∈rows,∀y∈rows,∀z∈rows,¬cf x y<0 -> ¬cf y z<0 -> ¬cf x z<0
def NE(a:Nat->List Value)(k:Nat)(w:World)(b m:Nat)(d:Array Nat)(c:Array Obj)(i:Nat)(hi:i<w.heap.size)(p:i≠b):(Go.Proofs.sortWorldK a k w b 0 m d c).heap[i]? = w.heap[i]? := by
 unfold Go.Proofs.sortWorldK Go.Sort.putRowK Go.Sort.putRow Go.Sort.mapBlock Go.Sort.grow;simp only[Go.Sort.ahead];rw[Array.getElem?_append_left (by simpa using hi),Array.getElem?_modify,XV (Ne.symm p)]
def Zfn(a:Nat->List Value)(k:Nat)(w:World)(b m:Nat)(d:Array Nat)(c:Array Obj){L:Array Value}{ty:TypeId}(p:w.heap[b]? = some (.cells L ty (0,0))) :
  (Go.Proofs.sortWorldK a k w b 0 m d c).heap[b]? = some (.cells (Go.Sort.putCells id 0 (Go.Sort.flatK a k d) L) ty (0,0)):=by
 have hi:b<w.heap.size:=(Yo.1 p).1;unfold Go.Proofs.sortWorldK Go.Sort.putRowK Go.Sort.putRow Go.Sort.mapBlock Go.Sort.grow;simp only[Go.Sort.ahead];rw[Array.getElem?_append_left (by simpa using hi),Array.getElem?_modify,X0 rfl,p];rfl
theorem TC(a:Nat->List Value)(k:Nat)(w:World)(b m:Nat)(d:Array Nat)(c:Array Obj):(Go.Proofs.sortWorldK a k w b 0 m d c).heap.size=w.heap.size+c.size:=by unfold Go.Proofs.sortWorldK Go.Sort.putRowK Go.Sort.putRow Go.Sort.mapBlock Go.Sort.grow;simp[Go.Sort.ahead]
def Zpe{w w':World}(h : @EI I8 w w'):∃q a,w'=Go.Sort.grow (w.drewN q) a:=by
 refine⟨w'.drawn-w.drawn,w'.heap.extract w.heap.size w'.heap.size,?_⟩;obtain⟨J,Y,A,c,U,W⟩:=h;have U:=U trivial;have p:w'.heap=w.heap++w'.heap.extract w.heap.size w'.heap.size:=by
  apply Array.ext_getElem?;intro i;by_cases hi:i<w.heap.size
  . rw[Array.getElem?_append_left hi,W i hi]
  rw[Array.getElem?_append_right (by omega),Array.getElem?_extract];by_cases f:i<w'.heap.size
  . rw[X0 (by omega)];congr 1;omega
  rw[XV (by omega),Array.getElem?_eq_none (by omega)]
 cases w';cases w;simp only at J Y A U p;simp only[Go.Sort.grow,World.drewN,World.mk.injEq];refine⟨p,Y,?_,J,A⟩;omega
def ND{ρ:Go.Shelf.Ren}(L:Go.Proofs.SlLaysF0.n6 P ρ){fS ty:Nat}(ca:ρ.f 6=fS)(cb:ρ.t 24=ty)(aE : ∀w,(isAgg ty).run P w = .ok true w)(zE : ∀w,(Go.sizeOf ty).run P w = .ok (P.cellsOf ty) w){r nf g:Nat}{rows:List (List D)}{h:H}{aD:List D}(cf:List D->List D->Int)(cw:fE P fS=true)(hr:h r=some ⟨ty,rows⟩)(cA:aQ rows=true)(cC:aD.all D.nr=true)(cg:rows.length<4611686018427387904)(b8:letI:Dr:=I8;∀x∈rows,∀y∈rows,PureCt P g ([.agg x,.agg y]++aD) (.i (cf x y)))(hO:SwoOn cf rows) :
  bG P fS [.mrow r 0 rows.length,.fn (.func g) [] aD] h nf (λd h' n'=>d = .tuple []/\n'=nf /\ ∃n,n.Perm rows/\RD cf n/\h'=upd h r (some ⟨ty,n⟩)):=by
 refine⟨cw,λw gm vs hm Z cD=>?_⟩;obtain⟨x,cS,rfl,hx,J⟩:=cD.of_cons;obtain⟨f,cU,rfl,hf,Y⟩:=J.of_cons;rw[Y.of_nil];cases hf with|fn _ _ _ fs M l1 l2 r1 r2 =>
 have cE:fs = #[]:=ZB (by simpa using l1.symm);subst cE;cases hx with|mrow _ _ _ _ _ cF hv =>
 let⟨G,c,B,W,q3,q4,q5⟩:=hm.blk r _ hr;let⟨v1,v2⟩:=hv _ _ _ B;by_cases N:rows=[]
 .
  subst N;have cG : ∃p I,x = .slice p 0 I:=by
   rcases v2 with⟨_,a,rfl⟩|⟨_,b,_,rfl⟩
   . exact⟨a,0,rfl⟩
   exact⟨_,_,rfl⟩
  obtain⟨p,I,rfl⟩:=cG;have O:=Go.Proofs.AnyF.slices_SortFunc_none L p I (.func (.func g) #[] M) w;rw[ca]at O;refine callsIn_wide.2 (O.mono ?_);rintro e T ⟨rfl,rfl⟩;refine⟨_,gm,_,h,nf,⟨rfl,rfl,[],.refl _,.nil,?_⟩,rfl,.mk_tuple (vs:=#[]) .nil,hm,ay.refl _ _,Z⟩;funext i;unfold upd;split
  . rename_i e;subst e;exact hr
  rfl
 have cV:0<rows.length:=Zl.2 N;rcases q5 with⟨_,q5⟩|⟨b,U,rfl,q6,q7,q8,q9⟩
 . simp only at q3;omega
 have q6:=q6.cells v1.2;have q7:=q7 v1.2;have q4:=v1.2;rcases v2 with⟨e0,a,rfl⟩|⟨cW,b',V,rfl⟩
 . simp only at q3;omega
 cases V;have cH:b<w.heap.size:=(Yo.1 q6).1;generalize X:P.cellsOf ty=k at *
 simp only at q3;let K:Nat->Nat:=λi=>if i<rows.length then i else 0
 have aq : ∀i,K i<rows.length:=λi=>by simp only[K];split<;>assumption
 have Lu : ∀i,i<rows.length->K i=i:=λi hi=>by simp only[K];rw[X0 hi]
 let o:Nat->List Value:=λi=>(List.range k).map λj=>U.getD (K i*k+j) undef;have PL : ∀i,(o i).length=k:=λi=>by simp[o]
 have ab : ∀i,i<rows.length->(rows.getD i []).length=k /\ ∀(j:Nat)d,(rows.getD i [])[j]? = some d->(o i)[j]? = some (U.getD (i*k+j) undef)/\U[i*k+j]? = some (U.getD (i*k+j) undef)/\(U.getD (i*k+j) undef).oneCell'=true/\ae w gm d (U.getD (i*k+j) undef):=by
  intro i hi;have e1:rows[i]? = some (rows.getD i []):=by simp[List.getD,hi]
  let⟨p1,p2⟩:=q9 i _ e1;simp only[X]at p1 p2;refine⟨p1,λj d hd=>?_⟩;let⟨u,u1,u2,u3⟩:=p2 j d hd;have e2:U.getD (i*k+j) undef=u:=by simp[ZA,u1]
  have A:j<k:=by rw[<-p1];exact(X8.1 hd).1
  rw[e2];refine⟨by simp[o,A,Lu i hi];rw[<-e2];simp[ZA],u1,u2,u3⟩
 have ch : ∀i,o i=o (K i):=λi=>by simp only[o];rw[Lu (K i) (aq i)]
 have ci : ∀i,∀v∈o i,v.oneCell'=true:=by
  intro i v hv;rw[ch]at hv;let⟨j,A⟩:=Zy hv;have aw:j<k:=by rw[<-PL (K i)];exact(X8.1 A).1
  let⟨p1,p2⟩:=ab (K i) (aq i);have hd:(rows.getD (K i) [])[j]? = some ((rows.getD (K i) [])[j]'(by omega)):=by simp
  let⟨u1,_,u2,_⟩:=p2 j _ hd;rw[u1]at A;cases A;exact u2
 let R:Nat->List D:=λi=>rows.getD (K i) [];have F : ∀i,R i∈rows:=λi=>by
  have:R i=rows[K i]'(aq i):=by simp[R,List.getD,aq i]
  rw[this];exact Yz _
 let cn:Nat->Nat->Int:=λi j=>cf (R i) (R j);have cj:Go.Sort.SWO (Go.Proofs.ltOf cn):=by
  refine⟨λx=>?_,λx y z p1 p2=>?_,λx y z p1 p2=>?_⟩
  . simp only[Go.Proofs.ltOf,cn,X6];exact hO.irrefl _ (F x)
  . simp only[Go.Proofs.ltOf,cn,XY]at *;exact hO.trans _ (F x) _ (F y) _ (F z) p1 p2
  simp only[Go.Proofs.ltOf,cn,X6]at *;exact hO.ntrans _ (F x) _ (F y) _ (F z) p1 p2
 let d:Array Nat:=Array.range rows.length;have am:d.size=rows.length:=by simp[d]
 have cI : ∀i,i<rows.length->d[i]! = i:=λi hi=>by simp[d,hi]
 have cJ : ∀t,t<rows.length*k->t / k<rows.length/\t % k<k:=λt ht=>⟨Nat.div_lt_of_lt_mul (by rw[ZF];exact ht),Nat.mod_lt _ W⟩;have b9 : ∀i j,i<rows.length->j<k->(o i)[j]! = U.getD (i*k+j) undef:=by
  intro i j hi A;let⟨p1,p2⟩:=ab i hi;have hd:(rows.getD i [])[j]? = some ((rows.getD i [])[j]'(by omega)):=by simp
  rw[List.getElem!_eq_getElem?_getD,(p2 j _ hd).1];rfl
 have hH:Go.Sort.HoldsK o k w b 0 d:=by
  intro t ht;simp only[Go.Sort.size_flatK,am]at ht;rw[Go.Sort.get_flatK _ _ _ _ (by rw[am];exact ht)];let⟨t1,t2⟩:=cJ t ht;rw[cI _ t1,b9 _ _ t1 t2];have e:t / k*k+t % k=t:=by rw[ZF];exact Nat.div_add_mod t k
  rw[e,Nat.zero_add];have cL:t<U.size:=by rw[q7];exact YG ht (Y9 k q3)
  refine⟨?_,?_⟩
  . simp[World.cell?,q6,cL,id,ZA]
  simp[World.frozen?,q6]
 have cM:Go.Proofs.CmpLays P g M o k cn b 0 d.size w:=by
  intro m os dk cX x y;let⟨cY,_,cN⟩:=b8 _ (F x) _ (F y);have hW:=TC o k w b m dk os;have hI : ∀b',gm.I b'->b'<(Go.Proofs.sortWorldK o k w b 0 m dk os).heap.size:=λb' V=>by rw[hW];have:=hm.imm b' V;omega
  have bb : ∀{d:D}{v:Value},d.nr=true->ae w gm d v->ae (Go.Proofs.sortWorldK o k w b 0 m dk os) (jF gm.I) d v:=by intro d v hd hv;have J:=ae.clean (g':=jF gm.I) hv hd (λb hb=>hb);refine ae.mono (g:=jF gm.I) (g':=jF gm.I) (λb' V=>⟨V,?_⟩) (λ_ h=>h) (λ_ h=>.inl rfl) J;exact NE o k w b m dk os b' (hm.imm b' V) (λe=>q8 (e▸V))
  have be : ∀i,ae (Go.Proofs.sortWorldK o k w b 0 m dk os) (jF gm.I) (.agg (R i)) (.agg (o i).toArray):=by intro i;rw[ch i];let⟨p1,p2⟩:=ab (K i) (aq i);refine .mk_agg ⟨by rw[p1,PL],λj d v e1 e2=>?_⟩;let⟨u1,_,_,u4⟩:=p2 j d e1;rw[u1]at e2;cases e2;exact bb (uO (Hg cA (F i)) (Ym e1)) u4
  have bh:aF (Go.Proofs.sortWorldK o k w b 0 m dk os) (jF gm.I) ([.agg (R x),.agg (R y)]++aD) ([.agg (o x).toArray,.agg (o y).toArray]++M.toList):=by refine aF.append (.cons (be x) (.cons (be y) .nil)) ⟨by simpa using l2,λi d v e1 e2=>?_⟩;exact bb (YA.1 cC d (Ym e1)) (r2 i d v e1 (by simpa using e2))
  have:=callsIn_wide.1 (cN _ gm.I _ hI (hm.gr.later λb' V=>⟨V,NE o k w b m dk os b' (hm.imm b' V) (λe=>q8 (e▸V))⟩) bh);have ea:([.agg (o x).toArray,.agg (o y).toArray]++M.toList:List Value).toArray = #[.agg (o x).toArray,.agg (o y).toArray]++M:=by apply Zr;simp
  rw[ea]at this;refine this.mono ?_;rintro e T ⟨v,rfl,hb,hv⟩;refine⟨?_,Zpe hb⟩;rw[hv.v_inv]
 have O:=Go.Proofs.AnyQ.slices_SortFunc L k (by rw[cb];exact aE) (by rw[cb];exact zE) o PL ci cn cj g M b 0 c d w (λcl w=>xX (b8 _ (F 0) _ (F 0)).1 cl w) cM hH cH (by rw[am];exact cg);rw[ca,am]at O;have ev:(Value.slice (some ⟨b,0*k,Option.none⟩) rows.length (c-0))=Value.slice (some ⟨b,0,Option.none⟩) rows.length c:=by simp
 rw[ev];refine callsIn_wide.2 (O.mono ?_);rintro e T ⟨rfl,d',n',os,bm,bp,rfl⟩;let⟨E,_,br⟩:=bm;rw[am]at E;have cm : ∀a:Array Nat,a.size=rows.length->a.extract 0 rows.length=a:=λa ha=>by rw[<-ha];exact Array.extract_size
 rw[cm d' E,cm d am]at br;have ar : ∀i,i<rows.length->d'[i]! < rows.length:=by
  intro i hi;have J:d'[i]! ∈ d'.toList:=by rw[getElem!_pos d' i (by omega)];simp
  have:=br.mem_iff.1 J;simpa[d]using this
 let n:List (List D):=d'.toList.map R;have bw:d.toList.map R=rows:=by
  apply List.ext_getElem?;intro i;by_cases hi:i<rows.length
  . simp[d,hi,R,Lu i hi,List.getD]
  simp[d,hi]
 have hP:n.Perm rows:=by rw[<-bw];exact br.map R
 have hS:RD cf n:=by
  unfold RD;rw[Y6];intro i j hi A cP;have cQ:j<rows.length:=by simpa[n,E]using A
  have:=bp i j (Yh _) cP cQ;simp only[Go.Proofs.ltOf,cn,X6]at this;rw[getElem!_pos d' i (by omega),getElem!_pos d' j (by omega)]at this;simpa[n]using this
 have co:n.length=rows.length:=by simp[n,E]
 have cp:=hm.put (h':=upd h r (some ⟨ty,n⟩)) (w':=Go.Proofs.sortWorldK o k w b 0 n' d' os) r b c ⟨ty,n⟩ (Go.Sort.putCells id 0 (Go.Sort.flatK o k d') U)
  (.inr (by simp only[X];exact B)) (bI _ _ _) (λr' bx=>.inl (aI _ _ _ _ bx)) (.inr ⟨r,c,_,B,.inl rfl⟩) (Zfn o k w b n' d' os q6) (by simp[Go.Sort.putCells,q7,X]) (by simp only[X];exact W)
  (by simp only[co];exact q3) q4 (by
   intro i row hi;have b7:i<rows.length:=by rw[<-co];exact(X8.1 hi).1
   have e1:row=rows.getD (d'[i]!) []:=by
    simp only[n,YQ]at hi;rw[getElem!_pos d' i (by omega)];have:d'.toList[i]? = some d'[i]:=by simp
    rw[this]at hi;simp only[YZ,Yj]at hi;rw[<-hi];simp only[R];rw[Lu _ (by have:=ar i b7;rwa [getElem!_pos d' i (by omega)]at this)]
   let⟨p1,p2⟩:=ab _ (ar i b7);rw[<-e1]at p1 p2;simp only[X];refine⟨p1,λj dd hd=>?_⟩;have aw:j<k:=by rw[<-p1];exact(X8.1 hd).1
   let⟨u1,u2,u3,u4⟩:=p2 j dd hd;have ac:i*k+j<rows.length*k:=by have:=Y9 k (show i+1<=rows.length from b7);rw[Zn,Nat.one_mul]at this;omega
   have cR:i*k+j<U.size:=by rw[q7];exact YG ac (Y9 k q3)
   refine⟨_,?_,u3,u4⟩;have cq:(i*k+j) / k=i:=by rw[ZF,Nat.mul_add_div W,Nat.div_eq_of_lt aw];rfl
   have cr:(i*k+j) % k=j:=by rw[ZF,Z0,ZC aw]
   simp only[Go.Sort.putCells,Array.getElem?_mapIdx,ZK cR,YZ];rw[X0 ⟨Yh _,by simp only[Go.Sort.size_flatK,E];omega⟩,Nat.sub_zero,Go.Sort.get_flatK _ _ _ _ (by rw[E];exact ac),cq,cr,b9 _ _ (ar i b7) aw];rfl)
  ⟨rfl,rfl,rfl,by rw[TC];omega,λi hi N=>NE o k w b n' d' os i hi (λe=>N (by rw[e]))⟩ (by unfold Go.Proofs.sortWorldK Go.Sort.putRowK Go.Sort.putRow Go.Sort.mapBlock Go.Sort.grow Go.Sort.ahead;exact ZR _ _)
 let⟨g',g1,g2,g3,g4,g5⟩:=cp;exact⟨_,g',_,_,nf,⟨rfl,rfl,n,hP,hS,rfl⟩,rfl,.mk_tuple (vs:=#[]) .nil,g4,g5,λr' bx=>by
  rcases(g2 r').1 bx with h|h
  . exact Z _ h
  subst h;exact Z _ cF⟩
end Go.DL
namespace Go.Zon
open Go.DL Go.Str Go.Rec Go.Cmp
variable{a:Str}{f td:TypeId}{α:Type}{g:α->List D}{h:H}{i k z:Nat}
abbrev PS:=Nat×Sgd
def rowP(x:PS):List D:=[.v (.string (bs x.2.set.name)),.i x.2.set.ty,.i x.2.set.life,.mrow x.1 0 x.2.set.data.length,.e]
def lP(p:List PS):List Sgd:=p.map (·.2)
structure ZM(tz ts td:TypeId)(zc rs:Nat)(a:Str)(p:List PS)(h:H):Prop where
 z:h zc=some ⟨tz,[[.v (.string (bs a)),.mrow rs 0 p.length]]⟩
 r:h rs=some ⟨ts,p.map rowP⟩
 d : ∀x∈p,h x.1=some ⟨td,x.2.set.data.map Dat.d⟩
 zr:zc≠rs
 ne : ∀x∈p,x.1≠zc/\x.1≠rs
 nd:(p.map (·.1)).Nodup
 sig : ∀x∈p,x.2.sigs=[]
theorem uf(p:List PS):(lP p).length=p.length:=by simp[lP]
theorem FE{p:List PS}(h:i<p.length):(lP p)[i]! = p[i]!.2:=by rw[getElem!_pos (lP p) i (by rw[uf];exact h),getElem!_pos p i h];simp[lP]
theorem snap_mrow(h:H)(k r off len:Nat):snap h (k+1) (.mrow r off len) = .l ((aG (.mrow r off len) h).map λrow=>row.map (snap h k)):=rfl
theorem snap_agg(h:H)(k:Nat)(cs:List D):snap h (k+1) (.agg cs) = .agg (cs.map (snap h k)):=rfl
theorem snap_v(h:H)(k:Nat)(x:Value):snap h k (.v x) = .v x:=by cases k<;>rfl
theorem snap_list(h:H)(k:Nat)(f:Bool)(l:List (List D)):snap h k (.list f l) = .list f l:=by cases k<;>rfl
def Cs(td:TypeId)(h:H)(x:PS):Prop:=h x.1=some ⟨td,x.2.set.data.map Dat.d⟩/\x.2.sigs=[]
theorem TK(h:H)(k:Nat)(l:List Dat):(l.map Dat.d).map (λrow=>row.map (snap h k))=l.map Dat.d:=by rw[List.map_map];refine Y3 λx _=>?_;simp[Dat.d,snap_v]
def uC{x:PS}(E:Cs td h x)(k:Nat):((rowP x).map (snap h (k+1))).map wk=x.2.d /\ ∀c∈rowP x,dU h (k+2) c:=by
 let⟨J,Y⟩:=E;have O:aG (.mrow x.1 0 x.2.set.data.length) h=x.2.set.data.map Dat.d:=by simp only[aG,J,X4];exact Ye (by simp)
 refine⟨?_,?_⟩
 . simp only[rowP,X7,Yy,snap_v,snap_mrow,snap_list,O,TK];simp only[wk,qb,Sgd.d,Y,Yy,dB]
 intro c j;simp only[rowP,Yl,Y2,or_false]at j;rcases j with rfl|rfl|rfl|rfl|rfl
 . rfl
 . rfl
 . rfl
 . refine⟨⟨by rw[J];rfl,by rw[O];simp⟩,?_⟩;rw[O];intro row a c j;obtain⟨d,_,rfl⟩:=Yp.1 a;simp only[Dat.d,Yl,Y2,or_false]at j;rcases j with rfl|rfl|rfl<;>cases k<;>rfl
 rfl
theorem TH{p:List PS}(hp : ∀x∈p,Cs td h x)(k:Nat):dB ((p.map rowP).map (λrow=>row.map (snap h (k+1))))=(lP p).map Sgd.d:=by rw[EO,List.map_map,List.map_map,lP,List.map_map];refine Y3 λx E=>?_;have:=(uC (hp x E) k).1;simp only[Function.comp_apply,wT];exact this
def TG{p:List PS}(hr:h z=some ⟨f,p.map rowP⟩)(hp : ∀x∈p,Cs td h x):wk (snap h 4 (.mrow z 0 p.length)) = .l ((lP p).map Sgd.d)/\dU h 4 (.mrow z 0 p.length):=by
 have a:aG (.mrow z 0 p.length) h=p.map rowP:=by simp only[aG,hr,X4];exact Ye (by simp)
 refine⟨?_,?_⟩
 . rw[snap_mrow,a];simp only[wk,TH hp]
 refine⟨⟨by rw[hr];rfl,by rw[a];simp⟩,?_⟩;rw[a];intro row j c g;obtain⟨x,E,rfl⟩:=Yp.1 j;exact(uC (hp x E) 1).2 c g
def TI{x:PS}(E:Cs td h x):wk (snap h 4 (.agg (rowP x))) = .agg x.2.d/\dU h 4 (.agg (rowP x)):=by refine⟨?_,(uC E 1).2⟩;have:=(uC E 2).1;rw[snap_agg];simp only[wk,wT];rw[this]
theorem ZM.data{c:TypeId}{g:Nat}{p:List PS}(m:ZM c f td z g a p h):∀x∈p,Cs td h x:=λx E=>⟨m.d x E,m.sig x E⟩
theorem ZM.snap{g:TypeId}{p:List PS}(m:ZM f g td k z a p h):wk (Go.DL.snap h 5 (.agg [.v (.string (bs a)),.mrow z 0 p.length])) = .agg (Zon.d ⟨a,lP p⟩)/\dU h 5 (.agg [.v (.string (bs a)),.mrow z 0 p.length]):=by
 let⟨J,Y⟩:=TG m.r m.data;refine⟨?_,?_⟩
 . have e:Go.DL.snap h 5 (.agg [.v (.string (bs a)),.mrow z 0 p.length]) = .agg [.v (.string (bs a)),Go.DL.snap h 4 (.mrow z 0 p.length)]:=rfl;rw[e];simp only[wk,dA,J,Zon.d]
 intro c j;simp only[Yl,Y2,or_false]at j;rcases j with rfl|rfl
 . rfl
 exact Y
def ZM.keep{g:TypeId}{c:Nat}{p:List PS}{h':H}(m:ZM f g td z c a p h)(hk : ∀q,(q=z\/q=c \/ ∃x∈p,q=x.1)->h' q=h q):ZM f g td z c a p h' :=
 ⟨(hk z (.inl rfl)).trans m.z,(hk c (.inr (.inl rfl))).trans m.r,λx E=>(hk x.1 (.inr (.inr ⟨x,E,rfl⟩))).trans (m.d x E),m.zr,m.ne,m.nd,m.sig⟩
def ZM.lt{g:TypeId}{c:Nat}{p:List PS}(m:ZM f g td z c a p h){n:Nat}(hn : ∀r,n<=r->h r=none):z<n/\c<n /\ ∀x∈p,x.1<n:=by
 have O : ∀r b,h r=some b->r<n:=λr b e=>by
  rcases YK r n with k|k
  . exact k
  rw[hn r k]at e;cases e
 exact⟨O _ _ m.z,O _ _ m.r,λx E=>O _ _ (m.d x E)⟩
section
variable {α : Type} [Inhabited α]
def gN(g:α->List D)(keep:α->Bool)(l:List α)(k:Nat):List (List D):=((l.take k).filter keep).map g++(l.map g).drop ((l.take k).filter keep).length
def ky(keep:α->Bool)(l:List α)(k:Nat):Nat:=((l.take k).filter keep).length
omit [Inhabited α]in
def DY(keep:α->Bool)(l:List α)(k:Nat):ky keep l k<=k:=Yd (List.length_filter_le _ _) (by simp;omega)
omit [Inhabited α]in
theorem BH{g:α->List D}{keep:α->Bool}{l:List α}(hk:k<=l.length):(gN g keep l k).length=l.length:=by have:=DY keep l k;unfold ky at this;simp[gN];omega
def Xr{g:α->List D}{keep:α->Bool}{l:List α}(hk:k<l.length)(h:keep l[k]! = true):ky keep l (k+1)=ky keep l k+1/\(gN g keep l k).set (ky keep l k) (g l[k]!)=gN g keep l (k+1):=by
 have a:=DY keep l k;have e:(l.take (k+1)).filter keep=(l.take k).filter keep++[l[k]!]:=by rw[nE! hk,List.filter_append,List.filter_cons,h];simp
 refine⟨by simp[ky,e],?_⟩;unfold ky at a ⊢;unfold gN;rw[e];generalize (l.take k).filter keep=A at a ⊢;rw[List.set_append_right _ _ (by simp),YX,Yq,Yv,X3,YR];congr 1;have m:(l.map g).drop A.length=g l[A.length]! :: (l.map g).drop (A.length+1):=by rw[getElem!_pos l A.length (by omega),YE (by simp;omega)];simp
 rw[m];simp
def Lc{g:α->List D}{keep:α->Bool}{l:List α}(hk:k<l.length)(h:keep l[k]! = false):ky keep l (k+1)=ky keep l k/\gN g keep l (k+1)=gN g keep l k:=by
 have e:(l.take (k+1)).filter keep=(l.take k).filter keep:=by rw[nE! hk,List.filter_append,List.filter_cons,h];simp
 exact⟨by simp[ky,e],by simp[gN,e]⟩
def Xv{g:α->List D}{keep:α->Bool}{l:List α}(hk:k<l.length):(gN g keep l k).getD k []=g l[k]! := by
 have a:=DY keep l k;unfold ky at a;unfold gN;generalize (l.take k).filter keep=A at a ⊢;rw[List.getD_eq_getElem?_getD,YN (by simp;omega),Y4,YX];rw[show A.length+(k-A.length)=k from by omega];rw[getElem!_pos l k hk];simp[hk]
def Xw{g:α->List D}{keep:α->Bool}{l:List α}(hk:k<=l.length)(h : ∀i,i<k->keep l[i]! = true):ky keep l k=k/\gN g keep l k=l.map g:=by
 have e:(l.take k).filter keep=l.take k:=Y1.2 λx E=>by
  obtain⟨i,hi,rfl⟩:=jh.1 E;have a:i<k:=by simp at hi;omega
  rw[show(l.take k)[i]! = l[i]! from by rw[getElem!_pos _ i hi,getElem!_pos l i (by omega),List.getElem_take]];exact h i a
 have c:(l.take k).length=k:=by simp;omega
 refine⟨by simp only[ky,e];exact c,?_⟩;simp only[gN,e,c];rw[ZJ];exact Zj _ _
omit [Inhabited α]in
def Xu{g:α->List D}{keep:α->Bool}{l:List α}:(gN g keep l l.length).take (ky keep l l.length)=(l.filter keep).map g/\ky keep l l.length=(l.filter keep).length:=by refine⟨?_,by simp[ky]⟩;unfold gN ky;rw[Yt,List.take_append_of_le_length (by simp),Ye (by simp)]
end
def d9{α:Type}[Inhabited α](q:α->Bool)(l:List α)(k:Nat):Int:=if k<l.length then(if q l[k]! = true then(k:Int)else d9 q l (k+1))else -1
termination_by l.length-k
theorem Al[Inhabited α](q:α->Bool)(l:List α)(k:Nat):d9 q l k=if k<l.length then(if q l[k]! = true then(k:Int)else d9 q l (k+1))else -1:=by rw[d9]
theorem IV[Inhabited α](q:α->Bool)(l:List α):∀n k,l.length-k<=n->(d9 q l k = -1 /\ ∀i,k<=i->i<l.length->q l[i]! = false) \/ ∃j,d9 q l k=(j:Nat)/\k<=j/\j<l.length/\q l[j]! = true /\ ∀i,k<=i->i<j->q l[i]! = false:=by
 intro n;induction n with
 | zero=>intro k h;left;rw[Al,XV (by omega)];exact⟨rfl,λi J Y=>by omega⟩
 | succ n f =>
  intro k h;rw[Al];by_cases X:k<l.length
  .
   rw[X0 X];by_cases K:q l[k]! = true
   . rw[X0 K];exact .inr ⟨k,rfl,XW _,X,K,λi J Y=>by omega⟩
   rw[XV K];have a:q l[k]! = false:=by simpa using K
   rcases f (k+1) om with⟨J,Y⟩|⟨j,J,Y,A,c,U⟩
   .
    exact .inl ⟨J,λi A c=>by
     by_cases e:i=k
     . rw[e];exact a
     exact Y i om c⟩
   exact .inr ⟨j,J,om,A,c,λi W g=>by
    by_cases e:i=k
    . rw[e];exact a
    exact U i om g⟩
  rw[XV X];exact .inl ⟨rfl,λi J Y=>by omega⟩
variable{c:Chg}{l:List Sgd}{p:List PS}{q:α->Bool}{t:RSet}{x y:PS}
def HZ:D->Int
 | .eptr [.v (.int _ k)]=>k
 | _=>0
@[go_sem]theorem intp1_i{k:IntKind}{n:Int}:HZ (.eptr [.v (.int k n)])=n:=rfl
def CY:D->RSet
 | .eptr l=>set1 (.agg l)
 | _=>default
@[go_sem]theorem Zqt{l:List D}:CY (.eptr l)=set1 (.agg l):=rfl
def Ji:D->Chg
 | .eptr l=>Ay (.agg l)
 | _=>default
@[go_sem]theorem Zr8{l:List D}:Ji (.eptr l)=Ay (.agg l):=rfl
def Jh:D->Int
 | .fn _ _ [d]=>HZ d
 | _=>0
@[go_sem]theorem Zr5{f:Fn}{x:List D}{d:D}:Jh (.fn f x [d])=HZ d:=rfl
def ZbV:D->RSet
 | .fn _ _ [d]=>CY d
 | _=>default
def uP(s:Sgd):Bool:=decide (0<s.sigs.length)||decide (s.set.ty=8)
def dZ(n:Str)(s:Sgd):Bool:=decide (s.set.name=n)
def eB(l:List Dat)(x:Dat):Bool:=decide (x∈l)
theorem Qt[Inhabited α](q:α->Bool)(l:List α):decide (0<=d9 q l 0) = !ax l.length (λi=>!q l[i]!) 0:=by
 rcases IV q l _ 0 (XW _)with⟨J,Y⟩|⟨j,J,Y,A,a,U⟩
 .
  rw[J];have:ax l.length (λi=>!q l[i]!) 0=true:=by rw[dG];intro i _ hi;show(!q l[i]!)=true;rw[Y i (Yh _) hi];rfl
  rw[this];rfl
 rw[J];have:ax l.length (λi=>!q l[i]!) 0=false:=by rw[Bool.eq_false_iff];intro h;rw[dG]at h;have:(!q l[j]!)=true:=h j (Yh _) A;rw[a]at this;cases this
 rw[this];simp
theorem Zip(z:Zon):jQ z = !decide (0<=d9 uP z.sets 0):=by rw[Qt,Bool.not_not];rfl
theorem WB(z:Zon)(n:Str):KV z n=decide (0<=d9 (dZ n) z.sets 0):=by rw[Qt];unfold KV;congr 2;funext i;show(!(z.sets[i]!.set.name==n))=(!decide (z.sets[i]!.set.name=n));rw[YD];simp
theorem IX[Inhabited α]{l:List α}(hk:k<l.length)(h:q l[k]! = true):d9 q l k=k:=by rw[Al,X0 hk,X0 h]
theorem IY[Inhabited α]{l:List α}(hk:k<l.length)(h:q l[k]! = false):d9 q l k=d9 q l (k+1):=by rw[Al,X0 hk,XV (by rw[h];exact Bool.false_ne_true)]
theorem IZ[Inhabited α]{l:List α}(hk : ¬k<l.length):d9 q l k = -1:=by rw[Al,XV hk]
theorem Zl4(l:List Dat)(x:Dat):eB l x=decide (0<=d9 (λy=>decide (x=y)) l 0):=by
 rw[Qt];unfold eB;rw[YD,XY,Ya,Bool.eq_false_iff,Ne,dG];constructor
 . intro h k;obtain⟨i,hi,rfl⟩:=jh.1 h;have:=k i (Yh _) hi;simp at this
 intro h;apply YW;intro E;refine h λi _ hi=>?_;have:x≠l[i]! := λe=>E (jh.2 ⟨i,hi,e.symm⟩);simpa using this
def sG(z:Zon)(n:Chg):Bool :=
 if n.kind=1\/n.kind=2 then decide (0<=d9 (dZ n.set.name) z.sets 0)==decide (n.kind=1)else
 if n.kind=3 then bV z.sets n.q else if n.kind=4 then !bV z.sets n.q else bV z.sets n.q&&decide (z.sets[aV z.sets n.q]!.set.data=n.set.data)
theorem ZmU(a b:RSet):decide (a=b)=(a.name==b.name&&a.ty==b.ty&&a.life==b.life&&decide (a.data=b.data)):=by cases a;cases b;rw[YD];simp[and_assoc]
def Qv{q:Qst}(h:bV l q=true):aV l q<l.length:=by unfold bV at h;rw[XU,XY]at h;exact h.1
def BN(td:TypeId)(h:H)(p:List PS):H:=p.foldl (λh x=>upd h x.1 (some ⟨td,x.2.set.data.map Dat.d⟩)) h
theorem ZlT:BN td h (p++[x])=upd (BN td h p) x.1 (some ⟨td,x.2.set.data.map Dat.d⟩):=by simp[BN]
theorem Ls{td:TypeId}{q:Nat}:∀{p:List PS}{h:H},(∀x∈p,x.1≠q)->BN td h p q=h q
 | [],_,_=>rfl
 | x::p,h,f=>by show BN td (upd h x.1 _) p q=_;rw[Ls λy o=>f y (List.mem_cons_of_mem _ o),aI _ _ _ _ λe=>f x List.mem_cons_self e.symm]
theorem Zal{td:TypeId}:∀{p:List PS}{h:H},(p.map (·.1)).Nodup -> ∀x∈p,BN td h p x.1=some ⟨td,x.2.set.data.map Dat.d⟩
 | [],_,_,_,E=>by cases E
 | y::p,h,f,x,E=>by
  show BN td (upd h y.1 _) p x.1=_;rw[X7,List.nodup_cons]at f;rcases Yl.1 E with rfl|E
  . rw[Ls λz hz e=>f.1 (Yp.2 ⟨z,hz,e⟩),bI]
  exact Zal f.2 x E
def Zjl(h:(p.map (·.1)).Nodup)(E : ∀y∈p,y.1≠x.1):((p++[x]).map (·.1)).Nodup:=by rw[Yv,List.nodup_append];refine⟨h,by simp,λa m b c=>?_⟩;obtain⟨y,o,rfl⟩:=Yp.1 m;simp only[X7,Yy,Yk]at c;rw[c];exact E y o
def Sgd.bare(s:Sgd):Sgd:=⟨s.set,[]⟩
theorem Zpl(h:k<l.length):(l.take (k+1)).map Sgd.bare=(l.take k).map Sgd.bare++[l[k]!.bare]:=by rw[nE! h,Yv];rfl
def ZkK(h:lP p=(l.take k).map Sgd.bare)(hk:k<=l.length):p.length=k:=by have:=congrArg List.length h;simp[lP]at this;omega
def Zhp{m:Nat}{z:List D}(hk:p.length=k)(v:k<m):(p.map rowP++List.replicate (m-k) z).getD k []=z:=by subst hk;rw[List.getD_eq_getElem?_getD,YN (by simp),YX,Yq,List.getElem?_replicate,X0 (by omega)];rfl
def Zhl{m:Nat}{z:List D}(hk:p.length=k)(v:k<m):(p.map rowP++List.replicate (m-k) z).set k (rowP x)=(p++[x]).map rowP++List.replicate (m-(k+1)) z:=by
 subst hk;rw[List.set_append_right _ _ (by simp)];have e:m-p.length=(m-(p.length+1))+1:=by omega
 rw[e,List.replicate_succ];simp
theorem J4(h:H)(k:Nat)(l:List D):snap h k (.eptr l) = .eptr l:=by cases k<;>rfl
def Zk1{keep:α->Bool}{l:List α}{row:List D}(h:row∈gN g keep l k):∃x∈l,row=g x:=by
 unfold gN at h;rcases Yu.1 h with h|h
 . obtain⟨x,E,rfl⟩:=Yp.1 h;exact⟨x,List.mem_of_mem_take (Zq.1 E).1,rfl⟩
 obtain⟨x,E,rfl⟩:=Yp.1 (List.mem_of_mem_drop h);exact⟨x,E,rfl⟩
def Xt{keep:α->Bool}{l:List α}{m:Nat}(M : ∀x,(g x).length=m)(hi:i<(gN g keep l k).length):((gN g keep l k).getD i []).length=m:=by
 have h:(gN g keep l k).getD i []∈gN g keep l k:=by rw[List.getD_eq_getElem?_getD,Yi hi];exact Yz hi
 let⟨x,_,e⟩:=Zk1 h;rw[e,M]
def ZmC[Inhabited α]{l:List α}(h : ¬d9 q l 0 = -1):∃j:Nat,d9 q l 0=(j:Int)/\j<l.length/\q l[j]! = true /\ ∀i,i<j->q l[i]! = false:=by
 rcases IV q l _ 0 (XW _)with⟨a,_⟩|⟨j,a,_,c,f,g⟩
 . exact absurd a h
 exact⟨j,a,c,f,λi hi=>g i (Yh _) hi⟩
def ZmE[Inhabited α]{l:List α}(h:d9 q l 0 = -1):l.filter (λx=>!q x)=l:=by
 rcases IV q l _ 0 (XW _)with⟨_,a⟩|⟨j,c,_,f,g,k⟩
 . refine Y1.2 λx E=>?_;obtain⟨i,hi,rfl⟩:=jh.1 E;have:q l[i]! = false:=a i (Yh _) hi;rw[this];rfl
 rw[h]at c;omega
def Zfu{r:Nat}{l:List Dat}(hr:h r=some ⟨td,l.map Dat.d⟩):wk (snap h 2 (.mrow r 0 l.length)) = .l (l.map Dat.d)/\dU h 2 (.mrow r 0 l.length):=by
 have a:aG (.mrow r 0 l.length) h=l.map Dat.d:=by simp only[aG,hr,X4];exact Ye (by simp)
 refine⟨?_,?_⟩
 . rw[snap_mrow,a];simp only[wk,TK,qb]
 refine⟨⟨by rw[hr];rfl,by rw[a];simp⟩,?_⟩;rw[a];intro row j c f;obtain⟨d,_,rfl⟩:=Yp.1 j;simp only[Dat.d,Yl,Y2,or_false]at f;rcases f with rfl|rfl|rfl<;>rfl
def Ch(a b:List Sgd):Bool:=decide (a.length=b.length)&&ax a.length (λi=>decide (a[i]!.set=b[i]!.set)) 0
def gV(l:List Dat):Nat->List Dat
 | 0=>[]
 | k+1=>if k=0\/l[k]! ≠ l[k-1]! then gV l k++[l[k]!]else gV l k
def sQ(l:List Dat):List Dat:=gV l l.length
theorem Ev{l:List Dat}(h:k=0\/l[k]! ≠ l[k-1]!):gV l (k+1)=gV l k++[l[k]!]:=X0 h
theorem Ew{l:List Dat}(h : ¬(k=0\/l[k]! ≠ l[k-1]!)):gV l (k+1)=gV l k:=XV h
theorem Ms(l:List Dat):∀k,(gV l k).length<=k
 | 0=>XW _
 | k+1=>by
  have:=Ms l k;by_cases h:k=0\/l[k]! ≠ l[k-1]!
  . rw[Ev h,X3];simp;omega
  rw[Ew h];omega
theorem Mr{l:List Dat}:∀k,k<=l.length->(∀i,0<i->i<k->l[i]! ≠ l[i-1]!)->gV l k=l.take k
 | 0,_,_=>by simp[gV]
 | k+1,X,h=>by
  rw[Ev,Mr k (by omega) (λi h1 Y=>h i h1 (by omega)),nE! (by omega)];by_cases e:k=0
  . exact .inl e
  exact .inr (h k om om)
theorem QL{l:List Dat}(hs:l.Pairwise λa b=>eD a b<=0):∀k,k<=l.length->j5 eD (gV l k) /\ ∀x,x∈gV l k↔x∈l.take k
 | 0,_=>⟨.nil,λx=>by simp[gV]⟩
 | k+1,X=>by
  let⟨J,h2⟩:=QL hs k om;have c : ∀i j,i<j->j<l.length->eD l[i]! l[j]! <= 0:=λi j f A=>by rw[getElem!_pos l i (by omega),getElem!_pos l j A];exact Y6.1 hs i j om A f
  by_cases h:k=0\/l[k]! ≠ l[k-1]!
  .
   rw[Ev h,nE! (by omega)];refine⟨Zh.2 ⟨J,Z7 _ _,λx E y o=>?_⟩,λx=>by rw[Yu,Yu,h2]⟩;rw[Yk]at o;subst o;obtain⟨i,hi,rfl⟩:=jh.1 ((h2 x).1 E);have m:i<k:=by simp at hi;omega
   rw[show(l.take k)[i]! = l[i]! from by rw[getElem!_pos _ i hi,getElem!_pos l i (by omega),List.getElem_take]];have N:=h.resolve_left (by omega);have K:eD l[k-1]! l[k]! < 0:=by have:=c (k-1) k om om;have g:eD l[k-1]! l[k]! ≠ 0:=λe=>N (ZbA e).symm;omega
   by_cases e:i=k-1
   . rw[e];exact K
   exact u6.le_lt (c i (k-1) om om) K
  rw[Ew h,nE! (by omega)];refine⟨J,λx=>?_⟩;rw[h2,Yu,Yk];refine⟨.inl,λg=>g.elim id λe=>?_⟩;have O:l[k]! = l[k-1]! := YW λq=>h (.inr q);have n:k≠0:=λq=>h (.inl q);rw[e,O];refine jh.2 ⟨k-1,by simp;omega,?_⟩;rw[getElem!_pos _ (k-1) (by simp;omega),getElem!_pos l (k-1) (by omega),List.getElem_take]
def Zns{l:List Dat}(hs:l.Pairwise λa b=>eD a b<=0):j5 eD (sQ l):=(QL hs _ (XW _)).1
theorem Znt{l:List Dat}(hs:l.Pairwise λa b=>eD a b<=0){x:Dat}:x∈sQ l↔x∈l:=by have:=(QL hs _ (XW _)).2 x;rwa [Yt]at this
def ma(l:List Dat)(k:Nat):List (List D):=(gV l k).map Dat.d++(l.map Dat.d).drop (gV l k).length
theorem QM{l:List Dat}(hk:k<=l.length):(ma l k).length=l.length:=by have:=Ms l k;unfold ma;simp;omega
def QN{l:List Dat}(h1:(gV l k).length<=i)(h2:i<l.length):(ma l k).getD i []=[.v (.string (bs l[i]!.t)),.i l[i]!.n,.i l[i]!.m]:=by unfold ma;rw[List.getD_eq_getElem?_getD,YN (by simpa using h1),Y4,YX,show(gV l k).length+(i-(gV l k).length)=i from by omega,YQ,Yi h2,getElem!_pos l i h2];rfl
def Znq{l:List Dat}(h:k=0\/l[k]! ≠ l[k-1]!)(hk:k<l.length):(ma l k).set (gV l k).length [.v (.string (bs l[k]!.t)),.i l[k]!.n,.i l[k]!.m]=ma l (k+1):=by have:=Ms l k;unfold ma;rw[Ev h,List.set_append_right _ _ (by simp),YX,Yq,YE (by simp;omega),Yx,X3,Yv,YR];rfl
theorem Zbe{l:List Dat}(h : ¬(k=0\/l[k]! ≠ l[k-1]!)):ma l (k+1)=ma l k:=by unfold ma;rw[Ew h]
theorem Znp(l:List Dat)(k:Nat):(ma l k).take (gV l k).length=(gV l k).map Dat.d:=by unfold ma;rw[List.take_append_of_le_length (by simp),Ye (by simp)]
theorem Znr{l:List Dat}(hk:k<=l.length)(h : ∀i,0<i->i<k->l[i]! ≠ l[i-1]!):ma l k=l.map Dat.d:=by unfold ma;rw[Mr k hk h,YO,Z4 hk,<-List.map_drop,<-Yv,Zj]
theorem Mt{l:List Dat}(h : ∀i,0<i->i<l.length->l[i]! ≠ l[i-1]!):sQ l=l:=by unfold sQ;rw[Mr _ (XW _) h,Yt]
def ZM.shrink{g:TypeId}{j:Nat}{c:List PS}{h':H}(m:ZM f g td j z a p h)(hs:c.Sublist p)(hz:h' j=some ⟨f,[[.v (.string (bs a)),.mrow z 0 c.length]]⟩)(hr:h' z=some ⟨g,c.map rowP⟩)(k : ∀x∈p,h' x.1=h x.1):ZM f g td j z a c h' :=
 ⟨hz,hr,λx E=>(k x (hs.subset E)).trans (m.d x (hs.subset E)),m.zr,λx E=>m.ne x (hs.subset E),(hs.map _).nodup m.nd,λx E=>m.sig x (hs.subset E)⟩
def kI(f c td:TypeId)(z:Nat)(a:Str)(l:List Sgd)(h h':H)(n n':Nat):Prop :=
 ∃g p,ZM f c td z g a p h'/\lP p=l/\(∀q b,h q=some b->b.ty≠c->b.ty≠td->q≠z->h' q=some b)/\n<=n'
theorem ZkN(p:List PS)(i:Nat):lP (p.eraseIdx i)=(lP p).eraseIdx i:=by simp[lP,List.eraseIdx_eq_take_drop_succ,ZJ,List.map_drop]
theorem Zcy:∀q∈p.map rowP,q.length=5:=λq K=>by obtain⟨x,_,rfl⟩:=Yp.1 K;rfl
theorem Zj6{β:Type}(f:α->β)(l:List α)(i:Nat):(l.map f).eraseIdx i=(l.eraseIdx i).map f:=by simp[List.eraseIdx_eq_take_drop_succ,ZJ,List.map_drop]
def Tj{g:TypeId}{j:Nat}{c:List PS}{n n':Nat}(hz:ZM f g td j z a p h)(hs:c.Sublist p)(hn:n<=n'):kI f g td j a (lP c) h (upd (upd h z (some ⟨g,c.map rowP⟩)) j (some ⟨f,[[.v (.string (bs a)),.mrow z 0 c.length]]⟩)) n n':=by
 refine⟨z,c,hz.shrink hs (bI _ _ _) ?_ (λx E=>?_),rfl,λq b J Y A k=>?_,hn⟩
 . rw[aI _ _ _ _ (λe=>hz.zr e.symm),bI]
 . have:=hz.ne x E;rw[aI _ _ _ _ this.1,aI _ _ _ _ this.2]
 have U:q≠z:=λe=>Y (by rw[e,hz.r]at J;cases J;rfl);rw[aI _ _ _ _ k,aI _ _ _ _ U];exact J
def ZM.fresh{c:TypeId}{g:Nat}(m:ZM c f td z g a p h){q:Nat}{b:Option dE}(hq:h q=none):ZM c f td z g a p (upd h q b) :=
 m.keep λr O=>aI _ _ _ _ λe=>by
  subst e;rcases O with rfl|rfl|⟨x,E,rfl⟩
  . rw[m.z]at hq;cases hq
  . rw[m.r]at hq;cases hq
  rw[m.d x E]at hq;cases hq
def kI.of_fresh{g j:TypeId}{h':H}{n n':Nat}{q:Nat}{b:Option dE}{m:Nat}(s:kI g j td z a l (upd h q b) h' k n')(hq:h q=none)(hn:n<=k)(f:n'<=m):kI g j td z a l h h' n m:=by let⟨o,p,J,Y,A,t⟩:=s;refine⟨o,p,J,Y,λr c O G u v=>A r c ?_ G u v,Yd hn (Yd t f)⟩;rw[aI _ _ _ _ (λe=>by rw[e,hq]at O;cases O)];exact O
def kI.same{c:TypeId}{g:Nat}{n n':Nat}(m:ZM c f td z g a p h)(hn:n<=n'):kI c f td z a (lP p) h h n n':=⟨g,p,m,rfl,λ_ _ h _ _ _=>h,hn⟩
def CZ(l:List Sgd)(t:RSet):List Sgd:=if bV l ⟨t.name,t.ty⟩=true then l.eraseIdx (aV l ⟨t.name,t.ty⟩)else l
def kI.after{j:TypeId}{h1 h2:H}{n m o t:Nat}(s:kI j f td z a l h1 h2 m o)(k : ∀q b,h q=some b->b.ty≠f->b.ty≠td->q≠z->h1 q=some b)(hn:n<=m)(g:o<=t):kI j f td z a l h h2 n t:=by let⟨v,p,h1,h2,A,w⟩:=s;exact⟨v,p,h1,h2,λr c O G u Y=>A r c (k r c O G u Y) G u Y,Yd hn (Yd w g)⟩
def Sgd.withD(s:Sgd)(d:List Dat):Sgd:=⟨{ s.set with data:=d },[]⟩
theorem UG:(p.map rowP).set i (rowP y)=(p.set i y).map rowP:=by rw[List.map_set]
def N9(hi:i<p.length):(p.map rowP).getD i []=rowP p[i]! := by simp[List.getD,hi,getElem!_pos]
def Zho{p:List (List D)}{y:List D}(hi:i<p.length):(p.set i y).getD i []=y:=by simp[List.getD,hi]
theorem WA(hi:i<p.length)(o:y.1=p[i]!.1):(p.set i y).map (·.1)=p.map (·.1):=by
 rw[List.map_set,o,getElem!_pos p i hi];have:p[i].1=(p.map (·.1))[i]'(by simpa using hi):=by simp
 rw[this,List.set_getElem_self]
def Fy(E:x∈p.set i y):x=y\/x∈p:=(List.mem_or_eq_of_mem_set E).symm
def Zjm(h:(p.map (·.1)).Nodup)(hi:i<p.length)(o:y.1=p[i]!.1)(E:x∈p.set i y)(N:x≠y):x∈p/\x.1≠p[i]!.1:=by
 have f:((p.set i y).map (·.1)).Nodup:=by rw[WA hi o];exact h
 refine⟨(Fy E).resolve_left N,λe=>N ?_⟩;have a:y∈p.set i y:=List.mem_iff_getElem.2 ⟨i,by simpa using hi,by simp⟩;obtain⟨j,A,rfl⟩:=Zb E;let⟨k,X,c⟩:=Zb a;have O:((p.set i y).map (·.1))[j]'(by simpa using A)=((p.set i y).map (·.1))[k]'(by simpa using X):=by simp only[List.getElem_map];rw[c,e,o]
 have:=(List.getElem_inj f).1 O;subst this;exact c
def ZM.setD{j c:TypeId}{f:Nat}{h':H}(m:ZM j c td z f a p h)(hi:i<p.length)(d:List Dat)(hz:h' z=h z)(hr:h' f=some ⟨c,(p.map rowP).set i (rowP (p[i]!.1,p[i]!.2.withD d))⟩)(k:h' p[i]!.1=some ⟨td,d.map Dat.d⟩)(t : ∀x∈p,x.1≠p[i]!.1->h' x.1=h x.1) :
  ZM j c td z f a (p.set i (p[i]!.1,p[i]!.2.withD d)) h':=by
 have g:p[i]! ∈ p:=by rw[getElem!_pos p i hi];exact Yz hi
 refine⟨by rw[hz,m.z,Z8],by rw[hr,UG],λx E=>?_,m.zr,λx E=>?_,by rw[WA (y:=(p[i]!.1,p[i]!.2.withD d)) hi rfl];exact m.nd,λx E=>?_⟩
 .
  by_cases e:x=(p[i]!.1,p[i]!.2.withD d)
  . subst e;exact k
  let⟨J,Y⟩:=Zjm (y:=(p[i]!.1,p[i]!.2.withD d)) m.nd hi rfl E e;rw[t x J Y];exact m.d x J
 .
  rcases Fy E with e|E
  . rw[e];exact m.ne p[i]! g
  exact m.ne x E
 rcases Fy E with rfl|E
 . rfl
 exact m.sig x E
def zu(l:List Sgd)(t:RSet):List Sgd :=
 if bV l ⟨t.name,t.ty⟩=true then
  (if(l[aV l ⟨t.name,t.ty⟩]!.set.data.filter λx=>!eB t.data x).length=0 then l.eraseIdx (aV l ⟨t.name,t.ty⟩)
   else l.set (aV l ⟨t.name,t.ty⟩) (l[aV l ⟨t.name,t.ty⟩]!.withD (l[aV l ⟨t.name,t.ty⟩]!.set.data.filter λx=>!eB t.data x)))
 else l
theorem ZmQ(l:List α)(i:Nat)(y:α):(l.set i y).eraseIdx i=l.eraseIdx i:=by rw[List.eraseIdx_eq_take_drop_succ,List.eraseIdx_eq_take_drop_succ,List.take_set_of_le (XW _),List.drop_set_of_lt (Nat.lt_succ_self _)]
theorem La:lP (p.set i y)=(lP p).set i y.2:=by simp[lP,List.map_set]
theorem Nr(a:bV l ⟨t.name,t.ty⟩=false):zu l t=l:=by unfold zu;rw[XV (by rw[a];exact Bool.false_ne_true)]
theorem Nt{K:Nat}(a:bV (lP p) ⟨t.name,t.ty⟩=true)(c:K=aV (lP p) ⟨t.name,t.ty⟩)(hi:K<p.length)(hn : ¬(p[K]!.2.set.data.filter λx=>!eB t.data x).length=0) :
  lP (p.set K (p[K]!.1,p[K]!.2.withD (p[K]!.2.set.data.filter λx=>!eB t.data x)))=zu (lP p) t:=by
 unfold zu;rw[X0 a,<-c,FE hi,XV hn,La]
theorem Nu{K:Nat}(a:bV (lP p) ⟨t.name,t.ty⟩=true)(c:K=aV (lP p) ⟨t.name,t.ty⟩)(hi:K<p.length)(hn:(p[K]!.2.set.data.filter λx=>!eB t.data x).length=0)(y:PS) :
  (lP (p.set K y)).eraseIdx K=zu (lP p) t:=by
 unfold zu;rw[X0 a,<-c,FE hi,X0 hn,La,ZmQ]
def MW(o:List Dat)(t:RSet):List Dat:=if t.ty≠3/\t.ty≠4 then qw o t.data else t.data
def EG(l:List Sgd)(t:RSet):List Sgd :=
 if bV l ⟨t.name,t.ty⟩=true then l.set (aV l ⟨t.name,t.ty⟩) ⟨{ t with data:=MW l[aV l ⟨t.name,t.ty⟩]!.set.data t },[]⟩
 else l.take (aV l ⟨t.name,t.ty⟩)++⟨t,[]⟩::l.drop (aV l ⟨t.name,t.ty⟩)
theorem Zno{a b l:List Dat}(m:j5 eD a)(p:j5 eD b)(hp:l.Perm (b++a))(hs:Sorted eD l):sQ l=qw a b:=by have c:l.Pairwise λa b=>eD a b<=0:=hs;let⟨J,Y⟩:=ZjP _ a b (XW _) m p;refine Gx u6 (Zns c) J λx=>?_;rw[Znt c,Y,hp.mem_iff,Yu];exact Or.comm
theorem ZM.setP{v n:TypeId}{g:Nat}{h':H}(m:ZM v n td z g a p h)(hi:i<p.length){r:Nat}{s:RSet}(hz:h' z=h z)(hr:h' g=some ⟨n,(p.map rowP).set i (rowP (r,⟨s,[]⟩))⟩)(w:h' r=some ⟨td,s.data.map Dat.d⟩)(y : ∀x∈p,x.1≠r)(o:r≠z/\r≠g)(t : ∀x∈p,h' x.1=h x.1):ZM v n td z g a (p.set i (r,⟨s,[]⟩)) h':=by
 refine⟨by rw[hz,m.z,Z8],by rw[hr,UG],λx E=>?_,m.zr,λx E=>?_,?_,λx E=>?_⟩
 .
  rcases Fy E with rfl|E
  . exact w
  rw[t x E];exact m.d x E
 .
  rcases Fy E with rfl|E
  . exact o
  exact m.ne x E
 .
  rw[List.map_set];have f:r ∉ p.map (·.1):=λj=>by let⟨x,E,e⟩:=Yp.1 j;exact y x E e
  exact nodup_set_new m.nd f
 rcases Fy E with rfl|E
 . rfl
 exact m.sig x E
where
 nodup_set_new {l:List Nat} {i r:Nat} (h:l.Nodup) (hr:r ∉ l):(l.set i r).Nodup:=by
  induction l generalizing i with
  | nil=>simp
  | cons x l k =>
   rw[List.nodup_cons]at h;have u:r≠x:=λe=>hr (by simp[e]);have c:r ∉ l:=λe=>hr (by simp[e]);cases i with
   | zero=>rw[Yx,List.nodup_cons];exact⟨c,h.2⟩
   | succ i =>
    rw[YC,List.nodup_cons];refine⟨λj=>?_,k h.2 c⟩;rcases List.mem_or_eq_of_mem_set j with q|q
    . exact h.1 q
    exact u q.symm
def ZkL:lP (p.take i++y::p.drop i)=(lP p).take i++y.2::(lP p).drop i:=by simp[lP,ZJ,List.map_drop]
theorem Zhn:(p.map rowP).take i++rowP y::(p.map rowP).drop i=(p.take i++y::p.drop i).map rowP:=by simp[ZJ,List.map_drop]
def O6(h:x∈p.take i++y::p.drop i):x=y\/x∈p:=by
 rcases Yu.1 h with h|h
 . exact .inr (List.mem_of_mem_take h)
 rcases Yl.1 h with h|h
 . exact .inl h
 exact .inr (List.mem_of_mem_drop h)
def ZM.insP{g k:TypeId}{v rs':Nat}{h':H}(m:ZM g k td z v a p h)(hi:i<=p.length){r:Nat}{s:RSet}(hz:h' z=some ⟨g,[[.v (.string (bs a)),.mrow rs' 0 (p.length+1)]]⟩)(hr:h' rs'=some ⟨k,(p.map rowP).take i++rowP (r,⟨s,[]⟩)::(p.map rowP).drop i⟩)(w:h' r=some ⟨td,s.data.map Dat.d⟩)(A : ∀x∈p,x.1≠r)(n:r≠z/\r≠rs')(u:z≠rs')(N : ∀x∈p,x.1≠rs')(t : ∀x∈p,h' x.1=h x.1):ZM g k td z rs' a (p.take i++(r,⟨s,[]⟩)::p.drop i) h':=by
 refine⟨?_,by rw[hr,Zhn],λx E=>?_,u,λx E=>?_,?_,λx E=>?_⟩
 .
  rw[hz];have:(p.take i++(r,(⟨s,[]⟩:Sgd))::p.drop i).length=p.length+1:=by simp;omega
  rw[this]
 .
  rcases O6 E with rfl|E
  . exact w
  rw[t x E];exact m.d x E
 .
  rcases O6 E with rfl|E
  . exact n
  exact⟨(m.ne x E).1,N x E⟩
 .
  have f:r ∉ p.map (·.1):=λj=>by let⟨x,E,e⟩:=Yp.1 j;exact A x E e
  have e:(p.take i++(r,(⟨s,[]⟩:Sgd))::p.drop i).map (·.1)=(p.map (·.1)).take i++r::(p.map (·.1)).drop i:=by simp[ZJ,List.map_drop]
  rw[e];have c:((p.map (·.1)).take i++(p.map (·.1)).drop i).Nodup:=by rw[Zj];exact m.nd
  rw[List.nodup_append]at c ⊢;refine⟨c.1,List.nodup_cons.2 ⟨λj=>f (List.mem_of_mem_drop j),c.2.1⟩,λx E y o=>?_⟩;rcases Yl.1 o with rfl|o
  . exact λe=>f (e▸List.mem_of_mem_take E)
  exact c.2.2 x E y o
 rcases O6 E with rfl|E
 . rfl
 exact m.sig x E
theorem ZpT(a:bV l ⟨t.name,t.ty⟩=false):EG l t=l.take (aV l ⟨t.name,t.ty⟩)++⟨t,[]⟩::l.drop (aV l ⟨t.name,t.ty⟩):=by unfold EG;rw[XV (by rw[a];exact Bool.false_ne_true)]
theorem ZcC{K:Nat}(a:bV (lP p) ⟨t.name,t.ty⟩=true)(c:K=aV (lP p) ⟨t.name,t.ty⟩)(hi:K<p.length){d:List Dat}(m:d=MW p[K]!.2.set.data t)(r:Nat):lP (p.set K (r,⟨{ t with data:=d },[]⟩))=EG (lP p) t:=by unfold EG;rw[X0 a,<-c,FE hi,La,m]
def ZmG{q:Qst}(t:fe l)(hn : ∀s∈l,ai s.set.name=true)(hq:ai q.name=true) :
  aV l q<=l.length/\(∀k,k<aV l q->qp l[k]!.q q<0)/\(∀k,aV l q<=k->k<l.length -> ¬qp l[k]!.q q<0):=by
 have a : ∀k,k<l.length->qC l[k]!.q q=qp l[k]!.q q:=λk X=>Fj (hn _ (eO X)) hq;let⟨J,Y⟩:=Zcb (λk=>qC l[k]!.q q) l.length (λi j f A h=>by
   rw[a _ (by omega)];rw[a _ A]at h;by_cases e:i=j
   . subst e;exact h
   exact MG.lt_le (yn t (by omega:i<j) A) om) _ 0 l.length (XW _) (Yh _) (XW _) (λk X=>by omega) (λk J Y=>by omega)
 have J : ∀k,k<aV l q->qC l[k]!.q q<0:=J;have Y : ∀k,aV l q<=k->k<l.length -> ¬qC l[k]!.q q<0:=Y;have c:aV l q<=l.length:=(Rh _ _ 0 l.length (XW _) (Yh _)).1;refine⟨c,λk X=>?_,λk X U=>?_⟩
 . rw[<-a k (by omega)];exact J k X
 rw[<-a k U];exact Y k X U
def Md{q:Qst}(hn : ∀s∈l,ai s.set.name=true)(hq:ai q.name=true)(h:bV l q=true):aV l q<l.length/\l[aV l q]!.q=q:=by unfold bV at h;rw[XU,XY,YF]at h;refine⟨h.1,?_⟩;have:=h.2;rw[Fj (hn _ (eO h.1)) hq,Bh]at this;exact this
theorem Qw{q:Qst}(t:fe l)(hn : ∀s∈l,ai s.set.name=true)(hq:ai q.name=true)(h:bV l q=true):fB l q=some l[aV l q]! := by
 rw[Cf t hn hq,X0 h]
theorem Qx{q:Qst}(t:fe l)(hn : ∀s∈l,ai s.set.name=true)(hq:ai q.name=true)(h:bV l q=false):fB l q=none:=by rw[Cf t hn hq,XV (by rw[h];exact Bool.false_ne_true)]
def NT(h:fe l)(hk:k<l.length){s:Sgd}(hq:l[k]!.q=s.q):l.set k s=kw l s:=by rw[Vi h hk hq,List.set_eq_take_append_cons_drop,X0 hk]
theorem ZaW(h:fe l)(hk:k<l.length){q:Qst}(hq:l[k]!.q=q):l.eraseIdx k=Cr l q:=by rw[Zbp h hk hq,List.eraseIdx_eq_take_drop_succ]
theorem Zgd{z:Zon}(h:mi z)(j:ai c.set.name=true)(hk:c.kind=3):CZ z.sets c.set=kT z.sets c:=by
 unfold CZ kT;rw[XV (show ¬c.kind=4 by omega),XV (show ¬c.kind=1 by omega),show c.q=⟨c.set.name,c.set.ty⟩from rfl];cases a:bV z.sets ⟨c.set.name,c.set.ty⟩with
 | false=>rw[XV (by simp),Qx h.ord h.nms j a]
 | true =>
  let⟨J,Y⟩:=Md h.nms (q:=⟨c.set.name,c.set.ty⟩) j a;rw[X0 rfl,Qw h.ord h.nms j a,ZaW h.ord J Y];simp only;rw[XV (λk=>by omega)]
theorem Zez{z:Zon}(h:mi z)(j:ai c.set.name=true)(hk:c.kind=2):zu z.sets c.set=kT z.sets c:=by
 unfold zu kT;rw[XV (show ¬c.kind=4 by omega),XV (show ¬c.kind=1 by omega),show c.q=⟨c.set.name,c.set.ty⟩from rfl];cases a:bV z.sets ⟨c.set.name,c.set.ty⟩with
 | false=>rw[XV (by simp),Qx h.ord h.nms j a]
 | true =>
  let⟨J,Y⟩:=Md h.nms (q:=⟨c.set.name,c.set.ty⟩) j a;rw[X0 rfl,Qw h.ord h.nms j a];simp only;have e:(z.sets[aV z.sets ⟨c.set.name,c.set.ty⟩]!.set.data.filter λx=>!eB c.set.data x)=leftD z.sets[aV z.sets ⟨c.set.name,c.set.ty⟩]!.set.data c.set.data:=(Zky _ _).symm;rw[e];by_cases m:leftD z.sets[aV z.sets ⟨c.set.name,c.set.ty⟩]!.set.data c.set.data=[]
  . rw[X0 (by rw[m];rfl),XV (λk=>k.2 m),ZaW h.ord J Y]
  rw[XV (λk=>m (Yb k)),X0 ⟨hk,m⟩];exact NT h.ord J rfl
theorem ZpU{z:Zon}(h:mi z)(j:ai c.set.name=true)(hk:c.kind=1):EG z.sets c.set=kT z.sets c:=by
 unfold EG kT;rw[XV (show ¬c.kind=4 by omega),X0 hk,show c.q=⟨c.set.name,c.set.ty⟩from rfl];cases a:bV z.sets ⟨c.set.name,c.set.ty⟩with
 | true =>
  let⟨J,Y⟩:=Md h.nms (q:=⟨c.set.name,c.set.ty⟩) j a;rw[X0 rfl,Qw h.ord h.nms j a];exact NT h.ord J Y
 | false =>
  have f:=Qx h.ord h.nms (q:=⟨c.set.name,c.set.ty⟩) j a;rw[XV (by simp),f];let⟨J,Y,A⟩:=ZmG h.ord h.nms (q:=⟨c.set.name,c.set.ty⟩) j;have e:(⟨{ c.set with data:=MK none c },[]⟩:Sgd)=⟨c.set,[]⟩:=rfl;rw[e]
  conv=>rhs;rw[<-Zj (aV z.sets ⟨c.set.name,c.set.ty⟩) z.sets]
  refine(Vg (λx E=>?_) (λx E=>?_)).symm
  .
   obtain⟨k,hk,rfl⟩:=jh.1 E;have g:k<aV z.sets ⟨c.set.name,c.set.ty⟩:=by simp at hk;omega
   rw[show(z.sets.take (aV z.sets ⟨c.set.name,c.set.ty⟩))[k]! = z.sets[k]! from by rw[getElem!_pos _ k hk,getElem!_pos z.sets k (by omega),List.getElem_take]];exact Y k g
  obtain⟨k,hk,rfl⟩:=jh.1 E;have g:aV z.sets ⟨c.set.name,c.set.ty⟩+k<z.sets.length:=by simp at hk;omega
  rw[show(z.sets.drop (aV z.sets ⟨c.set.name,c.set.ty⟩))[k]! = z.sets[aV z.sets ⟨c.set.name,c.set.ty⟩+k]! from by rw[getElem!_pos _ k hk,getElem!_pos z.sets _ g,List.getElem_drop]];have m:=A _ (ZR _ k) g;have U:qp z.sets[aV z.sets ⟨c.set.name,c.set.ty⟩+k]!.q ⟨c.set.name,c.set.ty⟩≠0:=λe=>by rw[Bh]at e;exact Fx.1 f _ (eO g) e
  show 0<qp _ _;have W:(⟨c.set,[]⟩:Sgd).q=⟨c.set.name,c.set.ty⟩:=rfl;rw[W];omega
theorem ZjL(hk:c.kind=4):(l.filter λx=>!dZ c.set.name x)=kT l c:=by unfold kT;rw[X0 hk];rfl
theorem ZkM{q:Sgd->Bool}:lP (p.filter λx=>q x.2)=(lP p).filter q:=by simp[lP,List.filter_map,Function.comp_def]
def Tk{y:Zon}(o:dX y)(j:gp c=true)(h:(c.kind=4/\c.set.name=y.apex)\/ak ⟨y.apex,kT y.sets c⟩=false):zz y c=none:=by unfold zz;rw[Pb o.zo (EC j),X0 h]
def ZeH{y:Zon}(o:dX y)(j:gp c=true)(h1 : ¬(c.kind=4/\c.set.name=y.apex))(h2:ak ⟨y.apex,kT y.sets c⟩=true):zz y c=some ⟨y.apex,kT y.sets c⟩:=by unfold zz;rw[Pb o.zo (EC j),XV (by rintro (k|k);exact h1 k;rw[h2]at k;cases k)]
def Zb1(h:gp c=true):c.kind=1\/c.kind=2\/c.kind=3\/c.kind=4:=by unfold gp at h;rw[XU]at h;have:=h.2;grind
theorem Zpm{z:Zon}(h:dX z):z.sets.map Sgd.bare=z.sets:=by
 conv=>rhs;rw[<-List.map_id z.sets]
 refine Y3 λs N=>?_;have:=h.sig s N;cases s;simp only at this;subst this;rfl
def E5(f:D):Sgd->Bool:=match f with
 | .fn (.func k) _ [d]=>if k=132 then dZ (Ji d).set.name else dZ (CY d).name
 | _=>uP
def semB_pl:E5 (.fn (.func 131) [] [])=uP:=rfl
def semB_ho{l:List D}:E5 (.fn (.func 132) [] [.eptr l])=dZ (Ji (.eptr l)).set.name:=rfl
attribute[go_sem]semB_pl semB_ho
end Go.Zon
namespace Go.DL
open Go.RowKit
variable{P:Program}{Q:Exit->S->Prop}{ops:Array Oper}{ro:Option Nat}{x:Operand}
variable[Glob P]
variable [Dr]
def Zg3{t e:TypeId}{m:Nat}{a:Addr}{w:World}(ht:P.underlying t=some (.array m e))(hs:P.cellsOf e=1)(h0:0<m):(Instr.sliceAt t (.pointer (some a)) none none none).run P w = .ok (.slice (some a) m m) w:=by have Y:=rG (P:=P) (w:=w) (t:=e) (by omega:0<P.cellsOf e);have c:a.add 0=a:=rfl;simp[Instr.sliceAt,Instr.sureAddr,Instr.sliceBounds,run_underlying ht,Y,c]
theorem Zgl{C:aO}{s s1:S}{i b:Nat}(k:Nat){o:Oper}{t e:TypeId}{r m:Nat}{row:List D}{O:TypeId}(z9:eG P C ops i k o b s s1)(z:o.op = .slice t x none none none)(ht:P.underlying t=some (.array m e))(h1:P.cellsOf e=1)(E:s1.ev x = .mptr r 0 0)(hr:s1.h r=some ⟨O,[row]⟩)(v:row.length=m)(h0:0<m)(Z:m<=1000000)(hv : ∀d∈row,∃x:Value,d = .v x/\x.oneCell'=true)(hk:aA P ro ops (k+1) b { n:=s1.n,t:=s1.put o.dst (.list true (row.map λd=>[d])),h:=upd s1.h r none,nx:=s1.nx,ok:=True,e:=s1.e } Q):aA P ro ops i b s Q:=by
 let⟨R,ho,M,J,G,T⟩:=z9;have f:aX row=true:=by
  clear v hr hk;induction row with
  | nil=>rfl
  | cons d l ih =>
   obtain⟨x,rfl,_⟩:=hv d (by simp);simp only[aX,D.nr,ZE];exact ih λd T=>hv d (List.mem_cons_of_mem _ T)
 refine jP (C:=C) k (λd I=>d = .list true (row.map λd=>[d])/\I=upd s1.h r none) R ho M (λc e=>by rw[z]at e;cases e) J G T (λB g a w L ab=>?_) (λd I⟨V,hh⟩=>by subst V;subst hh;exact hk);have W:=bT L x;rw[E]at W;have F:=Qh L.mem hr f W;generalize ja:a.eval x=vx at W F;cases F with|eptr _ p cv hI hc N =>
 have mono:=Eo g r w;have U:=Zg3 (P:=P) (w:=w) (a:=p) ht h1 h0;refine⟨_,_,⟨rfl,rfl⟩,.slice (some p) m m,ol g r,w,.inl ?_,?_,FY L.mem r,mono,λq K=>.inl K⟩
 . let⟨od,oo,gT,op,oa,og⟩:=o;simp only at z;subst z;simp[execOp,ja,U]
 have X:(row.map λd=>[d]).length=m:=by simpa using v
 rw[<-X];refine .list true _ p _ 1 (λi _=>cv i) hI (XW _) (λ_=>rfl) (by rw[X];simp only[maxLen];omega) (λr hr=>?_) (λi j r d h1 Y=>?_) (λi j r d h1 Y=>?_)
 . obtain⟨d,_,rfl⟩:=Yp.1 hr;rfl
 .
  obtain⟨u,A,rfl⟩:=ji h1;have:j=0:=by
   cases j with
   | zero=>rfl
   | succ j=>simp at Y
  subst this;obtain rfl:u=d:=by simpa using Y
  obtain⟨y,rfl,V⟩:=hv u (Ym A);refine⟨by simpa using hc i _ A,?_⟩;rw[(N i _ A).v_inv];exact V
 obtain⟨u,A,rfl⟩:=ji h1;have:j=0:=by
  cases j with
  | zero=>rfl
  | succ j=>simp at Y
 subst this;obtain rfl:u=d:=by simpa using Y
 exact N i _ A
theorem HM.more{h:H}{g:Mem}{w w':World}(v:HM P h g w)(y:w'.os=w.os)(O:w'.tape=w.tape)(k:w'.output=w.output)(N:w'.heap.size=w.heap.size+1)(n:w.drawn<=w'.drawn)(f : ∀j,j<w.heap.size->w'.heap[j]? = w.heap[j]?) :
  HM P h { g with I:=λb=>g.I b\/b=w.heap.size } w'/\ay g { g with I:=λb=>g.I b\/b=w.heap.size } w w':=by
 have mono:ay g { g with I:=λb=>g.I b\/b=w.heap.size } w w' :=
  ⟨y,O,k,om,λ_=>n,λ_ h=>h,λ_ _=>.inl rfl,λr b c s h=>.inl ⟨r,c,s,h⟩,λ_ h=>.inl h,λb h=>by rcases h with h|rfl;exact .inl h;exact .inr (.inl (XW _)),λb p _=>f b p⟩
 refine⟨⟨v.dead,λr R o=>?_,v.inj,v.used,λb p=>?_,v.gr.later (v.kept mono)⟩,mono⟩
 .
  let⟨G,c,J,Y,A,t,U⟩:=v.blk r R o;refine⟨G,c,J,Y,A,t,?_⟩;rcases U with U|⟨b,L,rfl,W,x,T,V⟩
  . exact .inl U
  have K:=(pY v J).1;refine .inr ⟨b,L,rfl,by rw[f b K];exact W,x,λa=>?_,λi row hi=>?_⟩
  .
   rcases a with a|a
   . exact T a
   omega
  let⟨z,B⟩:=V i row hi;refine⟨z,λj d m=>?_⟩;let⟨u,E,F,M⟩:=B j d m;exact⟨u,E,F,M.later v mono⟩
 rcases p with p|rfl
 . have:=v.imm b p;omega
 omega
def AU(b:UInt8):List D:=[.v (.int .u8 b.toNat)]
theorem Zgz{C:aO}{s s1:S}{i b:Nat}(k:Nat){o:Oper}{f dst e:TypeId}{u:TypeDesc}{sb:ByteArray}(z9:eG P C ops i k o b s s1)(v:o.op = .convert f dst x)(hs:P.underlying f=some u)(T:P.underlying dst=some (.slice e))(V:P.underlying e=some (.int .u8))(Z:s1.ev x = .v (.string sb))(hl:sb.size<=1000000)(hk:aA P ro ops (k+1) b { n:=s1.n,t:=s1.put o.dst (.list false (sb.data.toList.map AU)),h:=s1.h,nx:=s1.nx,ok:=True,e:=s1.e } Q):aA P ro ops i b s Q:=by
 let⟨R,ho,M,he,G,m⟩:=z9;refine jP (C:=C) k (λd I=>d = .list false (sb.data.toList.map AU)/\I=s1.h) R ho M (λc e=>by rw[v]at e;cases e) he G m (λB g a w y ab=>?_) (λd I⟨hy,p⟩=>by subst hy;subst p;exact hk);have N:=bT y x;rw[Z]at N;have N:=N.v_inv;have U:=Go.Lib.run_convert_string_bytes w f dst e sb hs T V;have E:=Go.Lib.bytesWorld_size w e sb;let⟨m1,m2⟩:=y.mem.more (w':=Go.Lib.bytesWorld w e sb) o1N o1N o1N E (by unfold Go.Lib.bytesWorld Go.World.freeze;split<;>exact Nat.le_succ _) (λj hj=>Go.Lib.bytesWorld_at_old w e sb j hj);refine⟨_,_,⟨rfl,rfl⟩,.slice (some ⟨w.heap.size,0,none⟩) sb.size (grownCap w sb.size 0 e),_,Go.Lib.bytesWorld w e sb,.inl ?_,?_,m1,m2,λq K=>.inl K⟩
 . let⟨od,oo,gT,op,oa,og⟩:=o;simp only at v;subst v;simp[execOp,N,U]
 have F:(sb.data.toList.map AU).length=sb.size:=by simp
 have L:grownCap w sb.size 0 e<=maxLen:=grownCap_le_maxLen _ _ _ _ o2V;have W:=grownCap_ge w sb.size 0 e;refine(congrArg (λz=>ae (Go.Lib.bytesWorld w e sb) _ _ (Value.slice (some ⟨w.heap.size,0,none⟩) z (grownCap w sb.size 0 e))) F).mp ?_;refine .list false _ ⟨w.heap.size,0,none⟩ _ 1 (λi _=>.int .u8 (sb.data.toList.getD i 0).toNat) (.inr rfl) (by rw[F];exact W) (λq=>by cases q) L (λr O=>?_) (λi j r d J Y=>?_) (λi j r d J Y=>?_)
 . obtain⟨d,_,rfl⟩:=Yp.1 O;rfl
 .
  obtain⟨X,A,rfl⟩:=ji J;have:j=0:=by
   cases j with
   | zero=>rfl
   | succ j=>simp[AU]at Y
  subst this;have hi:i<sb.size:=by have:=(X8.1 A).1;simpa using this
  refine⟨?_,rfl⟩;have:=Go.Lib.bytesWorld_cell w e sb i hi;rw[oQ];simpa using this
 obtain⟨X,A,rfl⟩:=ji J;have:j=0:=by
  cases j with
  | zero=>rfl
  | succ j=>simp[AU]at Y
 subst this;have e9:sb.data.toList.getD i 0=X:=by simp[List.getD,A]
 rw[e9];obtain rfl:D.v (.int .u8 X.toNat)=d:=by simpa[AU]using Y
 exact .v _
section
variable [Glob P] (C : aO) {s s1 : S} {ops : Array Oper} {i b : Nat} (k : Nat) {o : Oper}
def Zl8{t e a:TypeId}{r m:Nat}{row:List D}(hk:aA P ro ops (k+1) b { n:=s1.n,t:=s1.put o.dst (.list true (row.map λd=>[d])),h:=upd s1.h r none,nx:=s1.nx,ok:=True,e:=s1.e } Q)(v:row.length=m)(hv : ∀d∈row,∃x:Value,d = .v x/\x.oneCell'=true)(z9:eG P C ops i k o b s s1:=by exact pos)(c:o.op = .slice t x none none none:=by exact rfl)(ht:P.underlying t=some (.array m e):=by kernel_rfl)(h1:P.cellsOf e=1:=by kernel_rfl)(E:s1.ev x = .mptr r 0 0:=by simp only[go_sem,ff];first|done|exact rfl)(hr:s1.h r=some ⟨a,[row]⟩:=by simp only[go_sem,ff];first|done|exact rfl)(h0:0<m:=by omega)(f:m<=1000000:=by omega):aA P ro ops i b s Q :=
 Zgl k z9 c ht h1 E hr v h0 f hv hk
def gconv{a dst e:TypeId}{u:TypeDesc}{sb:ByteArray}(hk:aA P ro ops (k+1) b { n:=s1.n,t:=s1.put o.dst (.list false (sb.data.toList.map AU)),h:=s1.h,nx:=s1.nx,ok:=True,e:=s1.e } Q)(g:sb.size<=1000000)(hs:P.underlying a=some u:=by kernel_rfl)(c:P.underlying dst=some (.slice e):=by kernel_rfl)(f:P.underlying e=some (.int .u8):=by kernel_rfl)(z9:eG P C ops i k o b s s1:=by exact pos)(r:o.op = .convert a dst x:=by exact rfl)(E:s1.ev x = .v (.string sb):=by simp only[go_sem,ff];first|done|exact rfl):aA P ro ops i b s Q :=
 Zgz k z9 r hs c f E g hk
end
def MQ{α:Type}{ds:List D}{us:Array α}{i:Nat}{d:D}(hn:ds.length=us.size)(h:ds[i]? = some d):∃u,us[i]? = some u:=by have:=(X8.1 h).1;exact⟨us[i]'(by omega),ZK _⟩
theorem ae.shrink{w w':World}{g g' g2:Mem}(T:g2.M=g'.M)(U:g2.I=g'.I)(Z : ∀r,g.U r->g2.U r){d:D}{x:Value}(h:ae w' g' d x):∀{y:Value},ae w g d y->ae w' g2 d x:=by
 induction h with
 | v x=>intro y _;exact .v x
 | agg ds X L _ c =>
  intro y k;cases k with
  | agg _ us m Y=>exact .agg ds X L λi d x J A=>by let⟨u,z⟩:=MQ m J;exact c i d x J A (Y i d u J z)
 | tuple ds X L _ c =>
  intro y k;cases k with
  | tuple _ us m Y=>exact .tuple ds X L λi d x J A=>by let⟨u,z⟩:=MQ m J;exact c i d x J A (Y i d u J z)
 | iface t d x _ c =>
  intro y k;cases k with
  | iface _ _ _ Y=>exact .iface t d x (c Y)
 | empty n a I F hm=>intro y _;exact .empty n a I F hm
 | list n V ad I O cv hi hl F hm N R _ c =>
  intro y k;refine .list n V ad I O cv (by rw[U];exact hi) hl F hm N R λi j r d J Y=>?_;cases k with
  | empty=>simp at J
  | list _ _ _ _ _ ab _ _ _ _ _ _ G=>exact c i j r d J Y (G i j r d J Y)
 | eptr M p cv hi R _ c =>
  intro y k;cases k with
  | eptr _ p2 ab _ _ G=>exact .eptr M p cv (by rw[U];exact hi) R λj d J=>c j d J (G j d J)
 | mrow r off W x E z h =>
  intro y k;cases k with
  | mrow _ _ _ _ _ o _=>exact .mrow r off W x E (Z r o) (by rw[T];exact h)
 | mptr r i off x E z h =>
  intro y k;cases k with
  | mptr _ _ _ _ _ o _=>exact .mptr r i off x E (Z r o) (by rw[T];exact h)
 | mp r x E z h =>
  intro y k;cases k with
  | mp _ _ _ o _=>exact .mp r x E (Z r o) (by rw[T];exact h)
 | fmap kv b es fZ hi hb L _ c =>
  intro y k;cases k with
  | fmap _ b2 ac b8 _ _ m Y =>
   exact .fmap kv b es fZ (by rw[U];exact hi) hb L λi d x J A=>by
    have K:i<(qz ac).length:=by rw[<-m];exact(X8.1 J).1
    exact c i d x J A (Y i d _ J (Yi K))
 | fn f first aD B M F R _ _ am aq =>
  intro y k;cases k with
  | fn _ _ _ b9 bb ar aw q1 q2 =>
   exact .fn f first aD B M F R (λi d x J A=>by let⟨u,z⟩:=MQ ar J;exact am i d x J A (q1 i d u J z)) λi d x J A=>by let⟨u,z⟩:=MQ aw J;exact aq i d x J A (q2 i d u J z)
 | cond b d x _ F c =>
  intro y k;cases k with
  | cond _ _ y b7 _=>exact .cond b d x (λe=>c e (b7 e)) F
 | junk x=>intro y _;exact .junk x
theorem Zoo [Glob P]{f:FuncId}{args:List D}{h:H}{res:D}(o:res.nr=true)(B : ∀n,bG P f args h n (λd h' E=>d=res/\h'=h/\n<=E)):∀b,Ct P f args h b res h:=λb=>by
 refine⟨(B 0).1,λw g X n k Z hb O=>?_⟩;refine((B n).2 w g X k Z O).mono ?_;rintro e w' ⟨v,L,d,h',E,⟨rfl,rfl,_⟩,he,hv,x,mono,iP⟩;let t:Mem:={ M:=L.M,U:=g.U,I:=L.I };have a : ∀r,L.M r≠none->g.U r:=λr O=>by
  cases p:h' r with
  | none=>exact absurd (x.dead r p) O
  | some R =>
   let⟨G,c,J,_⟩:=k.blk r R p;exact k.used r (by rw[J];exact λq=>by cases q)
 refine⟨v,t,he,hv.clean o λ_ h=>h,⟨x.dead,λr R O=>?_,x.inj,a,x.imm,x.gr⟩,⟨mono.os,mono.tape,mono.output,mono.size,mono.drawn,λ_ h=>h,mono.M,mono.new,mono.I,mono.inew,mono.same⟩,λr O=>.inl O⟩;let⟨G,c,J,Y,A,h4,y⟩:=x.blk r R O;refine⟨G,c,J,Y,A,h4,?_⟩;rcases y with y|⟨b2,z,rfl,W,h7,T,V⟩
 . exact .inl y
 refine .inr ⟨b2,z,rfl,W,h7,T,λi row hi=>⟨(V i row hi).1,λj d m=>?_⟩⟩;let⟨u,k3,k4,k5⟩:=(V i row hi).2 j d m;refine⟨u,k3,k4,?_⟩;let⟨F,c0,m1,m2,m3,m4,K⟩:=k.blk r R O;rcases K with⟨_,K⟩|⟨b3,N,rfl,m6,m7,m8,m9⟩
 . have:i<R.rows.length:=(X8.1 hi).1;omega
 let⟨u0,_,_,q5⟩:=(m9 i row hi).2 j d m;exact ae.shrink (w:=w) (g:=g) (g':=L) (g2:=t) rfl rfl (λ_ h=>h) k5 q5
end Go.DL
namespace Go.Zon
open Go.DL Go.Str Go.Rec Go.Cmp Go.Jn
variable{ks:List SKey}{o:List Zon}{z:Zon}
theorem Vr(h:dX z):plainOf z=z:=by unfold plainOf;rw[ZfS h.ty]
def ZoN(h:dX z):(fJ z).2=0\/(fJ z).2=2:=by
 unfold fJ;rw[Vr h,XV (by rw[h.ok];simp),XV (by rw[h.ok];simp)];split
 . exact .inr rfl
 exact .inl rfl
def Zb4(h:dX z)(e:(fJ z).2=0):(fJ z).1.apex=z.apex /\ ∀s∈z.sets,s∈(fJ z).1.sets:=by
 unfold fJ at e ⊢;rw[Vr h,XV (by rw[h.ok];simp),XV (by rw[h.ok];simp)]at e ⊢;split at e
 . cases e
 rename_i f;rw[XV f];exact⟨rfl,λs N=>ZoM N⟩
def ZpL(z:Zon)(ks:List SKey)(f u:Int):(allR z ks f u).2=0\/(allR z ks f u).2=1\/(allR z ks f u).2=5:=by
 unfold allR
 repeat' split
 all_goals simp
def Zfs(h:qR ks=false):∀i,0<i->i<(di ks).length->(di ks)[i-1]!.n<(di ks)[i]!.n:=by
 intro i p hi;have f:((di ks).map SKey.n).Nodup:=by
  have J:(ks.map SKey.n).Nodup:=by simpa[qR]using h
  exact((zD ks).map SKey.n).nodup_iff.2 J
 have J:=Y6.1 (TE ks) (i-1) i (by omega) hi (by omega);have Y:=Y6.1 (List.pairwise_map.1 f) (i-1) i (by omega) hi (by omega);rw[getElem!_pos (di ks) (i-1) (by omega),getElem!_pos (di ks) i hi];omega
structure AllOk(z:Zon)(ks:List SKey)(f u:Int):Prop where
 eq:(allR z ks f u).1=jy z (di ks) f u
 ok:ak z=true
 sok:ak (jy z (di ks) f u)=true
 dup:qR ks=false
 sg : ∀i,i<z.sets.length->iW (bB z) i=true -> ∀k∈di ks,(fu z.sets[i]!.set z.apex k f u).2=0
theorem RA{f u:Int}(e:(allR z ks f u).2=0):AllOk z ks f u:=by
 unfold allR at e;split at e
 . cases e
 rename_i J;split at e
 . cases e
 rename_i Y;split at e
 . cases e
 rename_i A;split at e
 . cases e
 rename_i c;have X:(di ks).length<=6:=by rw[(zD ks).length_eq];omega
 have g : ∀k∈di ks,uD k=true:=by
  intro k X;have:ks.all uD=true:=by simpa using Y
  exact YA.1 this k ((zD ks).mem_iff.1 X)
 have h:oU f u=true:=by
  cases q:oU f u with
  | true=>rfl
  | false=>exact absurd (.inr (.inr (.inl q))) J
 have V:ak z=true:=by
  cases q:ak z with
  | true=>rfl
  | false=>exact absurd (.inr (.inr (.inr q))) J
 have m:qR ks=false:=by simpa using A
 have a : ∀i,i<z.sets.length->iW (bB z) i=true -> ∀k∈di ks,(fu z.sets[i]!.set z.apex k f u).2=0:=by
  intro i hi t k U;have j:ax z.sets.length (rH z (di ks) f u) 0=true:=by simpa using c
  have W:=(dG _ _ _).1 j i (Yh _) hi;unfold rH at W;rw[t]at W;simp only[Bool.not_true,Bool.false_or,YA,XY]at W;exact W k U
 refine⟨?_,V,ZgM V X g h (Zfs m) a,m,a⟩;unfold allR;rw[XV J,XV Y,XV A,XV c]
noncomputable def kM(v:Zon)(ks:List SKey)(f u:Int):Zon×Int:=allR (fJ v).1 ks f u
structure ZpV(x0 x1:Zon)(ks:List SKey):Prop where
 ok0:ak x0=true
 ok1:ak x1=true
 pull:o9 ⟨true,x0,0⟩ [x0,x1] 5=(⟨true,x1,5⟩,0)
 own : ∀i,i<x1.sets.length->(uL x1)[i]! = true->x1.sets[i]!.sigs.length=(di ks).length /\ ∀n,n<(di ks).length->y7 x1.sets[i]!.set x1.sets[i]!.sigs[n]! (di ks)[n]! = true
theorem ZiK(h:ak z=true){i:Nat}(hi:i<z.sets.length):(uL z)[i]! = iW (bB z) i:=by unfold uL;rw[OB _ _ _ hi,<-Rl (zL.1 (by unfold ak at h;simp only[XU]at h;exact h.1.1.1.1.1))];rfl
theorem ZgN(c:zb z o)(h2:o.length=2){f u:Int}(F:(fJ o[0]!).2=0)(w:(fJ o[1]!).2=0)(a0:(kM o[0]! ks f u).2=0)(I:(kM o[1]! ks f u).2=0):ZpV (kM o[0]! ks f u).1 (kM o[1]! ks f u).1 ks:=by
 have j:=RA a0;have a:=RA I;have A:=c.pl 0 (by omega);have E:=c.pl 1 (by omega);let⟨p0,K⟩:=Zb4 A F;let⟨g,B⟩:=Zb4 E w;have L:aL (kM o[0]! ks f u).1=aL o[0]! := by
  unfold kM;rw[j.eq,Uy];exact Ur A.ok j.ok p0 K
 have s1:aL (kM o[1]! ks f u).1=aL o[1]! := by
  unfold kM;rw[a.eq,Uy];exact Ur E.ok a.ok g B
 have r:(kM o[0]! ks f u).1.apex=z.apex:=by unfold kM;rw[j.eq];show(fJ o[0]!).1.apex=_;rw[p0,c.ap 0 (by omega)]
 have v:(kM o[1]! ks f u).1.apex=z.apex:=by unfold kM;rw[a.eq];show(fJ o[1]!).1.apex=_;rw[g,c.ap 1 (by omega)]
 have x:ak (kM o[0]! ks f u).1=true:=by unfold kM;rw[j.eq];exact j.sok
 have G:ak (kM o[1]! ks f u).1=true:=by unfold kM;rw[a.eq];exact a.sok
 have m:=c.vers.bef 0 (by omega);have N:=c.far (f:=0) (by omega) 1 (by omega) (by omega);rw[<-L,<-s1]at m N;have M:pX [(kM o[0]! ks f u).1,(kM o[1]! ks f u).1]:=by
  refine⟨λi hi=>?_,λi hi=>?_,λi hi=>?_⟩
  .
   match i,hi with
   | 0,_=>exact x
   | 1,_=>exact G
  .
   match i,hi with
   | 0,_=>rfl
   | 1,_=>exact v.trans r.symm
  match i,hi with
  | 0,_=>exact m
 refine⟨x,G,(Zig M (by simp) (f:=0) (by simp) (s:=⟨true,(kM o[0]! ks f u).1,0⟩) ((Ux rfl).2 ⟨⟨Int.le_refl _,by show(0:Int)<=10000000;omega⟩,x⟩) rfl rfl (λi J h2=>?_) (t:=5) (by show(0:Int)<=5;omega) om).2.2,λi hi h=>?_⟩
 .
  match i,J,h2 with
  | 1,_,_=>exact N
 rw[ZiK G hi]at h;unfold kM at hi h ⊢;rw[a.eq]at hi h ⊢;rw[ZiJ]at h;have p:i<(fJ o[1]!).1.sets.length:=by rw[GK]at hi;exact hi
 rw[Ki p];unfold AZ;rw[X0 h];refine⟨by simp,λn y=>?_⟩;show y7 _ (((di ks).map _)[n]!) _=true;rw[getElem!_pos ((di ks).map λk=>(fu (fJ o[1]!).1.sets[i]!.set (fJ o[1]!).1.apex k f u).1) n (by simpa using y),List.getElem_map,getElem!_pos (di ks) n y];exact ZoL (a.sg i p h _ (Yz y))
def Bn{l:List Sgd}{ps:List Int}(a:cZ l)(hp : ∀i,i<ps.length->ps[i]! < (l.length:Int))(hn:ps.length<=1000000):cZ (nM l ps):=by have J:=Ou l ps ps.length;refine⟨Yd J hn,λk X=>?_⟩;have c:=Ot l ps hp ps.length (XW _) _ (eO X);let⟨i,hi,A⟩:=jh.1 c;have Y:=a.2 i hi;rw[A]at Y;exact Y
def ZhH{l:List Sgd}(a:cZ l)(c:Str):(Kt l c).length<=1000000:=by
 unfold Kt;refine Yd (Oo _ _ _ _) ?_;by_cases h:(bK l ⟨c,2⟩).toNat<l.length
 . have:=(a.2 _ h).1;omega
 rw[getElem!_neg l _ h];exact(by decide:2+(default:Sgd).set.data.length<=1000000)
def Zeg{v:Vw}(a:cZ v.z.sets)(k:Nat):cZ (fA v k).1.sets:=by
 have P:=tN v.z.sets;have C:=xU v.z.sets;unfold fA;split
 .
  dsimp only;split
  . exact FZ
  exact Bn a (Vp _ _ _ _) (ZhH a _)
 . exact Bn a (K5 (P _)) (by simp)
 . exact Bn a (K5 (P _)) (by simp)
 .
  dsimp only;split
  . exact Bn a (FB (P _) (C _)) (by simp)
  exact FZ
 . exact Bn a (FB (P _) (C _)) (by simp)
 . exact Bn a (FB (P _) (C _)) (by simp)
 dsimp only;split
 . exact FZ
 exact Bn a (Hr (P _) (C _) (C _)) (by simp)
def Zjq{v:Vw}(a:cZ v.z.sets):cZ (Bv v).sets:=by
 refine Bn a (Hr (tN _ _) (xU _ _) ?_) (by simp);split
 . omega
 exact xU _ _
theorem go_fit{z:Zon}{q:Qst}(a:cZ z.sets):∀f k,cZ (xZ z q f k).sets
 | 0,k=>Zjq (v:=wW z q k) a
 | f+1,k=>by
  unfold xZ;split
  . exact Zeg (v:=wW z q k) a k
  exact go_fit a f (k+1)
def ZpE(q:Qst)(a:cZ z.sets):cZ (pU z q).1.sets:=by
 unfold pU
 repeat' split
 . exact FZ
 . exact FZ
 . exact FZ
 exact go_fit a 7 0
noncomputable def wZ(o:List Zon)(ks:List SKey)(f u:Int)(k:Nat):List Zon:=(o.take k).map λv=>(allR (fJ v).1 ks f u).1
@[go_sem]theorem slTo_0{f u:Int}:wZ o ks f u 0=[]:=rfl
theorem NH{f u:Int}{k:Nat}(h:k<=o.length):(wZ o ks f u k).length=k:=by unfold wZ;simp;omega
def ZfE{f u:Int}{k:Nat}(h:k<o.length):(wZ o ks f u k).map Zon.d++[[.v (.string (bs (allR (fJ o[k]!).1 ks f u).1.apex)),.l ((allR (fJ o[k]!).1 ks f u).1.sets.map Sgd.d)]]=(wZ o ks f u (k+1)).map Zon.d:=by unfold wZ;rw[nE! h,Yv,Yv];rfl
structure ZpW(L:List Zon)(ks:List SKey):Prop where
 len:L.length=2
 ok:ak L[1]! = true
 pull:o9 ⟨true,L[0]!,0⟩ L 5=(⟨true,L[1]!,5⟩,0)
 dup:qR ks=false
 own : ∀i,i<L[1]!.sets.length->(uL L[1]!)[i]! = true->L[1]!.sets[i]!.sigs.length=(di ks).length /\ ∀n,n<(di ks).length->y7 L[1]!.sets[i]!.set L[1]!.sets[i]!.sigs[n]! (di ks)[n]! = true
theorem ZkB(g:zb z o)(h2:o.length=2){f u:Int}(j : ∀i,i<o.length->(fJ o[i]!).2=0)(m : ∀i,i<o.length->(allR (fJ o[i]!).1 ks f u).2=0):ZpW (wZ o ks f u o.length) ks:=by
 have c:=ZgN g h2 (j 0 (by omega)) (j 1 (by omega)) (m 0 (by omega)) (m 1 (by omega));have h:=RA (m 1 (by omega));have k:wZ o ks f u o.length=[(kM o[0]! ks f u).1,(kM o[1]! ks f u).1]:=by
  match o,h2 with
  | [a,b],_=>rfl
 rw[k];exact⟨rfl,c.ok1,c.pull,h.dup,c.own⟩
def Zdk(z:Zon)(u:Upd):mr z [u]=([],false)\/(∃o,mr z [u]=(o,true)/\lN z [u] [u].length=some o/\o.length≠2) \/ ∃o,mr z [u]=(o,true)/\lN z [u] [u].length=some o/\o.length=2:=by
 rcases a:lN z [u] [u].length with _|o
 . left;unfold mr;rw[a]
 right;have h:mr z [u]=(o,true):=by unfold mr;rw[a]
 by_cases e:o.length=2
 . exact .inr ⟨o,h,rfl,e⟩
 exact .inl ⟨o,h,rfl,e⟩
@[go_sem]theorem upds1_1{f g c:Bool}{a b:List (List D)}:CJ (.list f [[.list g a,.list c b]])=[⟨EB (.list g a),EB (.list c b)⟩]:=rfl
def Zjr(h:ak z=true):uQ z:=G8 (by rw[<-OD];unfold ak at h;simp only[XU]at h;exact h.1.1.1.1.1)
end Go.Zon
namespace Go.DL
open Go.RowKit Go.ChangeShapes Go.WideShapes
variable{H:Type}{P:Program}{v:Value}{w:World}
variable[Glob P]
variable [Dr]
def RG(Q:TypeId->List D->Prop):List Field->List D->Prop
 | [],ds=>ds=[]
 | f::B,ds=>∃a b,ds=a++b/\Q f.type a/\RG Q B b
def Sh(P:Program)[Glob P]:Nat->TypeId->List D->Prop
 | 0,_,_=>False
 | k+1,t,ds=>match P.underlying t with
  | some .bool=>∃b,ds=[.v (.bool b)]
  | some (.int q)=>∃n,ds=[.v (.int q n)]/\(Lit.int q n).wf=true
  | some .string=>∃s,ds=[.v (.string s)]/\s.size<=maxLen
  | some (.slice e)=>∃V,ds=[.list false V] /\ ∀r∈V,Sh P k e r
  | some (.struct B)=>RG (Sh P k) B.toList ds
  | _=>False
def AY(P:Program)[Glob P]:Nat->TypeId->Bool
 | 0,_=>false
 | k+1,t=>match P.underlying t with
  | some .bool|some (.int _)|some .string=>true
  | some (.slice e)=>decide (0<P.cellsOf e)&&decide (e<P.types.size)&&AY P k e
  | some (.struct B)=>B.toList.all λf=>decide (f.type<P.types.size)&&AY P k f.type
  | _=>false
def ze(w:World)(g:Mem)(ds:List D)(cs:List Value):Prop:=aF w g ds cs /\ ∀v∈cs,v.oneCell'=true
theorem ze.nil{g:Mem}:ze w g [] []:=⟨.nil,λv h=>by cases h⟩
def ze.one{g:Mem}{d:D}(h:ae w g d v)(h1:v.oneCell'=true):ze w g [d] [v] :=
 ⟨.cons h .nil,λu a=>by rw[Yk]at a;subst a;exact h1⟩
def ze.append{g:Mem}{ds a:List D}{cs us:List Value}(h:ze w g ds cs)(k:ze w g a us):ze w g (ds++a) (cs++us) :=
 ⟨h.1.append k.1,λv u=>(Yu.1 u).elim (h.2 v) (k.2 v)⟩
def Q9{a:Addr}(h:w.cell? a=some v):a.block<w.heap.size:=by
 unfold World.cell? at h;split at h
 . rename_i c _ _ p;exact(Yo.1 p).1
 cases h
theorem ZoT{c:Nat}{a:Addr}{n:Nat}{cs:List Value}(h:w.cells? c a n=some cs):cs.length=n /\ ∀j,j<n->w.cell? (a.add j)=cs[j]? := by
 unfold World.cells? at h;split at h
 .
  have O : ∀(l:List Nat)(cs:List Value),l.mapM (λi=>w.cell? (a.add i))=some cs->cs.length=l.length /\ ∀(j i:Nat),l[j]? = some i->w.cell? (a.add i)=cs[j]? := by
   intro l;induction l with
   | nil=>intro cs h;simp at h;subst h;exact⟨rfl,λj i h=>by simp at h⟩
   | cons i l k =>
    intro cs h;rw[List.mapM_cons]at h;cases f:w.cell? (a.add i)with
    | none=>rw[f]at h;simp at h
    | some v =>
     rw[f]at h;simp only[Option.bind_eq_bind,Option.bind_some]at h;cases g:l.mapM (λi=>w.cell? (a.add i))with
     | none=>rw[g]at h;simp at h
     | some r =>
      rw[g]at h;simp at h;subst h;let⟨J,Y⟩:=k r g;refine⟨by simp[J],λj m A=>?_⟩;cases j with
      | zero=>simp at A;subst A;simpa using f
      | succ j=>simp at A;simpa using Y j m A
  let⟨J,Y⟩:=O _ _ h;exact⟨by simpa using J,λj A=>Y j j (by simp[A])⟩
 cases h
theorem Nn{α:Type}(l:List α)(m n:Nat):(l.drop m).take n++(l.drop (m+n))=l.drop m:=by rw[<-ZO];exact Zj n (l.drop m)
theorem reads{bw:TypeId×Value->H}{ar:Nat}{ab:Nat->Bool}{aw:Bool}(hl:laidOutB P=true) :
  ∀(k:Nat)(t:TypeId)(cs:List Value)(g:Nat)(x:DataW H×List MemPlace),t<P.types.size->AY P k t=true->DataW.trod bw P w ar ab aw g t cs=some x ->
   ∃ds,Sh P k t ds/\ze w (jF λb=>b<w.heap.size) ds cs:=by
 intro k;induction k with
 | zero=>intro t cs g x _ h;cases h
 | succ k ih =>
  intro t cs g x bx N O;unfold AY at N;unfold Sh;split at N
  . rename_i K;obtain⟨b,rfl,_⟩:=DataW.trod_bool K O;exact⟨_,⟨b,rfl⟩,.one (.v _) rfl⟩
  . rename_i q K;obtain⟨n,rfl,_,hw⟩:=DataW.trod_int K O;exact⟨_,⟨n,rfl,hw⟩,.one (.v _) rfl⟩
  . rename_i K;obtain⟨s,rfl,_,hw⟩:=DataW.trod_string K O;exact⟨_,⟨s,rfl,hw⟩,.one (.v _) rfl⟩
  .
   rename_i e K;simp only[XU,XY]at N;let⟨⟨cp,ca⟩,N⟩:=N;rcases DataW.trod_slice K O with⟨rfl,_⟩|⟨a,W,I,y,Z,n,_,rfl,_,_,cr,b7,o,L,_,_⟩
   . exact⟨_,⟨[],rfl,λr h=>by cases h⟩,.one (.empty false none 0 (λh=>by cases h) o3u) rfl⟩
   have T : ∀i,i<W -> ∃ds,Sh P k e ds/\ds.length=P.cellsOf e /\ ∀(j:Nat)d,ds[j]? = some d -> ∃v,w.cell? (a.add (i*P.cellsOf e+j))=some v/\v.oneCell'=true/\ae w (jF λb=>b<w.heap.size) d v:=by
    intro i hi;have J:=L i hi;have Y:y[i]? = some (y[i]'(by omega)):=Yi _;rw[Y]at J;rw[Option.bind_eq_some_iff]at J;let⟨E,hc,ht⟩:=J;let⟨ac,cb⟩:=ZoT hc;let⟨ds,cg,⟨F,c⟩,ho⟩:=ih e E n _ ca N ht;refine⟨ds,cg,by rw[F,ac],λj d U=>?_⟩;have hj:j<E.length:=by rw[<-F];exact(X8.1 U).1
    have b8:=cb j (by omega);rw[add_add']at b8;have M:E[j]? = some (E[j]'hj):=Yi _;exact⟨E[j]'hj,by rw[b8,M],ho _ (Yz _),c j d _ U M⟩
   have ch : ∃V:List (List D),V.length=W /\ ∀i r,V[i]? = some r->Sh P k e r/\r.length=P.cellsOf e /\ ∀(j:Nat)d,r[j]? = some d -> ∃v,w.cell? (a.add (i*P.cellsOf e+j))=some v/\v.oneCell'=true/\ae w (jF λb=>b<w.heap.size) d v:=by
    refine⟨(List.range W).map λi=>if h:i<W then Classical.choose (T i h)else[],by simp,λi r O=>?_⟩;rw[YQ]at O;by_cases hi:i<W
    . rw[List.getElem?_range hi]at O;simp only[YZ,Yj]at O;rw[dif_pos hi]at O;subst O;exact Zv (T i hi)
    rw[ZZ (by simpa using hi)]at O;cases O
   let⟨V,F,c⟩:=ch;refine⟨_,⟨V,rfl,λr h=>by let⟨i,hi⟩:=Zy h;exact(c i r hi).1⟩,.one ?_ rfl⟩;cases hz:W with
   | zero =>
    subst hz;have:V=[]:=Yb F;subst this;exact .empty false _ _ (λh=>by cases h) b7
   | succ m =>
    rw[<-hz,<-F];have G : ∀i j,∃u,∀row d,V[i]? = some row->row[j]? = some d->w.cell? (a.add (i*P.cellsOf e+j))=some u/\u.oneCell'=true/\ae w (jF λb=>b<w.heap.size) d u:=by
     intro i j;by_cases p : ∃row d,V[i]? = some row/\row[j]? = some d
     . let⟨row,d,q1,q2⟩:=p;let⟨u,q3⟩:=(c i row q1).2.2 j d q2;refine⟨u,λcq d' b9 bb=>?_⟩;rw[q1]at b9;cases b9;rw[q2]at bb;cases bb;exact q3
     exact⟨undef,λrow d q1 q2=>absurd ⟨row,d,q1,q2⟩ p⟩
    have am : ∀i j row d,V[i]? = some row->row[j]? = some d->w.cell? (a.add (i*P.cellsOf e+j))=some (Classical.choose (G i j))/\(Classical.choose (G i j)).oneCell'=true/\ae w (jF λb=>b<w.heap.size) d (Classical.choose (G i j)):=λi j row d J Y=>Zv (G i j) row d J Y;refine .list false V a I (P.cellsOf e) (λi j=>Classical.choose (G i j)) ?_ om (λh=>by cases h) b7 (λr O=>?_) (λi j r d J Y=>⟨(am i j r d J Y).1,(am i j r d J Y).2.1⟩) λi j r d J Y=>(am i j r d J Y).2.2
    . show a.block<w.heap.size;have h0:V[0]? = some (V[0]'(by omega)):=Yi _;let⟨_,q2,q3⟩:=c 0 _ h0;have J:(V[0]'(by omega))[0]? = some ((V[0]'(by omega))[0]'(by omega)):=Yi _;let⟨v,hv,_⟩:=q3 0 _ J;have:=Q9 hv;rwa [block_add]at this
    let⟨i,hi⟩:=Zy O;exact(c i r hi).2.1
  .
   rename_i B K;let⟨z,n,_,_,ac,ci,hf⟩:=DataW.trod_struct K O;let⟨_,be,bh⟩:=kid_struct hl bx K;simp only[YA,XU,XY]at N;have cj : ∀(fl:List Field)(i off:Nat),B.toList.drop i=fl->off=((B.toList.take i).map λf=>P.cellsOf f.type).sum -> ∃ds,RG (Sh P k) fl ds/\ze w (jF λb=>b<w.heap.size) ds (cs.drop off):=by
    intro fl;induction fl with
    | nil =>
     intro i off U ho;have aq:B.toList.length<=i:=by have:=congrArg List.length U;simp only[Yw,Zw]at this;omega
     have:off=cs.length:=by rw[ac,be,ho,Ye aq]
     rw[this,ZL];exact⟨[],rfl,.nil⟩
    | cons f fl cl =>
     intro i off U ho;have aq:i<B.toList.length:=by have:=congrArg List.length U;simp only[Yw,YI]at this;omega
     have R:B.toList[i]? = some f:=by
      have:(B.toList.drop i)[0]? = some f:=by rw[U];rfl
      simpa using this
     have bm:=bh i f R;have cm:z[i]? = some (z[i]'(by rw[ci];simpa using aq)):=Yi _;have L:=hf i f (by simpa using R);rw[cm,bm,<-ho]at L;have X:=Ym R;let⟨bp,J,Y⟩:=ih f.type _ n _ (N f X).1 (N f X).2 L;have co:B.toList.take (i+1)=B.toList.take i++[f]:=by rw[Zp,R];rfl
     let⟨br,A,h4⟩:=cl (i+1) (off+P.cellsOf f.type) (by rw[<-ZO,U];rfl) (by rw[co,Yv,List.sum_append,<-ho];simp);refine⟨bp++br,⟨bp,br,rfl,J,A⟩,?_⟩;rw[<-Nn cs off (P.cellsOf f.type)];exact Y.append h4
   let⟨ds,J,Y⟩:=cj B.toList 0 0 rfl (by simp);exact⟨ds,J,by simpa using Y⟩
  cases N
def shFuel:Nat:=12
def ShV(P:Program)[Glob P](t:TypeId)(x:D):Prop:=match P.underlying t with
 | some (.struct _)=>∃M,x = .agg M/\Sh P shFuel t M
 | _=>Sh P shFuel t [x]
def ShArgs(P:Program)[Glob P]:List TypeId->List D->Prop
 | [],z=>z=[]
 | t::a,z=>∃x m,z=x::m/\ShV P t x/\ShArgs P a m
theorem readV{m:TypeId×Value->H}{c:Nat->Bool}{f:Bool}{r:Nat}{t:TypeId}{d:DataW H}{ps:List MemPlace}(y:laidOutB P=true)(p:t<P.types.size)(hs:AY P shFuel t=true)(hv:Value.okWide P w .any r t v)(h:DataW.Trod m P w 0 c f t v d ps) :
  ∃x,ShV P t x/\ae w (jF λb=>b<w.heap.size) x v:=by
 let⟨g,h⟩:=h;let⟨ds,J,Y⟩:=reads y shFuel t v.cells.toList g _ p hs h;have one:v.cells = #[v]->ShV P t (ds.headD .junk)/\ae w (jF λb=>b<w.heap.size) (ds.headD .junk) v\/(∃B,P.underlying t=some (.struct B)):=by
  intro j;rw[j]at Y;have o:ds.length=1:=Y.1.1
  match ds,o with
  | [x],_ =>
   by_cases k : ∃B,P.underlying t=some (.struct B)
   . exact .inr k
   refine .inl ⟨?_,Y.1.head⟩;unfold ShV;split
   . rename_i B u;exact absurd ⟨B,u⟩ k
   exact J
 unfold shFuel AY at hs;split at hs
 .
  rename_i u;obtain⟨b,rfl⟩:=okWide_bool u hv;rcases one rfl with h|⟨B,h⟩
  . exact⟨_,h⟩
  rw[u]at h;cases h
 .
  rename_i q u;obtain⟨n,rfl⟩:=okWide_int u hv;rcases one rfl with h|⟨B,h⟩
  . exact⟨_,h⟩
  rw[u]at h;cases h
 .
  rename_i u;obtain⟨s,rfl⟩:=okWide_string u hv;rcases one rfl with h|⟨B,h⟩
  . exact⟨_,h⟩
  rw[u]at h;cases h
 .
  rename_i e u;obtain⟨a,W,I,rfl⟩:=okWide_slice u hv;rcases one rfl with h|⟨B,h⟩
  . exact⟨_,h⟩
  rw[u]at h;cases h
 .
  rename_i B u;obtain⟨M,rfl,_⟩:=okWide_struct u hv;refine⟨.agg ds,?_,.mk_agg ?_⟩
  . unfold ShV;rw[u];exact⟨ds,rfl,J⟩
  have:(Value.agg M).cells=M:=rfl;rw[this]at Y;exact Y.1
 cases hs
theorem readAll [Glob P]{H:Type}{g:TypeId×Value->H}{w:World}{a:Nat->Bool}{f:Bool}{B:Nat}(A:laidOutB P=true):∀(c:List TypeId)(vs:List Value)(ds:List (DataW H))(ps:List MemPlace),(∀t∈c,t<P.types.size/\AY P shFuel t=true) ->
  (∀(j:Nat)t v,c[j]? = some t->vs[j]? = some v->Value.okWide P w .any B t v)->DataW.TrodAll g P w 0 a f c vs ds ps -> ∃xs,ShArgs P c xs/\aF w (jF λb=>b<w.heap.size) xs vs
 | [],[],[],_,_,_,_=>⟨[],rfl,.nil⟩
 | t::c,v::vs,d::ds,ps,n,u,⟨p,q,J,Y,_⟩=>by let⟨x,k,m⟩:=readV A (n t (by simp)).1 (n t (by simp)).2 (u 0 t v rfl rfl) J;let⟨xs,o,r⟩:=readAll A c vs ds q (λz h=>n z (by simp[h])) (λj z E y O=>u (j+1) z E (by simpa using y) (by simpa using O)) Y;exact⟨x::xs,⟨x,xs,rfl,k,o⟩,.cons m r⟩
theorem Zpd{W c:World}(p:EI W c)(a:MemPlace->Prop):W.keptBut c a:=by
 refine⟨p.os,p.output,λi hi=>?_⟩;rw[p.block i hi];cases h:W.heap[i]? with
 | none=>trivial
 | some o =>
  cases o<;>first
   | exact⟨rfl,rfl,rfl,λ_ _=>rfl⟩
   | exact .inr ⟨rfl,rfl⟩
   | rfl
theorem SV [Glob P]{H:Type}{c:TypeId×Value->H}{W j:World}(m:laidOutB P=true)(a:EI W j):∀(f:List TypeId)(vs:List Value)(ds:List (DataW H))(ps:List MemPlace),(∀t∈f,P.readableRec t=true/\t<P.types.size) ->
  DataW.TrodAll c P W 0 (λ_=>true) true f vs ds ps->(∀x∈ps,x.block<W.heap.size) -> ∀sp:Nat->Bool,(∀x∈ps,sp x.block=true)->DataW.TrodAll c P j 0 sp true f vs ds ps
 | [],[],[],_,_,h,_,_,_=>h
 | t::f,v::vs,d::ds,ps,n,⟨p,q,J,Y,e⟩,K,sp,g=>by
  subst e;have k:Below W.heap.size W j:=⟨a.os,a.tape,a.output,a.size,a.block⟩;exact⟨p,q,WideElems.Trod_stays m (n t (by simp)).1 (n t (by simp)).2 J (λx E=>k.same (K x (ZG _ E))) (λx E=>g x (ZG _ E)),
   SV m a f vs ds q (λo h=>n o (by simp[h])) Y (λx E=>K x (List.mem_append_right _ E)) sp (λx E=>g x (List.mem_append_right _ E)),rfl⟩
theorem law_contract_g{c:TypeId×Value->H}{f:FuncId}{fn:Func}{s:ChangeSpec}{tb:TypeId}{r fresh w B:Bool}(hl:laidOutB P=true)(y:s.vars=[])(G:fn.resultTypes = #[tb])(I:P.underlying tb=some .bool)(Lr:(fn.params.toList.all λt=>P.readableRec t&&decide (t<P.types.size)&&AY P shFuel t)=true)(aq : ∀ds:List (DataW H),ds.length=fn.params.toList.length->s.fn H ds={ results:=[.lit (.bool true)],args:=ds })(hct : ∀xs:List D,ShArgs P fn.params.toList xs->PureCt P f xs (.b true)) :
  ∀(W:World)(A:Nat)(args:Array Value)(ds L:List (DataW H))(a:List MemPlace),Gr P (λb=>b<W.heap.size) W->(∀(j:Nat)t v,fn.params[j]? = some t->args[j]? = some v->Value.okWide P W .any A t v) ->
   DataW.Whole c P fn.params.toList s.vars r W args.toList ds L a ->
   Calls P f args W λe F=>∃v,e = .returned v/\s.post c P fn r fresh w B W args v F:=by
 intro W A args ds L a ar M hW;simp only[YA,XU,XY]at Lr;have N:=hW;let⟨p,q,hA,hV,R,aw,b7⟩:=hW;rw[y]at hV;obtain⟨rfl,rfl⟩:L=[]/\q=[]:=by
  cases L with
  | nil=>exact⟨rfl,hV⟩
  | cons g L=>exact False.elim hV
 rw[YH]at R;let⟨xs,b8,b9⟩:=readAll hl _ _ _ _ (λt n=>⟨(Lr t n).1.2,(Lr t n).2⟩) (λj t v J Y=>M j t v (by simpa using J) (by simpa using Y)) hA;let⟨_,_,hct⟩:=hct xs b8;have o : ∀{T:List TypeId}{U:List Value}{ds:List (DataW H)}{ps:List MemPlace},DataW.TrodAll c P W 0 (λ_=>true) true T U ds ps->ds.length=T.length:=by
  intro T;induction T with
  | nil=>intro U ds ps h;cases U<;>cases ds<;>first|rfl|exact False.elim h
  | cons t T k =>
   intro U ds ps h;cases U<;>cases ds<;>first|exact False.elim h|skip
   let⟨_,_,_,Y,_⟩:=h;simp[k Y]
 have V:=aq ds (o hA);have:=callsIn_wide.1 (hct W (λb=>b<W.heap.size) _ (λb h=>h) ar b9);have ea:args.toList.toArray=args:=by simp
 rw[ea]at this;refine this.mono ?_;rintro e F ⟨v,rfl,hb,u⟩;rw[u.v_inv];refine⟨_,rfl,?_⟩;have K : ∀x∈a,x.block<W.heap.size:=λx E=>N.lt x E;have X : ∀sp:Nat->Bool,(∀x∈a,sp x.block=true)->DataW.TrodAll c P F 0 sp true fn.params.toList args.toList ds a:=by intro sp h;rw[R]at h K ⊢;exact SV hl hb _ _ _ _ (λt n=>(Lr t n).1) hA K sp h
 have z:s.fn H (ds++[])={ results:=[.lit (.bool true)],args:=ds }:=by rw[YH];exact V
 have Z : ∀(b:Nat)(sp:Nat->Bool)(m:Bool),DataW.TrodAll c P F b sp m fn.resultTypes.toList ((Value.bool true).resultList fn.resultTypes.size) [.lit (.bool true)] []:=by intro b sp m;rw[G];exact trodAll_cons_mk (shut_bool I _) trodAll_mk0
 have ab : ∀x∈a,(λb=>decide (b<W.heap.size)) x.block=true:=λx E=>by simpa using K x E
 have ac : ∀sp:Nat->Bool,DataW.TrodVars c P F sp s.vars [] []:=λsp=>by rw[y];exact rfl
 have am : ∀x∈a,∀b off,x=MemPlace.cell b off->F.frozen? ⟨b,off,none⟩=false:=by intro x E b off e;subst e;have bb:b<W.heap.size:=K _ E;have O:F.frozen? ⟨b,off,none⟩=W.frozen? ⟨b,off,none⟩:=World.frozen?_of_block (hb.block b bb);rw[O];exact aw b off E
 unfold ChangeSpec.post;refine⟨ds,[],a,[],a,[],N,?_,?_,?_,World.keptBut_mono (λx E=>⟨E,.inr (.inl E)⟩) (Zpd hb (· ∈ a)),λ_=>⟨?_,?_⟩⟩
 . rw[z];exact Z _ _ _
 . rw[z];exact X _ ab
 . rw[z];exact ac _
 . exact ok_one G rfl (okWide_bool_mk I _)
 refine⟨_,[],([]++a)++[],⟨[]++a,[],trodAll_append (X _ λ_ _=>rfl) (Z _ _ _),ac _,rfl,?_,?_⟩,?_⟩
 . intro b off E;exact am _ (by simpa using E) b off rfl
 . intro ha;simpa using b7 ha
 intro x E _;simpa using E
def litV:Lit->Value
 | .bool b=>.bool b
 | .int k n=>.int k n
 | .string s=>.string ⟨s.toArray⟩
 | _=>undef
def BC{H:Type}:Nat->DataW H->List Value
 | 0,_=>[]
 | k+1,d=>match d with
  | .lit l=>[litV l]
  | .agg ds=>ds.flatMap (BC k)
  | _=>[]
def Ht(P:Program):Nat->TypeId->Bool
 | 0,_=>false
 | k+1,t=>match P.underlying t with
  | some .bool|some (.int _)|some .string=>true
  | some (.array _ e)=>decide (e<P.types.size)&&Ht P k e
  | some (.struct B)=>B.toList.all λf=>decide (f.type<P.types.size)&&Ht P k f.type
  | _=>false
omit [Glob P]in
theorem lits{W:TypeId×Value->H}{G:Nat}{o:Nat->Bool}{I:Bool}(hl:laidOutB P=true) :
  ∀(k:Nat)(t:TypeId)(cs:List Value)(c:Nat)(x:DataW H×List MemPlace),t<P.types.size->Ht P k t=true->DataW.trod W P w G o I c t cs=some x->cs=BC k x.1:=by
 intro k;induction k with
 | zero=>intro t cs c x _ h;cases h
 | succ k ih =>
  intro t cs c x L N M;unfold Ht at N;split at N
  . rename_i u;obtain⟨b,rfl,rfl⟩:=DataW.trod_bool u M;rfl
  . rename_i q u;obtain⟨n,rfl,rfl,_⟩:=DataW.trod_int u M;rfl
  . rename_i u;obtain⟨s,rfl,rfl,_⟩:=DataW.trod_string u M;show[Value.string s]=[Value.string ⟨s.data.toList.toArray⟩];simp
  .
   rename_i n e u;simp only[XU,XY]at N;obtain⟨z,m,_,rfl,p,r,X⟩:=DataW.trod_array u M;let⟨_,Z⟩:=kid_array hl L u;have O : ∀(j i:Nat),i+j=n->cs.drop (i*P.cellsOf e)=((z.drop i).map (·.1)).flatMap (BC k):=by
    intro j;induction j with
    | zero =>
     intro i hi;have E:i=n:=by omega
     subst E;rw[<-Z,<-p,ZL,<-r,ZL];rfl
    | succ j F =>
     intro i hi;have K:i<z.length:=by omega
     have J:=X i (by omega);rw[Yi K]at J;have Y:=ih e _ m _ N.1 N.2 J;have A:=F (i+1) (by omega);have y:(i+1)*P.cellsOf e=i*P.cellsOf e+P.cellsOf e:=by rw[Nat.succ_mul]
     rw[y]at A;rw[YE K,X7,ZU,<-A,<-Y];exact(Nn cs _ _).symm
   have:=O n 0 om;simpa[BC]using this
  .
   rename_i B u;obtain⟨z,n,_,rfl,p,r,a⟩:=DataW.trod_struct u M;let⟨_,R,T⟩:=kid_struct hl L u;simp only[YA,XU,XY]at N;have U:z.length=B.toList.length:=by simpa using r
   have O : ∀(j i:Nat),i+j=B.toList.length->cs.drop ((B.toList.take i).map λf=>P.cellsOf f.type).sum=((z.drop i).map (·.1)).flatMap (BC k):=by
    intro j;induction j with
    | zero =>
     intro i hi;have E:i=B.toList.length:=by omega
     subst E;rw[Yt,<-R,<-p,ZL,<-U,ZL];rfl
    | succ j F =>
     intro i hi;have K:i<B.toList.length:=by omega
     have g:i<z.length:=by omega
     have V:B.toList[i]? = some B.toList[i]:=Yi K;have J:=a i B.toList[i] (by simp);rw[T i _ V,Yi g]at J;have v:=N _ (Yz K);have Y:=ih _ _ n _ v.1 v.2 J;have A:=F (i+1) (by omega);have ab:B.toList.take (i+1)=B.toList.take i++[B.toList[i]]:=by rw[Zp,V];rfl
     rw[ab,Yv,List.sum_append]at A;simp only[X7,Yy,List.sum_cons,List.sum_nil,Zx]at A;rw[YE g,X7,ZU,<-A,<-Y];exact(Nn cs _ _).symm
   have:=O B.toList.length 0 om;simpa[BC]using this
  cases N
end Go.DL
namespace Go.Proofs.YtjhhnhgflmkenaaGreatDoor
open Go.Proofs.Tryz
open Go.DL Go.RowKit Go.ChangeShapes
def jlaid : List (String × DataW Unit) := [("bytes.ErrTooLarge", Rows.laid_bytes_ErrTooLarge), ("nameplan/record.rules", Rows.laid_nameplan_record_rules), ("nameplan/journal.errBroken", Rows.laid_nameplan_journal_errBroken)]
theorem XD : ("*errors.errorString" : String) = "*" ++ "errors.errorString" := by decide
def jrow (u : TypeId) (h : prog.typeName? 3 u = some "*errors.errorString") : u = 401 :=
 typeName_ptr_named (nm := "errors.errorString") (by rw [<- XD]; kernel_rfl) (by kernel_rfl) (by decide) u (by rw [<- XD]; exact h)
def ZkF{P:Program}{nm:String}{d:DataW Unit}{r:List (String×DataW Unit)}{W:World}{g:Nat}{t:TypeId}{k:Nat}{cells:List Value}(w:laidOutB P=true)(h:laidMet P ((nm,d)::r) W)
  (M:P.globalNamed nm=some g)(ht:(P.globals[g]?).map (·.type)=some t)(f:t<P.types.size)(y:Ht P k t=true)(z:BC k d=cells)(j:Nat)(v:Value)(n:cells[j]? = some v):W.cell? ⟨g,j,none⟩=some v:=by
 let⟨B,⟨E,t0,A,x,p,q,c,o,u,m,_,_⟩,_,_⟩:=h;obtain rfl:=Zu (M.symm.trans c);obtain rfl:=Zu (ht.symm.trans o);have a:=lits w k t _ _ _ f y m;rw[show BC k (d,p).1=cells from z]at a;rw[World.var?_cell c u j];let⟨l⟩:=A;simp only at a;subst a;simp[n]
set_option maxRecDepth 100000 in
theorem told_cells{W:World}(h:laidMetH prog jlaid W):∃a:Addr,∀x M,toldF a x=some M->x<W.heap.size /\ ∀(j:Nat)v,M[j]? = some v->W.cell? ⟨x,j,none⟩=some v:=by
 unfold jlaid at h;rw[MakeChecks.laidMetH_plain _ _ _ (by kernel_rfl)]at h;have Y:=h.tail;have c:=Y.tail;obtain ⟨a, s, u, _, _, _⟩ := laid_sentinel (g := 0) (n := "nameplan/journal.errBroken") (nm := "*errors.errorString") c (by kernel_rfl) (by kernel_rfl) underlying221 jrow underlying401 underlying423 rfl rfl underlying9 (by kernel_rfl) (by kernel_rfl)
 have O:=ZkF (g:=1) (t:=317) (k:=3) (cells:=Kk) (by kernel_rfl) Y (by kernel_rfl) (by kernel_rfl) (YP (by kernel_rfl)) (by kernel_rfl) (by kernel_rfl);have J:W.cell? ⟨0,0,none⟩=some (kE a):=by rw[World.var?_cell (by kernel_rfl) u 0];rfl
 refine⟨a,λx M E=>?_⟩;unfold toldF at E;split at E
 . rename_i e;subst e;cases E;exact⟨Q9 (O 0 _ rfl),O⟩
 split at E
 .
  rename_i e;subst e;cases E;refine⟨Q9 J,λj v A=>?_⟩
  match j,A with
  | 0,A=>cases A;exact J
  | j+1,A=>simp at A
 cases E
open Go.Str Go.Rec Go.Zon Go.Jn
variable{k:FuncId}{xs:List D}
noncomputable def De:aO where
 pure:=λ_=>true
 pf:=λk xs=>match k,xs with
  | 332,[x0,x1]=>.i (dR (av x0) (aK x1))
  | 301,[x0,x1]=>.i (dR (av x0) (aK x1))
  | 259,[x0]=>.b (gJ (av x0))
  | 89,[x0]=>.b (gJ (av x0))
  | 88,[x0]=>.list false ((jO (av x0)).map sR)
  | 27,[x0]=>.b (ai (av x0))
  | 177,[x0]=>.b (ai (av x0))
  | 104,[x0]=>.b (ai (av x0))
  | 194,[x0]=>.list false ((bA (av x0)).map sR)
  | 307,[x0,x1]=>.i (Go.Lib.compareBytes (av x0) (av x1))
  | 268,[x0,x1]=>.i (Go.Lib.compareBytes (av x0) (av x1))
  | 118,[x0,x1]=>.i (fQ (av x0) (av x1))
  | 248,[x0,x1]=>.tuple [.i (if ai (av x0)&&ai (av x1)then kS (av x0) (av x1)else 0),.i (if ai (av x0)&&ai (av x1)then 0 else 11)]
  | 206,[x0,x1]=>.tuple [.i (if ai (av x0)&&ai (av x1)then kS (av x0) (av x1)else 0),.i (if ai (av x0)&&ai (av x1)then 0 else 11)]
  | 249,[x0,x1,x2]=>.b (aP (aK x0) (aK x1) (aK x2))
  | 331,[x0,x1,x2]=>.b (aP (aK x0) (aK x1) (aK x2))
  | 243,[x0,x1,x2]=>.b (aP (aK x0) (aK x1) (aK x2))
  | 102,[x0]=>.b ((aK x0) != (aK x0))
  | 317,[x0]=>.b ((av x0) != (av x0))
  | 40,[x0,x1]=>.i (cmpI (aK x0) (aK x1))
  | 273,[x0,x1]=>.i (wK (av x0) (av x1))
  | 179,[x0,x1]=>.b (Ai (av x0) (av x1))
  | 105,[x0,x1]=>.b (Ai (av x0) (av x1))
  | 250,[x0]=>.b (jq (av x0))
  | 245,[x0]=>.b (jq (av x0))
  | 299,[x0]=>.b (xN (av x0))
  | 298,[x0]=>.b (xN (av x0))
  | 247,[x0,x1]=>.b (less (kF x0) (kF x1))
  | 251,[x0,x1]=>.b (jX (N8 x0) (kF x1))
  | 246,[x0,x1]=>.b (qh (aK x0) (kF x1))
  | 272,[x0]=>.i (xq (pG x0) 0)
  | 252,[x0,x1]=>.i (eD (kF x0) (kF x1))
  | 163,[x0]=>.b (fw (set1 x0))
  | 159,[x0]=>.b (fw (set1 x0))
  | 244,[x0]=>.b (CU (aK x0))
  | 160,[x0,x1]=>.i (mH (set1 x0) (set1 x1))
  | 192,[x0,x1]=>.b (xc (set1 x0) (set1 x1))
  | 106,[x0]=>.tuple [.list false ((qW (set1 x0)).1.map bD),.i (qW (set1 x0)).2]
  | 319,[x0]=>.tuple [.agg (jB (gu x0)).1.d,.i (jB (gu x0)).2]
  | 260,[x0,x1]=>.b (yP (av x0) (av x1))
  | 178,[x0,x1]=>.b (yP (av x0) (av x1))
  | 103,[x0,x1]=>.tuple [.b (fT (av x0) (av x1)),.i (if ai (av x0)&&ai (av x1)then 0 else 11)]
  | 119,[x0,x1]=>.b (ig (av x0) (av x1))
  | 158,[x0]=>.b (AQ (av x0))
  | 164,[x0,x1,x2,x3]=>.i (qC ⟨(av x0),(aK x1)⟩ ⟨(av x2),(aK x3)⟩)
  | 240,[x0,x1]=>.i (qC (jC x0) (jC x1))
  | 165,[x0,x1]=>.b (fits (aK x0) (AB x1))
  | 161,[x0,x1]=>.b (fits (aK x0) (AB x1))
  | 166,[x0,x1]=>.b (kg (uE x0) (av x1))
  | 162,[x0,x1]=>.b (kg (uE x0) (av x1))
  | 6,[x0]=>.b (ku (jC x0))
  | 116,[x0,x1]=>.b (lT (dw x0) (dw x1))
  | 48,[x0,x1]=>.b (rJ (eZ x0) (eZ x1))
  | 11,[x0,x1]=>.b (nJ (aC x0) (aC x1))
  | 185,[x0,x1]=>.i (qC (dw x0).q (jC x1))
  | 184,[x0,x1,.fn (.func 185) [] []]=>.tuple [.i (aV (eZ x0) (jC x1)),.b (bV (eZ x0) (jC x1))]
  | 109,[x0,x1]=>.tuple [.i (aV (aC x0).sets (jC x1)),.b (bV (aC x0).sets (jC x1))]
  | 92,[x0]=>.b (ordered (aC x0))
  | 93,[x0]=>.b (ru (aC x0))
  | 95,[x0]=>.b (sU (zU x0))
  | 96,[x0]=>.b (mg (zU x0))
  | 97,[x0]=>.b (Ca (zU x0))
  | 98,[x0]=>.b (Cb (zU x0))
  | 94,[x0]=>.agg (bB (aC x0)).d
  | 30,[x0]=>.b (ak (aC x0))
  | 45,[x0]=>.tuple [.i (if ak (aC x0)then aL (aC x0)else 0),.i (if ak (aC x0)then 0 else 1)]
  | 90,[x0,x1]=>.i (dV (aC x0).sets (jC x1))
  | 83,[x0]=>.b (nQ (aC x0))
  | 84,[x0]=>.b (tq (aC x0))
  | 85,[x0]=>.b (oZ (aC x0))
  | 193,[x0]=>.list false ((gW (aC x0)).map sR)
  | 117,[x0]=>.list false ((cO (aC x0)).map sR)
  | 49,[x0]=>.list false ((gK (aC x0)).map sR)
  | 86,[x0]=>.b (uo (aC x0))
  | 12,[x0]=>.list false ((uL (aC x0)).map bR)
  | 87,[x0]=>.b (uX (aC x0))
  | 25,[x0]=>.b (jA (aC x0))
  | 28,[x0]=>.i (dF (aC x0))
  | 24,[x0]=>.b (xO (aC x0))
  | 91,[x0]=>.b (iB (aK x0))
  | 66,[x0,x1]=>.b (gX (aK x0) (aK x1))
  | 29,[x0,x1]=>.tuple [.b (nT (aK x0) (aK x1)).1,.i (nT (aK x0) (aK x1)).2]
  | 70,[x0]=>.agg (dw x0).q.d
  | 42,[x0]=>.list false ((pQ x0).map Dat.d)
  | 99,[x0]=>.list false ((uE x0).map RSig.d)
  | 73,[x0]=>.agg (dw x0).d
  | 67,[x0]=>.fmap (jk (lH (eZ x0)))
  | 134,[x0,x1]=>.b (kX (pQ x0) (pQ x1))
  | 140,[x0,x1]=>.b (yV (uE x0) (uE x1))
  | 74,[x0,x1]=>.b (yz (dw x0) (dw x1))
  | 69,[x0,x1]=>.tuple [.agg (dw x0).q.d,.b (qo (yJ x1) (dw x0).q)]
  | 72,[x0,x1]=>.tuple [.agg (dw x0).d,.b (Aq (fq (yJ x1) (dw x0).q) (dw x0))]
  | 153,[x0,x1]=>.tuple [.agg (dw x0).d,.b (qo (yJ x1) (dw x0).q)]
  | 156,[x0]=>.tuple [.agg (dw x0).d,.b true]
  | 239,[x0]=>.tuple [.agg (dw x0).d,.b true]
  | 232,[x0]=>.agg (jC x0).d
  | 68,[x0,x1]=>.list false (((eZ x0).filterMap (mW (Jm x1))).map Qst.d)
  | 236,[x0,x1]=>.list false (((KD x0).filterMap (j3S (Jm x1))).map Qst.d)
  | 71,[x0,x1]=>.list false (((eZ x0).filterMap (Ke (x1))).map Sgd.d)
  | 155,[.fn (.func 70) [] []]=>.fn (.func 242) [] [.eptr [.fn (.func 70) [] []]]
  | 242,[x0,x1,.eptr [.fn (.func 70) [] []]]=>.i (qC (dw x0).q (dw x1).q)
  | 235,[.fn (.func 232) [] []]=>.fn (.func 289) [] [.eptr [.fn (.func 232) [] []]]
  | 152,[x0]=>.b (fO (jK x0))
  | 19,[x0,x1]=>.tuple [.agg (lJ (aC x0) (aC x1)).1.d,.i (lJ (aC x0) (aC x1)).2]
  | 79,[x0,x1]=>.tuple [.agg (eY (aC x0) (jK x1)).1.d,.i (eY (aC x0) (jK x1)).2]
  | 151,[x0,x1]=>.tuple [.agg (uj (jK x0) (jK x1)).1.d,.i (uj (jK x0) (jK x1)).2]
  | 76,[x0]=>.list false ((lg (aC x0)).map bD)
  | 80,[x0]=>.list false ((il (jK x0)).map bD)
  | 75,[x0,x1]=>.list false ((jI (ED x0) (gu x1)).map bD)
  | 144,[x0]=>.v (.int .u64 ((dig (gu x0):Nat):Int))
  | 228,[x0,x1]=>.b (isE (Na x0))
  | 225,[x0,x1]=>.tuple [.list false ((bU (ED x0).toNat (gu x1)).2.map bD),.i (bU (ED x0).toNat (gu x1)).1]
  | 150,[x0,x1]=>.tuple [.agg (nextF (cnt1 x0) (gu x1)).1.d,.i (nextF (cnt1 x0) (gu x1)).2]
  | 149,[x0]=>.tuple [.agg (mq (gu x0)).d,.i (rD (qP (gu x0)))]
  | 77,[x0]=>.tuple [.agg (xu (pO x0)).d,.b (iX (pO x0)).isSome]
  | 78,[x0]=>.b (fO (jK x0))
  | 81,[x0]=>.list false ((gu x0).map bD)
  | 82,[x0,x1,x2]=>.list false (((gu x0)++fG (KG x1)++(gu x2)).map bD)
  | 20,[x0]=>.tuple [.agg (xY (aC x0)).1.d,.i (xY (aC x0)).2]
  | 21,[x0,x1]=>.tuple [.agg (rf (pO x0) (jK x1)).1.d,.i (rf (pO x0) (jK x1)).2]
  | 22,[x0]=>.tuple [.agg (wX (pO x0)).1.d,.i (wX (pO x0)).2]
  | 23,[x0]=>.tuple [.agg (uR (pO x0)).1.d,.i (uR (pO x0)).2]
  | 108,[x0]=>.b (DC (aC x0))
  | 190,[x0]=>.b (fO (jK x0))
  | 44,[x0]=>.b (mG (uF x0))
  | 113,[x0]=>.b (kR (xy x0))
  | 114,[x0]=>.tuple [.v (.string (bs (ql (xy x0)).1)),.b (ql (xy x0)).2]
  | 261,[x0,x1]=>.b (lT (dw x0) (dw x1))
  | 138,[x0,x1,.fn (.func 261) [] []]=>.b (rJ (eZ x0) (eZ x1))
  | 191,[x0,x1]=>.b (nJ (aC x0) (aC x1))
  | 115,[x0,x1]=>.i (sJ (uF x0) (aC x1))
  | 189,[x0]=>.agg (dw x0).d
  | 188,[x0,.fn (.func 189) [] []]=>.list false ((eZ x0).map Sgd.d)
  | 112,[x0]=>.agg (aC x0).d
  | 187,[x0]=>.i (aL (aC x0))
  | 186,[x0,.fn (.func 187) [] []]=>.list false (((nD x0).map aL).map kK)
  | 110,[x0]=>.tuple [.list false ((vB (nD x0)).1.map kK),.b (vB (nD x0)).2]
  | 111,[x0,x1]=>.agg (Bt (MZ x1) (aK x0)).d
  | 46,[x0,x1,x2]=>.tuple [.agg (ko (nD x0) (AB x1) (aK x2)).1.d,.i (ko (nD x0) (AB x1) (aK x2)).2]
  | 47,[x0,x1,x2]=>.tuple [.agg (lm (uF x0) (xy x1) (aK x2)).1.d,.i (lm (uF x0) (xy x1) (aK x2)).2]
  | 10,[x0,x1,x2]=>.tuple [.agg (o9 (uF x0) (nD x1) (aK x2)).1.d,.i (o9 (uF x0) (nD x1) (aK x2)).2]
  | 131,[x0]=>.b (uP (dw x0))
  | 132,[x0,x1]=>.b (dZ (Ji x1).set.name (dw x0))
  | 221,[x0,x1]=>.b (dZ (CY x1).name (dw x0))
  | 203,[x0,x1]=>.i (d9 (E5 (x1)) (eZ x0) 0)
  | 130,[x0,x1]=>.b (decide (0<=d9 (E5 (x1)) (eZ x0) 0))
  | 61,[x0]=>.b (jQ (aC x0))
  | 128,[x0]=>.b (jg (Ay x0))
  | 129,[x0]=>.b (gp (Ay x0))
  | 60,[x0]=>.b (j6 (CK x0))
  | 62,[x0,x1]=>.b (fT (av x0) (av x1))
  | 205,[x0,x1,x2]=>.i (qC (dw x0).q ⟨(av x1),(HZ x2)⟩)
  | 204,[x0,x1,x2]=>.tuple [.i (aV (eZ x0) ⟨(av x1),(Jh x2)⟩),.b (bV (eZ x0) ⟨(av x1),(Jh x2)⟩)]
  | 133,[x0,x1,x2]=>.tuple [.i (aV (aC x0).sets ⟨(av x1),(aK x2)⟩),.b (bV (aC x0).sets ⟨(av x1),(aK x2)⟩)]
  | 63,[x0,x1]=>.b (sG (aC x0) (Ay x1))
  | 139,[x0,x1]=>.b (decide ((dw x0).set=(dw x1).set))
  | 138,[x0,x1,.fn (.func 139) [] []]=>.b (Ch (eZ x0) (eZ x1))
  | 275,[x0,x1]=>.i (d9 (λy=>decide ((kF x1)=y)) (pQ x0) 0)
  | 217,[x0,x1]=>.b (eB (pQ x0) (kF x1))
  | 216,[x0,x1]=>.b (eB (CY x1).data (kF x0))
  | 274,[x0,x1]=>.i (d9 (eB (ZbV x1).data) (pQ x0) 0)
  | 212,[x0,x1]=>.i (eD (kF x0) (kF x1))
  | 17,[x0,x1]=>.tuple [.agg (fH (aC x0) (CK x1)).1.d,.i (fH (aC x0) (CK x1)).2]
  | 26,[x0]=>.b (jQ (aC x0))
  | 18,[x0,x1]=>.agg (gQ (aK x0) (pG x1)).d
  | 5,[x0,x1]=>.b (yU (aC x0) (CJ x1))
  | 7,[x0,x1]=>.tuple [.list false ((mr (aC x0) (CJ x1)).1.map Zon.d),.b (mr (aC x0) (CJ x1)).2]
  | 4,[]=>.b true
  | 195,[x0,x1]=>.i (HV (av x0) (aK x1))
  | 266,[x0,x1]=>.v (.string (bs (jT (yl x0))))
  | 120,[x0]=>.tuple [.v (.string (bs (tO (av x0)))),.i (if ai (av x0)then(if(av x0)=[46]then 4 else 0)else 11)]
  | 201,[x0]=>.tuple [.list false ((if ai (av x0)then bA (av x0)else[]).map sR),.i (if ai (av x0)then 0 else 11)]
  | 202,[x0]=>.tuple [.v (.string (bs (si (yl x0)).1)),.i (si (yl x0)).2]
  | 50,[x0,x1]=>.tuple [.v (.string (bs (jY (aC x0) (av x1)).1)),.b (jY (aC x0) (av x1)).2.1,.i (jY (aC x0) (av x1)).2.2]
  | 33,[x0]=>.tuple [.list false ((if ak (aC x0)then cK (aC x0)else[]).map sR),.i (if ak (aC x0)then 0 else 1)]
  | 199,[x0,x1]=>.i (uZ (av x0) (av x1))
  | 122,[x0,x1]=>.b (fT (av x0) (av x1))
  | 121,[x0,x1,x2]=>.i (bK (lh x0).z.sets ⟨(av x1),(aK x2)⟩)
  | 125,[x0]=>.i (bK (lh x0).z.sets ⟨(lh x0).z.apex,4⟩)
  | 198,[x0,x1,x2]=>.b (decide (0<=uZ (zi x1).z.sets[(aK x0).toNat]!.set.name (zw x2)))
  | 265,[x0,x1,x2]=>.b (decide (0<uZ (zi x1).z.sets[(aK x0).toNat]!.set.name (zw x2)))
  | 197,[x0,x1]=>.i ((srS (x1):Nat):Int)
  | 124,[x0,x1]=>.b (kD (lh x0).z.sets (av x1))
  | 200,[x0,x1]=>.fn (.func 264) [] [.eptr [.eptr (lh x0).d],.eptr [.v (.string (bs (av x1)))]]
  | 126,[x0,x1]=>.i (jc (lh x0).z.sets (av x1))
  | 127,[x0]=>.v (.string (bs (wV (lh x0).z (lh x0).q.name)))
  | 263,[x0,x1]=>.i (Ab (pG x0) (aK x1))
  | 196,[x0,x1]=>.b (decide ((aK x1)∈(pG x0)))
  | 123,[x0,x1,x2]=>.agg (⟨(aK x1),nM (lh x0).z.sets (pG x2),[]⟩:jo).d
  | 15,[x0,x1]=>.tuple [.agg (pU (aC x0) (jC x1)).1.d,.i (pU (aC x0) (jC x1)).2]
  | 32,[x0]=>.b (!decide ((dw x0).set.ty=8))
  | 31,[x0,.fn (.func 32) [] []]=>.list false ((bL (eZ x0)).map Sgd.d)
  | 35,[x0]=>.agg (dw x0).d
  | 34,[x0,x1]=>.list false ((nextF (aC x0) (yl x1)).map RSet.d)
  | 8,[x0]=>.tuple [.agg (fJ (aC x0)).1.d,.i (fJ (aC x0)).2]
  | 37,[x0]=>.b (uD (rF x0))
  | 36,[x0,x1]=>.b (oU (aK x0) (aK x1))
  | 107,[x0,x1,x2,x3,x4]=>.v (.int .u64 ((ES (gu x0) (av x1) (rF x2) (aK x3) (aK x4):Nat):Int))
  | 43,[x0,x1,x2,x3,x4]=>.tuple [.agg (fu (set1 x0) (av x1) (rF x2) (aK x3) (aK x4)).1.d,.i (fu (set1 x0) (av x1) (rF x2) (aK x3) (aK x4)).2]
  | 14,[x0,x1,x2]=>.b (y7 (set1 x0) (NK x1) (rF x2))
  | 39,[x0,x1]=>.i (Go.Rec.cmpI (rF x0).n (rF x1).n)
  | 41,[x0]=>.list false ((pE (bB (aC x0)) (aC x0).sets.length).map bR)
  | 9,[x0,x1,x2,x3]=>.tuple [.agg (allR (aC x0) (CS x1) (aK x2) (aK x3)).1.d,.i (allR (aC x0) (CS x1) (aK x2) (aK x3)).2]
  | 13,[x0]=>.list false ((di (CS x0)).map SKey.d)
  | 16,[x0,x1]=>.b (E9 (Jq x0) (Jq x1))
  | 3,[x0,x1,x2,x3,x4,x5]=>.b true
  | _,_=>.junk
@[go_sem]theorem dep:De.pure k=true:=rfl
@[go_sem]theorem deg1{x c:D}:De.pf 332 [x,c] = .i (dR (av x) (aK c))/\De.pf 301 [x,c] = .i (dR (av x) (aK c))/\De.pf 307 [x,c] = .i (Go.Lib.compareBytes (av x) (av c))/\De.pf 268 [x,c] = .i (Go.Lib.compareBytes (av x) (av c))/\De.pf 118 [x,c] = .i (fQ (av x) (av c))/\De.pf 248 [x,c] = .tuple [.i (if ai (av x)&&ai (av c)then kS (av x) (av c)else 0),.i (if ai (av x)&&ai (av c)then 0 else 11)]/\De.pf 206 [x,c] = .tuple [.i (if ai (av x)&&ai (av c)then kS (av x) (av c)else 0),.i (if ai (av x)&&ai (av c)then 0 else 11)]/\De.pf 40 [x,c] = .i (cmpI (aK x) (aK c))/\De.pf 273 [x,c] = .i (wK (av x) (av c))/\De.pf 179 [x,c] = .b (Ai (av x) (av c))/\De.pf 105 [x,c] = .b (Ai (av x) (av c))/\De.pf 247 [x,c] = .b (less (kF x) (kF c))/\De.pf 251 [x,c] = .b (jX (N8 x) (kF c))/\De.pf 246 [x,c] = .b (qh (aK x) (kF c))/\De.pf 252 [x,c] = .i (eD (kF x) (kF c))/\De.pf 160 [x,c] = .i (mH (set1 x) (set1 c))/\De.pf 192 [x,c] = .b (xc (set1 x) (set1 c))/\De.pf 260 [x,c] = .b (yP (av x) (av c))/\De.pf 178 [x,c] = .b (yP (av x) (av c))/\De.pf 103 [x,c] = .tuple [.b (fT (av x) (av c)),.i (if ai (av x)&&ai (av c)then 0 else 11)]/\De.pf 119 [x,c] = .b (ig (av x) (av c))/\De.pf 240 [x,c] = .i (qC (jC x) (jC c))/\De.pf 165 [x,c] = .b (fits (aK x) (AB c))/\De.pf 161 [x,c] = .b (fits (aK x) (AB c))/\De.pf 166 [x,c] = .b (kg (uE x) (av c))/\De.pf 162 [x,c] = .b (kg (uE x) (av c))/\De.pf 116 [x,c] = .b (lT (dw x) (dw c))/\De.pf 48 [x,c] = .b (rJ (eZ x) (eZ c))/\De.pf 11 [x,c] = .b (nJ (aC x) (aC c))/\De.pf 185 [x,c] = .i (qC (dw x).q (jC c))/\De.pf 184 [x,c,.fn (.func 185) [] []] = .tuple [.i (aV (eZ x) (jC c)),.b (bV (eZ x) (jC c))]/\De.pf 109 [x,c] = .tuple [.i (aV (aC x).sets (jC c)),.b (bV (aC x).sets (jC c))]/\De.pf 90 [x,c] = .i (dV (aC x).sets (jC c))/\De.pf 66 [x,c] = .b (gX (aK x) (aK c))/\De.pf 29 [x,c] = .tuple [.b (nT (aK x) (aK c)).1,.i (nT (aK x) (aK c)).2]/\De.pf 134 [x,c] = .b (kX (pQ x) (pQ c))/\De.pf 140 [x,c] = .b (yV (uE x) (uE c))/\De.pf 74 [x,c] = .b (yz (dw x) (dw c))/\De.pf 69 [x,c] = .tuple [.agg (dw x).q.d,.b (qo (yJ c) (dw x).q)]/\De.pf 72 [x,c] = .tuple [.agg (dw x).d,.b (Aq (fq (yJ c) (dw x).q) (dw x))]:=by and_intros<;>rfl
@[go_sem]theorem deg2{x c:D}:De.pf 153 [x,c] = .tuple [.agg (dw x).d,.b (qo (yJ c) (dw x).q)]/\De.pf 68 [x,c] = .list false (((eZ x).filterMap (mW (Jm c))).map Qst.d)/\De.pf 236 [x,c] = .list false (((KD x).filterMap (j3S (Jm c))).map Qst.d)/\De.pf 71 [x,c] = .list false (((eZ x).filterMap (Ke (c))).map Sgd.d)/\De.pf 242 [x,c,.eptr [.fn (.func 70) [] []]] = .i (qC (dw x).q (dw c).q)/\De.pf 19 [x,c] = .tuple [.agg (lJ (aC x) (aC c)).1.d,.i (lJ (aC x) (aC c)).2]/\De.pf 79 [x,c] = .tuple [.agg (eY (aC x) (jK c)).1.d,.i (eY (aC x) (jK c)).2]/\De.pf 151 [x,c] = .tuple [.agg (uj (jK x) (jK c)).1.d,.i (uj (jK x) (jK c)).2]/\De.pf 75 [x,c] = .list false ((jI (ED x) (gu c)).map bD)/\De.pf 228 [x,c] = .b (isE (Na x))/\De.pf 225 [x,c] = .tuple [.list false ((bU (ED x).toNat (gu c)).2.map bD),.i (bU (ED x).toNat (gu c)).1]/\De.pf 150 [x,c] = .tuple [.agg (nextF (cnt1 x) (gu c)).1.d,.i (nextF (cnt1 x) (gu c)).2]/\De.pf 21 [x,c] = .tuple [.agg (rf (pO x) (jK c)).1.d,.i (rf (pO x) (jK c)).2]/\De.pf 261 [x,c] = .b (lT (dw x) (dw c))/\De.pf 138 [x,c,.fn (.func 261) [] []] = .b (rJ (eZ x) (eZ c))/\De.pf 191 [x,c] = .b (nJ (aC x) (aC c))/\De.pf 115 [x,c] = .i (sJ (uF x) (aC c))/\De.pf 111 [x,c] = .agg (Bt (MZ c) (aK x)).d/\De.pf 132 [x,c] = .b (dZ (Ji c).set.name (dw x))/\De.pf 221 [x,c] = .b (dZ (CY c).name (dw x))/\De.pf 203 [x,c] = .i (d9 (E5 (c)) (eZ x) 0)/\De.pf 130 [x,c] = .b (decide (0<=d9 (E5 (c)) (eZ x) 0))/\De.pf 62 [x,c] = .b (fT (av x) (av c))/\De.pf 63 [x,c] = .b (sG (aC x) (Ay c))/\De.pf 139 [x,c] = .b (decide ((dw x).set=(dw c).set))/\De.pf 138 [x,c,.fn (.func 139) [] []] = .b (Ch (eZ x) (eZ c))/\De.pf 275 [x,c] = .i (d9 (λy=>decide ((kF c)=y)) (pQ x) 0)/\De.pf 217 [x,c] = .b (eB (pQ x) (kF c))/\De.pf 216 [x,c] = .b (eB (CY c).data (kF x))/\De.pf 274 [x,c] = .i (d9 (eB (ZbV c).data) (pQ x) 0)/\De.pf 212 [x,c] = .i (eD (kF x) (kF c))/\De.pf 17 [x,c] = .tuple [.agg (fH (aC x) (CK c)).1.d,.i (fH (aC x) (CK c)).2]/\De.pf 18 [x,c] = .agg (gQ (aK x) (pG c)).d/\De.pf 5 [x,c] = .b (yU (aC x) (CJ c))/\De.pf 7 [x,c] = .tuple [.list false ((mr (aC x) (CJ c)).1.map Zon.d),.b (mr (aC x) (CJ c)).2]/\De.pf 195 [x,c] = .i (HV (av x) (aK c))/\De.pf 266 [x,c] = .v (.string (bs (jT (yl x))))/\De.pf 50 [x,c] = .tuple [.v (.string (bs (jY (aC x) (av c)).1)),.b (jY (aC x) (av c)).2.1,.i (jY (aC x) (av c)).2.2]/\De.pf 199 [x,c] = .i (uZ (av x) (av c))/\De.pf 122 [x,c] = .b (fT (av x) (av c)):=by and_intros<;>rfl
@[go_sem]theorem deg3{x c:D}:De.pf 197 [x,c] = .i ((srS (c):Nat):Int)/\De.pf 124 [x,c] = .b (kD (lh x).z.sets (av c))/\De.pf 200 [x,c] = .fn (.func 264) [] [.eptr [.eptr (lh x).d],.eptr [.v (.string (bs (av c)))]]/\De.pf 126 [x,c] = .i (jc (lh x).z.sets (av c))/\De.pf 263 [x,c] = .i (Ab (pG x) (aK c))/\De.pf 196 [x,c] = .b (decide ((aK c)∈(pG x)))/\De.pf 15 [x,c] = .tuple [.agg (pU (aC x) (jC c)).1.d,.i (pU (aC x) (jC c)).2]/\De.pf 34 [x,c] = .list false ((nextF (aC x) (yl c)).map RSet.d)/\De.pf 36 [x,c] = .b (oU (aK x) (aK c))/\De.pf 39 [x,c] = .i (Go.Rec.cmpI (rF x).n (rF c).n)/\De.pf 16 [x,c] = .b (E9 (Jq x) (Jq c)):=by and_intros<;>rfl
@[go_sem]theorem deg4{x:D}:De.pf 259 [x] = .b (gJ (av x))/\De.pf 89 [x] = .b (gJ (av x))/\De.pf 88 [x] = .list false ((jO (av x)).map sR)/\De.pf 27 [x] = .b (ai (av x))/\De.pf 177 [x] = .b (ai (av x))/\De.pf 104 [x] = .b (ai (av x))/\De.pf 194 [x] = .list false ((bA (av x)).map sR)/\De.pf 102 [x] = .b ((aK x) != (aK x))/\De.pf 317 [x] = .b ((av x) != (av x))/\De.pf 250 [x] = .b (jq (av x))/\De.pf 245 [x] = .b (jq (av x))/\De.pf 299 [x] = .b (xN (av x))/\De.pf 298 [x] = .b (xN (av x))/\De.pf 272 [x] = .i (xq (pG x) 0)/\De.pf 163 [x] = .b (fw (set1 x))/\De.pf 159 [x] = .b (fw (set1 x))/\De.pf 244 [x] = .b (CU (aK x))/\De.pf 106 [x] = .tuple [.list false ((qW (set1 x)).1.map bD),.i (qW (set1 x)).2]/\De.pf 319 [x] = .tuple [.agg (jB (gu x)).1.d,.i (jB (gu x)).2]/\De.pf 158 [x] = .b (AQ (av x))/\De.pf 6 [x] = .b (ku (jC x))/\De.pf 92 [x] = .b (ordered (aC x))/\De.pf 93 [x] = .b (ru (aC x))/\De.pf 95 [x] = .b (sU (zU x))/\De.pf 96 [x] = .b (mg (zU x))/\De.pf 97 [x] = .b (Ca (zU x))/\De.pf 98 [x] = .b (Cb (zU x))/\De.pf 94 [x] = .agg (bB (aC x)).d/\De.pf 30 [x] = .b (ak (aC x))/\De.pf 45 [x] = .tuple [.i (if ak (aC x)then aL (aC x)else 0),.i (if ak (aC x)then 0 else 1)]/\De.pf 83 [x] = .b (nQ (aC x))/\De.pf 84 [x] = .b (tq (aC x))/\De.pf 85 [x] = .b (oZ (aC x))/\De.pf 193 [x] = .list false ((gW (aC x)).map sR)/\De.pf 117 [x] = .list false ((cO (aC x)).map sR)/\De.pf 49 [x] = .list false ((gK (aC x)).map sR)/\De.pf 86 [x] = .b (uo (aC x))/\De.pf 12 [x] = .list false ((uL (aC x)).map bR)/\De.pf 87 [x] = .b (uX (aC x))/\De.pf 25 [x] = .b (jA (aC x)):=by and_intros<;>rfl
@[go_sem]theorem deg5{x:D}:De.pf 28 [x] = .i (dF (aC x))/\De.pf 24 [x] = .b (xO (aC x))/\De.pf 91 [x] = .b (iB (aK x))/\De.pf 70 [x] = .agg (dw x).q.d/\De.pf 42 [x] = .list false ((pQ x).map Dat.d)/\De.pf 99 [x] = .list false ((uE x).map RSig.d)/\De.pf 73 [x] = .agg (dw x).d/\De.pf 67 [x] = .fmap (jk (lH (eZ x)))/\De.pf 156 [x] = .tuple [.agg (dw x).d,.b true]/\De.pf 239 [x] = .tuple [.agg (dw x).d,.b true]/\De.pf 232 [x] = .agg (jC x).d/\De.pf 152 [x] = .b (fO (jK x))/\De.pf 76 [x] = .list false ((lg (aC x)).map bD)/\De.pf 80 [x] = .list false ((il (jK x)).map bD)/\De.pf 144 [x] = .v (.int .u64 ((dig (gu x):Nat):Int))/\De.pf 149 [x] = .tuple [.agg (mq (gu x)).d,.i (rD (qP (gu x)))]/\De.pf 77 [x] = .tuple [.agg (xu (pO x)).d,.b (iX (pO x)).isSome]/\De.pf 78 [x] = .b (fO (jK x))/\De.pf 81 [x] = .list false ((gu x).map bD)/\De.pf 20 [x] = .tuple [.agg (xY (aC x)).1.d,.i (xY (aC x)).2]/\De.pf 22 [x] = .tuple [.agg (wX (pO x)).1.d,.i (wX (pO x)).2]/\De.pf 23 [x] = .tuple [.agg (uR (pO x)).1.d,.i (uR (pO x)).2]/\De.pf 108 [x] = .b (DC (aC x))/\De.pf 190 [x] = .b (fO (jK x))/\De.pf 44 [x] = .b (mG (uF x))/\De.pf 113 [x] = .b (kR (xy x))/\De.pf 114 [x] = .tuple [.v (.string (bs (ql (xy x)).1)),.b (ql (xy x)).2]/\De.pf 189 [x] = .agg (dw x).d/\De.pf 188 [x,.fn (.func 189) [] []] = .list false ((eZ x).map Sgd.d)/\De.pf 112 [x] = .agg (aC x).d/\De.pf 187 [x] = .i (aL (aC x))/\De.pf 186 [x,.fn (.func 187) [] []] = .list false (((nD x).map aL).map kK)/\De.pf 110 [x] = .tuple [.list false ((vB (nD x)).1.map kK),.b (vB (nD x)).2]/\De.pf 131 [x] = .b (uP (dw x))/\De.pf 61 [x] = .b (jQ (aC x))/\De.pf 128 [x] = .b (jg (Ay x))/\De.pf 129 [x] = .b (gp (Ay x))/\De.pf 60 [x] = .b (j6 (CK x))/\De.pf 26 [x] = .b (jQ (aC x))/\De.pf 120 [x] = .tuple [.v (.string (bs (tO (av x)))),.i (if ai (av x)then(if(av x)=[46]then 4 else 0)else 11)]:=by and_intros<;>rfl
@[go_sem]theorem deg6{x:D}:De.pf 201 [x] = .tuple [.list false ((if ai (av x)then bA (av x)else[]).map sR),.i (if ai (av x)then 0 else 11)]/\De.pf 202 [x] = .tuple [.v (.string (bs (si (yl x)).1)),.i (si (yl x)).2]/\De.pf 33 [x] = .tuple [.list false ((if ak (aC x)then cK (aC x)else[]).map sR),.i (if ak (aC x)then 0 else 1)]/\De.pf 125 [x] = .i (bK (lh x).z.sets ⟨(lh x).z.apex,4⟩)/\De.pf 127 [x] = .v (.string (bs (wV (lh x).z (lh x).q.name)))/\De.pf 32 [x] = .b (!decide ((dw x).set.ty=8))/\De.pf 31 [x,.fn (.func 32) [] []] = .list false ((bL (eZ x)).map Sgd.d)/\De.pf 35 [x] = .agg (dw x).d/\De.pf 8 [x] = .tuple [.agg (fJ (aC x)).1.d,.i (fJ (aC x)).2]/\De.pf 37 [x] = .b (uD (rF x))/\De.pf 41 [x] = .list false ((pE (bB (aC x)) (aC x).sets.length).map bR)/\De.pf 13 [x] = .list false ((di (CS x)).map SKey.d):=by and_intros<;>rfl
@[go_sem]theorem deg7{x c a:D}:De.pf 249 [x,c,a] = .b (aP (aK x) (aK c) (aK a))/\De.pf 331 [x,c,a] = .b (aP (aK x) (aK c) (aK a))/\De.pf 243 [x,c,a] = .b (aP (aK x) (aK c) (aK a))/\De.pf 82 [x,c,a] = .list false (((gu x)++fG (KG c)++(gu a)).map bD)/\De.pf 46 [x,c,a] = .tuple [.agg (ko (nD x) (AB c) (aK a)).1.d,.i (ko (nD x) (AB c) (aK a)).2]/\De.pf 47 [x,c,a] = .tuple [.agg (lm (uF x) (xy c) (aK a)).1.d,.i (lm (uF x) (xy c) (aK a)).2]/\De.pf 10 [x,c,a] = .tuple [.agg (o9 (uF x) (nD c) (aK a)).1.d,.i (o9 (uF x) (nD c) (aK a)).2]/\De.pf 205 [x,c,a] = .i (qC (dw x).q ⟨(av c),(HZ a)⟩)/\De.pf 204 [x,c,a] = .tuple [.i (aV (eZ x) ⟨(av c),(Jh a)⟩),.b (bV (eZ x) ⟨(av c),(Jh a)⟩)]/\De.pf 133 [x,c,a] = .tuple [.i (aV (aC x).sets ⟨(av c),(aK a)⟩),.b (bV (aC x).sets ⟨(av c),(aK a)⟩)]/\De.pf 121 [x,c,a] = .i (bK (lh x).z.sets ⟨(av c),(aK a)⟩)/\De.pf 198 [x,c,a] = .b (decide (0<=uZ (zi c).z.sets[(aK x).toNat]!.set.name (zw a)))/\De.pf 265 [x,c,a] = .b (decide (0<uZ (zi c).z.sets[(aK x).toNat]!.set.name (zw a)))/\De.pf 123 [x,c,a] = .agg (⟨(aK c),nM (lh x).z.sets (pG a),[]⟩:jo).d/\De.pf 14 [x,c,a] = .b (y7 (set1 x) (NK c) (rF a)):=by and_intros<;>rfl
@[go_sem]theorem deg8{x c a f:D}:De.pf 164 [x,c,a,f] = .i (qC ⟨(av x),(aK c)⟩ ⟨(av a),(aK f)⟩)/\De.pf 9 [x,c,a,f] = .tuple [.agg (allR (aC x) (CS c) (aK a) (aK f)).1.d,.i (allR (aC x) (CS c) (aK a) (aK f)).2]:=by and_intros<;>rfl
@[go_sem]theorem deg9:De.pf 155 [.fn (.func 70) [] []] = .fn (.func 242) [] [.eptr [.fn (.func 70) [] []]]/\De.pf 235 [.fn (.func 232) [] []] = .fn (.func 289) [] [.eptr [.fn (.func 232) [] []]]/\De.pf 4 [] = .b true:=by and_intros<;>rfl
@[go_sem]theorem deg10{x c a f g:D}:De.pf 107 [x,c,a,f,g] = .v (.int .u64 ((ES (gu x) (av c) (rF a) (aK f) (aK g):Nat):Int))/\De.pf 43 [x,c,a,f,g] = .tuple [.agg (fu (set1 x) (av c) (rF a) (aK f) (aK g)).1.d,.i (fu (set1 x) (av c) (rF a) (aK f) (aK g)).2]:=by and_intros<;>rfl
@[go_sem]theorem deg11{x c a f g h:D}:De.pf 3 [x,c,a,f,g,h] = .b true:=rfl
noncomputable def zf:aO:={ De with bs:=true }
def deB_p:zf.pure k=De.pure k:=rfl
def deB_f:zf.pf k xs=De.pf k xs:=rfl
def deB_b:zf.bs=true:=rfl
def de_b:De.bs=false:=rfl
def de_c:De.cf=false:=rfl
def deB_c:zf.cf=false:=rfl
attribute[go_sem]deB_p deB_f deB_b de_b de_c deB_c
noncomputable def nC:aO:={ De with cf:=true }
def deF_p:nC.pure k=De.pure k:=rfl
def deF_f:nC.pf k xs=De.pf k xs:=rfl
def deF_b:nC.bs=false:=rfl
def deF_c:nC.cf=true:=rfl
def de_s:De.dp=false:=rfl
def deB_s:zf.dp=false:=rfl
attribute[go_sem]deF_p deF_f deF_b deF_c de_s deB_s
noncomputable def wS:aO:={ De with dp:=true }
def deS_p:wS.pure k=De.pure k:=rfl
def deS_f:wS.pf k xs=De.pf k xs:=rfl
def deS_b:wS.bs=false:=rfl
def deS_c:wS.cf=false:=rfl
def deS_s:wS.dp=true:=rfl
attribute[go_sem]deS_p deS_f deS_b deS_c deS_s
noncomputable def nA:aO:={ De with pure:=λk=>k != 123 }
def deL_p123:nA.pure 123=false:=rfl
def deL_p121:nA.pure 121=true:=rfl
def deL_p125:nA.pure 125=true:=rfl
def deL_p126:nA.pure 126=true:=rfl
def deL_p124:nA.pure 124=true:=rfl
def deL_p127:nA.pure 127=true:=rfl
def deL_f:nA.pf k xs=De.pf k xs:=rfl
def deL_bs:nA.bs=false:=rfl
def deL_cf:nA.cf=false:=rfl
def deL_dp:nA.dp=false:=rfl
attribute[go_sem]deL_p123 deL_p121 deL_p125 deL_p126 deL_p124 deL_p127 deL_f deL_bs deL_cf deL_dp
set_option maxRecDepth 10000
variable [Dr] [Glob prog] [Told]
noncomputable def xa{ro:Option Nat}{Q:Exit->S->Prop}:=@aa prog ro _ Q _ De
noncomputable def xb{ro:Option Nat}{Q:Exit->S->Prop}:=@ag prog ro _ Q _ De
noncomputable def xf{ro:Option Nat}{Q:Exit->S->Prop}:=@oK prog ro _ Q _ De
noncomputable def xi{ro:Option Nat}{Q:Exit->S->Prop}:=@wE prog ro _ Q _ De
noncomputable def xj{ro:Option Nat}{Q:Exit->S->Prop}:=@wA prog ro _ Q _ De
noncomputable def xl{ro:Option Nat}{a:Exit->S->Prop}{Q:Exit->S->Prop}:=@wC prog ro _ a Q _ De
noncomputable def xo{ro:Option Nat}{Q:Exit->S->Prop}:=@wH prog ro _ Q _ De
noncomputable def xp{ro:Option Nat}{Q:Exit->S->Prop}:=@wG prog ro _ Q _ De
noncomputable def xr{ro:Option Nat}{Q:Exit->S->Prop}:=@oM prog ro _ Q _ De
noncomputable def xt{ro:Option Nat}{Q:Exit->S->Prop}:=@oT prog ro _ Q _ De
noncomputable def xv{r:Nat}{ro:Option Nat}{s:S}{n:Nat}{Q:Exit->S->Prop}:=@oC prog r ro s _ _ n Q De
noncomputable def xF{ro:Option Nat}{Q:Exit->S->Prop}:=@aN prog ro _ Q _ De
noncomputable def ya{ro:Option Nat}{Q:Exit->S->Prop}:=@bg prog ro _ Q _ De
noncomputable def yb{b:Nat}{h:H}{L:List Oper}{n:Nat}{Q:Exit->S->Prop}:=@aZ prog b h _ L n Q _ De
noncomputable def ye{ro:Option Nat}{Q:Exit->S->Prop}{s:S}{A:Prop}{B:Prop}{q:Prop}{Ks:Nat->Prop}{Rs:Nat->Prop}:=@fr prog ro _ _ Q _ s A B q Ks Rs De
noncomputable def yi{ro:Option Nat}{Q:Exit->S->Prop}{s:S}{A:Prop}{B:Prop}{Ks:Nat->Prop}{Rs:Nat->Prop}:=@ft prog ro _ Q _ s A B Ks Rs De
abbrev yk:=@PureCt _ prog _
abbrev yp:=@bG _ prog _
def ZkC(s:Str)(c:Int)(hs:s.length<=9223372036854775806):yk 332 [.v (.string (bs s)),.v (.int .u8 c)] (.i (dR s c)):=by
 rw[dR];refine oO func332 λff=>?_;unfold f332;refine xa ?_;refine xj ?_;refine lq (Nat×Nat) [0,1] (λ⟨k,Z⟩=>(k<=s.length/\nW s c s.length=nW s c k,k,[(5,.i ((k:Int)-1))],[],Z)) (s.length,_) ?_;rintro⟨k,Z⟩ ⟨X,u⟩;simp only[XX,XZ];refine xt ?_ ?_ (hq:=rfl)<;>intro w
 .
  have U:0<k:=by have a:(0:Int)<=(k:Int)-1:=(by simpa using w);omega
  have y:((k:Int)-1).toNat=k-1:=by omega
  have ff:=qA @y ff;refine wD ?_;refine xi ?_ ?_<;>intro I
  . exact ye (k:=by rw[u,Xk U,X0 I];congr 2;omega)
  refine xl ?_;exact ah (k-1,_) (h1:=⟨iv,(by(try dsimp only);rw[u,Xk U,if_neg I])⟩)
 have U:k=0:=by have a : ¬(0:Int)<=(k:Int)-1:=(by simpa using w);omega
 refine aB ?_;exact ye (k:=by rw[u,U];rfl)
def K8(s:Str)(c:Int)(hs:s.length<=9223372036854775806):yk 301 [.v (.string (bs s)),.v (.int .u8 c)] (.i (dR s c)):=by refine oO func301 λff=>?_;unfold f301;refine xa ?_;exact yi (hok:=oF (ZkC _ _ hs))
def Zae(s:Str):yk 259 [.v (.string (bs s))] (.b (gJ s)):=by
 rw[ZkG];refine oO func259 λff=>?_;unfold f259;have y:((s.length:Int)-1).toNat=s.length-1:=by omega
 have ff:=qA @y ff;refine xa ?_;refine xf ?_ ?_<;>intro w
 . exact ye (k:=o2m)
 refine xj ?_;refine lq (Nat×Nat) [0,27] (λ⟨k,Z⟩=>(k<=s.length/\ax s.length (zN s) 0=ax s.length (zN s) k,s.length-k,[(28,.i k)],[],Z)) (0,_) ?_;rintro⟨k,Z⟩ ⟨X,u⟩;simp only[XX,XZ];refine xo ?_ ?_<;>intro I
 .
  have U:k<s.length:=by simpa using I
  refine wB ?_;refine xv ?_;refine xi ?_ ?_<;>intro a
  . exact ye (k:=by have T:zN s k=false:=(by simp only[zN,uu,Yg,YT,X6];omega);rw[u,iI,X0 U,T];(repeat' split)<;>rfl)
  refine xl ?_;exact ah (k+1,_) (h1:=⟨iv,(by(try dsimp only);have T:zN s k=true:=(by simp only[zN,uu,Bool.or_eq_true,Bool.and_eq_true,decide_eq_true_eq];omega);rw[u,iI,if_pos U,T];rfl)⟩)
 refine aB ?_;exact ye (k:=o1a)
def ZhE(s:Str)(hs:s.length<=9223372036854775806):yk 89 [.v (.string (bs s))] (.b (gJ s)):=by
 rw[gJ];refine oO func89 λff=>?_;unfold f89;refine xa ?_;refine xj ?_;refine lq (Nat×Nat) [0] (λ⟨k,Z⟩=>(k<=s.length/\ax s.length (rT s) 0=ax s.length (rT s) k,s.length-k,[(3,.i k)],[],Z)) (0,_) ?_;rintro⟨k,Z⟩ ⟨X,u⟩;simp only[XX,XZ];refine xt ?_ ?_<;>intro w
 .
  have U:k<s.length:=by simpa using w
  refine wD ?_;refine xv ?_;refine xi ?_ ?_<;>intro I
  . exact ye (k:=by have T:rT s k=false:=(by simp only[rT,uu,Yg,YT,X6];omega);rw[u,iI,X0 U,T];rfl)
  refine xl ?_;exact ah (k+1,_) (h1:=⟨iv,(by(try dsimp only);have T:rT s k=true:=(by simp only[rT,uu,Bool.or_eq_true,Bool.and_eq_true,decide_eq_true_eq];omega);rw[u,iI,if_pos U,T];rfl)⟩)
 refine aB ?_;exact ye (k:=by rw[u,iI,XV (by omega)];congr 2;rw[YD];simp only[XU,XY,ZE];omega)
def UD(s:Str)(hs:s.length<=1000):yk 88 [.v (.string (bs s))] (.l ((jO s).map sR)):=by
 rw[jO];refine oO func88 λff=>?_;unfold f88;refine xa ?_;refine aa zf ?_;refine xj ?_;refine lq (Nat×(List Str)×Nat×Nat) [0] (λ⟨k,out,r,Z⟩=>(k<=s.length/\1<=out.length/\out.length<=k+1/\(∀x∈out,x.length<=k)/\yt s 0 [[]]=yt s k out/\r<Z,s.length-k,[(3,.mrow r 0 out.length),(4,.i k)],[(r,⟨9,out.map sR⟩)],Z)) (0,[[]],1,_) ?_ (hA:=⟨iv,o2x,o2x,o2x,rfl,iv⟩);rintro⟨k,out,r,Z⟩ ⟨X,g,t,a,u,j⟩;simp only[XX,XZ];have ff:=qA @j ff;refine xt ?_ ?_<;>intro w
 .
  have U:k<s.length:=by simpa using w
  have v:out.length-1<out.length:=by omega
  have y:((out.length:Int)-1).toNat=out.length-1:=by omega
  have m:((k:Int)+1).toNat=k+1:=by omega
  have f:out[out.length-1]!.length<=k:=a _ (by rw[getElem!_pos out _ v];exact Yz _);have ff:=qE @y @m (kC v) (ZiW U) ff;refine wD ?_;refine xi ?_ ?_<;>intro I
  . have O:=Zff (out:=out) (c:=s.getD k 0) I;refine xb ?_;refine xb ?_;exact ah (k+1,out++[[]],(Z+10),_) (h1:=⟨iv,o2x,o2n,(by(try dsimp only);intro x E;rcases List.mem_append.1 E with h|h;exact Nat.le_succ_of_le (a x h);simp at h;subst h;exact Nat.zero_le _),(by(try dsimp only);rw[u,GD,if_pos U,O]),iv⟩) (h3:=o0g) (h4:=o0g) (h5:=o0g)
  have O:=Zfh (out:=out) (c:=s.getD k 0) I;refine xb ?_;refine xb ?_;exact ah (k+1,out.set (out.length-1) (out[out.length-1]! ++ [s.getD k 0]),r,_) (h1:=⟨iv,o2n,o2n,(by(try dsimp only);intro x E;rcases List.mem_or_eq_of_mem_set E with h|h;exact Nat.le_succ_of_le (a x h);subst h;rw[List.length_append];exact Nat.succ_le_succ f),(by(try dsimp only);rw[u,GD,if_pos U,O]),iv⟩) (h3:=o0g) (h4:=o0g) (h5:=o0g)
 refine aB ?_;exact ye (K:=1) (k:=by rw[u,GD,XV (by omega)])
def vF(s:Str):yk 27 [.v (.string (bs s))] (.b (ai s)):=by
 rw[ai];refine oO func27 λff=>?_;unfold f27;refine xa ?_;refine xf ?_ ?_<;>intro w
 . exact ye (k:=by rw[X0 w])
 refine xf ?_ ?_<;>intro I
 . exact ye (k:=by rw[XV w,X0 (by omega)])
 refine xa ?_ (hok:=gI @UD);refine xj ?_;refine lq (Nat×Nat) [3] (λ⟨k,Z⟩=>(k<=(jO s).length/\ax (jO s).length (jf (jO s)) 0=ax (jO s).length (jf (jO s)) k,(jO s).length-k,[(4,.i k)],[],Z)) (0,_) ?_;rintro⟨k,Z⟩ ⟨X,u⟩;simp only[XX,XZ];have f:=Zfi s k;have g:=(JW s).2;refine xt ?_ ?_<;>intro a
 .
  have U:k<(jO s).length:=by simpa using a
  have ff:=qA (kC U) ff;refine wD ?_;refine xa ?_ (hok:=gI @ZhE);refine xi (λc=>?_) (λc=>?_) (hok:=oS (k:=by refine⟨λ_=>⟨om,om⟩,λJ _=>⟨J,λA=>by rw[J,A];rfl⟩⟩))
  . exact ye (k:=by rw[XV w,XV (by omega),u,iI,X0 U,ZiF c.1 (by first|exact c.2|(rcases c.2 with h|h;exact .inl (by omega);exact .inr h))];rfl)
  refine xl ?_;exact ah (k+1,_) (h1:=⟨iv,(by(try dsimp only);rw[u,iI,if_pos U,ZiE (by first|exact c|(rcases c with h|h;exact .inl h;exact .inr ⟨om,h.2⟩))];rfl)⟩)
 refine aB ?_;exact ye (k:=by rw[XV w,XV (by omega),u,iI,XV (by omega),ZE];congr 2;exact ZQ.2 (by omega))
def GR(s:Str)(hs:s.length<=1000):yk 194 [.v (.string (bs s))] (.l ((bA s).map sR)):=by
 rw[bA];refine oO func194 λff=>?_;unfold f194;refine xa ?_;refine xf ?_ ?_<;>intro w
 . exact ye (k:=by rw[X0 w];rfl)
 exact ye (hok:=oF (UD _ hs)) (k:=by rw[XV w])
theorem Ri:fE prog 258=true:=by kernel_rfl
theorem CQ(s:Str):yk 177 [.v (.string (bs s))] (.b (ai s)):=by
 refine oO func177 λff=>?_;unfold f177;refine xa ?_;refine xf ?_ ?_<;>intro w
 . exact ye (k:=by rw[ai,X0 w])
 refine xf ?_ ?_<;>intro a
 . exact ye (k:=by rw[ai,XV w,X0 (by omega)])
 refine xa ?_;refine xj ?_;refine Mj o3h ev func258 rfl Ri (by simp[f258]) rfl (λl x F m y f=>?_);unfold f258;refine xf ?_ ?_<;>intro d0
 . exact absurd d0 w
 refine xa ?_;refine dK ?_;refine lq (Str×Nat×Bool×Nat) [1] (λ⟨Z,n,c,j⟩=>(n<=8/\Z.length<=s.length/\7<j/\ai s=sW (rM Z) n c,Z.length,[(4,.v (.string (bs Z)))],[(0,⟨4,[[.b false]]⟩),(6,⟨3,[[.i n]]⟩),(7,⟨4,[[.b c]]⟩)],j)) (s,0,false,_) ?_ (hA:=⟨oW,o1k,iv,(by(try dsimp only);rw[WE,if_neg w,if_neg (by omega)])⟩);rintro⟨Z,n,c,j⟩ ⟨z,B,E,u⟩;simp only[XX,XZ];have G:=Hu Z 46;have I:0<j:=by omega
 have J:6<j:=by omega
 have K:7<j:=by omega
 refine dK ?_;refine xa ?_ (hok:=gI @K8);refine aj ?_;refine aj ?_;refine Mi (C:=De) (r:=x) 5 (dP rfl) rfl rfl rfl o2q ?_ ev o1s o3h ev (by rw[F];rfl) (by rw[F,f];show ∀p∈[13],p<30;decide) ?_
 . exact okU
 rw[m,y,F,f];show DW _ _ _ _ { n:=_,t:=yu _ [13] _,h:=_,nx:=_ };simp only[Kb,Ka];refine xb ?_;refine⟨rfl,?_⟩;refine dK ?_;refine xa ?_;refine xr ?_ ?_ (hq:=rfl)<;>intro o
 .
  refine xa ?_;refine jb ?_;refine⟨rfl,false,some .ret,⟨rfl,rfl⟩,⟨_,_,_,_,_,_⟩,by simp only[X9,X4,S.put,go_sem,ff];exact rfl,?_,?_⟩
  . exact okU
  try simp only[aH]
  refine ce ?_ ?_ (hq:=rfl)<;>intro v
  . refine jb ?_;refine⟨.inr rfl,some .ret,rfl,?_⟩;exact fin 0 (hr:=oS (k:=o2e))
  simp at v
 have A:=Zoz o;refine xa ?_;refine xp (λg=>?_) (λg=>?_) (hok:=gI @Zae) (hq:=rfl)
 .
  refine xa ?_;refine jb ?_;refine⟨rfl,false,some .ret,⟨rfl,rfl⟩,⟨_,_,_,_,_,_⟩,by simp only[X9,X4,S.put,go_sem,ff];exact rfl,?_,?_⟩
  . exact okU
  try simp only[aH]
  refine ce ?_ ?_ (hq:=rfl)<;>intro v
  . refine jb ?_;refine⟨.inr rfl,some .ret,rfl,?_⟩;exact fin 0 (hr:=oS (k:=o2e))
  simp at v
 refine bM ?_;refine⟨rfl,true,none,⟨rfl,rfl⟩,⟨_,_,_,_,_,_⟩,by simp only[X9,X4,S.put,go_sem,ff];exact rfl,?_,?_⟩
 . exact okU
 try simp only[aH]
 refine cd ?_ ?_<;>intro v
 . refine jb ?_;refine⟨.inr rfl,none,rfl,?_⟩;exact ye (k:=by rw[u,tH,Sc o g,X0 v];rfl)
 refine xl ?_;exact ah (Z.take (dR Z 46).toNat,n+1,((Z.drop (dR Z 46+1).toNat)==[42]),_) (h1:=⟨oW,o1k,iv,(by(try dsimp only);rw[u,tH,Sc o g,if_neg v])⟩) (h2:=o2O)
def yF(s:Str):yk 104 [.v (.string (bs s))] (.b (ai s)):=by refine oO func104 λff=>?_;unfold f104;refine xa ?_;exact yi (hok:=oF (CQ _))
def ZoF:Go.Shelf.Ren:={ f:=λx=>match x with|213=>307|265=>335|n=>n,t:=λx=>match x with|3=>3|9=>9|n=>n,g:=λn=>n }
def ZoG:Go.Proofs.Lays.n213 prog ZoF:={
 mixed:=zQ
 f213:=func307.trans (by kernel_rfl)
 f265:=func335.trans (by kernel_rfl)
 t3:=underlying3
 a3:=Tryz.isAgg3
 z3:=Tryz.sizeOf3
 v3:=Tryz.zeroValue3
 t9:=underlying9
 a9:=Tryz.isAgg9
 z9:=Tryz.sizeOf9
 v9:=Tryz.zeroValue9 }
def ZoE(a b:Str):yk 307 [.v (.string (bs a)),.v (.string (bs b))] (.i (Go.Lib.compareBytes a b)):=by refine⟨by kernel_rfl,by simp[D.nr],λw I j f M O=>?_⟩;obtain⟨x,l,rfl,J,Y⟩:=O.of_cons;obtain⟨y,l,rfl,A,c⟩:=Y.of_cons;rw[c.of_nil,J.v_inv,A.v_inv];have:=Go.Proofs.Any.bytealg_CompareString ZoG (bs a) (bs b) w;refine callsIn_wide.2 (this.mono ?_);rintro e T ⟨rfl,rfl⟩;refine⟨_,rfl,⟨rfl,rfl,rfl,XW _,λ_=>XW _,λ_ _=>rfl⟩,?_⟩;rw[mh,mh];exact .v _
def ZoD(a:Str)(b:Str):yk 268 [.v (.string (bs a)),.v (.string (bs b))] (.i (Go.Lib.compareBytes a b)):=by refine oO func268 λff=>?_;unfold f268;refine xa ?_;exact yi (hok:=oF (ZoE _ _))
def Zif(s:Str)(h:H)(n:Nat):yp 267 [.v (.string (bs s))] h n (λd h' g=>d = .fn (.func 306) [] [.mptr (n+5) 0 0,.mptr (n+4) 0 0]/\h'=upd (upd h (n+4) (some ⟨9,[[.v (.string (bs s))]]⟩)) (n+5) (some ⟨4,[[.b (s != [46])]]⟩)/\g=n+10):=by refine oP func267 λo ff=>?_;unfold f267;have ff:=qA (nH (n+4) (n+5)) ff;refine oD De ?_;exact oN (bJ (upd (upd h (n+4) (some ⟨9,[[.v (.string (bs s))]]⟩)) (n+5) (some ⟨4,[[.b (s != [46])]]⟩)) (hr:=by(try simp only[go_sem,ff]);all_goals (exact⟨rfl,rfl,rfl⟩)) (hh:=by intro q;left;by_cases y:q=n+5<;>by_cases O:q=n+4<;>simp[upd,y,O]))
def Zih(more:Bool)(rest:Str)(m r:Nat)(h:H)(n:Nat)(v:h m=some ⟨4,[[.b more]]⟩)(hr:h r=some ⟨9,[[.v (.string (bs rest))]]⟩)(a:m≠r)(f:rest.length<=1000):yp 306 [.mptr m 0 0,.mptr r 0 0] h n (λd h' g=>d = .tuple [.v (.string (bs (zK more rest))),.b more]/\h'=upd (upd h m (some ⟨4,[[.b (uJ more rest)]]⟩)) r (some ⟨9,[[.v (.string (bs (uI more rest)))]]⟩)/\n<=g):=by
 refine oP func306 λo ff=>?_;unfold f306;have c:r≠m:=λe=>a e.symm;have j:=Hu rest 46;have ff:=qE @v @hr @a @c ff;refine xa ?_;refine xf ?_ ?_<;>intro w
 . refine xa ?_;exact oN (bJ (upd (upd h m (some ⟨4,[[.b (uJ more rest)]]⟩)) r (some ⟨9,[[.v (.string (bs (uI more rest)))]]⟩)) (hr:=oS (k:=o1O)) (hh:=o0Q))
 refine xa ?_ (hok:=gI @K8);refine xa ?_;refine aj ?_;refine xi ?_ ?_<;>intro I
 . refine xb ?_;refine xa ?_;exact oN (bJ (upd (upd h m (some ⟨4,[[.b (uJ more rest)]]⟩)) r (some ⟨9,[[.v (.string (bs (uI more rest)))]]⟩)) (hr:=oS (k:=o1O)) (hh:=o0Q))
 refine xb ?_;refine xa ?_;exact oN (bJ (upd (upd h m (some ⟨4,[[.b (uJ more rest)]]⟩)) r (some ⟨9,[[.v (.string (bs (uI more rest)))]]⟩)) (hr:=oS (k:=o1O)) (hh:=o0Q))
def KT(a:Str)(b:Str):yk 206 [.v (.string (bs a)),.v (.string (bs b))] (.tuple [.i (if ai a&&ai b then kS a b else 0),.i (if ai a&&ai b then 0 else 11)]):=by
 refine oO func206 λff=>?_;unfold f206;refine xv ?_;refine xr (λw=>?_) (λw=>?_) (hok:=oS (k:=by first|done|(simp only[CQ,and_true,implies_true];done)|((repeat' (with_reducible apply And.intro))<;>first|(intros;exact CQ _))))
 . exact ye (K:=1) (k:=by(have e:(ai a&&ai b)=false:=by revert w;cases ai a<;>cases ai b<;>simp);rw[e];rfl)
 refine xf ?_ ?_<;>intro I
 . exact ye (K:=1) (k:=by rw[w.1,w.2,kS,X0 I];rfl)
 refine aj (ya 1 (hct:=by exact Zif b _ _) (hk:=?_));rintro R Y x ⟨rfl,rfl,rfl⟩;refine yb ?_;refine xa ?_;refine xj ?_;refine Mj o3h ev func258 rfl Ri (by simp[f258]) rfl (λl y F m z f=>?_);unfold f258;refine xf ?_ ?_<;>intro d0
 . refine jb ?_;refine⟨.inr rfl,none,rfl,?_⟩;exact ye (K:=1) (k:=o1g)
 refine xa ?_;refine dK ?_;refine lq (Str×Bool×Str×Nat) [1] (λ⟨Z,more,j,o⟩=>(Z.length<=60/\j.length<=60/\30<o/\wL (dH a) (dH b)=wL (rM Z) (pl more j),Z.length,[(4,.v (.string (bs Z)))],[(0,⟨3,[[.i 0]]⟩),(1,⟨39,[[.i 0]]⟩),(22,⟨9,[[.v (.string (bs j))]]⟩),(23,⟨4,[[.b more]]⟩),(30,⟨329,[[.fn (.func 306) [] [.mptr 23 0 0,.mptr 22 0 0]]]⟩)],o)) (a,(b != [46]),b,_) ?_ (hA:=⟨(iE w.1),(iE w.2),iv,(by(try dsimp only);rw[ZhD b,dH,if_neg d0])⟩);rintro⟨Z,more,j,o⟩ ⟨L,A,E,u⟩;simp only[XX,XZ];have M:=Hu Z 46;have N:0<o:=by omega
 have O:1<o:=by omega
 have B:22<o:=by omega
 have G:23<o:=by omega
 refine dK ?_;refine xa ?_ (hok:=gI @K8);refine aj ?_;refine aj ?_;refine Mi (C:=De) (r:=y) 5 (dP rfl) rfl rfl rfl o2q ?_ ev o1s o3h ev (by rw[F];rfl) (by rw[F,f];show ∀p∈[32],p<46;decide) ?_
 . exact okU
 rw[m,z,F,f];show DW _ _ _ _ { n:=_,t:=yu _ [32] _,h:=_,nx:=_ };simp only[Kb,Ka];refine xb ?_;refine⟨rfl,?_⟩;refine dK ?_;refine aj (ya 1 (hct:=by exact Zih more j 23 22 _ _ rfl rfl (by decide) om) (hk:=?_));rintro R Y x ⟨rfl,rfl,J⟩;refine yb ?_;refine xr (λc=>?_) (λc=>?_) (hq:=rfl)
 .
  refine xa ?_;refine jb ?_;refine⟨rfl,false,some .ret,⟨rfl,rfl⟩,⟨_,_,_,_,_,_⟩,by simp only[X9,X4,S.put,go_sem,ff];exact rfl,?_,?_⟩
  . exact okU
  try simp only[aH]
  refine ce ?_ ?_ (hq:=rfl)<;>intro v
  . refine jb ?_;refine⟨.inr rfl,some .ret,rfl,?_⟩;exact fin 1 (hr:=oS (k:=o0F))
  simp at v
 refine xa ?_ (hok:=oF (ZoD _ _));refine xp (λg=>?_) (λg=>?_) (hq:=rfl)
 .
  refine xa ?_;refine jb ?_;refine⟨rfl,false,some .ret,⟨rfl,rfl⟩,⟨_,_,_,_,_,_⟩,by simp only[X9,X4,S.put,go_sem,ff];exact rfl,?_,?_⟩
  . exact okU
  try simp only[aH]
  refine ce ?_ ?_ (hq:=rfl)<;>intro v
  . refine jb ?_;refine⟨.inr rfl,some .ret,rfl,?_⟩;exact fin 1 (hr:=oS (k:=o0F))
  simp at v
 refine bM ?_;refine⟨rfl,true,none,⟨rfl,rfl⟩,⟨_,_,_,_,_,_⟩,by simp only[X9,X4,S.put,go_sem,ff];exact rfl,?_,?_⟩
 . exact okU
 try simp only[aH]
 refine cd ?_ ?_<;>intro v
 . refine jb ?_;refine⟨.inr rfl,none,rfl,?_⟩;exact ye (K:=1) (k:=o1g)
 refine xl ?_;exact ah (Z.take (dR Z 46).toNat,uJ more j,uI more j,_) (h1:=⟨o1k,(by(try dsimp only);first|omega|(have:=Ziw more j;omega)),iv,(by(try dsimp only);rw[u,Q4 c g,if_neg v])⟩) (h2:=o2O)
def Oc(a:Str)(b:Str)(m:a.length<=1000)(p:b.length<=1000):yk 118 [.v (.string (bs a)),.v (.string (bs b))] (.i (fQ a b)):=by
 rw[Zjt];refine oO func118 λff=>?_;unfold f118;have h:=(Oz a).2;have v:=(Oz b).2;refine xa ?_;refine xa ?_ (hok:=oF (GR _ m));refine xa ?_ (hok:=oF (GR _ p));refine xj ?_;refine lq (Nat×Nat) [5,6] (λ⟨k,Z⟩=>(1<=k/\k<=(bA a).length+1/\Bq (bA a) (bA b) 1=Bq (bA a) (bA b) k,(bA a).length+1-k,[(7,.i k)],[],Z)) (1,_) ?_;rintro⟨k,Z⟩ ⟨X,g,u⟩;simp only[XX,XZ];refine xt ?_ ?_ (hq:=rfl)<;>intro w
 .
  have U:k<=(bA a).length/\k<=(bA b).length:=by simp only[XU,XY]at w;omega
  have y:(((bA a).length:Int)-k).toNat=(bA a).length-k:=by omega
  have O:(((bA b).length:Int)-k).toNat=(bA b).length-k:=by omega
  have j:(bA a).length-k<(bA a).length:=by omega
  have n:(bA b).length-k<(bA b).length:=by omega
  have ff:=qE @y @O (kC j) (kC n) ff;refine wD ?_;refine xv ?_;refine xr ?_ ?_ (hq:=rfl)<;>intro I
  . exact ye (k:=by rw[u,Dq,X0 U,X0 I])
  refine xp ?_ ?_ (hq:=rfl)<;>intro f
  . exact ye (k:=by rw[u,Dq,X0 U,XV (by rw[I];simp),X0 f])
  refine xl ?_;exact ah (k+1,_) (h1:=⟨iv,iv,(by(try dsimp only);rw[u,Dq,if_pos U,if_neg (by rw[I];simp),if_neg (by rw[f];simp)])⟩)
 have U : ¬(k<=(bA a).length/\k<=(bA b).length):=by simp only[YT,X6]at w;omega
 refine aB ?_;refine xf ?_ ?_<;>intro c
 . exact ye (k:=by rw[u,Dq,XV U,X0 (by omega)])
 refine xf ?_ ?_<;>intro o
 . exact ye (k:=by rw[u,Dq,XV U,XV (by omega),X0 (by omega)])
 exact ye (k:=by rw[u,Dq,XV U,XV (by omega),XV (by omega)])
def ZhB(a:Str)(b:Str):yk 248 [.v (.string (bs a)),.v (.string (bs b))] (.tuple [.i (if ai a&&ai b then kS a b else 0),.i (if ai a&&ai b then 0 else 11)]):=by
 refine oO func248 λff=>?_;unfold f248;refine xa ?_;refine xa ?_ (hok:=oF (vF _));refine xa ?_ (hok:=oF (vF _));refine xr ?_ ?_<;>intro w
 .
  have e:(ai a&&ai b)=false:=by revert w;cases ai a<;>cases ai b<;>simp
  exact ye (K:=1) (k:=by rw[e];rfl)
 have e:(ai a&&ai b)=true:=by rw[w.1,w.2];rfl
 have c:=iE w.1;have f:=iE w.2;exact ye (K:=1) (hok:=gI @Oc) (k:=by rw[e,OY];rfl)
def JD(x:Int)(a:Int)(hi:Int):yk 249 [.i x,.i a,.i hi] (.b (aP x a hi)):=by refine oO func249 λff=>?_;unfold f249;refine xa ?_;exact yi
theorem M5(x:Int)(a:Int)(hi:Int):yk 331 [.v (.int .u8 x),.v (.int .u8 a),.v (.int .u8 hi)] (.b (aP x a hi)):=by refine oO func331 λff=>?_;unfold f331;refine xa ?_;exact yi
def Ba(x:Int)(a:Int)(hi:Int):yk 243 [.i x,.i a,.i hi] (.b (aP x a hi)):=by refine oO func243 λff=>?_;unfold f243;refine xa ?_;exact yi
def Wz(x:Int):yk 102 [.i x] (.b (x != x)):=by refine oO func102 λff=>?_;unfold f102;refine xa ?_;exact yi
def Wy(x:Str):yk 317 [.v (.string (bs x))] (.b (x != x)):=by refine oO func317 λff=>?_;unfold f317;refine xa ?_;exact yi
def Ga(x:Int)(y:Int):yk 40 [.i x,.i y] (.i (cmpI x y)):=by
 refine oO func40 λff=>?_;unfold f40;refine xa ?_;refine xa ?_ (hok:=oS (k:=by have h:=Wz x;simp only[bne_self_eq_false]at h;exact h));refine xa ?_ (hok:=oS (k:=by have h:=Wz y;simp only[bne_self_eq_false]at h;exact h));refine xr ?_ ?_<;>intro w
 . simp at w
 refine xr ?_ ?_<;>intro I
 . simp at I
 refine xf ?_ ?_<;>intro a
 . exact ye (k:=o0Y)
 refine xf ?_ ?_<;>intro c
 . exact ye (k:=o0Y)
 exact ye (k:=o0Y)
def ZbQ(x:Str)(y:Str):yk 273 [.v (.string (bs x)),.v (.string (bs y))] (.i (wK x y)):=by
 refine oO func273 λff=>?_;unfold f273;refine xa ?_;refine xa ?_ (hok:=oS (k:=by have h:=Wy x;simp only[bne_self_eq_false]at h;exact h));refine xa ?_ (hok:=oS (k:=by have h:=Wy y;simp only[bne_self_eq_false]at h;exact h));refine xr ?_ ?_<;>intro w
 . simp at w
 refine xr ?_ ?_<;>intro I
 . simp at I
 refine xf ?_ ?_<;>intro a
 . exact ye (k:=o0Y)
 refine xf ?_ ?_<;>intro c
 . exact ye (k:=o0Y)
 exact ye (k:=o0Y)
def Zl1(s:Str)(p:Str):yk 179 [.v (.string (bs s)),.v (.string (bs p))] (.b (Ai s p)):=by refine oO func179 λff=>?_;unfold f179;refine xa ?_;exact ye (k:=by have e:decide ((p.length:Int)<=s.length)=decide (p.length<=s.length):=ZQ.2 (by omega);rw[Ai,e])
def LA(s:Str)(p:Str):yk 105 [.v (.string (bs s)),.v (.string (bs p))] (.b (Ai s p)):=by refine oO func105 λff=>?_;unfold f105;refine xa ?_;exact yi (hok:=gI @Zl1)
def Zad(s:Str):yk 250 [.v (.string (bs s))] (.b (jq s)):=by refine oO func250 λff=>?_;unfold f250;refine xa ?_;exact ye (hok:=gI @LA) (k:=by rw[wU])
def Bb(s:Str):yk 245 [.v (.string (bs s))] (.b (jq s)):=by refine oO func245 λff=>?_;unfold f245;refine xa ?_;exact ye (k:=by rw[jq];congr 2;rw[YD];simp only[XU,XY,YF];omega)
def Zlu(s:Str):yk 299 [.v (.string (bs s))] (.b (xN s)):=by
 rw[xN];refine oO func299 λff=>?_;unfold f299;have y:((s.length:Int)-1).toNat=s.length-1:=by omega
 have ff:=qA @y ff;refine xa ?_;have c:aP (s.length:Int) 1 40=true->(1:Int)<=s.length/\(s.length:Int)<=40:=by intro h;simp only[aP,XU,XY]at h;exact h
 refine xf (λw=>?_) (λw=>?_) (hok:=oS (k:=by refine⟨⟨⟨JD _ _ _,λh=>by have:=c h;omega⟩,λh=>?_⟩,λh=>?_⟩<;>(rw[Yg,Yr]at h;have:=c h.1;omega)))
 .
  try simp only[aP,XU,YT,XY,X6]at w
  exact ye (k:=o2m)
 try simp only[aP,XU,YT,XY,X6]at w
 refine xj ?_;refine lq (Nat×Nat) [0,23] (λ⟨k,Z⟩=>(k<=s.length/\ax s.length (uW s) 0=ax s.length (uW s) k,s.length-k,[(24,.i k)],[],Z)) (0,_) ?_;rintro⟨k,Z⟩ ⟨X,u⟩;simp only[XX,XZ];refine xo ?_ ?_<;>intro I
 .
  have U:k<s.length:=by simpa using I
  refine wB ?_;refine xv ?_;refine xi (λa=>?_) (λa=>?_) (hok:=oS (k:=by first|done|(simp only[M5,and_true,implies_true];done)|((repeat' (with_reducible apply And.intro))<;>first|(intros;exact M5 _ _ _)|(intros;simp_all;done))))
  . exact ye (k:=o0t)
  refine xl ?_;exact ah (k+1,_) (h1:=⟨iv,o0c⟩)
 refine aB ?_;exact ye (k:=o1a)
def Zg8(s:Str):yk 298 [.v (.string (bs s))] (.b (xN s)):=by
 rw[xN];refine oO func298 λff=>?_;unfold f298;have y:((s.length:Int)-1).toNat=s.length-1:=by omega
 have ff:=qA @y ff;refine xv ?_;refine xf ?_ ?_<;>intro w
 . exact ye (k:=o2m)
 refine xj ?_;refine lq (Nat×Nat) [0,3] (λ⟨k,Z⟩=>(k<=s.length/\ax s.length (uW s) 0=ax s.length (uW s) k,s.length-k,[(4,.i k)],[],Z)) (0,_) ?_;rintro⟨k,Z⟩ ⟨X,u⟩;simp only[XX,XZ];refine xt ?_ ?_<;>intro I
 .
  have U:k<s.length:=by simpa using I
  refine wD ?_;refine xa ?_;refine xi ?_ ?_<;>intro a
  . exact ye (k:=o0t)
  refine xl ?_;exact ah (k+1,_) (h1:=⟨iv,o0c⟩)
 refine aB ?_;exact ye (k:=o1a)
def ZhC(a:Dat)(b:Dat):yk 247 [.agg a.d,.agg b.d] (.b (less a b)):=by
 rw[less];refine oO func247 λff=>?_;unfold f247;refine xa ?_;refine xr ?_ ?_ (hq:=rfl)<;>intro w
 . exact ye (k:=by rw[X0 w];rfl)
 refine xr ?_ ?_ (hq:=rfl)<;>intro I
 . exact ye (k:=by rw[XV (by rw[w];simp),X0 I])
 exact ye (k:=by rw[XV (by rw[w];simp),XV (by rw[I];simp)])
def ZbR(l:List Int):yk 272 [.l (l.map iR)] (.i (xq l 0)):=by
 refine oO func272 λff=>?_;unfold f272;refine Zm5 0 rfl λo=>?_;simp only[YX,maxLen]at o;refine xv ?_;refine xj ?_;refine lq (Nat×Nat) [3,6,7] (λ⟨k,Z⟩=>(k<=l.length/\xq l 0=xq l k,l.length-k,[(8,.i k)],[],Z)) (0,_) ?_;rintro⟨k,Z⟩ ⟨X,u⟩;simp only[XX,XZ];refine xo ?_ ?_<;>intro w
 .
  have U:k<l.length:=by simpa using w
  have ff:=qA (IJ U) ff;refine wB ?_;refine xa ?_;refine xp ?_ ?_ (hq:=rfl)<;>intro I
  . exact ye (k:=by rw[u,Dt,X0 U,X0 I])
  refine xl ?_;exact ah (k+1,_) (h1:=⟨iv,(by(try dsimp only);rw[u,Dt,if_pos U,if_neg (by rw[I];simp)])⟩)
 refine aB ?_;exact ye (k:=by rw[u,Dt,XV (by omega)])
def ZoA(a:Dat)(b:Dat):yk 252 [.agg a.d,.agg b.d] (.i (eD a b)):=by refine oO func252 λff=>?_;unfold f252;refine xa ?_;exact ye (hok:=oJ ZbQ Ga (ZbR [_,_,_])) (k:=by rw[<-VM];try rfl)
def Zha(k:Int):yk 244 [.i k] (.b (CU k)):=by refine oO func244 λff=>?_;unfold f244;refine xa ?_;exact ye (k:=by first|rfl|(unfold CU;simp))
def Zdn(r:yc)(d:Dat)(hr:r.even=true->0<=r.n0):yk 251 [.agg r.d,.agg d.d] (.b (jX r d)):=by
 refine oO func251 λff=>?_;unfold f251;refine xa ?_;refine xf (λw=>?_) (λw=>?_) (hok:=oS (k:=by first|trivial|(repeat' with_reducible apply And.intro)<;>first|(intros;exact JD _ _ _)|(intro h;simp only[XU,Ya,Yg,Yr,kV]at h;have:=hr h.2;omega)|(intros;simp_all;done)))
 . exact ye (k:=by rcases w with(h|h)|⟨J,Y⟩<;>simp[jX, *])
 refine xj ?_;refine xi ?_ ?_<;>intro I
 . exact ye (hok:=oI yF Zad) (k:=o1U)
 refine xi ?_ ?_<;>intro a
 . exact ye (hok:=oF (yF _)) (k:=o1U)
 refine xi ?_ ?_<;>intro c
 . exact ye (hok:=oF (Zlu _)) (k:=o1U)
 refine bM ?_;exact ye (k:=by let⟨⟨J,Y⟩,A⟩:=w;rcases A with A|A<;>simp[jX,zm, *]<;>cases d.t<;>rfl)
def ZhN(k:Int)(d:Dat):yk 246 [.i k,.agg d.d] (.b (qh k d)):=by
 refine oO func246 λff=>?_;unfold f246;refine xa ?_;refine xj ?_;refine xi ?_ ?_<;>intro w
 . exact ye (hok:=oS (k:=o0k)) (k:=o3z)
 refine oL De ?_ ?_<;>intro I
 .
  refine cd ?_ ?_<;>intro a
  . exact ye (hok:=oS (k:=o0k)) (k:=o3z)
  exact absurd I a
 refine xb ?_;refine cd ?_ ?_<;>intro c
 . exact ye (hok:=oS (k:=o0k)) (k:=o3z)
 refine xi ?_ ?_<;>intro m
 . exact ye (hok:=oS (k:=o0k)) (k:=o3z)
 refine xi ?_ ?_<;>intro n
 . exact ye (hok:=gI @Zg8) (k:=o3z)
 refine oL De ?_ ?_<;>intro g
 .
  refine cd ?_ ?_<;>intro j
  . exact ye (hok:=oS (k:=o0k)) (k:=o3z)
  exact absurd g j
 refine xb ?_;refine cd ?_ ?_<;>intro o
 . exact ye (hok:=oS (k:=o0k)) (k:=o3z)
 refine xi (λf=>?_) (λf=>?_)
 . exact ye (hok:=oS (k:=o0k)) (k:=o3z)
 refine bM ?_;exact ye (k:=o3z)
open Go.Cmp
variable{T:TypeId}{W m n:Nat}{h:H}{l:Str}{out:List Dat}{st:RS}{x:Int}
def Zg6{k:Nat}(h1:1<=k)(T:k<=8):∃Z:List D,∀p,jG prog (.v (.pointer (some ⟨1,k*8,none⟩))) p=(gM k).d++Z:=by
 refine⟨(Kk.drop (k*8+8)).map D.v,λp=>?_⟩;rw[Xf,glob0];have:k=1\/k=2\/k=3\/k=4\/k=5\/k=6\/k=7\/k=8:=by omega
 rcases this with e|e|e|e|e|e|e|e<;>subst e<;>rfl
def xe(s:RSet):yk 163 [.agg s.d] (.b (fw s)):=by
 refine oO func163 λff=>?_;unfold f163;refine xa ?_;refine xf ?_ ?_ (hok:=Hd @yF @JD)<;>intro w
 . exact ye (k:=by rcases w with(h|h)|h<;>simp[fw,h])
 refine xf ?_ ?_ (hok:=oF (JD _ _ _))<;>intro I
 . exact ye (k:=by simp[fw,I])
 have n:=kV.1 w.1.2;let⟨m,f⟩:=Zg6 (k:=s.ty.toNat) om om;have ff:=qA @f ff;refine xa ?_ (hok:=oS (k:=by first|done|omega|((repeat' (with_reducible apply And.intro))<;>first|omega|rfl)));refine xf (λa=>?_) (λa=>?_) (hok:=oS (k:=by first|trivial|(repeat' with_reducible apply And.intro)<;>first|(intros;exact Zad _)|(intros;simp_all;done)|(intros;by_cases K:(gM s.ty.toNat).single=true<;>simp_all)))
 . exact ye (k:=by rcases a with⟨J,Y⟩|⟨J,Y⟩<;>simp[fw,J,Y])
 refine xj ?_;refine lq (Nat×Nat) [1,3,50,51] (λ⟨k,Z⟩=>(k<=s.data.length/\27<Z/\ax s.data.length (pR s.ty.toNat s.data) 0=ax s.data.length (pR s.ty.toNat s.data) k,s.data.length-k,[(52,.i k)],[(0,⟨53,[s.d]⟩),(27,⟨316,[(gM s.ty.toNat).d]⟩)],Z)) (0,_) ?_;rintro⟨k,Z⟩ ⟨X,E,u⟩;simp only[XX,XZ];have o:0<Z:=by omega
 have ff:=qB @E @o ff;refine xo ?_ ?_<;>intro c
 .
  have U:k<s.data.length:=by simpa using c
  have ff:=qA (oh U) ff;refine wB ?_;refine xa ?_;have p:=kV.1 I;have y:((k:Int)-1).toNat=k-1:=by omega
  have g:k-1<s.data.length:=by omega
  have ff:=qB @y (oh g) ff;refine xi (λj=>?_) (λj=>?_) (hok:=oS (k:=by first|trivial|(repeat' with_reducible apply And.intro)<;>first|(intros;exact Zdn _ _ (Zg7 _))|(intros;exact ZoA _ _)|(intros;simp_all;done)|(intro h;simp only[XU,XY]at h;have:=h.2;omega)))
  . exact ye (k:=by rw[NS w I a,u,iI,X0 U,Zbw j];rfl)
  refine xl ?_;exact ah (k+1,_) (h1:=⟨iv,iv,(by(try dsimp only);rw[u,iI,if_pos U,Zbv j];rfl)⟩)
 refine aB ?_;exact ye (k:=by rw[NS w I a,u,iI,XV (by omega)])
def Zhf(s:RSet):yk 159 [.agg s.d] (.b (fw s)):=by
 refine oO func159 λff=>?_;unfold f159;refine xv ?_;refine xf ?_ ?_ (hok:=oa3 @vF @Ba @Zha)<;>intro w
 . exact ye (k:=by rw[Zga w])
 refine xr ?_ ?_ (hok:=gI @Bb) (hq:=rfl)<;>intro I
 .
  rw[R9 _ w.1.1.1.2]at I;try simp only[XY,X6,Yc,XU,Yg,Ya,Yr,YT,YF,Ze,ZN,ZP,ne_eq]at I
  exact ye (k:=by rw[Zf9 I])
 rw[R9 _ w.1.1.1.2]at I;try simp only[XY,X6,Yc,XU,Yg,Ya,Yr,YT,YF,Ze,ZN,ZP,ne_eq]at I
 refine xj ?_;refine lq (Nat×Nat) [1,3] (λ⟨k,Z⟩=>(k<=s.data.length/\0<Z/\ax s.data.length (pR s.ty.toNat s.data) 0=ax s.data.length (pR s.ty.toNat s.data) k,s.data.length-k,[(4,.i k)],[(0,⟨53,[s.d]⟩)],Z)) (0,_) ?_;rintro⟨k,Z⟩ ⟨X,E,u⟩;simp only[XX,XZ];have ff:=qA @E ff;refine xt ?_ ?_<;>intro a
 .
  have U:k<s.data.length:=by simpa using a
  have ff:=qA (oh U) ff;refine wD ?_;have g:=kV.1 w.1.2;have y:((k:Int)-1).toNat=k-1:=by omega
  have f:k-1<s.data.length:=by omega
  have ff:=qB @y (oh f) ff;refine xi ?_ ?_ (hok:=Hd @ZhN @ZhC)<;>intro c
  . exact ye (k:=by rw[Um w I,u,iI,X0 U,Zn8 w.1.1.1.2 c];rfl)
  refine xl ?_;exact ah (k+1,_) (h1:=⟨iv,iv,(by(try dsimp only);rw[u,iI,if_pos U,Zn6 w.1.1.1.2 c];rfl)⟩)
 refine aB ?_;exact ye (k:=by rw[Um w I,u,iI,XV (by omega)])
def ZhA(a:RSet)(b:RSet):yk 160 [.agg a.d,.agg b.d] (.i (mH a b)):=by
 refine oO func160 λff=>?_;unfold f160;refine xa ?_;refine xa ?_ (hok:=oF (ZhB _ _));refine xf ?_ ?_<;>intro w
 . exact ye (k:=o1t)
 refine xf ?_ ?_<;>intro I
 . exact ye (k:=o1t)
 refine xf ?_ ?_<;>intro c
 . exact ye (k:=o1t)
 exact ye (k:=o1t)
def Zhe(a:RSet)(b:RSet)(m:a.data.length<=100000):yk 192 [.agg a.d,.agg b.d] (.b (xc a b)):=by
 refine oO func192 λff=>?_;unfold f192;refine xa ?_;refine xf ?_ ?_<;>intro w
 . exact ye (k:=by rw[ZgX w])
 refine xj ?_;refine lq (Nat×Nat) [2,3] (λ⟨k,Z⟩=>(k<=a.data.length/\1<Z/\(∀i,i<k->a.data[i]! = b.data[i]!),a.data.length-k,[(5,.i k)],[(0,⟨53,[a.d]⟩),(1,⟨53,[b.d]⟩)],Z)) (0,_) ?_ (hA:=⟨iv,iv,o1J⟩);rintro⟨k,Z⟩ ⟨X,E,u⟩;simp only[XX,XZ];have f:0<Z:=by omega
 have ff:=qB @E @f ff;refine xt ?_ ?_<;>intro I
 .
  have U:k<a.data.length:=by simpa using I
  have v:k<b.data.length:=by have:=w.2;omega
  have ff:=qB (oh U) (oh v) ff;refine wD ?_;refine xp ?_ ?_ (hq:=rfl)<;>intro c
  . exact ye (k:=by rw[ZgY (Zoa c)])
  refine xl ?_;exact ah (k+1,_) (h1:=⟨iv,iv,(by(try dsimp only);intro i hi;by_cases e:i=k;subst e;exact Zn7 c;exact u i om)⟩)
 refine aB ?_;exact ye (k:=by rw[ZgW w λi hi=>u i (by omega)])
@[go_sem]theorem all_bD{t:Str}:(∀r∈t.map bD,r.length=1)=True:=by apply eq_true;intro r O;obtain⟨x,_,rfl⟩:=Yp.1 O;rfl
theorem Zhk(b t:Str):(b.map bD++[[.v (.int .u8 ((jS t.length).toNat:Int))]])++t.map bD=(b++dC t).map bD:=by simp[dC,bD]
theorem tu(t:Str):(dC t).length=t.length+1:=rfl
theorem Znj{l:List Dat}{k:Nat}(h:k<l.length):l.drop k=l[k]! :: l.drop (k+1):=by rw[YE h,getElem!_pos l k h]
theorem take8(m:Int){k:Nat}(h:k<8):(bZ m).take (k+1)=(bZ m).take k++[jZ (uN m) (56-8*k)]:=by
 have:k=0\/k=1\/k=2\/k=3\/k=4\/k=5\/k=6\/k=7:=by omega
 rcases this with e|e|e|e|e|e|e|e<;>subst e<;>rfl
def VZ(m:Int)(s:Nat)(hs:s<=56):IntKind.u8.wrap ((IntKind.u64.wrap m).fdiv (2^(min s 64)))=((jZ (uN m) s).toNat:Int):=by
 have y:IntKind.u64.wrap m=(uN m:Int):=by rw[IntKind.wrap_u64];unfold uN;omega
 rw[y,IntKind.wrap_u8,Z4 (by omega),Re];rw[Int.fdiv_eq_ediv_of_nonneg _ (by exact_mod_cast Yh _)]
 norm_cast
def Zcv(b t:Str)(r:Nat)(h:H)(n:Nat)(hr:h r=some ⟨5,b.map bD⟩)(f:b.length<=1000000)(ht:t.length<=1000000):yp 180 [.mrow r 0 b.length,.v (.string (bs t))] h n (λd h' g=>∃a,d = .mrow a 0 (b++dC t).length/\h'=upd (upd h r none) a (some ⟨5,(b++dC t).map bD⟩)/\n<=a/\a<g):=by
 refine oP func180 λo ff=>?_;unfold f180;have c:r<n:=by rcases YK r n with q|q;exact q;rw[o r q]at hr;cases hr
 have ff:=qB @hr @c ff;refine oD De ?_;exact oN (bJ (upd (upd h r none) (n+10) (some ⟨5,(b++dC t).map bD⟩)) (hr:=oS (k:=by exact⟨n+10,by simp[dC];omega,rfl,om,om⟩)) (hh:=by rw[<-Zhk];exact ZaE (r1:=n+6) (.inr (o _ (by omega)))))
def MU(b:Str)(m:Int)(r:Nat)(h:H)(n:Nat)(hr:h r=some ⟨5,b.map bD⟩)(p:b.length<=1000000):yp 181 [.mrow r 0 b.length,.i m] h n (λd h' g=>∃c,d = .mrow c 0 (b++bZ m).length/\h'=upd (upd h r none) c (some ⟨5,(b++bZ m).map bD⟩)/\n<=c/\c<g):=by
 refine oP func181 λo ff=>?_;unfold f181;have j:r<n:=by rcases YK r n with q|q;exact q;rw[o r q]at hr;cases hr
 have ff:=qB @hr @j ff;refine xa ?_;refine xj ?_;refine iF (Nat×Nat×Nat) [1] (λ⟨k,a,Z⟩=>(k<=8/\(a=r/\k=0\/n<=a)/\a<Z/\n<=Z,9-k,[(0,.mrow a 0 (b.length+k)),(5,.i (56-8*k))],upd (upd h r none) a (some ⟨5,(b++(bZ m).take k).map bD⟩),Z)) (0,r,_) ?_ (um:=by simp only[Yf,YH];exact Zmu hr);rintro⟨k,a,Z⟩ ⟨X,J,E,f⟩;simp only[XX,XZ];have ff:=qA @E ff;refine xt ?_ ?_ (hq:=rfl)<;>intro w
 .
  have U:k<8:=by have:(0:Int)<=56-8*(k:Int):=(by simpa using w);omega
  have y:(56-8*(k:Int)).toNat=56-8*k:=by omega
  have O:=VZ m (56-8*k) (by omega);have ff:=qB @y @O ff;refine wD ?_;refine xb ?_ (hok:=by(try simp only[go_sem,ff,j4,YO,X3]);all_goals exact ok0);refine xb ?_;refine ah (k+1,(Z+9),_) (h5:=?_);rw[take8 m U,<-YR,Yv,Yv];exact ZaE (J.imp (λq=>q.1) λq=>o _ q)
 have v:k=8:=by have : ¬(0:Int)<=56-8*(k:Int):=(by simpa using w);omega
 subst v;refine aB ?_;refine xa ?_;exact oN (bJ (upd (upd h r none) a (some ⟨5,(b++bZ m).map bD⟩)) (hr:=oS (k:=by exact⟨a,by simp[j4],rfl,om,om⟩)))
def U3(s:RSet):yk 106 [.agg s.d] (.tuple [.l ((qW s).1.map bD),.i (qW s).2]):=by
 refine oO func106 λff=>?_;unfold f106;refine xa ?_;refine xf ?_ ?_ (hok:=oF (xe _))<;>intro w
 . exact ye (K:=2) (k:=by simp[qW,w])
 have N:=(iA s).1 w;have Ec:=N.len;have b7:=iE N.name;refine xa ?_;refine wu 4 5 o3h o3h ?_;refine aj (ya 3 (hct:=by exact Zcv [] s.name 7 _ _ rfl (by simp) om) (hk:=?_));rintro R Y a ⟨F,rfl,rfl,G,v⟩;dsimp only at G v;have c:(0=F)=False:=YS om;have f:(F=0)=False:=YS om;have J:0<a:=by omega
 have ff:=qE @c @f @v @J ff;refine yb ?_;refine Eu [1,4] [(0,⟨53,[s.d]⟩),(F,⟨5,(dC s.name).map bD⟩)] o2r o1F ?_;refine aj (ya 3 (hct:=by exact MU (dC s.name) s.ty F _ _ (by simp only[go_sem,c,f]) o2Q) (hk:=?_));rintro R Y a ⟨t,rfl,rfl,L,x⟩;dsimp only at L x;have g:(0=t)=False:=YS om;have h:(t=0)=False:=YS om;have M:0<a:=by omega
 have ff:=qE @g @h @x @M ff;refine yb ?_;refine Eu [1,4] [(0,⟨53,[s.d]⟩),(t,⟨5,(dC s.name++bZ s.ty).map bD⟩)] o2r o1F ?_;refine aj (ya 3 (hct:=by exact MU (dC s.name++bZ s.ty) s.life t _ _ (by simp only[go_sem,g,h]) o2Q) (hk:=?_));rintro R Y a ⟨r3,rfl,rfl,T,y⟩;dsimp only at T y;have V:0<a:=by omega
 have ff:=qD (nH 0 r3) @y @V ff;refine yb ?_;refine Eu [1,4] [(0,⟨53,[s.d]⟩),(r3,⟨5,(dC s.name++bZ s.ty++bZ s.life).map bD⟩)] o2r o1F ?_;refine xa ?_ (hok:=by(try simp only[go_sem,ff,tu,j4,X3]);all_goals exact ok0);refine xj ?_;refine lq (Nat×Str×Nat×Nat) [30,31] (λ⟨k,out,r,Z⟩=>(k<=s.data.length/\r<Z/\out.length<=1000+k*300/\out++(s.data.drop k).flatMap uY=lv s,s.data.length-k,[(4,.mrow r 0 out.length),(32,.i k)],[(r,⟨5,(out).map bD⟩)],Z)) (0,dC s.name++bZ s.ty++bZ s.life++[jS s.data.length],(a+11),_) ?_ (hA:=⟨iv,iv,(by first|(simp[dC,j4];omega)|(dsimp only;simp[dC,j4];omega)),(by first|(simp[lv])|(dsimp only;simp[lv]))⟩);rintro⟨k,out,r,Z⟩ ⟨X,O,ho,u⟩;simp only[XX,XZ];have ff:=qA @O ff;refine xo ?_ ?_<;>intro I
 .
  have U:k<s.data.length:=by simpa using I
  have m:=(Zby N.ty (N.dat _ (Yz U))).2.1;rw[<-getElem!_pos s.data k U]at m;have ff:=qA (oh U) ff;refine wB ?_;refine xa ?_;refine aj (ya 3 (hct:=by exact Zcv out s.data[k]!.t r _ _ (by simp only[go_sem,O]) om om) (hk:=?_));rintro R Y a ⟨B,rfl,rfl,ab,z⟩;dsimp only at ab z;have j:(Z+3=B)=False:=eq_false om;have n:(B=Z+3)=False:=eq_false om;have ac:Z+3<a:=by omega
  have ff:=qE @j @n @z @ac ff;refine yb ?_;refine Eu [4,6,30,31,32] [((Z+3),⟨70,[s.data[k]!.d]⟩),(B,⟨5,(out++dC s.data[k]!.t).map bD⟩)] o2r o1F ?_;refine aj (ya 3 (hct:=by exact MU (out++dC s.data[k]!.t) s.data[k]!.n B _ _ (by simp only[go_sem,j,n]) o2Q) (hk:=?_));rintro R Y a ⟨W,rfl,rfl,am,A⟩;dsimp only at am A;have o:(Z+3=W)=False:=eq_false om;have p:(W=Z+3)=False:=eq_false om;have aq:Z+3<a:=by omega
  have ff:=qE @o @p @A @aq ff;refine yb ?_;refine Eu [4,6,30,31,32] [((Z+3),⟨70,[s.data[k]!.d]⟩),(W,⟨5,(out++dC s.data[k]!.t++bZ s.data[k]!.n).map bD⟩)] o2r o1F ?_;refine ya 3 (hct:=by exact MU (out++dC s.data[k]!.t++bZ s.data[k]!.n) s.data[k]!.m W _ _ (by simp only[go_sem,o,p]) o2Q) (hk:=?_);rintro R Y a ⟨q3,rfl,rfl,ar,E⟩;dsimp only at ar E;have aw:Z+3<a:=by omega
  have ff:=qD (nH (Z+3) q3) @E @aw ff;refine yb ?_;refine Eu [4,30,31,32] [(q3,⟨5,(out++dC s.data[k]!.t++bZ s.data[k]!.n++bZ s.data[k]!.m).map bD⟩)] o2r o1F ?_;refine xb ?_;exact ah (k+1,out++dC s.data[k]!.t++bZ s.data[k]!.n++bZ s.data[k]!.m,q3,_) (h1:=⟨iv,iv,(by(try dsimp only);simp only[List.length_append,tu,j4];omega),(by(try dsimp only);rw[<-u,Znj U];simp[uY])⟩)
 refine aB ?_;exact ye (K:=2) (k:=by rw[Y5 (by omega)]at u;simp at u;simp[qW,w,u])
def ZiQ{u:Nat}(h:u<18446744073709551616)(c:UInt8):IntKind.u64.wrap ((BitVec.ofInt 64 (IntKind.u64.wrap ((u:Int)*2^(min 8 64))) ||| BitVec.ofInt 64 (IntKind.u64.wrap (c.toNat:Int))).toNat:Nat)=(mE u c:Int):=by
 have j:=c.toNat_lt;have f:((2:Int)^(min 8 64))=256:=rfl;rw[f];have y:IntKind.u64.wrap ((u:Int)*256)=((u*256 % 18446744073709551616:Nat):Int):=by rw[IntKind.wrap_u64];omega
 have O:IntKind.u64.wrap (c.toNat:Int)=(c.toNat:Int):=by rw[IntKind.wrap_u64];omega
 rw[y,O,BitVec.ofInt_natCast,BitVec.ofInt_natCast,BitVec.toNat_or,BitVec.toNat_ofNat,BitVec.toNat_ofNat];have a:c.toNat % 2^64=c.toNat:=ZC om;have g:u*256 % 18446744073709551616 % 2^64=(u % 72057594037927936) <<< 8:=by rw[Nat.shiftLeft_eq];omega
 rw[a,g,<-Nat.shiftLeft_add_eq_or_of_lt (by omega:c.toNat<2^8),Nat.shiftLeft_eq,IntKind.wrap_u64];unfold mE;omega
def Tm(u:Nat)(c:UInt8):mE u c<18446744073709551616:=by unfold mE;omega
theorem Zey{m:Int}(h:(st.2||decide ((st.1.length:Int)<m))=true):cB m st=([],(st.1,true)):=by unfold cB;rw[X0 h]
theorem Zex{m:Int}(h:(st.2||decide ((st.1.length:Int)<m))=false):cB m st=(st.1.take m.toNat,(st.1.drop m.toNat,st.2)):=by unfold cB;rw[h,(Yg.1 h).1];rfl
@[go_sem]theorem ZqS:(l.map bD).map Go.DL.byteOf=l:=lG (f:=bD) (g:=Go.DL.byteOf) (λx=>by simp[Go.DL.byteOf,bD]) l
@[go_sem]theorem Zss:(l.map bD).all isByte=true:=by
 induction l with
 | nil=>rfl
 | cons x l k=>simp only[X7,List.all_cons,k];rfl
def take_len(n:Nat)(st:RS):(cB n st).1.length<=n:=by
 unfold cB;split
 . exact Yh _
 show(st.1.take _).length<=n;simp;omega
def wrapc(c:UInt8):IntKind.i64.wrap (c.toNat:Int)=(c.toNat:Int):=by have:=c.toNat_lt;rw[IntKind.wrap_i64];omega
theorem Zbb{k:Nat}(h:k<l.length):l.drop k=l.getD k 0::l.drop (k+1):=by rw[YE h];congr 1;simp[List.getD,h]
def IL(h:n<l.length):(l.map bD).getD n []=[.v (.int .u8 ((l.getD n 0).toNat:Int))]:=by simp[List.getD,h,bD]
def count_le(st:RS):(dY st).1<=255:=by
 unfold dY;split
 . have:=((cB 1 st).1.getD 0 0).toNat_lt;simp only;omega
 exact Yh _
theorem Zbt{k:Nat}(h:k<n)(c:(aT (aT (bP st).2).2).2.2=false):kP (n-k) out st=kP (n-(k+1)) (out++[(jE st).1]) (jE st).2:=by rw[show n-k=(n-(k+1))+1 by omega,kP,XV (by rw[show(jE st).2.2=(aT (aT (bP st).2).2).2.2 from rfl,c];simp)]
theorem Zn3{k:Nat}(h:k<n)(c:(aT (aT (bP st).2).2).2.2=true):kP (n-k) out st=(out,(jE st).2):=by rw[show n-k=(n-(k+1))+1 by omega,kP,X0 (show(jE st).2.2=true from c)]
theorem Zn4{k:Nat}(h : ¬k<n):kP (n-k) out st=(out,st):=by rw[show n-k=0 by omega];rfl
theorem U1{x:Str}(h:(out,st)=kP (dY (aT (aT (bP (x,false)).2).2).2).1 [] (dY (aT (aT (bP (x,false)).2).2).2).2):tQ (x,false)=(⟨(bP (x,false)).1,(aT (bP (x,false)).2).1,(aT (aT (bP (x,false)).2).2).1,out⟩,st):=by unfold tQ;simp only;rw[<-h]
theorem U2{x:Str}(h:(out,st)=kP (dY (aT (aT (bP (x,false)).2).2).2).1 [] (dY (aT (aT (bP (x,false)).2).2).2).2)(c:((st.2||decide ((0:Int)<st.1.length)) || !fw ⟨(bP (x,false)).1,(aT (bP (x,false)).2).1,(aT (aT (bP (x,false)).2).2).1,out⟩)=true):jB x=(Wl,10):=by have e:decide ((0:Int)<st.1.length)=decide (0<st.1.length):=ZQ.2 om;rw[e]at c;unfold jB;rw[U1 h];exact X0 c
theorem U0{x:Str}(h:(out,st)=kP (dY (aT (aT (bP (x,false)).2).2).2).1 [] (dY (aT (aT (bP (x,false)).2).2).2).2)(c:((st.2||decide ((0:Int)<st.1.length)) || !fw ⟨(bP (x,false)).1,(aT (bP (x,false)).2).1,(aT (aT (bP (x,false)).2).2).1,out⟩)=false):jB x=(⟨(bP (x,false)).1,(aT (bP (x,false)).2).1,(aT (aT (bP (x,false)).2).2).1,out⟩,0):=by have e:decide ((0:Int)<st.1.length)=decide (0<st.1.length):=ZQ.2 om;rw[e]at c;unfold jB;rw[U1 h];exact XV (by rw[Bool.not_eq_true];exact c)
@[go_sem]theorem bslU:Rc prog 80=true:=by kernel_rfl
theorem Np(m:Int)(v:0<=m)(st:RS)(a:Nat)(h:H)(n:Nat)(p:h a=some ⟨392,[[.l ((st).1.map bD),.b (st).2]]⟩):yp 350 [.mptr a 0 0,.i m] h n (λd h' g=>(∃f,d = .list f ((cB m st).1.map bD))/\h'=upd h a (some ⟨392,[[.l (((cB m st).2).1.map bD),.b ((cB m st).2).2]]⟩)/\n<=g):=by
 refine oP func350 λo ff=>?_;unfold f350;have ff:=qA @p ff;refine xa ?_;refine xr ?_ ?_ (hq:=rfl)<;>intro w
 . refine xv ?_;exact oN (bJ (upd h a (some ⟨392,[[.l (st.1.map bD),.b true]]⟩)) (hr:=oS (k:=by rw[Zey w];exact⟨⟨_,rfl⟩,rfl,om⟩)) (hh:=by intro q;left;by_cases y:q=a<;>simp[upd,y]))
 have c:=Yg.1 w;have j:=of_decide_eq_false c.2;refine oD De ?_;exact oN (bJ (upd h a (some ⟨392,[[.l ((st.1.drop m.toNat).map bD),.b st.2]]⟩)) (hr:=oS (k:=by rw[Zex w];exact⟨⟨_,by rw[ZJ]⟩,rfl,om⟩)) (hh:=by intro q;left;by_cases y:q=a<;>simp[upd,y]))
theorem ZbM(st:RS)(a:Nat)(h:H)(n:Nat)(p:h a=some ⟨392,[[.l ((st).1.map bD),.b (st).2]]⟩):yp 342 [.mptr a 0 0] h n (λd h' g=>d = .i (dY st).1/\h'=upd h a (some ⟨392,[[.l (((dY st).2).1.map bD),.b ((dY st).2).2]]⟩)/\n<=g):=by
 refine oP func342 λo ff=>?_;unfold f342;have ff:=qA @p ff;refine xa ?_;refine aj ?_;refine aj (ya 1 (hct:=by exact Np 1 om st a _ _ (by simp only[go_sem,p])) (hk:=?_));rintro R Y r ⟨⟨f,rfl⟩,rfl,N⟩;try dsimp only at N
 refine yb ?_;refine xi ?_ ?_<;>intro w
 .
  have X:0<(cB 1 st).1.length:=by omega
  have ff:=qB (IL X) @wrapc ff;refine xa ?_;exact oN (bJ (upd h a (some ⟨392,[[.l (((dY st).2).1.map bD),.b ((dY st).2).2]]⟩)) (hr:=oS (k:=by exact⟨by unfold dY;rw[X0 (by omega)],om⟩)))
 refine bM ?_;refine xa ?_;exact oN (bJ (upd h a (some ⟨392,[[.l (((dY st).2).1.map bD),.b ((dY st).2).2]]⟩)) (hr:=oS (k:=by exact⟨by unfold dY;rw[XV (by omega)];rfl,om⟩)))
def Ta(st:RS)(a:Nat)(h:H)(n:Nat)(p:h a=some ⟨392,[[.l ((st).1.map bD),.b (st).2]]⟩):yp 340 [.mptr a 0 0] h n (λd h' g=>d = .v (.string (bs (bP st).1))/\h'=upd h a (some ⟨392,[[.l (((bP st).2).1.map bD),.b ((bP st).2).2]]⟩)/\n<=g):=by
 refine oP func340 λo ff=>?_;unfold f340;have ff:=qA @p ff;refine xa ?_;refine aj (yY ?_);refine C9 (C:=De) 2 (R:=_) om (dP rfl) rfl rfl o1T ?_ ?_ ev o3h ev (by exact ZbM st a _ _ (by simp only[go_sem,p])) ?_
 . exact okU
 .
  try simp only[go_sem,ff]
  all_goals (first|done|rfl|decide|simp)
 rintro c Y r ⟨rfl,rfl,N⟩;try dsimp only at N
 refine C9 (C:=De) 3 (R:=_) om (dP rfl) rfl rfl o1T ?_ ?_ ev o3h ev (by exact Np ((dY st).1) om (dY st).2 a _ _ (by simp only[go_sem])) ?_
 . exact okU
 .
  try simp only[go_sem,ff]
  all_goals (first|done|rfl|decide|simp)
 rintro c A m ⟨⟨f,rfl⟩,rfl,j⟩;try dsimp only at j
 refine yw (C:=De) o3j o1T ?_ rfl ?_
 . exact okU
 try simp only[aH]
 exact oN (bJ (upd h a (some ⟨392,[[.l (((bP st).2).1.map bD),.b ((bP st).2).2]]⟩)) (hr:=oS (k:=by exact⟨by simp[bP],om⟩)) (hh:=by intro q;left;by_cases y:q=a<;>simp[upd,y,bP]))
def KR(st:RS)(c:Nat)(h:H)(n:Nat)(p:h c=some ⟨392,[[.l ((st).1.map bD),.b (st).2]]⟩):yp 341 [.mptr c 0 0] h n (λd h' g=>d = .i (aT st).1/\h'=upd h c (some ⟨392,[[.l (((aT st).2).1.map bD),.b ((aT st).2).2]]⟩)/\n<=g):=by
 refine oP func341 λo ff=>?_;unfold f341;have ff:=qA @p ff;refine xv ?_;refine aj ?_;refine aj (ya 1 (hct:=by exact Np 8 om st c _ _ (by simp only[go_sem,p])) (hk:=?_));rintro R Y r ⟨⟨f,rfl⟩,rfl,N⟩;try dsimp only at N
 refine yb ?_;refine dK ?_;refine iF (Nat×Nat×Nat) [7,8] (λ⟨k,u,Z⟩=>(k<=(cB 8 st).1.length/\u<18446744073709551616/\n<=Z/\((cB 8 st).1.drop k).foldl mE u=gU (cB 8 st).1,(cB 8 st).1.length-k,[(3,.v (.int .u64 u)),(9,.i k)],upd h c (some ⟨392,[[.l (((cB 8 st).2).1.map bD),.b ((cB 8 st).2).2]]⟩),Z)) (0,0,_) ?_;rintro⟨k,u,Z⟩ ⟨X,m,t,j⟩;simp only[XX,XZ];refine xo ?_ ?_<;>intro w
 .
  have U:k<(cB 8 st).1.length:=by simpa using w
  have T:(cB 8 st).1.length<=8:=take_len 8 st;have a:=ZiQ m ((cB 8 st).1.getD k 0);have ff:=qB (IL U) @a ff;refine wB ?_;refine xa ?_;refine xb ?_;refine xb ?_;exact ah (k+1,mE u ((cB 8 st).1.getD k 0),_) (h1:=⟨iv,(Tm _ _),iv,(by first|(rw[<-j,Zbb U];rfl)|(dsimp only;rw[<-j,Zbb U];rfl))⟩) (h3:=o0m) (h4:=o0m)
 refine aB ?_;refine xa ?_;exact oN (bJ (upd h c (some ⟨392,[[.l (((cB 8 st).2).1.map bD),.b ((cB 8 st).2).2]]⟩)) (hr:=oS (k:=by rw[Y5 (by omega)]at j;exact⟨by rw[show u=gU (cB 8 st).1 from j];rfl,rfl,om⟩)))
def Zhg(x:Str):yk 319 [.l (x.map bD)] (.tuple [.agg (jB x).1.d,.i (jB x).2]):=by
 refine oO func319 λff=>?_;unfold f319;refine oD De ?_;refine aj (ya 1 (hct:=by exact Ta (x,false) 4 _ _ rfl) (hk:=?_));rintro R Y a ⟨rfl,rfl,N⟩;try dsimp only at N
 have j:4<a:=by omega
 have p0:0<a:=by omega
 have ff:=qB @j @p0 ff;refine yb ?_;obtain⟨q,m⟩:∃q,q=a+3:=⟨_,rfl⟩;rw[<-m];refine xR q 3 53 70 ev (by rfl) o3h ?_;simp only[YC,Yx];obtain⟨f,p⟩:∃f,f=(a+5):=⟨_,rfl⟩;rw[<-p];have g:(4=q)=False:=YS om;have h:(q=4)=False:=YS om;have ff:=qG @g @h (nH 4 f) (nH q f) (nH 0 q) (nH 0 f) ff;refine Eu [2,4,5,6,7] [(0,⟨53,[[.v (.string (bs [])),.i 0,.i 0,.e]]⟩),(4,⟨392,[[.l (((bP (x,false)).2).1.map bD),.b ((bP (x,false)).2).2]]⟩),(q,⟨53,[[.v (.string (bs ((bP (x,false)).1))),.i (0),.i (0),.mrow f 0 0]]⟩),(f,⟨70,[]⟩)] o2r o1F ?_;refine aj (ya 1 (hct:=by exact KR (bP (x,false)).2 4 _ _ (by simp only[go_sem])) (hk:=?_));rintro R Y a ⟨rfl,rfl,A⟩;try dsimp only at A
 have j:4<a:=by omega
 have p0:0<a:=by omega
 have v:q<a:=by omega
 have y:f<a:=by omega
 have ff:=qB @v @y ff;refine yb ?_;refine aj (ya 1 (hct:=by exact KR (aT (bP (x,false)).2).2 4 _ _ (by simp only[go_sem,g,h] )) (hk:=?_));rintro R Y a ⟨rfl,rfl,a3⟩;try dsimp only at a3
 have j:4<a:=by omega
 have p0:0<a:=by omega
 have v:q<a:=by omega
 have y:f<a:=by omega
 refine yb ?_;refine aj ?_;refine aj (ya 0 (hct:=by exact ZbM (aT (aT (bP (x,false)).2).2).2 4 _ _ (by simp only[go_sem,g,h])) (hk:=?_));rintro R Y a ⟨rfl,rfl,a4⟩;try dsimp only at a4
 have j:4<a:=by omega
 have p0:0<a:=by omega
 have v:q<a:=by omega
 have y:f<a:=by omega
 refine yb ?_;refine dK ?_;refine lq (Nat×(List Dat)×Nat×RS×Nat) [2,4,5,6,7,22] (λ⟨k,out,r,n,Z⟩=>(k<=(dY (aT (aT (bP (x,false)).2).2).2).1/\r<Z/\(r≠0/\r≠4/\r≠q)/\q<Z/\out.length<=k/\kP ((dY (aT (aT (bP (x,false)).2).2).2).1-k) out n=kP (dY (aT (aT (bP (x,false)).2).2).2).1 [] (dY (aT (aT (bP (x,false)).2).2).2).2,(dY (aT (aT (bP (x,false)).2).2).2).1-k,[(23,.i k)],[(0,⟨53,[[.v (.string (bs [])),.i 0,.i 0,.e]]⟩),(4,⟨392,[[.l ((n).1.map bD),.b (n).2]]⟩),(q,⟨53,[[.v (.string (bs ((bP (x,false)).1))),.i ((aT (bP (x,false)).2).1),.i ((aT (aT (bP (x,false)).2).2).1),.mrow r 0 out.length]]⟩),(r,⟨70,out.map Dat.d⟩)],Z)) (0,[],f,(dY (aT (aT (bP (x,false)).2).2).2).2,_) ?_ (hA:=⟨iv,iv,iv,iv,o2x,o2x⟩);rintro⟨k,out,r,n,Z⟩ ⟨X,O,B,z,t,u⟩;simp only[XX,XZ];have j:4<Z:=by omega
 have p0:0<Z:=by omega
 have ff:=qH @O @z @j @p0 (nH 0 r) (nH 4 r) (nH q r) ff;refine xo ?_ ?_ (hq:=rfl)<;>intro w
 .
  have U:k<(dY (aT (aT (bP (x,false)).2).2).2).1:=by simpa using w
  have E:=count_le (aT (aT (bP (x,false)).2).2).2;refine wB ?_;refine xa ?_;refine aj (ya 1 (hct:=by exact Ta n 4 _ _ (by simp only[go_sem,j])) (hk:=?_));rintro R Y a ⟨rfl,rfl,a5⟩;try dsimp only at a5
  refine yb ?_;refine aj (ya 1 (hct:=by exact KR (bP n).2 4 _ _ (by simp only[go_sem,j])) (hk:=?_));rintro R Y a ⟨rfl,rfl,F⟩;try dsimp only at F
  refine yb ?_;refine aj (ya 1 (hct:=by exact KR (aT (bP n).2).2 4 _ _ (by simp only[go_sem,j])) (hk:=?_));rintro R Y a ⟨rfl,rfl,G⟩;try dsimp only at G
  have J:Z+1<a:=by omega
  have L:4<a:=by omega
  have M:0<a:=by omega
  have T:q<a:=by omega
  have V:r<a:=by omega
  have ff:=qF @J @L @M @T @V ff;refine yb ?_;refine xr ?_ ?_ (hq:=rfl)<;>intro I
  .
   have c:=u;rw[Zn3 U I]at c;refine aB ?_;refine aj ?_;refine sP q 3 r (rows:=out.map Dat.d) (off:=0) (len:=out.length) ev (by rfl) ev om (by simp) mM ?_;simp only[X4,zq,YC,Yx];refine xp ?_ ?_ (hok:=oH (xe ⟨_,_,_,out⟩)) (hq:=rfl)<;>intro o
   . exact ye (K:=2) (k:=by rw[U2 c o];try rfl)
   refine bM ?_;exact ye (K:=2) (k:=by rw[U0 c o];try rfl)
  refine xb ?_;refine xb ?_;exact ah (k+1,out++[(jE n).1],(a+10),(jE n).2,_) (h1:=⟨iv,iv,iv,iv,o2n,(by(try dsimp only);rw[<-u,Zbt U I])⟩) (h3:=o0i) (h4:=o0i) (h5:=o0i)
 have U : ¬k<(dY (aT (aT (bP (x,false)).2).2).2).1:=by simpa using w
 have c:=u;rw[Zn4 U]at c;refine aB ?_;refine aj ?_;refine sP q 3 r (rows:=out.map Dat.d) (off:=0) (len:=out.length) ev (by rfl) ev om (by simp) mM ?_;simp only[X4,zq,YC,Yx];refine xp ?_ ?_ (hok:=oH (xe ⟨_,_,_,out⟩)) (hq:=rfl)<;>intro o
 . exact ye (K:=2) (k:=by rw[U2 c o];try rfl)
 refine bM ?_;exact ye (K:=2) (k:=by rw[U0 c o];try rfl)
def kN(h:H)(W:Nat):Option Nat:=match h W with
 | some ⟨_,[.mrow r _ _::_]⟩=>some r
 | _=>none
def bH(T:TypeId)(h:H)(W nx:Nat)(l:Str)(m:Nat):Prop:=W<nx/\((l.length+m=0 /\ ∃x:Int,h W=some ⟨T,[[.e,.i 0,.v (.int .i8 x)]]⟩)\/(0<l.length+m /\ ∃(r:Nat)(x:Int),r≠W/\r<nx/\h r=some ⟨5,l.map bD⟩/\h W=some ⟨T,[[.mrow r 0 (l.length+m),.i 0,.v (.int .i8 x)]]⟩))
def bO(h h':H)(W n n':Nat):Prop:=n<=n'/\(∀q,q<n->q≠W->kN h W≠some q->h' q=h q)/\(∀q,q<n->q≠W->kN h W≠some q->kN h' W≠some q)
theorem bO.trans{h' c:H}{n' f:Nat}(a:bO h h' W n n')(b:bO h' c W n' f):bO h c W n f :=
 ⟨Yd a.1 b.1,λq J Y A=>(b.2.1 q (YG J a.1) Y (a.2.2 q J Y A)).trans (a.2.1 q J Y A),λq J Y A=>b.2.2 q (YG J a.1) Y (a.2.2 q J Y A)⟩
theorem bO.refl{n':Nat}(hn:n<=n'):bO h h W n n':=⟨hn,λ_ _ _ _=>rfl,λ_ _ _ h=>h⟩
theorem UJ{T:Nat}(e:h W=some ⟨T,[[.e,.i 0,.v (.int .i8 x)]]⟩):kN h W=none:=by unfold kN;rw[e]
theorem kr{T r k:Nat}(e:h W=some ⟨T,[[.mrow r 0 k,.i 0,.v (.int .i8 x)]]⟩):kN h W=some r:=by unfold kN;rw[e]
def wQ.rct{P:Program}[Glob P]{f:FuncId}{args:List D}{R:D->H->Nat->Env->Prop}(k:wQ P f args h n Env.tt R):bG P f args h n (λd h' n'=>∃c,R d h' n' c) :=
 ⟨k.1,λw g j J Y A=>(k.2 w g j J Y trivial A).mono λ_ _⟨v,L,m,h',n',c,B,W,o,a,p,r,t⟩=>⟨v,L,m,h',n',⟨c,B⟩,W,o,a,p,r⟩⟩
def Zpa(T:TypeId)(l:Str)(h:H)(n W:Nat)(g:bH T h W n l 0)(t:l.length<=1000000000000):yp 276 [.mptr W 0 0] h n (λd h' n'=>d = .i l.length/\bO h h' W n n'/\bH T h' W n' l 0):=by
 refine oP func276 λo ff=>?_;unfold f276;refine xa ?_;obtain⟨u,⟨f,x,a⟩|⟨f,r,x,c,j,O,a⟩⟩:=g
 . obtain rfl:l=[]:=Yb om;have ff:=qB @a (nG W n) ff;refine xa ?_;exact oN (bJ (_) (hr:=oS (k:=by exact⟨rfl,bO.refl om,om,.inl ⟨rfl,x,a⟩⟩)))
 rw[Zx]at a;have m:(W=r)=False:=YS (λe=>c e.symm);have p:(r=W)=False:=YS c;have ff:=qG @a @O @m @p (nG W n) (nG r n) ff;refine xa ?_;exact oN (bJ (_) (hr:=oS (k:=by exact⟨by simp,bO.refl om,om,.inr ⟨f,r,x,c,om,O,a⟩⟩)))
def bo222:fE prog 222=true:=by kernel_rfl
theorem JL(T:TypeId)(l:Str)(m:Nat)(h:H)(n W:Nat)(hB:bH T h W n l 0)(hl:l.length+m<=1000000000000):wQ prog 222 [.mptr W 0 0,.i m] h n (Env.tt) (λd h' n' E'=>∃ok:Bool,∃a:Int,d = .tuple [.i a,.b ok]/\bO h h' W n n'/\(ok=true->a=l.length/\bH T h' W n' l m)/\(ok=false->0<m/\bH T h' W n' l 0 /\ ∀r,kN h' W=some r -> ∀g w,E'.p g w->(Env.capLt r (l.length+m)).p g w)):=by
 refine ZhQ rfl func222 rfl bo222 (by simp[f222]) (λhnone=>?_)
 unfold f222
 have ff:=True.intro
 refine aa De ?_
 refine aj ?_
 obtain⟨BS,⟨e0,x,hW⟩|⟨e0,r,x,fD,hrn,hr,hW⟩⟩:=hB
 .
  obtain rfl:l=[]:=Yb om;have ff:=qB @hW (nG W n) ff;refine aa De ?_;refine bX ?_;refine Qb De 5 (e:=5) ?_;refine aN De ?_
  try simp only[aH]
  refine cd ?_ ?_<;>intro c1
  .
   obtain rfl:m=0:=by omega
   refine oC De ?_;exact oN (Mc (_) (hh:=λ_=>.inl rfl) (Env.tt) (hE:=λ_ _ _ _=>trivial) (hr:=oS (k:=by exact⟨_,_,rfl,⟨om,λq q1 q2 q3=>by simp only[upd];repeat rw[XV (by omega)],λq q1 q2 q3=>by rw[UJ (x:=x) (T:=T) (by simp[upd])];simp⟩,λ_=>⟨rfl,om,.inl ⟨rfl,x,by simp[upd]⟩⟩,λq=>(by cases q)⟩)))
  refine bM ?_;refine aa De ?_;exact oN (Mc (_) (hh:=λ_=>.inl rfl) (Env.tt) (hE:=λ_ _ _ _=>trivial) (hr:=oS (k:=by exact⟨_,_,rfl,bO.refl (by omega),λq=>(by cases q),λ_=>⟨by have : ¬(m:Int)<=0:=(by simpa using c1);omega,⟨om,.inl ⟨rfl,x,hW⟩⟩,λq hq=>by rw[UJ hW]at hq;cases hq⟩⟩)))
 rw[Zx]at hW
 have pM:(W=r)=False:=YS (λe=>fD e.symm)
 have pJ:(r=W)=False:=YS fD
 have ff:=qG @hW @hr @pM @pJ (nG W n) (nG r n) ff
 refine aa De ?_
 refine bX ?_
 refine Qc De 5 (λc hc1 hc2=>?_)
 have hc3:(c:Int)<=9223372036854775807:=by have:=hc2;unfold maxLen at this;omega
 refine aN De ?_
 try simp only[aH]
 refine cd ?_ ?_<;>intro c1
 .
  refine bX ?_;refine PV De 8 (r:=r) (off:=0) (c:=c) (l.length+m) rfl (by have:(m:Int)<=(c:Int)-(l.length:Int):=(by simpa using c1);omega) ?_
  refine aN De ?_
  try simp only[aH]
  refine aa De ?_;exact oN (Mc (_) (hh:=λ_=>.inl rfl) (Env.tt) (hE:=λ_ _ _ _=>trivial) (hr:=oS (k:=by exact⟨_,_,rfl,⟨om,λq q1 q2 q3=>by simp only[upd];repeat rw[XV (by omega)],λq q1 q2 q3=>by rw[kr (x:=x) (T:=T) (k:=l.length+m) (r:=r) (by simp[upd])];rw[kr hW]at q3;exact q3⟩,λ_=>⟨by simp,om,.inr ⟨om,r,x,fD,om,by simp only[upd];rw[XV fD];exact hr,by simp[upd]⟩⟩,λq=>(by cases q)⟩)))
 refine bM ?_
 refine aa De ?_
 exact oN (Mc (_) (hh:=λ_=>.inl rfl) (Env.capLt r (l.length+m)) (hE:=λg w w2 q=>⟨q.2.1,λblk c' sz he=>by have h9:=q.2.2 blk c' sz he;have : ¬((m:Int)<=(c:Int)-(l.length:Int)):=(by simpa using c1);omega⟩) (hr:=oS (k:=by exact⟨_,_,rfl,bO.refl (by omega),λq=>(by cases q),λ_=>⟨by have : ¬((m:Int)<=(c:Int)-(l.length:Int)):=(by simpa using c1);omega,⟨om,.inr ⟨om,r,x,fD,om,hr,hW⟩⟩,λq hq g w hp=>by rw[kr hW]at hq;cases hq;exact hp⟩⟩)))
def bo318:fE prog 318=true:=by kernel_rfl
theorem PT(h:H)(n:Nat):AP prog 318 [] h n .returning .returning (λI g=>(∀q,q<n->I q=h q)/\n<=g):=by
 refine Ey (d:=.v .nilIface) (v:=.nilIface) func318 rfl bo318 (by simp[f318]) (dP rfl) rfl rfl (by decide) (.inl ⟨rfl,rfl,rfl⟩) (λ_ _=>.v _) (λo=>?_);have ff:=True.intro;refine Zmh De 1 true ?_ (ht:=underlying20);refine xF ?_;try simp only[aH]
 refine cd ?_ ?_<;>intro w
 . simp at w
 refine bM ?_;refine⟨(by trivial),h,_,?_,Nat.le_refl _,λq K=>rfl,by dsimp only;omega⟩;intro r;dsimp only;first
 | exact .inl rfl
 | exact(Decidable.em (r<n)).elim (λe=>by left;simp only[upd];repeat (first|rfl|rw[XV (by omega)])) λe=>by right;exact o r (by omega)
def bH.cell{nx:Nat}(c:bH T h W nx l m):∃(d:D)(x:Int),d.one=true/\h W=some ⟨T,[[d,.i 0,.v (.int .i8 x)]]⟩:=by
 obtain⟨_,⟨_,x,a⟩|⟨_,r,x,J,Y,_,a⟩⟩:=c
 . exact⟨_,x,rfl,a⟩
 exact⟨_,x,rfl,a⟩
def bH.last{nx nx':Nat}{d:D}(f:bH T h W nx l m)(c:h W=some ⟨T,[[d,.i 0,.v (.int .i8 x)]]⟩)(y:Int)(hn:nx<=nx'):bH T (upd h W (some ⟨T,[[d,.i 0,.v (.int .i8 y)]]⟩)) W nx' l m:=by
 obtain⟨p,⟨e,g,a⟩|⟨e,r,g,J,Y,A,a⟩⟩:=f
 . rw[c]at a;cases a;exact⟨om,.inl ⟨e,y,bI _ _ _⟩⟩
 rw[c]at a;cases a;exact⟨om,.inr ⟨e,r,y,J,om,by rw[aI _ _ _ _ J];exact A,bI _ _ _⟩⟩
def bO.last{n':Nat}{d:D}(a:h W=some ⟨T,[[d,.i 0,.v (.int .i8 x)]]⟩)(y:Int)(hn:n<=n'):bO h (upd h W (some ⟨T,[[d,.i 0,.v (.int .i8 y)]]⟩)) W n n':=by
 refine⟨hn,λq _ Y _=>aI _ _ _ _ Y,λq _ _ A=>?_⟩;have:kN (upd h W (some ⟨T,[[d,.i 0,.v (.int .i8 y)]]⟩)) W=kN h W:=by unfold kN;rw[bI,a];cases d<;>rfl
 rw[this];exact A
theorem bO.more{h2 h3:H}{r c:Nat}(a:bO h h2 W n r)(hn:r<=c)(k : ∀q,q<r->q≠W->kN h2 W≠some q->h3 q=h2 q)(k2 : ∀q,kN h3 W=some q->kN h2 W=some q\/r<=q):bO h h3 W n c :=
 a.trans ⟨hn,k,λq J _ h3 e=>by rcases k2 q e with Y|Y;exact h3 Y;omega⟩
def bH.cases3{nx:Nat}(c:bH T h W nx l m):(l=[]/\m=0 /\ ∃x:Int,h W=some ⟨T,[[.e,.i 0,.v (.int .i8 x)]]⟩)\/(0<l.length/\m=0 /\ ∃(r:Nat)(x:Int),r≠W/\r<nx/\h r=some ⟨5,l.map bD⟩/\h W=some ⟨T,[[.mrow r 0 (l.length+0),.i 0,.v (.int .i8 x)]]⟩)\/(0<m /\ ∃(r:Nat)(x:Int),r≠W/\r<nx/\h r=some ⟨5,l.map bD⟩/\h W=some ⟨T,[[.mrow r 0 (l.length+m),.i 0,.v (.int .i8 x)]]⟩):=by
 obtain⟨_,⟨e,x,a⟩|⟨e,r,x,J,Y,A,a⟩⟩:=c
 . exact .inl ⟨Yb om,om,x,a⟩
 rcases Nat.eq_zero_or_pos m with p|p
 . subst p;exact .inr (.inl ⟨om,rfl,r,x,J,Y,A,a⟩)
 exact .inr (.inr ⟨p,r,x,J,Y,A,a⟩)
theorem UT{k:Nat}{x:List D}:(List.replicate m x).drop k=List.replicate (m-k) x:=by simp
def Zcg:fE prog 278=true:=by kernel_rfl
def Zl9(m:Nat)(h:H)(n:Nat)(h0:0<m)(r:m<=1000000000000):yp 278 [.e,.i m] h n (λd h' g=>∃a,d = .mrow a 0 0/\h' a=some ⟨5,List.replicate m [.v (.int .u8 0)]⟩/\n<=a/\a<g /\ ∀q,q<n->h' q=h q):=by
 have ff:=True.intro;refine Ky (C:=De) 0 func278 rfl Zcg (by simp[f278]) o1y ev o2b (dP rfl) rfl rfl (by intro o t;simp at t) o2q o2b o1w ev (λc=>?_);unfold f278;refine xF ?_;try simp only[aH]
 have f:((0:Nat):Int)+(m:Int)=m:=by omega
 have ff:=qA @f ff;refine xa ?_;refine aj ?_;refine bX ?_;refine Qb De 2 (e:=5) ?_;refine xF ?_;try simp only[aH]
 refine ce ?_ ?_<;>intro w
 . exfalso;simp at w;omega
 refine bM ?_;refine bX ?_;refine PW De 1 (e:=5) (kk:=.i64) m h0 o2o (by omega) ?_;refine xF ?_;try simp only[aH]
 refine bX ?_;refine IP De 2 (e:=5) ?_;refine xF ?_;try simp only[aH]
 refine xa ?_;refine jb ?_;refine⟨_,_,_,rfl,rfl,PT _ _,λJ k⟨j,p⟩=>?_⟩;try dsimp only at j p
 exact⟨by simp only[go_sem,ff],J,k,λ_=>.inl rfl,XW _,_,by simp only[go_sem,ff];first|done|rfl,by rw[j _ (by omega)];simp only[upd];repeat (first|rfl|rw[XV (by omega)]|rw[X0 rfl]),om,om,λq K=>by rw[j q (by omega)];simp only[upd];repeat (first|rfl|rw[XV (by omega)]|rw[X0 rfl])⟩
def gs_ct(l:Str)(m:Nat)(h:H)(n r:Nat)(hr:h r=some ⟨5,l.map bD⟩)(h0:0<l.length)(h1:0<m)(z:l.length+m<=1000000000000):wQ prog 278 [.mrow r 0 l.length,.i m] h n (Env.capLt r (l.length+m)) (λd h' n' v=>v=Env.tt/\(λd h' n'=>∃g k,d = .mrow g 0 l.length/\h' g=some ⟨5,l.map bD++List.replicate k [.v (.int .u8 0)]⟩/\m<=k/\n<=g/\g<n' /\ ∀q,q<n->h' q=h q) d h' n'):=by
 have ff:=True.intro;refine ZhP (FT:=by rfl) (C:=De) 0 func278 rfl Zcg (by simp[f278]) o1y ev o2b (dP rfl) rfl rfl (by intro o t;simp at t) o2q o2b o1w ev (λa=>?_);unfold f278;refine xF ?_;try simp only[aH]
 have x:r<n:=by rcases YK r n with q|q;exact q;rw[a r q]at hr;cases hr
 have ff:=qB @hr (nG r n) ff;refine xa ?_;refine aj ?_;refine bX ?_;refine gcapE De 2 (r:=r) (l.length+m) (λ_ _ q=>q) (λc y j=>?_);try dsimp only at j
 refine xF ?_;try simp only[aH]
 refine cd ?_ ?_<;>intro w
 .
  refine tF ?_;refine gcapQ De 1 (r:=r) (off:=0) rfl ?_;refine xF ?_;try simp only[aH]
  refine bX ?_;refine PW De 1 (e:=5) (kk:=.i64) (2*c) (by omega) o2o (by omega) ?_;refine xF ?_;try simp only[aH]
  refine bX ?_;refine En De 2 l.length ?_;refine xF ?_;try simp only[aH]
  refine xa ?_;refine jb ?_;refine⟨_,_,_,rfl,rfl,PT _ _,λh1 p⟨f,u⟩=>?_⟩;try dsimp only at f u
  exact⟨by simp only[go_sem,ff],h1,p,λ_=>.inl rfl,XW _,_,2*c-l.length,by simp only[go_sem,ff];first|done|rfl,by rw[f _ (by omega)];simp[upd,UT],om,om,om,λq K=>by rw[f q (by omega)];simp only[upd];repeat (first|rfl|rw[XV (by omega)]|rw[X0 rfl])⟩
 refine bM ?_;refine bX ?_;refine PW De 1 (e:=5) (kk:=.i64) (l.length+m) (by omega) o2o (by omega) ?_;refine xF ?_;try simp only[aH]
 refine bX ?_;refine En De 2 l.length ?_;refine xF ?_;try simp only[aH]
 refine xa ?_;refine jb ?_;refine⟨_,_,_,rfl,rfl,PT _ _,λh1 p⟨f,u⟩=>?_⟩;try dsimp only at f u
 exact⟨by simp only[go_sem,ff],h1,p,λ_=>.inl rfl,XW _,_,m,by simp only[go_sem,ff];first|done|rfl,by rw[f _ (by omega)];simp[upd,UT],om,om,om,λq K=>by rw[f q (by omega)];simp only[upd];repeat (first|rfl|rw[XV (by omega)]|rw[X0 rfl])⟩
def bH.mono{nx nx':Nat}(a:bH T h W nx l m)(hn:nx<=nx'):bH T h W nx' l m:=by
 obtain⟨p,J|⟨e,r,x,J,c,A,Y⟩⟩:=a
 . exact⟨om,.inl J⟩
 exact⟨om,.inr ⟨e,r,x,J,om,A,Y⟩⟩
def bH.mk{nx r k:Nat}(a:h W=some ⟨T,[[.mrow r 0 k,.i 0,.v (.int .i8 x)]]⟩)(hr:h r=some ⟨5,l.map bD⟩)(hk:k=l.length+m)(h0:0<l.length+m)(h1:r≠W)(h2:r<nx)(h3:W<nx):bH T h W nx l m:=by subst hk;exact⟨h3,.inr ⟨h0,r,x,h1,h2,hr,a⟩⟩
def bO.down{h':H}{n':Nat}(a:bO h h' W m n')(hn:n<=m):bO h h' W n n':=⟨Yd hn a.1,λq J=>a.2.1 q (YG J hn),λq J=>a.2.2 q (YG J hn)⟩
def bO.up{h':H}{n' r:Nat}(a:bO h h' W n n')(hn:n'<=r):bO h h' W n r:=⟨Yd a.1 hn,a.2.1,a.2.2⟩
theorem bO.row{h2 h3:H}{c f r k:Nat}(g:h3 W=some ⟨T,[[.mrow r 0 k,.i 0,.v (.int .i8 x)]]⟩)(a:bO h h2 W n c)(hn:c<=f)(hk : ∀q,q<c->q≠W->kN h2 W≠some q->h3 q=h2 q)(hr:kN h2 W=some r\/c<=r):bO h h3 W n f :=
 a.more hn hk λq e=>by rw[kr g]at e;cases e;exact hr
def PU(T:TypeId)(l:Str)(m:Nat)(h:H)(n W:Nat)(hB:bH T h W n l 0)(hl:l.length+m<=1000000000000):bG prog 223 [.mptr W 0 0,.i m] h n (λd h' n'=>d = .i l.length/\bO h h' W n n'/\bH T h' W n' l m):=by
 refine oP func223 λhnone ff=>?_
 unfold f223
 refine aa De ?_
 refine aj (bg De 1 (hct:=by exact Zpa T l _ _ W (hB.mono (by dsimp only;omega)) om) (hk:=?_))
 rintro res h2 n2 ⟨rfl,aS,hB2⟩
 try dsimp only at aS hB2
 replace aS:=aS.down (show n<=_ by omega)
 obtain⟨d0,x0,hd1,hW2⟩:=hB2.cell
 have hWn2:=hB2.1
 have ff:=qD @hW2 @hd1 (nG W n2) ff
 refine aZ De ?_
 refine oM De ?_ ?_<;>intro c1
 . exfalso;simp at c1
 refine aj ?_
 refine bX ?_
 refine ZgE (C:=De) 2 (R:=_) om (dP rfl) rfl rfl (by simp only[List.drop_succ_cons,List.drop_zero,List.take_succ_cons,List.take_zero,S.put,Nat.sub_self,Nat.reduceSub,go_sem,ff];first|done|exact rfl) ?_ ?_ ev (by simp only[go_sem,ff]) ev (by exact JL T l m _ _ W (hB2.mono (by dsimp only;omega)) hl) (by exact λ_ _ _=>trivial) ?_
 .
  try simp only[go_sem,ff]
  all_goals (exact ok0)
 .
  try simp only[go_sem,ff]
  all_goals (first|done|rfl|decide|simp)
 rintro res h3 n3 E3 ⟨ok,a,rfl,eX,hT,hF⟩
 try dsimp only at eX hT hF
 refine aN De ?_
 try simp only[aH]
 refine wG De ?_ ?_ (hq:=rfl)<;>intro c3
 . have hT9:=hT c3;refine aa De ?_;exact oN (bJ (_) (hh:=λ_=>.inl rfl) (hr:=oS (k:=by exact⟨by rw[hT9.1],(aS.trans (eX.down (by omega))).up (by omega),hT9.2.mono (by omega)⟩)))
 obtain⟨hm0,hB3,hcap⟩:=hF c3
 refine bM ?_
 refine aj ?_
 have hB3k:=hB3
 obtain⟨hWn3,⟨e0,x3,hW3⟩|⟨e0,r,x3,fD,hrn,hr,hW3⟩⟩:=hB3
 .
  obtain rfl:l=[]:=Yb om;have e00:((0:Nat):Int)+(m:Int)=m:=by omega
  have ff:=qE @hW3 @e00 @Int.zero_add (nG W n3) ff;refine bX ?_;refine Zmo De 4 (e:=5) (λy hy=>?_)
  refine aN De ?_
  try simp only[aH]
  refine ce ?_ ?_<;>intro c4
  .
   have hm64:m<=64:=by simp at c4;omega
   refine bX ?_;refine gmkC De 2 (e:=5) m 64 hm0 hm64 (by omega) (by rw[show(prog).bytesOf 5=1 from rfl];omega) ?_
   refine aN De ?_
   try simp only[aH]
   refine QH (r:=(n3+20)) 0 ev ?_;refine aa De ?_;exact oN (bJ (_) (hh:=λ_=>.inl rfl) (hr:=oS (k:=by first|exact⟨rfl,bO.row (T:=T) ev (aS.trans (eX.down (by omega))) (by omega) (λq q1 q2 q3=>by simp only[upd];repeat (first|rfl|rw[XV (by omega)])) (.inr (by omega)),bH.mk ev (by simp[upd]) (by simp) (by simp;omega) (by omega) (by omega) (by omega)⟩|exact⟨bO.row (T:=T) ev (aS.trans (eX.down (by omega))) (by omega) (λq q1 q2 q3=>by simp only[upd];repeat (first|rfl|rw[XV (by omega)])) (.inr (by omega)),bH.mk ev (by simp[upd]) (by simp) (by simp;omega) (by omega) (by omega) (by omega)⟩)))
  refine bM ?_;refine bX ?_;refine Qb De 4 (e:=5) ?_;refine aN De ?_
  try simp only[aH]
  refine aj ?_;refine wG De ?_ ?_<;>intro c5
  . exfalso;simp at c5;omega
  refine wG De ?_ ?_<;>intro c6
  . exfalso;simp at c6;omega
  refine dr1E De 16 19 [] (hE:=λ_ _ _=>trivial) (hct:=by exact(Zl9 m _ _ hm0 om).ie) (hkeep:=?_) (hk:=?_)
  . intro res h2 n2 _ q hq;cases hq
  rintro res h4 n4 ⟨r4,rfl,hr4,nZ,hr4n,hkeep⟩
  try dsimp only at nZ hkeep
  have hW4:=(hkeep W (by omega)).trans hW3
  have hrW4:r4≠W:=by omega
  have ff:=qF hr4 hW4 (nH W r4) (nG W n4) (nG r4 n4) ff;refine aN De ?_
  try simp only[aH]
  refine aa De ?_;refine bX ?_;refine Zas De 8 (r:=r4) (off:=0) m ?_;refine aN De ?_
  try simp only[aH]
  refine QH (r:=r4) 0 ev ?_;refine aa De ?_;exact oN (bJ (_) (hh:=λ_=>.inl rfl) (hr:=oS (k:=by first|exact⟨rfl,bO.row (T:=T) ev (aS.trans (eX.down (by omega))) (by omega) (λq q1 q2 q3=>by have:=hkeep q (by omega);simp only[upd];repeat (first|exact this|rw[XV (by omega)])) (.inr (by omega)),bH.mk ev (by simp[upd]) (by simp) (by simp;omega) (by omega) (by omega) (by omega)⟩|exact⟨bO.row (T:=T) ev (aS.trans (eX.down (by omega))) (by omega) (λq q1 q2 q3=>by have:=hkeep q (by omega);simp only[upd];repeat (first|exact this|rw[XV (by omega)])) (.inr (by omega)),bH.mk ev (by simp[upd]) (by simp) (by simp;omega) (by omega) (by omega) (by omega)⟩)))
 rw[Zx]at hW3
 have e1:0<l.length:=by omega
 have hE0:((l.length:Int)-((0:Nat):Int)).toNat=l.length:=by omega
 have pM:(W=r)=False:=YS (λe=>fD e.symm)
 have pJ:(r=W)=False:=YS fD
 have ff:=qA @hW3 (qI @hr @pM @pJ @Int.zero_add @Int.sub_zero @hE0 (nG W n3) (nG r n3) ff)
 refine bX ?_
 refine gmnil De 4 (e:=5) ?_
 refine aN De ?_
 try simp only[aH]
 refine ce ?_ ?_<;>intro c4
 . exfalso;simp at c4
 refine bM ?_
 refine bX ?_
 refine Qc De 4 (λc hc1 hc2=>?_)
 have hc3:(c:Int)<=9223372036854775807:=by have:=hc2;unfold maxLen at this;omega
 refine aN De ?_
 try simp only[aH]
 refine aj ?_
 refine wE De ?_ ?_<;>intro c5
 .
  refine Ck De 13 ?_;refine En De 13 l.length ?_;refine aN De ?_
  try simp only[aH]
  refine aa De ?_;refine bX ?_;refine PV De 8 (r:=r) (off:=0) (c:=c) (l.length+m) rfl (by have:(m:Int)<=(c:Int) / 2-(l.length:Int):=(by simpa using c5);omega) ?_
  refine aN De ?_
  try simp only[aH]
  refine aa De ?_;exact oN (bJ (_) (hh:=λ_=>.inl rfl) (hr:=oS (k:=by first|exact⟨rfl,bO.row (T:=T) ev (aS.trans (eX.down (by omega))) (by omega) (λq q1 q2 q3=>by have lZ:q≠r:=λe=>q3 (by rw[e];exact kr hW3);simp only[upd];repeat (first|rfl|rw[XV lZ]|rw[XV (by omega)])) (.inl (kr hW3)),bH.mk ev (by simp[upd,fD]) (by simp) (by omega) (by omega) (by omega) (by omega)⟩|exact⟨bO.row (T:=T) ev (aS.trans (eX.down (by omega))) (by omega) (λq q1 q2 q3=>by have lZ:q≠r:=λe=>q3 (by rw[e];exact kr hW3);simp only[upd];repeat (first|rfl|rw[XV lZ]|rw[XV (by omega)])) (.inl (kr hW3)),bH.mk ev (by simp[upd,fD]) (by simp) (by omega) (by omega) (by omega) (by omega)⟩)))
 refine Znc (r:=r) (k:=l.length+m) ev (λg w q=>hcap r (kr hW3) g w q.2) (λhc9=>?_)
 refine wG De ?_ ?_<;>intro c6
 . exfalso;simp at c6;omega
 refine dr1E De 16 19 [] (hE:=by exact λg w q=>hcap r (kr hW3) g w q.1.2) (hct:=by exact(gs_ct l m _ _ r hr e1 hm0 hl).i) (hkeep:=?_) (hk:=?_)
 . intro res h2 n2 _ q hq;cases hq
 rintro res h4 n4 ⟨E4,rfl,r4,k4,rfl,hr4,hk4,nZ,hr4n,hkeep⟩
 try dsimp only at nZ hkeep
 have hW4:=(hkeep W (by omega)).trans hW3
 have hrW4:r4≠W:=by omega
 have ff:=qF hr4 hW4 (nH W r4) (nG W n4) (nG r4 n4) ff
 refine aN De ?_
 try simp only[aH]
 refine aa De ?_
 refine bX ?_
 refine Zas De 8 (r:=r4) (off:=0) (l.length+m) ?_
 refine aN De ?_
 try simp only[aH]
 refine QH (r:=r4) l.length ev ?_
 refine aa De ?_
 exact oN (bJ (_) (hh:=λ_=>.inl rfl) (hr:=oS (k:=by first|exact⟨rfl,bO.row (T:=T) ev (aS.trans (eX.down (by omega))) (by omega) (λq q1 q2 q3=>by have:=hkeep q (by omega);simp only[upd];repeat (first|exact this|rw[XV (by omega)])) (.inr (by omega)),bH.mk ev (by simp[upd]) (by simp) (by omega) (by omega) (by omega) (by omega)⟩|exact⟨bO.row (T:=T) ev (aS.trans (eX.down (by omega))) (by omega) (λq q1 q2 q3=>by have:=hkeep q (by omega);simp only[upd];repeat (first|exact this|rw[XV (by omega)])) (.inr (by omega)),bH.mk ev (by simp[upd]) (by simp) (by omega) (by omega) (by omega) (by omega)⟩)))
end Go.Proofs.YtjhhnhgflmkenaaGreatDoor
