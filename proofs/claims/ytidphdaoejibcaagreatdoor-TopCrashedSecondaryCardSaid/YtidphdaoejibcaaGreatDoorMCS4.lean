/-
  MANY TEXTS OF MINE IN ONE (a claim has a limit of files): DBuf, DXc, DXl, RcW12, DXm, Zsem, DlW2, DlW3, DlW4, DlW5, DlW7, DSort, Upm, Upn, Upo, Upq, Upr, Ups, Upt, Usem, DClaim, DLaid, Tla, TpCon, NmW1, NmW2, NmW3, NmW4, NmW5, NmW6, RcW1, RcW3, RcW4, RcW5, RcW6, RcW7, RcW8, JbW1, JbW2, JbW3, JbW4, JbW5, JbW6, JkW1. Conditions: none.
-/
import Derived.Shelf.SlSortCmp.NoneTotal
import Derived.Carry
import Derived.RowKit
import Derived.ChangeSame
import Derived.OpenShut
import Derived.LaidMore
import Derived.Lay
import Derived.Test.YtidphdaoejibcaaGreatDoorRows
import Derived.Stop.LaidErr
import Derived.Test.YtidphdaoejibcaaGreatDoorMCS3
set_option linter.unusedVariables false
set_option linter.unusedSimpArgs false
set_option linter.unusedSectionVars false
set_option linter.defProp false
set_option linter.unnecessarySimpa false
namespace Go.DL
open Go.RowKit
theorem _root_.o6b{p:Prop}(h:p:=by dsimp only;omega):p:=h
theorem _root_.o5y{p:Prop}(h:p:=by first|decide|simp):p:=h
theorem _root_.o5x{p:Prop}(h:p:=by rw[e];exact jX hW2):p:=h
theorem _root_.o5v{p:Prop}(h:p:=by simp only[go_sem,ff]):p:=h
theorem _root_.o5n{p:Prop}(h:p:=by simp only[XZ,rD,jb];omega):p:=h
theorem _root_.o5h{p:Prop}(h:p:=by first|(simp)|(dsimp only;simp)):p:=h
theorem _root_.o5d{p:Prop}(h:p:=by rw[hf];exact Bool.false_ne_true):p:=h
theorem _root_.o5a{p:Prop}(h:p:=by(try dsimp only);have:=aU.1;omega):p:=h
theorem _root_.o4x{p:Prop}(h:p:=by simp only[go_sem,ff];first|done|rfl):p:=h
theorem _root_.o4v{p:Prop}(h:p:=by simp only[X8,Yz,go_sem,ff];exact rfl):p:=h
theorem _root_.o4u{p:Prop}(h:p:=by simp only[X5,Ye,go_sem,ff];exact rfl):p:=h
theorem _root_.o4s{p:Prop}(h:p:=by rw[show(prog).bytesOf 5=1 from rfl];omega):p:=h
theorem _root_.o4r{p:Prop}(h:p:=by first|(simp;omega)|(dsimp only;simp;omega)):p:=h
theorem _root_.o4q{p:Prop}(h:p:=by(repeat' split)<;>first|rfl|(exfalso;omega)):p:=h
theorem _root_.o4o{p:Prop}(h:p:=by(try dsimp only);have:=eX.1;have:=aU.1;omega):p:=h
theorem _root_.o4l{p:Prop}(h:p:=by(try simp only[go_sem,ff]);all_goals exact ok0):p:=h
theorem _root_.o4h{p:Prop}(h:p:=by(try dsimp only);exact(aU.trans (eX.down om)).up om):p:=h
theorem _root_.o4g{p:Prop}(h:p:=by simp only[X9,X6,X5,Ye,S.put,Yq,go_sem,ff];exact rfl):p:=h
theorem _root_.o4e{p:Prop}(h:p:=by first|exact ZQ _ _|(refine⟨?_,ZQ _ _⟩;simp_all [xS])):p:=h
theorem _root_.o4c{p:Prop}(h:p:=by first|(intro i hi;omega)|(dsimp only;intro i hi;omega)):p:=h
theorem _root_.o4a{p:Prop}(h:p:=by first|(simp only[go_sem,ff];done)|(simp[go_sem,ff];done)):p:=h
theorem _root_.o3u{p:Prop}(h:p:=by obtain⟨⟨h1,h2⟩,h3⟩:=c1;rcases h3 with h3|h3<;>simp[jS,xH, *]):p:=h
theorem _root_.o3o{p:Prop}(h:p:=by first|exact hG.mono (by omega)|(rw[Yv];exact hG.mono (by omega))):p:=h
theorem _root_.o3n{p:Prop}(h:p:=by(try simp only[go_sem,ff]);all_goals (first|done|rfl|decide|simp)):p:=h
theorem _root_.o3k{p:Prop}(h:p:=by intro o ho;simp only[Ym,YZ,or_false]at ho;rcases ho with rfl<;>rfl):p:=h
theorem _root_.o3j{p:Prop}(h:p:=by simp only[lU,lN,zG,Go.Rec.cmpI];simp_all<;>(repeat' split)<;>omega):p:=h
theorem _root_.o3i{p:Prop}(h:p:=by first|(simp only[go_sem,ff];done)|(simp only[go_sem,ff];exact rfl)):p:=h
theorem _root_.o3e{p:Prop}(h:p:=by exact Nq T l p.length _ _ W ((hF2.2.1).mono o6b) hl):p:=h
theorem _root_.o3a{p:Prop}(h:p:=by first|(first|omega|(simp;omega))|(dsimp only;first|omega|(simp;omega))):p:=h
theorem _root_.o2s{p:Prop}(h:p:=by simp only[X9,X6,X5,Ye,S.put,Yq,Nat.reduceSub,go_sem,ff];first|done|exact rfl):p:=h
theorem _root_.o2r{p:Prop}(h:p:=by exact uY.rct (Hq T l p.length _ _ W (hB.last hW _ o6b) hl)):p:=h
theorem _root_.o2m{p:Prop}(h:p:=by simp only[cmpI,uR,vH];first|(simp_all;done)|((repeat' split)<;>first|rfl|omega)):p:=h
theorem _root_.o2l{p:Prop}(h:p:=by rw[hv,iI,XV (by omega),XV (by omega),XV (by omega),XV (by omega),XV (by omega)]):p:=h
theorem _root_.o2i{p:Prop}(h:p:=by first|(rw[c1.1,c1.2,kU,XV c2,hv,Oy c11 c14,X3 d3];rfl)|(rw[c1.1,c1.2,kU,XV c2,d0];rfl)):p:=h
theorem _root_.o2f{p:Prop}(h:p:=by intro q;left;by_cases e1:q=r<;>by_cases e2:q=m<;>simp_all [upd,tF,tC]<;>(rw[XV (by omega)])):p:=h
theorem _root_.o1n{p:Prop}(h:p:=by first|(rw[c1.1,c1.2,kU,XV c2,hv,Kn c11];done)|(rw[c1.1,c1.2,kU,XV c2,hv,Kn c11];rfl)|(rw[c1.1,c1.2,kU,XV c2,hv,Xb c11 c14];rfl)):p:=h
theorem _root_.o1j{p:Prop}(h:p:=by have h8:tQ s k=false:=(by simp only[tQ,sF,Yd,Yy,X4];(try simp only[aW,XU,Yy,XW,X4]at c3);omega);rw[hv,iI,X3 hk2,h8];(repeat' split)<;>rfl):p:=h
theorem _root_.o0z{p:Prop}(h:p:=by(try simp only[go_sem,ff]);all_goals (first|done|(simp;done)|(refine⟨.inl ?_,.inl (by simp)⟩;exact congrArg (λx=>D.v (Value.int IntKind.u64 x)) hor)|(simp;omega))):p:=h
theorem _root_.o0s{p:Prop}(h:p:=by(try simp only[go_sem,ff]);all_goals (first|done|(simp;done)|(simp[Dat.d,iX];done)|((repeat' (with_reducible apply And.intro))<;>first|rfl|(left;simp;done)|(simp[Dat.d,iX];done)))):p:=h
theorem _root_.o0r{p:Prop}(h:p:=by(try simp only[go_sem,ff]);all_goals (first|done|(simp[sR];done)|(simp[sR];omega)|((repeat' (with_reducible apply And.intro))<;>first|(left;simp[sR];done)|(right;simp[go_sem,sR];done)))):p:=h
theorem _root_.o0k{p:Prop}(h:p:=by first|exact⟨rfl,aQ.up (by omega),o3o⟩|exact⟨aQ.up (by omega),o3o⟩):p:=h
theorem _root_.o0i{p:Prop}(h:p:=by(try simp only[go_sem,ff]);all_goals (first|done|((repeat' (with_reducible apply And.intro))<;>first|(intros;exact qb _ _ _)|(intros;exact lT _)|(intros;exact qf _)|(intro h;simp only[XU,jM]at h;omega)|omega))):p:=h
theorem _root_.o0f{p:Prop}(h:p:=by(try dsimp only);have h8:tQ s k=true:=(by simp only[tQ,sF,Bool.or_eq_true,Bool.and_eq_true,decide_eq_true_eq];(try simp only[aW,Bool.and_eq_true,Bool.and_eq_false_iff,decide_eq_true_eq,decide_eq_false_iff_not]at c3);omega);rw[hv,iI,if_pos hk2,h8];rfl):p:=h
theorem _root_.o0b{p:Prop}(h:p:=by first|exact⟨rfl,bM.row (T:=T) ev aQ (by omega) (λq q1 q2 q3=>by have lH:q≠r:=λe=>q3 o5x;simp only[upd];repeat (first|rfl|rw[XV lH]|rw[XV (by omega)])) (.inl (jX hW2)),bE.wrote (r:=r) ev ev (by simp) (by simp) (by omega) fF (by omega) (by omega)⟩|exact⟨bM.row (T:=T) ev aQ (by omega) (λq q1 q2 q3=>by have lH:q≠r:=λe=>q3 o5x;simp only[upd];repeat (first|rfl|rw[XV lH]|rw[XV (by omega)])) (.inl (jX hW2)),bE.wrote (r:=r) ev ev (by simp) (by simp) (by omega) fF (by omega) (by omega)⟩):p:=h
variable {P : Program} {ro : Option Nat} {Q : Exit -> S -> Prop}
def ZjM [Glob P]{h:H}{g:Mem}{w:World}(hm:HM P h g w){t u e:TypeId}{r off len:Nat}{rows:List (List D)}{y:D}{vx vy:Value}(ht:P.underlying t=some (.slice e))(hr:h r=some ⟨e,rows⟩)
  (hx:ag w g (.mrow r off len) vx)(hy:ag w g y vy)(hl:(aC y h).length=bO y)(hs:iA P u h y=true)(hrl : ∀q∈aC y h,q.length=P.cellsOf e)(h0:0<bO y)(hk:bO y<=len)(ho:off<=rows.length)(ty:TypeId) :
  ∃g' w',(Builtin.copy_ #[t,u] ty #[vx,vy]).run P w = .ok (.int .i64 (bO y:Nat)) w'/\HM P (upd h r (some ⟨e,rows.take off++aC y h++rows.drop (off+bO y)⟩)) g' w'/\ax g g' w w' /\ ∀q,g'.U q->g.U q:=by
 obtain⟨blk,c,h1,h2,h3,h4,h5⟩:=hm.blk r _ hr
 simp only at h1 h2 h3
 obtain⟨news,r1,l1,f1,_⟩:=CR hm hy h2 hl hrl hs
 cases hx with|mrow _ _ _ _ fM hU hvv =>
 obtain⟨p1,p2⟩:=hvv _ _ _ h1
 rcases p2 with⟨e0,a,rfl⟩|⟨e0,b,rfl,rfl⟩
 .
  obtain⟨a',c',e1,e2,_⟩:=fM
  cases e1
  omega
 obtain⟨cur,c1,c2,c3⟩:=G9 hm (off:=off) hr h1 p1.2 r1 ho (by rw[hl];exact Yh (Nat.add_le_add_left hk _) p1.1)
 obtain⟨g',q1,q2,q3,q4,q5⟩:=c3 _ rfl
 rw[hl]at q3
 have hst:=run_storeCells_at P b (off*P.cellsOf e) e news 0 cur w c1 (by simpa using c2) r1.one
 simp only[Zu]at hst
 have hmin:Nat.min (bO y) len=bO y:=ZK hk
 refine⟨g',_,?_,q3,q4,q5⟩
 simp[Builtin.copy_,run_underlying ht,l1,rG h2,hmin,f1,hst,goInt]
def Zdb [Glob P]{C:aS}{s s1:S}{ops:Array Oper}{i b:Nat}(k:Nat){o:Oper}{t u e:TypeId}{x y:Operand}{r off len m:Nat}{yd:D}{rows news:List (List D)}(z9:eY P C ops i k o b s s1)
  (hop:o.op = .call { callee:=.builtin .copy,args:=#[x,y],argTypes:=#[t,u] })(ht:P.underlying t=some (.slice e))
  (hx:s1.ev x = .mrow r off len)(hy:s1.ev y=yd)(hr:s1.h r=some ⟨e,rows⟩)
  (hnw:aC yd s1.h=news)(hm:bO yd=m)(hl:news.length=m)(hs:iA P u s1.h yd=true)(hrl : ∀q∈news,q.length=P.cellsOf e)(h0:0<m)(BK:m<=len)(hlo:off<=rows.length)
  (hk:av P ro ops (k+1) b { n:=s1.n,t:=s1.put o.dst (.i m),h:=upd s1.h r (some ⟨e,rows.take off++news++rows.drop (off+m)⟩),nx:=s1.nx,ok:=True,e:=s1.e } Q):av P ro ops i b s Q:=by
 obtain⟨hik,ho,hg,he,hok,hd⟩:=z9
 subst hy
 subst hnw
 subst hm
 refine kE (C:=C) k (λd h'=>d = .i (bO (s1.ev y):Nat)/\h'=upd s1.h r (some ⟨e,rows.take off++aC (s1.ev y) s1.h++rows.drop (off+bO (s1.ev y))⟩)) hik ho hg (λc e=>by rw[hop]at e;cases e) he hok hd (λB g a w hst _=>?_) (λd h'⟨hy,hh⟩=>by subst hy;subst hh;exact hk)
 have hv:=bX hst x
 rw[hx]at hv
 obtain⟨g',w',q1,q2,q3,q4⟩:=ZjM (u:=u) hst.mem ht hr hv (bX hst y) hl hs hrl h0 BK hlo o.type
 refine⟨_,_,⟨rfl,rfl⟩,_,g',w',.inl ?_,.v _,q2,q3,λr hr=>.inl (q4 r hr)⟩
 obtain⟨od,oo,iD,op,oa,og⟩:=o
 simp only at hop
 subst hop
 simp[Go.BigFrame.execOp_builtin,Go.BigFrame.builtin_copy,q1]
def M5:D->Bool
 | .list _ _ | .mrow _ _ _=>true
 | _=>false
theorem Zha{w:World}{g:Mem}{x:D}{v:Value}(h:M5 x=true)(hr:ag w g x v):∃a c,v = .slice a (bO x) c:=by
 cases hr with
 | empty full a cap=>exact⟨a,cap,rfl⟩
 | list full rows ad cap=>exact⟨some ad,cap,rfl⟩
 | mrow r off len v hx=>obtain⟨a,c,e,_⟩:=hx;exact⟨a,c,e⟩
 | _=>cases h
theorem Zdc [Glob P]{C:aS}{s s1:S}{ops:Array Oper}{i b:Nat}(k:Nat){o:Oper}{t u e:TypeId}{x y:Operand}{xd yd:D}(z9:eY P C ops i k o b s s1)
  (hop:o.op = .call { callee:=.builtin .copy,args:=#[x,y],argTypes:=#[t,u] })(ht:P.underlying t=some (.slice e))(hp:0<P.cellsOf e)
  (hx:s1.ev x=xd)(hy:s1.ev y=yd)(hxs:M5 xd=true)
  (hm:bO yd=0)(hl:(aC yd s1.h).length=0)(hs:iA P u s1.h yd=true)
  (hk:av P ro ops (k+1) b { n:=s1.n,t:=s1.put o.dst (.i 0),h:=s1.h,nx:=s1.nx,ok:=True,e:=s1.e } Q):av P ro ops i b s Q:=by
 obtain⟨hik,ho,hg,he,hok,hd⟩:=z9
 subst hx
 subst hy
 refine kE (C:=C) k (λd h'=>d = .i 0/\h'=s1.h) hik ho hg (λc e=>by rw[hop]at e;cases e) he hok hd (λB g a w hst _=>?_) (λd h'⟨hy,hh⟩=>by subst hy;subst hh;exact hk)
 have hnil:aC (s1.ev y) s1.h=[]:=Ya hl
 obtain⟨ad,c,hv⟩:=Zha hxs (bX hst x)
 obtain⟨news,r1,l1,f1,_⟩:=CR hst.mem (bX hst y) hp (by rw[hl,hm]) (by rw[hnil];intro q hq;cases hq) hs
 rw[hm]at l1 f1
 have hnews:news=[]:=by
  have:=r1.1;rw[hnil]at this;exact Ya (by simpa using this)
 subst hnews
 have hf:=f1 w rfl
 have hrun:(Builtin.copy_ #[t,u] o.type #[a.eval x,a.eval y]).run P w = .ok (.int .i64 0) w:=by
  rw[hv];have hmin:Nat.min 0 (bO (s1.ev x))=0:=Nat.zero_min _
  cases ad<;>simp[Builtin.copy_,run_underlying ht,l1,rG hp,hmin,hf,goInt,storeCells]
 refine⟨_,_,⟨rfl,rfl⟩,_,g,w,.inl ?_,.v _,hst.mem,ax.refl _ _,λr hr=>.inl hr⟩
 obtain⟨od,oo,iD,op,oa,og⟩:=o
 simp only at hop
 subst hop
 simp[Go.BigFrame.execOp_builtin,Go.BigFrame.builtin_copy,hrun]
theorem ZbR [Glob P]{h:H}{g:Mem}{w:World}(hm:HM P h g w){e:TypeId}{r off len i:Nat}{rows:List (List D)}{x:D}{va vs vx:Value}(hr:h r=some ⟨e,rows⟩)(hs:ag w g (.mrow r off len) vs)(ha:ag w g (.mptr r i 0) va)(hx:ag w g x vx)
  (hi:i=rows.length)(hl:i<off+len)(hc:x.cells.length=P.cellsOf e)(h1:x.cells.all D.one=true) :
  ∃g' w',(Instr.storeAt e va vx).run P w = .ok () w'/\HM P (upd h r (some ⟨e,rows++[x.cells]⟩)) g' w'/\ax g g' w w' /\ ∀q,g'.U q->g.U q:=by
 obtain⟨blk,c,p1,p2,p3,p4,p5⟩:=hm.blk r _ hr
 simp only at p1 p2 p3
 cases hs with|mrow _ _ _ _ fM hU hvv =>
 obtain⟨q1,q2⟩:=hvv _ _ _ p1
 cases ha with|mptr _ _ _ _ hax _ hv =>
 obtain⟨hcm,b,rfl,rfl⟩:=hv _ _ _ p1
 obtain⟨k1,k2,k3⟩:=hx.cells h1
 have r1:RowsIn w g (P.cellsOf e) [x.cells] vx.cells.toList:=by
  refine⟨by simp[k3,hc],λj row hj=>?_⟩
  cases j with
  | succ j=>simp at hj
  | zero =>
   simp at hj
   subst hj;refine⟨hc,λj d hd=>?_⟩
   have hjl:j<vx.cells.toList.length:=by rw[<-k1.1];exact(X7.1 hd).1
   exact⟨vx.cells.toList[j],by simp[hjl],k2 _ (by simp),k1.2 j d _ hd (by simp[hjl])⟩
 obtain⟨cur,c1,c2,c3⟩:=G9 hm (off:=i) hr p1 hcm r1 om (by simp;omega)
 obtain⟨g',q1',q2',q3',q4',q5'⟩:=c3 _ rfl
 have hrows:rows.take i++[x.cells]++rows.drop (i+[x.cells].length)=rows++[x.cells]:=by
  rw[hi,Yn,Y3 (by simp),Yv]
 rw[hrows]at q3'
 have hst:=run_storeCells_at P b (i*P.cellsOf e) e vx.cells.toList 0 cur w c1 (by simpa using c2) k2
 simp only[Zu]at hst
 refine⟨g',_,?_,q3',q4',q5'⟩
 have hq3:vx.cells.size=P.cellsOf e:=by simpa[hc]using k3
 simp[Instr.storeAt,Instr.sureAddr,storeVar,rG p2,hq3,hst]
theorem ZcY [Glob P]{C:aS}{s s1:S}{ops:Array Oper}{i b:Nat}(k:Nat){o:Oper}{e:TypeId}{x y z:Operand}{r off len n:Nat}{rows:List (List D)}{yd:D}(z9:eY P C ops i k o b s s1)
  (hop:o.op = .store e x y)(hx:s1.ev x = .mptr r n 0)(hy:s1.ev y=yd)(hz:s1.ev z = .mrow r off len)(hr:s1.h r=some ⟨e,rows⟩)
  (hn:n=rows.length)(hl:n<off+len)(hc:yd.cells.length=P.cellsOf e)(h1:yd.cells.all D.one=true)
  (hk:av P ro ops (k+1) b { n:=s1.n,t:=s1.put o.dst (.v undef),h:=upd s1.h r (some ⟨e,rows++[yd.cells]⟩),nx:=s1.nx,ok:=True,e:=s1.e } Q):av P ro ops i b s Q:=by
 obtain⟨hik,ho,hg,he,hok,hd⟩:=z9
 subst hy
 refine kE (C:=C) k (λd h'=>d = .v undef/\h'=upd s1.h r (some ⟨e,rows++[(s1.ev y).cells]⟩)) hik ho hg (λc e=>by rw[hop]at e;cases e) he hok hd (λB g a w hst _=>?_) (λd h'⟨hy,hh⟩=>by subst hy;subst hh;exact hk)
 have hv:=bX hst z
 rw[hz]at hv
 have hp:=bX hst x
 rw[hx]at hp
 obtain⟨g',w',q1,q2,q3,q4⟩:=ZbR hst.mem hr hv hp (bX hst y) hn hl hc h1
 refine⟨_,_,⟨rfl,rfl⟩,undef,g',w',.inr ⟨?_,rfl⟩,.v _,q2,q3,λr hr=>.inl (q4 r hr)⟩
 obtain⟨od,oo,iD,op,oa,og⟩:=o
 simp only at hop
 subst hop
 simp[execOp,q1]
def CP [Glob P]{C:aS}{s s1:S}{ops:Array Oper}{i b:Nat}(k:Nat){o:Oper}(d:D)(v:Value)(hik:i<=k)(ho:ops[k]? = some o)(hg:o.guard=none)(hdef : ∀c,o.op ≠ .defer c)
  (he:aZ P (words P) C ops.toList b i ((ops.toList.drop i).take (k-i)) s=s1)(hok:s1.ok)(hd:dK s1.n o.dst=true)
  (hrun : ∀(B:dn)(g:Mem)(a:Act)(w:World),St P B s1 g a w->(execOp a.eval o).run P w = .ok (.value v) w/\ag w g d v)
  (hk:av P ro ops (k+1) b { n:=s1.n,t:=s1.put o.dst d,h:=s1.h,nx:=s1.nx,ok:=True,e:=s1.e } Q):av P ro ops i b s Q :=
 kE (C:=C) k (λd' h'=>d'=d/\h'=s1.h) hik ho hg hdef he hok hd (λB g a w hst _=>by
  obtain⟨h1,h2⟩:=hrun B g a w hst;exact⟨_,_,⟨rfl,rfl⟩,v,g,w,.inl h1,h2,hst.mem,ax.refl _ _,λr hr=>.inl hr⟩) (λd' h'⟨hy,hh⟩=>by subst hy;subst hh;exact hk)
theorem Zde [Glob P]{C:aS}{s s1:S}{ops:Array Oper}{i b:Nat}(k:Nat){o:Oper}{t e:TypeId}{x:Operand}(z9:eY P C ops i k o b s s1)
  (hop:o.op = .call { callee:=.builtin .cap,args:=#[x],argTypes:=#[t] })(ht:P.underlying t=some (.slice e))
  (hx:s1.ev x = .list true [])
  (hk:av P ro ops (k+1) b { n:=s1.n,t:=s1.put o.dst (.i 0),h:=s1.h,nx:=s1.nx,ok:=True,e:=s1.e } Q):av P ro ops i b s Q:=by
 obtain⟨hik,ho,hg,he,hok,hd⟩:=z9
 refine CP (C:=C) k (.i 0) (.int .i64 0) hik ho hg (λc e=>by rw[hop]at e;cases e) he hok hd (λB g a w hst=>?_) hk
 have hv:=bX hst x
 rw[hx]at hv
 obtain⟨ad,hv'⟩:∃ad,a.eval x = .slice ad 0 0:=by
  generalize a.eval x=v at hv
  cases hv with
  | empty full ad cap hf hm=>have:=hf rfl;subst this;exact⟨ad,rfl⟩
  | list full rows ad cap sz cv hI hlc hf hmx=>have:=hf rfl;subst this;exact⟨some ad,rfl⟩
 refine⟨?_,.v _⟩
 obtain⟨od,oo,iD,op,oa,og⟩:=o
 simp only at hop
 subst hop
 simp[Go.BigFrame.execOp_builtin,Go.BigFrame.builtin_cap,hv',Builtin.cap_,run_underlying ht,goInt]
def Zc8 [Glob P]{C:aS}{s s1:S}{ops:Array Oper}{i b:Nat}(k:Nat){o:Oper}{t e:TypeId}{x:Operand}{r off len:Nat}(z9:eY P C ops i k o b s s1)
  {t':TypeId}(hop:o.op = .binOp .eql t x (.const (.slice none 0 0)) t')(ht:P.underlying t=some (.slice e))
  (hx:s1.ev x = .mrow r off len)(h0:0<len)
  (hk:av P ro ops (k+1) b { n:=s1.n,t:=s1.put o.dst (.b false),h:=s1.h,nx:=s1.nx,ok:=True,e:=s1.e } Q):av P ro ops i b s Q:=by
 obtain⟨hik,ho,hg,he,hok,hd⟩:=z9
 refine CP (C:=C) k (.b false) (.bool false) hik ho hg (λc e=>by rw[hop]at e;cases e) he hok hd (λB g a w hst=>?_) hk
 have hv:=bX hst x
 rw[hx]at hv
 obtain⟨ad,c,hv',hp⟩:∃ad c,a.eval x = .slice (some ad) len c/\True:=by
  generalize a.eval x=v at hv
  cases hv with|mrow _ _ _ _ fM hU hvv =>
  obtain⟨a',c',e1,e2,e3⟩:=fM;obtain⟨p,rfl⟩:=e3 h0;exact⟨p,c',e1,trivial⟩
 have hrun:=Go.Lib.run_eql_slice_nil (P:=P) w t e (some ad) len c 0 0 ht
 have hc:a.eval (.const (.slice none 0 0)) = .slice none 0 0:=rfl
 refine⟨?_,.v _⟩
 obtain⟨od,oo,iD,op,oa,og⟩:=o
 simp only at hop
 subst hop
 simp[execOp,hv',hc,eqGuard,hrun]
def Env.both(E F:Env):Env:=⟨λg w=>E.p g w/\F.p g w,E.x,λP _ h g g' w w' hm k⟨h1,h2⟩=>⟨E.st P h g g' w w' hm k h1,F.st P h g g' w w' hm k h2⟩⟩
def Env.capLt(r k:Nat):Env where
 p:=λg w=>g.U r /\ ∀blk c sz,g.M r=some (blk,c,sz)->c<k
 x:=none
 st:=λP _ h g g' w w' hm q⟨h2,h3⟩=>⟨q.U r h2,λblk c' sz he=>by
  rcases q.M r h2 with e|e
  . exact h3 blk c' sz (e▸he)
  . rw[e]at he;cases he⟩
def uY(P:Program)[Glob P](f:FuncId)(args:List D)(h:H)(n:Nat)(E:Env)(R:D->H->Nat->Env->Prop):Prop :=
 dY P f=true /\ ∀(w:World)(g:Mem)(vs:List Value),HM P h g w->(∀r,g.U r->r<n)->E.p g w->aB w g args vs ->
  CallsIn Fence.wide 0 P f vs.toArray w λe w'=>∃v g' res h' n' E',R res h' n' E'/\e = .returned v/\ag w' g' res v/\HM P h' g' w'/\ax g g' w w'/\(∀r,g'.U r->r<n')/\E'.p g' w'
def Zeb [Glob P]{f:FuncId}{fn:Func}{c:Code}{args:List D}{h:H}{n:Nat}{E:Env}{R:D->H->Nat->Env->Prop}(Dz:E.x=none)(hf:P.funcs[f]? = some fn)(hb:fn.body=some c)(hbd:dY P f=true)(hn:args.length<=fn.ntmps)
  (hw:(∀r,n<=r->h r=none)->DW P none c (λe s=>(e = .normal\/e = .ret)/\qh P s fn.results.toList /\ ∃h' n',(∀r,h' r=s.h r\/h' r=none)/\s.nx<=n' /\ ∃E':Env,(∀g w w2,s.e.p g w->E'.p g w2)/\R (rO P fn.results.toList s) h' n' E') { n:=fn.ntmps,t:=λi=>args.getD i .junk,h:=h,nx:=n,e:=E }):uY P f args h n E R:=by
 refine⟨hbd,λw g vs hm hU hE hr=>?_⟩
 have hs:=zR (P:=P) (n:=fn.ntmps) hr hn hm (nx:=n)
 have hs:St P (dn.of w.heap.size) { n:=fn.ntmps,t:=λi=>args.getD i .junk,h:=h,nx:=n,e:=E } g _ w:=⟨hs.sz,hs.tm,hs.mem,hs.df,hE,hs.bd⟩
 refine callsIn_of_wp_marks (n:=0) hf hb trivial (wpIn_mono (F:=Fence.wide) (hw (Bh hm hU) (dn.of w.heap.size) g _ w hs hU) ?_)
 rintro e a' w' ⟨s',g',⟨he,ho,h',n',hh,hn',E',hE',hR⟩,hs',hm',iZ,hx'⟩
 rw[show({ n:=fn.ntmps,t:=λi=>args.getD i .junk,h:=h,nx:=n,e:=E }:S).e.x=none from Dz]at hm'
 have hm':=hm'.out
 have hlast:LeavesInM Fence.wide 0 P fn a'.tmps (λe w'=>∃v g' res h' n' E',R res h' n' E'/\e = .returned v/\ag w' g' res v/\HM P h' g' w'/\ax g g' w w'/\(∀r,g'.U r->r<n')/\E'.p g' w') a'.defers .returning w':=by
  refine Ja (P:=P) a'.defers w' hs'.df.marks λw2 e0 e1 e2 e3 e4 e5 e6 e7=>?_
  have hs2:=hs'.marks e4 e6 e7;obtain⟨v,h1,h2⟩:=CW (fn:=fn) hs2 ho;have vF:ax g g' w w2:=by
   refine⟨by rw[e1,hm'.os],by rw[e2,hm'.tape],by rw[e3,hm'.output],by rw[e4];exact hm'.size,by rw[e0];exact hm'.drawn,hm'.U,hm'.M,hm'.new,hm'.I,hm'.inew,λk hk hne=>?_⟩
   rw[e5 k hk];exact hm'.same k hk hne
  exact⟨v,h1,v,g'.only h',_,h',n',E',hR,rfl,h2.only,hs2.mem.only hh,vF.trans vD,λr hr=>YD (iZ r hr) hn',E'.st P _ _ _ _ _ hs2.mem vD (hE' _ _ _ hs'.en)⟩
 rcases he with rfl|rfl<;>exact hlast
def Zea [Glob P]{C:aS}{f:FuncId}{fn:Func}{args:List D}{h:H}{n:Nat}{E:Env}{R:D->H->Nat->Prop}{id0:Nat}{gH:Array Oper}{id:Nat}{ops:Array Oper}{y:Code}(Dz:E.x=none)(k:Nat){o:Oper}{fop:Operand}{ts:Array TypeId}{aX:FuncId}{aD:List D}{s0 s1:S}
  (hf:P.funcs[f]? = some fn)(hb:fn.body=some (.seq (.region id0 gH false) (.seq (.region id ops false) y)))(hbd:dY P f=true)(hn:args.length<=fn.ntmps)
  (Nk : ∀o∈gH.toList,o.guard=none)(he0:aZ P (words P) C gH.toList n 0 gH.toList { n:=fn.ntmps,t:=λi=>args.getD i .junk,h:=h,nx:=n+gH.size,e:=Env.tt }=s0)(hok0:s0.ok)
  (ho:ops[k]? = some o)(hg:o.guard=none)(hop:o.op = .defer { callee:=.value fop,args:=#[],argTypes:=ts })(hgn : ∀o∈ops.toList.take k,o.guard=none)
  (he:aZ P (words P) C ops.toList (n+gH.size) 0 (ops.toList.take k) { n:=s0.n,t:=s0.t,h:=s0.h,nx:=n+gH.size+ops.size,e:=E }=s1)(hok:s1.ok)(hd:dK s1.n o.dst=true)(yx:s1.ev fop = .fn (.func aX) [] aD)
  (hw:(∀r,n<=r->h r=none)->av P none ops (k+1) (n+gH.size) { n:=s1.n,t:=s1.put o.dst .junk,h:=s1.h,nx:=s1.nx,ok:=True,e:=s1.e } (thenS (DW P none y (Cw P fn aX aD R)) (Cw P fn aX aD R))):uY P f args h n E (λd h' n' E'=>E'=Env.tt/\R d h' n'):=by
 refine⟨hbd,λw g vs hm hU hE hr=>?_⟩
 refine CallsIn.mono (callsIn_of_wp_marks (R:=λe w'=>∃v g' res h' n',R res h' n'/\e = .returned v/\ag w' g' res v/\HM P h' g' w'/\ax g g' w w' /\ ∀r,g'.U r->r<n') (n:=0) hf hb trivial (wpIn_seq (wpIn_region ?_))) (λe w'⟨v,g',res,h',n',q1,q2,q3,q4,q5,q6⟩=>⟨v,g',res,h',n',Env.tt,⟨rfl,q1⟩,q2,q3,q4,q5,q6,trivial⟩)
 have hs:=zR (P:=P) (n:=fn.ntmps) hr hn hm (nx:=n+gH.size)
 have hrg:List.range gH.size=List.range' 0 gH.size++[]:=by rw[Yv,Ze]
 rw[hrg]
 have e0:(gH.toList.drop 0).take gH.size=gH.toList:=by rw[X6];exact Yl (by simp)
 refine NV (ro:=none) (C:=C) (b:=n) gH.size 0 _ g _ w hs (ax.refl _ _) (λr hr=>by have:=hU r hr;omega) (by omega) (by rw[e0];exact Nk) (by rw[e0];exact he0▸hok0) λg1 a1 w1 hs1 hm1 eH hdf=>?_
 rw[e0]at hs1
 have hs1:St P (dn.of w.heap.size) s0 g1 a1 w1:=he0▸hs1
 have hnx:s0.nx=n+gH.size:=by rw[<-he0];exact NW _ _ _ _ _
 rw[<-hnx]at he hw
 exact Wv (C:=C) (E:=E) k ho hg hop hgn Dz (Env.later hm hm1 hE) he hok hd yx (hw (Bh hm hU)) hs1 hm1 (λr hr=>by rw[hnx];have:=eH r hr;omega) hdf
section
variable [Glob P] {C : aS} {s s1 : S} {ops : Array Oper} {i b : Nat}
def Zdi(k:Nat){o:Oper}{f:Operand}{args:Array Operand}{ts:Array TypeId}{aX:FuncId}{first aD xs:List D}{E:Env}(R:D->H->Nat->Env->Prop)(hik:i<=k)
  (ho:ops[k]? = some o)(hop:o.op = .call { callee:=.value f,args:=args,argTypes:=ts })(hg:o.guard=none)
  (he:aZ P (words P) C ops.toList b i ((ops.toList.drop i).take (k-i)) s=s1)(hok:s1.ok)(hd:dK s1.n o.dst=true)
  (hf:s1.ev f = .fn (.func aX) first aD)(hxg:(args.toList.map s1.ev).all sg=true)(hx:(args.toList.map s1.ev).map sd=xs)(hct:uY P aX (first++xs++aD) s1.h (b+k) E R)(hE : ∀g w,s1.e.p g w->E.p g w)
  (hk : ∀res h' n' E',R res h' n' E'->av P ro ops (k+1) n' { n:=s1.n,t:=s1.put o.dst res,h:=h',nx:=n'+ops.size,ok:=True,e:=Env.both s1.e E' } Q):av P ro ops i b s Q:=by
 intro B g0 g a w0 w hs hm hU
 have hlt:k<ops.size:=(Yk.1 ho).1
 have hr:List.range' i (ops.size-i)=List.range' i (k-i)++(k::List.range' (k+1) (ops.size-(k+1))):=by
  have:ops.size-i=(k-i)+((ops.size-(k+1))+1):=by omega
  rw[this,<-Zl,Y9];have e1:i+(k-i)=k:=by omega
  rw[e1]
 rw[hr]
 refine uM (C:=C) (b:=b) (k-i) i s g a w hs hm hU (by omega) o6a λg1 a1 w1 hs1 hm1 eH=>?_
 rw[he]at hs1
 have eH : ∀r,g1.U r->r<b+k:=λr hr=>by have:=eH r hr;omega
 have hse:s1.e=s.e:=by rw[<-he];exact uO _ _ _ _ _
 rw[wpOpsIn_cons]
 unfold wpOpIn
 rw[ho]
 simp only
 have hw:Region.wanted o (yielded ops a1.tmps)=true:=by simp[Region.wanted,hg]
 rw[X3 hw]
 have hdef : ∀c,o.op ≠ .defer c:=by intro c e;rw[e]at hop;cases hop
 have j6:o.semAt (Fw ro).round a1.eval=execOp a1.eval o:=Oper.semAt_eq _ _ _ hdef
 refine⟨λ_ _=>trivial,?_⟩
 rw[j6]
 obtain⟨hbd,hct⟩:=hct
 have hfr:=bX hs1 f
 rw[hf]at hfr
 have fQ:=wC (vV hs1 args.toList) hxg
 rw[hx]at fQ
 generalize hv:a1.eval f=vf at hfr
 cases hfr with|fn _ _ _ fs cs l1 l2 r1 r2 =>
 have hrun:(execOp a1.eval o).run P w1 = .ok (.enter aX (fs++args.map a1.eval++cs)) w1:=by
  simp[execOp,hop,resolve,Deferred.ofValue,hv,invoke,vY hbd]
 rw[hrun,Oper.uponIn_enter]
 have e:fs++args.map a1.eval++cs=(fs.toList++args.toList.map a1.eval++cs.toList).toArray:=by apply Zq;simp
 rw[e]
 refine⟨λh=>by simp[Fw,Fence.wide]at h,yO ((hct w1 g1 _ hs1.mem eH (hE _ _ hs1.en) (aB.append (aB.append ⟨by simpa using l1,λi d x h1 h2=>r1 i d x h1 (by simpa using h2)⟩ fQ) ⟨by simpa using l2,λi d x h1 h2=>r2 i d x h1 (by simpa using h2)⟩)).mono ?_)⟩
 rintro e w' ⟨v,g',res,h',n',E',hR,rfl,q1,q2,q3,q4,q5⟩
 have hs2:=mI hs1 q3 q2 hd q1 True
 have:=hk res h' n' E' hR B g0 g' (a1.put o.dst v) w0 w' ⟨hs2.sz,hs2.tm,hs2.mem,hs2.df,⟨hs2.en,q5⟩,hs2.bd⟩ (hm1.trans q3) (λr hr=>by have:=q4 r hr;omega)
 rw[show(Env.both s1.e E').x=s.e.x by rw[<-hse];rfl]at this
 exact this
def JW{A B:Prop}{Hs:H->Prop}{Ns:Nat->Prop}{Es:Env->Prop}{R:H->Nat->Env->Prop}{n':Nat}(h':H)(E':Env)(hE:Es E')(hn:Ns n':=by first|exact XX _|omega)(hr:R h' n' E':=by(try simp only[go_sem,ff]);all_goals simp)(hh:Hs h':=by exact λ_=>.inl rfl)
  (ha:A:=by first|exact .inr rfl|exact .inl rfl|trivial|simp)(hb:B:=by simp only[go_sem,ff]):A/\B /\ ∃h' n',Hs h'/\Ns n' /\ ∃E',Es E'/\R h' n' E':=⟨ha,hb,h',n',hh,hn,E',hE,hr⟩
def ZiK{c:Code}{E:Env}{r k m:Nat}{e:TypeId}{rows:List (List D)}{t:Nat->D}{h:H}{n nx:Nat}{ok:Prop}(hr:h r=some ⟨e,rows⟩)(hE : ∀g w,E.p g w->(Env.capLt r k).p g w)
  (h0:m<k->DW P ro c Q ⟨n,t,h,nx,ok,Env.lim E r m⟩):DW P ro c Q ⟨n,t,h,nx,ok,Env.lim E r m⟩:=by
 intro B g a w hs hU
 obtain⟨blk,c0,h1,_⟩:=hs.mem.blk r _ hr
 have h2:=hs.en.2.2 _ _ _ h1
 have h3:=(hE g w hs.en.1).2 _ _ _ h1
 exact h0 om B g a w hs hU
def Ob{c:Code}{r:Nat}{e:TypeId}{rows:List (List D)}(k:Nat)(hr:s.h r=some ⟨e,rows⟩)(h:DW P ro c Q { n:=s.n,t:=s.t,h:=upd s.h r (some ⟨e,rows.take k⟩),nx:=s.nx,ok:=s.ok,e:=s.e }):DW P ro c Q s :=
 λB g a w hs hU=>h B g a w ⟨hs.sz,hs.tm,hs.mem.shrink hr k,hs.df,hs.en,hs.bd⟩ hU
end
theorem Zkx [Glob P]{h:H}{g:Mem}{w:World}(hm:HM P h g w){t u e:TypeId}{kk:IntKind}{m b:Nat}(hb : ¬g.U b)(ht:P.underlying t=some (.slice e))(hu:P.underlying u=some (.int kk))(hp:0<P.cellsOf e)
  (hz:eQ P e=true)(h1z:(zeroCells P e).all D.one=true)(hdef:(zeroCells P e).length=P.cellsOf e)(hm0:0<m)(hby:m*P.bytesOf e<=140737488355328)(h63:m<=4611686018427387904)(ty:TypeId) :
  ∃v g' w',(Builtin.append_ #[t,u] ty #[.slice none 0 0,.int .i64 m]).run P w = .ok v w'/\ag w' g' (.mrow b 0 m) v/\HM P (upd h b (some ⟨e,List.replicate m (zeroCells P e)⟩)) g' w'/\ax g g' w w' /\ ∀q,g'.U q->g.U q\/q=b:=by
 obtain⟨i,hi,hs⟩:=wY hp
 have hz':=hz
 unfold eQ at hz'
 cases hzz:i.zero with
 | none=>simp[hi,hzz]at hz'
 | some z =>
 simp only[hi,hzz,Option.bind_some,YB]at hz'
 have FU:i.bytes=P.bytesOf e:=by simp[Program.bytesOf,hi]
 have hrep:RowsIn w g (P.cellsOf e) (List.replicate m (zeroCells P e)) (Builtin.zeroCells z.cells m).toList:=by
  refine⟨by simp[size_zeroCells,hz'],λj row hj=>?_⟩
  obtain⟨hjl,FL⟩:=X7.1 hj;simp only[List.length_replicate]at hjl;simp only[List.getElem_replicate]at FL;subst FL;refine⟨hdef,λq d hq=>?_⟩
  obtain⟨hrz,hone,hcl⟩:=Av (P:=P) hi hzz w g h1z;have FC:q<P.cellsOf e:=by have:=(X7.1 hq).1;omega
  refine⟨z.cells[q]!,?_,?_,?_⟩
  . simp only[Zc];have hlt:=zT hjl FC;unfold Builtin.zeroCells;simp only[Array.getElem?_map,hz'];rw[Array.getElem?_range,X3 hlt];simp only[YX];rw[ZE,Z4,ZB FC]
  .
   have hq':q<z.cells.size:=by omega
   rw[getElem!_pos z.cells q hq'];exact hone _ (by simp)
  have hq':q<z.cells.size:=by omega
  rw[getElem!_pos z.cells q hq'];exact hrz.2 q d _ hq (by simp[hq'])
 have hge:=grownCap_ge w m 0 e
 obtain⟨g',k1,k2,k3,k4⟩:=Jz (h':=upd h b (some ⟨e,List.replicate m (zeroCells P e)⟩)) hm hb hrep hp hz' (bN _ _ _) (λr hr=>.inl (aK _ _ _ _ hr)) (grownCap w m 0 e) (by rw[List.length_replicate];exact hge) (by omega)
  (grownCap_le_maxLen _ _ _ _ o5q)
 rw[List.length_replicate]at k1 k2 k3
 have hap:(Builtin.append_ #[t,u] ty #[.slice none 0 0,.int .i64 m]).run P w = .ok (.slice (some ⟨w.heap.size,0,none⟩) m (grownCap w m 0 e))
   (w.drew.alloc (.cells ((Builtin.zeroCells z.cells m).toList.toArray++Builtin.zeroCells z.cells (grownCap w m 0 e-m)) e)):=by
  have e1 : ¬(m<=0):=by omega
  have e1':m≠0:=by omega
  have e2:IntKind.i64.wrap (m:Int)=m:=by rw[IntKind.wrap_i64];omega
  have e3 : ¬((m:Int)<0):=by omega
  have e4 : ¬(281474976710656<(m:Int)*(i.bytes:Int)):=by
   rw[FU];have e9:((m*P.bytesOf e:Nat):Int)=(m:Int)*(P.bytesOf e:Int):=by simp
   omega
  have e5 : ¬(9223372036854775807<(m:Int)):=by omega
  have h48 : ¬(281474976710656<Builtin.nextslicecap m 0*i.bytes):=by have:=growslice_fits (need:=m) (old:=0) (bytes:=i.bytes) hm0 (by rw[FU];exact hby);omega
  have e6 : ¬(m*P.cellsOf e=0):=by
   intro h
   rcases Nat.mul_eq_zero.1 h with h|h<;>omega
  have e7 : ¬(m*i.size=0):=by rw[hs];exact e6
  simp[Builtin.append_,run_underlying ht,run_underlying hu,sizeOf,typeInfo,zeroValue,hi,hzz,asInt,asIntOf,e1,e1',e2,e3,e4,e5,e7,h48,Question.forced,run_firstCells_none,newRow,grownCap]
 exact⟨_,g',_,hap,k1,k2,k3,k4⟩
section
variable [Glob P] {C : aS} {s s1 : S} {ops : Array Oper} {i b : Nat}
def Zdl(k:Nat){o:Oper}{t u e:TypeId}{kk:IntKind}{y:Operand}{m:Nat}(z9:eY P C ops i k o b s s1)
  (hop:o.op = .call { callee:=.builtin .append,args:=#[.const (.slice none 0 0),y],argTypes:=#[t,u] })(ht:P.underlying t=some (.slice e))(hu:P.underlying u=some (.int kk))(hp:0<P.cellsOf e)(hz:eQ P e=true)(h1z:(zeroCells P e).all D.one=true)(hdef:(zeroCells P e).length=P.cellsOf e)
  (hy:s1.ev y = .i m)(hm0:0<m)(hby:m*P.bytesOf e<=140737488355328)(h63:m<=4611686018427387904)
  (hk:av P ro ops (k+1) b { n:=s1.n,t:=s1.put o.dst (.mrow (b+k) 0 m),h:=upd s1.h (b+k) (some ⟨e,List.replicate m (zeroCells P e)⟩),nx:=s1.nx,ok:=True,e:=s1.e } Q):av P ro ops i b s Q:=by
 obtain⟨hik,ho,hg,he,hok,hd⟩:=z9
 refine kE (C:=C) k (λd h'=>d = .mrow (b+k) 0 m/\h'=upd s1.h (b+k) (some ⟨e,List.replicate m (zeroCells P e)⟩)) hik ho hg (λc e=>by rw[hop]at e;cases e) he hok hd (λB g a w hst hbk=>?_) (λd h'⟨hy,hh⟩=>by subst hy;subst hh;exact hk)
 have nK:=bX hst y
 rw[hy]at nK
 have nK:=nK.v_inv
 obtain⟨v,g',w',q1,q2,q3,q4,q5⟩:=Zkx hst.mem hbk ht hu hp hz h1z hdef hm0 hby h63 o.type
 refine⟨_,_,⟨rfl,rfl⟩,v,g',w',.inl ?_,q2,q3,q4,q5⟩
 have hc:a.eval (.const (.slice none 0 0)) = .slice none 0 0:=rfl
 obtain⟨od,oo,iD,op,oa,og⟩:=o
 simp only at hop
 subst hop
 simp[Go.BigFrame.execOp_builtin,Go.BigFrame.builtin_append,nK,hc,q1]
def Zc1(k:Nat){o:Oper}{t e:TypeId}{x hi:Operand}{r off len m:Nat}{rows:List (List D)}(z9:eY P C ops i k o b s s1)
  (hop:o.op = .slice t x none (some hi) none)(ht:P.underlying t=some (.slice e))
  (hx:s1.ev x = .mrow r off len)(hh:s1.ev hi = .i m)(hr:s1.h r=some ⟨e,rows⟩)(h0:0<m)(hl:off+m<=rows.length)
  (hk:av P ro ops (k+1) b { n:=s1.n,t:=s1.put o.dst (.mrow r off m),h:=s1.h,nx:=s1.nx,ok:=True,e:=s1.e } Q):av P ro ops i b s Q:=by
 obtain⟨hik,ho,hg,he,hok,hd⟩:=z9
 refine kE (C:=C) k (λd h'=>d = .mrow r off m/\h'=s1.h) hik ho hg (λc e=>by rw[hop]at e;cases e) he hok hd (λB g a w hst _=>?_) (λd h'⟨hy,hh⟩=>by subst hy;subst hh;exact hk)
 have hv:=bX hst x
 rw[hx]at hv
 have qJ:=(bX hst hi)
 rw[hh]at qJ
 have qJ:=qJ.v_inv
 obtain⟨blk,c0,h1,h2,h3,h4,h5⟩:=hst.mem.blk r _ hr
 simp only at h2 h3
 generalize uF:a.eval x=v at hv
 cases hv with|mrow _ _ _ _ fM hU hvv =>
 obtain⟨p1,p2⟩:=hvv _ _ _ h1
 rcases p2 with⟨e0,_⟩|⟨e0,b0,rfl,rfl⟩
 . omega
 have r2:=ng (P:=P) (o:=some (.i m)) (vo:=some (a.eval hi)) (d:=len) (y:=c0-off) (w:=w) (g:=g) (by rw[qJ];exact .v _) rfl (by simp[bnd]) o5u (if true then .sliceAcap else .sliceAlen)
 have r1:=ng (P:=P) (o:=none) (vo:=none) (d:=0) (y:=(bnd (some (.i m)) len).toNat) (w:=w) (g:=g) trivial rfl (by simp[bnd]) (by simp[bnd]) .sliceB
 have hrun:=AL ht h2 (a:=some ⟨b0,off*P.cellsOf e,none⟩) (len:=len) (vm:=none) (D9 (P:=P) (len:=len) r2 r1)
 have hz : ¬(c0-off=0):=by omega
 simp only[bnd,Int.toNat_natCast,hz,Za,Nat.zero_mul,Nat.sub_zero,YX,pO,Zu]at hrun
 have hmc:m<=c0-off:=by omega
 refine⟨_,_,⟨rfl,rfl⟩,.slice (some ⟨b0,off*P.cellsOf e,none⟩) m (c0-off),g,w,.inl ?_,.mrow r off m _ ⟨_,_,rfl,hmc,λ_=>⟨_,rfl⟩⟩ hU λblk c' sz hq=>?_,hst.mem,ax.refl _ _,λr hr=>.inl hr⟩
 .
  obtain⟨od,oo,iD,op,oa,og⟩:=o;simp only at hop;subst hop
  simp[execOp,uF,hrun]
 rw[h1]at hq
 simp only[Yf,YK]at hq
 obtain⟨rfl,rfl,rfl⟩:=hq
 exact⟨om,.inr ⟨e0,b0,rfl,rfl⟩⟩
end
def Zdz{t:TypeId}{ms:Array (String×TypeId)}(ht:P.underlying t=some (.interface ms))(w:World):(Op.equal t .nilIface .nilIface).run P w = .ok true w /\ ∀T v,(Op.equal t (.iface T v) .nilIface).run P w = .ok false w/\(Op.equal t .nilIface (.iface T v)).run P w = .ok false w:=by
 have k1 : ∀d:Nat,(Op.equalIn (d+1) t .nilIface .nilIface).run P w = .ok true w:=λd=>by simp[Op.equalIn,run_underlying ht]
 have k2 : ∀(d:Nat)T v,(Op.equalIn (d+1) t (.iface T v) .nilIface).run P w = .ok false w:=λd T v=>by simp[Op.equalIn,run_underlying ht]
 have k3 : ∀(d:Nat)T v,(Op.equalIn (d+1) t .nilIface (.iface T v)).run P w = .ok false w:=λd T v=>by simp[Op.equalIn,run_underlying ht]
 exact⟨by simp[Op.equal,Op.maxDepth,k1 9999],λT v=>⟨by simp[Op.equal,Op.maxDepth,k2 9999],by simp[Op.equal,Op.maxDepth,k3 9999]⟩⟩
def Zda [Glob P]{C:aS}{s s1:S}{ops:Array Oper}{i b:Nat}(k:Nat){o:Oper}{t t':TypeId}{ms:Array (String×TypeId)}{bo:BinOp}{x:Operand}{v:Value}(y:Bool)(z9:eY P C ops i k o b s s1)
  (hop:o.op = .binOp bo t x (.const .nilIface) t')(ht:P.underlying t=some (.interface ms))(hbo:bo = .eql\/bo = .neq)
  (hx:s1.ev x = .v v)(hv:(v = .nilIface/\y=true)\/(∃T u,v = .iface T u)/\y=false)
  (hk:av P ro ops (k+1) b { n:=s1.n,t:=s1.put o.dst (.b (if bo = .eql then y else !y)),h:=s1.h,nx:=s1.nx,ok:=True,e:=s1.e } Q):av P ro ops i b s Q:=by
 obtain⟨hik,ho,hg,he,hok,hd⟩:=z9
 refine CP (C:=C) k (.b (if bo = .eql then y else !y)) (.bool (if bo = .eql then y else !y)) hik ho hg (λc e=>by rw[hop]at e;cases e) he hok hd (λB g a w hst=>?_) hk
 have hr:=bX hst x
 rw[hx]at hr
 have hr:=hr.v_inv
 have hc:a.eval (.const .nilIface) = .nilIface:=rfl
 obtain⟨h1,h2⟩:=Zdz (P:=P) ht w
 refine⟨?_,.v _⟩
 obtain⟨od,oo,iD,op,oa,og⟩:=o
 simp only at hop
 subst hop
 rcases hv with⟨rfl,rfl⟩|⟨⟨T,u,rfl⟩,rfl⟩
 . rcases hbo with rfl|rfl<;>simp[execOp,hr,hc,eqGuard,binOp,h1]
 obtain⟨h3,_⟩:=h2 T u
 rcases hbo with rfl|rfl<;>simp[execOp,hr,hc,eqGuard,binOp,h3]
def Zdg [Glob P]{C:aS}{s s1:S}{ops:Array Oper}{i b:Nat}(k:Nat){o:Oper}{t e:TypeId}{x:Operand}{r off len kk:Nat}{rows:List (List D)}(z9:eY P C ops i k o b s s1)
  (hop:o.op = .call { callee:=.builtin .cap,args:=#[x],argTypes:=#[t] })(ht:P.underlying t=some (.slice e))(hE : ∀g w,s1.e.p g w->(Env.capLt r kk).p g w)
  (hx:s1.ev x = .mrow r off len)(hr:s1.h r=some ⟨e,rows⟩)
  (hk : ∀c:Nat,len<=c->off+c<kk->av P ro ops (k+1) b { n:=s1.n,t:=s1.put o.dst (.i c),h:=s1.h,nx:=s1.nx,ok:=True,e:=Env.lim s1.e r (off+c) } Q):av P ro ops i b s Q:=by
 obtain⟨hik,ho,hg,he,hok,hd⟩:=z9
 refine Q6 (C:=C) k (λd h' E=>∃c:Nat,d = .i c/\h'=s1.h/\E=Env.lim s1.e r (off+c)/\len<=c/\off+c<kk) hik ho hg (λc e=>by rw[hop]at e;cases e) he hok hd (λB g a w hst _=>?_) (λd h' E⟨c,h1,h2,h3,h4,h5⟩=>by subst h1;subst h2;subst h3;exact hk c h4 h5)
 have hv:=bX hst x
 rw[hx]at hv
 obtain⟨blk,c0,h1,h2,h3,h4,h5⟩:=hst.mem.blk r _ hr
 have hb:=(hE g w hst.en).2 _ _ _ h1
 have key : ∃(ad:Option Addr)(c:Nat),a.eval x = .slice ad len c/\len<=c/\c0=off+c/\g.U r:=by
  generalize a.eval x=v at hv
  cases hv with|mrow _ _ _ _ fM hU hvv =>
  obtain⟨p1,p2⟩:=hvv _ _ _ h1;obtain⟨a',c',e1,e2,_⟩:=fM
  rcases p2 with⟨e0,a,rfl⟩|⟨e0,b0,rfl,rfl⟩
  .
   cases e1
   exact⟨a',0,rfl,om,om,hU⟩
  cases e1
  exact⟨_,_,rfl,e2,om,hU⟩
 obtain⟨ad,c,k1,k2,k4,k5⟩:=key
 refine⟨_,_,_,.int .i64 c,g,w,⟨c,rfl,rfl,rfl,k2,om⟩,rfl,?_,.v _,hst.mem,ax.refl _ _,λr hr=>.inl hr,hst.en,k5,λblk c' sz hq=>?_⟩
 .
  obtain⟨od,oo,iD,op,oa,og⟩:=o;simp only at hop;subst hop
  simp[Go.BigFrame.execOp_builtin,Go.BigFrame.builtin_cap,k1,Builtin.cap_,run_underlying ht,goInt]
 rw[h1]at hq
 simp only[Yf,YK]at hq
 obtain⟨rfl,rfl,rfl⟩:=hq
 exact k4
def Zdf [Glob P]{C:aS}{s s1:S}{ops:Array Oper}{i b:Nat}(k:Nat){o:Oper}{t e:TypeId}{x:Operand}{r off len c0:Nat}{E:Env}{rows:List (List D)}(z9:eY P C ops i k o b s s1)
  (hop:o.op = .call { callee:=.builtin .cap,args:=#[x],argTypes:=#[t] })(ht:P.underlying t=some (.slice e))(hE:s1.e=Env.lim E r c0)
  (hx:s1.ev x = .mrow r off len)(hr:s1.h r=some ⟨e,rows⟩)
  (hk:av P ro ops (k+1) b { n:=s1.n,t:=s1.put o.dst (.i (c0-off:Nat)),h:=s1.h,nx:=s1.nx,ok:=True,e:=s1.e } Q):av P ro ops i b s Q:=by
 obtain⟨hik,ho,hg,he,hok,hd⟩:=z9
 refine CP (C:=C) k (.i (c0-off:Nat)) (.int .i64 (c0-off:Nat)) hik ho hg (λc e=>by rw[hop]at e;cases e) he hok hd (λB g a w hst=>?_) hk
 have hv:=bX hst x
 rw[hx]at hv
 obtain⟨blk,c1,h1,h2,h3,h4,h5⟩:=hst.mem.blk r _ hr
 have hen:=hst.en
 rw[hE]at hen
 have hc:=hen.2.2 _ _ _ h1
 subst hc
 have key : ∃(ad:Option Addr),a.eval x = .slice ad len (c1-off):=by
  generalize a.eval x=v at hv
  cases hv with|mrow _ _ _ _ fM hU hvv =>
  obtain⟨p1,p2⟩:=hvv _ _ _ h1;obtain⟨a',c',e1,e2,_⟩:=fM
  rcases p2 with⟨e0,a,rfl⟩|⟨e0,b0,rfl,rfl⟩
  .
   cases e1
   exact⟨a',by congr 1;omega⟩
  exact⟨_,rfl⟩
 obtain⟨ad,k1⟩:=key
 refine⟨?_,.v _⟩
 obtain⟨od,oo,iD,op,oa,og⟩:=o
 simp only at hop
 subst hop
 simp[Go.BigFrame.execOp_builtin,Go.BigFrame.builtin_cap,k1,Builtin.cap_,run_underlying ht,goInt]
def ZfR [Glob P]{h:H}{g:Mem}{w:World}(hm:HM P h g w){b:Nat}(hb : ¬g.U b){t e:TypeId}{k k':IntKind}{n m:Nat}(ht:P.underlying t=some (.slice e))(c0:0<n)(c1:n<=m)(c2:P.bytesOf e*(m:Int)<=281474976710656)(c3:(m:Int)<=9223372036854775807)(c4:eQ P e=true)(c5:(zeroCells P e).length=P.cellsOf e)(c6:(zeroCells P e).all D.one=true)(c7:0<P.cellsOf e) :
  ∃v g' w',(Instr.makeSlice t (.int k n) (.int k' m)).run P w = .ok v w'/\ag w' g' (.mrow b 0 n) v/\HM P (upd h b (some ⟨e,List.replicate m (zeroCells P e)⟩)) g' w'/\ax g g' w w' /\ ∀r,g'.U r->g.U r\/r=b:=by
 obtain⟨i,hi,hs⟩:=wY c7
 obtain⟨i',z,hi',hz⟩:=G7 (P:=P) (t:=e) om
 rw[hi]at hi'
 cases hi'
 obtain⟨z1,z2,z3⟩:=Av hi hz w g c6
 have hby:(i.bytes:Int)*m<=281474976710656:=by
  have:P.bytesOf e=i.bytes:=by simp[Program.bytesOf,hi]
  rw[<-this];exact c2
 have hrun:=run_make (P:=P) w t e i z ht hi hz k k' n m (by omega) (by omega) hby c3
 have hzs:z.cells.size=P.cellsOf e:=by omega
 rw[hs,<-hzs]at hrun
 simp only[Int.toNat_natCast]at hrun
 obtain⟨g',h2,h3,h4,h5,h6⟩:=hm.put (h':=upd h b (some ⟨e,List.replicate m (zeroCells P e)⟩)) (w':=w.alloc (.cells (madeCells z.cells (m*z.cells.size)) e)) b w.heap.size m ⟨e,List.replicate m (zeroCells P e)⟩ (madeCells z.cells (m*z.cells.size)) (.inl hb) (bN _ _ _)
  (λr hr=>.inl (aK _ _ _ _ hr)) (.inl (XX _)) (heap_alloc_new w _) (by rw[size_madeCells,hzs]) c7 (by simp) o5q
  (by
   intro p row hp;have hpl:p<m:=by have:=(X7.1 hp).1;simpa using this
   rw[List.getElem?_replicate,X3 hpl]at hp
   cases hp
   refine⟨c5,λj d hj=>?_⟩
   have hjl:j<z.cells.size:=by have:=(X7.1 hj).1;omega
   refine⟨z.cells[j],?_,z2 _ (by simp),z1.2 j d _ hj (by simp[hjl])⟩
   show(madeCells z.cells (m*z.cells.size))[p*P.cellsOf e+j]? = _
   rw[<-hzs];exact TN hpl hjl)
  (World.grownBy_alloc w _ _)
 refine⟨_,g',_,hrun,?_,h5,h6,λr hr=>(h3 r).1 hr⟩
 refine .mrow b 0 n _ ⟨_,_,rfl,c1,λ_=>⟨_,rfl⟩⟩ ((h3 b).2 (.inr rfl)) λblk c sz he=>?_
 rw[h2]at he
 simp only[Yf,YK]at he
 obtain⟨rfl,rfl,rfl⟩:=he
 exact⟨⟨om,by simp only[maxLen];omega⟩,.inr ⟨om,w.heap.size,rfl,by simp⟩⟩
def Zc9 [Glob P]{C:aS}{s s1:S}{ops:Array Oper}{i b:Nat}(k:Nat){o:Oper}{t e:TypeId}{x y:Operand}{q q':IntKind}{n m:Nat}(z9:eY P C ops i k o b s s1)
  (hop:o.op = .makeSlice t x y)(ht:P.underlying t=some (.slice e))(c2:P.bytesOf e*(m:Int)<=281474976710656)(c4:eQ P e=true)(c5:(zeroCells P e).length=P.cellsOf e)(c6:(zeroCells P e).all D.one=true)(c7:0<P.cellsOf e)
  (hx:s1.ev x = .v (.int q n))(hy:s1.ev y = .v (.int q' m))(c0:0<n)(c1:n<=m)(c3:(m:Int)<=9223372036854775807)
  (hk:av P ro ops (k+1) b { n:=s1.n,t:=s1.put o.dst (.mrow (b+k) 0 n),h:=upd s1.h (b+k) (some ⟨e,List.replicate m (zeroCells P e)⟩),nx:=s1.nx,ok:=True,e:=s1.e } Q):av P ro ops i b s Q:=by
 obtain⟨hik,ho,hg,he,hok,hd⟩:=z9
 refine kE (C:=C) k (λd h'=>d = .mrow (b+k) 0 n/\h'=upd s1.h (b+k) (some ⟨e,List.replicate m (zeroCells P e)⟩)) hik ho hg (λc e=>by rw[hop]at e;cases e) he hok hd (λB g a w hst hbk=>?_) (λd h'⟨hy,hh⟩=>by subst hy;subst hh;exact hk)
 have uF:=bX hst x
 rw[hx]at uF
 have uF:=uF.v_inv
 have nK:=bX hst y
 rw[hy]at nK
 have nK:=nK.v_inv
 obtain⟨v,g',w',q1,q2,q3,q4,q5⟩:=ZfR (k:=q) (k':=q') hst.mem hbk ht c0 c1 c2 c3 c4 c5 c6 c7
 refine⟨_,_,⟨rfl,rfl⟩,v,g',w',.inl ?_,q2,q3,q4,q5⟩
 obtain⟨od,oo,iD,op,oa,og⟩:=o
 simp only at hop
 subst hop
 simp[execOp,uF,nK,q1]
theorem uY.i [Glob P]{f:FuncId}{args:List D}{h:H}{n:Nat}{E:Env}{R:D->H->Nat->Env->Prop}(k:uY P f args h n E R):Ed P f args h n E (λd h' n'=>∃E',R d h' n' E') :=
 ⟨k.1,λw g vs h1 h2 h3 h4=>(k.2 w g vs h1 h2 h3 h4).mono λ_ _⟨v,g',res,h',n',E',q1,q2,q3,q4,q5,q6,q7⟩=>⟨v,g',res,h',n',⟨E',q1⟩,q2,q3,q4,q5,q6⟩⟩
def bU.ie [Glob P]{f:FuncId}{args:List D}{h:H}{n:Nat}{R:D->H->Nat->Prop}(k:bU P f args h n R):Ed P f args h n Env.tt R:=⟨k.1,λw g vs h1 h2 _ h4=>k.2 w g vs h1 h2 h4⟩
section
variable [Glob P] (C : aS) {s s1 : S} {ops : Array Oper} {i b : Nat} {o : Oper} (k : Nat)
def NA{t e:TypeId}{x:Operand}(hk:av P ro ops (k+1) b { n:=s1.n,t:=s1.put o.dst (.i 0),h:=s1.h,nx:=s1.nx,ok:=True,e:=s1.e } Q)
  (z9:eY P C ops i k o b s s1:=by exact pos)(hop:o.op = .call { callee:=.builtin .cap,args:=#[x],argTypes:=#[t] }:=by exact rfl)(ht:P.underlying t=some (.slice e):=by kernel_rfl)
  (hx:s1.ev x = .list true []:=by simp only[go_sem,ff];first|done|exact rfl):av P ro ops i b s Q:=Zde k z9 hop ht hx hk
def gmnil{t e t':TypeId}{x:Operand}{r off len:Nat}(hk:av P ro ops (k+1) b { n:=s1.n,t:=s1.put o.dst (.b false),h:=s1.h,nx:=s1.nx,ok:=True,e:=s1.e } Q)
  (z9:eY P C ops i k o b s s1:=by exact pos)(hop:o.op = .binOp .eql t x (.const (.slice none 0 0)) t':=by exact rfl)(ht:P.underlying t=some (.slice e):=by kernel_rfl)
  (hx:s1.ev x = .mrow r off len:=by simp only[go_sem,ff];first|done|exact rfl)(h0:0<len:=by first|omega|(simp;done)|(simp;omega)):av P ro ops i b s Q:=Zc8 k z9 hop ht hx h0 hk
def ZhO{t e t':TypeId}{x:Operand}{f:Bool}{rows:List (List D)}(hk : ∀y:Bool,(y=true->rows=[])->av P ro ops (k+1) b { n:=s1.n,t:=s1.put o.dst (.b y),h:=s1.h,nx:=s1.nx,ok:=True,e:=s1.e } Q)
  (hik:i<=k:=by omega)(ho:ops[k]? = some o:=by exact dR rfl)(hg:o.guard=none:=by exact rfl)(hop:o.op = .binOp .eql t x (.const (.slice none 0 0)) t':=by exact rfl)(ht:P.underlying t=some (.slice e):=by kernel_rfl)
  (he:aZ P (words P) C ops.toList b i ((ops.toList.drop i).take (k-i)) s=s1:=by simp only[X9,X6,X5,Ye,S.put,Yq,Nat.reduceSub,go_sem,ff];first|done|exact rfl)(hok:s1.ok:=by(try simp only[go_sem,ff]);all_goals exact ok0)(hd:dK s1.n o.dst=true:=by(try simp only[go_sem,ff]);all_goals (first|done|rfl|decide|simp))(hx:s1.ev x = .list f rows:=by simp only[go_sem,ff];first|done|exact rfl):av P ro ops i b s Q:=EH k hik ho hg hop ht he hok hd hx hk
def Vi{t u e:TypeId}{x y:Operand}{r off len m:Nat}{yd:D}{rows news:List (List D)}(hk:av P ro ops (k+1) b { n:=s1.n,t:=s1.put o.dst (.i m),h:=upd s1.h r (some ⟨e,rows.take off++news++rows.drop (off+m)⟩),nx:=s1.nx,ok:=True,e:=s1.e } Q)
  (z9:eY P C ops i k o b s s1:=by exact pos)(hop:o.op = .call { callee:=.builtin .copy,args:=#[x,y],argTypes:=#[t,u] }:=by exact rfl)(ht:P.underlying t=some (.slice e):=by kernel_rfl)
  (hx:s1.ev x = .mrow r off len:=by simp only[go_sem,ff];first|done|exact rfl)(hy:s1.ev y=yd:=by simp only[go_sem,ff];first|done|exact rfl)(hr:s1.h r=some ⟨e,rows⟩:=by simp only[go_sem,ff];first|done|exact rfl)(hnw:aC yd s1.h=news:=by simp only[aC,go_sem,ff];first|done|exact rfl)(hm:bO yd=m:=by first|rfl|(simp only[bO,go_sem,ff];done)|(simp[bO];done)|(simp[bO];omega))(hl:news.length=m:=by first|(simp only[go_sem,ff];done)|(simp;done)|(simp;omega))(hs:iA P u s1.h yd=true:=by simp only[go_sem,ff])
  (hrl : ∀q∈news,q.length=P.cellsOf e:=by simp only[go_sem,ff])(h0:0<m:=by first|omega|(simp;done)|(simp;omega))(BK:m<=len:=by first|omega|(simp;done)|(simp;omega))(hlo:off<=rows.length:=by first|omega|(simp;done)|(simp;omega)):av P ro ops i b s Q:=Zdb k z9 hop ht hx hy hr hnw hm hl hs hrl h0 BK hlo hk
def F7{t u e:TypeId}{x y:Operand}{xd yd:D}(hk:av P ro ops (k+1) b { n:=s1.n,t:=s1.put o.dst (.i 0),h:=s1.h,nx:=s1.nx,ok:=True,e:=s1.e } Q)
  (z9:eY P C ops i k o b s s1:=by exact pos)(hop:o.op = .call { callee:=.builtin .copy,args:=#[x,y],argTypes:=#[t,u] }:=by exact rfl)(ht:P.underlying t=some (.slice e):=by kernel_rfl)(hp:0<P.cellsOf e:=by exact YN (by kernel_rfl))
  (hx:s1.ev x=xd:=by simp only[go_sem,ff];first|done|exact rfl)(hy:s1.ev y=yd:=by simp only[go_sem,ff];first|done|exact rfl)(hxs:M5 xd=true:=by rfl)(hm:bO yd=0:=by first|rfl|(simp only[bO,go_sem,ff];done)|(simp[bO];done))(hl:(aC yd s1.h).length=0:=by first|rfl|(simp only[aC,go_sem,ff];done)|(simp[aC];done))(hs:iA P u s1.h yd=true:=by simp only[go_sem,ff]):av P ro ops i b s Q:=Zdc k z9 hop ht hp hx hy hxs hm hl hs hk
def ZhA{e:TypeId}{x y z:Operand}{r off len n:Nat}{rows:List (List D)}{yd:D}(hk:av P ro ops (k+1) b { n:=s1.n,t:=s1.put o.dst (.v undef),h:=upd s1.h r (some ⟨e,rows++[yd.cells]⟩),nx:=s1.nx,ok:=True,e:=s1.e } Q)
  (z9:eY P C ops i k o b s s1:=by exact pos)(hop:o.op = .store e x y:=by exact rfl)
  (hx:s1.ev x = .mptr r n 0:=by simp only[go_sem,ff];first|done|exact rfl)(hz:s1.ev z = .mrow r off len:=by simp only[go_sem,ff];first|done|exact rfl)(hy:s1.ev y=yd:=by simp only[go_sem,ff];first|done|exact rfl)(hr:s1.h r=some ⟨e,rows⟩:=by simp only[go_sem,ff];first|done|exact rfl)(hn:n=rows.length:=by first|omega|(simp;done)|(simp;omega))(hl:n<off+len:=by first|omega|(simp;done)|(simp;omega))(hc:yd.cells.length=P.cellsOf e:=by simp only[go_sem,ff])(h1:yd.cells.all D.one=true:=by rfl):av P ro ops i b s Q:=ZcY k z9 hop hx hy hz hr hn hl hc h1 hk
def Nt{t u e:TypeId}{kk:IntKind}{y:Operand}(m:Nat)(hm0:0<m)(hby:m*P.bytesOf e<=140737488355328)(h63:m<=4611686018427387904)(hk:av P ro ops (k+1) b { n:=s1.n,t:=s1.put o.dst (.mrow (b+k) 0 m),h:=upd s1.h (b+k) (some ⟨e,List.replicate m (zeroCells P e)⟩),nx:=s1.nx,ok:=True,e:=s1.e } Q)
  (z9:eY P C ops i k o b s s1:=by exact pos)(hop:o.op = .call { callee:=.builtin .append,args:=#[.const (.slice none 0 0),y],argTypes:=#[t,u] }:=by exact rfl)(ht:P.underlying t=some (.slice e):=by kernel_rfl)(hu:P.underlying u=some (.int kk):=by kernel_rfl)(hp:0<P.cellsOf e:=by exact YN (by kernel_rfl))(hz:eQ P e=true:=by kernel_rfl)(h1z:(zeroCells P e).all D.one=true:=by kernel_rfl)(hdef:(zeroCells P e).length=P.cellsOf e:=by kernel_rfl)
  (hy:s1.ev y = .i m:=by simp only[go_sem,ff];first|done|exact rfl):av P ro ops i b s Q:=Zdl k z9 hop ht hu hp hz h1z hdef hy hm0 hby h63 hk
def Vd{t e:TypeId}{x hi:Operand}{r off len:Nat}(m:Nat){rows:List (List D)}(hk:av P ro ops (k+1) b { n:=s1.n,t:=s1.put o.dst (.mrow r off m),h:=s1.h,nx:=s1.nx,ok:=True,e:=s1.e } Q)
  (z9:eY P C ops i k o b s s1:=by exact pos)(hop:o.op = .slice t x none (some hi) none:=by exact rfl)(ht:P.underlying t=some (.slice e):=by kernel_rfl)
  (hx:s1.ev x = .mrow r off len:=by simp only[go_sem,ff];first|done|exact rfl)(hh:s1.ev hi = .i m:=by simp only[go_sem,ff];first|done|exact rfl)(hr:s1.h r=some ⟨e,rows⟩:=by simp only[go_sem,ff];first|done|exact rfl)(h0:0<m:=by first|omega|(simp;done)|(simp;omega))(hl:off+m<=rows.length:=by first|omega|(simp;done)|(simp;omega)):av P ro ops i b s Q:=Zc1 k z9 hop ht hx hh hr h0 hl hk
def ZhH{t t':TypeId}{ms:Array (String×TypeId)}{bo:BinOp}{x:Operand}{v:Value}(y:Bool)(hk:av P ro ops (k+1) b { n:=s1.n,t:=s1.put o.dst (.b (if bo = .eql then y else !y)),h:=s1.h,nx:=s1.nx,ok:=True,e:=s1.e } Q)
  (hv:(v = .nilIface/\y=true)\/(∃T u,v = .iface T u)/\y=false:=by first|exact .inl ⟨rfl,rfl⟩|exact .inr ⟨⟨_,_,rfl⟩,rfl⟩)(z9:eY P C ops i k o b s s1:=by exact pos)(hop:o.op = .binOp bo t x (.const .nilIface) t':=by exact rfl)(ht:P.underlying t=some (.interface ms):=by kernel_rfl)(hbo:bo = .eql\/bo = .neq:=by first|exact .inl rfl|exact .inr rfl)
  (hx:s1.ev x = .v v:=by simp only[go_sem,ff];first|done|exact rfl):av P ro ops i b s Q:=Zda k y z9 hop ht hbo hx hv hk
def gcapE{t e:TypeId}{x:Operand}{r off len:Nat}(kk:Nat){rows:List (List D)}(hE : ∀g w,s1.e.p g w->(Env.capLt r kk).p g w)(hk : ∀c:Nat,len<=c->off+c<kk->av P ro ops (k+1) b { n:=s1.n,t:=s1.put o.dst (.i c),h:=s1.h,nx:=s1.nx,ok:=True,e:=Env.lim s1.e r (off+c) } Q)
  (z9:eY P C ops i k o b s s1:=by exact pos)(hop:o.op = .call { callee:=.builtin .cap,args:=#[x],argTypes:=#[t] }:=by exact rfl)(ht:P.underlying t=some (.slice e):=by kernel_rfl)
  (hx:s1.ev x = .mrow r off len:=by simp only[go_sem,ff];first|done|exact rfl)(hr:s1.h r=some ⟨e,rows⟩:=by simp only[go_sem,ff];first|done|exact rfl):av P ro ops i b s Q:=Zdg k z9 hop ht hE hx hr hk
def gcapQ{t e:TypeId}{x:Operand}{r off len c0:Nat}{E:Env}{rows:List (List D)}(hE:s1.e=Env.lim E r c0)(hk:av P ro ops (k+1) b { n:=s1.n,t:=s1.put o.dst (.i (c0-off:Nat)),h:=s1.h,nx:=s1.nx,ok:=True,e:=s1.e } Q)
  (z9:eY P C ops i k o b s s1:=by exact pos)(hop:o.op = .call { callee:=.builtin .cap,args:=#[x],argTypes:=#[t] }:=by exact rfl)(ht:P.underlying t=some (.slice e):=by kernel_rfl)
  (hx:s1.ev x = .mrow r off len:=by simp only[go_sem,ff];first|done|exact rfl)(hr:s1.h r=some ⟨e,rows⟩:=by simp only[go_sem,ff];first|done|exact rfl):av P ro ops i b s Q:=Zdf k z9 hop ht hE hx hr hk
def gmkC{t e:TypeId}{x y:Operand}(n m:Nat)(c0:0<n)(c1:n<=m)(c3:(m:Int)<=9223372036854775807)(c2:P.bytesOf e*(m:Int)<=281474976710656)(hk:av P ro ops (k+1) b { n:=s1.n,t:=s1.put o.dst (.mrow (b+k) 0 n),h:=upd s1.h (b+k) (some ⟨e,List.replicate m (zeroCells P e)⟩),nx:=s1.nx,ok:=True,e:=s1.e } Q)
  (z9:eY P C ops i k o b s s1:=by exact pos)(hop:o.op = .makeSlice t x y:=by exact rfl)(ht:P.underlying t=some (.slice e):=by kernel_rfl)(c4:eQ P e=true:=by kernel_rfl)(c5:(zeroCells P e).length=P.cellsOf e:=by kernel_rfl)(c6:(zeroCells P e).all D.one=true:=by kernel_rfl)(c7:0<P.cellsOf e:=by exact YN (by kernel_rfl))
  (hx:s1.ev x = .i n:=by simp only[go_sem,ff];first|done|exact rfl)(hy:s1.ev y = .i m:=by simp only[go_sem,ff];first|done|exact rfl):av P ro ops i b s Q:=Zc9 k z9 hop ht c2 c4 c5 c6 c7 hx hy c0 c1 c3 hk
end
theorem dw_to [Glob P]{c:Code}{s:S}(fx:List (Nat×D))(h2:H)(n2 nx2:Nat)(e2:Env)(h:DW P ro c Q { n:=n2,t:=tab fx,h:=h2,nx:=nx2,e:=e2 })(hfx:fx.map (λp=>s.t p.1)=fx.map Prod.snd:=by rfl)(hh:s.h=h2:=by rfl)(hn:s.n=n2:=by rfl)(hx:s.nx=nx2:=by rfl)(he:s.e=e2:=by rfl):DW P ro c Q s:=by
 subst hh
 subst hn
 subst hx
 subst he
 have key : ∀l:List (Nat×D),l.map (λp=>s.t p.1)=l.map Prod.snd -> ∀p∈l,s.t p.1=p.2:=by
  intro l
  induction l with
  | nil=>intro _ p hp;cases hp
  | cons q l ih =>
   intro e p hp;simp only[X8,Y0]at e
   rcases Ym.1 hp with rfl|hp
   . exact e.1
   exact ih e.2 p hp
 exact Oa fx s.h s.nx (λp hp=>Or.inl (key fx hfx p hp)) (λ_=>.inl rfl) (XX _) h
theorem iy{A:S->Prop}{c:List PanicEntry}{s:S}:thenS A Q (.panic c) s=Q (.panic c) s:=rfl
theorem iH{i:Nat}{c:List PanicEntry}{s:S}:OL i Q (.panic c) s=Q (.panic c) s:=rfl
def DN [Glob P]{fn:Func}{R:D->H->Nat->Prop}{X:List PanicEntry->H->Nat->Prop}{s:S}{n':Nat}{e:Exit}(he:e = .normal\/e = .ret)(h':H)(hn:s.nx<=n':=by first|exact XX _|omega)(hr:R (rO P fn.results.toList s) h' n':=by(try simp only[go_sem,ff]);all_goals simp)
  (hh : ∀r,h' r=s.h r\/h' r=none:=by exact λ_=>.inl rfl)(hb:qh P s fn.results.toList:=by simp only[go_sem,ff]):OX P fn R X e s:=by
 rcases he with rfl|rfl<;>exact⟨hb,h',n',hh,hn,hr⟩
def jy [Glob P]{fn:Func}{R:D->H->Nat->Prop}{X:List PanicEntry->H->Nat->Prop}{s:S}{n':Nat}{c:List PanicEntry}(h':H)(hx:X c h' n')(hn:s.nx<=n':=by first|exact XX _|omega)(hh : ∀r,h' r=s.h r\/h' r=none:=by exact λ_=>.inl rfl):OX P fn R X (.panic c) s:=⟨h',n',hh,hn,hx⟩
def Zc7 [Glob P]{C:aS}{s s1:S}{ops:Array Oper}{i b:Nat}(k:Nat){o:Oper}{t t':TypeId}{x y:Operand}{q:IntKind}{m n v:Int}(hv:q.wrap (m*n)=v)(z9:eY P C ops i k o b s s1)
  (hop:o.op = .binOp .mul t x y t')(hq:q.signed=false)
  (hx:s1.ev x = .v (.int q m))(hy:s1.ev y = .v (.int q n))
  (hk:av P ro ops (k+1) b { n:=s1.n,t:=s1.put o.dst (.v (.int q v)),h:=s1.h,nx:=s1.nx,ok:=True,e:=s1.e } Q):av P ro ops i b s Q:=by
 obtain⟨hik,ho,hg,he,hok,hd⟩:=z9
 refine CP (C:=C) k (.v (.int q v)) (.int q v) hik ho hg (λc e=>by rw[hop]at e;cases e) he hok hd (λB g a w hst=>?_) hk
 have h1:=bX hst x
 rw[hx]at h1
 have h1:=h1.v_inv
 have h2:=bX hst y
 rw[hy]at h2
 have h2:=h2.v_inv
 refine⟨?_,.v _⟩
 obtain⟨od,oo,iD,op,oa,og⟩:=o
 simp only at hop
 subst hop
 simp[execOp,h1,h2,eqGuard,binOp,Op.intArith,hv]
section
variable [Glob P] (C : aS) {s s1 : S} {ops : Array Oper} {i b : Nat} {o : Oper} (k : Nat)
def gmulu{t t':TypeId}{x y:Operand}{q:IntKind}{m n v:Int}(hv:q.wrap (m*n)=v)(hk:av P ro ops (k+1) b { n:=s1.n,t:=s1.put o.dst (.v (.int q v)),h:=s1.h,nx:=s1.nx,ok:=True,e:=s1.e } Q)
  (z9:eY P C ops i k o b s s1:=by exact pos)(hop:o.op = .binOp .mul t x y t':=by exact rfl)(hq:q.signed=false:=by rfl)
  (hx:s1.ev x = .v (.int q m):=by simp only[go_sem,ff];first|done|exact rfl)(hy:s1.ev y = .v (.int q n):=by simp only[go_sem,ff];first|done|exact rfl):av P ro ops i b s Q:=Zc7 k hv z9 hop hq hx hy hk
end
def Zc6 [Glob P]{C:aS}{s s1:S}{ops:Array Oper}{i b:Nat}(k:Nat){o:Oper}{x:Operand}{r j off:Nat}(hik:i<=k)(ho:ops[k]? = some o)(hg:o.guard=none)(hop:o.op = .nilCheck x)
  (he:aZ P (words P) C ops.toList b i ((ops.toList.drop i).take (k-i)) s=s1)(hok:s1.ok)(hd:dK s1.n o.dst=true)(hx:s1.ev x = .mptr r j off)
  (hk:av P ro ops (k+1) b { n:=s1.n,t:=s1.put o.dst (.mptr r j off),h:=s1.h,nx:=s1.nx,ok:=True,e:=s1.e } Q):av P ro ops i b s Q:=by
 refine kE (C:=C) k (λd' h'=>d' = .mptr r j off/\h'=s1.h) hik ho hg (λc e=>by rw[hop]at e;cases e) he hok hd (λB g a w hst _=>?_) (λd h'⟨hy,hh⟩=>by subst hy;subst hh;exact hk)
 have h1:=bX hst x
 rw[hx]at h1
 have h2:=h1
 generalize hv:a.eval x=v at h2
 cases h2 with|mptr _ _ _ _ fM _ _ =>
 obtain⟨p,rfl⟩:=fM
 refine⟨_,_,⟨rfl,rfl⟩,_,g,w,.inl ?_,h1,hst.mem,ax.refl _ _,λr hr=>.inl hr⟩
 obtain⟨od,oo,iD,op,oa,og⟩:=o
 simp only at hop
 subst hop
 simp[execOp,hv]
def ZcZ [Glob P]{C:aS}{s s1:S}{ops:Array Oper}{i b:Nat}(k:Nat){o:Oper}{t e:TypeId}{x y:Operand}{r:Nat}{c d:D}(hik:i<=k)(ho:ops[k]? = some o)(hg:o.guard=none)(hop:o.op = .store t x y)
  (he:aZ P (words P) C ops.toList b i ((ops.toList.drop i).take (k-i)) s=s1)(hok:s1.ok)(hd:dK s1.n o.dst=true)(hx:s1.ev x = .mptr r 0 0)(hy:s1.ev y=d)(hr:s1.h r=some ⟨e,[[c]]⟩)(ht:P.cellsOf t=1)(hc:d.cells=[d])(h1:d.one=true)
  (hk:av P ro ops (k+1) b { n:=s1.n,t:=s1.put o.dst (.v undef),h:=upd s1.h r (some ⟨e,[[d]]⟩),nx:=s1.nx,ok:=True,e:=s1.e } Q):av P ro ops i b s Q:=by
 have hst1:(lu P t (.mptr r 0 0) d s1.h).1=upd s1.h r (some ⟨e,[[d]]⟩):=by
  unfold lu;simp only[hr,hc];rfl
 refine kE (C:=C) k (λd' h'=>d' = .v undef/\h'=upd s1.h r (some ⟨e,[[d]]⟩)) hik ho hg (λc e=>by rw[hop]at e;cases e) he hok hd (λB g a w hst _=>?_) (λd h'⟨hy,hh⟩=>by subst hy;subst hh;exact hk)
 have q1:=bX hst x
 rw[hx]at q1
 have q2:=bX hst y
 rw[hy]at q2
 obtain⟨g',w',k1,k2,k3,k4⟩:=Qf (t:=t) hst.mem q1 q2 (by unfold lu;simp only[hr,hc];exact⟨by simp[ht],om,by simp,by simp,by simp[h1]⟩)
 rw[hst1]at k2
 refine⟨_,_,⟨rfl,rfl⟩,undef,g',w',.inr ⟨?_,rfl⟩,.v _,k2,k3,λr hr=>.inl (k4 r hr)⟩
 obtain⟨od,oo,iD,op,oa,og⟩:=o
 simp only at hop
 subst hop
 simp[execOp,k1]
section
variable [Glob P] (C : aS) {s s1 : S} {ops : Array Oper} {i b : Nat} {o : Oper} (k : Nat)
def gnilc{x:Operand}{r j off:Nat}(hk:av P ro ops (k+1) b { n:=s1.n,t:=s1.put o.dst (.mptr r j off),h:=s1.h,nx:=s1.nx,ok:=True,e:=s1.e } Q)
  (hik:i<=k:=by omega)(ho:ops[k]? = some o:=by exact dR rfl)(hg:o.guard=none:=by exact rfl)(hop:o.op = .nilCheck x:=by exact rfl)(he:aZ P (words P) C ops.toList b i ((ops.toList.drop i).take (k-i)) s=s1:=by first|rfl|(simp only[X9,X6,X5,Ye,S.put,Yq,Nat.reduceSub,go_sem,ff];first|done|exact rfl))(hok:s1.ok:=by(try simp only[go_sem,ff]);all_goals exact ok0)(hd:dK s1.n o.dst=true:=by(try simp only[go_sem,ff]);all_goals (first|done|rfl|decide|simp))(hx:s1.ev x = .mptr r j off:=by first|rfl|(simp only[go_sem,ff];first|done|exact rfl)):av P ro ops i b s Q:=Zc6 k hik ho hg hop he hok hd hx hk
def gst1{t e:TypeId}{x y:Operand}{r:Nat}{c d:D}(hk:av P ro ops (k+1) b { n:=s1.n,t:=s1.put o.dst (.v undef),h:=upd s1.h r (some ⟨e,[[d]]⟩),nx:=s1.nx,ok:=True,e:=s1.e } Q)
  (hik:i<=k:=by omega)(ho:ops[k]? = some o:=by exact dR rfl)(hg:o.guard=none:=by exact rfl)(hop:o.op = .store t x y:=by exact rfl)(he:aZ P (words P) C ops.toList b i ((ops.toList.drop i).take (k-i)) s=s1:=by first|rfl|(simp only[X9,X6,X5,Ye,S.put,Yq,Nat.reduceSub,go_sem,ff];first|done|exact rfl))(hok:s1.ok:=by(try simp only[go_sem,ff]);all_goals exact ok0)(hd:dK s1.n o.dst=true:=by(try simp only[go_sem,ff]);all_goals (first|done|rfl|decide|simp))(hx:s1.ev x = .mptr r 0 0:=by first|rfl|(simp only[go_sem,ff];first|done|exact rfl))(hy:s1.ev y=d:=by first|rfl|(simp only[go_sem,ff];first|done|exact rfl))(hr:s1.h r=some ⟨e,[[c]]⟩:=by first|(simp only[bN];done)|(simp only[go_sem,ff];first|done|exact rfl))(ht:P.cellsOf t=1:=by kernel_rfl)(hc:d.cells=[d]:=by rfl)(h1:d.one=true:=by rfl):av P ro ops i b s Q:=ZcZ k hik ho hg hop he hok hd hx hy hr ht hc h1 hk
def gend(C:aS)(hq:Q .normal s.clear)(hi:i=ops.size:=by rfl)(hok:s.ok:=by trivial)(hn:s.nx=b+ops.size:=by rfl):av P ro ops i b s Q:=by
 subst hi
 exact wH (C:=C) (XX _) (by rw[List.drop_of_length_le (by simp)];rfl) hok hn hq
end
end Go.DL
namespace Go.DL
open Go.RowKit
variable {P : Program} {C : aS} {B : dn}
def Zdj [Glob P]{C:aS}{ro:Option Nat}{Q:Exit->S->Prop}{s s1:S}{ops:Array Oper}{i b:Nat}(k:Nat){o:Oper}{p:BinOp}{t t':TypeId}{x y:Operand}{vx vy v:Value}(hv:(gT P t p vx vy).1=v)(hp:(gT P t p vx vy).2)(z9:eY P C ops i k o b s s1)
  (hop:o.op = .binOp p t x y t')
  (hx:s1.ev x = .v vx)(hy:s1.ev y = .v vy)
  (hk:av P ro ops (k+1) b { n:=s1.n,t:=s1.put o.dst (.v v),h:=s1.h,nx:=s1.nx,ok:=True,e:=s1.e } Q):av P ro ops i b s Q:=by
 obtain⟨hik,ho,hg,he,hok,hd⟩:=z9
 refine CP (C:=C) k (.v v) v hik ho hg (λc e=>by rw[hop]at e;cases e) he hok hd (λB g a w hst=>?_) hk
 have h1:=bX hst x
 rw[hx]at h1
 have h1:=h1.v_inv
 have h2:=bX hst y
 rw[hy]at h2
 have h2:=h2.v_inv
 have hb:=XA hp x y w
 rw[hv]at hb
 refine⟨?_,.v _⟩
 obtain⟨od,oo,iD,op,oa,og⟩:=o
 simp only at hop
 subst hop
 rw[<-h1,<-h2]at hb
 have:execOp a.eval ⟨od,.binOp p t x y t',iD,op,oa,og⟩=(do let v <-(do eqGuard p t x y (a.eval x) (a.eval y);binOp p t (a.eval x) (a.eval y):Sem Value);return .value v):=by
  simp[execOp]
 rw[this,Sem.run_bind,hb]
 rfl
section
variable [Glob P] (C : aS) {ro : Option Nat} {Q : Exit -> S -> Prop} {s sq : S} {ops : Array Oper} {id : Nat} {y : Code}
def Vj{s1:S}{o:Oper}{i b:Nat}(k:Nat){p:BinOp}{t t':TypeId}{x y:Operand}{vx vy:Value}(v:Value)(hk:av P ro ops (k+1) b { n:=s1.n,t:=s1.put o.dst (.v v),h:=s1.h,nx:=s1.nx,ok:=True,e:=s1.e } Q)
  (z9:eY P C ops i k o b s s1:=by exact pos)(hop:o.op = .binOp p t x y t':=by exact rfl)
  (hx:s1.ev x = .v vx:=by simp only[go_sem,ff];first|done|exact rfl)(hy:s1.ev y = .v vy:=by simp only[go_sem,ff];first|done|exact rfl)(hv:(gT P t p vx vy).1=v:=by rfl)(hp:(gT P t p vx vy).2:=by trivial):av P ro ops i b s Q:=Zdj k hv hp z9 hop hx hy hk
end
end Go.DL
namespace Go.DL
open Go.RowKit
theorem yZ{h:H}{r:Nat}{a b:Option eZ}:upd (upd h r a) r b=upd h r b:=by
 funext q
 unfold upd
 split<;>rfl
variable {P : Program} {C : aS} {B : dn}
structure Zac(C:aS)(ops:Array Oper)(k1 k3 k2:Nat):Prop where
 lt:k1<k3
 le3:k3<=k2
 le:k2<=ops.size
 back : ∀(i:Nat)o,ops.toList[i]? = some o -> ∀e∈o.after.toList,Region.binds .any e=true->e.on<i
 ord : ∀i,k2<=i->i<ops.size -> ∀j,j<i->((ed ops.toList []).getD i 0).testBit j=true
 quiet : ∀(i:Nat)o,i<k3->i≠k1->((ed ops.toList []).getD k1 0).testBit i=false->ops.toList[i]? = some o->tu C o=true
 wait : ∀i,k3<=i->i<k2->((ed ops.toList []).getD i 0).testBit k1=true
 comm : ∀(i j:Nat)x y,i<k2->j<i->i≠k1->j≠k1->ops.toList[j]? = some x->ops.toList[i]? = some y->((ed ops.toList []).getD i 0).testBit j=true\/mo C ops.toList x y=true
 call : ∀(i:Nat)x y,i<k3->i≠k1->ops.toList[i]? = some x->ops.toList[k1]? = some y->((ed ops.toList []).getD k1 0).testBit i=true\/iK ops.toList x y=true
 late : ∀(i j:Nat)x y,i<=j->j<k3->i≠k1->j≠k1->ops.toList[i]? = some x->ops.toList[j]? = some y -> ∀z∈looks ops.toList x,y.dst≠some z
theorem Zby{k1 k3 k2:Nat}{listed:Array Bool}(h1:k1<k3)(h2:k3<=k2)(h3 : ∀j,k3<=j->listed.getD j false=false):dM k1 k2 listed=dM k1 k3 listed++List.range' k3 (k2-k3):=by
 have e:List.range k2=List.range k3++List.range' k3 (k2-k3):=by
  rw[Ze,Ze];have:k2=k3+(k2-k3):=by omega
  conv=>lhs;rw[this]
  rw[<-Zl]
  simp
 unfold dM
 rw[e,List.filter_append]
 congr 1
 refine Y1.2 λj hj=>?_
 simp only[List.mem_range'_1]at hj
 rw[h3 j hj.1]
 simp
 omega
theorem Zcc [Glob P]{ops:Array Oper}{k1 k3 k2 b n:Nat}{ro:Option Nat}{Q:Exit->Act->World->Prop}{w0:World}{g0:Mem}{sq:S}{F:D->H->Nat->S}(Dc:Zac C ops k1 k3 k2)
  {o1:Oper}{f:Operand}{args:Array Operand}{ts:Array TypeId}{aX:FuncId}{first aD xs:List D}{R:D->H->Nat->Prop}{X:List PanicEntry->H->Nat->Prop}
  (ho:ops[k1]? = some o1)(hop:o1.op = .call { callee:=.value f,args:=args,argTypes:=ts })(hg:o1.guard=none)(hd:dK sq.n o1.dst=true)
  (hf:sq.ev f = .fn (.func aX) first aD)(hxg:(args.toList.map sq.ev).all sg=true)(hx:(args.toList.map sq.ev).map sd=xs)(hct:ol P aX (first++xs++aD) sq.h (b+k2) R X)(hok:sq.ok)
  (hst : ∀res h' n',R res h' n' -> ∀(i:Nat)o,i<k3->i≠k1->((ed ops.toList []).getD k1 0).testBit i=false->ops.toList[i]? = some o ->
   aN P (words P) C ops.toList b i o sq.n sq.ev sq.t h'=((aN P (words P) C ops.toList b i o sq.n sq.ev sq.t sq.h).1,h',(aN P (words P) C ops.toList b i o sq.n sq.ev sq.t sq.h).2.2))
  (hF : ∀res h' n',R res h' n'->(List.range' k3 (k2-k3)).foldl (bB P (words P) C ops.toList n') { n:=sq.n,t:=sq.put o1.dst res,h:=h',nx:=n'+ops.size,ok:=True,e:=sq.e }=F res h' n'/\(F res h' n').ok)
  (hQ : ∀res h' n',R res h' n' -> ∀g' a' w',St P B (F res h' n') g' a' w'->ax g0 g' w0 w'->(∀r,g'.U r->r<n'+k2)->wpOpsIn (Fw ro) n P ops Q (List.range' k2 (ops.size-k2)) a' w')
  (hp : ∀c h' n',X c h' n' -> ∀(t:Nat->D)g' a' w',St P B { n:=sq.n,t:=t,h:=h',nx:=n',ok:=True,e:=sq.e } g' a' w'->ax g0 g' w0 w'->(∀r,g'.U r->r<n')->Q (.panic c) a' w') :
  ∀(fuel:Nat)(listed:Array Bool)(s:S)(g:Mem)(a:Act)(w:World),listed.size=ops.size->listed.getD k1 false=false->(∀j,k3<=j->listed.getD j false=false)->(dM k1 k3 listed).length+(k2-k3)+1+(ops.size-k2)<=fuel->Closed ops listed ->
   St P B s g a w->ax g0 g w0 w->(∀r,g.U r->r<b \/ ∃j,listed.getD j false=true/\j<k3/\r=b+j)->(dM k1 k3 listed).foldl (bB P (words P) C ops.toList b) s=sq ->
   wpAnyIn (Fw ro) n P .any ops Q fuel listed a w:=by
 intro fuel
 have hle:=Dc.le
 have hlt1:=Dc.lt
 have hle3:=Dc.le3
 induction fuel with
 | zero=>intro listed s g a w hsz hk1 hk2 hfu;omega
 | succ fuel ih =>
  intro listed s g a w hsz hk1 hk2 hfu hX hs hm hU hfin;refine⟨λhr=>?_,λi hi=>?_⟩
  .
   exfalso
   have:=Rz hsz Dc.back hr k1 om;rw[hk1]at this;cases this
  obtain⟨hlt,xe,tN⟩:=(wL hsz).1 hi;have hik:i<k2:=by
   by_cases q:i<k2
   . exact q
   exfalso
   have:=yS (L:=ops.toList) (X:=λk=>listed.getD k false=true) hX i ops[i] (by simp[hlt]) tN k1 (Dc.ord i om hlt k1 om)
   rw[hk1]at this;cases this
  have hik3:i<k3:=by
   by_cases q:i<k3
   . exact q
   exfalso
   have:=yS (L:=ops.toList) (X:=λk=>listed.getD k false=true) hX i ops[i] (by simp[hlt]) tN k1 (Dc.wait i om hik)
   rw[hk1]at this;cases this
  by_cases hne:i=k1
  .
   subst hne;have ho':ops.toList[i]? = some o1:=by rw[Zc];exact ho
   have hoi:ops[i]=o1:=by
    have:ops[i]? = some ops[i]:=by simp[hlt]
    rw[ho]at this;exact(Zt this).symm
   have yu : ∀j∈dM i k3 listed,∀x,ops.toList[j]? = some x->((ed ops.toList []).getD i 0).testBit j=false/\iK ops.toList x o1=true:=by
    intro j hj x hxj;obtain⟨j1,j2,j3⟩:=lY.1 hj;have hnb:((ed ops.toList []).getD i 0).testBit j=false:=by
     cases q:((ed ops.toList []).getD i 0).testBit j with
     | false=>rfl
     | true =>
      have:=yS (L:=ops.toList) (X:=λk=>listed.getD k false=true) hX i ops[i] (by simp[hlt]) tN j q
      rw[j3]at this;cases this
    rcases Dc.call j x o1 j1 j2 hxj ho' with h|h
    . rw[hnb]at h;cases h
    exact⟨hnb,h⟩
   have hlk:=JK (P:=P) (W:=words P) (C:=C) (L:=ops.toList) (b:=b) (y:=o1) (dM i k3 listed) s λj hj x hxj=>(yu j hj x hxj).2
   rw[hfin,hop]at hlk;simp only[aV,X8,Y0]at hlk;have M9:sq.h=s.h:=by
    rw[<-hfin];exact JL _ _ λj hj o ho=>Dc.quiet j o (lY.1 hj).1 (lY.1 hj).2.1 (yu j hj o ho).1 ho
   have Dw:sq.n=s.n/\sq.e=s.e:=by rw[<-hfin];exact Ga _ _
   rw[M9]at hct;rw[hlk.2]at hxg hx;have hf':s.ev f = .fn (.func aX) first aD:=by rw[<-hlk.1];exact hf
   have eH : ∀r,g.U r->r<b+k2:=λr hr=>by rcases hU r hr with h|⟨j,_,h,rfl⟩<;>omega
   unfold wpOpIn;rw[ho];simp only;have hw:Region.wanted o1 (yielded ops a.tmps)=true:=by simp[Region.wanted,hg]
   rw[X3 hw];have hdef : ∀c,o1.op ≠ .defer c:=by intro c e;rw[e]at hop;cases hop
   have j6:o1.semAt (Fw ro).round a.eval=execOp a.eval o1:=Oper.semAt_eq _ _ _ hdef;refine⟨λ_ _=>trivial,?_⟩
   rw[j6];obtain⟨hbd,hct⟩:=hct;have hfr:=bX hs f;rw[hf']at hfr;have fQ:=wC (vV hs args.toList) hxg;rw[hx]at fQ;generalize hv:a.eval f=vf at hfr
   cases hfr with|fn _ _ _ fs cs l1 l2 r1 r2 =>
   have hrun:(execOp a.eval o1).run P w = .ok (.enter aX (fs++args.map a.eval++cs)) w:=by
    simp[execOp,hop,resolve,Deferred.ofValue,hv,invoke,vY hbd]
   rw[hrun,Oper.uponIn_enter];have e:fs++args.map a.eval++cs=(fs.toList++args.toList.map a.eval++cs.toList).toArray:=by apply Zq;simp
   rw[e];refine⟨λh=>by simp[Fw,Fence.wide]at h,yO ((hct w g _ hs.mem eH (aB.append (aB.append ⟨by simpa using l1,λi d x h1 h2=>r1 i d x h1 (by simpa using h2)⟩ fQ) ⟨by simpa using l2,λi d x h1 h2=>r2 i d x h1 (by simpa using h2)⟩)).mono ?_)⟩
   rintro e w' ⟨g',h',n',q2,q3,q4,⟨v,res,hR,rfl,q1⟩|⟨c,hXp,rfl⟩⟩
   .
    have hs2:=mI hs q3 q2 (show dK s.n o1.dst=true by rw[<-Dw.1];exact hd) q1 True
    have htodo:dM i k3 (listed.setIfInBounds i true)=dM i k3 listed:=by
     unfold dM;refine Z5 λk _=>?_
     rw[getD_set (by omega) k]
     by_cases e:k=i
     . simp[e]
     have e2:(k==i)=false:=by simpa using e
     rw[e2,ZR]
    have qK:(dM i k3 listed).Pairwise (· < ·):=Z6 _ ZW;have pE:=JR (P:=P) (W:=words P) (C:=C) (L:=ops.toList) (b:=b) (b':=n') (m:=n'+ops.size) (d:=o1.dst) (res:=res) (h':=h') (sq:=sq) (dM i k3 listed) s qK (λj hj o hoj=>by
     obtain⟨j1,j2,j3⟩:=lY.1 hj;obtain⟨v3,k4⟩:=yu j hj o hoj;refine⟨Dc.quiet j o j1 j2 v3 hoj,λz hz=>?_,λm hm hjm y hy=>Dc.late j m o y hjm (lY.1 hm).1 j2 (lY.1 hm).2.1 hoj hy,hst res h' n' hR j o j1 j2 v3 hoj⟩
     simp only[iK,XU,hz]at k4;refine⟨by simpa using k4.2,λe=>?_⟩
     have:=k4.1;rw[e]at this
     simp at this) hfin hok
    have FK : ∀j,k3<=j->(listed.setIfInBounds i true).getD j false=false:=λj hj=>by
     rw[getD_set (by omega),hk2 j hj]
     have:(j==i)=false:=by simp;omega
     rw[this];rfl
    have hsp:dM i k2 (listed.setIfInBounds i true)=dM i k3 listed++List.range' k3 (k2-k3):=by rw[Zby hlt1 hle3 FK,htodo]
    obtain⟨hF1,hF2⟩:=hF res h' n' hR;refine Ld (B:=B) (g0:=g0) (w0:=w0) (b:=n') (k1:=i) (k2:=k2) (fin:=F res h' n') Dc.le Dc.back Dc.ord Dc.comm fuel (listed.setIfInBounds i true) { n:=s.n,t:=s.put o1.dst res,h:=h',nx:=n'+ops.size,ok:=True,e:=s.e } g' _ w' (by simp[hsz]) (λ_=>by rw[getD_set (by omega)];simp) (λj hj=>FK j (by omega)) (by rw[hsp,XZ,List.length_range'];omega) (hX.set hsz hi)
     ⟨hs2.sz,hs2.tm,hs2.mem,hs2.df,hs2.en,hs2.bd⟩ (hm.trans q3) (λr hr=>.inl (q4 r hr)) (by rw[hsp,Zh,pE];exact hF1) hF2 (hQ res h' n' hR)
   have hs2:=mI (dst:=none) hs q3 q2 rfl (.junk undef) True;exact hp c h' n' hXp s.t g' _ w' (by rw[Dw.1,Dw.2];exact⟨hs2.sz,hs2.tm,hs2.mem,hs2.df,hs2.en,hs2.bd⟩) (hm.trans q3) q4
  refine LW om (λi j x y q1 q2=>Dc.comm i j x y om q2) hsz hX hs hU hfin hok hi hik3 hne λg' a' w' s' q1 q2 q3 q4 q5=>?_
  refine ih _ s' g' a' w' (by simp[hsz]) o4d (λj hj=>?_) (by omega) (hX.set hsz hi) q1 (hm.trans q2) q3 q4
  rw[getD_set (by omega),hk2 j hj]
  have:(j==i)=false:=by simp;omega
  rw[this];rfl
def Gx(C:aS)(L:List Oper)(k1 k3 k2:Nat):Bool :=
 decide (k1<k3)&&decide (k3<=k2)&&decide (k2<=L.length)&&kr L
 && ((List.range L.length).all λi=>decide (i<k2)||(List.range i).all λj=>((ed L []).getD i 0).testBit j)
 && ((List.range k2).all λi=>decide (i<k3)||((ed L []).getD i 0).testBit k1)
 && ((List.range k3).all λi=>i==k1||((tu C (L.getD i default)||((ed L []).getD k1 0).testBit i)&&(((ed L []).getD k1 0).testBit i||iK L (L.getD i default) (L.getD k1 default))))
 && ((List.range k2).all λi=>i==k1||(List.range i).all λj=>j==k1||((ed L []).getD i 0).testBit j||mo C L (L.getD j default) (L.getD i default))
 && ((List.range k3).all λj=>j==k1||(List.range (j+1)).all λi=>i==k1||match(L.getD j default).dst with
  | none=>true
  | some d=>!(looks L (L.getD i default)).contains d)
def ZiQ{ops:Array Oper}{k1 k3 k2:Nat}(h:Gx C ops.toList k1 k3 k2=true):Zac C ops k1 k3 k2:=by
 unfold Gx at h
 simp only[XU,XW]at h
 obtain⟨⟨⟨⟨⟨⟨⟨⟨h1,h12⟩,h2⟩,h3⟩,h4⟩,h7⟩,h5⟩,h8⟩,h6⟩:=h
 have hat : ∀(i:Nat)o,ops.toList[i]? = some o->ops.toList.getD i default=o:=λi o ho=>by simp only[List.getD,ho,YR]
 simp only[YJ,Zp,Yc,XU,YB,XW]at h4 h5 h6 h7 h8
 refine⟨h1,h12,by simpa using h2,?_,?_,?_,?_,?_,?_,?_⟩
 .
  intro i o ho e he hb;unfold kr at h3;simp only[YJ,Zp,Yc,Yb,XW]at h3;have:=h3 i (X7.1 ho).1 e (by rw[hat i o ho];exact he)
  rcases this with h|h
  . rw[hb]at h;cases h
  exact h
 .
  intro i hi hs j hj
  rcases h4 i (by simpa using hs)with h|h
  . omega
  exact h j hj
 .
  intro i o hi hne hnb ho
  rcases h5 i hi with h|h
  . exact absurd h hne
  have:=h.1;rw[hat i o ho,hnb]at this;exact this.resolve_right (by simp)
 .
  intro i hi hs
  rcases h7 i hs with h|h
  . omega
  exact h
 .
  intro i j x y hi hj hne yw hx hy
  rcases h8 i hi with h|h
  . exact absurd h hne
  rcases h j hj with(h|h)|h
  . exact absurd h yw
  . exact .inl h
  rw[hat j x hx,hat i y hy]at h;exact .inr h
 .
  intro i x y hi hne hx hy
  rcases h5 i hi with h|h
  . exact absurd h hne
  have:=h.2;rw[hat i x hx,hat k1 y hy]at this;exact this
 intro i j x y hij hj hne yw hx hy z hz e
 rcases h6 j hj with h|h
 . exact absurd h yw
 rcases h i om with h|h
 . exact absurd h hne
 rw[hat i x hx,hat j y hy,e]at h
 simp at h
 exact h hz
def V4 [Glob P]{ro:Option Nat}{Q:Exit->S->Prop}{s sq:S}{id:Nat}{ops:Array Oper}(k1 k3 k2:Nat){F:D->H->Nat->S}{o1:Oper}{f:Operand}{args:Array Operand}{ts:Array TypeId}{aX:FuncId}{first aD xs:List D}(R:D->H->Nat->Prop)(X:List PanicEntry->H->Nat->Prop)
  (nQ:P.follows .mixedOrders=true)(hD:Gx C ops.toList k1 k3 k2=true)(ho:ops[k1]? = some o1)(hop:o1.op = .call { callee:=.value f,args:=args,argTypes:=ts })(hg:o1.guard=none)
  (hfin:((List.range k3).filter (· != k1)).foldl (bB P (words P) C ops.toList s.nx) s=sq)(hok:sq.ok)(hd:dK sq.n o1.dst=true)
  (hf:sq.ev f = .fn (.func aX) first aD)(hxg:(args.toList.map sq.ev).all sg=true)(hx:(args.toList.map sq.ev).map sd=xs)(hct:ol P aX (first++xs++aD) sq.h (s.nx+k2) R X)
  (hst : ∀res h' n',R res h' n' -> ∀(i:Nat)o,i<k3->i≠k1->((ed ops.toList []).getD k1 0).testBit i=false->ops.toList[i]? = some o ->
   aN P (words P) C ops.toList s.nx i o sq.n sq.ev sq.t h'=((aN P (words P) C ops.toList s.nx i o sq.n sq.ev sq.t sq.h).1,h',(aN P (words P) C ops.toList s.nx i o sq.n sq.ev sq.t sq.h).2.2))
  (hF : ∀res h' n',R res h' n'->aZ P (words P) C ops.toList n' k3 ((ops.toList.drop k3).take (k2-k3)) { n:=sq.n,t:=sq.put o1.dst res,h:=h',nx:=n'+ops.size,ok:=True,e:=sq.e }=F res h' n')
  (zY : ∀res h' n',R res h' n'->(F res h' n').ok)(hFe : ∀res h' n',R res h' n'->(F res h' n').e=sq.e)
  (hk : ∀res h' n',R res h' n'->av P ro ops k2 n' (F res h' n') Q)
  (hp : ∀c h' n',X c h' n' -> ∀t,Q (.panic c) { n:=sq.n,t:=t,h:=h',nx:=n',ok:=True,e:=sq.e }):DW P ro (.region id ops true) Q s:=by
 intro B g a w hs hU
 refine wpIn_region_any nQ ?_
 obtain⟨hs1,hm1⟩:=J5 hs
 have Dc:=ZiQ hD
 have hlt:=Dc.lt
 have hle3:=Dc.le3
 have hle:=Dc.le
 have hrep : ∀i,(Array.replicate ops.size false).getD i false=false:=by
  intro i
  by_cases h:i<ops.size<;>simp[Array.getD,h]
 have htodo:dM k1 k3 (Array.replicate ops.size false)=(List.range k3).filter (· != k1):=by
  unfold dM;exact Z5 λi _=>by rw[hrep];simp
 have hlen:(dM k1 k3 (Array.replicate ops.size false)).length<k3:=by
  rw[htodo];have:=(List.length_filter_lt_length_iff_exists (p:=λx=>x != k1) (l:=List.range k3)).2 ⟨k1,by simpa using hlt,by simp⟩
  simpa using this
 have hse:sq.e=s.e:=by rw[<-hfin];exact(Ga _ _).2
 refine Zcc (B:=B) (C:=C) (g0:=g) (w0:=w) (b:=s.nx) (n:=0) (F:=F) Dc ho hop hg hd hf hxg hx hct hok hst (λres h' n' hR=>⟨?_,zY res h' n' hR⟩) (λres h' n' hR g' a' w' q1 q2 q3=>?_) (λc h' n' hXp t g' a' w' q1 q2 q3=>⟨_,g',hp c h' n' hXp t,q1,by rw[<-hse];exact q2.toX,q3,by rw[<-hse]⟩) ops.size _ s g a _ (by simp) (hrep k1) (λj _=>hrep j) (by omega) (λi o _ hi=>by rw[hrep]at hi;cases hi) hs1 hm1 (λr hr=>.inl (hU r hr)) (by rw[htodo];exact hfin)
 . rw[<-hF res h' n' hR];exact(JZ (k2-k3) k3 _ (by simp;omega)).symm
 have:=hk res h' n' hR B g g' a' w w' q1 q2 q3
 simp only[hFe res h' n' hR,hse]at this
 exact this
def Q4 [Glob P]{ro:Option Nat}{Q:Exit->S->Prop}{ops:Array Oper}{i b:Nat}{s:S}(h:av P ro ops i b { n:=s.n,t:=s.t,h:=s.h,nx:=s.nx,ok:=True,e:=s.e } Q):av P ro ops i b s Q :=
 λB g0 g a w0 w hs hm hU=>h B g0 g a w0 w ⟨hs.sz,hs.tm,hs.mem,hs.df,hs.en,hs.bd⟩ hm hU
section
variable [Glob P] (C : aS) {ro : Option Nat} {Q : Exit -> S -> Prop} {s sq : S} {ops : Array Oper} {id : Nat} {y : Code}
def V9(k1 k3 k2:Nat)(fl:List (Nat×Nat)){o1:Oper}{f:Operand}{args:Array Operand}{ts:Array TypeId}{aX:FuncId}{first aD xs:List D}{R:D->H->Nat->Prop}{X:List PanicEntry->H->Nat->Prop}
  (nQ:P.follows .mixedOrders=true:=by exact o7)(hD:Gx C ops.toList k1 k3 k2=true:=by kernel_rfl)(hfl:Gb C ops.toList k1 k3 fl=true:=by kernel_rfl)(ho:ops[k1]? = some o1:=by exact dR rfl)(hop:o1.op = .call { callee:=.value f,args:=args,argTypes:=ts }:=by exact rfl)(hg:o1.guard=none:=by exact rfl)
  (hfin:((List.range k3).filter (· != k1)).foldl (bB P (words P) C ops.toList s.nx) s=sq:=by exact IB (by decide) (by decide) o2k o2k)(hok:sq.ok:=by(try simp only[go_sem,ff]);all_goals exact ok0)(hd:dK sq.n o1.dst=true:=by(try simp only[go_sem,ff]);all_goals (first|done|rfl|decide|simp))
  (hf:sq.ev f = .fn (.func aX) first aD:=by simp only[go_sem,ff];first|done|exact rfl)(hxg:(args.toList.map sq.ev).all sg=true:=by simp only[go_sem,ff])(hx:(args.toList.map sq.ev).map sd=xs:=by simp only[go_sem,ff];first|done|exact rfl)
  (hct:ol P aX (first++xs++aD) sq.h (s.nx+k2) R X)
  (hkeep : ∀res h' n',R res h' n' -> ∀p∈fl,∀r,named r (sd (sq.t p.2))=true->h' r=sq.h r)
  (zY : ∀res h' n',R res h' n'->(aZ P (words P) C ops.toList n' k3 ((ops.toList.drop k3).take (k2-k3)) { n:=sq.n,t:=sq.put o1.dst res,h:=h',nx:=n'+ops.size,ok:=True,e:=sq.e }).ok)
  (hk : ∀res h' n',R res h' n'->av P ro ops k2 n' (aZ P (words P) C ops.toList n' k3 ((ops.toList.drop k3).take (k2-k3)) { n:=sq.n,t:=sq.put o1.dst res,h:=h',nx:=n'+ops.size,ok:=True,e:=sq.e }) Q)
  (hp : ∀c h' n',X c h' n' -> ∀t,Q (.panic c) { n:=sq.n,t:=t,h:=h',nx:=n',ok:=True,e:=sq.e }):DW P ro (.region id ops true) Q s :=
 (V4 (F:=λres h' n'=>(aZ P (words P) C ops.toList n' k3 ((ops.toList.drop k3).take (k2-k3)) { n:=sq.n,t:=sq.put o1.dst res,h:=h',nx:=n'+ops.size,ok:=True,e:=sq.e })) k1 k3 k2 R X nQ hD ho hop hg hfin hok hd hf hxg hx hct (λres h' n' hr i o hi hne hb ho=>NM hfl (hkeep res h' n' hr) i o hi hne hb ho) (λ_ _ _ _=>rfl) zY (λ_ _ _ _=>uO _ _ _ _ _) hk hp)
def gto{s s1:S}{i b:Nat}(hk:av P ro ops i b { n:=s1.n,t:=s1.t,h:=s1.h,nx:=s1.nx,ok:=True,e:=s1.e } Q)(he:s=s1:=by simp only[X9,X6,X5,Ye,S.put,Yq,Nat.reduceSub,Nat.reduceAdd,go_sem,ff];first|done|exact rfl):av P ro ops i b s Q:=by
 subst he
 exact Q4 hk
end
end Go.DL
namespace Go.Proofs.YtidphdaoejibcaaGreatDoor
open Go.Proofs.Tryz
open Go.DL Go.Str Go.Rec Go.Cmp Go.RowKit
set_option maxRecDepth 10000
variable [Glob prog] [Told]

end Go.Proofs.YtidphdaoejibcaaGreatDoor
namespace Go.DL
open Go.RowKit
variable {P : Program} {ro : Option Nat} {Q : Exit -> S -> Prop}
def Ih [Glob P]{C:aS}{s s1:S}{ops:Array Oper}{i b:Nat}(k:Nat){o:Oper}{x:Operand}{d r:D}{xT t:TypeId}{v v':Value}(hrun : ∀w:World,(Instr.typeAssert v xT t true).run P w = .ok v' w)(hv : ∀(w:World)(g:Mem)q,ag w g d q->q=v)(hr : ∀(w:World)(g:Mem),ag w g r v')(hik:i<=k)(ho:ops[k]? = some o)(hg:o.guard=none)(hop:o.op = .typeAssert x xT t true)
  (he:aZ P (words P) C ops.toList b i ((ops.toList.drop i).take (k-i)) s=s1)(hok:s1.ok)(hd:dK s1.n o.dst=true)(hx:s1.ev x=d)
  (hk:av P ro ops (k+1) b { n:=s1.n,t:=s1.put o.dst r,h:=s1.h,nx:=s1.nx,ok:=True,e:=s1.e } Q):av P ro ops i b s Q:=by
 refine kE (C:=C) k (λd h'=>d=r/\h'=s1.h) hik ho hg (λc e=>by rw[hop]at e;cases e) he hok hd (λB g a w hst _=>?_) (λd h'⟨hy,hh⟩=>by subst hy;subst hh;exact hk)
 have fQ:=bX hst x
 rw[hx]at fQ
 have hxv:=hv _ _ _ fQ
 refine⟨_,_,⟨rfl,rfl⟩,_,g,w,.inl ?_,hr w g,hst.mem,ax.refl _ _,λr hr=>.inl hr⟩
 obtain⟨od,oo,iD,op,oa,og⟩:=o
 simp only at hop
 subst hop
 simp[execOp,hxv,hrun]
def XI{xT t:TypeId}{want:Array (String×TypeId)}{z:Value}{ti:TypeInfo}(hu:P.underlying t=some (.interface want))(hti:P.info? t=some ti)(hz:ti.zero=some z)(w:World):(Instr.typeAssert .nilIface xT t true).run P w = .ok (.tuple #[z,.bool false]) w:=by
 simp[Instr.typeAssert,run_underlying hu,zeroValue,typeInfo,hti,hz]
def Sb [Glob P]{f:FuncId}{args:List D}{res:D}(hnr:args.all D.nr=true)(hc:bU P f args (λ_=>none) 0 (λd h' n'=>∃k,dP h' k d/\wk (snap h' k d)=res)):PureCt P f args res:=by
 refine⟨hc.1,hnr,λw I vs hI hgr hr=>?_⟩
 have hm:HM P (λ_=>none) (jJ I) w:=by
  refine⟨λ_ _=>rfl,?_,?_,?_,hI,hgr⟩
  . intro r bl h;cases h
  . intro r r' b c c' s s' h;cases h
  intro r h;exact absurd rfl h
 refine(hc.2 w (jJ I) vs hm (λr h=>False.elim h) hr).mono ?_
 rintro e w' ⟨v,g',d,h',n',⟨k,hk,hres⟩,rfl,h2,hmem,hm',hU⟩
 refine⟨v,rfl,⟨hm'.os,hm'.tape,hm'.output,hm'.size,hm'.drawn,λb hb=>hm'.same b hb (λr c s h=>by cases h)⟩,?_⟩
 obtain⟨q1,q2⟩:=H6 hmem k _ v (vC h2) hk
 have q1:=q1.wk
 have q2:=Ha _ q2
 rw[hres]at q1 q2
 refine q1.clean q2 λb hb=>?_
 rcases hb with hb|⟨r,c,s,hb⟩
 .
  rcases hm'.inew b hb with h|h|⟨r,c,s,h⟩
  . exact .inl h
  . exact .inr ⟨h,hmem.imm b hb⟩
  cases h
 rcases hm'.new r b c s hb with⟨r',c',s',h⟩|h
 . cases h
 exact .inr ⟨h,(pU hmem hb).1⟩
theorem Zcz [Glob P]{t:TypeId}{x:D}{a b c:Option D}{h h':H}(hn : ∀r,named r x=true->h' r=h r):pX P t x a b c h'=pX P t x a b c h:=by
 cases x with
 | mrow r off len =>
  have:=hn r (by simp[named])
  unfold pX;simp only[this]
 | v x=>cases x<;>rfl
 | _=>rfl
def ZeW [Glob P]{C:aS}{W:cu}{L:List Oper}{b i:Nat}{o:Oper}{ev:Operand->D}{t:Nat->D}{n:Nat}{h h':H}{ty:TypeId}{x:Operand}{l hi m:Option Operand}(hg:o.guard=none)(ho:o.op = .slice ty x l hi m)
  (hn : ∀r,named r (sd (ev x))=true->h' r=h r):aN P W C L b i o n ev t h'=((aN P W C L b i o n ev t h).1,h',(aN P W C L b i o n ev t h).2.2):=by
 simp only[aN,hg,aY,ho,fE,Yp,Za,aV,X8,bg,still,Zcz hn]
def NN(C:aS)(L:List Oper)(k1 k2:Nat)(fl:List (Nat×Nat)):Bool:=(List.range k2).all λi=>i==k1||((ed L []).getD k1 0).testBit i||((L.getD i default).guard.isNone&&(bW C (L.getD i default).op == .none||fl.any λp=>p.1==i&&match(L.getD i default).op with
 | .load _ (.tmp t)=>t==p.2
 | .slice _ (.tmp t) _ _ _=>t==p.2
 | _=>false))
theorem ZhY [Glob P]{C:aS}{L:List Oper}{k1 k2:Nat}{fl:List (Nat×Nat)}(h:NN C L k1 k2 fl=true){h':H}{sq:S}{b:Nat}(hk : ∀p∈fl,∀r,named r (sd (sq.t p.2))=true->h' r=sq.h r)(i:Nat)(o:Oper)(hi:i<k2)(hne:i≠k1)(hb:((ed L []).getD k1 0).testBit i=false)(ho:L[i]? = some o) :
  aN P (words P) C L b i o sq.n sq.ev sq.t h'=((aN P (words P) C L b i o sq.n sq.ev sq.t sq.h).1,h',(aN P (words P) C L b i o sq.n sq.ev sq.t sq.h).2.2):=by
 have hat:L.getD i default=o:=by simp only[List.getD,ho,YR]
 unfold NN at h
 have h1:=YJ.1 h i (Zp.2 hi)
 rw[hat,hb]at h1
 simp only[ZR,Yc,YB,XU,ZY]at h1
 rcases h1 with h1|⟨hg,h1|⟨p,hp,h2,h3⟩⟩
 . exact absurd h1 hne
 . exact IQ (Zb.1 hg) (.inl h1)
 cases hop:o.op with
 | load ty x =>
  rw[hop]at h3
  cases x with
  | tmp t =>
   simp only[YB]at h3;subst h3;refine IQ (Zb.1 hg) (.inr ?_);rw[hop];refine⟨trivial,λd hd r hr=>?_⟩
   simp only[aV,X8,Yz,Yo]at hd;subst hd;exact hk p hp r hr
  | _=>simp at h3
 | slice ty x l hh m =>
  rw[hop]at h3
  cases x with
  | tmp t =>
   simp only[YB]at h3;subst h3;exact ZeW (Zb.1 hg) hop λr hr=>hk p hp r hr
  | _=>simp at h3
 | _=>rw[hop]at h3;simp at h3
section
variable [Glob P] (C : aS) {s sq : S} {ops : Array Oper} {id : Nat} {y : Code}
def dr1M(k1 k3 k2:Nat)(fl:List (Nat×Nat)){o1:Oper}{f:Operand}{args:Array Operand}{ts:Array TypeId}{aX:FuncId}{first aD xs:List D}{R:D->H->Nat->Prop}{X:List PanicEntry->H->Nat->Prop}
  (nQ:P.follows .mixedOrders=true:=by exact o7)(hD:Gx C ops.toList k1 k3 k2=true:=by kernel_rfl)(hfl:NN C ops.toList k1 k3 fl=true:=by kernel_rfl)(ho:ops[k1]? = some o1:=by exact dR rfl)(hop:o1.op = .call { callee:=.value f,args:=args,argTypes:=ts }:=by exact rfl)(hg:o1.guard=none:=by exact rfl)
  (hfin:((List.range k3).filter (· != k1)).foldl (bB P (words P) C ops.toList s.nx) s=sq:=by exact IB (by decide) (by decide) o2k o2k)(hok:sq.ok:=by(try simp only[go_sem,ff]);all_goals exact ok0)(hd:dK sq.n o1.dst=true:=by(try simp only[go_sem,ff]);all_goals (first|done|rfl|decide|simp))
  (hf:sq.ev f = .fn (.func aX) first aD:=by simp only[go_sem,ff];first|done|exact rfl)(hxg:(args.toList.map sq.ev).all sg=true:=by simp only[go_sem,ff])(hx:(args.toList.map sq.ev).map sd=xs:=by simp only[go_sem,ff];first|done|exact rfl)
  (hct:ol P aX (first++xs++aD) sq.h (s.nx+k2) R X)
  (hkeep : ∀res h' n',R res h' n' -> ∀p∈fl,∀r,named r (sd (sq.t p.2))=true->h' r=sq.h r)
  (zY : ∀res h' n',R res h' n'->(aZ P (words P) C ops.toList n' k3 ((ops.toList.drop k3).take (k2-k3)) { n:=sq.n,t:=sq.put o1.dst res,h:=h',nx:=n'+ops.size,ok:=True,e:=sq.e }).ok)
  (hk : ∀res h' n',R res h' n'->av P ro ops k2 n' (aZ P (words P) C ops.toList n' k3 ((ops.toList.drop k3).take (k2-k3)) { n:=sq.n,t:=sq.put o1.dst res,h:=h',nx:=n'+ops.size,ok:=True,e:=sq.e }) Q)
  (hp : ∀c h' n',X c h' n' -> ∀t,Q (.panic c) { n:=sq.n,t:=t,h:=h',nx:=n',ok:=True,e:=sq.e }):DW P ro (.region id ops true) Q s :=
 (V4 (F:=λres h' n'=>(aZ P (words P) C ops.toList n' k3 ((ops.toList.drop k3).take (k2-k3)) { n:=sq.n,t:=sq.put o1.dst res,h:=h',nx:=n'+ops.size,ok:=True,e:=sq.e })) k1 k3 k2 R X nQ hD ho hop hg hfin hok hd hf hxg hx hct (λres h' n' hr i o hi hne hb ho=>ZhY hfl (hkeep res h' n' hr) i o hi hne hb ho) (λ_ _ _ _=>rfl) zY (λ_ _ _ _=>uO _ _ _ _ _) hk hp)
end
end Go.DL
namespace Go.Zon
open Go.DL
def Ie(f:D):Sgd->Option Sgd:=match f with
 | .fn (.func k) _ [d]=>if k=33 then ll (wU d)else lJ (wU d)
 | _=>some
@[go_sem]theorem semS_d2{m:PM}:Ie (.fn (.func 33) [] [.eptr [.fmap (jg m)]])=ll m:=congrArg ll (Ml m)
@[go_sem]theorem semS_86:Ie (.fn (.func 86) [] [])=some:=rfl
end Go.Zon
namespace Go.Proofs.YtidphdaoejibcaaGreatDoor
open Go.Proofs.Tryz
open Go.DL Go.Str Go.Rec Go.Cmp Go.Zon
set_option maxRecDepth 10000
variable [Glob prog] [Told]





end Go.Proofs.YtidphdaoejibcaaGreatDoor
namespace Go.DL
open Go.RowKit
variable {P : Program}
def OY(cf:List D->List D->Int)(rows:List (List D)):Prop:=rows.Pairwise λx y=>¬cf y x<0
structure SwoOn(cf:List D->List D->Int)(rows:List (List D)):Prop where
 irrefl : ∀x∈rows,¬cf x x<0
 trans : ∀x∈rows,∀y∈rows,∀z∈rows,cf x y<0->cf y z<0->cf x z<0
 ntrans : ∀x∈rows,∀y∈rows,∀z∈rows,¬cf x y<0 -> ¬cf y z<0 -> ¬cf x z<0
def Lj(enc:Nat->List Value)(k:Nat)(w:World)(b m:Nat)(d:Array Nat)(os:Array Obj)(i:Nat)(hi:i<w.heap.size)(hb:i≠b):(Go.Proofs.sortWorldK enc k w b 0 m d os).heap[i]? = w.heap[i]? := by
 unfold Go.Proofs.sortWorldK Go.Sort.putRowK Go.Sort.putRow Go.Sort.mapBlock Go.Sort.grow
 simp only[Go.Sort.ahead]
 rw[Array.getElem?_append_left (by simpa using hi),Array.getElem?_modify,XV (Ne.symm hb)]
def Zco(enc:Nat->List Value)(k:Nat)(w:World)(b m:Nat)(d:Array Nat)(os:Array Obj){cur:Array Value}{ty:TypeId}(hb:w.heap[b]? = some (.cells cur ty (0,0))) :
  (Go.Proofs.sortWorldK enc k w b 0 m d os).heap[b]? = some (.cells (Go.Sort.putCells id 0 (Go.Sort.flatK enc k d) cur) ty (0,0)):=by
 have hi:b<w.heap.size:=(Yk.1 hb).1
 unfold Go.Proofs.sortWorldK Go.Sort.putRowK Go.Sort.putRow Go.Sort.mapBlock Go.Sort.grow
 simp only[Go.Sort.ahead]
 rw[Array.getElem?_append_left (by simpa using hi),Array.getElem?_modify,X3 rfl,hb]
 rfl
theorem Qs(enc:Nat->List Value)(k:Nat)(w:World)(b m:Nat)(d:Array Nat)(os:Array Obj):(Go.Proofs.sortWorldK enc k w b 0 m d os).heap.size=w.heap.size+os.size:=by
 unfold Go.Proofs.sortWorldK Go.Sort.putRowK Go.Sort.putRow Go.Sort.mapBlock Go.Sort.grow
 simp[Go.Sort.ahead]
def Zke{w w':World}(h:G6 w w'):∃q os,w'=Go.Sort.grow (w.drewN q) os:=by
 refine⟨w'.drawn-w.drawn,w'.heap.extract w.heap.size w'.heap.size,?_⟩
 obtain⟨h1,h2,h3,h4,h5,h6⟩:=h
 have hh:w'.heap=w.heap++w'.heap.extract w.heap.size w'.heap.size:=by
  apply Array.ext_getElem?
  intro i
  by_cases hi:i<w.heap.size
  . rw[Array.getElem?_append_left hi,h6 i hi]
  rw[Array.getElem?_append_right (by omega),Array.getElem?_extract]
  by_cases hj:i<w'.heap.size
  .
   rw[X3 (by omega)]
   congr 1
   omega
  rw[XV (by omega),Array.getElem?_eq_none (by omega)]
 cases w'
 cases w
 simp only at h1 h2 h3 h5 hh
 simp only[Go.Sort.grow,World.drewN,World.mk.injEq]
 refine⟨hh,h2,?_,h1,h3⟩
 omega
def Qr [Glob P]{ρ:Go.Shelf.Ren}(L:Go.Proofs.SlLaysF0.n6 P ρ){fS ty:Nat}(hfS:ρ.f 6=fS)(hty:ρ.t 24=ty)(aE : ∀w,(isAgg ty).run P w = .ok true w)(zE : ∀w,(Go.sizeOf ty).run P w = .ok (P.cellsOf ty) w)
  {r nf g:Nat}{rows:List (List D)}{h:H}{aD:List D}(cf:List D->List D->Int)(hbS:dY P fS=true)(hr:h r=some ⟨ty,rows⟩)(hnr:bq rows=true)(hcn:aD.all D.nr=true)(hmax:rows.length<4611686018427387904)
  (hcmp : ∀x∈rows,∀y∈rows,PureCt P g ([.agg x,.agg y]++aD) (.i (cf x y)))(hO:SwoOn cf rows) :
  bU P fS [.mrow r 0 rows.length,.fn (.func g) [] aD] h nf (λd h' n'=>d = .tuple []/\n'=nf /\ ∃rows',rows'.Perm rows/\OY cf rows'/\h'=upd h r (some ⟨ty,rows'⟩)):=by
 refine⟨hbS,λw gm vs hm hU hrs=>?_⟩
 obtain⟨x,vs1,rfl,hx,h1⟩:=hrs.of_cons
 obtain⟨f,vs2,rfl,hf,h2⟩:=h1.of_cons
 rw[h2.of_nil]
 cases hf with|fn _ _ _ fs cs l1 l2 r1 r2 =>
 have hfs:fs = #[]:=Zz (by simpa using l1.symm)
 subst hfs
 cases hx with|mrow _ _ _ _ _ hUr hv =>
 obtain⟨blk,c,q1,q2,q3,q4,q5⟩:=hm.blk r _ hr
 obtain⟨v1,v2⟩:=hv _ _ _ q1
 by_cases hne:rows=[]
 .
  subst hne;have hx' : ∃p cap,x = .slice p 0 cap:=by
   rcases v2 with⟨_,a,rfl⟩|⟨_,b,_,rfl⟩
   . exact⟨a,0,rfl⟩
   exact⟨_,_,rfl⟩
  obtain⟨p,cap,rfl⟩:=hx';have key:=Go.Proofs.AnyF.slices_SortFunc_none L p cap (.func (.func g) #[] cs) w;rw[hfS]at key;refine callsIn_wide.2 (key.mono ?_);rintro e w' ⟨rfl,rfl⟩;refine⟨_,gm,_,h,nf,⟨rfl,rfl,[],.refl _,.nil,?_⟩,rfl,.mk_tuple (vs:=#[]) .nil,hm,ax.refl _ _,hU⟩
  funext i
  unfold upd
  split
  . rename_i e;subst e;exact hr
  rfl
 have hn0:0<rows.length:=Zy.2 hne
 rcases q5 with⟨_,q5⟩|⟨b,cur,rfl,q6,q7,q8,q9⟩
 . simp only at q3;omega
 have q6:=q6.cells v1.2
 have q7:=q7 v1.2
 have q4:=v1.2
 rcases v2 with⟨e0,a,rfl⟩|⟨hc0,b',hb',rfl⟩
 . simp only at q3;omega
 cases hb'
 have hbw:b<w.heap.size:=(Yk.1 q6).1
 generalize hk:P.cellsOf ty=k at *
 simp only at q3
 let ix:Nat->Nat:=λi=>if i<rows.length then i else 0
 have hix : ∀i,ix i<rows.length:=λi=>by simp only[ix];split<;>assumption
 have Ju : ∀i,i<rows.length->ix i=i:=λi hi=>by simp only[ix];rw[X3 hi]
 let enc:Nat->List Value:=λi=>(List.range k).map λj=>cur.getD (ix i*k+j) undef
 have Ni : ∀i,(enc i).length=k:=λi=>by simp[enc]
 have hrow : ∀i,i<rows.length->(rows.getD i []).length=k /\ ∀(j:Nat)d,(rows.getD i [])[j]? = some d->(enc i)[j]? = some (cur.getD (i*k+j) undef)/\cur[i*k+j]? = some (cur.getD (i*k+j) undef)/\(cur.getD (i*k+j) undef).oneCell'=true/\ag w gm d (cur.getD (i*k+j) undef):=by
  intro i hi;have e1:rows[i]? = some (rows.getD i []):=by simp[List.getD,hi]
  obtain⟨p1,p2⟩:=q9 i _ e1;simp only[hk]at p1 p2;refine⟨p1,λj d hd=>?_⟩
  obtain⟨u,u1,u2,u3⟩:=p2 j d hd;have e2:cur.getD (i*k+j) undef=u:=by simp[Zx,u1]
  have hj:j<k:=by rw[<-p1];exact(X7.1 hd).1
  rw[e2];refine⟨by simp[enc,hj,Ju i hi];rw[<-e2];simp[Zx],u1,u2,u3⟩
 have U6 : ∀i,enc i=enc (ix i):=λi=>by simp only[enc];rw[Ju (ix i) (hix i)]
 have hone : ∀i,∀v∈enc i,v.oneCell'=true:=by
  intro i v hv;rw[U6]at hv;obtain⟨j,hj⟩:=Zv hv;have hjk:j<k:=by rw[<-Ni (ix i)];exact(X7.1 hj).1
  obtain⟨p1,p2⟩:=hrow (ix i) (hix i);have hd:(rows.getD (ix i) [])[j]? = some ((rows.getD (ix i) [])[j]'(by omega)):=by simp
  obtain⟨u1,_,u2,_⟩:=p2 j _ hd;rw[u1]at hj
  cases hj
  exact u2
 let rw':Nat->List D:=λi=>rows.getD (ix i) []
 have hmem : ∀i,rw' i∈rows:=λi=>by
  have:rw' i=rows[ix i]'(hix i):=by simp[rw',List.getD,hix i]
  rw[this];exact YI _
 let cn:Nat->Nat->Int:=λi j=>cf (rw' i) (rw' j)
 have hswo:Go.Sort.SWO (Go.Proofs.ltOf cn):=by
  refine⟨λx=>?_,λx y z p1 p2=>?_,λx y z p1 p2=>?_⟩
  . simp only[Go.Proofs.ltOf,cn,X4];exact hO.irrefl _ (hmem x)
  . simp only[Go.Proofs.ltOf,cn,XW]at *;exact hO.trans _ (hmem x) _ (hmem y) _ (hmem z) p1 p2
  simp only[Go.Proofs.ltOf,cn,X4]at *;exact hO.ntrans _ (hmem x) _ (hmem y) _ (hmem z) p1 p2
 let d:Array Nat:=Array.range rows.length
 have hds:d.size=rows.length:=by simp[d]
 have hdg : ∀i,i<rows.length->d[i]! = i:=λi hi=>by simp[d,hi]
 have Zhr : ∀t,t<rows.length*k->t / k<rows.length/\t % k<k:=λt ht=>⟨Nat.div_lt_of_lt_mul (by rw[ZE];exact ht),Nat.mod_lt _ q2⟩
 have hget : ∀i j,i<rows.length->j<k->(enc i)[j]! = cur.getD (i*k+j) undef:=by
  intro i j hi hj;obtain⟨p1,p2⟩:=hrow i hi;have hd:(rows.getD i [])[j]? = some ((rows.getD i [])[j]'(by omega)):=by simp
  rw[List.getElem!_eq_getElem?_getD,(p2 j _ hd).1];rfl
 have hH:Go.Sort.HoldsK enc k w b 0 d:=by
  intro t ht;simp only[Go.Sort.size_flatK,hds]at ht;rw[Go.Sort.get_flatK _ _ _ _ (by rw[hds];exact ht)]
  obtain⟨t1,t2⟩:=Zhr t ht;rw[hdg _ t1,hget _ _ t1 t2];have e:t / k*k+t % k=t:=by rw[ZE];exact Nat.div_add_mod t k
  rw[e,Nat.zero_add];have hlt:t<cur.size:=by rw[q7];exact YD ht (YY k q3)
  refine⟨?_,?_⟩
  . simp[World.cell?,q6,hlt,id,Zx]
  simp[World.frozen?,q6]
 have hcl:Go.Proofs.CmpLays P g cs enc k cn b 0 d.size w:=by
  intro m os dk hdk x y;obtain⟨hbd,_,hct⟩:=hcmp _ (hmem x) _ (hmem y);have hW:=Qs enc k w b m dk os;have hI : ∀b',gm.I b'->b'<(Go.Proofs.sortWorldK enc k w b 0 m dk os).heap.size:=λb' hb'=>by rw[hW];have:=hm.imm b' hb';omega
  have hrep : ∀{d:D}{v:Value},d.nr=true->ag w gm d v->ag (Go.Proofs.sortWorldK enc k w b 0 m dk os) (jJ gm.I) d v:=by
   intro d v hd hv;have h1:=ag.clean (g':=jJ gm.I) hv hd (λb hb=>hb)
   refine ag.mono (g:=jJ gm.I) (g':=jJ gm.I) (λb' hb'=>⟨hb',?_⟩) (λ_ h=>h) (λ_ h=>.inl rfl) h1
   exact Lj enc k w b m dk os b' (hm.imm b' hb') (λe=>q8 (e▸hb'))
  have hagg : ∀i,ag (Go.Proofs.sortWorldK enc k w b 0 m dk os) (jJ gm.I) (.agg (rw' i)) (.agg (enc i).toArray):=by
   intro i;rw[U6 i];obtain⟨p1,p2⟩:=hrow (ix i) (hix i);refine .mk_agg ⟨by rw[p1,Ni],λj d v e1 e2=>?_⟩
   obtain⟨u1,_,_,u4⟩:=p2 j d e1;rw[u1]at e2
   cases e2
   exact hrep (tH (Fa hnr (hmem i)) (Yj e1)) u4
  have hargs:aB (Go.Proofs.sortWorldK enc k w b 0 m dk os) (jJ gm.I) ([.agg (rw' x),.agg (rw' y)]++aD) ([.agg (enc x).toArray,.agg (enc y).toArray]++cs.toList):=by
   refine aB.append (.cons (hagg x) (.cons (hagg y) .nil)) ⟨by simpa using l2,λi d v e1 e2=>?_⟩
   exact hrep (YJ.1 hcn d (Yj e1)) (r2 i d v e1 (by simpa using e2))
  have:=callsIn_wide.1 (hct _ gm.I _ hI (hm.gr.later λb' hb'=>⟨hb',Lj enc k w b m dk os b' (hm.imm b' hb') (λe=>q8 (e▸hb'))⟩) hargs)
  have ea:([.agg (enc x).toArray,.agg (enc y).toArray]++cs.toList:List Value).toArray = #[.agg (enc x).toArray,.agg (enc y).toArray]++cs:=by apply Zq;simp
  rw[ea]at this;refine this.mono ?_;rintro e w' ⟨v,rfl,hb,hv⟩;refine⟨?_,Zke hb⟩;rw[hv.v_inv]
 have key:=Go.Proofs.AnyQ.slices_SortFunc L k (by rw[hty];exact aE) (by rw[hty];exact zE) enc Ni hone cn hswo g cs b 0 c d w (λargs w=>vY (hcmp _ (hmem 0) _ (hmem 0)).1 args w) hcl hH hbw (by rw[hds];exact hmax)
 rw[hfS,hds]at key
 have ev:(Value.slice (some ⟨b,0*k,Option.none⟩) rows.length (c-0))=Value.slice (some ⟨b,0,Option.none⟩) rows.length c:=by simp
 rw[ev]
 refine callsIn_wide.2 (key.mono ?_)
 rintro e w' ⟨rfl,d',n',os,hperm,hsort,rfl⟩
 obtain⟨hsz,_,hpm⟩:=hperm
 rw[hds]at hsz
 have hex : ∀a:Array Nat,a.size=rows.length->a.extract 0 rows.length=a:=λa ha=>by rw[<-ha];exact Array.extract_size
 rw[hex d' hsz,hex d hds]at hpm
 have hlt' : ∀i,i<rows.length->d'[i]! < rows.length:=by
  intro i hi;have h1:d'[i]! ∈ d'.toList:=by
   rw[getElem!_pos d' i (by omega)]
   simp
  have:=hpm.mem_iff.1 h1
  simpa[d]using this
 let rows':List (List D):=d'.toList.map rw'
 have hrows:d.toList.map rw'=rows:=by
  apply List.ext_getElem?
  intro i
  by_cases hi:i<rows.length
  . simp[d,hi,rw',Ju i hi,List.getD]
  simp[d,hi]
 have hP:rows'.Perm rows:=by rw[<-hrows];exact hpm.map rw'
 have hS:OY cf rows':=by
  unfold OY;rw[ZI];intro i j hi hj hij;have hj':j<rows.length:=by simpa[rows',hsz]using hj
  have:=hsort i j (Yi _) hij hj';simp only[Go.Proofs.ltOf,cn,X4]at this;rw[getElem!_pos d' i (by omega),getElem!_pos d' j (by omega)]at this
  simpa[rows']using this
 have hl':rows'.length=rows.length:=by simp[rows',hsz]
 have hput:=hm.put (h':=upd h r (some ⟨ty,rows'⟩)) (w':=Go.Proofs.sortWorldK enc k w b 0 n' d' os) r b c ⟨ty,rows'⟩ (Go.Sort.putCells id 0 (Go.Sort.flatK enc k d') cur)
  (.inr (by simp only[hk];exact q1)) (bN _ _ _) (λr' hr'=>.inl (aK _ _ _ _ hr')) (.inr ⟨r,c,_,q1,.inl rfl⟩) (Zco enc k w b n' d' os q6) (by simp[Go.Sort.putCells,q7,hk]) (by simp only[hk];exact q2)
  (by simp only[hl'];exact q3) q4 (by
   intro i row hi;have hil:i<rows.length:=by rw[<-hl'];exact(X7.1 hi).1
   have e1:row=rows.getD (d'[i]!) []:=by
    simp only[rows',YU]at hi;rw[getElem!_pos d' i (by omega)]
    have:d'.toList[i]? = some d'[i]:=by simp
    rw[this]at hi;simp only[YX,Yf]at hi;rw[<-hi];simp only[rw'];rw[Ju _ (by have:=hlt' i hil;rwa [getElem!_pos d' i (by omega)]at this)]
   obtain⟨p1,p2⟩:=hrow _ (hlt' i hil);rw[<-e1]at p1 p2;simp only[hk];refine⟨p1,λj dd hd=>?_⟩
   have hjk:j<k:=by rw[<-p1];exact(X7.1 hd).1
   obtain⟨u1,u2,u3,u4⟩:=p2 j dd hd;have hbound:i*k+j<rows.length*k:=by
    have:=YY k (show i+1<=rows.length from hil)
    rw[Zk,Nat.one_mul]at this;omega
   have hcs:i*k+j<cur.size:=by rw[q7];exact YD hbound (YY k q3)
   refine⟨_,?_,u3,u4⟩;have hdiv:(i*k+j) / k=i:=by rw[ZE,Nat.mul_add_div q2,Nat.div_eq_of_lt hjk];rfl
   have hmod:(i*k+j) % k=j:=by rw[ZE,Z4,ZB hjk]
   simp only[Go.Sort.putCells,Array.getElem?_mapIdx,ZN hcs,YX];rw[X3 ⟨Yi _,by simp only[Go.Sort.size_flatK,hsz];omega⟩,Nat.sub_zero,Go.Sort.get_flatK _ _ _ _ (by rw[hsz];exact hbound),hdiv,hmod,hget _ _ (hlt' i hil) hjk]
   rfl)
  ⟨rfl,rfl,rfl,by rw[Qs];omega,λi hi hne=>Lj enc k w b n' d' os i hi (λe=>hne (by rw[e]))⟩ (by unfold Go.Proofs.sortWorldK Go.Sort.putRowK Go.Sort.putRow Go.Sort.mapBlock Go.Sort.grow Go.Sort.ahead;exact ZQ _ _)
 obtain⟨g',g1,g2,g3,g4,g5⟩:=hput
 exact⟨_,g',_,_,nf,⟨rfl,rfl,rows',hP,hS,rfl⟩,rfl,.mk_tuple (vs:=#[]) .nil,g4,g5,λr' hr'=>by
  rcases(g2 r').1 hr' with h|h
  . exact hU _ h
  subst h;exact hU _ hUr⟩
end Go.DL
namespace Go.Zon
open Go.DL Go.Str Go.Rec Go.Cmp
abbrev PS:=Nat×Sgd
def rowP(x:PS):List D:=[.v (.string (bs x.2.set.name)),.i x.2.set.ty,.i x.2.set.life,.mrow x.1 0 x.2.set.data.length,.list true []]
def lP(p:List PS):List Sgd:=p.map (·.2)
structure ZM(tz ts td:TypeId)(zc rs:Nat)(a:Str)(p:List PS)(h:H):Prop where
 z:h zc=some ⟨tz,[[.v (.string (bs a)),.mrow rs 0 p.length]]⟩
 r:h rs=some ⟨ts,p.map rowP⟩
 d : ∀x∈p,h x.1=some ⟨td,x.2.set.data.map Dat.d⟩
 zr:zc≠rs
 ne : ∀x∈p,x.1≠zc/\x.1≠rs
 nd:(p.map (·.1)).Nodup
 sig : ∀x∈p,x.2.sigs=[]
theorem mU(p:List PS):(lP p).length=p.length:=by simp[lP]
theorem Dl{p:List PS}{i:Nat}(h:i<p.length):(lP p)[i]! = p[i]!.2:=by
 rw[getElem!_pos (lP p) i (by rw[mU];exact h),getElem!_pos p i h]
 simp[lP]
theorem snap_mrow(h:H)(k r off len:Nat):snap h (k+1) (.mrow r off len) = .list false ((aC (.mrow r off len) h).map λrow=>row.map (snap h k)):=rfl
theorem snap_agg(h:H)(k:Nat)(cs:List D):snap h (k+1) (.agg cs) = .agg (cs.map (snap h k)):=rfl
theorem snap_v(h:H)(k:Nat)(x:Value):snap h k (.v x) = .v x:=by cases k<;>rfl
theorem snap_list(h:H)(k:Nat)(f:Bool)(l:List (List D)):snap h k (.list f l) = .list f l:=by cases k<;>rfl
def Ao(td:TypeId)(h:H)(x:PS):Prop:=h x.1=some ⟨td,x.2.set.data.map Dat.d⟩/\x.2.sigs=[]
theorem Qz(h:H)(k:Nat)(l:List Dat):(l.map Dat.d).map (λrow=>row.map (snap h k))=l.map Dat.d:=by
 rw[List.map_map]
 refine Zd λx _=>?_
 simp[Dat.d,snap_v]
def lQ{td:TypeId}{h:H}{x:PS}(hx:Ao td h x)(k:Nat):((rowP x).map (snap h (k+1))).map wk=x.2.d /\ ∀c∈rowP x,dP h (k+2) c:=by
 obtain⟨h1,h2⟩:=hx
 have hr:aC (.mrow x.1 0 x.2.set.data.length) h=x.2.set.data.map Dat.d:=by simp only[aC,h1,X6];exact Yl (by simp)
 refine⟨?_,?_⟩
 . simp only[rowP,X8,Yz,snap_v,snap_mrow,snap_list,hr,Qz];simp only[wk,ui,Sgd.d,h2,Yz,eG]
 intro c hc
 simp only[rowP,Ym,YZ,or_false]at hc
 rcases hc with rfl|rfl|rfl|rfl|rfl
 . rfl
 . rfl
 . rfl
 .
  refine⟨⟨by rw[h1];rfl,by rw[hr];simp⟩,?_⟩
  rw[hr];intro row hrow c hc;obtain⟨d,_,rfl⟩:=Yt.1 hrow;simp only[Dat.d,Ym,YZ,or_false]at hc
  rcases hc with rfl|rfl|rfl<;>cases k<;>rfl
 rfl
theorem Qw{td:TypeId}{h:H}{p:List PS}(hp : ∀x∈p,Ao td h x)(k:Nat):eG ((p.map rowP).map (λrow=>row.map (snap h (k+1))))=(lP p).map Sgd.d:=by
 rw[KM,List.map_map,List.map_map,lP,List.map_map]
 refine Zd λx hx=>?_
 have:=(lQ (hp x hx) k).1
 simp only[Function.comp_apply,u6]
 exact this
def Qv{td ts:TypeId}{h:H}{rs:Nat}{p:List PS}(hr:h rs=some ⟨ts,p.map rowP⟩)(hp : ∀x∈p,Ao td h x):wk (snap h 4 (.mrow rs 0 p.length)) = .list false ((lP p).map Sgd.d)/\dP h 4 (.mrow rs 0 p.length):=by
 have hrw:aC (.mrow rs 0 p.length) h=p.map rowP:=by simp only[aC,hr,X6];exact Yl (by simp)
 refine⟨?_,?_⟩
 . rw[snap_mrow,hrw];simp only[wk,Qw hp]
 refine⟨⟨by rw[hr];rfl,by rw[hrw];simp⟩,?_⟩
 rw[hrw]
 intro row hrow c hc
 obtain⟨x,hx,rfl⟩:=Yt.1 hrow
 exact(lQ (hp x hx) 1).2 c hc
def Qx{td:TypeId}{h:H}{x:PS}(hx:Ao td h x):wk (snap h 4 (.agg (rowP x))) = .agg x.2.d/\dP h 4 (.agg (rowP x)):=by
 refine⟨?_,(lQ hx 1).2⟩
 have:=(lQ hx 2).1
 rw[snap_agg]
 simp only[wk,u6]
 rw[this]
theorem ZM.data{tz ts td:TypeId}{zc rs:Nat}{a:Str}{p:List PS}{h:H}(m:ZM tz ts td zc rs a p h):∀x∈p,Ao td h x:=λx hx=>⟨m.d x hx,m.sig x hx⟩
theorem ZM.snap{tz ts td:TypeId}{zc rs:Nat}{a:Str}{p:List PS}{h:H}(m:ZM tz ts td zc rs a p h):wk (Go.DL.snap h 5 (.agg [.v (.string (bs a)),.mrow rs 0 p.length])) = .agg (Zon.d ⟨a,lP p⟩)/\dP h 5 (.agg [.v (.string (bs a)),.mrow rs 0 p.length]):=by
 obtain⟨h1,h2⟩:=Qv m.r m.data
 refine⟨?_,?_⟩
 . have e:Go.DL.snap h 5 (.agg [.v (.string (bs a)),.mrow rs 0 p.length]) = .agg [.v (.string (bs a)),Go.DL.snap h 4 (.mrow rs 0 p.length)]:=rfl;rw[e];simp only[wk,eB,h1,Zon.d]
 intro c hc
 simp only[Ym,YZ,or_false]at hc
 rcases hc with rfl|rfl
 . rfl
 exact h2
def ZM.keep{tz ts td:TypeId}{zc rs:Nat}{a:Str}{p:List PS}{h h':H}(m:ZM tz ts td zc rs a p h)(hk : ∀q,(q=zc\/q=rs \/ ∃x∈p,q=x.1)->h' q=h q):ZM tz ts td zc rs a p h' :=
 ⟨(hk zc (.inl rfl)).trans m.z,(hk rs (.inr (.inl rfl))).trans m.r,λx hx=>(hk x.1 (.inr (.inr ⟨x,hx,rfl⟩))).trans (m.d x hx),m.zr,m.ne,m.nd,m.sig⟩
def ZM.lt{tz ts td:TypeId}{zc rs:Nat}{a:Str}{p:List PS}{h:H}(m:ZM tz ts td zc rs a p h){n:Nat}(hn : ∀r,n<=r->h r=none):zc<n/\rs<n /\ ∀x∈p,x.1<n:=by
 have key : ∀r b,h r=some b->r<n:=λr b e=>by
  rcases YG r n with k|k
  . exact k
  rw[hn r k]at e;cases e
 exact⟨key _ _ m.z,key _ _ m.r,λx hx=>key _ _ (m.d x hx)⟩
section
variable {α : Type} [Inhabited α]
def gN(g:α->List D)(keep:α->Bool)(l:List α)(k:Nat):List (List D):=((l.take k).filter keep).map g++(l.map g).drop ((l.take k).filter keep).length
def j5(keep:α->Bool)(l:List α)(k:Nat):Nat:=((l.take k).filter keep).length
omit [Inhabited α]in
def Bw(keep:α->Bool)(l:List α)(k:Nat):j5 keep l k<=k:=Yh (List.length_filter_le _ _) (by simp;omega)
omit [Inhabited α]in
theorem zM{g:α->List D}{keep:α->Bool}{l:List α}{k:Nat}(hk:k<=l.length):(gN g keep l k).length=l.length:=by
 have:=Bw keep l k
 unfold j5 at this
 simp[gN];omega
def Uu{g:α->List D}{keep:α->Bool}{l:List α}{k:Nat}(hk:k<l.length)(h:keep l[k]! = true):j5 keep l (k+1)=j5 keep l k+1/\(gN g keep l k).set (j5 keep l k) (g l[k]!)=gN g keep l (k+1):=by
 have hle:=Bw keep l k
 have e:(l.take (k+1)).filter keep=(l.take k).filter keep++[l[k]!]:=by rw[rE! hk,List.filter_append,List.filter_cons,h];simp
 refine⟨by simp[j5,e],?_⟩
 unfold j5 at hle ⊢
 unfold gN
 rw[e]
 generalize (l.take k).filter keep=A at hle ⊢
 rw[List.set_append_right _ _ (by simp),Zm,Yq,YT,XZ,Yu]
 congr 1
 have hd:(l.map g).drop A.length=g l[A.length]! :: (l.map g).drop (A.length+1):=by
  rw[getElem!_pos l A.length (by omega),YC (by simp;omega)]
  simp
 rw[hd]
 simp
def Je{g:α->List D}{keep:α->Bool}{l:List α}{k:Nat}(hk:k<l.length)(h:keep l[k]! = false):j5 keep l (k+1)=j5 keep l k/\gN g keep l (k+1)=gN g keep l k:=by
 have e:(l.take (k+1)).filter keep=(l.take k).filter keep:=by rw[rE! hk,List.filter_append,List.filter_cons,h];simp
 exact⟨by simp[j5,e],by simp[gN,e]⟩
def Ux{g:α->List D}{keep:α->Bool}{l:List α}{k:Nat}(hk:k<l.length):(gN g keep l k).getD k []=g l[k]! := by
 have hle:=Bw keep l k
 unfold j5 at hle
 unfold gN
 generalize (l.take k).filter keep=A at hle ⊢
 rw[List.getD_eq_getElem?_getD,YM (by simp;omega),Y2,Zm]
 rw[show A.length+(k-A.length)=k from by omega]
 rw[getElem!_pos l k hk]
 simp[hk]
def Uy{g:α->List D}{keep:α->Bool}{l:List α}{k:Nat}(hk:k<=l.length)(h : ∀i,i<k->keep l[i]! = true):j5 keep l k=k/\gN g keep l k=l.map g:=by
 have e:(l.take k).filter keep=l.take k:=Y1.2 λx hx=>by
  obtain⟨i,hi,rfl⟩:=kV.1 hx;have hi':i<k:=by simp at hi;omega
  rw[show(l.take k)[i]! = l[i]! from by rw[getElem!_pos _ i hi,getElem!_pos l i (by omega),List.getElem_take]]
  exact h i hi'
 have hl:(l.take k).length=k:=by simp;omega
 refine⟨by simp only[j5,e];exact hl,?_⟩
 simp only[gN,e,hl]
 rw[ZF]
 exact Y7 _ _
omit [Inhabited α]in
def Uw{g:α->List D}{keep:α->Bool}{l:List α}:(gN g keep l l.length).take (j5 keep l l.length)=(l.filter keep).map g/\j5 keep l l.length=(l.filter keep).length:=by
 refine⟨?_,by simp[j5]⟩
 unfold gN j5
 rw[Yn,List.take_append_of_le_length (by simp),Yl (by simp)]
end
def dV{α:Type}[Inhabited α](q:α->Bool)(l:List α)(k:Nat):Int:=if k<l.length then(if q l[k]! = true then(k:Int)else dV q l (k+1))else -1
termination_by l.length-k
theorem yE{α:Type}[Inhabited α](q:α->Bool)(l:List α)(k:Nat):dV q l k=if k<l.length then(if q l[k]! = true then(k:Int)else dV q l (k+1))else -1:=by rw[dV]
theorem Gc{α:Type}[Inhabited α](q:α->Bool)(l:List α):∀n k,l.length-k<=n->(dV q l k = -1 /\ ∀i,k<=i->i<l.length->q l[i]! = false) \/ ∃j,dV q l k=(j:Nat)/\k<=j/\j<l.length/\q l[j]! = true /\ ∀i,k<=i->i<j->q l[i]! = false:=by
 intro n
 induction n with
 | zero=>intro k h;left;rw[yE,XV (by omega)];exact⟨rfl,λi h1 h2=>by omega⟩
 | succ n ih =>
  intro k h;rw[yE]
  by_cases hk:k<l.length
  .
   rw[X3 hk]
   by_cases hq:q l[k]! = true
   . rw[X3 hq];exact .inr ⟨k,rfl,XX _,hk,hq,λi h1 h2=>by omega⟩
   rw[XV hq];have hq':q l[k]! = false:=by simpa using hq
   rcases ih (k+1) om with⟨h1,h2⟩|⟨j,h1,h2,h3,h4,h5⟩
   .
    exact .inl ⟨h1,λi h3 h4=>by
     by_cases e:i=k
     . rw[e];exact hq'
     exact h2 i om h4⟩
   exact .inr ⟨j,h1,om,h3,h4,λi h6 h7=>by
    by_cases e:i=k
    . rw[e];exact hq'
    exact h5 i om h7⟩
  rw[XV hk];exact .inl ⟨rfl,λi h1 h2=>by omega⟩
end Go.Zon
namespace Go.Zon
open Go.DL Go.Str Go.Rec Go.Cmp
def Fu:D->Int
 | .eptr [.v (.int _ k)]=>k
 | _=>0
@[go_sem]theorem intp1_i{k:IntKind}{n:Int}:Fu (.eptr [.v (.int k n)])=n:=rfl
def AQ:D->RSet
 | .eptr l=>set1 (.agg l)
 | _=>default
@[go_sem]theorem Zlj{l:List D}:AQ (.eptr l)=set1 (.agg l):=rfl
def GI:D->Chg
 | .eptr l=>yN (.agg l)
 | _=>default
@[go_sem]theorem ZmJ{l:List D}:GI (.eptr l)=yN (.agg l):=rfl
def GG:D->Int
 | .fn _ _ [d]=>Fu d
 | _=>0
@[go_sem]theorem ZmG{f:Fn}{x:List D}{d:D}:GG (.fn f x [d])=Fu d:=rfl
def Xf:D->RSet
 | .fn _ _ [d]=>AQ d
 | _=>default
def tJ(s:Sgd):Bool:=decide (0<s.sigs.length)||decide (s.set.ty=8)
def dU(n:Str)(s:Sgd):Bool:=decide (s.set.name=n)
def dX(l:List Dat)(x:Dat):Bool:=decide (x∈l)
theorem NQ{α:Type}[Inhabited α](q:α->Bool)(l:List α):decide (0<=dV q l 0) = !aA l.length (λi=>!q l[i]!) 0:=by
 rcases Gc q l _ 0 (XX _)with⟨h1,h2⟩|⟨j,h1,h2,h3,h4,h5⟩
 .
  rw[h1];have:aA l.length (λi=>!q l[i]!) 0=true:=by
   rw[eF];intro i _ hi;show(!q l[i]!)=true;rw[h2 i (Yi _) hi];rfl
  rw[this];rfl
 rw[h1]
 have:aA l.length (λi=>!q l[i]!) 0=false:=by
  rw[Bool.eq_false_iff];intro h;rw[eF]at h;have:(!q l[j]!)=true:=h j (Yi _) h3;rw[h4]at this
  cases this
 rw[this];simp
theorem ZeC(z:Zon):jG z = !decide (0<=dV tJ z.sets 0):=by
 rw[NQ,Bool.not_not]
 rfl
theorem TB(z:Zon)(n:Str):I5 z n=decide (0<=dV (dU n) z.sets 0):=by
 rw[NQ]
 unfold I5
 congr 2
 funext i
 show(!(z.sets[i]!.set.name==n))=(!decide (z.sets[i]!.set.name=n))
 rw[YL]
 simp
theorem Gg{α:Type}[Inhabited α]{q:α->Bool}{l:List α}{k:Nat}(hk:k<l.length)(h:q l[k]! = true):dV q l k=k:=by rw[yE,X3 hk,X3 h]
theorem Gh{α:Type}[Inhabited α]{q:α->Bool}{l:List α}{k:Nat}(hk:k<l.length)(h:q l[k]! = false):dV q l k=dV q l (k+1):=by
 rw[yE,X3 hk,XV (by rw[h];exact Bool.false_ne_true)]
theorem Gi{α:Type}[Inhabited α]{q:α->Bool}{l:List α}{k:Nat}(hk : ¬k<l.length):dV q l k = -1:=by rw[yE,XV hk]
theorem Zhy(l:List Dat)(x:Dat):dX l x=decide (0<=dV (λy=>decide (x=y)) l 0):=by
 rw[NQ]
 unfold dX
 rw[YL,XW,Yb,Bool.eq_false_iff,Ne,eF]
 constructor
 .
  intro h k;obtain⟨i,hi,rfl⟩:=kV.1 h;have:=k i (Yi _) hi
  simp at this
 intro h
 apply YV
 intro hx
 refine h λi _ hi=>?_
 have:x≠l[i]! := λe=>hx (kV.2 ⟨i,hi,e.symm⟩)
 simpa using this
def qM(z:Zon)(n:Chg):Bool :=
 if n.kind=1\/n.kind=2 then decide (0<=dV (dU n.set.name) z.sets 0)==decide (n.kind=1)else
 if n.kind=3 then dB z.sets n.q else if n.kind=4 then !dB z.sets n.q else dB z.sets n.q&&decide (z.sets[bz z.sets n.q]!.set.data=n.set.data)
theorem Zin(a b:RSet):decide (a=b)=(a.name==b.name&&a.ty==b.ty&&a.life==b.life&&decide (a.data=b.data)):=by
 cases a;cases b;rw[YL];simp[and_assoc]
def NS{l:List Sgd}{q:ak}(h:dB l q=true):bz l q<l.length:=by
 unfold dB at h
 rw[XU,XW]at h
 exact h.1
def zU(td:TypeId)(h:H)(p:List PS):H:=p.foldl (λh x=>upd h x.1 (some ⟨td,x.2.set.data.map Dat.d⟩)) h
theorem Zhp{td:TypeId}{h:H}{p:List PS}{x:PS}:zU td h (p++[x])=upd (zU td h p) x.1 (some ⟨td,x.2.set.data.map Dat.d⟩):=by simp[zU]
theorem Js{td:TypeId}{q:Nat}:∀{p:List PS}{h:H},(∀x∈p,x.1≠q)->zU td h p q=h q
 | [],_,_=>rfl
 | x::p,h,hn=>by
  show zU td (upd h x.1 _) p q=_
  rw[Js λy hy=>hn y (List.mem_cons_of_mem _ hy),aK _ _ _ _ λe=>hn x List.mem_cons_self e.symm]
theorem UY{td:TypeId}:∀{p:List PS}{h:H},(p.map (·.1)).Nodup -> ∀x∈p,zU td h p x.1=some ⟨td,x.2.set.data.map Dat.d⟩
 | [],_,_,_,hx=>by cases hx
 | y::p,h,hn,x,hx=>by
  show zU td (upd h y.1 _) p x.1=_
  rw[X8,List.nodup_cons]at hn
  rcases Ym.1 hx with rfl|hx
  . rw[Js λz hz e=>hn.1 (Yt.2 ⟨z,hz,e⟩),bN]
  exact UY hn.2 x hx
def Zfv{p:List PS}{x:PS}(h:(p.map (·.1)).Nodup)(hx : ∀y∈p,y.1≠x.1):((p++[x]).map (·.1)).Nodup:=by
 rw[YT,List.nodup_append]
 refine⟨h,by simp,λa ha b hb=>?_⟩
 obtain⟨y,hy,rfl⟩:=Yt.1 ha
 simp only[X8,Yz,Yo]at hb
 rw[hb]
 exact hx y hy
def Sgd.bare(s:Sgd):Sgd:=⟨s.set,[]⟩
theorem Zko{l:List Sgd}{k:Nat}(h:k<l.length):(l.take (k+1)).map Sgd.bare=(l.take k).map Sgd.bare++[l[k]!.bare]:=by rw[rE! h,YT];rfl
def Zgs{p:List PS}{l:List Sgd}{k:Nat}(h:lP p=(l.take k).map Sgd.bare)(hk:k<=l.length):p.length=k:=by
 have:=congrArg List.length h
 simp[lP]at this
 omega
def ZdQ{p:List PS}{k m:Nat}{z:List D}(hk:p.length=k)(hm:k<m):(p.map rowP++List.replicate (m-k) z).getD k []=z:=by
 subst hk
 rw[List.getD_eq_getElem?_getD,YM (by simp),Zm,Yq,List.getElem?_replicate,X3 (by omega)]
 rfl
def ZdL{p:List PS}{x:PS}{k m:Nat}{z:List D}(hk:p.length=k)(hm:k<m):(p.map rowP++List.replicate (m-k) z).set k (rowP x)=(p++[x]).map rowP++List.replicate (m-(k+1)) z:=by
 subst hk
 rw[List.set_append_right _ _ (by simp)]
 have e:m-p.length=(m-(p.length+1))+1:=by omega
 rw[e,List.replicate_succ]
 simp
theorem H7(h:H)(k:Nat)(l:List D):snap h k (.eptr l) = .eptr l:=by cases k<;>rfl
def ZgG{α:Type}{g:α->List D}{keep:α->Bool}{l:List α}{k:Nat}{row:List D}(h:row∈gN g keep l k):∃x∈l,row=g x:=by
 unfold gN at h
 rcases Yx.1 h with h|h
 . obtain⟨x,hx,rfl⟩:=Yt.1 h;exact⟨x,List.mem_of_mem_take (Zr.1 hx).1,rfl⟩
 obtain⟨x,hx,rfl⟩:=Yt.1 (List.mem_of_mem_drop h)
 exact⟨x,hx,rfl⟩
def Uv{α:Type}{g:α->List D}{keep:α->Bool}{l:List α}{k i m:Nat}(hg : ∀x,(g x).length=m)(hi:i<(gN g keep l k).length):((gN g keep l k).getD i []).length=m:=by
 have h:(gN g keep l k).getD i []∈gN g keep l k:=by
  rw[List.getD_eq_getElem?_getD,Yg hi];exact YI hi
 obtain⟨x,_,e⟩:=ZgG h
 rw[e,hg]
def Zh4{α:Type}[Inhabited α]{q:α->Bool}{l:List α}(h : ¬dV q l 0 = -1):∃j:Nat,dV q l 0=(j:Int)/\j<l.length/\q l[j]! = true /\ ∀i,i<j->q l[i]! = false:=by
 rcases Gc q l _ 0 (XX _)with⟨g1,_⟩|⟨j,g1,_,g3,g4,g5⟩
 . exact absurd g1 h
 exact⟨j,g1,g3,g4,λi hi=>g5 i (Yi _) hi⟩
def Zh6{α:Type}[Inhabited α]{q:α->Bool}{l:List α}(h:dV q l 0 = -1):l.filter (λx=>!q x)=l:=by
 rcases Gc q l _ 0 (XX _)with⟨_,g2⟩|⟨j,g1,_,g3,g4,g5⟩
 .
  refine Y1.2 λx hx=>?_
  obtain⟨i,hi,rfl⟩:=kV.1 hx;have:q l[i]! = false:=g2 i (Yi _) hi;rw[this];rfl
 rw[h]at g1;omega
def Zcu{td:TypeId}{h:H}{r:Nat}{l:List Dat}(hr:h r=some ⟨td,l.map Dat.d⟩):wk (snap h 2 (.mrow r 0 l.length)) = .list false (l.map Dat.d)/\dP h 2 (.mrow r 0 l.length):=by
 have hrw:aC (.mrow r 0 l.length) h=l.map Dat.d:=by simp only[aC,hr,X6];exact Yl (by simp)
 refine⟨?_,?_⟩
 . rw[snap_mrow,hrw];simp only[wk,Qz,ui]
 refine⟨⟨by rw[hr];rfl,by rw[hrw];simp⟩,?_⟩
 rw[hrw]
 intro row hrow c hc
 obtain⟨d,_,rfl⟩:=Yt.1 hrow
 simp only[Dat.d,Ym,YZ,or_false]at hc
 rcases hc with rfl|rfl|rfl<;>rfl
def Ad(a b:List Sgd):Bool:=decide (a.length=b.length)&&aA a.length (λi=>decide (a[i]!.set=b[i]!.set)) 0
def gW(l:List Dat):Nat->List Dat
 | 0=>[]
 | k+1=>if k=0\/l[k]! ≠ l[k-1]! then gW l k++[l[k]!]else gW l k
def qU(l:List Dat):List Dat:=gW l l.length
theorem Ce{l:List Dat}{k:Nat}(h:k=0\/l[k]! ≠ l[k-1]!):gW l (k+1)=gW l k++[l[k]!]:=X3 h
theorem Cf{l:List Dat}{k:Nat}(h : ¬(k=0\/l[k]! ≠ l[k-1]!)):gW l (k+1)=gW l k:=XV h
theorem J7(l:List Dat):∀k,(gW l k).length<=k
 | 0=>XX _
 | k+1=>by
  have:=J7 l k
  by_cases h:k=0\/l[k]! ≠ l[k-1]!
  . rw[Ce h,XZ];simp;omega
  rw[Cf h];omega
theorem J6{l:List Dat}:∀k,k<=l.length->(∀i,0<i->i<k->l[i]! ≠ l[i-1]!)->gW l k=l.take k
 | 0,_,_=>by simp[gW]
 | k+1,hk,h=>by
  rw[Ce,J6 k (by omega) (λi h1 h2=>h i h1 (by omega)),rE! (by omega)]
  by_cases e:k=0
  . exact .inl e
  exact .inr (h k om om)
theorem Od{l:List Dat}(hs:l.Pairwise λa b=>dZ a b<=0):∀k,k<=l.length->jT dZ (gW l k) /\ ∀x,x∈gW l k↔x∈l.take k
 | 0,_=>⟨.nil,λx=>by simp[gW]⟩
 | k+1,hk=>by
  obtain⟨h1,h2⟩:=Od hs k om;have hat : ∀i j,i<j->j<l.length->dZ l[i]! l[j]! <= 0:=λi j hij hj=>by
   rw[getElem!_pos l i (by omega),getElem!_pos l j hj]
   exact ZI.1 hs i j om hj hij
  by_cases h:k=0\/l[k]! ≠ l[k-1]!
  .
   rw[Ce h,rE! (by omega)]
   refine⟨Zf.2 ⟨h1,Z7 _ _,λx hx y hy=>?_⟩,λx=>by rw[Yx,Yx,h2]⟩
   rw[Yo]at hy;subst hy;obtain⟨i,hi,rfl⟩:=kV.1 ((h2 x).1 hx);have hi':i<k:=by simp at hi;omega
   rw[show(l.take k)[i]! = l[i]! from by rw[getElem!_pos _ i hi,getElem!_pos l i (by omega),List.getElem_take]]
   have hne:=h.resolve_left (by omega)
   have hlt:dZ l[k-1]! l[k]! < 0:=by
    have:=hat (k-1) k om om;have h3:dZ l[k-1]! l[k]! ≠ 0:=λe=>hne (WH e).symm
    omega
   by_cases e:i=k-1
   . rw[e];exact hlt
   exact tY.le_lt (hat i (k-1) om om) hlt
  rw[Cf h,rE! (by omega)]
  refine⟨h1,λx=>?_⟩
  rw[h2,Yx,Yo];refine⟨.inl,λh3=>h3.elim id λe=>?_⟩
  have e2:l[k]! = l[k-1]! := YV λq=>h (.inr q)
  have hk0:k≠0:=λq=>h (.inl q)
  rw[e,e2];refine kV.2 ⟨k-1,by simp;omega,?_⟩
  rw[getElem!_pos _ (k-1) (by simp;omega),getElem!_pos l (k-1) (by omega),List.getElem_take]
def ZiX{l:List Dat}(hs:l.Pairwise λa b=>dZ a b<=0):jT dZ (qU l):=(Od hs _ (XX _)).1
theorem ZiY{l:List Dat}(hs:l.Pairwise λa b=>dZ a b<=0){x:Dat}:x∈qU l↔x∈l:=by
 have:=(Od hs _ (XX _)).2 x
 rwa [Yn]at this
def lK(l:List Dat)(k:Nat):List (List D):=(gW l k).map Dat.d++(l.map Dat.d).drop (gW l k).length
theorem Oe{l:List Dat}{k:Nat}(hk:k<=l.length):(lK l k).length=l.length:=by
 have:=J7 l k
 unfold lK;simp;omega
def Og{l:List Dat}{k i:Nat}(h1:(gW l k).length<=i)(h2:i<l.length):(lK l k).getD i []=[.v (.string (bs l[i]!.t)),.i l[i]!.n,.i l[i]!.m]:=by
 unfold lK
 rw[List.getD_eq_getElem?_getD,YM (by simpa using h1),Y2,Zm,show(gW l k).length+(i-(gW l k).length)=i from by omega,YU,Yg h2,getElem!_pos l i h2]
 rfl
def ZiV{l:List Dat}{k:Nat}(h:k=0\/l[k]! ≠ l[k-1]!)(hk:k<l.length):(lK l k).set (gW l k).length [.v (.string (bs l[k]!.t)),.i l[k]!.n,.i l[k]!.m]=lK l (k+1):=by
 have:=J7 l k
 unfold lK
 rw[Ce h,List.set_append_right _ _ (by simp),Zm,Yq,YC (by simp;omega),YP,XZ,YT,Yu]
 rfl
theorem We{l:List Dat}{k:Nat}(h : ¬(k=0\/l[k]! ≠ l[k-1]!)):lK l (k+1)=lK l k:=by unfold lK;rw[Cf h]
theorem ZiU(l:List Dat)(k:Nat):(lK l k).take (gW l k).length=(gW l k).map Dat.d:=by
 unfold lK
 rw[List.take_append_of_le_length (by simp),Yl (by simp)]
theorem ZiW{l:List Dat}{k:Nat}(hk:k<=l.length)(h : ∀i,0<i->i<k->l[i]! ≠ l[i-1]!):lK l k=l.map Dat.d:=by
 unfold lK
 rw[J6 k hk h,YA,ZK hk,<-List.map_drop,<-YT,Y7]
theorem J8{l:List Dat}(h : ∀i,0<i->i<l.length->l[i]! ≠ l[i-1]!):qU l=l:=by
 unfold qU
 rw[J6 _ (XX _) h,Yn]
def ZM.shrink{tz ts td:TypeId}{zc rs:Nat}{a:Str}{p p':List PS}{h h':H}(m:ZM tz ts td zc rs a p h)(hs:p'.Sublist p)(hz:h' zc=some ⟨tz,[[.v (.string (bs a)),.mrow rs 0 p'.length]]⟩)(hr:h' rs=some ⟨ts,p'.map rowP⟩)(hd : ∀x∈p,h' x.1=h x.1):ZM tz ts td zc rs a p' h' :=
 ⟨hz,hr,λx hx=>(hd x (hs.subset hx)).trans (m.d x (hs.subset hx)),m.zr,λx hx=>m.ne x (hs.subset hx),(hs.map _).nodup m.nd,λx hx=>m.sig x (hs.subset hx)⟩
def ku(tz ts td:TypeId)(zc:Nat)(a:Str)(l:List Sgd)(h h':H)(n n':Nat):Prop :=
 ∃rs p,ZM tz ts td zc rs a p h'/\lP p=l/\(∀q b,h q=some b->b.ty≠ts->b.ty≠td->q≠zc->h' q=some b)/\n<=n'
theorem Zgv(p:List PS)(i:Nat):lP (p.eraseIdx i)=(lP p).eraseIdx i:=by simp[lP,List.eraseIdx_eq_take_drop_succ,ZF,List.map_drop]
theorem XP{p:List PS}:∀q∈p.map rowP,q.length=5:=λq hq=>by
 obtain⟨x,_,rfl⟩:=Yt.1 hq
 rfl
theorem Zf1{α β:Type}(f:α->β)(l:List α)(i:Nat):(l.map f).eraseIdx i=(l.eraseIdx i).map f:=by simp[List.eraseIdx_eq_take_drop_succ,ZF,List.map_drop]
def Qg{tz ts td:TypeId}{zc rs:Nat}{a:Str}{p p':List PS}{h:H}{n n':Nat}(hz:ZM tz ts td zc rs a p h)(hs:p'.Sublist p)(hn:n<=n'):ku tz ts td zc a (lP p') h (upd (upd h rs (some ⟨ts,p'.map rowP⟩)) zc (some ⟨tz,[[.v (.string (bs a)),.mrow rs 0 p'.length]]⟩)) n n':=by
 refine⟨rs,p',hz.shrink hs (bN _ _ _) ?_ (λx hx=>?_),rfl,λq b h1 h2 h3 h4=>?_,hn⟩
 . rw[aK _ _ _ _ (λe=>hz.zr e.symm),bN]
 . have:=hz.ne x hx;rw[aK _ _ _ _ this.1,aK _ _ _ _ this.2]
 have h5:q≠rs:=λe=>h2 (by rw[e,hz.r]at h1;cases h1;rfl)
 rw[aK _ _ _ _ h4,aK _ _ _ _ h5]
 exact h1
def ZM.fresh{tz ts td:TypeId}{zc rs:Nat}{a:Str}{p:List PS}{h:H}(m:ZM tz ts td zc rs a p h){q:Nat}{b:Option eZ}(hq:h q=none):ZM tz ts td zc rs a p (upd h q b) :=
 m.keep λr hr=>aK _ _ _ _ λe=>by
  subst e
  rcases hr with rfl|rfl|⟨x,hx,rfl⟩
  . rw[m.z]at hq;cases hq
  . rw[m.r]at hq;cases hq
  rw[m.d x hx]at hq;cases hq
def ku.of_fresh{tz ts td:TypeId}{zc:Nat}{a:Str}{l:List Sgd}{h h':H}{n n1 n':Nat}{q:Nat}{b:Option eZ}{n2:Nat}(s:ku tz ts td zc a l (upd h q b) h' n1 n')(hq:h q=none)(hn:n<=n1)(hn2:n'<=n2):ku tz ts td zc a l h h' n n2:=by
 obtain⟨rs,p,h1,h2,h3,h4⟩:=s
 refine⟨rs,p,h1,h2,λr c hr k1 k2 k3=>h3 r c ?_ k1 k2 k3,Yh hn (Yh h4 hn2)⟩
 rw[aK _ _ _ _ (λe=>by rw[e,hq]at hr;cases hr)]
 exact hr
def ku.same{tz ts td:TypeId}{zc rs:Nat}{a:Str}{p:List PS}{h:H}{n n':Nat}(m:ZM tz ts td zc rs a p h)(hn:n<=n'):ku tz ts td zc a (lP p) h h n n':=⟨rs,p,m,rfl,λ_ _ h _ _ _=>h,hn⟩
def AR(l:List Sgd)(t:RSet):List Sgd:=if dB l ⟨t.name,t.ty⟩=true then l.eraseIdx (bz l ⟨t.name,t.ty⟩)else l
def ku.after{tz ts td:TypeId}{zc:Nat}{a:Str}{l:List Sgd}{h h1 h2:H}{n n1 n2 n3:Nat}(s:ku tz ts td zc a l h1 h2 n1 n2)(k : ∀q b,h q=some b->b.ty≠ts->b.ty≠td->q≠zc->h1 q=some b)(hn:n<=n1)(hn2:n2<=n3):ku tz ts td zc a l h h2 n n3:=by
 obtain⟨rs,p,h1,h2,h3,h4⟩:=s
 exact⟨rs,p,h1,h2,λr c hr k1 k2 k3=>h3 r c (k r c hr k1 k2 k3) k1 k2 k3,Yh hn (Yh h4 hn2)⟩
def Sgd.withD(s:Sgd)(d:List Dat):Sgd:=⟨{ s.set with data:=d },[]⟩
theorem Ri{p:List PS}{i:Nat}{y:PS}:(p.map rowP).set i (rowP y)=(p.set i y).map rowP:=by rw[List.map_set]
def LF{p:List PS}{i:Nat}(hi:i<p.length):(p.map rowP).getD i []=rowP p[i]! := by simp[List.getD,hi,getElem!_pos]
def ZdP{p:List (List D)}{i:Nat}{y:List D}(hi:i<p.length):(p.set i y).getD i []=y:=by simp[List.getD,hi]
theorem TA{p:List PS}{i:Nat}{y:PS}(hi:i<p.length)(hy:y.1=p[i]!.1):(p.set i y).map (·.1)=p.map (·.1):=by
 rw[List.map_set,hy,getElem!_pos p i hi]
 have:p[i].1=(p.map (·.1))[i]'(by simpa using hi):=by simp
 rw[this,List.set_getElem_self]
def Dg{p:List PS}{i:Nat}{y x:PS}(hx:x∈p.set i y):x=y\/x∈p:=(List.mem_or_eq_of_mem_set hx).symm
def Zfw{p:List PS}(h:(p.map (·.1)).Nodup){i:Nat}(hi:i<p.length){y:PS}(hy:y.1=p[i]!.1){x:PS}(hx:x∈p.set i y)(hne:x≠y):x∈p/\x.1≠p[i]!.1:=by
 have hn:((p.set i y).map (·.1)).Nodup:=by rw[TA hi hy];exact h
 refine⟨(Dg hx).resolve_left hne,λe=>hne ?_⟩
 have hy2:y∈p.set i y:=List.mem_iff_getElem.2 ⟨i,by simpa using hi,by simp⟩
 obtain⟨j,hj,rfl⟩:=Zj hx
 obtain⟨k,hk,ek⟩:=Zj hy2
 have e2:((p.set i y).map (·.1))[j]'(by simpa using hj)=((p.set i y).map (·.1))[k]'(by simpa using hk):=by
  simp only[List.getElem_map];rw[ek,e,hy]
 have:=(List.getElem_inj hn).1 e2
 subst this
 exact ek
def ZM.setD{tz ts td:TypeId}{zc rs:Nat}{a:Str}{p:List PS}{h h':H}(m:ZM tz ts td zc rs a p h){i:Nat}(hi:i<p.length)(d:List Dat)(hz:h' zc=h zc)(hr:h' rs=some ⟨ts,(p.map rowP).set i (rowP (p[i]!.1,p[i]!.2.withD d))⟩)(hd:h' p[i]!.1=some ⟨td,d.map Dat.d⟩)(ho : ∀x∈p,x.1≠p[i]!.1->h' x.1=h x.1) :
  ZM tz ts td zc rs a (p.set i (p[i]!.1,p[i]!.2.withD d)) h':=by
 have hin:p[i]! ∈ p:=by rw[getElem!_pos p i hi];exact YI hi
 refine⟨by rw[hz,m.z,Z8],by rw[hr,Ri],λx hx=>?_,m.zr,λx hx=>?_,by rw[TA (y:=(p[i]!.1,p[i]!.2.withD d)) hi rfl];exact m.nd,λx hx=>?_⟩
 .
  by_cases e:x=(p[i]!.1,p[i]!.2.withD d)
  . subst e;exact hd
  obtain⟨h1,h2⟩:=Zfw (y:=(p[i]!.1,p[i]!.2.withD d)) m.nd hi rfl hx e;rw[ho x h1 h2];exact m.d x h1
 .
  rcases Dg hx with e|hx
  . rw[e];exact m.ne p[i]! hin
  exact m.ne x hx
 rcases Dg hx with rfl|hx
 . rfl
 exact m.sig x hx
def xI(l:List Sgd)(t:RSet):List Sgd :=
 if dB l ⟨t.name,t.ty⟩=true then
  (if(l[bz l ⟨t.name,t.ty⟩]!.set.data.filter λx=>!dX t.data x).length=0 then l.eraseIdx (bz l ⟨t.name,t.ty⟩)
   else l.set (bz l ⟨t.name,t.ty⟩) (l[bz l ⟨t.name,t.ty⟩]!.withD (l[bz l ⟨t.name,t.ty⟩]!.set.data.filter λx=>!dX t.data x)))
 else l
theorem Zij{α:Type}(l:List α)(i:Nat)(y:α):(l.set i y).eraseIdx i=l.eraseIdx i:=by
 rw[List.eraseIdx_eq_take_drop_succ,List.eraseIdx_eq_take_drop_succ,List.take_set_of_le (XX _),List.drop_set_of_lt (Nat.lt_succ_self _)]
theorem Jc{p:List PS}{i:Nat}{y:PS}:lP (p.set i y)=(lP p).set i y.2:=by simp[lP,List.map_set]
theorem K8{l:List Sgd}{t:RSet}(hf:dB l ⟨t.name,t.ty⟩=false):xI l t=l:=by unfold xI;rw[XV o5d]
theorem K9{p:List PS}{t:RSet}{ix:Nat}(hf:dB (lP p) ⟨t.name,t.ty⟩=true)(hix:ix=bz (lP p) ⟨t.name,t.ty⟩)(hi:ix<p.length)(hn : ¬(p[ix]!.2.set.data.filter λx=>!dX t.data x).length=0) :
  lP (p.set ix (p[ix]!.1,p[ix]!.2.withD (p[ix]!.2.set.data.filter λx=>!dX t.data x)))=xI (lP p) t:=by
 unfold xI
 rw[X3 hf,<-hix,Dl hi,XV hn,Jc]
theorem La{p:List PS}{t:RSet}{ix:Nat}(hf:dB (lP p) ⟨t.name,t.ty⟩=true)(hix:ix=bz (lP p) ⟨t.name,t.ty⟩)(hi:ix<p.length)(hn:(p[ix]!.2.set.data.filter λx=>!dX t.data x).length=0)(y:PS) :
  (lP (p.set ix y)).eraseIdx ix=xI (lP p) t:=by
 unfold xI
 rw[X3 hf,<-hix,Dl hi,X3 hn,Jc,Zij]
def KH(o:List Dat)(t:RSet):List Dat:=if t.ty≠3/\t.ty≠4 then o6 o t.data else t.data
def Cr(l:List Sgd)(t:RSet):List Sgd :=
 if dB l ⟨t.name,t.ty⟩=true then l.set (bz l ⟨t.name,t.ty⟩) ⟨{ t with data:=KH l[bz l ⟨t.name,t.ty⟩]!.set.data t },[]⟩
 else l.take (bz l ⟨t.name,t.ty⟩)++⟨t,[]⟩::l.drop (bz l ⟨t.name,t.ty⟩)
theorem ZiT{a b l:List Dat}(ha:jT dZ a)(hb:jT dZ b)(hp:l.Perm (b++a))(hs:Sorted dZ l):qU l=o6 a b:=by
 have hs':l.Pairwise λa b=>dZ a b<=0:=hs
 obtain⟨h1,h2⟩:=ZfL _ a b (XX _) ha hb
 refine Ex tY (ZiX hs') h1 λx=>?_
 rw[ZiY hs',h2,hp.mem_iff,Yx]
 exact Or.comm
theorem ZM.setP{tz ts td:TypeId}{zc rs:Nat}{a:Str}{p:List PS}{h h':H}(m:ZM tz ts td zc rs a p h){i:Nat}(hi:i<p.length){r:Nat}{s:RSet}(hz:h' zc=h zc)(hr:h' rs=some ⟨ts,(p.map rowP).set i (rowP (r,⟨s,[]⟩))⟩)(hd:h' r=some ⟨td,s.data.map Dat.d⟩)
  (hf : ∀x∈p,x.1≠r)(hrz:r≠zc/\r≠rs)(ho : ∀x∈p,h' x.1=h x.1):ZM tz ts td zc rs a (p.set i (r,⟨s,[]⟩)) h':=by
 refine⟨by rw[hz,m.z,Z8],by rw[hr,Ri],λx hx=>?_,m.zr,λx hx=>?_,?_,λx hx=>?_⟩
 .
  rcases Dg hx with rfl|hx
  . exact hd
  rw[ho x hx];exact m.d x hx
 .
  rcases Dg hx with rfl|hx
  . exact hrz
  exact m.ne x hx
 .
  rw[List.map_set];have hn:r ∉ p.map (·.1):=λhc=>by
   obtain⟨x,hx,e⟩:=Yt.1 hc;exact hf x hx e
  exact nodup_set_new m.nd hn
 rcases Dg hx with rfl|hx
 . rfl
 exact m.sig x hx
where
 nodup_set_new {l:List Nat} {i r:Nat} (h:l.Nodup) (hr:r ∉ l):(l.set i r).Nodup:=by
  induction l generalizing i with
  | nil=>simp
  | cons x l ih =>
   rw[List.nodup_cons]at h;have hr1:r≠x:=λe=>hr (by simp[e])
   have hr2:r ∉ l:=λe=>hr (by simp[e])
   cases i with
   | zero=>rw[YP,List.nodup_cons];exact⟨hr2,h.2⟩
   | succ i =>
    rw[YW,List.nodup_cons];refine⟨λhc=>?_,ih h.2 hr2⟩
    rcases List.mem_or_eq_of_mem_set hc with q|q
    . exact h.1 q
    exact hr1 q.symm
def Zgt{p:List PS}{i:Nat}{y:PS}:lP (p.take i++y::p.drop i)=(lP p).take i++y.2::(lP p).drop i:=by simp[lP,ZF,List.map_drop]
theorem ZdO{p:List PS}{i:Nat}{y:PS}:(p.map rowP).take i++rowP y::(p.map rowP).drop i=(p.take i++y::p.drop i).map rowP:=by simp[ZF,List.map_drop]
def MF{p:List PS}{i:Nat}{y x:PS}(h:x∈p.take i++y::p.drop i):x=y\/x∈p:=by
 rcases Yx.1 h with h|h
 . exact .inr (List.mem_of_mem_take h)
 rcases Ym.1 h with h|h
 . exact .inl h
 exact .inr (List.mem_of_mem_drop h)
def ZM.insP{tz ts td:TypeId}{zc rs rs':Nat}{a:Str}{p:List PS}{h h':H}(m:ZM tz ts td zc rs a p h){i:Nat}(hi:i<=p.length){r:Nat}{s:RSet}(hz:h' zc=some ⟨tz,[[.v (.string (bs a)),.mrow rs' 0 (p.length+1)]]⟩)(hr:h' rs'=some ⟨ts,(p.map rowP).take i++rowP (r,⟨s,[]⟩)::(p.map rowP).drop i⟩)(hd:h' r=some ⟨td,s.data.map Dat.d⟩)
  (hf : ∀x∈p,x.1≠r)(hrz:r≠zc/\r≠rs')(hzz:zc≠rs')(hne : ∀x∈p,x.1≠rs')(ho : ∀x∈p,h' x.1=h x.1):ZM tz ts td zc rs' a (p.take i++(r,⟨s,[]⟩)::p.drop i) h':=by
 refine⟨?_,by rw[hr,ZdO],λx hx=>?_,hzz,λx hx=>?_,?_,λx hx=>?_⟩
 .
  rw[hz];have:(p.take i++(r,(⟨s,[]⟩:Sgd))::p.drop i).length=p.length+1:=by simp;omega
  rw[this]
 .
  rcases MF hx with rfl|hx
  . exact hd
  rw[ho x hx];exact m.d x hx
 .
  rcases MF hx with rfl|hx
  . exact hrz
  exact⟨(m.ne x hx).1,hne x hx⟩
 .
  have hn:r ∉ p.map (·.1):=λhc=>by
   obtain⟨x,hx,e⟩:=Yt.1 hc;exact hf x hx e
  have e:(p.take i++(r,(⟨s,[]⟩:Sgd))::p.drop i).map (·.1)=(p.map (·.1)).take i++r::(p.map (·.1)).drop i:=by simp[ZF,List.map_drop]
  rw[e];have hd2:((p.map (·.1)).take i++(p.map (·.1)).drop i).Nodup:=by rw[Y7];exact m.nd
  rw[List.nodup_append]at hd2 ⊢;refine⟨hd2.1,List.nodup_cons.2 ⟨λhc=>hn (List.mem_of_mem_drop hc),hd2.2.1⟩,λx hx y hy=>?_⟩
  rcases Ym.1 hy with rfl|hy
  . exact λe=>hn (e▸List.mem_of_mem_take hx)
  exact hd2.2.2 x hx y hy
 rcases MF hx with rfl|hx
 . rfl
 exact m.sig x hx
theorem ZkM{l:List Sgd}{t:RSet}(hf:dB l ⟨t.name,t.ty⟩=false):Cr l t=l.take (bz l ⟨t.name,t.ty⟩)++⟨t,[]⟩::l.drop (bz l ⟨t.name,t.ty⟩):=by unfold Cr;rw[XV o5d]
theorem Zaa{p:List PS}{t:RSet}{ix:Nat}(hf:dB (lP p) ⟨t.name,t.ty⟩=true)(hix:ix=bz (lP p) ⟨t.name,t.ty⟩)(hi:ix<p.length){d:List Dat}(hd:d=KH p[ix]!.2.set.data t)(r:Nat):lP (p.set ix (r,⟨{ t with data:=d },[]⟩))=Cr (lP p) t:=by
 unfold Cr
 rw[X3 hf,<-hix,Dl hi,Jc,hd]
def Zia{l:List Sgd}{q:ak}(ho:fq l)(hn : ∀s∈l,az s.set.name=true)(hq:az q.name=true) :
  bz l q<=l.length/\(∀k,k<bz l q->qp l[k]!.q q<0)/\(∀k,bz l q<=k->k<l.length -> ¬qp l[k]!.q q<0):=by
 have hc : ∀k,k<l.length->qC l[k]!.q q=qp l[k]!.q q:=λk hk=>CX (hn _ (eT hk)) hq
 obtain⟨h1,h2⟩:=Xr (λk=>qC l[k]!.q q) l.length (λi j hij hj h=>by
   rw[hc _ (by omega)]
   rw[hc _ hj]at h
   by_cases e:i=j
   . subst e;exact h
   exact Ko.lt_le (wD ho (by omega:i<j) hj) om) _ 0 l.length (XX _) (Yi _) (XX _) (λk hk=>by omega) (λk h1 h2=>by omega)
 have h1 : ∀k,k<bz l q->qC l[k]!.q q<0:=h1
 have h2 : ∀k,bz l q<=k->k<l.length -> ¬qC l[k]!.q q<0:=h2
 have hle:bz l q<=l.length:=(OI _ _ 0 l.length (XX _) (Yi _)).1
 refine⟨hle,λk hk=>?_,λk hk hk2=>?_⟩
 . rw[<-hc k (by omega)];exact h1 k hk
 rw[<-hc k hk2];exact h2 k hk hk2
def JX{l:List Sgd}{q:ak}(hn : ∀s∈l,az s.set.name=true)(hq:az q.name=true)(h:dB l q=true):bz l q<l.length/\l[bz l q]!.q=q:=by
 unfold dB at h
 rw[XU,XW,YB]at h
 refine⟨h.1,?_⟩
 have:=h.2
 rw[CX (hn _ (eT h.1)) hq,zm]at this
 exact this
theorem NT{l:List Sgd}{q:ak}(ho:fq l)(hn : ∀s∈l,az s.set.name=true)(hq:az q.name=true)(h:dB l q=true):fC l q=some l[bz l q]! := by
 rw[Gd ho hn hq,X3 h]
theorem NU{l:List Sgd}{q:ak}(ho:fq l)(hn : ∀s∈l,az s.set.name=true)(hq:az q.name=true)(h:dB l q=false):fC l q=none:=by
 rw[Gd ho hn hq,XV (by rw[h];exact Bool.false_ne_true)]
def Lv{l:List Sgd}(h:fq l){k:Nat}(hk:k<l.length){s:Sgd}(hq:l[k]!.q=s.q):l.set k s=jY l s:=by
 rw[R9 h hk hq,List.set_eq_take_append_cons_drop,X3 hk]
theorem VO{l:List Sgd}(h:fq l){k:Nat}(hk:k<l.length){q:ak}(hq:l[k]!.q=q):l.eraseIdx k=Am l q:=by
 rw[Wu h hk hq,List.eraseIdx_eq_take_drop_succ]
theorem ZcT{z:Zon}(h:oh z){c:Chg}(hc:az c.set.name=true)(hk:c.kind=3):AR z.sets c.set=kJ z.sets c:=by
 unfold AR kJ
 rw[XV (show ¬c.kind=4 by omega),XV (show ¬c.kind=1 by omega),show c.q=⟨c.set.name,c.set.ty⟩from rfl]
 cases hf:dB z.sets ⟨c.set.name,c.set.ty⟩with
 | false=>rw[XV (by simp),NU h.ord h.nms hc hf]
 | true =>
  obtain⟨h1,h2⟩:=JX h.nms (q:=⟨c.set.name,c.set.ty⟩) hc hf;rw[X3 rfl,NT h.ord h.nms hc hf,VO h.ord h1 h2];simp only;rw[XV (λk=>by omega)]
theorem ZbM{z:Zon}(h:oh z){c:Chg}(hc:az c.set.name=true)(hk:c.kind=2):xI z.sets c.set=kJ z.sets c:=by
 unfold xI kJ
 rw[XV (show ¬c.kind=4 by omega),XV (show ¬c.kind=1 by omega),show c.q=⟨c.set.name,c.set.ty⟩from rfl]
 cases hf:dB z.sets ⟨c.set.name,c.set.ty⟩with
 | false=>rw[XV (by simp),NU h.ord h.nms hc hf]
 | true =>
  obtain⟨h1,h2⟩:=JX h.nms (q:=⟨c.set.name,c.set.ty⟩) hc hf;rw[X3 rfl,NT h.ord h.nms hc hf];simp only;have e:(z.sets[bz z.sets ⟨c.set.name,c.set.ty⟩]!.set.data.filter λx=>!dX c.set.data x)=leftD z.sets[bz z.sets ⟨c.set.name,c.set.ty⟩]!.set.data c.set.data:=(Zgm _ _).symm
  rw[e]
  by_cases hd:leftD z.sets[bz z.sets ⟨c.set.name,c.set.ty⟩]!.set.data c.set.data=[]
  . rw[X3 (by rw[hd];rfl),XV (λk=>k.2 hd),VO h.ord h1 h2]
  rw[XV (λk=>hd (Ya k)),X3 ⟨hk,hd⟩]
  exact Lv h.ord h1 rfl
theorem ZkN{z:Zon}(h:oh z){c:Chg}(hc:az c.set.name=true)(hk:c.kind=1):Cr z.sets c.set=kJ z.sets c:=by
 unfold Cr kJ
 rw[XV (show ¬c.kind=4 by omega),X3 hk,show c.q=⟨c.set.name,c.set.ty⟩from rfl]
 cases hf:dB z.sets ⟨c.set.name,c.set.ty⟩with
 | true =>
  obtain⟨h1,h2⟩:=JX h.nms (q:=⟨c.set.name,c.set.ty⟩) hc hf;rw[X3 rfl,NT h.ord h.nms hc hf];exact Lv h.ord h1 h2
 | false =>
  have hn:=NU h.ord h.nms (q:=⟨c.set.name,c.set.ty⟩) hc hf;rw[XV (by simp),hn]
  obtain⟨h1,h2,h3⟩:=Zia h.ord h.nms (q:=⟨c.set.name,c.set.ty⟩) hc;have e:(⟨{ c.set with data:=Kt none c },[]⟩:Sgd)=⟨c.set,[]⟩:=rfl
  rw[e]
  conv=>rhs;rw[<-Y7 (bz z.sets ⟨c.set.name,c.set.ty⟩) z.sets]
  refine(R7 (λx hx=>?_) (λx hx=>?_)).symm
  .
   obtain⟨k,hk,rfl⟩:=kV.1 hx;have hk':k<bz z.sets ⟨c.set.name,c.set.ty⟩:=by simp at hk;omega
   rw[show(z.sets.take (bz z.sets ⟨c.set.name,c.set.ty⟩))[k]! = z.sets[k]! from by rw[getElem!_pos _ k hk,getElem!_pos z.sets k (by omega),List.getElem_take]]
   exact h2 k hk'
  obtain⟨k,hk,rfl⟩:=kV.1 hx;have hk':bz z.sets ⟨c.set.name,c.set.ty⟩+k<z.sets.length:=by simp at hk;omega
  rw[show(z.sets.drop (bz z.sets ⟨c.set.name,c.set.ty⟩))[k]! = z.sets[bz z.sets ⟨c.set.name,c.set.ty⟩+k]! from by rw[getElem!_pos _ k hk,getElem!_pos z.sets _ hk',List.getElem_drop]]
  have h4:=h3 _ (ZQ _ k) hk';have h5:qp z.sets[bz z.sets ⟨c.set.name,c.set.ty⟩+k]!.q ⟨c.set.name,c.set.ty⟩≠0:=λe=>by
   rw[zm]at e;exact Df.1 hn _ (eT hk') e
  show 0<qp _ _
  have h6:(⟨c.set,[]⟩:Sgd).q=⟨c.set.name,c.set.ty⟩:=rfl;rw[h6];omega
theorem ZfH{l:List Sgd}{c:Chg}(hk:c.kind=4):(l.filter λx=>!dU c.set.name x)=kJ l c:=by
 unfold kJ
 rw[X3 hk]
 rfl
theorem Zgu{p:List PS}{q:Sgd->Bool}:lP (p.filter λx=>q x.2)=(lP p).filter q:=by simp[lP,List.filter_map,Function.comp_def]
def Qh{y:Zon}{c:Chg}(hy:dO y)(hc:gB c=true)(h:(c.kind=4/\c.set.name=y.apex)\/aJ ⟨y.apex,kJ y.sets c⟩=false):xJ y c=none:=by
 unfold xJ
 rw[MJ hy.zo (Cj hc),X3 h]
def ZbS{y:Zon}{c:Chg}(hy:dO y)(hc:gB c=true)(h1 : ¬(c.kind=4/\c.set.name=y.apex))(h2:aJ ⟨y.apex,kJ y.sets c⟩=true):xJ y c=some ⟨y.apex,kJ y.sets c⟩:=by
 unfold xJ
 rw[MJ hy.zo (Cj hc),XV (by rintro (k|k);exact h1 k;rw[h2]at k;cases k)]
def Xi{c:Chg}(h:gB c=true):c.kind=1\/c.kind=2\/c.kind=3\/c.kind=4:=by
 unfold gB at h
 rw[XU]at h
 have:=h.2
 grind
theorem Zkp{z:Zon}(h:dO z):z.sets.map Sgd.bare=z.sets:=by
 conv=>rhs;rw[<-List.map_id z.sets]
 refine Zd λs hs=>?_
 have:=h.sig s hs
 cases s
 simp only at this
 subst this
 rfl
def CO(f:D):Sgd->Bool:=match f with
 | .fn (.func k) _ [d]=>if k=101 then dU (GI d).set.name else dU (AQ d).name
 | _=>tJ
def semB_pl:CO (.fn (.func 99) [] [])=tJ:=rfl
def semB_ho{l:List D}:CO (.fn (.func 101) [] [.eptr l])=dU (GI (.eptr l)).set.name:=rfl
attribute[go_sem]semB_pl semB_ho
end Go.Zon
namespace Go.DL
open Go.RowKit Go.ChangeShapes Go.WideShapes
variable {P : Program}
def O0(Q:TypeId->List D->Prop):List Field->List D->Prop
 | [],ds=>ds=[]
 | f::fs,ds=>∃a b,ds=a++b/\Q f.type a/\O0 Q fs b
def Sh(P:Program)[Glob P]:Nat->TypeId->List D->Prop
 | 0,_,_=>False
 | k+1,t,ds=>match P.underlying t with
  | some .bool=>∃b,ds=[.v (.bool b)]
  | some (.int q)=>∃n,ds=[.v (.int q n)]/\(Lit.int q n).wf=true
  | some .string=>∃s,ds=[.v (.string s)]/\s.size<=maxLen
  | some (.slice e)=>∃rows,ds=[.list false rows] /\ ∀r∈rows,Sh P k e r
  | some (.struct fs)=>O0 (Sh P k) fs.toList ds
  | _=>False
def za(P:Program)[Glob P]:Nat->TypeId->Bool
 | 0,_=>false
 | k+1,t=>match P.underlying t with
  | some .bool|some (.int _)|some .string=>true
  | some (.slice e)=>decide (0<P.cellsOf e)&&decide (e<P.types.size)&&za P k e
  | some (.struct fs)=>fs.toList.all λf=>decide (f.type<P.types.size)&&za P k f.type
  | _=>false
def xD(w:World)(g:Mem)(ds:List D)(cs:List Value):Prop:=aB w g ds cs /\ ∀v∈cs,v.oneCell'=true
theorem xD.nil{w:World}{g:Mem}:xD w g [] []:=⟨.nil,λv h=>by cases h⟩
def xD.one{w:World}{g:Mem}{d:D}{v:Value}(h:ag w g d v)(h1:v.oneCell'=true):xD w g [d] [v] :=
 ⟨.cons h .nil,λu hu=>by rw[Yo]at hu;subst hu;exact h1⟩
def xD.append{w:World}{g:Mem}{ds es:List D}{cs us:List Value}(h:xD w g ds cs)(k:xD w g es us):xD w g (ds++es) (cs++us) :=
 ⟨h.1.append k.1,λv hv=>(Yx.1 hv).elim (h.2 v) (k.2 v)⟩
def OB{w:World}{a:Addr}{v:Value}(h:w.cell? a=some v):a.block<w.heap.size:=by
 unfold World.cell? at h
 split at h
 . rename_i c _ _ hb;exact(Yk.1 hb).1
 cases h
theorem ZjZ{w:World}{base:Nat}{a:Addr}{n:Nat}{cs:List Value}(h:w.cells? base a n=some cs):cs.length=n /\ ∀j,j<n->w.cell? (a.add j)=cs[j]? := by
 unfold World.cells? at h
 split at h
 .
  have key : ∀(l:List Nat)(cs:List Value),l.mapM (λi=>w.cell? (a.add i))=some cs->cs.length=l.length /\ ∀(j i:Nat),l[j]? = some i->w.cell? (a.add i)=cs[j]? := by
   intro l
   induction l with
   | nil=>intro cs h;simp at h;subst h;exact⟨rfl,λj i h=>by simp at h⟩
   | cons i l ih =>
    intro cs h;rw[List.mapM_cons]at h
    cases hc:w.cell? (a.add i)with
    | none=>rw[hc]at h;simp at h
    | some v =>
     rw[hc]at h;simp only[Option.bind_eq_bind,Option.bind_some]at h
     cases hr:l.mapM (λi=>w.cell? (a.add i))with
     | none=>rw[hr]at h;simp at h
     | some r =>
      rw[hr]at h
      simp at h
      subst h;obtain⟨h1,h2⟩:=ih r hr;refine⟨by simp[h1],λj i' hj=>?_⟩
      cases j with
      | zero=>simp at hj;subst hj;simpa using hc
      | succ j=>simp at hj;simpa using h2 j i' hj
  obtain⟨h1,h2⟩:=key _ _ h;exact⟨by simpa using h1,λj hj=>h2 j j (by simp[hj])⟩
 cases h
theorem K5{α:Type}(l:List α)(m n:Nat):(l.drop m).take n++(l.drop (m+n))=l.drop m:=by
 rw[<-ZJ];exact Y7 n (l.drop m)
theorem reads [Glob P]{H:Type}{enc:TypeId×Value->H}{w:World}{base:Nat}{spare:Nat->Bool}{held:Bool}(hl:laidOutB P=true) :
  ∀(k:Nat)(t:TypeId)(cs:List Value)(fuel:Nat)(x:DataW H×List MemPlace),t<P.types.size->za P k t=true->DataW.trod enc P w base spare held fuel t cs=some x ->
   ∃ds,Sh P k t ds/\xD w (jJ λb=>b<w.heap.size) ds cs:=by
 intro k
 induction k with
 | zero=>intro t cs fuel x _ h;cases h
 | succ k ih =>
  intro t cs fuel x htl hs hr;unfold za at hs;unfold Sh
  split at hs
  .
   rename_i hu
   obtain⟨b,rfl,_⟩:=DataW.trod_bool hu hr;exact⟨_,⟨b,rfl⟩,.one (.v _) rfl⟩
  .
   rename_i q hu
   obtain⟨n,rfl,_,hw⟩:=DataW.trod_int hu hr;exact⟨_,⟨n,rfl,hw⟩,.one (.v _) rfl⟩
  .
   rename_i hu
   obtain⟨s,rfl,_,hw⟩:=DataW.trod_string hu hr;exact⟨_,⟨s,rfl,hw⟩,.one (.v _) rfl⟩
  .
   rename_i e hu
   simp only[XU,XW]at hs;obtain⟨⟨hpos,hel⟩,hs⟩:=hs
   rcases DataW.trod_slice hu hr with⟨rfl,_⟩|⟨a,len,cap,elems,rest,n,_,rfl,_,_,hlc,hcm,hlen,hrd,_,_⟩
   . exact⟨_,⟨[],rfl,λr h=>by cases h⟩,.one (.empty false none 0 (λh=>by cases h) (by simp[maxLen])) rfl⟩
   have hrow : ∀i,i<len -> ∃ds,Sh P k e ds/\ds.length=P.cellsOf e /\ ∀(j:Nat)d,ds[j]? = some d -> ∃v,w.cell? (a.add (i*P.cellsOf e+j))=some v/\v.oneCell'=true/\ag w (jJ λb=>b<w.heap.size) d v:=by
    intro i hi;have h1:=hrd i hi;have h2:elems[i]? = some (elems[i]'(by omega)):=Yg _
    rw[h2]at h1;rw[Option.bind_eq_some_iff]at h1;obtain⟨cs',hc,ht⟩:=h1;obtain⟨hcl,hcg⟩:=ZjZ hc;obtain⟨ds,hsh,⟨hrl,hrr⟩,ho⟩:=ih e cs' n _ hel hs ht;refine⟨ds,hsh,by rw[hrl,hcl],λj d hd=>?_⟩
    have hj:j<cs'.length:=by rw[<-hrl];exact(X7.1 hd).1
    have hcj:=hcg j (by omega)
    rw[add_add']at hcj;have hg:cs'[j]? = some (cs'[j]'hj):=Yg _;exact⟨cs'[j]'hj,by rw[hcj,hg],ho _ (YI _),hrr j d _ hd hg⟩
   have hch : ∃rows:List (List D),rows.length=len /\ ∀i r,rows[i]? = some r->Sh P k e r/\r.length=P.cellsOf e /\ ∀(j:Nat)d,r[j]? = some d -> ∃v,w.cell? (a.add (i*P.cellsOf e+j))=some v/\v.oneCell'=true/\ag w (jJ λb=>b<w.heap.size) d v:=by
    refine⟨(List.range len).map λi=>if h:i<len then Classical.choose (hrow i h)else[],by simp,λi r hr=>?_⟩
    rw[YU]at hr
    by_cases hi:i<len
    . rw[List.getElem?_range hi]at hr;simp only[YX,Yf]at hr;rw[dif_pos hi]at hr;subst hr;exact ZO (hrow i hi)
    rw[Z0 (by simpa using hi)]at hr;cases hr
   obtain⟨rows,hrl,hrr⟩:=hch;refine⟨_,⟨rows,rfl,λr h=>by obtain⟨i,hi⟩:=Zv h;exact(hrr i r hi).1⟩,.one ?_ rfl⟩
   cases hz:len with
   | zero =>
    subst hz;have:rows=[]:=Ya hrl;subst this;exact .empty false _ _ (λh=>by cases h) hcm
   | succ m =>
    rw[<-hz,<-hrl];have hcv : ∀i j,∃u,∀row d,rows[i]? = some row->row[j]? = some d->w.cell? (a.add (i*P.cellsOf e+j))=some u/\u.oneCell'=true/\ag w (jJ λb=>b<w.heap.size) d u:=by
     intro i j
     by_cases hh : ∃row d,rows[i]? = some row/\row[j]? = some d
     .
      obtain⟨row,d,q1,q2⟩:=hh;obtain⟨u,q3⟩:=(hrr i row q1).2.2 j d q2;refine⟨u,λrow' d' q1' q2'=>?_⟩
      rw[q1]at q1';cases q1'
      rw[q2]at q2';cases q2'
      exact q3
     exact⟨undef,λrow d q1 q2=>absurd ⟨row,d,q1,q2⟩ hh⟩
    have hcs : ∀i j row d,rows[i]? = some row->row[j]? = some d->w.cell? (a.add (i*P.cellsOf e+j))=some (Classical.choose (hcv i j))/\(Classical.choose (hcv i j)).oneCell'=true/\ag w (jJ λb=>b<w.heap.size) d (Classical.choose (hcv i j)):=λi j row d h1 h2=>ZO (hcv i j) row d h1 h2
    refine .list false rows a cap (P.cellsOf e) (λi j=>Classical.choose (hcv i j)) ?_ om (λh=>by cases h) hcm (λr hr=>?_) (λi j r d h1 h2=>⟨(hcs i j r d h1 h2).1,(hcs i j r d h1 h2).2.1⟩) λi j r d h1 h2=>(hcs i j r d h1 h2).2.2
    .
     show a.block<w.heap.size
     have h0:rows[0]? = some (rows[0]'(by omega)):=Yg _
     obtain⟨_,q2,q3⟩:=hrr 0 _ h0;have h1:(rows[0]'(by omega))[0]? = some ((rows[0]'(by omega))[0]'(by omega)):=Yg _
     obtain⟨v,hv,_⟩:=q3 0 _ h1;have:=OB hv;rwa [block_add]at this
    obtain⟨i,hi⟩:=Zv hr;exact(hrr i r hi).2.1
  .
   rename_i fs hu
   obtain⟨xs,n,_,_,hcl,hxl,hf⟩:=DataW.trod_struct hu hr;obtain⟨_,hsum,hoff⟩:=kid_struct hl htl hu;simp only[YJ,XU,XW]at hs;have key : ∀(fl:List Field)(i off:Nat),fs.toList.drop i=fl->off=((fs.toList.take i).map λf=>P.cellsOf f.type).sum -> ∃ds,O0 (Sh P k) fl ds/\xD w (jJ λb=>b<w.heap.size) ds (cs.drop off):=by
    intro fl
    induction fl with
    | nil =>
     intro i off hd ho;have hil:fs.toList.length<=i:=by
      have:=congrArg List.length hd;simp only[Yw,Y4]at this;omega
     have:off=cs.length:=by rw[hcl,hsum,ho,Yl hil]
     rw[this,ZL];exact⟨[],rfl,.nil⟩
    | cons f fl ihf =>
     intro i off hd ho;have hil:i<fs.toList.length:=by
      have:=congrArg List.length hd;simp only[Yw,YS]at this;omega
     have hfi:fs.toList[i]? = some f:=by
      have:(fs.toList.drop i)[0]? = some f:=by rw[hd];rfl
      simpa using this
     have hofs:=hoff i f hfi;have hxi:xs[i]? = some (xs[i]'(by rw[hxl];simpa using hil)):=Yg _
     have hrd:=hf i f (by simpa using hfi)
     rw[hxi,hofs,<-ho]at hrd;have hmem:=Yj hfi;obtain⟨ds1,h1,h2⟩:=ih f.type _ n _ (hs f hmem).1 (hs f hmem).2 hrd;have htk:fs.toList.take (i+1)=fs.toList.take i++[f]:=by rw[Zg,hfi];rfl
     obtain⟨ds2,h3,h4⟩:=ihf (i+1) (off+P.cellsOf f.type) (by rw[<-ZJ,hd];rfl) (by rw[htk,YT,List.sum_append,<-ho];simp)
     refine⟨ds1++ds2,⟨ds1,ds2,rfl,h1,h3⟩,?_⟩;rw[<-K5 cs off (P.cellsOf f.type)];exact h2.append h4
   obtain⟨ds,h1,h2⟩:=key fs.toList 0 0 rfl (by simp)
   exact⟨ds,h1,by simpa using h2⟩
  cases hs
def shFuel:Nat:=12
def ShV(P:Program)[Glob P](t:TypeId)(x:D):Prop:=match P.underlying t with
 | some (.struct _)=>∃cs,x = .agg cs/\Sh P shFuel t cs
 | _=>Sh P shFuel t [x]
def ShArgs(P:Program)[Glob P]:List TypeId->List D->Prop
 | [],xs=>xs=[]
 | t::ts,xs=>∃x ys,xs=x::ys/\ShV P t x/\ShArgs P ts ys
theorem readV [Glob P]{H:Type}{enc:TypeId×Value->H}{w:World}{spare:Nat->Bool}{held:Bool}{b0:Nat}{t:TypeId}{v:Value}{d:DataW H}{ps:List MemPlace}(hl:laidOutB P=true)(htl:t<P.types.size)(hs:za P shFuel t=true)(hv:Value.okWide P w .any b0 t v)(h:DataW.Trod enc P w 0 spare held t v d ps) :
  ∃x,ShV P t x/\ag w (jJ λb=>b<w.heap.size) x v:=by
 obtain⟨fuel,h⟩:=h
 obtain⟨ds,h1,h2⟩:=reads hl shFuel t v.cells.toList fuel _ htl hs h
 have one:v.cells = #[v]->ShV P t (ds.headD .junk)/\ag w (jJ λb=>b<w.heap.size) (ds.headD .junk) v\/(∃fs,P.underlying t=some (.struct fs)):=by
  intro hc;rw[hc]at h2;have hlen:ds.length=1:=h2.1.1
  match ds,hlen with
  | [x],_ =>
   by_cases hst : ∃fs,P.underlying t=some (.struct fs)
   . exact .inr hst
   refine .inl ⟨?_,h2.1.head⟩;unfold ShV
   split
   . rename_i fs hu;exact absurd ⟨fs,hu⟩ hst
   exact h1
 unfold shFuel za at hs
 split at hs
 .
  rename_i hu
  obtain⟨b,rfl⟩:=okWide_bool hu hv
  rcases one rfl with h|⟨fs,h⟩
  . exact⟨_,h⟩
  rw[hu]at h;cases h
 .
  rename_i q hu
  obtain⟨n,rfl⟩:=okWide_int hu hv
  rcases one rfl with h|⟨fs,h⟩
  . exact⟨_,h⟩
  rw[hu]at h;cases h
 .
  rename_i hu
  obtain⟨s,rfl⟩:=okWide_string hu hv
  rcases one rfl with h|⟨fs,h⟩
  . exact⟨_,h⟩
  rw[hu]at h;cases h
 .
  rename_i e hu
  obtain⟨a,len,cap,rfl⟩:=okWide_slice hu hv
  rcases one rfl with h|⟨fs,h⟩
  . exact⟨_,h⟩
  rw[hu]at h;cases h
 .
  rename_i fs hu
  obtain⟨cs,rfl,_⟩:=okWide_struct hu hv;refine⟨.agg ds,?_,.mk_agg ?_⟩
  . unfold ShV;rw[hu];exact⟨ds,rfl,h1⟩
  have:(Value.agg cs).cells=cs:=rfl;rw[this]at h2;exact h2.1
 cases hs
theorem readAll [Glob P]{H:Type}{enc:TypeId×Value->H}{w:World}{spare:Nat->Bool}{held:Bool}{b0:Nat}(hl:laidOutB P=true):∀(ts:List TypeId)(vs:List Value)(ds:List (DataW H))(ps:List MemPlace),(∀t∈ts,t<P.types.size/\za P shFuel t=true) ->
  (∀(j:Nat)t v,ts[j]? = some t->vs[j]? = some v->Value.okWide P w .any b0 t v)->DataW.TrodAll enc P w 0 spare held ts vs ds ps -> ∃xs,ShArgs P ts xs/\aB w (jJ λb=>b<w.heap.size) xs vs
 | [],[],[],_,_,_,_=>⟨[],rfl,.nil⟩
 | t::ts,v::vs,d::ds,ps,ht,hv,⟨p,q,h1,h2,_⟩=>by
  obtain⟨x,hx1,hx2⟩:=readV hl (ht t (by simp)).1 (ht t (by simp)).2 (hv 0 t v rfl rfl) h1
  obtain⟨xs,hy1,hy2⟩:=readAll hl ts vs ds q (λt' h=>ht t' (by simp[h])) (λj t' v' e1 e2=>hv (j+1) t' v' (by simpa using e1) (by simpa using e2)) h2
  exact⟨x::xs,⟨x,xs,rfl,hx1,hy1⟩,.cons hx2 hy2⟩
theorem Zkd{W W':World}(hb:G6 W W')(may:MemPlace->Prop):W.keptBut W' may:=by
 refine⟨hb.os,hb.output,λi hi=>?_⟩
 rw[hb.block i hi]
 cases h:W.heap[i]? with
 | none=>trivial
 | some o =>
  cases o<;>first
   | exact⟨rfl,rfl,rfl,λ_ _=>rfl⟩
   | exact .inr ⟨rfl,rfl⟩
   | rfl
theorem P5 [Glob P]{H:Type}{enc:TypeId×Value->H}{W W':World}(hl:laidOutB P=true)(hb:G6 W W'):∀(ts:List TypeId)(vs:List Value)(ds:List (DataW H))(ps:List MemPlace),(∀t∈ts,P.readableRec t=true/\t<P.types.size) ->
  DataW.TrodAll enc P W 0 (λ_=>true) true ts vs ds ps->(∀x∈ps,x.block<W.heap.size) -> ∀sp:Nat->Bool,(∀x∈ps,sp x.block=true)->DataW.TrodAll enc P W' 0 sp true ts vs ds ps
 | [],[],[],_,_,h,_,_,_=>h
 | t::ts,v::vs,d::ds,ps,ht,⟨p,q,h1,h2,e⟩,hlt,sp,hsp=>by
  subst e;have hbe:Below W.heap.size W W':=⟨hb.os,hb.tape,hb.output,hb.size,hb.block⟩;exact⟨p,q,WideElems.Trod_stays hl (ht t (by simp)).1 (ht t (by simp)).2 h1 (λx hx=>hbe.same (hlt x (ZT _ hx))) (λx hx=>hsp x (ZT _ hx)),
   P5 hl hb ts vs ds q (λt' h=>ht t' (by simp[h])) h2 (λx hx=>hlt x (List.mem_append_right _ hx)) sp (λx hx=>hsp x (List.mem_append_right _ hx)),rfl⟩
theorem law_contract_g [Glob P]{H:Type}{enc:TypeId×Value->H}{f:FuncId}{fn:Func}{s:ChangeSpec}{tb:TypeId}{apart fresh handsOn again:Bool}(hl:laidOutB P=true)(hvars:s.vars=[])(hrt:fn.resultTypes = #[tb])(U8:P.underlying tb=some .bool)
  (Jr:(fn.params.toList.all λt=>P.readableRec t&&decide (t<P.types.size)&&za P shFuel t)=true)
  (hfn : ∀ds:List (DataW H),ds.length=fn.params.toList.length->s.fn H ds={ results:=[.lit (.bool true)],args:=ds })
  (hct : ∀xs:List D,ShArgs P fn.params.toList xs->PureCt P f xs (.b true)) :
  ∀(W:World)(base:Nat)(args:Array Value)(ds gs:List (DataW H))(before:List MemPlace),Gr P (λb=>b<W.heap.size) W->(∀(j:Nat)t v,fn.params[j]? = some t->args[j]? = some v->Value.okWide P W .any base t v) ->
   DataW.Whole enc P fn.params.toList s.vars apart W args.toList ds gs before ->
   Calls P f args W λe W'=>∃v,e = .returned v/\s.post enc P fn apart fresh handsOn again W args v W':=by
 intro W base args ds gs before hgr hval hW
 simp only[YJ,XU,XW]at Jr
 have hW':=hW
 obtain⟨p,q,hA,hV,hpq,hfz,hnd⟩:=hW
 rw[hvars]at hV
 obtain⟨rfl,rfl⟩:gs=[]/\q=[]:=by
  cases gs with
  | nil=>exact⟨rfl,hV⟩
  | cons g gs=>exact False.elim hV
 rw[Yv]at hpq
 obtain⟨xs,hx1,hx2⟩:=readAll hl _ _ _ _ (λt ht=>⟨(Jr t ht).1.2,(Jr t ht).2⟩) (λj t v h1 h2=>hval j t v (by simpa using h1) (by simpa using h2)) hA
 obtain⟨_,_,hct⟩:=hct xs hx1
 have hlen : ∀{ts:List TypeId}{vs:List Value}{ds:List (DataW H)}{ps:List MemPlace},DataW.TrodAll enc P W 0 (λ_=>true) true ts vs ds ps->ds.length=ts.length:=by
  intro ts
  induction ts with
  | nil=>intro vs ds ps h;cases vs<;>cases ds<;>first|rfl|exact False.elim h
  | cons t ts ih =>
   intro vs ds ps h
   cases vs<;>cases ds<;>first|exact False.elim h|skip
   obtain⟨_,_,_,h2,_⟩:=h
   simp[ih h2]
 have hres:=hfn ds (hlen hA)
 have:=callsIn_wide.1 (hct W (λb=>b<W.heap.size) _ (λb h=>h) hgr hx2)
 have ea:args.toList.toArray=args:=by simp
 rw[ea]at this
 refine this.mono ?_
 rintro e W' ⟨v,rfl,hb,hv⟩
 rw[hv.v_inv]
 refine⟨_,rfl,?_⟩
 have hlt : ∀x∈before,x.block<W.heap.size:=λx hx=>hW'.lt x hx
 have hsp : ∀sp:Nat->Bool,(∀x∈before,sp x.block=true)->DataW.TrodAll enc P W' 0 sp true fn.params.toList args.toList ds before:=by
  intro sp h;rw[hpq]at h hlt ⊢;exact P5 hl hb _ _ _ _ (λt ht=>(Jr t ht).1) hA hlt sp h
 have hfn':s.fn H (ds++[])={ results:=[.lit (.bool true)],args:=ds }:=by rw[Yv];exact hres
 have hrs : ∀(b:Nat)(sp:Nat->Bool)(hd:Bool),DataW.TrodAll enc P W' b sp hd fn.resultTypes.toList ((Value.bool true).resultList fn.resultTypes.size) [.lit (.bool true)] []:=by
  intro b sp hd;rw[hrt];exact trodAll_cons_mk (shut_bool U8 _) trodAll_mk0
 have hold : ∀x∈before,(λb=>decide (b<W.heap.size)) x.block=true:=λx hx=>by simpa using hlt x hx
 have hvs : ∀sp:Nat->Bool,DataW.TrodVars enc P W' sp s.vars [] []:=λsp=>by rw[hvars];exact rfl
 have hfz' : ∀x∈before,∀b off,x=MemPlace.cell b off->W'.frozen? ⟨b,off,none⟩=false:=by
  intro x hx b off e;subst e;have hbl:b<W.heap.size:=hlt _ hx;have e2:W'.frozen? ⟨b,off,none⟩=W.frozen? ⟨b,off,none⟩:=World.frozen?_of_block (hb.block b hbl);rw[e2];exact hfz b off hx
 unfold ChangeSpec.post
 refine⟨ds,[],before,[],before,[],hW',?_,?_,?_,World.keptBut_mono (λx hx=>⟨hx,.inr (.inl hx)⟩) (Zkd hb (· ∈ before)),λ_=>⟨?_,?_⟩⟩
 . rw[hfn'];exact hrs _ _ _
 . rw[hfn'];exact hsp _ hold
 . rw[hfn'];exact hvs _
 . exact ok_one hrt rfl (okWide_bool_mk U8 _)
 refine⟨_,[],([]++before)++[],⟨[]++before,[],trodAll_append (hsp _ λ_ _=>rfl) (hrs _ _ _),hvs _,rfl,?_,?_⟩,?_⟩
 . intro b off hx;exact hfz' _ (by simpa using hx) b off rfl
 .
  intro ha
  simpa using hnd ha
 intro x hx _
 simpa using hx
def litV:Lit->Value
 | .bool b=>.bool b
 | .int k n=>.int k n
 | .string s=>.string ⟨s.toArray⟩
 | _=>undef
def zJ{H:Type}:Nat->DataW H->List Value
 | 0,_=>[]
 | k+1,d=>match d with
  | .lit l=>[litV l]
  | .agg ds=>ds.flatMap (zJ k)
  | _=>[]
def Fg(P:Program):Nat->TypeId->Bool
 | 0,_=>false
 | k+1,t=>match P.underlying t with
  | some .bool|some (.int _)|some .string=>true
  | some (.array _ e)=>decide (e<P.types.size)&&Fg P k e
  | some (.struct fs)=>fs.toList.all λf=>decide (f.type<P.types.size)&&Fg P k f.type
  | _=>false
theorem lits{H:Type}{enc:TypeId×Value->H}{w:World}{base:Nat}{spare:Nat->Bool}{held:Bool}(hl:laidOutB P=true) :
  ∀(k:Nat)(t:TypeId)(cs:List Value)(fuel:Nat)(x:DataW H×List MemPlace),t<P.types.size->Fg P k t=true->DataW.trod enc P w base spare held fuel t cs=some x->cs=zJ k x.1:=by
 intro k
 induction k with
 | zero=>intro t cs fuel x _ h;cases h
 | succ k ih =>
  intro t cs fuel x htl hs hr;unfold Fg at hs
  split at hs
  .
   rename_i hu
   obtain⟨b,rfl,rfl⟩:=DataW.trod_bool hu hr;rfl
  .
   rename_i q hu
   obtain⟨n,rfl,rfl,_⟩:=DataW.trod_int hu hr;rfl
  .
   rename_i hu
   obtain⟨s,rfl,rfl,_⟩:=DataW.trod_string hu hr
   show[Value.string s]=[Value.string ⟨s.data.toList.toArray⟩]
   simp
  .
   rename_i n e hu
   simp only[XU,XW]at hs;obtain⟨xs,m,_,rfl,hcl,hxl,hel⟩:=DataW.trod_array hu hr;obtain⟨_,hcn⟩:=kid_array hl htl hu;have key : ∀(j i:Nat),i+j=n->cs.drop (i*P.cellsOf e)=((xs.drop i).map (·.1)).flatMap (zJ k):=by
    intro j
    induction j with
    | zero =>
     intro i hi;have hi':i=n:=by omega
     subst hi';rw[<-hcn,<-hcl,ZL,<-hxl,ZL];rfl
    | succ j ihj =>
     intro i hi;have hlt:i<xs.length:=by omega
     have h1:=hel i (by omega)
     rw[Yg hlt]at h1;have h2:=ih e _ m _ hs.1 hs.2 h1;have h3:=ihj (i+1) (by omega)
     have e1:(i+1)*P.cellsOf e=i*P.cellsOf e+P.cellsOf e:=by rw[Nat.succ_mul]
     rw[e1]at h3;rw[YC hlt,X8,ZU,<-h3,<-h2];exact(K5 cs _ _).symm
   have:=key n 0 om
   simpa[zJ]using this
  .
   rename_i fs hu
   obtain⟨xs,n,_,rfl,hcl,hxl,hf⟩:=DataW.trod_struct hu hr;obtain⟨_,hsum,hoff⟩:=kid_struct hl htl hu;simp only[YJ,XU,XW]at hs;have hxl':xs.length=fs.toList.length:=by simpa using hxl
   have key : ∀(j i:Nat),i+j=fs.toList.length->cs.drop ((fs.toList.take i).map λf=>P.cellsOf f.type).sum=((xs.drop i).map (·.1)).flatMap (zJ k):=by
    intro j
    induction j with
    | zero =>
     intro i hi;have hi':i=fs.toList.length:=by omega
     subst hi';rw[Yn,<-hsum,<-hcl,ZL,<-hxl',ZL];rfl
    | succ j ihj =>
     intro i hi;have hlt:i<fs.toList.length:=by omega
     have U0:i<xs.length:=by omega
     have hfi:fs.toList[i]? = some fs.toList[i]:=Yg hlt;have h1:=hf i fs.toList[i] (by simp)
     rw[hoff i _ hfi,Yg U0]at h1;have hm:=hs _ (YI hlt);have h2:=ih _ _ n _ hm.1 hm.2 h1;have h3:=ihj (i+1) (by omega)
     have htk:fs.toList.take (i+1)=fs.toList.take i++[fs.toList[i]]:=by rw[Zg,hfi];rfl
     rw[htk,YT,List.sum_append]at h3;simp only[X8,Yz,List.sum_cons,List.sum_nil,Zu]at h3;rw[YC U0,X8,ZU,<-h3,<-h2];exact(K5 cs _ _).symm
   have:=key fs.toList.length 0 om
   simpa[zJ]using this
  cases hs
end Go.DL
namespace Go.Proofs.YtidphdaoejibcaaGreatDoor
open Go.Proofs.Tryz
open Go.DL Go.RowKit Go.ChangeShapes
def jlaid : List (String × DataW Unit) := [("bytes.ErrTooLarge", Rows.laid_bytes_ErrTooLarge), ("nameplan/record.rules", Rows.laid_nameplan_record_rules), ("nameplan/journal.errBroken", Rows.laid_nameplan_journal_errBroken)]
theorem UE : ("*errors.errorString" : String) = "*" ++ "errors.errorString" := by decide
def jrow (u : TypeId) (h : prog.typeName? 3 u = some "*errors.errorString") : u = 339 :=
 typeName_ptr_named (nm := "errors.errorString") (by rw [<- UE]; kernel_rfl) (by kernel_rfl) (by decide) u (by rw [<- UE]; exact h)
def Zgq{P:Program}{nm:String}{d:DataW Unit}{r:List (String×DataW Unit)}{W:World}{g:Nat}{t:TypeId}{k:Nat}{cells:List Value}(hl:laidOutB P=true)(h:laidMet P ((nm,d)::r) W)
  (hg:P.globalNamed nm=some g)(ht:(P.globals[g]?).map (·.type)=some t)(htl:t<P.types.size)(hb:Fg P k t=true)(hc:zJ k d=cells)(j:Nat)(v:Value)(hv':cells[j]? = some v):W.cell? ⟨g,j,none⟩=some v:=by
 obtain⟨ps,⟨g0,t0,cs,fuel,p,q,hg0,ht0,hv,hd,_,_⟩,_,_⟩:=h
 obtain rfl:=Zt (hg.symm.trans hg0)
 obtain rfl:=Zt (ht.symm.trans ht0)
 have hcs:=lits hl k t _ _ _ htl hb hd
 rw[show zJ k (d,p).1=cells from hc]at hcs
 rw[World.var?_cell hg0 hv j]
 obtain⟨l⟩:=cs
 simp only at hcs
 subst hcs
 simp[hv']
set_option maxRecDepth 100000 in
theorem told_cells{W:World}(h:laidMetH prog jlaid W):∃a:Addr,∀x cs,toldF a x=some cs->x<W.heap.size /\ ∀(j:Nat)v,cs[j]? = some v->W.cell? ⟨x,j,none⟩=some v:=by
 unfold jlaid at h
 rw[MakeChecks.laidMetH_plain _ _ _ (by kernel_rfl)]at h
 have h2:=h.tail
 have h3:=h2.tail
 obtain ⟨a, s, hv, _, _, _⟩ := laid_sentinel (g := 0) (n := "nameplan/journal.errBroken") (nm := "*errors.errorString") h3 (by kernel_rfl) (by kernel_rfl) underlying136 jrow underlying339 underlying362 rfl rfl underlying9 (by kernel_rfl) (by kernel_rfl)
 have hr:=Zgq (g:=1) (t:=256) (k:=3) (cells:=Ik) (by kernel_rfl) h2 (by kernel_rfl) (by kernel_rfl) (YN (by kernel_rfl)) (by kernel_rfl) (by kernel_rfl)
 have he:W.cell? ⟨0,0,none⟩=some (kg a):=by
  rw[World.var?_cell (by kernel_rfl) hv 0]
  rfl
 refine⟨a,λx cs hx=>?_⟩
 unfold toldF at hx
 split at hx
 .
  rename_i e
  subst e
  cases hx
  exact⟨OB (hr 0 _ rfl),hr⟩
 split at hx
 .
  rename_i e
  subst e
  cases hx
  refine⟨OB he,λj v hj=>?_⟩
  match j,hj with
  | 0,hj=>cases hj;exact he
  | j+1,hj=>simp at hj
 cases hx
open Go.Str Go.Rec Go.Zon Go.Jn
def Tp:aS where
 pure:=λ_=>true
 pf:=λk xs=>match k,xs with
  | 273,[x0,x1]=>.i (gp (aF x0) (bu x1))
  | 252,[x0,x1]=>.i (gp (aF x0) (bu x1))
  | 222,[x0]=>.b (iF (aF x0))
  | 179,[x0]=>.b (iF (aF x0))
  | 178,[x0]=>.list false ((jF (aF x0)).map sR)
  | 108,[x0]=>.b (az (aF x0))
  | 157,[x0]=>.b (az (aF x0))
  | 117,[x0]=>.b (az (aF x0))
  | 180,[x0]=>.list false ((bF (aF x0)).map sR)
  | 254,[x0,x1]=>.i (Go.Lib.compareBytes (aF x0) (aF x1))
  | 225,[x0,x1]=>.i (Go.Lib.compareBytes (aF x0) (aF x1))
  | 188,[x0,x1]=>.i (fZ (aF x0) (aF x1))
  | 186,[x0,x1]=>.tuple [.i (if az (aF x0)&&az (aF x1)then kU (aF x0) (aF x1)else 0),.i (if az (aF x0)&&az (aF x1)then 0 else 11)]
  | 161,[x0,x1]=>.tuple [.i (if az (aF x0)&&az (aF x1)then kU (aF x0) (aF x1)else 0),.i (if az (aF x0)&&az (aF x1)then 0 else 11)]
  | 190,[x0,x1,x2]=>.b (aW (bu x0) (bu x1) (bu x2))
  | 265,[x0,x1,x2]=>.b (aW (bu x0) (bu x1) (bu x2))
  | 181,[x0,x1,x2]=>.b (aW (bu x0) (bu x1) (bu x2))
  | 226,[x0]=>.b ((bu x0) != (bu x0))
  | 264,[x0]=>.b ((aF x0) != (aF x0))
  | 162,[x0,x1]=>.i (cmpI (bu x0) (bu x1))
  | 231,[x0,x1]=>.i (uR (aF x0) (aF x1))
  | 189,[x0,x1]=>.b (yz (aF x0) (aF x1))
  | 118,[x0,x1]=>.b (yz (aF x0) (aF x1))
  | 191,[x0]=>.b (jE (aF x0))
  | 183,[x0]=>.b (jE (aF x0))
  | 236,[x0]=>.b (vT (aF x0))
  | 234,[x0]=>.b (vT (aF x0))
  | 185,[x0,x1]=>.b (less (ko x0) (ko x1))
  | 192,[x0,x1]=>.b (jS (LD x0) (ko x1))
  | 184,[x0,x1]=>.b (ow (bu x0) (ko x1))
  | 230,[x0]=>.i (vz (Dn x0) 0)
  | 193,[x0,x1]=>.i (dZ (ko x0) (ko x1))
  | 119,[x0]=>.b (fB (set1 x0))
  | 110,[x0]=>.b (fB (set1 x0))
  | 182,[x0]=>.b (AO (bu x0))
  | 112,[x0,x1]=>.i (lU (set1 x0) (set1 x1))
  | 149,[x0,x1]=>.b (ve (set1 x0) (set1 x1))
  | 127,[x0]=>.tuple [.list false ((xB (set1 x0)).1.map bD),.i (xB (set1 x0)).2]
  | 238,[x0]=>.tuple [.agg (iV (gQ x0)).1.d,.i (iV (gQ x0)).2]
  | 223,[x0,x1]=>.b (xc (aF x0) (aF x1))
  | 158,[x0,x1]=>.b (xc (aF x0) (aF x1))
  | 100,[x0,x1]=>.tuple [.b (kC (aF x0) (aF x1)),.i (if az (aF x0)&&az (aF x1)then 0 else 11)]
  | 111,[x0,x1]=>.b (iq (aF x0) (aF x1))
  | 109,[x0]=>.b (yY (aF x0))
  | 120,[x0,x1,x2,x3]=>.i (qC ⟨(aF x0),(bu x1)⟩ ⟨(aF x2),(bu x3)⟩)
  | 145,[x0,x1]=>.i (qC (lV x0) (lV x1))
  | 121,[x0,x1]=>.b (fits (bu x0) (yP x1))
  | 113,[x0,x1]=>.b (fits (bu x0) (yP x1))
  | 122,[x0,x1]=>.b (mE (sU x0) (aF x1))
  | 116,[x0,x1]=>.b (mE (sU x0) (aF x1))
  | 88,[x0,x1]=>.b (lw (dE x0) (dE x1))
  | 42,[x0,x1]=>.b (sZ (fA x0) (fA x1))
  | 13,[x0,x1]=>.b (mG (aO x0) (aO x1))
  | 129,[x0,x1]=>.i (qC (dE x0).q (lV x1))
  | 128,[x0,x1,.fn (.func 129) [] []]=>.tuple [.i (bz (fA x0) (lV x1)),.b (dB (fA x0) (lV x1))]
  | 74,[x0,x1]=>.tuple [.i (bz (aO x0).sets (lV x1)),.b (dB (aO x0).sets (lV x1))]
  | 59,[x0]=>.b (ordered (aO x0))
  | 60,[x0]=>.b (wm (aO x0))
  | 62,[x0]=>.b (uW (yf x0))
  | 63,[x0]=>.b (qY (yf x0))
  | 64,[x0]=>.b (zZ (yf x0))
  | 65,[x0]=>.b (Ab (yf x0))
  | 61,[x0]=>.agg (kZ (aO x0)).d
  | 23,[x0]=>.b (aJ (aO x0))
  | 26,[x0]=>.tuple [.i (if aJ (aO x0)then aM (aO x0)else 0),.i (if aJ (aO x0)then 0 else 1)]
  | 57,[x0,x1]=>.i (dQ (aO x0).sets (lV x1))
  | 52,[x0]=>.b (mK (aO x0))
  | 53,[x0]=>.b (rA (aO x0))
  | 54,[x0]=>.b (nA (aO x0))
  | 235,[x0]=>.list false ((gX (aO x0)).map sR)
  | 187,[x0]=>.list false ((bY (aO x0)).map sR)
  | 114,[x0]=>.list false ((gI (aO x0)).map sR)
  | 55,[x0]=>.b (si (aO x0))
  | 115,[x0]=>.list false ((Bc (aO x0)).map bR)
  | 56,[x0]=>.b (tV (aO x0))
  | 19,[x0]=>.b (jl (aO x0))
  | 21,[x0]=>.i (dz (aO x0))
  | 18,[x0]=>.b (vU (aO x0))
  | 58,[x0]=>.b (iB (bu x0))
  | 27,[x0,x1]=>.b (gZ (bu x0) (bu x1))
  | 22,[x0,x1]=>.tuple [.b (mO (bu x0) (bu x1)).1,.i (mO (bu x0) (bu x1)).2]
  | 31,[x0]=>.agg (dE x0).q.d
  | 75,[x0]=>.list false ((nW x0).map Dat.d)
  | 76,[x0]=>.list false ((sU x0).map RSig.d)
  | 34,[x0]=>.agg (dE x0).d
  | 28,[x0]=>.fmap (jg (kY (fA x0)))
  | 77,[x0,x1]=>.b (kM (nW x0) (nW x1))
  | 78,[x0,x1]=>.b (xq (sU x0) (sU x1))
  | 35,[x0,x1]=>.b (wJ (dE x0) (dE x1))
  | 30,[x0,x1]=>.tuple [.agg (dE x0).q.d,.b (oZ (wU x1) (dE x0).q)]
  | 33,[x0,x1]=>.tuple [.agg (dE x0).d,.b (yK (fu (wU x1) (dE x0).q) (dE x0))]
  | 83,[x0,x1]=>.tuple [.agg (dE x0).d,.b (oZ (wU x1) (dE x0).q)]
  | 86,[x0]=>.tuple [.agg (dE x0).d,.b true]
  | 144,[x0]=>.tuple [.agg (dE x0).d,.b true]
  | 137,[x0]=>.agg (lV x0).d
  | 29,[x0,x1]=>.list false (((fA x0).filterMap (mg (GM x1))).map ak.d)
  | 141,[x0,x1]=>.list false (((IE x0).filterMap (j3S (GM x1))).map ak.d)
  | 32,[x0,x1]=>.list false (((fA x0).filterMap (Ie (x1))).map Sgd.d)
  | 85,[.fn (.func 31) [] []]=>.fn (.func 148) [] [.eptr [.fn (.func 31) [] []]]
  | 148,[x0,x1,.eptr [.fn (.func 31) [] []]]=>.i (qC (dE x0).q (dE x1).q)
  | 140,[.fn (.func 137) [] []]=>.fn (.func 209) [] [.eptr [.fn (.func 137) [] []]]
  | 82,[x0]=>.b (fU (jA x0))
  | 9,[x0,x1]=>.tuple [.agg (lh (aO x0) (aO x1)).1.d,.i (lh (aO x0) (aO x1)).2]
  | 38,[x0,x1]=>.tuple [.agg (eD (aO x0) (jA x1)).1.d,.i (eD (aO x0) (jA x1)).2]
  | 81,[x0,x1]=>.tuple [.agg (rV (jA x0) (jA x1)).1.d,.i (rV (jA x0) (jA x1)).2]
  | 25,[x0]=>.list false ((dL (aO x0)).map bD)
  | 39,[x0]=>.list false ((dG (jA x0)).map bD)
  | 24,[x0,x1]=>.list false ((bZ (Ck x0) (gQ x1)).map bD)
  | 69,[x0]=>.v (.int .u64 ((iG (gQ x0):Nat):Int))
  | 133,[x0,x1]=>.b (isE (KT x0))
  | 130,[x0,x1]=>.tuple [.list false ((bK (Ck x0).toNat (gQ x1)).2.map bD),.i (bK (Ck x0).toNat (gQ x1)).1]
  | 80,[x0,x1]=>.tuple [.agg (gu (cnt1 x0) (gQ x1)).1.d,.i (gu (cnt1 x0) (gQ x1)).2]
  | 79,[x0]=>.tuple [.agg (fe (gQ x0)).d,.i (gD (iO (gQ x0)))]
  | 36,[x0]=>.tuple [.agg (vB (lg x0)).d,.b (eP (lg x0)).isSome]
  | 37,[x0]=>.b (fU (jA x0))
  | 40,[x0]=>.list false ((gQ x0).map bD)
  | 41,[x0,x1,x2]=>.list false (((gQ x0)++aR (IK x1)++(gQ x2)).map bD)
  | 8,[x0]=>.tuple [.agg (sD (aO x0)).1.d,.i (sD (aO x0)).2]
  | 10,[x0,x1]=>.tuple [.agg (nk (lg x0) (jA x1)).1.d,.i (nk (lg x0) (jA x1)).2]
  | 11,[x0]=>.tuple [.agg (rF (lg x0)).1.d,.i (rF (lg x0)).2]
  | 15,[x0,x1,x2]=>.tuple [.agg (lm (lg x0) (bu x1) (bu x2)).1.d,.i (lm (lg x0) (bu x1) (bu x2)).2]
  | 12,[x0]=>.tuple [.agg (lZ (lg x0)).1.d,.i (lZ (lg x0)).2]
  | 89,[x0]=>.b (Bi (aO x0))
  | 154,[x0]=>.b (fU (jA x0))
  | 43,[x0]=>.b (lS (sW x0))
  | 93,[x0]=>.b (kI (vE x0))
  | 94,[x0]=>.tuple [.v (.string (bs (oQ (vE x0)).1)),.b (oQ (vE x0)).2]
  | 220,[x0,x1]=>.b (lw (dE x0) (dE x1))
  | 106,[x0,x1,.fn (.func 220) [] []]=>.b (sZ (fA x0) (fA x1))
  | 155,[x0,x1]=>.b (mG (aO x0) (aO x1))
  | 95,[x0,x1]=>.i (qP (sW x0) (aO x1))
  | 153,[x0]=>.agg (dE x0).d
  | 152,[x0,.fn (.func 153) [] []]=>.list false ((fA x0).map Sgd.d)
  | 92,[x0]=>.agg (aO x0).d
  | 151,[x0]=>.i (aM (aO x0))
  | 150,[x0,.fn (.func 151) [] []]=>.list false (((mr x0).map aM).map kz)
  | 90,[x0]=>.tuple [.list false ((uj (mr x0)).1.map kz),.b (uj (mr x0)).2]
  | 91,[x0,x1]=>.agg (zD (KJ x1) (bu x0)).d
  | 44,[x0,x1,x2]=>.tuple [.agg (jW (mr x0) (yP x1) (bu x2)).1.d,.i (jW (mr x0) (yP x1) (bu x2)).2]
  | 45,[x0,x1,x2]=>.tuple [.agg (kR (sW x0) (vE x1) (bu x2)).1.d,.i (kR (sW x0) (vE x1) (bu x2)).2]
  | 14,[x0,x1,x2]=>.tuple [.agg (lW (sW x0) (mr x1) (bu x2)).1.d,.i (lW (sW x0) (mr x1) (bu x2)).2]
  | 99,[x0]=>.b (tJ (dE x0))
  | 101,[x0,x1]=>.b (dU (GI x1).set.name (dE x0))
  | 177,[x0,x1]=>.b (dU (AQ x1).name (dE x0))
  | 156,[x0,x1]=>.i (dV (CO (x1)) (fA x0) 0)
  | 98,[x0,x1]=>.b (decide (0<=dV (CO (x1)) (fA x0) 0))
  | 47,[x0]=>.b (jG (aO x0))
  | 96,[x0]=>.b (jf (yN x0))
  | 97,[x0]=>.b (gB (yN x0))
  | 46,[x0]=>.b (jU (AB x0))
  | 48,[x0,x1]=>.b (kC (aF x0) (aF x1))
  | 160,[x0,x1,x2]=>.i (qC (dE x0).q ⟨(aF x1),(Fu x2)⟩)
  | 159,[x0,x1,x2]=>.tuple [.i (bz (fA x0) ⟨(aF x1),(GG x2)⟩),.b (dB (fA x0) ⟨(aF x1),(GG x2)⟩)]
  | 102,[x0,x1,x2]=>.tuple [.i (bz (aO x0).sets ⟨(aF x1),(bu x2)⟩),.b (dB (aO x0).sets ⟨(aF x1),(bu x2)⟩)]
  | 49,[x0,x1]=>.b (qM (aO x0) (yN x1))
  | 107,[x0,x1]=>.b (decide ((dE x0).set=(dE x1).set))
  | 106,[x0,x1,.fn (.func 107) [] []]=>.b (Ad (fA x0) (fA x1))
  | 233,[x0,x1]=>.i (dV (λy=>decide ((ko x1)=y)) (nW x0) 0)
  | 173,[x0,x1]=>.b (dX (nW x0) (ko x1))
  | 172,[x0,x1]=>.b (dX (AQ x1).data (ko x0))
  | 232,[x0,x1]=>.i (dV (dX (Xf x1).data) (nW x0) 0)
  | 168,[x0,x1]=>.i (dZ (ko x0) (ko x1))
  | 16,[x0,x1]=>.tuple [.agg (fJ (aO x0) (AB x1)).1.d,.i (fJ (aO x0) (AB x1)).2]
  | 20,[x0]=>.b (jG (aO x0))
  | 17,[x0,x1]=>.agg (gV (bu x0) (Dn x1)).d
  | 6,[x0,x1]=>.b (xn (aO x0) (AA x1))
  | 7,[x0,x1]=>.tuple [.list false ((nz (aO x0) (AA x1)).1.map Zon.d),.b (nz (aO x0) (AA x1)).2]
  | 5,[]=>.b true
  | 4,[x0,x1,x2,x3]=>.b true
  | _,_=>.junk
@[go_sem]theorem tpp{k:FuncId}:Tp.pure k=true:=rfl
@[go_sem]theorem tpg1{x0 x1:D}:Tp.pf 273 [x0,x1] = .i (gp (aF x0) (bu x1))/\Tp.pf 252 [x0,x1] = .i (gp (aF x0) (bu x1))/\Tp.pf 254 [x0,x1] = .i (Go.Lib.compareBytes (aF x0) (aF x1))/\Tp.pf 225 [x0,x1] = .i (Go.Lib.compareBytes (aF x0) (aF x1))/\Tp.pf 188 [x0,x1] = .i (fZ (aF x0) (aF x1))/\Tp.pf 186 [x0,x1] = .tuple [.i (if az (aF x0)&&az (aF x1)then kU (aF x0) (aF x1)else 0),.i (if az (aF x0)&&az (aF x1)then 0 else 11)]/\Tp.pf 161 [x0,x1] = .tuple [.i (if az (aF x0)&&az (aF x1)then kU (aF x0) (aF x1)else 0),.i (if az (aF x0)&&az (aF x1)then 0 else 11)]/\Tp.pf 162 [x0,x1] = .i (cmpI (bu x0) (bu x1))/\Tp.pf 231 [x0,x1] = .i (uR (aF x0) (aF x1))/\Tp.pf 189 [x0,x1] = .b (yz (aF x0) (aF x1))/\Tp.pf 118 [x0,x1] = .b (yz (aF x0) (aF x1))/\Tp.pf 185 [x0,x1] = .b (less (ko x0) (ko x1))/\Tp.pf 192 [x0,x1] = .b (jS (LD x0) (ko x1))/\Tp.pf 184 [x0,x1] = .b (ow (bu x0) (ko x1))/\Tp.pf 193 [x0,x1] = .i (dZ (ko x0) (ko x1))/\Tp.pf 112 [x0,x1] = .i (lU (set1 x0) (set1 x1))/\Tp.pf 149 [x0,x1] = .b (ve (set1 x0) (set1 x1))/\Tp.pf 223 [x0,x1] = .b (xc (aF x0) (aF x1))/\Tp.pf 158 [x0,x1] = .b (xc (aF x0) (aF x1))/\Tp.pf 100 [x0,x1] = .tuple [.b (kC (aF x0) (aF x1)),.i (if az (aF x0)&&az (aF x1)then 0 else 11)]/\Tp.pf 111 [x0,x1] = .b (iq (aF x0) (aF x1))/\Tp.pf 145 [x0,x1] = .i (qC (lV x0) (lV x1))/\Tp.pf 121 [x0,x1] = .b (fits (bu x0) (yP x1))/\Tp.pf 113 [x0,x1] = .b (fits (bu x0) (yP x1))/\Tp.pf 122 [x0,x1] = .b (mE (sU x0) (aF x1))/\Tp.pf 116 [x0,x1] = .b (mE (sU x0) (aF x1))/\Tp.pf 88 [x0,x1] = .b (lw (dE x0) (dE x1))/\Tp.pf 42 [x0,x1] = .b (sZ (fA x0) (fA x1))/\Tp.pf 13 [x0,x1] = .b (mG (aO x0) (aO x1))/\Tp.pf 129 [x0,x1] = .i (qC (dE x0).q (lV x1))/\Tp.pf 128 [x0,x1,.fn (.func 129) [] []] = .tuple [.i (bz (fA x0) (lV x1)),.b (dB (fA x0) (lV x1))]/\Tp.pf 74 [x0,x1] = .tuple [.i (bz (aO x0).sets (lV x1)),.b (dB (aO x0).sets (lV x1))]/\Tp.pf 57 [x0,x1] = .i (dQ (aO x0).sets (lV x1))/\Tp.pf 27 [x0,x1] = .b (gZ (bu x0) (bu x1))/\Tp.pf 22 [x0,x1] = .tuple [.b (mO (bu x0) (bu x1)).1,.i (mO (bu x0) (bu x1)).2]/\Tp.pf 77 [x0,x1] = .b (kM (nW x0) (nW x1))/\Tp.pf 78 [x0,x1] = .b (xq (sU x0) (sU x1))/\Tp.pf 35 [x0,x1] = .b (wJ (dE x0) (dE x1))/\Tp.pf 30 [x0,x1] = .tuple [.agg (dE x0).q.d,.b (oZ (wU x1) (dE x0).q)]/\Tp.pf 33 [x0,x1] = .tuple [.agg (dE x0).d,.b (yK (fu (wU x1) (dE x0).q) (dE x0))]:=by and_intros<;>rfl
@[go_sem]theorem tpg2{x0 x1:D}:Tp.pf 83 [x0,x1] = .tuple [.agg (dE x0).d,.b (oZ (wU x1) (dE x0).q)]/\Tp.pf 29 [x0,x1] = .list false (((fA x0).filterMap (mg (GM x1))).map ak.d)/\Tp.pf 141 [x0,x1] = .list false (((IE x0).filterMap (j3S (GM x1))).map ak.d)/\Tp.pf 32 [x0,x1] = .list false (((fA x0).filterMap (Ie (x1))).map Sgd.d)/\Tp.pf 148 [x0,x1,.eptr [.fn (.func 31) [] []]] = .i (qC (dE x0).q (dE x1).q)/\Tp.pf 9 [x0,x1] = .tuple [.agg (lh (aO x0) (aO x1)).1.d,.i (lh (aO x0) (aO x1)).2]/\Tp.pf 38 [x0,x1] = .tuple [.agg (eD (aO x0) (jA x1)).1.d,.i (eD (aO x0) (jA x1)).2]/\Tp.pf 81 [x0,x1] = .tuple [.agg (rV (jA x0) (jA x1)).1.d,.i (rV (jA x0) (jA x1)).2]/\Tp.pf 24 [x0,x1] = .list false ((bZ (Ck x0) (gQ x1)).map bD)/\Tp.pf 133 [x0,x1] = .b (isE (KT x0))/\Tp.pf 130 [x0,x1] = .tuple [.list false ((bK (Ck x0).toNat (gQ x1)).2.map bD),.i (bK (Ck x0).toNat (gQ x1)).1]/\Tp.pf 80 [x0,x1] = .tuple [.agg (gu (cnt1 x0) (gQ x1)).1.d,.i (gu (cnt1 x0) (gQ x1)).2]/\Tp.pf 10 [x0,x1] = .tuple [.agg (nk (lg x0) (jA x1)).1.d,.i (nk (lg x0) (jA x1)).2]/\Tp.pf 220 [x0,x1] = .b (lw (dE x0) (dE x1))/\Tp.pf 106 [x0,x1,.fn (.func 220) [] []] = .b (sZ (fA x0) (fA x1))/\Tp.pf 155 [x0,x1] = .b (mG (aO x0) (aO x1))/\Tp.pf 95 [x0,x1] = .i (qP (sW x0) (aO x1))/\Tp.pf 91 [x0,x1] = .agg (zD (KJ x1) (bu x0)).d/\Tp.pf 101 [x0,x1] = .b (dU (GI x1).set.name (dE x0))/\Tp.pf 177 [x0,x1] = .b (dU (AQ x1).name (dE x0))/\Tp.pf 156 [x0,x1] = .i (dV (CO (x1)) (fA x0) 0)/\Tp.pf 98 [x0,x1] = .b (decide (0<=dV (CO (x1)) (fA x0) 0))/\Tp.pf 48 [x0,x1] = .b (kC (aF x0) (aF x1))/\Tp.pf 49 [x0,x1] = .b (qM (aO x0) (yN x1))/\Tp.pf 107 [x0,x1] = .b (decide ((dE x0).set=(dE x1).set))/\Tp.pf 106 [x0,x1,.fn (.func 107) [] []] = .b (Ad (fA x0) (fA x1))/\Tp.pf 233 [x0,x1] = .i (dV (λy=>decide ((ko x1)=y)) (nW x0) 0)/\Tp.pf 173 [x0,x1] = .b (dX (nW x0) (ko x1))/\Tp.pf 172 [x0,x1] = .b (dX (AQ x1).data (ko x0))/\Tp.pf 232 [x0,x1] = .i (dV (dX (Xf x1).data) (nW x0) 0)/\Tp.pf 168 [x0,x1] = .i (dZ (ko x0) (ko x1))/\Tp.pf 16 [x0,x1] = .tuple [.agg (fJ (aO x0) (AB x1)).1.d,.i (fJ (aO x0) (AB x1)).2]/\Tp.pf 17 [x0,x1] = .agg (gV (bu x0) (Dn x1)).d/\Tp.pf 6 [x0,x1] = .b (xn (aO x0) (AA x1))/\Tp.pf 7 [x0,x1] = .tuple [.list false ((nz (aO x0) (AA x1)).1.map Zon.d),.b (nz (aO x0) (AA x1)).2]:=by and_intros<;>rfl
@[go_sem]theorem tpg3{x0:D}:Tp.pf 222 [x0] = .b (iF (aF x0))/\Tp.pf 179 [x0] = .b (iF (aF x0))/\Tp.pf 178 [x0] = .list false ((jF (aF x0)).map sR)/\Tp.pf 108 [x0] = .b (az (aF x0))/\Tp.pf 157 [x0] = .b (az (aF x0))/\Tp.pf 117 [x0] = .b (az (aF x0))/\Tp.pf 180 [x0] = .list false ((bF (aF x0)).map sR)/\Tp.pf 226 [x0] = .b ((bu x0) != (bu x0))/\Tp.pf 264 [x0] = .b ((aF x0) != (aF x0))/\Tp.pf 191 [x0] = .b (jE (aF x0))/\Tp.pf 183 [x0] = .b (jE (aF x0))/\Tp.pf 236 [x0] = .b (vT (aF x0))/\Tp.pf 234 [x0] = .b (vT (aF x0))/\Tp.pf 230 [x0] = .i (vz (Dn x0) 0)/\Tp.pf 119 [x0] = .b (fB (set1 x0))/\Tp.pf 110 [x0] = .b (fB (set1 x0))/\Tp.pf 182 [x0] = .b (AO (bu x0))/\Tp.pf 127 [x0] = .tuple [.list false ((xB (set1 x0)).1.map bD),.i (xB (set1 x0)).2]/\Tp.pf 238 [x0] = .tuple [.agg (iV (gQ x0)).1.d,.i (iV (gQ x0)).2]/\Tp.pf 109 [x0] = .b (yY (aF x0))/\Tp.pf 59 [x0] = .b (ordered (aO x0))/\Tp.pf 60 [x0] = .b (wm (aO x0))/\Tp.pf 62 [x0] = .b (uW (yf x0))/\Tp.pf 63 [x0] = .b (qY (yf x0))/\Tp.pf 64 [x0] = .b (zZ (yf x0))/\Tp.pf 65 [x0] = .b (Ab (yf x0))/\Tp.pf 61 [x0] = .agg (kZ (aO x0)).d/\Tp.pf 23 [x0] = .b (aJ (aO x0))/\Tp.pf 26 [x0] = .tuple [.i (if aJ (aO x0)then aM (aO x0)else 0),.i (if aJ (aO x0)then 0 else 1)]/\Tp.pf 52 [x0] = .b (mK (aO x0))/\Tp.pf 53 [x0] = .b (rA (aO x0))/\Tp.pf 54 [x0] = .b (nA (aO x0))/\Tp.pf 235 [x0] = .list false ((gX (aO x0)).map sR)/\Tp.pf 187 [x0] = .list false ((bY (aO x0)).map sR)/\Tp.pf 114 [x0] = .list false ((gI (aO x0)).map sR)/\Tp.pf 55 [x0] = .b (si (aO x0))/\Tp.pf 115 [x0] = .list false ((Bc (aO x0)).map bR)/\Tp.pf 56 [x0] = .b (tV (aO x0))/\Tp.pf 19 [x0] = .b (jl (aO x0))/\Tp.pf 21 [x0] = .i (dz (aO x0)):=by and_intros<;>rfl
@[go_sem]theorem tpg4{x0:D}:Tp.pf 18 [x0] = .b (vU (aO x0))/\Tp.pf 58 [x0] = .b (iB (bu x0))/\Tp.pf 31 [x0] = .agg (dE x0).q.d/\Tp.pf 75 [x0] = .list false ((nW x0).map Dat.d)/\Tp.pf 76 [x0] = .list false ((sU x0).map RSig.d)/\Tp.pf 34 [x0] = .agg (dE x0).d/\Tp.pf 28 [x0] = .fmap (jg (kY (fA x0)))/\Tp.pf 86 [x0] = .tuple [.agg (dE x0).d,.b true]/\Tp.pf 144 [x0] = .tuple [.agg (dE x0).d,.b true]/\Tp.pf 137 [x0] = .agg (lV x0).d/\Tp.pf 82 [x0] = .b (fU (jA x0))/\Tp.pf 25 [x0] = .list false ((dL (aO x0)).map bD)/\Tp.pf 39 [x0] = .list false ((dG (jA x0)).map bD)/\Tp.pf 69 [x0] = .v (.int .u64 ((iG (gQ x0):Nat):Int))/\Tp.pf 79 [x0] = .tuple [.agg (fe (gQ x0)).d,.i (gD (iO (gQ x0)))]/\Tp.pf 36 [x0] = .tuple [.agg (vB (lg x0)).d,.b (eP (lg x0)).isSome]/\Tp.pf 37 [x0] = .b (fU (jA x0))/\Tp.pf 40 [x0] = .list false ((gQ x0).map bD)/\Tp.pf 8 [x0] = .tuple [.agg (sD (aO x0)).1.d,.i (sD (aO x0)).2]/\Tp.pf 11 [x0] = .tuple [.agg (rF (lg x0)).1.d,.i (rF (lg x0)).2]/\Tp.pf 12 [x0] = .tuple [.agg (lZ (lg x0)).1.d,.i (lZ (lg x0)).2]/\Tp.pf 89 [x0] = .b (Bi (aO x0))/\Tp.pf 154 [x0] = .b (fU (jA x0))/\Tp.pf 43 [x0] = .b (lS (sW x0))/\Tp.pf 93 [x0] = .b (kI (vE x0))/\Tp.pf 94 [x0] = .tuple [.v (.string (bs (oQ (vE x0)).1)),.b (oQ (vE x0)).2]/\Tp.pf 153 [x0] = .agg (dE x0).d/\Tp.pf 152 [x0,.fn (.func 153) [] []] = .list false ((fA x0).map Sgd.d)/\Tp.pf 92 [x0] = .agg (aO x0).d/\Tp.pf 151 [x0] = .i (aM (aO x0))/\Tp.pf 150 [x0,.fn (.func 151) [] []] = .list false (((mr x0).map aM).map kz)/\Tp.pf 90 [x0] = .tuple [.list false ((uj (mr x0)).1.map kz),.b (uj (mr x0)).2]/\Tp.pf 99 [x0] = .b (tJ (dE x0))/\Tp.pf 47 [x0] = .b (jG (aO x0))/\Tp.pf 96 [x0] = .b (jf (yN x0))/\Tp.pf 97 [x0] = .b (gB (yN x0))/\Tp.pf 46 [x0] = .b (jU (AB x0))/\Tp.pf 20 [x0] = .b (jG (aO x0)):=by and_intros<;>rfl
@[go_sem]theorem tpg5{x0 x1 x2:D}:Tp.pf 190 [x0,x1,x2] = .b (aW (bu x0) (bu x1) (bu x2))/\Tp.pf 265 [x0,x1,x2] = .b (aW (bu x0) (bu x1) (bu x2))/\Tp.pf 181 [x0,x1,x2] = .b (aW (bu x0) (bu x1) (bu x2))/\Tp.pf 41 [x0,x1,x2] = .list false (((gQ x0)++aR (IK x1)++(gQ x2)).map bD)/\Tp.pf 15 [x0,x1,x2] = .tuple [.agg (lm (lg x0) (bu x1) (bu x2)).1.d,.i (lm (lg x0) (bu x1) (bu x2)).2]/\Tp.pf 44 [x0,x1,x2] = .tuple [.agg (jW (mr x0) (yP x1) (bu x2)).1.d,.i (jW (mr x0) (yP x1) (bu x2)).2]/\Tp.pf 45 [x0,x1,x2] = .tuple [.agg (kR (sW x0) (vE x1) (bu x2)).1.d,.i (kR (sW x0) (vE x1) (bu x2)).2]/\Tp.pf 14 [x0,x1,x2] = .tuple [.agg (lW (sW x0) (mr x1) (bu x2)).1.d,.i (lW (sW x0) (mr x1) (bu x2)).2]/\Tp.pf 160 [x0,x1,x2] = .i (qC (dE x0).q ⟨(aF x1),(Fu x2)⟩)/\Tp.pf 159 [x0,x1,x2] = .tuple [.i (bz (fA x0) ⟨(aF x1),(GG x2)⟩),.b (dB (fA x0) ⟨(aF x1),(GG x2)⟩)]/\Tp.pf 102 [x0,x1,x2] = .tuple [.i (bz (aO x0).sets ⟨(aF x1),(bu x2)⟩),.b (dB (aO x0).sets ⟨(aF x1),(bu x2)⟩)]:=by and_intros<;>rfl
@[go_sem]theorem tpg6{x0 x1 x2 x3:D}:Tp.pf 120 [x0,x1,x2,x3] = .i (qC ⟨(aF x0),(bu x1)⟩ ⟨(aF x2),(bu x3)⟩)/\Tp.pf 4 [x0,x1,x2,x3] = .b true:=by and_intros<;>rfl
@[go_sem]theorem tpg7:Tp.pf 85 [.fn (.func 31) [] []] = .fn (.func 148) [] [.eptr [.fn (.func 31) [] []]]/\Tp.pf 140 [.fn (.func 137) [] []] = .fn (.func 209) [] [.eptr [.fn (.func 137) [] []]]/\Tp.pf 5 [] = .b true:=by and_intros<;>rfl
def Au:aS:={ Tp with bs:=true }
def tpB_p{k:FuncId}:Au.pure k=Tp.pure k:=rfl
def tpB_f{k:FuncId}{xs:List D}:Au.pf k xs=Tp.pf k xs:=rfl
def tpB_b:Au.bs=true:=rfl
def tp_b:Tp.bs=false:=rfl
def tp_c:Tp.cf=false:=rfl
def tpB_c:Au.cf=false:=rfl
attribute[go_sem]tpB_p tpB_f tpB_b tp_b tp_c tpB_c
def lq:aS:={ Tp with cf:=true }
def tpF_p{k:FuncId}:lq.pure k=Tp.pure k:=rfl
def tpF_f{k:FuncId}{xs:List D}:lq.pf k xs=Tp.pf k xs:=rfl
def tpF_b:lq.bs=false:=rfl
def tpF_c:lq.cf=true:=rfl
def tp_s:Tp.dp=false:=rfl
def tpB_s:Au.dp=false:=rfl
attribute[go_sem]tpF_p tpF_f tpF_b tpF_c tp_s tpB_s
def uX:aS:={ Tp with dp:=true }
def tpS_p{k:FuncId}:uX.pure k=Tp.pure k:=rfl
def tpS_f{k:FuncId}{xs:List D}:uX.pf k xs=Tp.pf k xs:=rfl
def tpS_b:uX.bs=false:=rfl
def tpS_c:uX.cf=false:=rfl
def tpS_s:uX.dp=true:=rfl
attribute[go_sem]tpS_p tpS_f tpS_b tpS_c tpS_s
set_option maxRecDepth 10000
variable [Glob prog] [Told]
def Zgp(s:Str)(c:Int)(hs:s.length<=9223372036854775806):PureCt prog 273 [.v (.string (bs s)),.v (.int .u8 c)] (.i (gp s c)):=by
 rw[gp]
 refine oO func273 λff=>?_
 unfold f273
 refine aa Tp ?_
 refine ae ?_
 refine aa Tp ?_
 refine aj ?_
 refine lp (α:=(Nat)×Nat) [0,1] (λ⟨k,nx⟩=>(k<=s.length)/\(mQ s c s.length=mQ s c k)/\True) (λ⟨k,nx⟩=>k) (λ⟨k,nx⟩=>[(5,.i ((k:Int)-1))]) (λ⟨k,nx⟩=>[]) (λ⟨k,nx⟩=>nx) (s.length,_) (hA:=⟨iv,rfl,trivial⟩) (round:=?_)
 rintro⟨k,nx⟩ ⟨hk,hv, -⟩
 simp only[XY,X0]
 refine oL Tp ?_ ?_ (hp:=rfl) (hq:=rfl)<;>intro c1
 .
  have hk2:0<k:=by have h7:(0:Int)<=(k:Int)-1:=(by simpa using c1);omega
  have e1:((k:Int)-1).toNat=k-1:=by omega
  have ff:=qA @e1 ff;refine ae ?_;refine aj ?_;refine aa Tp ?_;refine cd ?_ ?_<;>intro c2
  . refine aa Tp ?_;exact fo 0 (k:=by rw[hv,Uk hk2,X3 c2];congr 2;omega)
  refine ah ?_;refine ai Tp ?_
  show ∃_,_
  exact ay (k-1,_) (h1:=⟨iv,(by(try dsimp only);rw[hv,Uk hk2,if_neg c2]),trivial⟩)
 have hk2:k=0:=by have h7 : ¬(0:Int)<=(k:Int)-1:=(by simpa using c1);omega
 refine aH ?_
 refine aa Tp ?_
 exact fo 0 (k:=by rw[hv,hk2];rfl)
def MQ(s:Str)(c:Int)(hs:s.length<=9223372036854775806):PureCt prog 252 [.v (.string (bs s)),.v (.int .u8 c)] (.i (gp s c)):=by
 refine oO func252 λff=>?_
 unfold f252
 refine aa Tp ?_
 refine aa Tp ?_ (hok:=oF (Zgp _ _ hs))
 exact fp 0
def Zg5(s:Str):PureCt prog 222 [.v (.string (bs s))] (.b (iF s)):=by
 rw[Zgr]
 refine oO func222 λff=>?_
 unfold f222
 have e1:((s.length:Int)-1).toNat=s.length-1:=by omega
 have ff:=qA @e1 ff
 refine aa Tp ?_
 refine oK Tp ?_ ?_<;>intro c1
 . refine aa Tp ?_;exact fo 0 (k:=o4q)
 refine ae ?_
 refine aa Tp ?_
 refine aj ?_
 refine lp (α:=(Nat)×Nat) [0,27] (λ⟨k,nx⟩=>(k<=s.length)/\(aA s.length (xX s) 0=aA s.length (xX s) k)/\True) (λ⟨k,nx⟩=>s.length-k) (λ⟨k,nx⟩=>[(28,.i k)]) (λ⟨k,nx⟩=>[]) (λ⟨k,nx⟩=>nx) (0,_) (hA:=⟨iv,rfl,trivial⟩) (round:=?_)
 rintro⟨k,nx⟩ ⟨hk,hv, -⟩
 simp only[XY,X0]
 refine aa Tp ?_
 refine ae ?_
 refine cd ?_ ?_ (hp:=rfl)<;>intro c2
 .
  have hk2:k<s.length:=by simpa using c2
  refine ah ?_;refine ae ?_;refine aj ?_;refine oD Tp ?_;refine cd ?_ ?_<;>intro c3
  . refine aa Tp ?_;exact fo 0 (k:=by have h8:xX s k=false:=(by simp only[xX,sF,Yd,Yy,X4];omega);rw[hv,iI,X3 hk2,h8];(repeat' split)<;>rfl)
  refine ah ?_;refine ai Tp ?_
  show ∃_,_
  exact ay (k+1,_) (h1:=⟨iv,(by(try dsimp only);have h8:xX s k=true:=(by simp only[xX,sF,Bool.or_eq_true,Bool.and_eq_true,decide_eq_true_eq];omega);rw[hv,iI,if_pos hk2,h8];rfl),trivial⟩)
 refine aH ?_
 refine aa Tp ?_
 exact fo 0 (k:=o2l)
def Zd0(s:Str)(hs:s.length<=9223372036854775806):PureCt prog 179 [.v (.string (bs s))] (.b (iF s)):=by
 rw[iF]
 refine oO func179 λff=>?_
 unfold f179
 refine aa Tp ?_
 refine ae ?_
 refine aa Tp ?_
 refine aj ?_
 refine lp (α:=(Nat)×Nat) [0] (λ⟨k,nx⟩=>(k<=s.length)/\(aA s.length (ql s) 0=aA s.length (ql s) k)/\True) (λ⟨k,nx⟩=>s.length-k) (λ⟨k,nx⟩=>[(3,.i k)]) (λ⟨k,nx⟩=>[]) (λ⟨k,nx⟩=>nx) (0,_) (hA:=⟨iv,rfl,trivial⟩) (round:=?_)
 rintro⟨k,nx⟩ ⟨hk,hv, -⟩
 simp only[XY,X0]
 refine oL Tp ?_ ?_ (hp:=rfl)<;>intro c1
 .
  have hk2:k<s.length:=by simpa using c1
  refine ae ?_;refine aj ?_;refine oD Tp ?_;refine cd ?_ ?_<;>intro c2
  . refine aa Tp ?_;exact fo 0 (k:=by have h8:ql s k=false:=(by simp only[ql,sF,Yd,Yy,X4];omega);rw[hv,iI,X3 hk2,h8];rfl)
  refine ah ?_;refine ai Tp ?_
  show ∃_,_
  exact ay (k+1,_) (h1:=⟨iv,(by(try dsimp only);have h8:ql s k=true:=(by simp only[ql,sF,Bool.or_eq_true,Bool.and_eq_true,decide_eq_true_eq];omega);rw[hv,iI,if_pos hk2,h8];rfl),trivial⟩)
 refine aH ?_
 refine aa Tp ?_
 exact fo 0 (k:=by rw[hv,iI,XV (by omega)];congr 2;rw[YL];simp only[XU,XW,ZG];omega)
def Re(s:Str)(hs:s.length<=1000):PureCt prog 178 [.v (.string (bs s))] (.list false ((jF s).map sR)):=by
 rw[jF]
 refine oO func178 λff=>?_
 unfold f178
 refine aa Tp ?_
 refine aa Au ?_
 refine ae ?_
 refine aa Tp ?_
 refine aj ?_
 refine lp (α:=(Nat)×(List Str)×(Nat)×Nat) [0] (λ⟨k,out,r,nx⟩=>(k<=s.length)/\(1<=out.length)/\(out.length<=k+1)/\(∀x∈out,x.length<=k)/\(wG s 0 [[]]=wG s k out)/\(r<nx)/\True) (λ⟨k,out,r,nx⟩=>s.length-k) (λ⟨k,out,r,nx⟩=>[(3,.mrow r 0 out.length),(4,.i k)]) (λ⟨k,out,r,nx⟩=>[(r,⟨9,out.map sR⟩)]) (λ⟨k,out,r,nx⟩=>nx) (0,[[]],1,_) (hA:=⟨iv,o5h,o5h,o5h,rfl,iv,trivial⟩) (round:=?_)
 rintro⟨k,out,r,nx⟩ ⟨hk,ho1,ho,hl,hv,hr, -⟩
 simp only[XY,X0]
 have ff:=qA @hr ff
 refine oL Tp ?_ ?_ (hp:=rfl)<;>intro c1
 .
  have hk2:k<s.length:=by simpa using c1
  have hk3:out.length-1<out.length:=by omega
  have e1:((out.length:Int)-1).toNat=out.length-1:=by omega
  have e5:((k:Int)+1).toNat=k+1:=by omega
  have hl3:out[out.length-1]!.length<=k:=hl _ (by rw[getElem!_pos out _ hk3];exact YI _)
  have ff:=qE @e1 @e5 (nS hk3) (Ze7 hk2) ff;refine ae ?_;refine aj ?_;refine aa Tp ?_;refine cd ?_ ?_<;>intro c2
  .
   have e2:=Zcj (out:=out) (c:=s.getD k 0) c2;refine ai Tp ?_;refine ai Tp ?_
   show ∃_,_
   exact ay (k+1,out++[[]],(nx+10),_) (h1:=⟨iv,o5h,o4r,(by(try dsimp only);intro x hx;rcases List.mem_append.1 hx with h|h;exact Nat.le_succ_of_le (hl x h);simp at h;subst h;exact Nat.zero_le _),(by(try dsimp only);rw[hv,EB,if_pos hk2,e2]),iv,trivial⟩) (h3:=o0r) (h4:=o0r) (h5:=o0r)
  have e2:=Zcl (out:=out) (c:=s.getD k 0) c2;refine ai Tp ?_;refine ai Tp ?_
  show ∃_,_
  exact ay (k+1,out.set (out.length-1) (out[out.length-1]! ++ [s.getD k 0]),r,_) (h1:=⟨iv,o4r,o4r,(by(try dsimp only);intro x hx;rcases List.mem_or_eq_of_mem_set hx with h|h;exact Nat.le_succ_of_le (hl x h);subst h;rw[List.length_append];exact Nat.succ_le_succ hl3),(by(try dsimp only);rw[hv,EB,if_pos hk2,e2]),iv,trivial⟩) (h3:=o0r) (h4:=o0r) (h5:=o0r)
 refine aH ?_
 refine aa Tp ?_
 exact fo 1 (k:=by rw[hv,EB,XV (by omega)])
def lT(s:Str):PureCt prog 108 [.v (.string (bs s))] (.b (az s)):=by
 rw[az]
 refine oO func108 λff=>?_
 unfold f108
 refine aa Tp ?_
 refine oK Tp ?_ ?_<;>intro c1
 . refine aa Tp ?_;exact fo 0 (k:=by rw[X3 c1])
 refine oK Tp ?_ ?_<;>intro c2
 . refine aa Tp ?_;exact fo 0 (k:=by rw[XV c1,X3 (by omega)])
 refine aa Tp ?_ (hok:=iE @Re)
 refine ae ?_
 refine aa Tp ?_
 refine aj ?_
 refine lp (α:=(Nat)×Nat) [3] (λ⟨k,nx⟩=>(k<=(jF s).length)/\(aA (jF s).length (uw (jF s)) 0=aA (jF s).length (uw (jF s)) k)/\True) (λ⟨k,nx⟩=>(jF s).length-k) (λ⟨k,nx⟩=>[(4,.i k)]) (λ⟨k,nx⟩=>[]) (λ⟨k,nx⟩=>nx) (0,_) (hA:=⟨iv,rfl,trivial⟩) (round:=?_)
 rintro⟨k,nx⟩ ⟨hk,hv, -⟩
 simp only[XY,X0]
 have hsl:=Zcm s k
 have hsn:=(Hz s).2
 refine oL Tp ?_ ?_ (hp:=rfl)<;>intro c3
 .
  have hk2:k<(jF s).length:=by simpa using c3
  have ff:=qA (nS hk2) ff;refine ae ?_;refine aj ?_;refine aa Tp ?_ (hok:=iE @Zd0);refine aa Tp ?_ (hok:=by(try simp only[go_sem,ff]);all_goals (refine⟨λ_=>⟨om,om⟩,λh1 _=>⟨h1,λh3=>by rw[h1,h3];rfl⟩⟩))
  refine cd ?_ ?_<;>intro c4
  . refine aa Tp ?_;exact fo 0 (k:=by rw[XV c1,XV (by omega),hv,iI,X3 hk2,ZeS c4.1 (by first|exact c4.2|(rcases c4.2 with h|h;exact .inl (by omega);exact .inr h))];rfl)
  refine ah ?_;refine ai Tp ?_
  show ∃_,_
  exact ay (k+1,_) (h1:=⟨iv,(by(try dsimp only);rw[hv,iI,if_pos hk2,ZeR (by first|exact c4|(rcases c4 with h|h;exact .inl h;exact .inr ⟨om,h.2⟩))];rfl),trivial⟩)
 refine aH ?_
 refine aa Tp ?_
 exact fo 0 (k:=by rw[XV c1,XV (by omega),hv,iI,XV (by omega),ZG];congr 2;exact ZP.2 (by omega))
def EM(s:Str)(hs:s.length<=1000):PureCt prog 180 [.v (.string (bs s))] (.list false ((bF s).map sR)):=by
 rw[bF]
 refine oO func180 λff=>?_
 unfold f180
 refine aa Tp ?_
 refine oK Tp ?_ ?_<;>intro c1
 . refine aa Tp ?_;exact fo 0 (k:=by rw[X3 c1];rfl)
 refine aa Tp ?_ (hok:=oF (Re _ hs))
 exact fo 0 (k:=by rw[XV c1])
theorem Xv:dY prog 221=true:=by kernel_rfl
theorem Ev(s:Str):PureCt prog 157 [.v (.string (bs s))] (.b (az s)):=by
 refine oO func157 λff=>?_
 unfold f157
 refine aa Tp ?_
 refine oK Tp ?_ ?_<;>intro c1
 . refine aa Tp ?_;exact fo 0 (k:=by rw[az,X3 c1])
 refine oK Tp ?_ ?_<;>intro c3
 . refine aa Tp ?_;exact fo 0 (k:=by rw[az,XV c1,X3 (by omega)])
 refine aa Tp ?_
 refine ae ?_
 refine aa Tp ?_
 refine aj ?_
 refine VY o5v ev func221 rfl Xv (by simp[f221]) rfl (λl rL hp ha hb hn=>?_)
 unfold f221
 refine oK Tp ?_ ?_<;>intro d0
 . exact absurd d0 c1
 refine aa Tp ?_
 refine aj ?_
 refine lp (α:=(Str)×(Nat)×(Bool)×Nat) [1] (λ⟨rest,n,wild,nx⟩=>(n<=8)/\(rest.length<=s.length)/\(7<nx)/\(az s=ru (qg rest) n wild)/\True) (λ⟨rest,n,wild,nx⟩=>rest.length) (λ⟨rest,n,wild,nx⟩=>[(4,.v (.string (bs rest)))]) (λ⟨rest,n,wild,nx⟩=>[(0,⟨4,[[.b false]]⟩),(6,⟨3,[[.i n]]⟩),(7,⟨4,[[.b wild]]⟩)]) (λ⟨rest,n,wild,nx⟩=>nx) (s,0,false,_) (hA:=⟨oW,o3a,iv,(by(try dsimp only);rw[TD,if_neg c1,if_neg (by omega)]),trivial⟩) (round:=?_)
 rintro⟨rest,n,wild,nx⟩ ⟨hn8,hl,hx,hv, -⟩
 simp only[XY,X0]
 have hL:=Jb rest 46
 have n0:0<nx:=by omega
 have n6:6<nx:=by omega
 have n7:7<nx:=by omega
 refine aj ?_
 refine aa Tp ?_ (hok:=iE @MQ)
 refine ae ?_
 refine ae ?_
 refine VV (C:=Tp) (r:=rL) 5 (dR rfl) rfl rfl rfl o4u ?_ ev o3i o5v ev (by rw[hp];rfl) (by rw[hp,hn];show ∀p∈[13],p<30;decide) ?_
 .
  try simp only[go_sem,ff]
  all_goals (first|done|(repeat' (with_reducible apply And.intro))<;>first|omega|(with_reducible assumption)|(intros;omega)|(intros;simp only[XW,X4,Yc,XU,Yd,Yb,Yr]at *;omega)|(simp_all;done)|(simp_all;omega))
 rw[ha,hb,hp,hn]
 show DW _ _ _ _ { n:=_,t:=zb _ [13] _,h:=_,nx:=_ }
 simp only[QZ,QY]
 refine ai Tp ?_
 refine⟨rfl,?_⟩
 refine aj ?_
 refine aa Tp ?_
 refine oK Tp ?_ ?_ (hp:=rfl) (hq:=rfl)<;>intro c9
 .
  refine aa Tp ?_;refine aL ?_;refine⟨rfl,false,some .ret,⟨rfl,rfl⟩,⟨_,_,_,_,_,_⟩,by simp only[X9,X6,S.put,go_sem,ff];exact rfl,?_,?_⟩
  .
   try simp only[go_sem,ff]
   all_goals (first|done|(repeat' (with_reducible apply And.intro))<;>first|omega|(with_reducible assumption)|(intros;omega)|(intros;simp only[XW,X4,Yc,XU,Yd,Yb,Yr]at *;omega)|(simp_all;done)|(simp_all;omega))
  try simp only[aI]
  refine cd ?_ ?_ (hp:=rfl) (hq:=rfl)<;>intro d3
  . refine aL ?_;refine⟨.inr rfl,some .ret,rfl,?_⟩;exact fin 0 (hr:=oS (k:=by first|(rw[hv,tq,Pv c9];done)|(rw[hv,tq,Pt c9 c12])))
  simp at d3
 have c9b:=ZjQ c9
 refine aa Tp ?_
 refine aa Tp ?_ (hok:=iE @Zg5)
 refine cd (λc12=>?_) (λc12=>?_) (hp:=rfl) (hq:=rfl)
 .
  refine aa Tp ?_;refine aL ?_;refine⟨rfl,false,some .ret,⟨rfl,rfl⟩,⟨_,_,_,_,_,_⟩,by simp only[X9,X6,S.put,go_sem,ff];exact rfl,?_,?_⟩
  .
   try simp only[go_sem,ff]
   all_goals (first|done|(repeat' (with_reducible apply And.intro))<;>first|omega|(with_reducible assumption)|(intros;omega)|(intros;simp only[XW,X4,Yc,XU,Yd,Yb,Yr]at *;omega)|(simp_all;done)|(simp_all;omega))
  try simp only[aI]
  refine cd ?_ ?_ (hp:=rfl) (hq:=rfl)<;>intro d3
  . refine aL ?_;refine⟨.inr rfl,some .ret,rfl,?_⟩;exact fin 0 (hr:=oS (k:=by first|(rw[hv,tq,Pv c9];done)|(rw[hv,tq,Pt c9 c12])))
  simp at d3
 refine ah ?_
 refine⟨rfl,true,none,⟨rfl,rfl⟩,⟨_,_,_,_,_,_⟩,by simp only[X9,X6,S.put,go_sem,ff];exact rfl,?_,?_⟩
 .
  try simp only[go_sem,ff]
  all_goals (first|done|(repeat' (with_reducible apply And.intro))<;>first|omega|(with_reducible assumption)|(intros;omega)|(intros;simp only[XW,X4,Yc,XU,Yd,Yb,Yr]at *;omega)|(simp_all;done)|(simp_all;omega))
 try simp only[aI]
 refine cd ?_ ?_<;>intro d3
 . refine aL ?_;refine⟨.inr rfl,none,rfl,?_⟩;refine aa Tp ?_;exact fo 0 (k:=by rw[hv,tq,Ps c9 c12,X3 d3];rfl)
 refine ah ?_
 refine ai Tp ?_
 show ∃_,_
 exact ay (rest.take (gp rest 46).toNat,n+1,((rest.drop (gp rest 46+1).toNat)==[42]),_) (h1:=⟨oW,o3a,iv,(by(try dsimp only);rw[hv,tq,Ps c9 c12,if_neg d3]),trivial⟩) (h2:=by show(_:Nat)<_;(simp;omega))
def zF(s:Str):PureCt prog 117 [.v (.string (bs s))] (.b (az s)):=by
 refine oO func117 λff=>?_
 unfold f117
 refine aa Tp ?_
 refine aa Tp ?_ (hok:=oF (Ev _))
 exact fp 0
def ZjV:Go.Shelf.Ren:={ f:=λx=>match x with|213=>254|265=>274|n=>n,t:=λx=>match x with|3=>3|9=>9|n=>n,g:=λn=>n }
def ZjW:Go.Proofs.Lays.n213 prog ZjV:={
 mixed:=o7
 f213:=func254.trans (by kernel_rfl)
 f265:=func274.trans (by kernel_rfl)
 t3:=underlying3
 a3:=Tryz.isAgg3
 z3:=Tryz.sizeOf3
 v3:=Tryz.zeroValue3
 t9:=underlying9
 a9:=Tryz.isAgg9
 z9:=Tryz.sizeOf9
 v9:=Tryz.zeroValue9 }
def ZjU(a b:Str):PureCt prog 254 [.v (.string (bs a)),.v (.string (bs b))] (.i (Go.Lib.compareBytes a b)):=by
 refine⟨by kernel_rfl,by simp[D.nr],λw I vs hI hg hr=>?_⟩
 obtain⟨x,l,rfl,h1,h2⟩:=hr.of_cons
 obtain⟨y,l,rfl,h3,h4⟩:=h2.of_cons
 rw[h4.of_nil,h1.v_inv,h3.v_inv]
 have:=Go.Proofs.Any.bytealg_CompareString ZjW (bs a) (bs b) w
 refine callsIn_wide.2 (this.mono ?_)
 rintro e w' ⟨rfl,rfl⟩
 refine⟨_,rfl,⟨rfl,rfl,rfl,XX _,XX _,λ_ _=>rfl⟩,?_⟩
 rw[uf,uf]
 exact .v _
def ZjT(a:Str)(b:Str):PureCt prog 225 [.v (.string (bs a)),.v (.string (bs b))] (.i (Go.Lib.compareBytes a b)):=by
 refine oO func225 λff=>?_
 unfold f225
 refine aa Tp ?_
 refine aa Tp ?_ (hok:=oF (ZjU _ _))
 exact fp 0
def Zew(s:Str)(h:H)(n:Nat):bU prog 224 [.v (.string (bs s))] h n (λd h' n'=>d = .fn (.func 253) [] [.mptr (n+5) 0 0,.mptr (n+4) 0 0]/\h'=upd (upd h (n+4) (some ⟨9,[[.v (.string (bs s))]]⟩)) (n+5) (some ⟨4,[[.b (s != [46])]]⟩)/\n'=n+10):=by
 refine oP func224 λhnone ff=>?_
 unfold f224
 have ff:=qA (nH (n+4) (n+5)) ff
 refine oD Tp ?_
 refine aL ?_
 exact cK (upd (upd h (n+4) (some ⟨9,[[.v (.string (bs s))]]⟩)) (n+5) (some ⟨4,[[.b (s != [46])]]⟩)) (hr:=by(try simp only[go_sem,ff]);all_goals (exact⟨rfl,rfl,rfl⟩)) (hh:=by intro q;left;by_cases e1:q=n+5<;>by_cases e2:q=n+4<;>simp[upd,e1,e2])
def Zey(more:Bool)(rest:Str)(m r:Nat)(h:H)(n:Nat)(hm:h m=some ⟨4,[[.b more]]⟩)(hr:h r=some ⟨9,[[.v (.string (bs rest))]]⟩)(hmr:m≠r)(hl:rest.length<=1000):bU prog 253 [.mptr m 0 0,.mptr r 0 0] h n (λd h' n'=>d = .tuple [.v (.string (bs (xS more rest))),.b more]/\h'=upd (upd h m (some ⟨4,[[.b (tF more rest)]]⟩)) r (some ⟨9,[[.v (.string (bs (tC more rest)))]]⟩)/\n<=n'):=by
 refine oP func253 λhnone ff=>?_
 unfold f253
 have hrm:r≠m:=λe=>hmr e.symm
 have hL:=Jb rest 46
 have ff:=qE @hm @hr @hmr @hrm ff
 refine aa Tp ?_
 refine oK Tp ?_ ?_<;>intro c1
 . refine aa Tp ?_;refine aL ?_;exact cK (upd (upd h m (some ⟨4,[[.b (tF more rest)]]⟩)) r (some ⟨9,[[.v (.string (bs (tC more rest)))]]⟩)) (hr:=oS (k:=o4e)) (hh:=o2f)
 refine aa Tp ?_ (hok:=iE @MQ)
 refine aa Tp ?_
 refine ae ?_
 refine aa Tp ?_
 refine cd ?_ ?_<;>intro c2
 . refine ai Tp ?_;refine aa Tp ?_;refine aL ?_;exact cK (upd (upd h m (some ⟨4,[[.b (tF more rest)]]⟩)) r (some ⟨9,[[.v (.string (bs (tC more rest)))]]⟩)) (hr:=oS (k:=o4e)) (hh:=o2f)
 refine ai Tp ?_
 refine aa Tp ?_
 refine aL ?_
 exact cK (upd (upd h m (some ⟨4,[[.b (tF more rest)]]⟩)) r (some ⟨9,[[.v (.string (bs (tC more rest)))]]⟩)) (hr:=oS (k:=o4e)) (hh:=o2f)
def Mv(a:Str)(b:Str):PureCt prog 161 [.v (.string (bs a)),.v (.string (bs b))] (.tuple [.i (if az a&&az b then kU a b else 0),.i (if az a&&az b then 0 else 11)]):=by
 refine oO func161 λff=>?_
 unfold f161
 refine oC Tp ?_
 refine oK Tp (λc1=>?_) (λc1=>?_) (hok:=by(try simp only[go_sem,ff]);all_goals (first|done|(simp only[Ev,and_true,implies_true];done)|((repeat' (with_reducible apply And.intro))<;>first|(intros;exact Ev _)))) (hp:=rfl)
 . refine aa Tp ?_;exact fo 1 (k:=by(have e:(az a&&az b)=false:=by revert c1;cases az a<;>cases az b<;>simp);rw[e];rfl)
 refine oK Tp ?_ ?_<;>intro c2
 . refine aa Tp ?_;exact fo 1 (k:=by rw[c1.1,c1.2,kU,X3 c2];rfl)
 refine ae (bJ Tp 1 (hct:=by exact Zew b _ _) (hk:=?_))
 rintro res h2 n2 ⟨rfl,rfl,rfl⟩
 refine bI Tp ?_
 refine aa Tp ?_
 refine ae ?_
 refine aa Tp ?_
 refine aj ?_
 refine VY o5v ev func221 rfl Xv (by simp[f221]) rfl (λl rL hp ha hb hn=>?_)
 unfold f221
 refine oK Tp ?_ ?_<;>intro d0
 . refine aL ?_;refine⟨.inr rfl,none,rfl,?_⟩;refine aa Tp ?_;exact fo 1 (k:=o2i)
 refine aa Tp ?_
 refine aj ?_
 refine lp (α:=(Str)×(Bool)×(Str)×Nat) [1] (λ⟨rest,more,uo,nx⟩=>(rest.length<=60)/\(uo.length<=60)/\(30<nx)/\(uS (ik a) (ik b)=uS (qg rest) (pl more uo))/\True) (λ⟨rest,more,uo,nx⟩=>rest.length) (λ⟨rest,more,uo,nx⟩=>[(4,.v (.string (bs rest)))]) (λ⟨rest,more,uo,nx⟩=>[(0,⟨3,[[.i 0]]⟩),(1,⟨35,[[.i 0]]⟩),(22,⟨9,[[.v (.string (bs uo))]]⟩),(23,⟨4,[[.b more]]⟩),(30,⟨287,[[.fn (.func 253) [] [.mptr 23 0 0,.mptr 22 0 0]]]⟩)]) (λ⟨rest,more,uo,nx⟩=>nx) (a,(b != [46]),b,_) (hA:=⟨(gM c1.1),(gM c1.2),iv,(by(try dsimp only);rw[ZdZ b,ik,if_neg d0]),trivial⟩) (round:=?_)
 rintro⟨rest,more,uo,nx⟩ ⟨hl,hl2,hx,hv, -⟩
 simp only[XY,X0]
 have hL:=Jb rest 46
 have n0:0<nx:=by omega
 have n1:1<nx:=by omega
 have n22:22<nx:=by omega
 have n23:23<nx:=by omega
 refine aj ?_
 refine aa Tp ?_ (hok:=iE @MQ)
 refine ae ?_
 refine ae ?_
 refine VV (C:=Tp) (r:=rL) 5 (dR rfl) rfl rfl rfl o4u ?_ ev o3i o5v ev (by rw[hp];rfl) (by rw[hp,hn];show ∀p∈[32],p<46;decide) ?_
 .
  try simp only[go_sem,ff]
  all_goals (first|done|(repeat' (with_reducible apply And.intro))<;>first|omega|(with_reducible assumption)|(intros;omega)|(intros;simp only[XW,X4,Yc,XU,Yd,Yb,Yr]at *;omega)|(simp_all;done)|(simp_all;omega))
 rw[ha,hb,hp,hn]
 show DW _ _ _ _ { n:=_,t:=zb _ [32] _,h:=_,nx:=_ }
 simp only[QZ,QY]
 refine ai Tp ?_
 refine⟨rfl,?_⟩
 refine aj ?_
 refine ae (bJ Tp 1 (hct:=by exact Zey more uo 23 22 _ _ rfl rfl (by decide) om) (hk:=?_))
 rintro res h2 n2 ⟨rfl,rfl,hn2⟩
 refine bI Tp ?_
 refine oK Tp (λc11=>?_) (λc11=>?_) (hp:=rfl) (hq:=rfl)
 .
  refine aa Tp ?_;refine aL ?_;refine⟨rfl,false,some .ret,⟨rfl,rfl⟩,⟨_,_,_,_,_,_⟩,by simp only[X9,X6,S.put,go_sem,ff];exact rfl,?_,?_⟩
  .
   try simp only[go_sem,ff]
   all_goals (first|done|(repeat' (with_reducible apply And.intro))<;>first|omega|(with_reducible assumption)|(intros;omega)|(intros;simp only[XW,X4,Yc,XU,Yd,Yb,Yr]at *;omega)|(simp_all;done)|(simp_all;omega))
  try simp only[aI]
  refine cd ?_ ?_ (hp:=rfl) (hq:=rfl)<;>intro d3
  . refine aL ?_;refine⟨.inr rfl,some .ret,rfl,?_⟩;exact fin 1 (hr:=oS (k:=o1n))
  simp at d3
 refine aa Tp ?_ (hok:=oF (ZjT _ _))
 refine aa Tp ?_
 refine cd (λc14=>?_) (λc14=>?_) (hp:=rfl) (hq:=rfl)
 .
  refine aa Tp ?_;refine aL ?_;refine⟨rfl,false,some .ret,⟨rfl,rfl⟩,⟨_,_,_,_,_,_⟩,by simp only[X9,X6,S.put,go_sem,ff];exact rfl,?_,?_⟩
  .
   try simp only[go_sem,ff]
   all_goals (first|done|(repeat' (with_reducible apply And.intro))<;>first|omega|(with_reducible assumption)|(intros;omega)|(intros;simp only[XW,X4,Yc,XU,Yd,Yb,Yr]at *;omega)|(simp_all;done)|(simp_all;omega))
  try simp only[aI]
  refine cd ?_ ?_ (hp:=rfl) (hq:=rfl)<;>intro d3
  . refine aL ?_;refine⟨.inr rfl,some .ret,rfl,?_⟩;exact fin 1 (hr:=oS (k:=o1n))
  simp at d3
 refine ah ?_
 refine⟨rfl,true,none,⟨rfl,rfl⟩,⟨_,_,_,_,_,_⟩,by simp only[X9,X6,S.put,go_sem,ff];exact rfl,?_,?_⟩
 .
  try simp only[go_sem,ff]
  all_goals (first|done|(repeat' (with_reducible apply And.intro))<;>first|omega|(with_reducible assumption)|(intros;omega)|(intros;simp only[XW,X4,Yc,XU,Yd,Yb,Yr]at *;omega)|(simp_all;done)|(simp_all;omega))
 try simp only[aI]
 refine cd ?_ ?_<;>intro d3
 . refine aL ?_;refine⟨.inr rfl,none,rfl,?_⟩;refine aa Tp ?_;exact fo 1 (k:=o2i)
 refine ah ?_
 refine ai Tp ?_
 show ∃_,_
 exact ay (rest.take (gp rest 46).toNat,tF more uo,tC more uo,_) (h1:=⟨o3a,(by(try dsimp only);first|omega|(have:=ZeF more uo;omega)),iv,(by(try dsimp only);rw[hv,Oy c11 c14,if_neg d3]),trivial⟩) (h2:=by show(_:Nat)<_;(simp;omega))
def EN(a:Str)(b:Str)(ha:a.length<=1000)(hb:b.length<=1000):PureCt prog 188 [.v (.string (bs a)),.v (.string (bs b))] (.i (fZ a b)):=by
 rw[Zfy]
 refine oO func188 λff=>?_
 unfold f188
 have hl:=(Sq a).2
 have hm:=(Sq b).2
 refine aa Tp ?_
 refine aa Tp ?_ (hok:=oF (EM _ ha))
 refine aa Tp ?_ (hok:=oF (EM _ hb))
 refine ae ?_
 refine aa Tp ?_
 refine aj ?_
 refine lp (α:=(Nat)×Nat) [5,6] (λ⟨k,nx⟩=>(1<=k)/\(k<=(bF a).length+1)/\(zA (bF a) (bF b) 1=zA (bF a) (bF b) k)/\True) (λ⟨k,nx⟩=>(bF a).length+1-k) (λ⟨k,nx⟩=>[(7,.i k)]) (λ⟨k,nx⟩=>[]) (λ⟨k,nx⟩=>nx) (1,_) (hA:=⟨iv,iv,rfl,trivial⟩) (round:=?_)
 rintro⟨k,nx⟩ ⟨hk,hk1,hv, -⟩
 simp only[XY,X0]
 refine oL Tp ?_ ?_ (hp:=rfl) (hq:=rfl)<;>intro c1
 .
  have hk2:k<=(bF a).length/\k<=(bF b).length:=by simp only[XU,XW]at c1;omega
  have e1:(((bF a).length:Int)-k).toNat=(bF a).length-k:=by omega
  have e2:(((bF b).length:Int)-k).toNat=(bF b).length-k:=by omega
  have g1:(bF a).length-k<(bF a).length:=by omega
  have g2:(bF b).length-k<(bF b).length:=by omega
  have ff:=qE @e1 @e2 (nS g1) (nS g2) ff;refine ae ?_;refine aj ?_;refine oC Tp ?_;refine oK Tp ?_ ?_ (hp:=rfl) (hq:=rfl)<;>intro c2
  . refine aa Tp ?_;exact fo 0 (k:=by rw[hv,Be,X3 hk2,X3 c2])
  refine aa Tp ?_;refine cd ?_ ?_ (hp:=rfl) (hq:=rfl)<;>intro c3
  . refine aa Tp ?_;exact fo 0 (k:=by rw[hv,Be,X3 hk2,XV (by rw[c2];simp),X3 c3])
  refine ah ?_;refine ai Tp ?_
  show ∃_,_
  exact ay (k+1,_) (h1:=⟨iv,iv,(by(try dsimp only);rw[hv,Be,if_pos hk2,if_neg (by rw[c2];simp),if_neg (by rw[c3];simp)]),trivial⟩)
 have hk2 : ¬(k<=(bF a).length/\k<=(bF b).length):=by simp only[Yy,X4]at c1;omega
 refine aH ?_
 refine oK Tp ?_ ?_<;>intro c4
 . refine aa Tp ?_;exact fo 0 (k:=by rw[hv,Be,XV hk2,X3 (by omega)])
 refine oK Tp ?_ ?_<;>intro c5
 . refine aa Tp ?_;exact fo 0 (k:=by rw[hv,Be,XV hk2,XV (by omega),X3 (by omega)])
 refine aa Tp ?_
 exact fo 0 (k:=by rw[hv,Be,XV hk2,XV (by omega),XV (by omega)])
def ZdX(a:Str)(b:Str):PureCt prog 186 [.v (.string (bs a)),.v (.string (bs b))] (.tuple [.i (if az a&&az b then kU a b else 0),.i (if az a&&az b then 0 else 11)]):=by
 refine oO func186 λff=>?_
 unfold f186
 refine aa Tp ?_
 refine aa Tp ?_ (hok:=oF (lT _))
 refine aa Tp ?_ (hok:=oF (lT _))
 refine oK Tp ?_ ?_ (hp:=rfl)<;>intro c1
 .
  have e:(az a&&az b)=false:=by revert c1;cases az a<;>cases az b<;>simp
  refine aa Tp ?_;exact fo 1 (k:=by rw[e];rfl)
 have e:(az a&&az b)=true:=by rw[c1.1,c1.2];rfl
 have la:=gM c1.1
 have lb:=gM c1.2
 refine aa Tp ?_ (hok:=iE @EN)
 exact fo 1 (k:=by rw[e,Mt];rfl)
def Eo(x:Int)(lo:Int)(hi:Int):PureCt prog 190 [.i x,.i lo,.i hi] (.b (aW x lo hi)):=by
 refine oO func190 λff=>?_
 unfold f190
 refine oC Tp ?_
 exact fp 0
theorem KN(x:Int)(lo:Int)(hi:Int):PureCt prog 265 [.v (.int .u8 x),.v (.int .u8 lo),.v (.int .u8 hi)] (.b (aW x lo hi)):=by
 refine oO func265 λff=>?_
 unfold f265
 refine oC Tp ?_
 exact fp 0
def qb(x:Int)(lo:Int)(hi:Int):PureCt prog 181 [.i x,.i lo,.i hi] (.b (aW x lo hi)):=by
 refine oO func181 λff=>?_
 unfold f181
 refine oC Tp ?_
 exact fp 0
def Tz(x:Int):PureCt prog 226 [.i x] (.b (x != x)):=by
 refine oO func226 λff=>?_
 unfold f226
 refine oC Tp ?_
 exact fp 0
def Ty(x:Str):PureCt prog 264 [.v (.string (bs x))] (.b (x != x)):=by
 refine oO func264 λff=>?_
 unfold f264
 refine oC Tp ?_
 exact fp 0
def Gy(x:Int)(y:Int):PureCt prog 162 [.i x,.i y] (.i (cmpI x y)):=by
 refine oO func162 λff=>?_
 unfold f162
 refine aa Tp ?_
 refine aa Tp ?_ (hok:=by(try simp only[go_sem,ff]);all_goals (have h:=Tz x;simp only[bne_self_eq_false]at h;exact h))
 refine aa Tp ?_ (hok:=by(try simp only[go_sem,ff]);all_goals (have h:=Tz y;simp only[bne_self_eq_false]at h;exact h))
 refine oK Tp ?_ ?_ (hp:=rfl)<;>intro c1
 . simp at c1
 refine oK Tp ?_ ?_ (hp:=rfl)<;>intro c2
 . simp at c2
 refine oK Tp ?_ ?_<;>intro c3
 . refine aa Tp ?_;exact fo 0 (k:=o2m)
 refine oK Tp ?_ ?_<;>intro c4
 . refine aa Tp ?_;exact fo 0 (k:=o2m)
 refine aa Tp ?_
 exact fo 0 (k:=o2m)
def WZ(x:Str)(y:Str):PureCt prog 231 [.v (.string (bs x)),.v (.string (bs y))] (.i (uR x y)):=by
 refine oO func231 λff=>?_
 unfold f231
 refine aa Tp ?_
 refine aa Tp ?_ (hok:=by(try simp only[go_sem,ff]);all_goals (have h:=Ty x;simp only[bne_self_eq_false]at h;exact h))
 refine aa Tp ?_ (hok:=by(try simp only[go_sem,ff]);all_goals (have h:=Ty y;simp only[bne_self_eq_false]at h;exact h))
 refine oK Tp ?_ ?_ (hp:=rfl)<;>intro c1
 . simp at c1
 refine oK Tp ?_ ?_ (hp:=rfl)<;>intro c2
 . simp at c2
 refine oK Tp ?_ ?_<;>intro c3
 . refine aa Tp ?_;exact fo 0 (k:=o2m)
 refine oK Tp ?_ ?_<;>intro c4
 . refine aa Tp ?_;exact fo 0 (k:=o2m)
 refine aa Tp ?_
 exact fo 0 (k:=o2m)
def Zhx(s:Str)(p:Str):PureCt prog 189 [.v (.string (bs s)),.v (.string (bs p))] (.b (yz s p)):=by
 refine oO func189 λff=>?_
 unfold f189
 refine oC Tp ?_
 exact fo 0 (k:=by have e:decide ((p.length:Int)<=s.length)=decide (p.length<=s.length):=ZP.2 (by omega);rw[yz,e])
def Nn(s:Str)(p:Str):PureCt prog 118 [.v (.string (bs s)),.v (.string (bs p))] (.b (yz s p)):=by
 refine oO func118 λff=>?_
 unfold f118
 refine aa Tp ?_
 refine aa Tp ?_ (hok:=iE @Zhx)
 exact fp 0
def M4(s:Str):PureCt prog 191 [.v (.string (bs s))] (.b (jE s)):=by
 refine oO func191 λff=>?_
 unfold f191
 refine aa Tp ?_
 refine aa Tp ?_ (hok:=iE @Nn)
 exact fo 0 (k:=by rw[Ay])
def qf(s:Str):PureCt prog 183 [.v (.string (bs s))] (.b (jE s)):=by
 refine oO func183 λff=>?_
 unfold f183
 refine oC Tp ?_
 exact fo 0 (k:=by rw[jE];congr 2;rw[YL];simp only[XU,XW,YB];omega)
def Zg6(s:Str):PureCt prog 236 [.v (.string (bs s))] (.b (vT s)):=by
 rw[vT]
 refine oO func236 λff=>?_
 unfold f236
 have e1:((s.length:Int)-1).toNat=s.length-1:=by omega
 have ff:=qA @e1 ff
 refine aa Tp ?_
 have hin:aW (s.length:Int) 1 40=true->(1:Int)<=s.length/\(s.length:Int)<=40:=by intro h;simp only[aW,XU,XW]at h;exact h
 refine oK Tp (λc1=>?_) (λc1=>?_) (hok:=by(try simp only[go_sem,ff]);all_goals (refine⟨⟨⟨Eo _ _ _,λh=>by have:=hin h;omega⟩,λh=>?_⟩,λh=>?_⟩<;>(rw[Yd,Yr]at h;have:=hin h.1;omega)))
 .
  try simp only[aW,XU,Yy,XW,X4]at c1
  refine aa Tp ?_;exact fo 0 (k:=o4q)
 try simp only[aW,XU,Yy,XW,X4]at c1
 refine ae ?_
 refine aa Tp ?_
 refine aj ?_
 refine lp (α:=(Nat)×Nat) [0,23] (λ⟨k,nx⟩=>(k<=s.length)/\(aA s.length (tQ s) 0=aA s.length (tQ s) k)/\True) (λ⟨k,nx⟩=>s.length-k) (λ⟨k,nx⟩=>[(24,.i k)]) (λ⟨k,nx⟩=>[]) (λ⟨k,nx⟩=>nx) (0,_) (hA:=⟨iv,rfl,trivial⟩) (round:=?_)
 rintro⟨k,nx⟩ ⟨hk,hv, -⟩
 simp only[XY,X0]
 refine aa Tp ?_
 refine ae ?_
 refine cd ?_ ?_ (hp:=rfl)<;>intro c2
 .
  have hk2:k<s.length:=by simpa using c2
  refine ah ?_;refine ae ?_;refine aj ?_;refine oC Tp ?_;refine aa Tp ?_ (hok:=by(try simp only[go_sem,ff]);all_goals (first|done|(simp only[KN,and_true,implies_true];done)|((repeat' (with_reducible apply And.intro))<;>first|(intros;exact KN _ _ _)|(intros;simp_all;done))))
  refine cd ?_ ?_<;>intro c3
  . refine aa Tp ?_;exact fo 0 (k:=o1j)
  refine ah ?_;refine ai Tp ?_
  show ∃_,_
  exact ay (k+1,_) (h1:=⟨iv,o0f,trivial⟩)
 refine aH ?_
 refine aa Tp ?_
 exact fo 0 (k:=o2l)
def ZdC(s:Str):PureCt prog 234 [.v (.string (bs s))] (.b (vT s)):=by
 rw[vT]
 refine oO func234 λff=>?_
 unfold f234
 have e1:((s.length:Int)-1).toNat=s.length-1:=by omega
 have ff:=qA @e1 ff
 refine oC Tp ?_
 refine oK Tp ?_ ?_<;>intro c1
 . refine aa Tp ?_;exact fo 0 (k:=o4q)
 refine ae ?_
 refine aa Tp ?_
 refine aj ?_
 refine lp (α:=(Nat)×Nat) [0,3] (λ⟨k,nx⟩=>(k<=s.length)/\(aA s.length (tQ s) 0=aA s.length (tQ s) k)/\True) (λ⟨k,nx⟩=>s.length-k) (λ⟨k,nx⟩=>[(4,.i k)]) (λ⟨k,nx⟩=>[]) (λ⟨k,nx⟩=>nx) (0,_) (hA:=⟨iv,rfl,trivial⟩) (round:=?_)
 rintro⟨k,nx⟩ ⟨hk,hv, -⟩
 simp only[XY,X0]
 refine oL Tp ?_ ?_ (hp:=rfl)<;>intro c2
 .
  have hk2:k<s.length:=by simpa using c2
  refine ae ?_;refine aj ?_;refine oC Tp ?_;refine cd ?_ ?_<;>intro c3
  . refine aa Tp ?_;exact fo 0 (k:=o1j)
  refine ah ?_;refine ai Tp ?_
  show ∃_,_
  exact ay (k+1,_) (h1:=⟨iv,o0f,trivial⟩)
 refine aH ?_
 refine aa Tp ?_
 exact fo 0 (k:=o2l)
def ZdY(a:Dat)(b:Dat):PureCt prog 185 [.agg a.d,.agg b.d] (.b (less a b)):=by
 rw[less]
 refine oO func185 λff=>?_
 unfold f185
 refine aa Tp ?_
 refine oK Tp ?_ ?_ (hp:=rfl) (hq:=rfl)<;>intro c1
 . refine aa Tp ?_;exact fo 0 (k:=by rw[X3 c1];rfl)
 refine oK Tp ?_ ?_ (hp:=rfl) (hq:=rfl)<;>intro c2
 . refine aa Tp ?_;exact fo 0 (k:=by rw[XV (by rw[c1];simp),X3 c2])
 refine aa Tp ?_
 exact fo 0 (k:=by rw[XV (by rw[c1];simp),XV (by rw[c2];simp)])
def W9(l:List Int):PureCt prog 230 [.list false (l.map iR)] (.i (vz l 0)):=by
 refine oO func230 λff=>?_
 unfold f230
 refine ZiA 0 rfl λhlen=>?_
 simp only[Zm,maxLen]at hlen
 refine oC Tp ?_
 refine ae ?_
 refine aa Tp ?_
 refine aj ?_
 refine lp (α:=(Nat)×Nat) [3,6,7] (λ⟨k,nx⟩=>(k<=l.length)/\(vz l 0=vz l k)/\True) (λ⟨k,nx⟩=>l.length-k) (λ⟨k,nx⟩=>[(8,.i k)]) (λ⟨k,nx⟩=>[]) (λ⟨k,nx⟩=>nx) (0,_) (hA:=⟨iv,rfl,trivial⟩) (round:=?_)
 rintro⟨k,nx⟩ ⟨hk,hv, -⟩
 simp only[XY,X0]
 refine aa Tp ?_
 refine ae ?_
 refine cd ?_ ?_ (hp:=rfl)<;>intro c1
 .
  have hk2:k<l.length:=by simpa using c1
  have ff:=qA (Vg hk2) ff;refine ah ?_;refine ae ?_;refine aj ?_;refine oC Tp ?_;refine cd ?_ ?_ (hp:=rfl) (hq:=rfl)<;>intro c2
  . refine aa Tp ?_;exact fo 0 (k:=by rw[hv,Bf,X3 hk2,X3 c2])
  refine ah ?_;refine ai Tp ?_
  show ∃_,_
  exact ay (k+1,_) (h1:=⟨iv,(by(try dsimp only);rw[hv,Bf,if_pos hk2,if_neg (by rw[c2];simp)]),trivial⟩)
 refine aH ?_
 refine aa Tp ?_
 exact fo 0 (k:=by rw[hv,Bf,XV (by omega)])
def Xa(a:Dat)(b:Dat):PureCt prog 193 [.agg a.d,.agg b.d] (.i (dZ a b)):=by
 refine oO func193 λff=>?_
 unfold f193
 refine aa Tp ?_
 refine aa Tp ?_ (hok:=oJ WZ Gy (W9 [_,_,_]))
 exact fo 0 (k:=by rw[<-SH];rfl)
def ZdD(k:Int):PureCt prog 182 [.i k] (.b (AO k)):=by
 refine oO func182 λff=>?_
 unfold f182
 refine oC Tp ?_
 exact fo 0 (k:=by first|rfl|(unfold AO;simp))
def Py(r:wo)(d:Dat)(hr:r.even=true->0<=r.n0):PureCt prog 192 [.agg r.d,.agg d.d] (.b (jS r d)):=by
 refine oO func192 λff=>?_
 unfold f192
 refine aa Tp ?_
 refine oK Tp (λc1=>?_) (λc1=>?_) (hok:=by(try simp only[go_sem,ff]);all_goals (first|done|((repeat' (with_reducible apply And.intro))<;>first|(intros;exact Eo _ _ _)|(intro h;simp only[XU,Yb,Yd,Yr,jM]at h;have:=hr h.2;omega)|(intros;simp_all;done))))
 . refine aa Tp ?_;exact fo 0 (k:=by rcases c1 with(h|h)|⟨h1,h2⟩<;>simp[jS, *])
 refine ae ?_
 refine aa Tp ?_
 refine aj ?_
 refine aa Tp ?_
 refine cd ?_ ?_<;>intro c2
 . refine aa Tp ?_ (hok:=oI zF M4);exact fo 0 (k:=o3u)
 refine aa Tp ?_
 refine cd ?_ ?_<;>intro c3
 . refine aa Tp ?_ (hok:=oF (zF _));exact fo 0 (k:=o3u)
 refine aa Tp ?_
 refine cd ?_ ?_<;>intro c4
 . refine aa Tp ?_ (hok:=oF (Zg6 _));exact fo 0 (k:=o3u)
 refine ah ?_
 refine aa Tp ?_
 exact fo 0 (k:=by obtain⟨⟨h1,h2⟩,h3⟩:=c1;rcases h3 with h3|h3<;>simp[jS,xH, *]<;>cases d.t<;>rfl)
def Zd9(k:Int)(d:Dat):PureCt prog 184 [.i k,.agg d.d] (.b (ow k d)):=by
 refine oO func184 λff=>?_
 unfold f184
 refine aa Tp ?_
 refine ae ?_
 refine aa Tp ?_
 refine aj ?_
 refine aa Tp ?_
 refine cd ?_ ?_<;>intro c1
 .
  refine aa Tp ?_ (hok:=o0i)
  exact fo 0 (k:=by simp[ow, *])
 refine oL Tp ?_ ?_<;>intro c2
 .
  refine cd ?_ ?_<;>intro c3
  .
   refine aa Tp ?_ (hok:=o0i)
   exact fo 0 (k:=by simp[ow, *])
  exact absurd c2 c3
 refine ai Tp ?_
 refine cd ?_ ?_<;>intro c4
 .
  refine aa Tp ?_ (hok:=o0i)
  exact fo 0 (k:=by simp[ow, *])
 refine aa Tp ?_
 refine cd ?_ ?_<;>intro c5
 .
  refine aa Tp ?_ (hok:=o0i)
  exact fo 0 (k:=by simp[ow, *])
 refine aa Tp ?_
 refine cd ?_ ?_<;>intro c6
 . refine aa Tp ?_ (hok:=iE @ZdC);exact fo 0 (k:=by simp[ow, *])
 refine oL Tp ?_ ?_<;>intro c7
 .
  refine cd ?_ ?_<;>intro c8
  .
   refine aa Tp ?_ (hok:=o0i)
   exact fo 0 (k:=by simp[ow, *])
  exact absurd c7 c8
 refine ai Tp ?_
 refine cd ?_ ?_<;>intro c9
 .
  refine aa Tp ?_ (hok:=o0i)
  exact fo 0 (k:=by simp[ow, *])
 refine aa Tp ?_
 refine cd (λc10=>?_) (λc10=>?_)
 .
  refine aa Tp ?_ (hok:=o0i)
  exact fo 0 (k:=by simp[ow, *])
 refine ah ?_
 refine aa Tp ?_
 exact fo 0 (k:=by simp[ow, *])
open Go.Cmp
def ZdB{k:Nat}(h1:1<=k)(h8:k<=8):∃rest:List D,∀hh,jo prog (.v (.pointer (some ⟨1,k*8,none⟩))) hh=(gL k).d++rest:=by
 refine⟨(Ik.drop (k*8+8)).map D.v,λhh=>?_⟩
 rw[Ug,glob0]
 have:k=1\/k=2\/k=3\/k=4\/k=5\/k=6\/k=7\/k=8:=by omega
 rcases this with e|e|e|e|e|e|e|e<;>subst e<;>rfl
def vg(s:RSet):PureCt prog 119 [.agg s.d] (.b (fB s)):=by
 refine oO func119 λff=>?_
 unfold f119
 refine aa Tp ?_
 refine oK Tp ?_ ?_ (hok:=oa2 @zF @Eo)<;>intro c1
 . refine aa Tp ?_;exact fo 0 (k:=by rcases c1 with(h|h)|h<;>simp[fB,h])
 refine oK Tp ?_ ?_ (hok:=oF (Eo _ _ _))<;>intro c2
 . refine aa Tp ?_;exact fo 0 (k:=by simp[fB,c2])
 have hty:=jM.1 c1.1.2
 obtain⟨rest,hld⟩:=ZdB (k:=s.ty.toNat) om om
 have ff:=qA @hld ff
 refine aa Tp ?_ (hok:=by(try simp only[go_sem,ff]);all_goals (first|done|omega|((repeat' (with_reducible apply And.intro))<;>first|omega|rfl)))
 refine oK Tp (λc3=>?_) (λc3=>?_) (hok:=by(try simp only[go_sem,ff]);all_goals (first|done|((repeat' (with_reducible apply And.intro))<;>first|(intros;exact M4 _)|(intros;simp_all;done)|(intros;by_cases hq:(gL s.ty.toNat).single=true<;>simp_all))))
 . refine aa Tp ?_;exact fo 0 (k:=by rcases c3 with⟨h1,h2⟩|⟨h1,h2⟩<;>simp[fB,h1,h2])
 refine ae ?_
 refine aa Tp ?_
 refine aj ?_
 refine lp (α:=(Nat)×Nat) [1,3,50,51] (λ⟨k,nx⟩=>(k<=s.data.length)/\(27<nx)/\(aA s.data.length (nX s.ty.toNat s.data) 0=aA s.data.length (nX s.ty.toNat s.data) k)/\True) (λ⟨k,nx⟩=>s.data.length-k) (λ⟨k,nx⟩=>[(52,.i k)]) (λ⟨k,nx⟩=>[(0,⟨60,[s.d]⟩),(27,⟨255,[(gL s.ty.toNat).d]⟩)]) (λ⟨k,nx⟩=>nx) (0,_) (hA:=⟨iv,iv,rfl,trivial⟩) (round:=?_)
 rintro⟨k,nx⟩ ⟨hk,hx,hv, -⟩
 simp only[XY,X0]
 have n0:0<nx:=by omega
 have ff:=qB @hx @n0 ff
 refine aa Tp ?_
 refine ae ?_
 refine cd ?_ ?_ (hp:=rfl)<;>intro c4
 .
  have hk2:k<s.data.length:=by simpa using c4
  have ff:=qA (pG hk2) ff;refine ah ?_;refine ae ?_;refine aj ?_;refine aa Tp ?_;have BL:=jM.1 c2;have e1:((k:Int)-1).toNat=k-1:=by omega
  have hk1:k-1<s.data.length:=by omega
  have ff:=qB @e1 (pG hk1) ff;refine aa Tp ?_ (hok:=by(try simp only[go_sem,ff]);all_goals (first|done|((repeat' (with_reducible apply And.intro))<;>first|(intros;exact Py _ _ (Rc _))|(intros;exact Xa _ _)|(intros;simp_all;done)|(intro h;simp only[XU,XW]at h;have:=h.2;omega)|skip)))
  refine cd ?_ ?_<;>intro c5
  . refine aa Tp ?_;exact fo 0 (k:=by rw[Lu c1 c2 c3,hv,iI,X3 hk2,WE c5];rfl)
  refine ah ?_;refine ai Tp ?_
  show ∃_,_
  exact ay (k+1,_) (h1:=⟨iv,iv,(by(try dsimp only);rw[hv,iI,if_pos hk2,WC c5];rfl),trivial⟩)
 refine aH ?_
 refine aa Tp ?_
 exact fo 0 (k:=by rw[Lu c1 c2 c3,hv,iI,XV (by omega)])
def Rf(s:RSet):PureCt prog 110 [.agg s.d] (.b (fB s)):=by
 refine oO func110 λff=>?_
 unfold f110
 refine oC Tp ?_
 refine oK Tp ?_ ?_ (hok:=oa3 @lT @qb @ZdD)<;>intro c1
 . refine aa Tp ?_;exact fo 0 (k:=by rw[ZcP c1])
 refine oK Tp ?_ ?_ (hok:=iE @qf) (hp:=rfl) (hq:=rfl)<;>intro c2
 .
  rw[Po _ c1.1.1.1.2]at c2
  try simp only[XW,X4,Yc,XU,Yd,Yb,Yr,Yy,YB,Zi,ZC,Zo,ne_eq]at c2
  refine aa Tp ?_;exact fo 0 (k:=by rw[ZcO c2])
 rw[Po _ c1.1.1.1.2]at c2
 try simp only[XW,X4,Yc,XU,Yd,Yb,Yr,Yy,YB,Zi,ZC,Zo,ne_eq]at c2
 refine ae ?_
 refine aa Tp ?_
 refine aj ?_
 refine lp (α:=(Nat)×Nat) [1,3] (λ⟨k,nx⟩=>(k<=s.data.length)/\(0<nx)/\(aA s.data.length (nX s.ty.toNat s.data) 0=aA s.data.length (nX s.ty.toNat s.data) k)/\True) (λ⟨k,nx⟩=>s.data.length-k) (λ⟨k,nx⟩=>[(4,.i k)]) (λ⟨k,nx⟩=>[(0,⟨60,[s.d]⟩)]) (λ⟨k,nx⟩=>nx) (0,_) (hA:=⟨iv,iv,rfl,trivial⟩) (round:=?_)
 rintro⟨k,nx⟩ ⟨hk,hx,hv, -⟩
 simp only[XY,X0]
 have ff:=qA @hx ff
 refine oL Tp ?_ ?_ (hp:=rfl)<;>intro c3
 .
  have hk2:k<s.data.length:=by simpa using c3
  have ff:=qA (pG hk2) ff;refine ae ?_;refine aj ?_;have BL:=jM.1 c1.1.2;have e1:((k:Int)-1).toNat=k-1:=by omega
  have hk1:k-1<s.data.length:=by omega
  have ff:=qB @e1 (pG hk1) ff;refine aa Tp ?_ (hok:=oa2 @Zd9 @ZdY);refine cd ?_ ?_<;>intro c4
  . refine aa Tp ?_;exact fo 0 (k:=by rw[QV c1 c2,hv,iI,X3 hk2,Zjy c1.1.1.1.2 c4];rfl)
  refine ah ?_;refine ai Tp ?_
  show ∃_,_
  exact ay (k+1,_) (h1:=⟨iv,iv,(by(try dsimp only);rw[hv,iI,if_pos hk2,Zjw c1.1.1.1.2 c4];rfl),trivial⟩)
 refine aH ?_
 refine aa Tp ?_
 exact fo 0 (k:=by rw[QV c1 c2,hv,iI,XV (by omega)])
def Rl(a:RSet)(b:RSet):PureCt prog 112 [.agg a.d,.agg b.d] (.i (lU a b)):=by
 refine oO func112 λff=>?_
 unfold f112
 refine aa Tp ?_
 refine aa Tp ?_ (hok:=oF (ZdX _ _))
 refine oK Tp ?_ ?_<;>intro c1
 . refine aa Tp ?_;exact fo 0 (k:=o3j)
 refine oK Tp ?_ ?_<;>intro c2
 . refine aa Tp ?_;exact fo 0 (k:=o3j)
 refine oK Tp ?_ ?_<;>intro c3
 . refine aa Tp ?_;exact fo 0 (k:=o3j)
 refine aa Tp ?_
 exact fo 0 (k:=o3j)
def ZdH(a:RSet)(b:RSet)(ha:a.data.length<=100000):PureCt prog 149 [.agg a.d,.agg b.d] (.b (ve a b)):=by
 refine oO func149 λff=>?_
 unfold f149
 refine aa Tp ?_
 refine oK Tp ?_ ?_<;>intro c1
 . refine aa Tp ?_;exact fo 0 (k:=by rw[Zdv c1])
 refine ae ?_
 refine aa Tp ?_
 refine aj ?_
 refine lp (α:=(Nat)×Nat) [2,3] (λ⟨k,nx⟩=>(k<=a.data.length)/\(1<nx)/\(∀i,i<k->a.data[i]! = b.data[i]!)/\True) (λ⟨k,nx⟩=>a.data.length-k) (λ⟨k,nx⟩=>[(5,.i k)]) (λ⟨k,nx⟩=>[(0,⟨60,[a.d]⟩),(1,⟨60,[b.d]⟩)]) (λ⟨k,nx⟩=>nx) (0,_) (hA:=⟨iv,iv,o4c,trivial⟩) (round:=?_)
 rintro⟨k,nx⟩ ⟨hk,hx,hv, -⟩
 simp only[XY,X0]
 have n0:0<nx:=by omega
 have ff:=qB @hx @n0 ff
 refine oL Tp ?_ ?_ (hp:=rfl)<;>intro c2
 .
  have hk2:k<a.data.length:=by simpa using c2
  have hk3:k<b.data.length:=by have:=c1.2;omega
  have ff:=qB (pG hk2) (pG hk3) ff;refine ae ?_;refine aj ?_;refine aa Tp ?_;refine cd ?_ ?_ (hp:=rfl) (hq:=rfl)<;>intro c3
  . refine aa Tp ?_;exact fo 0 (k:=by rw[Zdw (ZjB c3)])
  refine ah ?_;refine ai Tp ?_
  show ∃_,_
  exact ay (k+1,_) (h1:=⟨iv,iv,(by(try dsimp only);intro i hi;by_cases e:i=k;subst e;exact Zjx c3;exact hv i om),trivial⟩)
 refine aH ?_
 refine aa Tp ?_
 exact fo 0 (k:=by rw[Zdu c1 λi hi=>hv i (by omega)])
@[go_sem]theorem all_bD{t:Str}:(∀r∈t.map bD,r.length=1)=True:=by
 apply eq_true
 intro r hr
 obtain⟨x,_,rfl⟩:=Yt.1 hr
 rfl
theorem ZdK(b t:Str):(b.map bD++[[.v (.int .u8 ((jK t.length).toNat:Int))]])++t.map bD=(b++bP t).map bD:=by
 simp[bP,bD]
theorem rD(t:Str):(bP t).length=t.length+1:=rfl
theorem ZiO{l:List Dat}{k:Nat}(h:k<l.length):l.drop k=l[k]! :: l.drop (k+1):=by
 rw[YC h,getElem!_pos l k h]
theorem take8(m:Int){k:Nat}(h:k<8):(cO m).take (k+1)=(cO m).take k++[gY (uN m) (56-8*k)]:=by
 have:k=0\/k=1\/k=2\/k=3\/k=4\/k=5\/k=6\/k=7:=by omega
 rcases this with e|e|e|e|e|e|e|e<;>subst e<;>rfl
def Zfg(m:Int)(s:Nat)(hs:s<=56):IntKind.u8.wrap ((IntKind.u64.wrap m).fdiv (2^(min s 64)))=((gY (uN m) s).toNat:Int):=by
 have e1:IntKind.u64.wrap m=(uN m:Int):=by rw[IntKind.wrap_u64];unfold uN;omega
 rw[e1,IntKind.wrap_u8,ZK (by omega),Ky]
 rw[Int.fdiv_eq_ediv_of_nonneg _ (by exact_mod_cast Yi _)]
 norm_cast
def XO(b t:Str)(r:Nat)(h:H)(n:Nat)(hr:h r=some ⟨5,b.map bD⟩)(hl:b.length<=1000000)(ht:t.length<=1000000):bU prog 197 [.mrow r 0 b.length,.v (.string (bs t))] h n (λd h' n'=>∃r',d = .mrow r' 0 (b++bP t).length/\h'=upd (upd h r none) r' (some ⟨5,(b++bP t).map bD⟩)/\n<=r'/\r'<n'):=by
 refine oP func197 λhnone ff=>?_
 unfold f197
 have hrn:r<n:=by rcases YG r n with q|q;exact q;rw[hnone r q]at hr;cases hr
 have ff:=qB @hr @hrn ff
 refine oD Tp ?_
 refine aL ?_
 exact cK (upd (upd h r none) (n+10) (some ⟨5,(b++bP t).map bD⟩)) (hr:=oS (k:=by exact⟨n+10,by simp[bP];omega,rfl,om,om⟩)) (hh:=by rw[<-ZdK];exact Vt (r1:=n+6) (.inr (hnone _ (by omega))))
def KG(b:Str)(m:Int)(r:Nat)(h:H)(n:Nat)(hr:h r=some ⟨5,b.map bD⟩)(hl:b.length<=1000000):bU prog 198 [.mrow r 0 b.length,.i m] h n (λd h' n'=>∃r',d = .mrow r' 0 (b++cO m).length/\h'=upd (upd h r none) r' (some ⟨5,(b++cO m).map bD⟩)/\n<=r'/\r'<n'):=by
 refine oP func198 λhnone ff=>?_
 unfold f198
 have hrn:r<n:=by rcases YG r n with q|q;exact q;rw[hnone r q]at hr;cases hr
 have ff:=qB @hr @hrn ff
 refine aa Tp ?_
 refine ae ?_
 refine aa Tp ?_
 refine aj ?_
 refine jm (α:=(Nat)×(Nat)×Nat) [1] (λ⟨k,r1,nx⟩=>(k<=8)/\(r1=r/\k=0\/n<=r1)/\(r1<nx)/\(n<=nx)/\True) (λ⟨k,r1,nx⟩=>9-k) (λ⟨k,r1,nx⟩=>[(0,.mrow r1 0 (b.length+k)),(5,.i (56-8*k))]) (λ⟨k,r1,nx⟩=>upd (upd h r none) r1 (some ⟨5,(b++(cO m).take k).map bD⟩)) (λ⟨k,r1,nx⟩=>nx) (0,r,_) (hA:=⟨iv,iv,iv,iv,trivial⟩) (round:=?_) (BN:=by simp only[Ye,Yv];exact ZhW hr)
 rintro⟨k,r1,nx⟩ ⟨hk,h1,hx,hn, -⟩
 simp only[XY,X0]
 have ff:=qA @hx ff
 refine oL Tp ?_ ?_ (hp:=rfl) (hq:=rfl)<;>intro c1
 .
  have hk2:k<8:=by have:(0:Int)<=56-8*(k:Int):=(by simpa using c1);omega
  have e1:(56-8*(k:Int)).toNat=56-8*k:=by omega
  have e2:=Zfg m (56-8*k) (by omega)
  have ff:=qB @e1 @e2 ff;refine ae ?_;refine aj ?_;refine ai Tp ?_ (hok:=by(try simp only[go_sem,ff,jb,YA,XZ]);all_goals (exact ok0))
  refine ai Tp ?_
  show ∃_,_
  refine ay (k+1,(nx+9),_) (h1:=⟨iv,iv,iv,iv,trivial⟩) (h5:=?_);rw[take8 m hk2,<-Yu,YT,YT];exact Vt (h1.imp (λq=>q.1) λq=>hnone _ q)
 have hk3:k=8:=by have : ¬(0:Int)<=56-8*(k:Int):=(by simpa using c1);omega
 subst hk3
 refine aH ?_
 refine aa Tp ?_
 refine aL ?_
 exact cK (upd (upd h r none) r1 (some ⟨5,(b++cO m).map bD⟩)) (hr:=oS (k:=by exact⟨r1,by simp[jb],rfl,om,om⟩))
def Zec(s:RSet):PureCt prog 127 [.agg s.d] (.tuple [.list false ((xB s).1.map bD),.i (xB s).2]):=by
 refine oO func127 λff=>?_
 unfold f127
 refine aa Tp ?_
 refine oK Tp ?_ ?_ (hok:=oF (vg _))<;>intro c1
 . refine aa Tp ?_;exact fo 2 (k:=by simp[xB,c1])
 have hs:=(iM s).1 c1
 have BL:=hs.len
 have hn60:=gM hs.name
 refine aa Tp ?_
 refine yH 4 5 o5v o5v ?_
 refine ae (bJ Tp 3 (hct:=by exact XO [] s.name 7 _ _ rfl (by simp) om) (hk:=?_))
 rintro res h2 n2 ⟨r1,rfl,rfl,ar1,br1⟩
 dsimp only at ar1 br1
 have z1r1:(0=r1)=False:=YO om
 have z2r1:(r1=0)=False:=YO om
 have pr1:0<n2:=by omega
 have ff:=qE @z1r1 @z2r1 @br1 @pr1 ff
 refine bI Tp ?_
 refine Cc [1,4] [(0,⟨60,[s.d]⟩),(r1,⟨5,(bP s.name).map bD⟩)] o4v o4a ?_
 refine ae (bJ Tp 3 (hct:=by exact KG (bP s.name) s.ty r1 _ _ (by simp only[go_sem,z1r1,z2r1]) o5n) (hk:=?_))
 rintro res h2 n2 ⟨r2,rfl,rfl,ar2,br2⟩
 dsimp only at ar2 br2
 have z1r2:(0=r2)=False:=YO om
 have z2r2:(r2=0)=False:=YO om
 have pr2:0<n2:=by omega
 have ff:=qE @z1r2 @z2r2 @br2 @pr2 ff
 refine bI Tp ?_
 refine Cc [1,4] [(0,⟨60,[s.d]⟩),(r2,⟨5,(bP s.name++cO s.ty).map bD⟩)] o4v o4a ?_
 refine ae (bJ Tp 3 (hct:=by exact KG (bP s.name++cO s.ty) s.life r2 _ _ (by simp only[go_sem,z1r2,z2r2]) o5n) (hk:=?_))
 rintro res h2 n2 ⟨r3,rfl,rfl,ar3,br3⟩
 dsimp only at ar3 br3
 have pr3:0<n2:=by omega
 have ff:=qD (nH 0 r3) @br3 @pr3 ff
 refine bI Tp ?_
 refine Cc [1,4] [(0,⟨60,[s.d]⟩),(r3,⟨5,(bP s.name++cO s.ty++cO s.life).map bD⟩)] o4v o4a ?_
 refine aa Tp ?_ (hok:=by(try simp only[go_sem,ff,rD,jb,XZ]);all_goals (exact ok0))
 refine ae ?_
 refine aa Tp ?_
 refine aj ?_
 refine lp (α:=(Nat)×(Str)×(Nat)×Nat) [30,31] (λ⟨k,out,r,nx⟩=>(k<=s.data.length)/\(r<nx)/\(out.length<=1000+k*300)/\(out++(s.data.drop k).flatMap kN=ig s)/\True) (λ⟨k,out,r,nx⟩=>s.data.length-k) (λ⟨k,out,r,nx⟩=>[(4,.mrow r 0 out.length),(32,.i k)]) (λ⟨k,out,r,nx⟩=>[(r,⟨5,(out).map bD⟩)]) (λ⟨k,out,r,nx⟩=>nx) (0,bP s.name++cO s.ty++cO s.life++[jK s.data.length],(n2+11),_) (hA:=⟨iv,iv,(by first|(simp[bP,jb];omega)|(dsimp only;simp[bP,jb];omega)),(by first|(simp[ig])|(dsimp only;simp[ig])),trivial⟩) (round:=?_)
 rintro⟨k,out,r,nx⟩ ⟨hk,hr,ho,hv, -⟩
 simp only[XY,X0]
 have ff:=qA @hr ff
 refine aa Tp ?_
 refine ae ?_
 refine cd ?_ ?_ (hp:=rfl)<;>intro c2
 .
  have hk2:k<s.data.length:=by simpa using c2
  have hd:=(Om hs.ty (hs.dat _ (YI hk2))).2.1;rw[<-getElem!_pos s.data k hk2]at hd;have ff:=qA (pG hk2) ff;refine ah ?_;refine ae ?_;refine aj ?_;refine aa Tp ?_;refine ae (bJ Tp 3 (hct:=by exact XO out s.data[k]!.t r _ _ (by simp only[go_sem,hr]) om om) (hk:=?_))
  rintro res h2 n2 ⟨q1,rfl,rfl,aq1,bq1⟩;dsimp only at aq1 bq1;have z1q1:(nx+3=q1)=False:=eq_false om;have z2q1:(q1=nx+3)=False:=eq_false om;have pq1:nx+3<n2:=by omega
  have ff:=qE @z1q1 @z2q1 @bq1 @pq1 ff;refine bI Tp ?_;refine Cc [4,6,30,31,32] [((nx+3),⟨57,[s.data[k]!.d]⟩),(q1,⟨5,(out++bP s.data[k]!.t).map bD⟩)] o4v o4a ?_
  refine ae (bJ Tp 3 (hct:=by exact KG (out++bP s.data[k]!.t) s.data[k]!.n q1 _ _ (by simp only[go_sem,z1q1,z2q1]) o5n) (hk:=?_))
  rintro res h2 n2 ⟨q2,rfl,rfl,aq2,bq2⟩;dsimp only at aq2 bq2;have z1q2:(nx+3=q2)=False:=eq_false om;have z2q2:(q2=nx+3)=False:=eq_false om;have pq2:nx+3<n2:=by omega
  have ff:=qE @z1q2 @z2q2 @bq2 @pq2 ff;refine bI Tp ?_;refine Cc [4,6,30,31,32] [((nx+3),⟨57,[s.data[k]!.d]⟩),(q2,⟨5,(out++bP s.data[k]!.t++cO s.data[k]!.n).map bD⟩)] o4v o4a ?_
  refine bJ Tp 3 (hct:=by exact KG (out++bP s.data[k]!.t++cO s.data[k]!.n) s.data[k]!.m q2 _ _ (by simp only[go_sem,z1q2,z2q2]) o5n) (hk:=?_)
  rintro res h2 n2 ⟨q3,rfl,rfl,aq3,bq3⟩;dsimp only at aq3 bq3;have pq3:nx+3<n2:=by omega
  have ff:=qD (nH (nx+3) q3) @bq3 @pq3 ff;refine bI Tp ?_;refine Cc [4,30,31,32] [(q3,⟨5,(out++bP s.data[k]!.t++cO s.data[k]!.n++cO s.data[k]!.m).map bD⟩)] o4v o4a ?_
  refine ai Tp ?_
  show ∃_,_
  exact ay (k+1,out++bP s.data[k]!.t++cO s.data[k]!.n++cO s.data[k]!.m,q3,_) (h1:=⟨iv,iv,(by(try dsimp only);simp only[List.length_append,rD,jb];omega),(by(try dsimp only);rw[<-hv,ZiO hk2];simp[kN]),trivial⟩)
 refine aH ?_
 refine aa Tp ?_
 exact fo 2 (k:=by rw[Y3 (by omega)]at hv;simp at hv;simp[xB,c1,hv])
def Ze0{u:Nat}(hu:u<18446744073709551616)(c:UInt8):IntKind.u64.wrap ((BitVec.ofInt 64 (IntKind.u64.wrap ((u:Int)*2^(min 8 64))) ||| BitVec.ofInt 64 (IntKind.u64.wrap (c.toNat:Int))).toNat:Nat)=(gK u c:Int):=by
 have hc:=c.toNat_lt
 have e0:((2:Int)^(min 8 64))=256:=rfl
 rw[e0]
 have e1:IntKind.u64.wrap ((u:Int)*256)=((u*256 % 18446744073709551616:Nat):Int):=by rw[IntKind.wrap_u64];omega
 have e2:IntKind.u64.wrap (c.toNat:Int)=(c.toNat:Int):=by rw[IntKind.wrap_u64];omega
 rw[e1,e2,BitVec.ofInt_natCast,BitVec.ofInt_natCast,BitVec.toNat_or,BitVec.toNat_ofNat,BitVec.toNat_ofNat]
 have e3:c.toNat % 2^64=c.toNat:=ZB om
 have e4:u*256 % 18446744073709551616 % 2^64=(u % 72057594037927936) <<< 8:=by rw[Nat.shiftLeft_eq];omega
 rw[e3,e4,<-Nat.shiftLeft_add_eq_or_of_lt (by omega:c.toNat<2^8),Nat.shiftLeft_eq,IntKind.wrap_u64]
 unfold gK
 omega
def Qi(u:Nat)(c:UInt8):gK u c<18446744073709551616:=by unfold gK;omega
theorem ZbL{m:Int}{st:RS}(h:(st.2||decide ((st.1.length:Int)<m))=true):bT m st=([],(st.1,true)):=by
 unfold bT;rw[X3 h]
theorem ZbK{m:Int}{st:RS}(h:(st.2||decide ((st.1.length:Int)<m))=false):bT m st=(st.1.take m.toNat,(st.1.drop m.toNat,st.2)):=by
 unfold bT;rw[h,(Yd.1 h).1];rfl
@[go_sem]theorem ZlI{l:Str}:(l.map bD).map Go.DL.byteOf=l:=kW (f:=bD) (g:=Go.DL.byteOf) (λx=>by simp[Go.DL.byteOf,bD]) l
@[go_sem]theorem ZmZ{l:Str}:(l.map bD).all isByte=true:=by
 induction l with
 | nil=>rfl
 | cons x l ih=>simp only[X8,List.all_cons,ih];rfl
def take_len(n:Nat)(st:RS):(bT n st).1.length<=n:=by
 unfold bT
 split
 . exact Yi _
 show(st.1.take _).length<=n
 simp;omega
def wrapc(c:UInt8):IntKind.i64.wrap (c.toNat:Int)=(c.toNat:Int):=by
 have:=c.toNat_lt
 rw[IntKind.wrap_i64];omega
theorem V6{l:Str}{k:Nat}(h:k<l.length):l.drop k=l.getD k 0::l.drop (k+1):=by
 rw[YC h]
 congr 1
 simp[List.getD,h]
def F6{l:Str}{n:Nat}(h:n<l.length):(l.map bD).getD n []=[.v (.int .u8 ((l.getD n 0).toNat:Int))]:=by
 simp[List.getD,h,bD]
def count_le(st:RS):(dS st).1<=255:=by
 unfold dS
 split
 . have:=((bT 1 st).1.getD 0 0).toNat_lt;simp only;omega
 exact Yi _
theorem Wz{n k:Nat}{out:List Dat}{st:RS}(h:k<n)(c:(aT (aT (bL st).2).2).2.2=false):je (n-k) out st=je (n-(k+1)) (out++[(iX st).1]) (iX st).2:=by
 rw[show n-k=(n-(k+1))+1 by omega,je,XV (by rw[show(iX st).2.2=(aT (aT (bL st).2).2).2.2 from rfl,c];simp)]
theorem Zjt{n k:Nat}{out:List Dat}{st:RS}(h:k<n)(c:(aT (aT (bL st).2).2).2.2=true):je (n-k) out st=(out,(iX st).2):=by
 rw[show n-k=(n-(k+1))+1 by omega,je,X3 (show(iX st).2.2=true from c)]
theorem Zju{n k:Nat}{out:List Dat}{st:RS}(h : ¬k<n):je (n-k) out st=(out,st):=by
 rw[show n-k=0 by omega];rfl
theorem RF{x:Str}{out:List Dat}{st:RS}(h:(out,st)=je (dS (aT (aT (bL (x,false)).2).2).2).1 [] (dS (aT (aT (bL (x,false)).2).2).2).2):oz (x,false)=(⟨(bL (x,false)).1,(aT (bL (x,false)).2).1,(aT (aT (bL (x,false)).2).2).1,out⟩,st):=by
 unfold oz
 simp only
 rw[<-h]
theorem RG{x:Str}{out:List Dat}{st:RS}(h:(out,st)=je (dS (aT (aT (bL (x,false)).2).2).2).1 [] (dS (aT (aT (bL (x,false)).2).2).2).2)(c:((st.2||decide ((0:Int)<st.1.length)) || !fB ⟨(bL (x,false)).1,(aT (bL (x,false)).2).1,(aT (aT (bL (x,false)).2).2).1,out⟩)=true):iV x=(Tk,10):=by
 have e:decide ((0:Int)<st.1.length)=decide (0<st.1.length):=ZP.2 om
 rw[e]at c
 unfold iV
 rw[RF h]
 exact X3 c
theorem RD{x:Str}{out:List Dat}{st:RS}(h:(out,st)=je (dS (aT (aT (bL (x,false)).2).2).2).1 [] (dS (aT (aT (bL (x,false)).2).2).2).2)(c:((st.2||decide ((0:Int)<st.1.length)) || !fB ⟨(bL (x,false)).1,(aT (bL (x,false)).2).1,(aT (aT (bL (x,false)).2).2).1,out⟩)=false):iV x=(⟨(bL (x,false)).1,(aT (bL (x,false)).2).1,(aT (aT (bL (x,false)).2).2).1,out⟩,0):=by
 have e:decide ((0:Int)<st.1.length)=decide (0<st.1.length):=ZP.2 om
 rw[e]at c
 unfold iV
 rw[RF h]
 exact XV (by rw[Bool.not_eq_true];exact c)
@[go_sem]theorem bslU:OG prog 31=true:=by kernel_rfl
theorem K6(m:Int)(hm:0<=m)(st:RS)(rb:Nat)(h:H)(n:Nat)(hb:h rb=some ⟨327,[[.list false ((st).1.map bD),.b (st).2]]⟩):bU prog 279 [.mptr rb 0 0,.i m] h n (λd h' n'=>(∃f,d = .list f ((bT m st).1.map bD))/\h'=upd h rb (some ⟨327,[[.list false (((bT m st).2).1.map bD),.b ((bT m st).2).2]]⟩)/\n<=n'):=by
 refine oP func279 λhnone ff=>?_
 unfold f279
 have ff:=qA @hb ff
 refine aa Tp ?_
 refine oK Tp ?_ ?_ (hp:=rfl) (hq:=rfl)<;>intro c1
 . refine oC Tp ?_;refine aL ?_;exact cK (upd h rb (some ⟨327,[[.list false (st.1.map bD),.b true]]⟩)) (hr:=oS (k:=by rw[ZbL c1];exact⟨⟨_,rfl⟩,rfl,om⟩)) (hh:=by intro q;left;by_cases e1:q=rb<;>simp[upd,e1])
 have c1b:=Yd.1 c1
 have c1c:=of_decide_eq_false c1b.2
 refine oD Tp ?_
 refine aL ?_
 exact cK (upd h rb (some ⟨327,[[.list false ((st.1.drop m.toNat).map bD),.b st.2]]⟩)) (hr:=oS (k:=by rw[ZbK c1];exact⟨⟨_,by rw[ZF]⟩,rfl,om⟩)) (hh:=by intro q;left;by_cases e1:q=rb<;>simp[upd,e1])
theorem WW(st:RS)(rb:Nat)(h:H)(n:Nat)(hb:h rb=some ⟨327,[[.list false ((st).1.map bD),.b (st).2]]⟩):bU prog 268 [.mptr rb 0 0] h n (λd h' n'=>d = .i (dS st).1/\h'=upd h rb (some ⟨327,[[.list false (((dS st).2).1.map bD),.b ((dS st).2).2]]⟩)/\n<=n'):=by
 refine oP func268 λhnone ff=>?_
 unfold f268
 have ff:=qA @hb ff
 refine aa Tp ?_
 refine ae ?_
 refine ae (bJ Tp 1 (hct:=by exact K6 1 om st rb _ _ (by simp only[go_sem,hb])) (hk:=?_))
 rintro res h2 n2 ⟨⟨f,rfl⟩,rfl,a1⟩
 try dsimp only at a1
 refine bI Tp ?_
 refine aa Tp ?_
 refine cd ?_ ?_<;>intro c1
 .
  have hk:0<(bT 1 st).1.length:=by omega
  have ff:=qB (F6 hk) @wrapc ff;refine aa Tp ?_;refine aL ?_;exact cK (upd h rb (some ⟨327,[[.list false (((dS st).2).1.map bD),.b ((dS st).2).2]]⟩)) (hr:=oS (k:=by exact⟨by unfold dS;rw[X3 (by omega)],om⟩))
 refine ah ?_
 refine aa Tp ?_
 refine aL ?_
 exact cK (upd h rb (some ⟨327,[[.list false (((dS st).2).1.map bD),.b ((dS st).2).2]]⟩)) (hr:=oS (k:=by exact⟨by unfold dS;rw[XV (by omega)];rfl,om⟩))
def Qa(st:RS)(rb:Nat)(h:H)(n:Nat)(hb:h rb=some ⟨327,[[.list false ((st).1.map bD),.b (st).2]]⟩):bU prog 266 [.mptr rb 0 0] h n (λd h' n'=>d = .v (.string (bs (bL st).1))/\h'=upd h rb (some ⟨327,[[.list false (((bL st).2).1.map bD),.b ((bL st).2).2]]⟩)/\n<=n'):=by
 refine oP func266 λhnone ff=>?_
 unfold f266
 have ff:=qA @hb ff
 refine aa Tp ?_
 refine ae (xw ?_)
 refine EI (C:=Tp) 2 (R:=_) om (dR rfl) rfl rfl o4g ?_ ?_ ev o5v ev (by exact WW st rb _ _ (by simp only[go_sem,hb])) ?_
 .
  try simp only[go_sem,ff]
  all_goals (first|done|(repeat' (with_reducible apply And.intro))<;>first|omega|(with_reducible assumption)|(intros;omega)|(intros;simp only[XW,X4,Yc,XU,Yd,Yb,Yr]at *;omega)|(simp_all;done)|(simp_all;omega))
 .
  try simp only[go_sem,ff]
  all_goals (first|done|rfl|decide|simp)
 rintro res h2 n2 ⟨rfl,rfl,a1⟩
 try dsimp only at a1
 refine EI (C:=Tp) 3 (R:=_) om (dR rfl) rfl rfl o4g ?_ ?_ ev o5v ev (by exact K6 ((dS st).1) om (dS st).2 rb _ _ (by simp only[go_sem])) ?_
 .
  try simp only[go_sem,ff]
  all_goals (first|done|(repeat' (with_reducible apply And.intro))<;>first|omega|(with_reducible assumption)|(intros;omega)|(intros;simp only[XW,X4,Yc,XU,Yd,Yb,Yr]at *;omega)|(simp_all;done)|(simp_all;omega))
 .
  try simp only[go_sem,ff]
  all_goals (first|done|rfl|decide|simp)
 rintro res h3 n3 ⟨⟨f,rfl⟩,rfl,a2⟩
 try dsimp only at a2
 refine wH (C:=Tp) o5y o4g ?_ rfl ?_
 .
  try simp only[go_sem,ff]
  all_goals (first|done|(repeat' (with_reducible apply And.intro))<;>first|omega|(with_reducible assumption)|(intros;omega)|(intros;simp only[XW,X4,Yc,XU,Yd,Yb,Yr]at *;omega)|(simp_all;done)|(simp_all;omega))
 try simp only[aI]
 refine aL ?_
 exact cK (upd h rb (some ⟨327,[[.list false (((bL st).2).1.map bD),.b ((bL st).2).2]]⟩)) (hr:=oS (k:=by exact⟨by simp[bL],om⟩)) (hh:=by intro q;left;by_cases e1:q=rb<;>simp[upd,e1,bL])
def IX(st:RS)(rb:Nat)(h:H)(n:Nat)(hb:h rb=some ⟨327,[[.list false ((st).1.map bD),.b (st).2]]⟩):bU prog 267 [.mptr rb 0 0] h n (λd h' n'=>d = .i (aT st).1/\h'=upd h rb (some ⟨327,[[.list false (((aT st).2).1.map bD),.b ((aT st).2).2]]⟩)/\n<=n'):=by
 refine oP func267 λhnone ff=>?_
 unfold f267
 have ff:=qA @hb ff
 refine oC Tp ?_
 refine ae ?_
 refine ae (bJ Tp 1 (hct:=by exact K6 8 om st rb _ _ (by simp only[go_sem,hb])) (hk:=?_))
 rintro res h2 n2 ⟨⟨f,rfl⟩,rfl,a1⟩
 try dsimp only at a1
 refine bI Tp ?_
 refine aj ?_
 refine jm (α:=(Nat)×(Nat)×Nat) [7,8] (λ⟨k,u,nx⟩=>(k<=(bT 8 st).1.length)/\(u<18446744073709551616)/\(n<=nx)/\(((bT 8 st).1.drop k).foldl gK u=fV (bT 8 st).1)/\True) (λ⟨k,u,nx⟩=>(bT 8 st).1.length-k) (λ⟨k,u,nx⟩=>[(3,.v (.int .u64 u)),(9,.i k)]) (λ⟨k,u,nx⟩=>upd h rb (some ⟨327,[[.list false (((bT 8 st).2).1.map bD),.b ((bT 8 st).2).2]]⟩)) (λ⟨k,u,nx⟩=>nx) (0,0,_) (hA:=⟨iv,oW,iv,rfl,trivial⟩) (round:=?_)
 rintro⟨k,u,nx⟩ ⟨hk,hu,hn,hv, -⟩
 simp only[XY,X0]
 refine aa Tp ?_
 refine ae ?_
 refine cd ?_ ?_ (hp:=rfl)<;>intro c1
 .
  have hk2:k<(bT 8 st).1.length:=by simpa using c1
  have h8:(bT 8 st).1.length<=8:=take_len 8 st;have hor:=Ze0 hu ((bT 8 st).1.getD k 0);have ff:=qB (F6 hk2) @hor ff;refine ah ?_;refine ae ?_;refine aj ?_;refine aa Tp ?_;refine ai Tp ?_;refine ai Tp ?_
  show ∃_,_
  exact ay (k+1,gK u ((bT 8 st).1.getD k 0),_) (h1:=⟨iv,(Qi _ _),iv,(by first|(rw[<-hv,V6 hk2];rfl)|(dsimp only;rw[<-hv,V6 hk2];rfl)),trivial⟩) (h3:=o0z) (h4:=o0z)
 refine aH ?_
 refine aa Tp ?_
 refine aL ?_
 exact cK (upd h rb (some ⟨327,[[.list false (((bT 8 st).2).1.map bD),.b ((bT 8 st).2).2]]⟩)) (hr:=oS (k:=by rw[Y3 (by omega)]at hv;exact⟨by rw[show u=fV (bT 8 st).1 from hv];rfl,rfl,om⟩))
def ZdI(x:Str):PureCt prog 238 [.list false (x.map bD)] (.tuple [.agg (iV x).1.d,.i (iV x).2]):=by
 refine oO func238 λff=>?_
 unfold f238
 refine oD Tp ?_
 refine ae (bJ Tp 1 (hct:=by exact Qa (x,false) 4 _ _ rfl) (hk:=?_))
 rintro res h2 n2 ⟨rfl,rfl,a1⟩
 try dsimp only at a1
 have p4:4<n2:=by omega
 have p0:0<n2:=by omega
 have ff:=qB @p4 @p0 ff
 refine bI Tp ?_
 obtain⟨q,hq⟩:∃q,q=n2+3:=⟨_,rfl⟩
 rw[<-hq]
 refine yG q 3 60 57 ev (by rfl) o5v ?_
 simp only[YW,YP]
 obtain⟨r0,hr0⟩:∃r0,r0=(n2+5):=⟨_,rfl⟩
 rw[<-hr0]
 have z4_q:(4=q)=False:=YO om
 have yq_4:(q=4)=False:=YO om
 have ff:=qG @z4_q @yq_4 (nH 4 r0) (nH q r0) (nH 0 q) (nH 0 r0) ff
 refine Cc [2,4,5,6,7] [(0,⟨60,[[.v (.string (bs [])),.i 0,.i 0,.list true []]]⟩),(4,⟨327,[[.list false (((bL (x,false)).2).1.map bD),.b ((bL (x,false)).2).2]]⟩),(q,⟨60,[[.v (.string (bs ((bL (x,false)).1))),.i (0),.i (0),.mrow r0 0 0]]⟩),(r0,⟨57,[]⟩)] o4v o4a ?_
 refine ae (bJ Tp 1 (hct:=by exact IX (bL (x,false)).2 4 _ _ (by simp only[go_sem])) (hk:=?_))
 rintro res h2 n2 ⟨rfl,rfl,a2⟩
 try dsimp only at a2
 have p4:4<n2:=by omega
 have p0:0<n2:=by omega
 have pq:q<n2:=by omega
 have pr:r0<n2:=by omega
 have ff:=qB @pq @pr ff
 refine bI Tp ?_
 refine ae (bJ Tp 1 (hct:=by exact IX (aT (bL (x,false)).2).2 4 _ _ (by simp only[go_sem,z4_q,yq_4] )) (hk:=?_))
 rintro res h2 n2 ⟨rfl,rfl,a3⟩
 try dsimp only at a3
 have p4:4<n2:=by omega
 have p0:0<n2:=by omega
 have pq:q<n2:=by omega
 have pr:r0<n2:=by omega
 refine bI Tp ?_
 refine ae ?_
 refine ae (bJ Tp 0 (hct:=by exact WW (aT (aT (bL (x,false)).2).2).2 4 _ _ (by simp only[go_sem,z4_q,yq_4])) (hk:=?_))
 rintro res h2 n2 ⟨rfl,rfl,a4⟩
 try dsimp only at a4
 have p4:4<n2:=by omega
 have p0:0<n2:=by omega
 have pq:q<n2:=by omega
 have pr:r0<n2:=by omega
 refine bI Tp ?_
 refine aj ?_
 refine lp (α:=(Nat)×(List Dat)×(Nat)×(RS)×Nat) [2,4,5,6,7,22] (λ⟨k,out,r,st,nx⟩=>(k<=(dS (aT (aT (bL (x,false)).2).2).2).1)/\(r<nx)/\(r≠0/\r≠4/\r≠q)/\(q<nx)/\(out.length<=k)/\(je ((dS (aT (aT (bL (x,false)).2).2).2).1-k) out st=je (dS (aT (aT (bL (x,false)).2).2).2).1 [] (dS (aT (aT (bL (x,false)).2).2).2).2)/\True) (λ⟨k,out,r,st,nx⟩=>(dS (aT (aT (bL (x,false)).2).2).2).1-k) (λ⟨k,out,r,st,nx⟩=>[(23,.i k)]) (λ⟨k,out,r,st,nx⟩=>[(0,⟨60,[[.v (.string (bs [])),.i 0,.i 0,.list true []]]⟩),(4,⟨327,[[.list false ((st).1.map bD),.b (st).2]]⟩),(q,⟨60,[[.v (.string (bs ((bL (x,false)).1))),.i ((aT (bL (x,false)).2).1),.i ((aT (aT (bL (x,false)).2).2).1),.mrow r 0 out.length]]⟩),(r,⟨57,out.map Dat.d⟩)]) (λ⟨k,out,r,st,nx⟩=>nx) (0,[],r0,(dS (aT (aT (bL (x,false)).2).2).2).2,_) (hA:=⟨iv,iv,iv,iv,o5h,o5h,trivial⟩) (round:=?_)
 rintro⟨k,out,r,st,nx⟩ ⟨hk,hr,hrn,hqn,ho,hv, -⟩
 simp only[XY,X0]
 have p4:4<nx:=by omega
 have p0:0<nx:=by omega
 have ff:=qH @hr @hqn @p4 @p0 (nH 0 r) (nH 4 r) (nH q r) ff
 refine aa Tp ?_
 refine ae ?_
 refine cd ?_ ?_ (hp:=rfl) (hq:=rfl)<;>intro c1
 .
  have hk2:k<(dS (aT (aT (bL (x,false)).2).2).2).1:=by simpa using c1
  have hc8:=count_le (aT (aT (bL (x,false)).2).2).2;refine ah ?_;refine ae ?_;refine aj ?_;refine aa Tp ?_;refine ae (bJ Tp 1 (hct:=by exact Qa st 4 _ _ (by simp only[go_sem,p4])) (hk:=?_))
  rintro res h2 n2 ⟨rfl,rfl,a5⟩
  try dsimp only at a5
  refine bI Tp ?_;refine ae (bJ Tp 1 (hct:=by exact IX (bL st).2 4 _ _ (by simp only[go_sem,p4])) (hk:=?_))
  rintro res h2 n2 ⟨rfl,rfl,a6⟩
  try dsimp only at a6
  refine bI Tp ?_;refine ae (bJ Tp 1 (hct:=by exact IX (aT (bL st).2).2 4 _ _ (by simp only[go_sem,p4])) (hk:=?_))
  rintro res h2 n2 ⟨rfl,rfl,a7⟩
  try dsimp only at a7
  have ww:nx+1<n2:=by omega
  have w4:4<n2:=by omega
  have w0:0<n2:=by omega
  have wq:q<n2:=by omega
  have wr:r<n2:=by omega
  have ff:=qF @ww @w4 @w0 @wq @wr ff;refine bI Tp ?_;refine oK Tp ?_ ?_ (hp:=rfl) (hq:=rfl)<;>intro c2
  .
   have hv2:=hv;rw[Zjt hk2 c2]at hv2;refine aH ?_;refine ae ?_;refine yI q 3 r (rows:=out.map Dat.d) (off:=0) (len:=out.length) ev (by rfl) ev om (by simp) oU ?_
   simp only[X6,y8,YW,YP];refine aa Tp ?_ (hok:=oH (vg ⟨_,_,_,out⟩));refine cd ?_ ?_ (hp:=rfl) (hq:=rfl)<;>intro c9
   . refine aa Tp ?_;exact fo 2 (k:=by rw[RG hv2 c9];try rfl)
   refine ah ?_;refine aa Tp ?_;exact fo 2 (k:=by rw[RD hv2 c9];try rfl)
  refine ai Tp ?_;refine ai Tp ?_
  show ∃_,_
  exact ay (k+1,out++[(iX st).1],(n2+10),(iX st).2,_) (h1:=⟨iv,iv,iv,iv,o4r,(by(try dsimp only);rw[<-hv,Wz hk2 c2]),trivial⟩) (h3:=o0s) (h4:=o0s) (h5:=o0s)
 have hk2 : ¬k<(dS (aT (aT (bL (x,false)).2).2).2).1:=by simpa using c1
 have hv2:=hv
 rw[Zju hk2]at hv2
 refine aH ?_
 refine ae ?_
 refine yI q 3 r (rows:=out.map Dat.d) (off:=0) (len:=out.length) ev (by rfl) ev om (by simp) oU ?_
 simp only[X6,y8,YW,YP]
 refine aa Tp ?_ (hok:=oH (vg ⟨_,_,_,out⟩))
 refine cd ?_ ?_ (hp:=rfl) (hq:=rfl)<;>intro c9
 . refine aa Tp ?_;exact fo 2 (k:=by rw[RG hv2 c9];try rfl)
 refine ah ?_
 refine aa Tp ?_
 exact fo 2 (k:=by rw[RD hv2 c9];try rfl)
def kF(h:H)(W:Nat):Option Nat:=match h W with
 | some ⟨_,[.mrow r _ _::_]⟩=>some r
 | _=>none
def bE(T:TypeId)(h:H)(W nx:Nat)(l:Str)(m:Nat):Prop:=W<nx/\((l.length+m=0 /\ ∃x:Int,h W=some ⟨T,[[.list true [],.i 0,.v (.int .i8 x)]]⟩)\/(0<l.length+m /\ ∃(r:Nat)(x:Int),r≠W/\r<nx/\h r=some ⟨5,l.map bD⟩/\h W=some ⟨T,[[.mrow r 0 (l.length+m),.i 0,.v (.int .i8 x)]]⟩))
def bM(h h':H)(W n n':Nat):Prop:=n<=n'/\(∀q,q<n->q≠W->kF h W≠some q->h' q=h q)/\(∀q,q<n->q≠W->kF h W≠some q->kF h' W≠some q)
theorem bM.trans{h h' h'':H}{W n n' n'':Nat}(a:bM h h' W n n')(b:bM h' h'' W n' n''):bM h h'' W n n'' :=
 ⟨Yh a.1 b.1,λq h1 h2 h3=>(b.2.1 q (YD h1 a.1) h2 (a.2.2 q h1 h2 h3)).trans (a.2.1 q h1 h2 h3),λq h1 h2 h3=>b.2.2 q (YD h1 a.1) h2 (a.2.2 q h1 h2 h3)⟩
theorem bM.refl{h:H}{W n n':Nat}(hn:n<=n'):bM h h W n n':=⟨hn,λ_ _ _ _=>rfl,λ_ _ _ h=>h⟩
theorem Rk{h:H}{W T:Nat}{x:Int}(e:h W=some ⟨T,[[.list true [],.i 0,.v (.int .i8 x)]]⟩):kF h W=none:=by unfold kF;rw[e]
theorem jX{h:H}{W T r k:Nat}{x:Int}(e:h W=some ⟨T,[[.mrow r 0 k,.i 0,.v (.int .i8 x)]]⟩):kF h W=some r:=by unfold kF;rw[e]
def uY.rct{P:Program}[Glob P]{f:FuncId}{args:List D}{h:H}{n:Nat}{R:D->H->Nat->Env->Prop}(k:uY P f args h n Env.tt R):bU P f args h n (λd h' n'=>∃E',R d h' n' E') :=
 ⟨k.1,λw g vs h1 h2 h3=>(k.2 w g vs h1 h2 trivial h3).mono λ_ _⟨v,g',res,h',n',E',q1,q2,q3,q4,q5,q6,q7⟩=>⟨v,g',res,h',n',⟨E',q1⟩,q2,q3,q4,q5,q6⟩⟩
def Zkb(T:TypeId)(l:Str)(h:H)(n W:Nat)(hB:bE T h W n l 0)(hl:l.length<=1000000000000):bU prog 194 [.mptr W 0 0] h n (λd h' n'=>d = .i l.length/\bM h h' W n n'/\bE T h' W n' l 0):=by
 refine oP func194 λhnone ff=>?_
 unfold f194
 refine aa Tp ?_
 obtain⟨BQ,⟨e0,x,hW⟩|⟨e0,r,x,fF,hrn,hr,hW⟩⟩:=hB
 . obtain rfl:l=[]:=Ya om;have ff:=qB @hW (nG W n) ff;refine aa Tp ?_;refine aL ?_;exact cK (_) (hh:=λ_=>.inl rfl) (hr:=oS (k:=by exact⟨rfl,bM.refl om,om,.inl ⟨rfl,x,hW⟩⟩))
 rw[Zu]at hW
 have nR:(W=r)=False:=YO (λe=>fF e.symm)
 have nO:(r=W)=False:=YO fF
 have ff:=qG @hW @hr @nR @nO (nG W n) (nG r n) ff
 refine aa Tp ?_
 refine aL ?_
 exact cK (_) (hh:=λ_=>.inl rfl) (hr:=oS (k:=by exact⟨by simp,bM.refl om,om,.inr ⟨e0,r,x,fF,om,hr,hW⟩⟩))
def bo123:dY prog 123=true:=by kernel_rfl
theorem Hq(T:TypeId)(l:Str)(m:Nat)(h:H)(n W:Nat)(hB:bE T h W n l 0)(hl:l.length+m<=1000000000000):uY prog 123 [.mptr W 0 0,.i m] h n (Env.tt) (λd h' n' E'=>∃ok:Bool,∃a:Int,d = .tuple [.i a,.b ok]/\bM h h' W n n'/\(ok=true->a=l.length/\bE T h' W n' l m)/\(ok=false->0<m/\bE T h' W n' l 0 /\ ∀r,kF h' W=some r -> ∀g w,E'.p g w->(Env.capLt r (l.length+m)).p g w)):=by
 refine Zeb rfl func123 rfl bo123 (by simp[f123]) (λhnone=>?_)
 unfold f123
 have ff:=True.intro
 refine aa Tp ?_
 refine ae ?_
 obtain⟨BQ,⟨e0,x,hW⟩|⟨e0,r,x,fF,hrn,hr,hW⟩⟩:=hB
 .
  obtain rfl:l=[]:=Ya om;have ff:=qB @hW (nG W n) ff;refine aa Tp ?_;refine cB ?_;refine NA Tp 5 (e:=5) ?_;refine aP Tp ?_
  try simp only[aI]
  refine cd ?_ ?_<;>intro c1
  .
   obtain rfl:m=0:=by omega
   refine oC Tp ?_;refine aL ?_;exact JW (_) (hh:=λ_=>.inl rfl) (Env.tt) (hE:=λ_ _ _ _=>trivial) (hr:=oS (k:=by exact⟨_,_,rfl,⟨om,λq q1 q2 q3=>by simp only[upd];repeat rw[XV (by omega)],λq q1 q2 q3=>by rw[Rk (x:=x) (T:=T) (by simp[upd])];simp⟩,λ_=>⟨rfl,om,.inl ⟨rfl,x,by simp[upd]⟩⟩,λq=>(by cases q)⟩))
  refine ah ?_;refine aa Tp ?_;refine aL ?_;exact JW (_) (hh:=λ_=>.inl rfl) (Env.tt) (hE:=λ_ _ _ _=>trivial) (hr:=oS (k:=by exact⟨_,_,rfl,bM.refl (by omega),λq=>(by cases q),λ_=>⟨by have : ¬(m:Int)<=0:=(by simpa using c1);omega,⟨om,.inl ⟨rfl,x,hW⟩⟩,λq hq=>by rw[Rk hW]at hq;cases hq⟩⟩))
 rw[Zu]at hW
 have nR:(W=r)=False:=YO (λe=>fF e.symm)
 have nO:(r=W)=False:=YO fF
 have ff:=qG @hW @hr @nR @nO (nG W n) (nG r n) ff
 refine aa Tp ?_
 refine cB ?_
 refine NB Tp 5 (λc hc1 hc2=>?_)
 have hc3:(c:Int)<=9223372036854775807:=by have:=hc2;unfold maxLen at this;omega
 refine aP Tp ?_
 try simp only[aI]
 refine cd ?_ ?_<;>intro c1
 .
  refine cB ?_;refine Nr Tp 8 (r:=r) (off:=0) (c:=c) (l.length+m) rfl (by have:(m:Int)<=(c:Int)-(l.length:Int):=(by simpa using c1);omega) ?_
  refine aP Tp ?_
  try simp only[aI]
  refine aa Tp ?_;refine aL ?_;exact JW (_) (hh:=λ_=>.inl rfl) (Env.tt) (hE:=λ_ _ _ _=>trivial) (hr:=oS (k:=by exact⟨_,_,rfl,⟨om,λq q1 q2 q3=>by simp only[upd];repeat rw[XV (by omega)],λq q1 q2 q3=>by rw[jX (x:=x) (T:=T) (k:=l.length+m) (r:=r) (by simp[upd])];rw[jX hW]at q3;exact q3⟩,λ_=>⟨by simp,om,.inr ⟨om,r,x,fF,om,by simp only[upd];rw[XV fF];exact hr,by simp[upd]⟩⟩,λq=>(by cases q)⟩))
 refine ah ?_
 refine aa Tp ?_
 refine aL ?_
 exact JW (_) (hh:=λ_=>.inl rfl) (Env.capLt r (l.length+m)) (hE:=λg w w2 q=>⟨q.2.1,λblk c' sz he=>by have h9:=q.2.2 blk c' sz he;have : ¬((m:Int)<=(c:Int)-(l.length:Int)):=(by simpa using c1);omega⟩) (hr:=oS (k:=by exact⟨_,_,rfl,bM.refl (by omega),λq=>(by cases q),λ_=>⟨by have : ¬((m:Int)<=(c:Int)-(l.length:Int)):=(by simpa using c1);omega,⟨om,.inr ⟨om,r,x,fF,om,hr,hW⟩⟩,λq hq g w hp=>by rw[jX hW]at hq;cases hq;exact hp⟩⟩))
def bo237:dY prog 237=true:=by kernel_rfl
theorem Np(h:H)(n:Nat):yV prog 237 [] h n .returning .returning (λh' n'=>(∀q,q<n->h' q=h q)/\n<=n'):=by
 refine Cg (d:=.v .nilIface) (v:=.nilIface) func237 rfl bo237 (by simp[f237]) (dR rfl) rfl rfl (by decide) (.inl ⟨rfl,rfl,rfl⟩) (λ_ _=>.v _) (λhnone=>?_)
 have ff:=True.intro
 refine ZhH Tp 1 true ?_ (ht:=underlying20)
 refine aP Tp ?_
 try simp only[aI]
 refine cd ?_ ?_<;>intro c1
 . simp at c1
 refine ah ?_
 refine⟨(by trivial),h,_,?_,Nat.le_refl _,λq hq=>rfl,by dsimp only;omega⟩
 intro r
 dsimp only
 first
 | exact .inl rfl
 | exact(Decidable.em (r<n)).elim (λe=>by left;simp only[upd];repeat (first|rfl|rw[XV (by omega)])) λe=>by right;exact hnone r (by omega)
def bE.cell{T:TypeId}{h:H}{W nx:Nat}{l:Str}{m:Nat}(hB:bE T h W nx l m):∃(d:D)(x:Int),d.one=true/\h W=some ⟨T,[[d,.i 0,.v (.int .i8 x)]]⟩:=by
 obtain⟨_,⟨_,x,hW⟩|⟨_,r,x,h1,h2,_,hW⟩⟩:=hB
 . exact⟨_,x,rfl,hW⟩
 exact⟨_,x,rfl,hW⟩
def bE.last{T:TypeId}{h:H}{W nx nx':Nat}{l:Str}{m:Nat}{d:D}{x:Int}(hB:bE T h W nx l m)(hW:h W=some ⟨T,[[d,.i 0,.v (.int .i8 x)]]⟩)(y:Int)(hn:nx<=nx'):bE T (upd h W (some ⟨T,[[d,.i 0,.v (.int .i8 y)]]⟩)) W nx' l m:=by
 obtain⟨h0,⟨e,x',hW'⟩|⟨e,r,x',h1,h2,h3,hW'⟩⟩:=hB
 .
  rw[hW]at hW'
  cases hW'
  exact⟨om,.inl ⟨e,y,bN _ _ _⟩⟩
 rw[hW]at hW'
 cases hW'
 exact⟨om,.inr ⟨e,r,y,h1,om,by rw[aK _ _ _ _ h1];exact h3,bN _ _ _⟩⟩
def bM.last{T:TypeId}{h:H}{W n n':Nat}{d:D}{x:Int}(hW:h W=some ⟨T,[[d,.i 0,.v (.int .i8 x)]]⟩)(y:Int)(hn:n<=n'):bM h (upd h W (some ⟨T,[[d,.i 0,.v (.int .i8 y)]]⟩)) W n n':=by
 refine⟨hn,λq _ h2 _=>aK _ _ _ _ h2,λq _ _ h3=>?_⟩
 have:kF (upd h W (some ⟨T,[[d,.i 0,.v (.int .i8 y)]]⟩)) W=kF h W:=by
  unfold kF;rw[bN,hW]
  cases d<;>rfl
 rw[this]
 exact h3
theorem bM.more{h h2 h3:H}{W n n2 n3:Nat}(a:bM h h2 W n n2)(hn:n2<=n3)(k : ∀q,q<n2->q≠W->kF h2 W≠some q->h3 q=h2 q)(k2 : ∀q,kF h3 W=some q->kF h2 W=some q\/n2<=q):bM h h3 W n n3 :=
 a.trans ⟨hn,k,λq h1 _ h3 e=>by rcases k2 q e with h4|h4;exact h3 h4;omega⟩
def bE.cases3{T:TypeId}{h:H}{W nx m:Nat}{l:Str}(hB:bE T h W nx l m):(l=[]/\m=0 /\ ∃x:Int,h W=some ⟨T,[[.list true [],.i 0,.v (.int .i8 x)]]⟩)\/(0<l.length/\m=0 /\ ∃(r:Nat)(x:Int),r≠W/\r<nx/\h r=some ⟨5,l.map bD⟩/\h W=some ⟨T,[[.mrow r 0 (l.length+0),.i 0,.v (.int .i8 x)]]⟩)\/(0<m /\ ∃(r:Nat)(x:Int),r≠W/\r<nx/\h r=some ⟨5,l.map bD⟩/\h W=some ⟨T,[[.mrow r 0 (l.length+m),.i 0,.v (.int .i8 x)]]⟩):=by
 obtain⟨_,⟨e,x,hW⟩|⟨e,r,x,h1,h2,h3,hW⟩⟩:=hB
 . exact .inl ⟨Ya om,om,x,hW⟩
 rcases Nat.eq_zero_or_pos m with h0|h0
 . subst h0;exact .inr (.inl ⟨om,rfl,r,x,h1,h2,h3,hW⟩)
 exact .inr (.inr ⟨h0,r,x,h1,h2,h3,hW⟩)
theorem Rv{m k:Nat}{x:List D}:(List.replicate m x).drop k=List.replicate (m-k) x:=by simp
def Xy:dY prog 196=true:=by kernel_rfl
def ZhC(m:Nat)(h:H)(n:Nat)(h0:0<m)(hl:m<=1000000000000):bU prog 196 [.list true [],.i m] h n (λd h' n'=>∃r',d = .mrow r' 0 0/\h' r'=some ⟨5,List.replicate m [.v (.int .u8 0)]⟩/\n<=r'/\r'<n' /\ ∀q,q<n->h' q=h q):=by
 have ff:=True.intro
 refine Iy (C:=Tp) 0 func196 rfl Xy (by simp[f196]) o3k ev o4l (dR rfl) rfl rfl (by intro o ho;simp at ho) o4u o4l o3n ev (λhnone=>?_)
 unfold f196
 refine aP Tp ?_
 try simp only[aI]
 have e00:((0:Nat):Int)+(m:Int)=m:=by omega
 have ff:=qA @e00 ff
 refine aa Tp ?_
 refine ae ?_
 refine cB ?_
 refine NA Tp 2 (e:=5) ?_
 refine aP Tp ?_
 try simp only[aI]
 refine cd ?_ ?_ (hp:=rfl)<;>intro c1
 . exfalso;simp at c1;omega
 refine ah ?_
 refine cB ?_
 refine Nt Tp 1 (e:=5) (kk:=.i64) m h0 o4s (by omega) ?_
 refine aP Tp ?_
 try simp only[aI]
 refine cB ?_
 refine F7 Tp 2 (e:=5) ?_
 refine aP Tp ?_
 try simp only[aI]
 refine aa Tp ?_
 refine aL ?_
 refine⟨_,_,_,rfl,rfl,Np _ _,λh1 n1⟨w1,w2⟩=>?_⟩
 try dsimp only at w1 w2
 exact⟨by simp only[go_sem,ff],h1,n1,λ_=>.inl rfl,XX _,_,by simp only[go_sem,ff];first|done|rfl,by rw[w1 _ (by omega)];simp only[upd];repeat (first|rfl|rw[XV (by omega)]|rw[X3 rfl]),om,om,λq hq=>by rw[w1 q (by omega)];simp only[upd];repeat (first|rfl|rw[XV (by omega)]|rw[X3 rfl])⟩
def gs_ct(l:Str)(m:Nat)(h:H)(n r:Nat)(hr:h r=some ⟨5,l.map bD⟩)(h0:0<l.length)(h1:0<m)(hl:l.length+m<=1000000000000):uY prog 196 [.mrow r 0 l.length,.i m] h n (Env.capLt r (l.length+m)) (λd h' n' E'=>E'=Env.tt/\(λd h' n'=>∃r' k,d = .mrow r' 0 l.length/\h' r'=some ⟨5,l.map bD++List.replicate k [.v (.int .u8 0)]⟩/\m<=k/\n<=r'/\r'<n' /\ ∀q,q<n->h' q=h q) d h' n'):=by
 have ff:=True.intro
 refine Zea (Dz:=by rfl) (C:=Tp) 0 func196 rfl Xy (by simp[f196]) o3k ev o4l (dR rfl) rfl rfl (by intro o ho;simp at ho) o4u o4l o3n ev (λhnone=>?_)
 unfold f196
 refine aP Tp ?_
 try simp only[aI]
 have hrn:r<n:=by rcases YG r n with q|q;exact q;rw[hnone r q]at hr;cases hr
 have ff:=qB @hr (nG r n) ff
 refine aa Tp ?_
 refine ae ?_
 refine cB ?_
 refine gcapE Tp 2 (r:=r) (l.length+m) (λ_ _ q=>q) (λc hc1 hc2=>?_)
 try dsimp only at hc2
 refine aP Tp ?_
 try simp only[aI]
 refine cd ?_ ?_<;>intro c1
 .
  refine sV ?_;refine gcapQ Tp 1 (r:=r) (off:=0) rfl ?_;refine aP Tp ?_
  try simp only[aI]
  refine cB ?_;refine Nt Tp 1 (e:=5) (kk:=.i64) (2*c) (by omega) o4s (by omega) ?_
  refine aP Tp ?_
  try simp only[aI]
  refine cB ?_;refine BX Tp 2 l.length ?_;refine aP Tp ?_
  try simp only[aI]
  refine aa Tp ?_;refine aL ?_;refine⟨_,_,_,rfl,rfl,Np _ _,λh1 n1⟨w1,w2⟩=>?_⟩
  try dsimp only at w1 w2
  exact⟨by simp only[go_sem,ff],h1,n1,λ_=>.inl rfl,XX _,_,2*c-l.length,by simp only[go_sem,ff];first|done|rfl,by rw[w1 _ (by omega)];simp[upd,Rv],om,om,om,λq hq=>by rw[w1 q (by omega)];simp only[upd];repeat (first|rfl|rw[XV (by omega)]|rw[X3 rfl])⟩
 refine ah ?_
 refine cB ?_
 refine Nt Tp 1 (e:=5) (kk:=.i64) (l.length+m) (by omega) o4s (by omega) ?_
 refine aP Tp ?_
 try simp only[aI]
 refine cB ?_
 refine BX Tp 2 l.length ?_
 refine aP Tp ?_
 try simp only[aI]
 refine aa Tp ?_
 refine aL ?_
 refine⟨_,_,_,rfl,rfl,Np _ _,λh1 n1⟨w1,w2⟩=>?_⟩
 try dsimp only at w1 w2
 exact⟨by simp only[go_sem,ff],h1,n1,λ_=>.inl rfl,XX _,_,m,by simp only[go_sem,ff];first|done|rfl,by rw[w1 _ (by omega)];simp[upd,Rv],om,om,om,λq hq=>by rw[w1 q (by omega)];simp only[upd];repeat (first|rfl|rw[XV (by omega)]|rw[X3 rfl])⟩
def bE.mono{T:TypeId}{h:H}{W nx nx':Nat}{l:Str}{m:Nat}(hB:bE T h W nx l m)(hn:nx<=nx'):bE T h W nx' l m:=by
 obtain⟨h0,h1|⟨e,r,x,h1,h2,h3,h4⟩⟩:=hB
 . exact⟨om,.inl h1⟩
 exact⟨om,.inr ⟨e,r,x,h1,om,h3,h4⟩⟩
def bE.mk{T:TypeId}{h:H}{W nx r k:Nat}{l:Str}{m:Nat}{x:Int}(hW:h W=some ⟨T,[[.mrow r 0 k,.i 0,.v (.int .i8 x)]]⟩)(hr:h r=some ⟨5,l.map bD⟩)(hk:k=l.length+m)(h0:0<l.length+m)(h1:r≠W)(h2:r<nx)(h3:W<nx):bE T h W nx l m:=by
 subst hk
 exact⟨h3,.inr ⟨h0,r,x,h1,h2,hr,hW⟩⟩
def bM.down{h h':H}{W n m n':Nat}(a:bM h h' W m n')(hn:n<=m):bM h h' W n n':=⟨Yh hn a.1,λq h1=>a.2.1 q (YD h1 hn),λq h1=>a.2.2 q (YD h1 hn)⟩
def bM.up{h h':H}{W n n' n2:Nat}(a:bM h h' W n n')(hn:n'<=n2):bM h h' W n n2:=⟨Yh a.1 hn,a.2.1,a.2.2⟩
theorem bM.row{T:TypeId}{h h2 h3:H}{W n n2 n3 r k:Nat}{x:Int}(hW:h3 W=some ⟨T,[[.mrow r 0 k,.i 0,.v (.int .i8 x)]]⟩)(a:bM h h2 W n n2)(hn:n2<=n3)(hk : ∀q,q<n2->q≠W->kF h2 W≠some q->h3 q=h2 q)(hr:kF h2 W=some r\/n2<=r):bM h h3 W n n3 :=
 a.more hn hk λq e=>by rw[jX hW]at e;cases e;exact hr
def Nq(T:TypeId)(l:Str)(m:Nat)(h:H)(n W:Nat)(hB:bE T h W n l 0)(hl:l.length+m<=1000000000000):bU prog 124 [.mptr W 0 0,.i m] h n (λd h' n'=>d = .i l.length/\bM h h' W n n'/\bE T h' W n' l m):=by
 refine oP func124 λhnone ff=>?_
 unfold f124
 refine aa Tp ?_
 refine ae (bJ Tp 1 (hct:=by exact Zkb T l _ _ W (hB.mono o6b) om) (hk:=?_))
 rintro res h2 n2 ⟨rfl,aU,hB2⟩
 try dsimp only at aU hB2
 replace aU:=aU.down (show n<=_ by omega)
 obtain⟨d0,x0,hd1,hW2⟩:=hB2.cell
 have hWn2:=hB2.1
 have ff:=qD @hW2 @hd1 (nG W n2) ff
 refine bI Tp ?_
 refine oK Tp ?_ ?_ (hp:=rfl)<;>intro c1
 . exfalso;simp at c1
 refine ae ?_
 refine cB ?_
 refine Zdi (C:=Tp) 2 (R:=_) om (dR rfl) rfl rfl (by simp only[List.drop_succ_cons,List.drop_zero,List.take_succ_cons,List.take_zero,S.put,Nat.sub_self,Nat.reduceSub,go_sem,ff];first|done|exact rfl) ?_ ?_ ev o5v ev (by exact Hq T l m _ _ W (hB2.mono o6b) hl) (by exact λ_ _ _=>trivial) ?_
 .
  try simp only[go_sem,ff]
  all_goals (exact ok0)
 .
  try simp only[go_sem,ff]
  all_goals (first|done|rfl|decide|simp)
 rintro res h3 n3 E3 ⟨ok,a,rfl,eX,hT,hF⟩
 try dsimp only at eX hT hF
 refine aP Tp ?_
 try simp only[aI]
 refine aa Tp ?_
 refine cd ?_ ?_ (hp:=rfl) (hq:=rfl)<;>intro c3
 . have hT9:=hT c3;refine aa Tp ?_;refine aL ?_;exact cK (_) (hh:=λ_=>.inl rfl) (hr:=oS (k:=by exact⟨by rw[hT9.1],(aU.trans (eX.down (by omega))).up (by omega),hT9.2.mono (by omega)⟩))
 obtain⟨hm0,hB3,hcap⟩:=hF c3
 refine ah ?_
 refine ae ?_
 have hB3k:=hB3
 obtain⟨hWn3,⟨e0,x3,hW3⟩|⟨e0,r,x3,fF,hrn,hr,hW3⟩⟩:=hB3
 .
  obtain rfl:l=[]:=Ya om;have e00:((0:Nat):Int)+(m:Int)=m:=by omega
  have ff:=qE @hW3 @e00 @Int.zero_add (nG W n3) ff;refine cB ?_;refine ZhO Tp 4 (e:=5) (λy hy=>?_)
  refine aP Tp ?_
  try simp only[aI]
  refine cd ?_ ?_ (hp:=rfl)<;>intro c4
  .
   have hm64:m<=64:=by simp at c4;omega
   refine cB ?_;refine gmkC Tp 2 (e:=5) m 64 hm0 hm64 (by omega) o4s ?_
   refine aP Tp ?_
   try simp only[aI]
   refine Ob (r:=(n3+20)) 0 ev ?_;refine aa Tp ?_;refine aL ?_;exact cK (_) (hh:=λ_=>.inl rfl) (hr:=oS (k:=by first|exact⟨rfl,bM.row (T:=T) ev (aU.trans (eX.down (by omega))) (by omega) (λq q1 q2 q3=>by simp only[upd];repeat (first|rfl|rw[XV (by omega)])) (.inr (by omega)),bE.mk ev (by simp[upd]) (by simp) (by simp;omega) (by omega) (by omega) (by omega)⟩|exact⟨bM.row (T:=T) ev (aU.trans (eX.down (by omega))) (by omega) (λq q1 q2 q3=>by simp only[upd];repeat (first|rfl|rw[XV (by omega)])) (.inr (by omega)),bE.mk ev (by simp[upd]) (by simp) (by simp;omega) (by omega) (by omega) (by omega)⟩))
  refine ah ?_;refine cB ?_;refine NA Tp 4 (e:=5) ?_;refine aP Tp ?_
  try simp only[aI]
  refine ae ?_;refine aa Tp ?_;refine cd ?_ ?_ (hp:=rfl)<;>intro c5
  . exfalso;simp at c5;omega
  refine aa Tp ?_;refine cd ?_ ?_ (hp:=rfl)<;>intro c6
  . exfalso;simp at c6;omega
  refine Wd Tp 16 19 [] (hE:=λ_ _ _=>trivial) (hct:=by exact(ZhC m _ _ hm0 om).ie) (hkeep:=?_) (hk:=?_)
  . intro res h2 n2 _ q hq;cases hq
  rintro res h4 n4 ⟨r4,rfl,hr4,nP,hr4n,hkeep⟩
  try dsimp only at nP hkeep
  have hW4:=(hkeep W (by omega)).trans hW3
  have hrW4:r4≠W:=by omega
  have ff:=qF hr4 hW4 (nH W r4) (nG W n4) (nG r4 n4) ff;refine aP Tp ?_
  try simp only[aI]
  refine aa Tp ?_;refine cB ?_;refine Vd Tp 8 (r:=r4) (off:=0) m ?_;refine aP Tp ?_
  try simp only[aI]
  refine Ob (r:=r4) 0 ev ?_;refine aa Tp ?_;refine aL ?_;exact cK (_) (hh:=λ_=>.inl rfl) (hr:=oS (k:=by first|exact⟨rfl,bM.row (T:=T) ev (aU.trans (eX.down (by omega))) (by omega) (λq q1 q2 q3=>by have:=hkeep q (by omega);simp only[upd];repeat (first|exact this|rw[XV (by omega)])) (.inr (by omega)),bE.mk ev (by simp[upd]) (by simp) (by simp;omega) (by omega) (by omega) (by omega)⟩|exact⟨bM.row (T:=T) ev (aU.trans (eX.down (by omega))) (by omega) (λq q1 q2 q3=>by have:=hkeep q (by omega);simp only[upd];repeat (first|exact this|rw[XV (by omega)])) (.inr (by omega)),bE.mk ev (by simp[upd]) (by simp) (by simp;omega) (by omega) (by omega) (by omega)⟩))
 rw[Zu]at hW3
 have e1:0<l.length:=by omega
 have hE0:((l.length:Int)-((0:Nat):Int)).toNat=l.length:=by omega
 have nR:(W=r)=False:=YO (λe=>fF e.symm)
 have nO:(r=W)=False:=YO fF
 have ff:=qA @hW3 (qI @hr @nR @nO @Int.zero_add @Int.sub_zero @hE0 (nG W n3) (nG r n3) ff)
 refine cB ?_
 refine gmnil Tp 4 (e:=5) ?_
 refine aP Tp ?_
 try simp only[aI]
 refine cd ?_ ?_ (hp:=rfl)<;>intro c4
 . exfalso;simp at c4
 refine ah ?_
 refine cB ?_
 refine NB Tp 4 (λc hc1 hc2=>?_)
 have hc3:(c:Int)<=9223372036854775807:=by have:=hc2;unfold maxLen at this;omega
 refine aP Tp ?_
 try simp only[aI]
 refine ae ?_
 refine aa Tp ?_
 refine cd ?_ ?_<;>intro c5
 .
  refine Ai Tp 13 ?_;refine BX Tp 13 l.length ?_;refine aP Tp ?_
  try simp only[aI]
  refine aa Tp ?_;refine cB ?_;refine Nr Tp 8 (r:=r) (off:=0) (c:=c) (l.length+m) rfl (by have:(m:Int)<=(c:Int) / 2-(l.length:Int):=(by simpa using c5);omega) ?_
  refine aP Tp ?_
  try simp only[aI]
  refine aa Tp ?_;refine aL ?_;exact cK (_) (hh:=λ_=>.inl rfl) (hr:=oS (k:=by first|exact⟨rfl,bM.row (T:=T) ev (aU.trans (eX.down (by omega))) (by omega) (λq q1 q2 q3=>by have lH:q≠r:=λe=>q3 (by rw[e];exact jX hW3);simp only[upd];repeat (first|rfl|rw[XV lH]|rw[XV (by omega)])) (.inl (jX hW3)),bE.mk ev (by simp[upd,fF]) (by simp) (by omega) (by omega) (by omega) (by omega)⟩|exact⟨bM.row (T:=T) ev (aU.trans (eX.down (by omega))) (by omega) (λq q1 q2 q3=>by have lH:q≠r:=λe=>q3 (by rw[e];exact jX hW3);simp only[upd];repeat (first|rfl|rw[XV lH]|rw[XV (by omega)])) (.inl (jX hW3)),bE.mk ev (by simp[upd,fF]) (by simp) (by omega) (by omega) (by omega) (by omega)⟩))
 refine ZiK (r:=r) (k:=l.length+m) ev (λg w q=>hcap r (jX hW3) g w q.2) (λhc9=>?_)
 refine aa Tp ?_
 refine cd ?_ ?_ (hp:=rfl)<;>intro c6
 . exfalso;simp at c6;omega
 refine Wd Tp 16 19 [] (hE:=by exact λg w q=>hcap r (jX hW3) g w q.1.2) (hct:=by exact(gs_ct l m _ _ r hr e1 hm0 hl).i) (hkeep:=?_) (hk:=?_)
 . intro res h2 n2 _ q hq;cases hq
 rintro res h4 n4 ⟨E4,rfl,r4,k4,rfl,hr4,hk4,nP,hr4n,hkeep⟩
 try dsimp only at nP hkeep
 have hW4:=(hkeep W (by omega)).trans hW3
 have hrW4:r4≠W:=by omega
 have ff:=qF hr4 hW4 (nH W r4) (nG W n4) (nG r4 n4) ff
 refine aP Tp ?_
 try simp only[aI]
 refine aa Tp ?_
 refine cB ?_
 refine Vd Tp 8 (r:=r4) (off:=0) (l.length+m) ?_
 refine aP Tp ?_
 try simp only[aI]
 refine Ob (r:=r4) l.length ev ?_
 refine aa Tp ?_
 refine aL ?_
 exact cK (_) (hh:=λ_=>.inl rfl) (hr:=oS (k:=by first|exact⟨rfl,bM.row (T:=T) ev (aU.trans (eX.down (by omega))) (by omega) (λq q1 q2 q3=>by have:=hkeep q (by omega);simp only[upd];repeat (first|exact this|rw[XV (by omega)])) (.inr (by omega)),bE.mk ev (by simp[upd]) (by simp) (by omega) (by omega) (by omega) (by omega)⟩|exact⟨bM.row (T:=T) ev (aU.trans (eX.down (by omega))) (by omega) (λq q1 q2 q3=>by have:=hkeep q (by omega);simp only[upd];repeat (first|exact this|rw[XV (by omega)])) (.inr (by omega)),bE.mk ev (by simp[upd]) (by simp) (by omega) (by omega) (by omega) (by omega)⟩))
def bE.has{T:TypeId}{h:H}{W nx m:Nat}{l:Str}(hB:bE T h W nx l m)(h0:0<m):∃(r:Nat)(x:Int),r≠W/\r<nx/\h r=some ⟨5,l.map bD⟩/\h W=some ⟨T,[[.mrow r 0 (l.length+m),.i 0,.v (.int .i8 x)]]⟩:=by
 obtain⟨_,⟨e,x,hW⟩|⟨e,r,x,h1,h2,h3,hW⟩⟩:=hB
 . omega
 exact⟨r,x,h1,h2,h3,hW⟩
def bE.wrote{T:TypeId}{h:H}{W nx r k:Nat}{l p:Str}{x:Int}{rows:List (List D)}(hW:h W=some ⟨T,[[.mrow r 0 k,.i 0,.v (.int .i8 x)]]⟩)(hr:h r=some ⟨5,rows⟩)(he:rows=(l++p).map bD)(hk:k=l.length+p.length)(h0:0<l.length+p.length)(h1:r≠W)(h2:r<nx)(h3:W<nx):bE T h W nx (l++p) 0:=by
 subst he
 exact bE.mk hW hr (by rw[hk,XZ];rfl) (by rw[XZ];omega) h1 h2 h3
theorem Pp(T:TypeId)(l:Str)(b:UInt8)(h:H)(n W:Nat)(hB:bE T h W n l 0)(hl:l.length+1<=1000000000000):bU prog 66 [.mptr W 0 0,.v (.int .u8 b.toNat)] h n (λd h' n'=>d = .v .nilIface/\bM h h' W n n'/\bE T h' W n' (l++[b]) 0):=by
 refine oP func66 λhnone ff=>?_
 unfold f66
 obtain⟨d0,x0,hd1,hW⟩:=hB.cell
 have BQ:=hB.1
 have ff:=qD @hW @hd1 (nG W n) ff
 refine oC Tp ?_
 refine ae (bJ Tp 1 (hct:=by exact uY.rct (Hq T l 1 _ _ W (hB.last hW _ o6b) hl)) (hk:=?_))
 rintro res h2 n2 ⟨E2,ok,a,rfl,aU,hT,hF⟩
 try dsimp only at aU hT hF
 have hs0:=bM.last (n':=n) hW 0 (XX n)
 replace aU:=hs0.trans (aU.down oW)
 refine bI Tp ?_
 refine jnh (α:=(H)×Nat) [0,1] (λ⟨hq,nx⟩=>(bE T hq W nx l (1))/\(bM h hq W n nx)/\(n<=nx)/\True) (λ⟨hq,nx⟩=>[(5,.i l.length)]) (λ⟨hq,nx⟩=>hq) (λ⟨hq,nx⟩=>nx) ?_ ?_
 .
  refine aa Tp ?_;refine cd ?_ ?_ (hp:=rfl) (hq:=rfl)<;>intro c3
  .
   have hF2:=hF (by simpa using c3)
   refine bJ Tp 1 (hct:=by exact Nq T l 1 _ _ W ((hF2.2.1).mono o6b) hl) (hk:=?_)
   rintro res h3 n3 ⟨rfl,eX,hB3⟩
   try dsimp only at eX hB3
   refine bI Tp ?_
   show ∃_,_
   exact CV (h3,_) (h1:=⟨(hB3.mono oW),o4h,o4o,trivial⟩)
  have vP:=hT (by simpa using c3)
  have hal:=vP.1;subst hal;refine ah ?_
  show ∃_,_
  exact CV (h2,_) (h1:=⟨(vP.2.mono oW),(aU.up oW),o5a,trivial⟩)
 rintro⟨hq,nx⟩ ⟨hG,aQ,hnx, -⟩
 simp only[XY,X0]
 obtain⟨r,y,fF,hrn,hr,hW2⟩:=hG.has om
 have Va:=hG.1
 have hll:((l.length:Int)).toNat=l.length:=by omega
 have nR:(W=r)=False:=YO (λe=>fF e.symm)
 have nO:(r=W)=False:=YO fF
 have ff:=qA @hW2 (qI @hr @nR @nO @Int.sub_zero @Int.zero_add (nG W nx) (nG r nx) @hll ff)
 refine cB ?_
 refine ZhA Tp 7 (e:=5) (z:=.tmp 22) (r:=r) (off:=0) (len:=l.length+1) (n:=l.length) ?_
 refine aP Tp ?_
 try simp only[aI]
 refine aa Tp ?_
 refine aL ?_
 exact cK (_) (hh:=λ_=>.inl rfl) (hr:=oS (k:=by first|exact⟨rfl,bM.row (T:=T) ev aQ (by omega) (λq q1 q2 q3=>by have lH:q≠r:=λe=>q3 o5x;simp only[upd];repeat (first|rfl|rw[XV lH]|rw[XV (by omega)])) (.inl (jX hW2)),bE.wrote (r:=r) ev ev (by simp[bD]) (by simp) (by simp) fF (by omega) (by omega)⟩|exact⟨bM.row (T:=T) ev aQ (by omega) (λq q1 q2 q3=>by have lH:q≠r:=λe=>q3 o5x;simp only[upd];repeat (first|rfl|rw[XV lH]|rw[XV (by omega)])) (.inl (jX hW2)),bE.wrote (r:=r) ev ev (by simp[bD]) (by simp) (by simp) fF (by omega) (by omega)⟩))
def Ej(T:TypeId)(l:Str)(p:Str)(h:H)(n W:Nat)(hB:bE T h W n l 0)(hl:l.length+p.length<=1000000000000):bU prog 71 [.mptr W 0 0,.list false (p.map bD)] h n (λd h' n'=>d = .tuple [.i p.length,.v .nilIface]/\bM h h' W n n'/\bE T h' W n' (l++p) 0):=by
 refine oP func71 λhnone ff=>?_
 unfold f71
 obtain⟨d0,x0,hd1,hW⟩:=hB.cell
 have BQ:=hB.1
 have ff:=qD @hW @hd1 (nG W n) ff
 refine oC Tp ?_
 refine ae (bJ Tp 3 (hct:=o2r) (hk:=?_))
 rintro res h2 n2 ⟨E2,ok,a,rfl,aU,hT,hF⟩
 try dsimp only at aU hT hF
 have hs0:=bM.last (n':=n) hW 0 (XX n)
 replace aU:=hs0.trans (aU.down oW)
 refine bI Tp ?_
 refine jnh (α:=(H)×Nat) [0,1] (λ⟨hq,nx⟩=>(bE T hq W nx l (p.length))/\(bM h hq W n nx)/\(n<=nx)/\True) (λ⟨hq,nx⟩=>[(6,.i l.length)]) (λ⟨hq,nx⟩=>hq) (λ⟨hq,nx⟩=>nx) ?_ ?_
 .
  refine aa Tp ?_;refine cd ?_ ?_ (hp:=rfl) (hq:=rfl)<;>intro c3
  .
   have hF2:=hF (by simpa using c3)
   refine bJ Tp 3 (hct:=o3e) (hk:=?_)
   rintro res h3 n3 ⟨rfl,eX,hB3⟩
   try dsimp only at eX hB3
   refine bI Tp ?_
   show ∃_,_
   exact CV (h3,_) (h1:=⟨(hB3.mono oW),o4h,o4o,trivial⟩)
  have vP:=hT (by simpa using c3)
  have hal:=vP.1;subst hal;refine ah ?_
  show ∃_,_
  exact CV (h2,_) (h1:=⟨(vP.2.mono oW),(aU.up oW),o5a,trivial⟩)
 rintro⟨hq,nx⟩ ⟨hG,aQ,hnx, -⟩
 simp only[XY,X0]
 have Va:=hG.1
 rcases hG.cases3 with⟨e1,e2,y,hW2⟩|⟨e1,e2,r,y,fF,hrn,hr,hW2⟩|⟨e1,r,y,fF,hrn,hr,hW2⟩
 .
  obtain rfl:=e1;obtain rfl:p=[]:=Ya e2;have ff:=qB @hW2 (nG W nx) ff;refine cB ?_;refine F7 Tp 7 (e:=5) ?_;refine aP Tp ?_
  try simp only[aI]
  refine aL ?_;exact cK (_) (hh:=λ_=>.inl rfl) (hr:=oS (k:=o0k))
 .
  obtain rfl:p=[]:=Ya e2;have hll:((l.length:Int)).toNat=l.length:=by omega
  have hE1:(((l.length+0:Nat):Int)-(l.length:Int)).toNat=0:=by omega
  have hE2:((l.length:Int)-(l.length:Int)).toNat=0:=by omega
  have nR:(W=r)=False:=YO (λe=>fF e.symm)
  have nO:(r=W)=False:=YO fF;have ff:=qD @hW2 @hr @nR (qI @nO @Int.sub_zero @Int.zero_add (nG W nx) (nG r nx) @hll @hE1 @hE2 ff);refine cB ?_;refine F7 Tp 7 (e:=5) ?_;refine aP Tp ?_
  try simp only[aI]
  refine aL ?_;exact cK (_) (hh:=λ_=>.inl rfl) (hr:=oS (k:=o0k))
 have hll:((l.length:Int)).toNat=l.length:=by omega
 have hE1:(((l.length+p.length:Nat):Int)-(l.length:Int)).toNat=p.length:=by omega
 have hE2:((l.length:Int)+(p.length:Int)-(l.length:Int)).toNat=p.length:=by omega
 have nR:(W=r)=False:=YO (λe=>fF e.symm)
 have nO:(r=W)=False:=YO fF
 have ff:=qD @hW2 @hr @nR (qI @nO @Int.sub_zero @Int.zero_add (nG W nx) (nG r nx) @hll @hE1 @hE2 ff)
 refine cB ?_
 refine Vi Tp 7 (e:=5) (r:=r) (off:=l.length) (m:=p.length) (news:=p.map bD) ?_ (hrl:=by intro q hq;obtain⟨b,_,rfl⟩:=Yt.1 hq;rfl)
 refine aP Tp ?_
 try simp only[aI]
 refine aL ?_
 exact cK (_) (hh:=λ_=>.inl rfl) (hr:=oS (k:=o0b))
def Zav(T:TypeId)(l:Str)(p:Str)(h:H)(n W:Nat)(hB:bE T h W n l 0)(hl:l.length+p.length<=1000000000000):bU prog 126 [.mptr W 0 0,.v (.string (bs p))] h n (λd h' n'=>d = .tuple [.i p.length,.v .nilIface]/\bM h h' W n n'/\bE T h' W n' (l++p) 0):=by
 refine oP func126 λhnone ff=>?_
 unfold f126
 obtain⟨d0,x0,hd1,hW⟩:=hB.cell
 have BQ:=hB.1
 have ff:=qD @hW @hd1 (nG W n) ff
 refine oC Tp ?_
 refine ae (bJ Tp 3 (hct:=o2r) (hk:=?_))
 rintro res h2 n2 ⟨E2,ok,a,rfl,aU,hT,hF⟩
 try dsimp only at aU hT hF
 have hs0:=bM.last (n':=n) hW 0 (XX n)
 replace aU:=hs0.trans (aU.down oW)
 refine bI Tp ?_
 refine jnh (α:=(H)×Nat) [0,1] (λ⟨hq,nx⟩=>(bE T hq W nx l (p.length))/\(bM h hq W n nx)/\(n<=nx)/\True) (λ⟨hq,nx⟩=>[(6,.i l.length)]) (λ⟨hq,nx⟩=>hq) (λ⟨hq,nx⟩=>nx) ?_ ?_
 .
  refine aa Tp ?_;refine cd ?_ ?_ (hp:=rfl) (hq:=rfl)<;>intro c3
  .
   have hF2:=hF (by simpa using c3)
   refine bJ Tp 3 (hct:=o3e) (hk:=?_)
   rintro res h3 n3 ⟨rfl,eX,hB3⟩
   try dsimp only at eX hB3
   refine bI Tp ?_
   show ∃_,_
   exact CV (h3,_) (h1:=⟨(hB3.mono oW),o4h,o4o,trivial⟩)
  have vP:=hT (by simpa using c3)
  have hal:=vP.1;subst hal;refine ah ?_
  show ∃_,_
  exact CV (h2,_) (h1:=⟨(vP.2.mono oW),(aU.up oW),o5a,trivial⟩)
 rintro⟨hq,nx⟩ ⟨hG,aQ,hnx, -⟩
 simp only[XY,X0]
 have Va:=hG.1
 rcases hG.cases3 with⟨e1,e2,y,hW2⟩|⟨e1,e2,r,y,fF,hrn,hr,hW2⟩|⟨e1,r,y,fF,hrn,hr,hW2⟩
 .
  obtain rfl:=e1;obtain rfl:p=[]:=Ya e2;have ff:=qB @hW2 (nG W nx) ff;refine cB ?_;refine F7 Tp 7 (e:=5) ?_;refine aP Tp ?_
  try simp only[aI]
  refine aL ?_;exact cK (_) (hh:=λ_=>.inl rfl) (hr:=oS (k:=o0k))
 .
  obtain rfl:p=[]:=Ya e2;have hll:((l.length:Int)).toNat=l.length:=by omega
  have hE1:(((l.length+0:Nat):Int)-(l.length:Int)).toNat=0:=by omega
  have hE2:((l.length:Int)-(l.length:Int)).toNat=0:=by omega
  have nR:(W=r)=False:=YO (λe=>fF e.symm)
  have nO:(r=W)=False:=YO fF;have ff:=qD @hW2 @hr @nR (qI @nO @Int.sub_zero @Int.zero_add (nG W nx) (nG r nx) @hll @hE1 @hE2 ff);refine cB ?_;refine F7 Tp 7 (e:=5) ?_;refine aP Tp ?_
  try simp only[aI]
  refine aL ?_;exact cK (_) (hh:=λ_=>.inl rfl) (hr:=oS (k:=o0k))
 have hll:((l.length:Int)).toNat=l.length:=by omega
 have hE1:(((l.length+p.length:Nat):Int)-(l.length:Int)).toNat=p.length:=by omega
 have hE2:((l.length:Int)+(p.length:Int)-(l.length:Int)).toNat=p.length:=by omega
 have nR:(W=r)=False:=YO (λe=>fF e.symm)
 have nO:(r=W)=False:=YO fF
 have ff:=qD @hW2 @hr @nR (qI @nO @Int.sub_zero @Int.zero_add (nG W nx) (nG r nx) @hll @hE1 @hE2 ff)
 refine cB ?_
 refine Vi Tp 7 (e:=5) (r:=r) (off:=l.length) (m:=p.length) (news:=p.map bD) ?_ (hrl:=by intro q hq;obtain⟨b,_,rfl⟩:=Yt.1 hq;rfl)
 refine aP Tp ?_
 try simp only[aI]
 refine aL ?_
 exact cK (_) (hh:=λ_=>.inl rfl) (hr:=oS (k:=o0b))
theorem Ec(T:TypeId)(l:Str)(h:H)(n W:Nat)(hB:bE T h W n l 0)(hl:l.length<=1000000000000):bU prog 70 [.mptr W 0 0] h n (λd h' n'=>((l=[]/\d = .list true [])\/(l≠[] /\ ∃r,d = .mrow r 0 l.length/\h' r=some ⟨5,l.map bD⟩/\kF h' W=some r))/\bM h h' W n n'/\bE T h' W n' l 0):=by
 refine oP func70 λhnone ff=>?_
 unfold f70
 refine aa Tp ?_
 have F3:=hB
 obtain⟨BQ,⟨e0,x,hW⟩|⟨e0,r,x,fF,hrn,hr,hW⟩⟩:=hB
 . obtain rfl:l=[]:=Ya om;have ff:=qB @hW (nG W n) ff;refine aa Tp ?_;refine aL ?_;exact cK (_) (hh:=λ_=>.inl rfl) (hr:=oS (k:=by first|exact⟨.inl rfl,bM.refl om,F3.mono om⟩|exact⟨.inl ⟨rfl,rfl⟩,bM.refl om,F3.mono om⟩))
 rw[Zu]at hW
 have hE1:((l.length:Int)-0).toNat=l.length:=by omega
 have hE2:((l.length:Int)).toNat=l.length:=by omega
 have nR:(W=r)=False:=YO (λe=>fF e.symm)
 have nO:(r=W)=False:=YO fF
 have ff:=qA @hW (qI @hr @nR @nO @hE1 @hE2 @Int.sub_zero (nG W n) (nG r n) ff)
 refine aa Tp ?_
 refine aL ?_
 exact cK (_) (hh:=λ_=>.inl rfl) (hr:=oS (k:=by exact⟨.inr ⟨λe=>by subst e;simp at e0,r,rfl,hr,jX hW⟩,bM.refl om,F3.mono om⟩))
def Zi9{d:Nat}{c:UInt8}(h:d<18446744073709551616):IntKind.u64.wrap (KL .u64 (d:Int) (IntKind.u64.wrap (c.toNat:Int))*1099511628211)=((sw d c:Nat):Int):=by
 have hc:=c.toNat_lt
 have e0:IntKind.u64.wrap (c.toNat:Int)=(c.toNat:Int):=by rw[IntKind.wrap_u64];omega
 have e1:(BitVec.ofInt 64 (d:Int) ^^^ BitVec.ofInt 64 (c.toNat:Int)).toNat=d ^^^ c.toNat:=by
  rw[BitVec.toNat_xor,BitVec.ofInt_natCast,BitVec.ofInt_natCast,BitVec.toNat_ofNat,BitVec.toNat_ofNat,ZB (by omega),ZB (by omega)]
 have e2:d ^^^ c.toNat<2^64:=Nat.xor_lt_two_pow om om
 have e3:KL .u64 (d:Int) (c.toNat:Int)=IntKind.u64.wrap ((BitVec.ofInt 64 (d:Int) ^^^ BitVec.ofInt 64 (c.toNat:Int)).toNat:Int):=rfl
 rw[e0,e3,e1,IntKind.wrap_u64,IntKind.wrap_u64]
 unfold sw
 omega
def Zjd(l:Str){d:Nat}(h:d<18446744073709551616):l.foldl sw d<18446744073709551616:=by
 rcases List.eq_nil_or_concat l with e|⟨p,z,e⟩
 . subst e;exact h
 rw[e,List.concat_eq_append,Zh,YH,ZA]
 unfold sw
 omega
def Zjc{b:Str}{d k:Nat}(h:k<b.length):(b.take (k+1)).foldl sw d=sw ((b.take k).foldl sw d) (b.getD k 0):=by
 have e:b[k]?.toList=[b.getD k 0]:=by simp[List.getD,Yg h]
 rw[Zg,Zh,e,YH,ZA]
def Zkm(u s:Nat)(hs:s<=56):IntKind.u8.wrap ((u:Int).fdiv (2^(min s 64)))=((gY u s).toNat:Int):=by
 rw[IntKind.wrap_u8,ZK (by omega),Ky]
 rw[Int.fdiv_eq_ediv_of_nonneg _ (by exact_mod_cast Yi _)]
 norm_cast
def Hl(n:Int):IntKind.u64.wrap n=((uN n:Nat):Int):=by rw[IntKind.wrap_u64];unfold uN;omega
def y7{n:Nat}(h:n<18446744073709551616):IntKind.u64.wrap (n:Int)=(n:Int):=by rw[IntKind.wrap_u64];omega
def bo125:dY prog 125=true:=by kernel_rfl
def ZjH(b:Str)(d:Nat)(h:H)(n W:Nat)(hW:h W=some ⟨200,[[.v (.int .u64 ((d:Nat):Int))]]⟩)(hd:d<18446744073709551616)(hb:b.length<=1000000000000):bU prog 125 [.mptr W 0 0,.list false (b.map bD)] h n (λx h' n'=>h'=upd h W (some ⟨200,[[.v (.int .u64 ((b.foldl sw d:Nat):Int))]]⟩)/\n<=n'):=by
 refine LU func125 rfl bo125 (by simp[f125]) (λhnone=>?_)
 unfold f125
 have ff:=True.intro
 refine aa Tp ?_
 refine aj ?_
 refine jm (α:=(Nat)×Nat) [0,6,7] (λ⟨k,nx⟩=>(k<=b.length)/\(n<=nx)/\(W<nx)/\True) (λ⟨k,nx⟩=>b.length-k) (λ⟨k,nx⟩=>[(8,.i k)]) (λ⟨k,nx⟩=>upd h W (some ⟨200,[[.v (.int .u64 (((b.take k).foldl sw d:Nat):Int))]]⟩)) (λ⟨k,nx⟩=>nx) (0,_) (hA:=⟨iv,iv,(by(try dsimp only);rcases Nat.lt_or_ge W n with q|q;omega;rw[hnone W q]at hW;cases hW),trivial⟩) (round:=?_) (BN:=by intro q;left;show upd h W (some ⟨200,[[.v (.int .u64 ((d:Nat):Int))]]⟩) q=h q;by_cases e:q=W;subst e;rw[bN];exact hW.symm;rw[aK _ _ _ _ e])
 rintro⟨k,nx⟩ ⟨hk,hn,hWx, -⟩
 show DW _ _ _ _ { n:=_,t:=tab _,h:=_,nx:=_,e:=_ }
 simp only[XY,X0]
 refine aa Tp ?_
 refine ae ?_
 refine cd ?_ ?_<;>intro c1
 .
  have hk2:k<b.length:=by omega
  have hst:=Zjc (d:=d) hk2;have hdl:=Zjd (b.take k) hd;have hds:=Zi9 (c:=b.getD k 0) hdl;have ff:=qA (F6 hk2) ff;refine ah ?_
  show DW _ _ _ _ _
  refine ae ?_;refine aj ?_;refine aa Tp ?_;refine sV ?_;refine gmulu Tp 7 hds ?_;refine gnilc Tp 8 (r:=W) (j:=0) (off:=0) ?_;refine gst1 Tp 9 ?_;refine gend Tp ?_;refine dw_to [(8,.i k),(0,.mptr W 0 0),(6,.list false (b.map bD)),(7,.i b.length)] (upd h W (some ⟨200,[[.v (.int .u64 ((sw ((b.take k).foldl sw d) (b.getD k 0):Nat):Int))]]⟩)) _ (nx+14) .tt ?_ (hh:=by show upd (upd h W _) W _=_;rw[yZ];rfl)
  show DW _ _ _ _ _
  refine ai Tp ?_
  show ∃_,_
  refine ay (k+1,_) (h1:=⟨iv,iv,iv,trivial⟩) (h5:=?_);rw[hst];exact Dj _
 .
  have hk3:k=b.length:=by omega
  subst hk3;refine aH ?_;exact cK (upd h W (some ⟨200,[[.v (.int .u64 ((b.foldl sw d:Nat):Int))]]⟩)) (hr:=by(try simp only[go_sem,ff]);all_goals (first|omega|exact⟨rfl,by omega⟩)) (hh:=by rw[Yn];exact Dj _)
def Jm(b:Str)(hb:b.length<=1000000000000):PureCt prog 69 [.list false (b.map bD)] (.v (.int .u64 ((iG b:Nat):Int))):=by
 refine oO func69 λff=>?_
 unfold f69
 refine oC Tp ?_
 refine ae (bJ Tp 1 (hct:=by exact ZjH b Wo _ _ _ o4x (by decide) hb) (hk:=?_))
 rintro res h2 n2 ⟨rfl,h9⟩
 refine bI Tp ?_
 refine aa Tp ?_
 exact fp 0
def bE.fresh{T:TypeId}{h:H}{W nx nx' q:Nat}{l:Str}{m:Nat}{x:Option eZ}(hB:bE T h W nx l m)(hq:nx<=q)(hn:nx<=nx'):bE T (upd h q x) W nx' l m:=by
 obtain⟨h0,⟨e,y,h1⟩|⟨e,r,y,h1,h2,h3,h4⟩⟩:=hB
 . exact⟨om,.inl ⟨e,y,by rw[aK _ _ _ _ (by omega)];exact h1⟩⟩
 exact⟨om,.inr ⟨e,r,y,h1,om,by rw[aK _ _ _ _ (by omega)];exact h3,by rw[aK _ _ _ _ (by omega)];exact h4⟩⟩
def bM.fresh{h:H}{W n n' q:Nat}{x:Option eZ}(hW:W<n)(hq:n<=q)(hn:n<=n'):bM h (upd h q x) W n n':=by
 refine⟨hn,λp h1 _ _=>aK _ _ _ _ om,λp _ _ h3=>?_⟩
 have:kF (upd h q x) W=kF h W:=by
  unfold kF;rw[aK _ _ _ _ (by omega)]
 rw[this]
 exact h3
theorem ZbD(l t:Str):l++eu t.length 1++t=l++bP t:=by simp[KC,bP]
def Zff{a b c d:Int}{j:Nat}(h:j<4):([[.i a],[.i b],[.i c],[.i d]]:List (List D)).getD j []=[.i ([a,b,c,d][j]!)]:=by
 have:j=0\/j=1\/j=2\/j=3:=by omega
 rcases this with e|e|e|e<;>subst e<;>rfl
theorem XF(n:Int):eu (uN n) 8=cO n:=rfl
def uN_of{n:Int}(h:0<=n/\n<18446744073709551616):((uN n:Nat):Int)=n:=by unfold uN;omega
theorem Gp{α:Type}[Inhabited α]{l:List α}{k:Nat}(h:k<l.length)(f:α->Str):(l.drop k).flatMap f=f l[k]! ++ (l.drop (k+1)).flatMap f:=by
 rw[YC h,ZU,getElem!_pos l k h]
def Ea(T:TypeId)(l:Str)(u k:Nat)(h:H)(n W:Nat)(hB:bE T h W n l 0)(hu:u<18446744073709551616)(hk:k<=8)(hl:l.length<=900000000000):bU prog 87 [.mptr W 0 0,.v (.int .u64 ((u:Nat):Int)),.i k] h n (λd h' n'=>bM h h' W n n'/\bE T h' W n' (l++eu u k) 0):=by
 refine oP func87 λhnone ff=>?_
 unfold f87
 refine aa Tp ?_
 refine aj ?_
 refine jm (α:=(Nat)×(Str)×(H)×Nat) [0,1] (λ⟨j,o,hq,nx⟩=>(j<=8)/\(o++eu u j=l++eu u k)/\(o.length+j=l.length+k)/\(bE T hq W nx o 0)/\(bM h hq W n nx)/\True) (λ⟨j,o,hq,nx⟩=>j) (λ⟨j,o,hq,nx⟩=>[(2,.i ((j:Int)-1))]) (λ⟨j,o,hq,nx⟩=>hq) (λ⟨j,o,hq,nx⟩=>nx) (k,l,h,_) (hA:=⟨oW,rfl,rfl,(hB.mono oW),(bM.refl oW),trivial⟩) (round:=?_)
 rintro⟨j,o,hq,nx⟩ ⟨hj,ho,hol,hG,hst, -⟩
 simp only[XY,X0]
 refine oL Tp ?_ ?_<;>intro c1
 .
  obtain⟨i,rfl⟩:∃i,j=i+1:=⟨j-1,om⟩;have e1:(((i+1:Nat):Int)-1)=(i:Int):=by omega
  have e1b:((i:Int)+1-1)=(i:Int):=by omega
  have e2:(8*(i:Int)).toNat=8*i:=by omega
  have e3:=Zkm u (8*i) (by omega)
  have ff:=qE @e1 @e1b @e2 @e3 ff;refine ae ?_;refine aj ?_;refine Ai Tp 8 ?_;refine EI (C:=Tp) 8 (R:=_) om (dR rfl) rfl rfl o2s ?_ ?_ ev o5v ev (by exact Pp T o (gY u (8*i)) _ _ W (hG.mono oW) om) ?_
  .
   try simp only[go_sem,ff]
   all_goals (exact ok0)
  .
   try simp only[go_sem,ff]
   all_goals (first|done|rfl|decide|simp)
  rintro res h2 n2 ⟨rfl,aU,hG2⟩
  try dsimp only at aU
  refine aP Tp ?_
  try simp only[aI]
  refine ai Tp ?_
  show ∃_,_
  exact ay (i,o++[gY u (8*i)],h2,_) (h1:=⟨iv,(by(try dsimp only);rw[<-ho,List.append_assoc];rfl),o4r,(by first|(exact hG2.mono (by omega))|(dsimp only;exact hG2.mono (by omega))),(by(try dsimp only);exact(hst.trans (aU.down oW)).up (by omega)),trivial⟩)
 obtain rfl:j=0:=by omega
 have ho2:o=l++eu u k:=by simpa[eu]using ho
 refine aH ?_
 exact cK (_) (hh:=λ_=>.inl rfl) (hr:=oS (k:=by rw[<-ho2];exact⟨hst.up (by omega),hG.mono (by omega)⟩))
theorem CB(T:TypeId)(l:Str)(u:Nat)(h:H)(n W:Nat)(hB:bE T h W n l 0)(hu:u<18446744073709551616)(hl:l.length<=900000000000):bU prog 68 [.mptr W 0 0,.v (.int .u64 ((u:Nat):Int))] h n (λd h' n'=>bM h h' W n n'/\bE T h' W n' (l++eu u 8) 0):=by
 refine oP func68 λhnone ff=>?_
 unfold f68
 refine bJ Tp 2 (hct:=by exact Ea T l u 8 _ _ W (hB.mono oW) hu om hl) (hk:=?_)
 rintro res h2 n2 ⟨aU,hG2⟩
 try dsimp only at aU
 refine bI Tp ?_
 exact cK (_) (hh:=λ_=>.inl rfl) (hr:=oS (k:=by exact⟨(aU.down oW).up om,hG2.mono om⟩))
def He(T:TypeId)(l:Str)(m:Nat)(h:H)(n W:Nat)(hB:bE T h W n l 0)(hm:m<4294967296)(hl:l.length<=900000000000):bU prog 67 [.mptr W 0 0,.i m] h n (λd h' n'=>bM h h' W n n'/\bE T h' W n' (l++eu m 4) 0):=by
 refine oP func67 λhnone ff=>?_
 unfold f67
 have e1:=y7 (n:=m) (by omega)
 have ff:=qA @e1 ff
 refine bJ Tp 3 (hct:=by exact Ea T l m 4 _ _ W (hB.mono oW) om om hl) (hk:=?_)
 rintro res h2 n2 ⟨aU,hG2⟩
 try dsimp only at aU
 refine bI Tp ?_
 exact cK (_) (hh:=λ_=>.inl rfl) (hr:=oS (k:=by exact⟨(aU.down oW).up om,hG2.mono om⟩))
def G8(T:TypeId)(l t:Str)(h:H)(n W:Nat)(hB:bE T h W n l 0)(ht:t.length<=10000)(hl:l.length<=800000000000):bU prog 72 [.mptr W 0 0,.v (.string (bs t))] h n (λd h' n'=>bM h h' W n n'/\bE T h' W n' (l++bP t) 0):=by
 refine oP func72 λhnone ff=>?_
 unfold f72
 have e1:=y7 (n:=t.length) (by omega)
 have ff:=qA @e1 ff
 refine ae (bJ Tp 4 (hct:=by exact Ea T l t.length 1 _ _ W (hB.mono oW) om om om) (hk:=?_))
 rintro res h2 n2 ⟨aU,hG2⟩
 try dsimp only at aU
 refine bI Tp ?_
 refine bJ Tp 4 (hct:=by exact Zav T _ t _ _ W (hG2.mono oW) (by rw[XZ,fH];omega)) (hk:=?_)
 rintro res h3 n3 ⟨rfl,eX,hG3⟩
 try dsimp only at eX
 refine bI Tp ?_
 exact cK (_) (hh:=λ_=>.inl rfl) (hr:=oS (k:=by rw[<-ZbD];exact⟨((aU.down oW).trans (eX.down oW)).up (by omega),hG3.mono (by omega)⟩))
noncomputable def uU [Glob prog][Told]:List PanicEntry:=[{ v:=kg iP,recovered:=false }]
def bA(h h':H)(R n n':Nat):Prop:=n<=n' /\ ∀q,q<n->q≠R->h' q=h q
theorem bA.trans{h h' h'':H}{R n n' n'':Nat}(a:bA h h' R n n')(b:bA h' h'' R n' n''):bA h h'' R n n'':=⟨Yh a.1 b.1,λq h1 h2=>(b.2 q (YD h1 a.1) h2).trans (a.2 q h1 h2)⟩
def bA.down{h h':H}{R n m n':Nat}(a:bA h h' R m n')(hn:n<=m):bA h h' R n n':=⟨Yh hn a.1,λq h1=>a.2 q (YD h1 hn)⟩
def bA.up{h h':H}{R n n' n2:Nat}(a:bA h h' R n n')(hn:n'<=n2):bA h h' R n n2:=⟨Yh a.1 hn,a.2⟩
def bA.refl{h:H}{R n n':Nat}(hn:n<=n'):bA h h R n n':=⟨hn,λ_ _ _=>rfl⟩
def jC(h:H)(R:Nat)(x:Str):Prop:=∃f:Bool,h R=some ⟨263,[[.list f (x.map bD)]]⟩
def ZbI{x:Str}{m:Nat}(h:m<=x.length):bT m (x,false)=(x.take m,(x.drop m,false)):=take_ok rfl h
def take_none{x:Str}{m:Nat}(h:x.length<m):(bT m (x,false)).2.2=true:=by rw[wB (.inr (by show(x.length:Int)<m;omega))]
theorem Ta(l:Str)(k:Nat)(h:k<l.length):fV (l.take (k+1))=gK (fV (l.take k)) (l.getD k 0):=by
 have e:l[k]?.toList=[l.getD k 0]:=by simp[List.getD,Yg h]
 unfold fV
 rw[Zg,Zh,e,YH,ZA]
@[go_sem]theorem ldc_err(h:H):jo prog (.v (.pointer (some ⟨0,0,none⟩))) h=[.v (kg iP)]:=by
 rw[Ug,globE]
 rfl
def bo200:dY prog 200=true:=by kernel_rfl
def Ji(x:Str)(m:Nat)(h:H)(n R:Nat)(hb:jC h R x)(hx:x.length<=1000000000)(hm:m<=1000000000000):ol prog 200 [.mptr R 0 0,.i m] h n (λd h' n'=>∃x':Str,(bT m (x,false)).2=(x',false)/\(∃f1:Bool,d = .list f1 ((bT m (x,false)).1.map bD))/\jC h' R x'/\bA h h' R n n') (λc h' n'=>c=uU/\(bT m (x,false)).2.2=true/\bA h h' R n n'):=by
 refine Cz func200 rfl bo200 (by simp[f200]) (λhnone=>?_)
 unfold f200
 have ff:=True.intro
 obtain⟨f,hR⟩:=hb
 have hRn:R<n:=by rcases YG R n with q|q;exact q;rw[hnone R q]at hR;cases hR
 have hE1:((m:Int)).toNat=m:=by omega
 have hE2:((0:Int)).toNat=0:=rfl
 have ff:=qE @hR @hE1 @hE2 (nG R n) ff
 refine aa Tp ?_
 refine oK Tp ?_ ?_<;>intro c1
 .
  have hlt:x.length<m:=by omega
  refine sV ?_;refine DD Tp 1 (d:=.v (kg iP)) (t:=339) (v:=.pointer (some iP)) ?_ (λw g u hu=>hu.v_inv)
  try simp only[iy,iH]
  exact jy _ (by exact⟨rfl,take_none hlt,bA.refl oW⟩) (hn:=XX _) (hh:=λ_=>.inl rfl)
 have hle:m<=x.length:=by omega
 have hty:=ZbI hle
 refine oD Tp ?_
 refine aL ?_
 exact DN (.inr rfl) (_) (hh:=λ_=>.inl rfl) (hr:=oS (k:=by rw[hty];exact⟨_,rfl,⟨_,by rw[ZF];try rfl⟩,⟨_,by simp only[upd,Zn];rw[List.map_drop];try rfl⟩,om,(λq q1 q2=>by simp only[upd];repeat (first|rfl|rw[XV (by omega)]))⟩))
end Go.Proofs.YtidphdaoejibcaaGreatDoor
