/-
  MANY TEXTS OF MINE IN ONE (a claim has a limit of files): DXc, DXl, RcW12, DXm, Zsem, DlW2, DlW3, DlW4, DlW5, DlW7, DSort, Upm, Upn, Upo, Upq, Upr, Ups, Upt, Usem, DClaim, DLaid, Tla, TpCon, NmW1, NmW2, NmW3, NmW4, NmW5, NmW6, RcW1, RcW3, RcW4, RcW5, RcW6, RcW7, RcW8, JbW1, JbW2, JbW3, JbW4, JbW5, JbW6, JkW1, JkW2, JkW3, JkW4, JkW5, Jis. Conditions: none.
-/
import Derived.Shelf.SlSortCmp.NoneTotal
import Derived.Carry
import Derived.RowKit
import Derived.ChangeSame
import Derived.OpenShut
import Derived.LaidMore
import Derived.Lay
import Derived.Test.YtidphdaoejibcaaGreatDoorRows
import Derived.Stop.LaidErr
import Derived.WalkKit
import Derived.LaidEql
import Derived.Stop.Asserts
import Derived.RowKitTokens
import Derived.Test.YtidphdaoejibcaaGreatDoorMZA3
set_option linter.unusedVariables false
set_option linter.unusedSimpArgs false
set_option linter.unusedSectionVars false
set_option linter.defProp false
set_option linter.unnecessarySimpa false
namespace Go.DL
open Go.RowKit
variable {P : Program} {C : aR} {B : cK}
def ZcT [Glob P]{C:aR}{ro:Option Nat}{Q:Exit->S->Prop}{s s1:S}{ops:Array Oper}{i b:Nat}(k:Nat){o:Oper}{p:BinOp}{t t':TypeId}{x y:Operand}{vx vy v:Value}(hv:(gM P t p vx vy).1=v)(hp:(gM P t p vx vy).2)(z9:eT P C ops i k o b s s1)
  (hop:o.op = .binOp p t x y t')
  (hx:s1.ev x = .v vx)(hy:s1.ev y = .v vy)
  (hk:av P ro ops (k+1) b { n:=s1.n,t:=s1.put o.dst (.v v),h:=s1.h,nx:=s1.nx,ok:=True,e:=s1.e } Q):av P ro ops i b s Q:=by
 obtain⟨hik,ho,hg,he,hok,hd⟩:=z9
 refine Cn (C:=C) k (.v v) v hik ho hg (λc e=>by rw[hop]at e;cases e) he hok hd (λB g a w hst=>?_) hk
 have h1:=bV hst x
 rw[hx]at h1
 have h1:=h1.v_inv
 have h2:=bV hst y
 rw[hy]at h2
 have h2:=h2.v_inv
 have hb:=Xc hp x y w
 rw[hv]at hb
 refine⟨?_,.v _⟩
 obtain⟨od,oo,iB,op,oa,og⟩:=o
 simp only at hop
 subst hop
 rw[<-h1,<-h2]at hb
 have:execOp a.eval ⟨od,.binOp p t x y t',iB,op,oa,og⟩=(do let v <-(do eqGuard p t x y (a.eval x) (a.eval y);binOp p t (a.eval x) (a.eval y):Sem Value);return .value v):=by
  simp[execOp]
 rw[this,Sem.run_bind,hb]
 rfl
section
variable [Glob P] (C : aR) {ro : Option Nat} {Q : Exit -> S -> Prop} {s sq : S} {ops : Array Oper} {id : Nat} {y : Code}
def UT{s1:S}{o:Oper}{i b:Nat}(k:Nat){p:BinOp}{t t':TypeId}{x y:Operand}{vx vy:Value}(v:Value)(hk:av P ro ops (k+1) b { n:=s1.n,t:=s1.put o.dst (.v v),h:=s1.h,nx:=s1.nx,ok:=True,e:=s1.e } Q)
  (z9:eT P C ops i k o b s s1:=by exact pos)(hop:o.op = .binOp p t x y t':=by exact rfl)
  (hx:s1.ev x = .v vx:=by simp only[go_sem,ff];first|done|exact rfl)(hy:s1.ev y = .v vy:=by simp only[go_sem,ff];first|done|exact rfl)(hv:(gM P t p vx vy).1=v:=by rfl)(hp:(gM P t p vx vy).2:=by trivial):av P ro ops i b s Q:=ZcT k hv hp z9 hop hx hy hk
end
end Go.DL
namespace Go.DL
open Go.RowKit
theorem _root_.o5r{p:Prop}(h:p:=by dsimp only;omega):p:=h
theorem _root_.o5o{p:Prop}(h:p:=by first|decide|simp):p:=h
theorem _root_.o5n{p:Prop}(h:p:=by rw[e];exact jT hW2):p:=h
theorem _root_.o5l{p:Prop}(h:p:=by simp only[go_sem,ff]):p:=h
theorem _root_.o5d{p:Prop}(h:p:=by simp only[X0,qX,iW];omega):p:=h
theorem _root_.o4z{p:Prop}(h:p:=by first|omega|(dsimp only;omega)):p:=h
theorem _root_.o4y{p:Prop}(h:p:=by simp only[go_sem,ff];exact rfl):p:=h
theorem _root_.o4x{p:Prop}(h:p:=by first|(simp)|(dsimp only;simp)):p:=h
theorem _root_.o4t{p:Prop}(h:p:=by rw[hf];exact Bool.false_ne_true):p:=h
theorem _root_.o4q{p:Prop}(h:p:=by(try dsimp only);have:=aT.1;omega):p:=h
theorem _root_.o4o{p:Prop}(h:p:=by simp only[go_sem,ff];first|done|rfl):p:=h
theorem _root_.o4m{p:Prop}(h:p:=by simp only[X8,Yz,go_sem,ff];exact rfl):p:=h
theorem _root_.o4l{p:Prop}(h:p:=by simp only[X5,Ye,go_sem,ff];exact rfl):p:=h
theorem _root_.o4k{p:Prop}(h:p:=by rw[show(prog).bytesOf 5=1 from rfl];omega):p:=h
theorem _root_.o4j{p:Prop}(h:p:=by first|(simp;omega)|(dsimp only;simp;omega)):p:=h
theorem _root_.o4i{p:Prop}(h:p:=by(repeat' split)<;>first|rfl|(exfalso;omega)):p:=h
theorem _root_.o4g{p:Prop}(h:p:=by(try dsimp only);have:=eQ.1;have:=aT.1;omega):p:=h
theorem _root_.o4d{p:Prop}(h:p:=by(try simp only[go_sem,ff]);all_goals exact ok0):p:=h
theorem _root_.o4b{p:Prop}(h:p:=by(try dsimp only);rw[List.length_append,hol];rfl):p:=h
theorem _root_.o3z{p:Prop}(h:p:=by(try dsimp only);exact(aT.trans (eQ.down om)).up om):p:=h
theorem _root_.o3y{p:Prop}(h:p:=by simp only[X9,X6,X5,Ye,S.put,Yp,go_sem,ff];exact rfl):p:=h
theorem _root_.o3w{p:Prop}(h:p:=by first|exact ZP _ _|(refine⟨?_,ZP _ _⟩;simp_all [xI])):p:=h
theorem _root_.o3u{p:Prop}(h:p:=by first|(intro i hi;omega)|(dsimp only;intro i hi;omega)):p:=h
theorem _root_.o3t{p:Prop}(h:p:=by(try dsimp only);exact(rv hs9 (bq.refl (Nat.le_refl _)))):p:=h
theorem _root_.o3s{p:Prop}(h:p:=by first|(simp only[go_sem,ff];done)|(simp[go_sem,ff];done)):p:=h
theorem _root_.o3p{p:Prop}(h:p:=by(try dsimp only);simp only[go_sem,ff];first|done|exact rfl):p:=h
theorem _root_.o3m{p:Prop}(h:p:=by obtain⟨⟨h1,h2⟩,h3⟩:=c1;rcases h3 with h3|h3<;>simp[jQ,xy, *]):p:=h
theorem _root_.o3i{p:Prop}(h:p:=by(try dsimp only);exact⟨f8,by rw[aJ _ _ _ _ (by omega)];exact qy⟩):p:=h
theorem _root_.o3h{p:Prop}(h:p:=by first|exact hG.mono (by omega)|(rw[Yx];exact hG.mono (by omega))):p:=h
theorem _root_.o3g{p:Prop}(h:p:=by(try simp only[go_sem,ff]);all_goals (first|done|rfl|decide|simp)):p:=h
theorem _root_.o3d{p:Prop}(h:p:=by intro o ho;simp only[Yl,YZ,or_false]at ho;rcases ho with rfl<;>rfl):p:=h
theorem _root_.o3c{p:Prop}(h:p:=by simp only[lK,lG,zm,Go.Rec.cmpI];simp_all<;>(repeat' split)<;>omega):p:=h
theorem _root_.o3b{p:Prop}(h:p:=by first|(simp only[go_sem,ff];done)|(simp only[go_sem,ff];exact rfl)):p:=h
theorem _root_.o2x{p:Prop}(h:p:=by exact MQ T l p.length _ _ W ((hF2.2.1).mono o5r) hl):p:=h
theorem _root_.o2t{p:Prop}(h:p:=by first|(first|omega|(simp;omega))|(dsimp only;first|omega|(simp;omega))):p:=h
theorem _root_.o2s{p:Prop}(h:p:=by exact xV iN _ _ R ⟨fs2,by simp only[go_sem,ff];first|done|exact rfl⟩ sZ):p:=h
theorem _root_.o2l{p:Prop}(h:p:=by simp only[X9,X6,X5,Ye,S.put,Yp,Nat.reduceSub,go_sem,ff];first|done|exact rfl):p:=h
theorem _root_.o2k{p:Prop}(h:p:=by exact uR.rct (GJ T l p.length _ _ W (hB.last hW _ o5r) hl)):p:=h
theorem _root_.o2f{p:Prop}(h:p:=by simp only[cmpI,uJ,vz];first|(simp_all;done)|((repeat' split)<;>first|rfl|omega)):p:=h
theorem _root_.o2e{p:Prop}(h:p:=by rw[hv,iF,XV (by omega),XV (by omega),XV (by omega),XV (by omega),XV (by omega)]):p:=h
theorem _root_.o2b{p:Prop}(h:p:=by first|(rw[c1.1,c1.2,kP,XV c2,hv,NV c11 c14,X3 d3];rfl)|(rw[c1.1,c1.2,kP,XV c2,d0];rfl)):p:=h
theorem _root_.o1y{p:Prop}(h:p:=by intro q;left;by_cases e1:q=r<;>by_cases e2:q=m<;>simp_all [upd,sS,sQ]<;>(rw[XV (by omega)])):p:=h
theorem _root_.o1p{p:Prop}(h:p:=by(try dsimp only);simp only[go_sem,ff,List.map_append,List.map_cons,List.map_nil];first|done|exact rfl):p:=h
theorem _root_.o1j{p:Prop}(h:p:=by first|(rw[c1.1,c1.2,kP,XV c2,hv,JY c11];done)|(rw[c1.1,c1.2,kP,XV c2,hv,JY c11];rfl)|(rw[c1.1,c1.2,kP,XV c2,hv,WE c11 c14];rfl)):p:=h
theorem _root_.o1g{p:Prop}(h:p:=by have h8:tF s k=false:=(by simp only[tF,rX,Yd,Yy,X4];(try simp only[aV,XU,Yy,XX,X4]at c3);omega);rw[hv,iF,X3 hk2,h8];(repeat' split)<;>rfl):p:=h
theorem _root_.o1a{p:Prop}(h:p:=by(try dsimp only);exact(jM.trans (il.down o4z)).via (λp p1 p2=>aJ _ _ _ _ (by omega)) (bq.refl (Nat.le_refl _)) (by omega)):p:=h
theorem _root_.o0y{p:Prop}(h:p:=by(try simp only[go_sem,ff]);all_goals (first|done|(simp;done)|(refine⟨.inl ?_,.inl (by simp)⟩;exact congrArg (λx=>D.v (Value.int IntKind.u64 x)) hor)|(simp;omega))):p:=h
theorem _root_.o0s{p:Prop}(h:p:=by exact⟨rfl,by rw[hsg,hps];exact Ci (Ei o6 hN hbad (by omega)) (by omega),(bq.via hs5 (λ_ _ _=>rfl) (jM.trans (aQ.down o4z)) (Nat.le_refl _))⟩):p:=h
theorem _root_.o0r{p:Prop}(h:p:=by(try simp only[go_sem,ff]);all_goals (first|done|(simp;done)|(simp[Dat.d,iT];done)|((repeat' (with_reducible apply And.intro))<;>first|rfl|(left;simp;done)|(simp[Dat.d,iT];done)))):p:=h
theorem _root_.o0q{p:Prop}(h:p:=by(try simp only[go_sem,ff]);all_goals (first|done|(simp[sR];done)|(simp[sR];omega)|((repeat' (with_reducible apply And.intro))<;>first|(left;simp[sR];done)|(right;simp[go_sem,sR];done)))):p:=h
theorem _root_.o0j{p:Prop}(h:p:=by first|exact⟨rfl,aQ.up (by omega),o3h⟩|exact⟨aQ.up (by omega),o3h⟩):p:=h
theorem _root_.o0h{p:Prop}(h:p:=by(try simp only[go_sem,ff]);all_goals (first|done|((repeat' (with_reducible apply And.intro))<;>first|(intros;exact pU _ _ _)|(intros;exact lJ _)|(intros;exact pV _)|(intro h;simp only[XU,jL]at h;omega)|omega))):p:=h
theorem _root_.o0e{p:Prop}(h:p:=by(try dsimp only);have h8:tF s k=true:=(by simp only[tF,rX,Bool.or_eq_true,Bool.and_eq_true,decide_eq_true_eq];(try simp only[aV,Bool.and_eq_true,Bool.and_eq_false_iff,decide_eq_true_eq,decide_eq_false_iff_not]at c3);omega);rw[hv,iF,if_pos hk2,h8];rfl):p:=h
theorem _root_.o0b{p:Prop}(h:p:=by first|exact⟨rfl,bK.row (T:=T) ev aQ (by omega) (λq q1 q2 q3=>by have lu:q≠r:=λe=>q3 o5n;simp only[upd];repeat (first|rfl|rw[XV lu]|rw[XV (by omega)])) (.inl (jT hW2)),bB.wrote (r:=r) ev ev (by simp) (by simp) (by omega) fB (by omega) (by omega)⟩|exact⟨bK.row (T:=T) ev aQ (by omega) (λq q1 q2 q3=>by have lu:q≠r:=λe=>q3 o5n;simp only[upd];repeat (first|rfl|rw[XV lu]|rw[XV (by omega)])) (.inl (jT hW2)),bB.wrote (r:=r) ev ev (by simp) (by simp) (by omega) fB (by omega) (by omega)⟩):p:=h
theorem yN{h:H}{r:Nat}{a b:Option eU}:upd (upd h r a) r b=upd h r b:=by
 funext q
 unfold upd
 split<;>rfl
variable {P : Program} {C : aR} {B : cK}
structure Xz(C:aR)(ops:Array Oper)(k1 k3 k2:Nat):Prop where
 lt:k1<k3
 le3:k3<=k2
 le:k2<=ops.size
 back : ∀(i:Nat)o,ops.toList[i]? = some o -> ∀e∈o.after.toList,Region.binds .any e=true->e.on<i
 ord : ∀i,k2<=i->i<ops.size -> ∀j,j<i->((dW ops.toList []).getD i 0).testBit j=true
 quiet : ∀(i:Nat)o,i<k3->i≠k1->((dW ops.toList []).getD k1 0).testBit i=false->ops.toList[i]? = some o->sP C o=true
 wait : ∀i,k3<=i->i<k2->((dW ops.toList []).getD i 0).testBit k1=true
 comm : ∀(i j:Nat)x y,i<k2->j<i->i≠k1->j≠k1->ops.toList[j]? = some x->ops.toList[i]? = some y->((dW ops.toList []).getD i 0).testBit j=true\/lY C ops.toList x y=true
 call : ∀(i:Nat)x y,i<k3->i≠k1->ops.toList[i]? = some x->ops.toList[k1]? = some y->((dW ops.toList []).getD k1 0).testBit i=true\/iH ops.toList x y=true
 late : ∀(i j:Nat)x y,i<=j->j<k3->i≠k1->j≠k1->ops.toList[i]? = some x->ops.toList[j]? = some y -> ∀z∈looks ops.toList x,y.dst≠some z
theorem Zbb{k1 k3 k2:Nat}{listed:Array Bool}(h1:k1<k3)(h2:k3<=k2)(h3 : ∀j,k3<=j->listed.getD j false=false):dJ k1 k2 listed=dJ k1 k3 listed++List.range' k3 (k2-k3):=by
 have e:List.range k2=List.range k3++List.range' k3 (k2-k3):=by
  rw[Zd,Zd];have:k2=k3+(k2-k3):=by omega
  conv=>lhs;rw[this]
  rw[<-Zi]
  simp
 unfold dJ
 rw[e,List.filter_append]
 congr 1
 refine Y1.2 λj hj=>?_
 simp only[List.mem_range'_1]at hj
 rw[h3 j hj.1]
 simp
 omega
theorem ZbM [Glob P]{ops:Array Oper}{k1 k3 k2 b n:Nat}{ro:Option Nat}{Q:Exit->Act->World->Prop}{w0:World}{g0:Mem}{sq:S}{F:D->H->Nat->S}(Dc:Xz C ops k1 k3 k2)
  {o1:Oper}{f:Operand}{args:Array Operand}{ts:Array TypeId}{aW:FuncId}{first aD xs:List D}{R:D->H->Nat->Prop}{X:List PanicEntry->H->Nat->Prop}
  (ho:ops[k1]? = some o1)(hop:o1.op = .call { callee:=.value f,args:=args,argTypes:=ts })(hg:o1.guard=none)(hd:dG sq.n o1.dst=true)
  (hf:sq.ev f = .fn (.func aW) first aD)(hxg:(args.toList.map sq.ev).all sg=true)(hx:(args.toList.map sq.ev).map sd=xs)(hct:nT P aW (first++xs++aD) sq.h (b+k2) R X)(hok:sq.ok)
  (hst : ∀res h' n',R res h' n' -> ∀(i:Nat)o,i<k3->i≠k1->((dW ops.toList []).getD k1 0).testBit i=false->ops.toList[i]? = some o ->
   aM P (words P) C ops.toList b i o sq.n sq.ev sq.t h'=((aM P (words P) C ops.toList b i o sq.n sq.ev sq.t sq.h).1,h',(aM P (words P) C ops.toList b i o sq.n sq.ev sq.t sq.h).2.2))
  (hF : ∀res h' n',R res h' n'->(List.range' k3 (k2-k3)).foldl (bz P (words P) C ops.toList n') { n:=sq.n,t:=sq.put o1.dst res,h:=h',nx:=n'+ops.size,ok:=True,e:=sq.e }=F res h' n'/\(F res h' n').ok)
  (hQ : ∀res h' n',R res h' n' -> ∀g' a' w',St P B (F res h' n') g' a' w'->ax g0 g' w0 w'->(∀r,g'.U r->r<n'+k2)->wpOpsIn (Fw ro) n P ops Q (List.range' k2 (ops.size-k2)) a' w')
  (hp : ∀c h' n',X c h' n' -> ∀(t:Nat->D)g' a' w',St P B { n:=sq.n,t:=t,h:=h',nx:=n',ok:=True,e:=sq.e } g' a' w'->ax g0 g' w0 w'->(∀r,g'.U r->r<n')->Q (.panic c) a' w') :
  ∀(fuel:Nat)(listed:Array Bool)(s:S)(g:Mem)(a:Act)(w:World),listed.size=ops.size->listed.getD k1 false=false->(∀j,k3<=j->listed.getD j false=false)->(dJ k1 k3 listed).length+(k2-k3)+1+(ops.size-k2)<=fuel->Closed ops listed ->
   St P B s g a w->ax g0 g w0 w->(∀r,g.U r->r<b \/ ∃j,listed.getD j false=true/\j<k3/\r=b+j)->(dJ k1 k3 listed).foldl (bz P (words P) C ops.toList b) s=sq ->
   wpAnyIn (Fw ro) n P .any ops Q fuel listed a w:=by
 intro fuel
 have hle:=Dc.le
 have hlt1:=Dc.lt
 have hle3:=Dc.le3
 induction fuel with
 | zero=>intro listed s g a w hsz hk1 hk2 hfu;omega
 | succ fuel ih =>
  intro listed s g a w hsz hk1 hk2 hfu hX hs hm hU hfin;refine⟨λhr=>?_,λi hi=>?_⟩
  .
   exfalso
   have:=Q4 hsz Dc.back hr k1 om;rw[hk1]at this;cases this
  obtain⟨hlt,wU,tq⟩:=(wD hsz).1 hi;have hik:i<k2:=by
   by_cases q:i<k2
   . exact q
   exfalso
   have:=yH (L:=ops.toList) (X:=λk=>listed.getD k false=true) hX i ops[i] (by simp[hlt]) tq k1 (Dc.ord i om hlt k1 om)
   rw[hk1]at this;cases this
  have hik3:i<k3:=by
   by_cases q:i<k3
   . exact q
   exfalso
   have:=yH (L:=ops.toList) (X:=λk=>listed.getD k false=true) hX i ops[i] (by simp[hlt]) tq k1 (Dc.wait i om hik)
   rw[hk1]at this;cases this
  by_cases hne:i=k1
  .
   subst hne;have ho':ops.toList[i]? = some o1:=by rw[Zb];exact ho
   have hoi:ops[i]=o1:=by
    have:ops[i]? = some ops[i]:=by simp[hlt]
    rw[ho]at this;exact(Zu this).symm
   have yc : ∀j∈dJ i k3 listed,∀x,ops.toList[j]? = some x->((dW ops.toList []).getD i 0).testBit j=false/\iH ops.toList x o1=true:=by
    intro j hj x hxj;obtain⟨j1,j2,j3⟩:=lN.1 hj;have hnb:((dW ops.toList []).getD i 0).testBit j=false:=by
     cases q:((dW ops.toList []).getD i 0).testBit j with
     | false=>rfl
     | true =>
      have:=yH (L:=ops.toList) (X:=λk=>listed.getD k false=true) hX i ops[i] (by simp[hlt]) tq j q
      rw[j3]at this;cases this
    rcases Dc.call j x o1 j1 j2 hxj ho' with h|h
    . rw[hnb]at h;cases h
    exact⟨hnb,h⟩
   have hlk:=Jr (P:=P) (W:=words P) (C:=C) (L:=ops.toList) (b:=b) (y:=o1) (dJ i k3 listed) s λj hj x hxj=>(yc j hj x hxj).2
   rw[hfin,hop]at hlk;simp only[aU,X8,Y0]at hlk;have MB:sq.h=s.h:=by
    rw[<-hfin];exact Js _ _ λj hj o ho=>Dc.quiet j o (lN.1 hj).1 (lN.1 hj).2.1 (yc j hj o ho).1 ho
   have De:sq.n=s.n/\sq.e=s.e:=by rw[<-hfin];exact FI _ _
   rw[MB]at hct;rw[hlk.2]at hxg hx;have hf':s.ev f = .fn (.func aW) first aD:=by rw[<-hlk.1];exact hf
   have eD : ∀r,g.U r->r<b+k2:=λr hr=>by rcases hU r hr with h|⟨j,_,h,rfl⟩<;>omega
   unfold wpOpIn;rw[ho];simp only;have hw:Region.wanted o1 (yielded ops a.tmps)=true:=by simp[Region.wanted,hg]
   rw[X3 hw];have hdef : ∀c,o1.op ≠ .defer c:=by intro c e;rw[e]at hop;cases hop
   have jY:o1.semAt (Fw ro).round a.eval=execOp a.eval o1:=Oper.semAt_eq _ _ _ hdef;refine⟨λ_ _=>trivial,?_⟩
   rw[jY];obtain⟨hbd,hct⟩:=hct;have hfr:=bV hs f;rw[hf']at hfr;have fK:=vX (vO hs args.toList) hxg;rw[hx]at fK;generalize hv:a.eval f=vf at hfr
   cases hfr with|fn _ _ _ fs cs l1 l2 r1 r2 =>
   have hrun:(execOp a.eval o1).run P w = .ok (.enter aW (fs++args.map a.eval++cs)) w:=by
    simp[execOp,hop,resolve,Deferred.ofValue,hv,invoke,vR hbd]
   rw[hrun,Oper.uponIn_enter];have e:fs++args.map a.eval++cs=(fs.toList++args.toList.map a.eval++cs.toList).toArray:=by apply Zo;simp
   rw[e];refine⟨λh=>by simp[Fw,Fence.wide]at h,yD ((hct w g _ hs.mem eD (aB.append (aB.append ⟨by simpa using l1,λi d x h1 h2=>r1 i d x h1 (by simpa using h2)⟩ fK) ⟨by simpa using l2,λi d x h1 h2=>r2 i d x h1 (by simpa using h2)⟩)).mono ?_)⟩
   rintro e w' ⟨g',h',n',q2,q3,q4,⟨v,res,hR,rfl,q1⟩|⟨c,hXp,rfl⟩⟩
   .
    have hs2:=mo hs q3 q2 (show dG s.n o1.dst=true by rw[<-De.1];exact hd) q1 True
    have htodo:dJ i k3 (listed.setIfInBounds i true)=dJ i k3 listed:=by
     unfold dJ;refine Z5 λk _=>?_
     rw[getD_set (by omega) k]
     by_cases e:k=i
     . simp[e]
     have e2:(k==i)=false:=by simpa using e
     rw[e2,ZR]
    have qw:(dJ i k3 listed).Pairwise (· < ·):=Z6 _ ZW;have o7:=Jz (P:=P) (W:=words P) (C:=C) (L:=ops.toList) (b:=b) (b':=n') (m:=n'+ops.size) (d:=o1.dst) (res:=res) (h':=h') (sq:=sq) (dJ i k3 listed) s qw (λj hj o hoj=>by
     obtain⟨j1,j2,j3⟩:=lN.1 hj;obtain⟨v3,k4⟩:=yc j hj o hoj;refine⟨Dc.quiet j o j1 j2 v3 hoj,λz hz=>?_,λm hm hjm y hy=>Dc.late j m o y hjm (lN.1 hm).1 j2 (lN.1 hm).2.1 hoj hy,hst res h' n' hR j o j1 j2 v3 hoj⟩
     simp only[iH,XU,hz]at k4;refine⟨by simpa using k4.2,λe=>?_⟩
     have:=k4.1;rw[e]at this
     simp at this) hfin hok
    have Fa : ∀j,k3<=j->(listed.setIfInBounds i true).getD j false=false:=λj hj=>by
     rw[getD_set (by omega),hk2 j hj]
     have:(j==i)=false:=by simp;omega
     rw[this];rfl
    have hsp:dJ i k2 (listed.setIfInBounds i true)=dJ i k3 listed++List.range' k3 (k2-k3):=by rw[Zbb hlt1 hle3 Fa,htodo]
    obtain⟨hF1,hF2⟩:=hF res h' n' hR;refine KJ (B:=B) (g0:=g0) (w0:=w0) (b:=n') (k1:=i) (k2:=k2) (fin:=F res h' n') Dc.le Dc.back Dc.ord Dc.comm fuel (listed.setIfInBounds i true) { n:=s.n,t:=s.put o1.dst res,h:=h',nx:=n'+ops.size,ok:=True,e:=s.e } g' _ w' (by simp[hsz]) (λ_=>by rw[getD_set (by omega)];simp) (λj hj=>Fa j (by omega)) (by rw[hsp,X0,List.length_range'];omega) (hX.set hsz hi)
     ⟨hs2.sz,hs2.tm,hs2.mem,hs2.df,hs2.en,hs2.bd⟩ (hm.trans q3) (λr hr=>.inl (q4 r hr)) (by rw[hsp,Zf,o7];exact hF1) hF2 (hQ res h' n' hR)
   have hs2:=mo (dst:=none) hs q3 q2 rfl (.junk undef) True;exact hp c h' n' hXp s.t g' _ w' (by rw[De.1,De.2];exact⟨hs2.sz,hs2.tm,hs2.mem,hs2.df,hs2.en,hs2.bd⟩) (hm.trans q3) q4
  refine Li om (λi j x y q1 q2=>Dc.comm i j x y om q2) hsz hX hs hU hfin hok hi hik3 hne λg' a' w' s' q1 q2 q3 q4 q5=>?_
  refine ih _ s' g' a' w' (by simp[hsz]) o3v (λj hj=>?_) (by omega) (hX.set hsz hi) q1 (hm.trans q2) q3 q4
  rw[getD_set (by omega),hk2 j hj]
  have:(j==i)=false:=by simp;omega
  rw[this];rfl
def F4(C:aR)(L:List Oper)(k1 k3 k2:Nat):Bool :=
 decide (k1<k3)&&decide (k3<=k2)&&decide (k2<=L.length)&&j5 L
 && ((List.range L.length).all λi=>decide (i<k2)||(List.range i).all λj=>((dW L []).getD i 0).testBit j)
 && ((List.range k2).all λi=>decide (i<k3)||((dW L []).getD i 0).testBit k1)
 && ((List.range k3).all λi=>i==k1||((sP C (L.getD i default)||((dW L []).getD k1 0).testBit i)&&(((dW L []).getD k1 0).testBit i||iH L (L.getD i default) (L.getD k1 default))))
 && ((List.range k2).all λi=>i==k1||(List.range i).all λj=>j==k1||((dW L []).getD i 0).testBit j||lY C L (L.getD j default) (L.getD i default))
 && ((List.range k3).all λj=>j==k1||(List.range (j+1)).all λi=>i==k1||match(L.getD j default).dst with
  | none=>true
  | some d=>!(looks L (L.getD i default)).contains d)
def Zip{ops:Array Oper}{k1 k3 k2:Nat}(h:F4 C ops.toList k1 k3 k2=true):Xz C ops k1 k3 k2:=by
 unfold F4 at h
 simp only[XU,XX]at h
 obtain⟨⟨⟨⟨⟨⟨⟨⟨h1,h12⟩,h2⟩,h3⟩,h4⟩,h7⟩,h5⟩,h8⟩,h6⟩:=h
 have hat : ∀(i:Nat)o,ops.toList[i]? = some o->ops.toList.getD i default=o:=λi o ho=>by simp only[List.getD,ho,YQ]
 simp only[YI,Zn,Yc,XU,YA,XX]at h4 h5 h6 h7 h8
 refine⟨h1,h12,by simpa using h2,?_,?_,?_,?_,?_,?_,?_⟩
 .
  intro i o ho e he hb;unfold j5 at h3;simp only[YI,Zn,Yc,Ya,XX]at h3;have:=h3 i (X7.1 ho).1 e (by rw[hat i o ho];exact he)
  rcases this with h|h
  . rw[hb]at h;cases h
  exact h
 .
  intro i hi hs j hj
  rcases h4 i (by simpa using hs)with h|h
  . omega
  exact h j hj
 .
  intro i o hi hne hnb ho
  rcases h5 i hi with h|h
  . exact absurd h hne
  have:=h.1;rw[hat i o ho,hnb]at this;exact this.resolve_right (by simp)
 .
  intro i hi hs
  rcases h7 i hs with h|h
  . omega
  exact h
 .
  intro i j x y hi hj hne yf hx hy
  rcases h8 i hi with h|h
  . exact absurd h hne
  rcases h j hj with(h|h)|h
  . exact absurd h yf
  . exact .inl h
  rw[hat j x hx,hat i y hy]at h;exact .inr h
 .
  intro i x y hi hne hx hy
  rcases h5 i hi with h|h
  . exact absurd h hne
  have:=h.2;rw[hat i x hx,hat k1 y hy]at this;exact this
 intro i j x y hij hj hne yf hx hy z hz e
 rcases h6 j hj with h|h
 . exact absurd h yf
 rcases h i om with h|h
 . exact absurd h hne
 rw[hat i x hx,hat j y hy,e]at h
 simp at h
 exact h hz
def VC [Glob P]{ro:Option Nat}{Q:Exit->S->Prop}{s sq:S}{id:Nat}{ops:Array Oper}(k1 k3 k2:Nat){F:D->H->Nat->S}{o1:Oper}{f:Operand}{args:Array Operand}{ts:Array TypeId}{aW:FuncId}{first aD xs:List D}(R:D->H->Nat->Prop)(X:List PanicEntry->H->Nat->Prop)
  (nI:P.follows .mixedOrders=true)(hD:F4 C ops.toList k1 k3 k2=true)(ho:ops[k1]? = some o1)(hop:o1.op = .call { callee:=.value f,args:=args,argTypes:=ts })(hg:o1.guard=none)
  (hfin:((List.range k3).filter (· != k1)).foldl (bz P (words P) C ops.toList s.nx) s=sq)(hok:sq.ok)(hd:dG sq.n o1.dst=true)
  (hf:sq.ev f = .fn (.func aW) first aD)(hxg:(args.toList.map sq.ev).all sg=true)(hx:(args.toList.map sq.ev).map sd=xs)(hct:nT P aW (first++xs++aD) sq.h (s.nx+k2) R X)
  (hst : ∀res h' n',R res h' n' -> ∀(i:Nat)o,i<k3->i≠k1->((dW ops.toList []).getD k1 0).testBit i=false->ops.toList[i]? = some o ->
   aM P (words P) C ops.toList s.nx i o sq.n sq.ev sq.t h'=((aM P (words P) C ops.toList s.nx i o sq.n sq.ev sq.t sq.h).1,h',(aM P (words P) C ops.toList s.nx i o sq.n sq.ev sq.t sq.h).2.2))
  (hF : ∀res h' n',R res h' n'->aY P (words P) C ops.toList n' k3 ((ops.toList.drop k3).take (k2-k3)) { n:=sq.n,t:=sq.put o1.dst res,h:=h',nx:=n'+ops.size,ok:=True,e:=sq.e }=F res h' n')
  (zJ : ∀res h' n',R res h' n'->(F res h' n').ok)(hFe : ∀res h' n',R res h' n'->(F res h' n').e=sq.e)
  (hk : ∀res h' n',R res h' n'->av P ro ops k2 n' (F res h' n') Q)
  (hp : ∀c h' n',X c h' n' -> ∀t,Q (.panic c) { n:=sq.n,t:=t,h:=h',nx:=n',ok:=True,e:=sq.e }):DW P ro (.region id ops true) Q s:=by
 intro B g a w hs hU
 refine wpIn_region_any nI ?_
 obtain⟨hs1,hm1⟩:=JK hs
 have Dc:=Zip hD
 have hlt:=Dc.lt
 have hle3:=Dc.le3
 have hle:=Dc.le
 have hrep : ∀i,(Array.replicate ops.size false).getD i false=false:=by
  intro i
  by_cases h:i<ops.size<;>simp[Array.getD,h]
 have htodo:dJ k1 k3 (Array.replicate ops.size false)=(List.range k3).filter (· != k1):=by
  unfold dJ;exact Z5 λi _=>by rw[hrep];simp
 have hlen:(dJ k1 k3 (Array.replicate ops.size false)).length<k3:=by
  rw[htodo];have:=(List.length_filter_lt_length_iff_exists (p:=λx=>x != k1) (l:=List.range k3)).2 ⟨k1,by simpa using hlt,by simp⟩
  simpa using this
 have hse:sq.e=s.e:=by rw[<-hfin];exact(FI _ _).2
 refine ZbM (B:=B) (C:=C) (g0:=g) (w0:=w) (b:=s.nx) (n:=0) (F:=F) Dc ho hop hg hd hf hxg hx hct hok hst (λres h' n' hR=>⟨?_,zJ res h' n' hR⟩) (λres h' n' hR g' a' w' q1 q2 q3=>?_) (λc h' n' hXp t g' a' w' q1 q2 q3=>⟨_,g',hp c h' n' hXp t,q1,by rw[<-hse];exact q2.toX,q3,by rw[<-hse]⟩) ops.size _ s g a _ (by simp) (hrep k1) (λj _=>hrep j) (by omega) (λi o _ hi=>by rw[hrep]at hi;cases hi) hs1 hm1 (λr hr=>.inl (hU r hr)) (by rw[htodo];exact hfin)
 . rw[<-hF res h' n' hR];exact(JG (k2-k3) k3 _ (by simp;omega)).symm
 have:=hk res h' n' hR B g g' a' w w' q1 q2 q3
 simp only[hFe res h' n' hR,hse]at this
 exact this
def QC [Glob P]{ro:Option Nat}{Q:Exit->S->Prop}{ops:Array Oper}{i b:Nat}{s:S}(h:av P ro ops i b { n:=s.n,t:=s.t,h:=s.h,nx:=s.nx,ok:=True,e:=s.e } Q):av P ro ops i b s Q :=
 λB g0 g a w0 w hs hm hU=>h B g0 g a w0 w ⟨hs.sz,hs.tm,hs.mem,hs.df,hs.en,hs.bd⟩ hm hU
section
variable [Glob P] (C : aR) {ro : Option Nat} {Q : Exit -> S -> Prop} {s sq : S} {ops : Array Oper} {id : Nat} {y : Code}
def VH(k1 k3 k2:Nat)(fl:List (Nat×Nat)){o1:Oper}{f:Operand}{args:Array Operand}{ts:Array TypeId}{aW:FuncId}{first aD xs:List D}{R:D->H->Nat->Prop}{X:List PanicEntry->H->Nat->Prop}
  (nI:P.follows .mixedOrders=true:=by exact oM)(hD:F4 C ops.toList k1 k3 k2=true:=by kernel_rfl)(hfl:FJ C ops.toList k1 k3 fl=true:=by kernel_rfl)(ho:ops[k1]? = some o1:=by exact dN rfl)(hop:o1.op = .call { callee:=.value f,args:=args,argTypes:=ts }:=by exact rfl)(hg:o1.guard=none:=by exact rfl)
  (hfin:((List.range k3).filter (· != k1)).foldl (bz P (words P) C ops.toList s.nx) s=sq:=by exact H7 (by decide) (by decide) o2d o2d)(hok:sq.ok:=by(try simp only[go_sem,ff]);all_goals exact ok0)(hd:dG sq.n o1.dst=true:=by(try simp only[go_sem,ff]);all_goals (first|done|rfl|decide|simp))
  (hf:sq.ev f = .fn (.func aW) first aD:=by simp only[go_sem,ff];first|done|exact rfl)(hxg:(args.toList.map sq.ev).all sg=true:=by simp only[go_sem,ff])(hx:(args.toList.map sq.ev).map sd=xs:=by simp only[go_sem,ff];first|done|exact rfl)
  (hct:nT P aW (first++xs++aD) sq.h (s.nx+k2) R X)
  (hkeep : ∀res h' n',R res h' n' -> ∀p∈fl,∀r,named r (sd (sq.t p.2))=true->h' r=sq.h r)
  (zJ : ∀res h' n',R res h' n'->(aY P (words P) C ops.toList n' k3 ((ops.toList.drop k3).take (k2-k3)) { n:=sq.n,t:=sq.put o1.dst res,h:=h',nx:=n'+ops.size,ok:=True,e:=sq.e }).ok)
  (hk : ∀res h' n',R res h' n'->av P ro ops k2 n' (aY P (words P) C ops.toList n' k3 ((ops.toList.drop k3).take (k2-k3)) { n:=sq.n,t:=sq.put o1.dst res,h:=h',nx:=n'+ops.size,ok:=True,e:=sq.e }) Q)
  (hp : ∀c h' n',X c h' n' -> ∀t,Q (.panic c) { n:=sq.n,t:=t,h:=h',nx:=n',ok:=True,e:=sq.e }):DW P ro (.region id ops true) Q s :=
 (VC (F:=λres h' n'=>(aY P (words P) C ops.toList n' k3 ((ops.toList.drop k3).take (k2-k3)) { n:=sq.n,t:=sq.put o1.dst res,h:=h',nx:=n'+ops.size,ok:=True,e:=sq.e })) k1 k3 k2 R X nI hD ho hop hg hfin hok hd hf hxg hx hct (λres h' n' hr i o hi hne hb ho=>Nh hfl (hkeep res h' n' hr) i o hi hne hb ho) (λ_ _ _ _=>rfl) zJ (λ_ _ _ _=>uG _ _ _ _ _) hk hp)
def gto{s s1:S}{i b:Nat}(hk:av P ro ops i b { n:=s1.n,t:=s1.t,h:=s1.h,nx:=s1.nx,ok:=True,e:=s1.e } Q)(he:s=s1:=by simp only[X9,X6,X5,Ye,S.put,Yp,Nat.reduceSub,Nat.reduceAdd,go_sem,ff];first|done|exact rfl):av P ro ops i b s Q:=by
 subst he
 exact QC hk
end
end Go.DL
namespace Go.Proofs.YtidphdaoejibcaaGreatDoor
open Go.Proofs.Tryz
open Go.DL Go.Str Go.Rec Go.Cmp Go.RowKit
set_option maxRecDepth 10000
variable [Glob prog] [Told]

end Go.Proofs.YtidphdaoejibcaaGreatDoor
namespace Go.DL
open Go.RowKit
variable {P : Program} {ro : Option Nat} {Q : Exit -> S -> Prop}
def Hg [Glob P]{C:aR}{s s1:S}{ops:Array Oper}{i b:Nat}(k:Nat){o:Oper}{x:Operand}{d r:D}{xT t:TypeId}{v v':Value}(hrun : ∀w:World,(Instr.typeAssert v xT t true).run P w = .ok v' w)(hv : ∀(w:World)(g:Mem)q,ag w g d q->q=v)(hr : ∀(w:World)(g:Mem),ag w g r v')(hik:i<=k)(ho:ops[k]? = some o)(hg:o.guard=none)(hop:o.op = .typeAssert x xT t true)
  (he:aY P (words P) C ops.toList b i ((ops.toList.drop i).take (k-i)) s=s1)(hok:s1.ok)(hd:dG s1.n o.dst=true)(hx:s1.ev x=d)
  (hk:av P ro ops (k+1) b { n:=s1.n,t:=s1.put o.dst r,h:=s1.h,nx:=s1.nx,ok:=True,e:=s1.e } Q):av P ro ops i b s Q:=by
 refine ky (C:=C) k (λd h'=>d=r/\h'=s1.h) hik ho hg (λc e=>by rw[hop]at e;cases e) he hok hd (λB g a w hst _=>?_) (λd h'⟨hy,hh⟩=>by subst hy;subst hh;exact hk)
 have fK:=bV hst x
 rw[hx]at fK
 have hxv:=hv _ _ _ fK
 refine⟨_,_,⟨rfl,rfl⟩,_,g,w,.inl ?_,hr w g,hst.mem,ax.refl _ _,λr hr=>.inl hr⟩
 obtain⟨od,oo,iB,op,oa,og⟩:=o
 simp only at hop
 subst hop
 simp[execOp,hxv,hrun]
def Xj{xT t:TypeId}{want:Array (String×TypeId)}{z:Value}{ti:TypeInfo}(hu:P.underlying t=some (.interface want))(hti:P.info? t=some ti)(hz:ti.zero=some z)(w:World):(Instr.typeAssert .nilIface xT t true).run P w = .ok (.tuple #[z,.bool false]) w:=by
 simp[Instr.typeAssert,run_underlying hu,zeroValue,typeInfo,hti,hz]
def Rz [Glob P]{f:FuncId}{args:List D}{res:D}(hnr:args.all D.nr=true)(hc:bT P f args (λ_=>none) 0 (λd h' n'=>∃k,dL h' k d/\wk (snap h' k d)=res)):PureCt P f args res:=by
 refine⟨hc.1,hnr,λw I vs hI hgr hr=>?_⟩
 have hm:HM P (λ_=>none) (jI I) w:=by
  refine⟨λ_ _=>rfl,?_,?_,?_,hI,hgr⟩
  . intro r bl h;cases h
  . intro r r' b c c' s s' h;cases h
  intro r h;exact absurd rfl h
 refine(hc.2 w (jI I) vs hm (λr h=>False.elim h) hr).mono ?_
 rintro e w' ⟨v,g',d,h',n',⟨k,hk,hres⟩,rfl,h2,hmem,hm',hU⟩
 refine⟨v,rfl,⟨hm'.os,hm'.tape,hm'.output,hm'.size,hm'.drawn,λb hb=>hm'.same b hb (λr c s h=>by cases h)⟩,?_⟩
 obtain⟨q1,q2⟩:=G6 hmem k _ v (u7 h2) hk
 have q1:=q1.wk
 have q2:=Gw _ q2
 rw[hres]at q1 q2
 refine q1.clean q2 λb hb=>?_
 rcases hb with hb|⟨r,c,s,hb⟩
 .
  rcases hm'.inew b hb with h|h|⟨r,c,s,h⟩
  . exact .inl h
  . exact .inr ⟨h,hmem.imm b hb⟩
  cases h
 rcases hm'.new r b c s hb with⟨r',c',s',h⟩|h
 . cases h
 exact .inr ⟨h,(pK hmem hb).1⟩
theorem Zb9 [Glob P]{t:TypeId}{x:D}{a b c:Option D}{h h':H}(hn : ∀r,named r x=true->h' r=h r):pQ P t x a b c h'=pQ P t x a b c h:=by
 cases x with
 | mrow r off len =>
  have:=hn r (by simp[named])
  unfold pQ;simp only[this]
 | v x=>cases x<;>rfl
 | _=>rfl
def Zeu [Glob P]{C:aR}{W:bX}{L:List Oper}{b i:Nat}{o:Oper}{ev:Operand->D}{t:Nat->D}{n:Nat}{h h':H}{ty:TypeId}{x:Operand}{l hi m:Option Operand}(hg:o.guard=none)(ho:o.op = .slice ty x l hi m)
  (hn : ∀r,named r (sd (ev x))=true->h' r=h r):aM P W C L b i o n ev t h'=((aM P W C L b i o n ev t h).1,h',(aM P W C L b i o n ev t h).2.2):=by
 simp only[aM,hg,aX,ho,fA,Yo,Y8,aU,X8,aZ,still,Zb9 hn]
def Ni(C:aR)(L:List Oper)(k1 k2:Nat)(fl:List (Nat×Nat)):Bool:=(List.range k2).all λi=>i==k1||((dW L []).getD k1 0).testBit i||((L.getD i default).guard.isNone&&(bU C (L.getD i default).op == .none||fl.any λp=>p.1==i&&match(L.getD i default).op with
 | .load _ (.tmp t)=>t==p.2
 | .slice _ (.tmp t) _ _ _=>t==p.2
 | _=>false))
theorem Zhx [Glob P]{C:aR}{L:List Oper}{k1 k2:Nat}{fl:List (Nat×Nat)}(h:Ni C L k1 k2 fl=true){h':H}{sq:S}{b:Nat}(hk : ∀p∈fl,∀r,named r (sd (sq.t p.2))=true->h' r=sq.h r)(i:Nat)(o:Oper)(hi:i<k2)(hne:i≠k1)(hb:((dW L []).getD k1 0).testBit i=false)(ho:L[i]? = some o) :
  aM P (words P) C L b i o sq.n sq.ev sq.t h'=((aM P (words P) C L b i o sq.n sq.ev sq.t sq.h).1,h',(aM P (words P) C L b i o sq.n sq.ev sq.t sq.h).2.2):=by
 have hat:L.getD i default=o:=by simp only[List.getD,ho,YQ]
 unfold Ni at h
 have h1:=YI.1 h i (Zn.2 hi)
 rw[hat,hb]at h1
 simp only[ZR,Yc,YA,XU,ZY]at h1
 rcases h1 with h1|⟨hg,h1|⟨p,hp,h2,h3⟩⟩
 . exact absurd h1 hne
 . exact Im (Y9.1 hg) (.inl h1)
 cases hop:o.op with
 | load ty x =>
  rw[hop]at h3
  cases x with
  | tmp t =>
   simp only[YA]at h3;subst h3;refine Im (Y9.1 hg) (.inr ?_);rw[hop];refine⟨trivial,λd hd r hr=>?_⟩
   simp only[aU,X8,Yz,Yn]at hd;subst hd;exact hk p hp r hr
  | _=>simp at h3
 | slice ty x l hh m =>
  rw[hop]at h3
  cases x with
  | tmp t =>
   simp only[YA]at h3;subst h3;exact Zeu (Y9.1 hg) hop λr hr=>hk p hp r hr
  | _=>simp at h3
 | _=>rw[hop]at h3;simp at h3
section
variable [Glob P] (C : aR) {s sq : S} {ops : Array Oper} {id : Nat} {y : Code}
def dr1M(k1 k3 k2:Nat)(fl:List (Nat×Nat)){o1:Oper}{f:Operand}{args:Array Operand}{ts:Array TypeId}{aW:FuncId}{first aD xs:List D}{R:D->H->Nat->Prop}{X:List PanicEntry->H->Nat->Prop}
  (nI:P.follows .mixedOrders=true:=by exact oM)(hD:F4 C ops.toList k1 k3 k2=true:=by kernel_rfl)(hfl:Ni C ops.toList k1 k3 fl=true:=by kernel_rfl)(ho:ops[k1]? = some o1:=by exact dN rfl)(hop:o1.op = .call { callee:=.value f,args:=args,argTypes:=ts }:=by exact rfl)(hg:o1.guard=none:=by exact rfl)
  (hfin:((List.range k3).filter (· != k1)).foldl (bz P (words P) C ops.toList s.nx) s=sq:=by exact H7 (by decide) (by decide) o2d o2d)(hok:sq.ok:=by(try simp only[go_sem,ff]);all_goals exact ok0)(hd:dG sq.n o1.dst=true:=by(try simp only[go_sem,ff]);all_goals (first|done|rfl|decide|simp))
  (hf:sq.ev f = .fn (.func aW) first aD:=by simp only[go_sem,ff];first|done|exact rfl)(hxg:(args.toList.map sq.ev).all sg=true:=by simp only[go_sem,ff])(hx:(args.toList.map sq.ev).map sd=xs:=by simp only[go_sem,ff];first|done|exact rfl)
  (hct:nT P aW (first++xs++aD) sq.h (s.nx+k2) R X)
  (hkeep : ∀res h' n',R res h' n' -> ∀p∈fl,∀r,named r (sd (sq.t p.2))=true->h' r=sq.h r)
  (zJ : ∀res h' n',R res h' n'->(aY P (words P) C ops.toList n' k3 ((ops.toList.drop k3).take (k2-k3)) { n:=sq.n,t:=sq.put o1.dst res,h:=h',nx:=n'+ops.size,ok:=True,e:=sq.e }).ok)
  (hk : ∀res h' n',R res h' n'->av P ro ops k2 n' (aY P (words P) C ops.toList n' k3 ((ops.toList.drop k3).take (k2-k3)) { n:=sq.n,t:=sq.put o1.dst res,h:=h',nx:=n'+ops.size,ok:=True,e:=sq.e }) Q)
  (hp : ∀c h' n',X c h' n' -> ∀t,Q (.panic c) { n:=sq.n,t:=t,h:=h',nx:=n',ok:=True,e:=sq.e }):DW P ro (.region id ops true) Q s :=
 (VC (F:=λres h' n'=>(aY P (words P) C ops.toList n' k3 ((ops.toList.drop k3).take (k2-k3)) { n:=sq.n,t:=sq.put o1.dst res,h:=h',nx:=n'+ops.size,ok:=True,e:=sq.e })) k1 k3 k2 R X nI hD ho hop hg hfin hok hd hf hxg hx hct (λres h' n' hr i o hi hne hb ho=>Zhx hfl (hkeep res h' n' hr) i o hi hne hb ho) (λ_ _ _ _=>rfl) zJ (λ_ _ _ _=>uG _ _ _ _ _) hk hp)
end
end Go.DL
namespace Go.Zon
open Go.DL
def He(f:D):Sgd->Option Sgd:=match f with
 | .fn (.func k) _ [d]=>if k=33 then kX (wM d)else lw (wM d)
 | _=>some
@[go_sem]theorem semS_d2{m:PM}:He (.fn (.func 33) [] [.eptr [.fmap (jb m)]])=kX m:=congrArg kX (LH m)
@[go_sem]theorem semS_86:He (.fn (.func 86) [] [])=some:=rfl
end Go.Zon
namespace Go.Proofs.YtidphdaoejibcaaGreatDoor
open Go.Proofs.Tryz
open Go.DL Go.Str Go.Rec Go.Cmp Go.Zon
set_option maxRecDepth 10000
variable [Glob prog] [Told]





end Go.Proofs.YtidphdaoejibcaaGreatDoor
namespace Go.DL
open Go.RowKit
variable {P : Program}
def Ou(cf:List D->List D->Int)(rows:List (List D)):Prop:=rows.Pairwise λx y=>¬cf y x<0
structure SwoOn(cf:List D->List D->Int)(rows:List (List D)):Prop where
 irrefl : ∀x∈rows,¬cf x x<0
 trans : ∀x∈rows,∀y∈rows,∀z∈rows,cf x y<0->cf y z<0->cf x z<0
 ntrans : ∀x∈rows,∀y∈rows,∀z∈rows,¬cf x y<0 -> ¬cf y z<0 -> ¬cf x z<0
def KQ(enc:Nat->List Value)(k:Nat)(w:World)(b m:Nat)(d:Array Nat)(os:Array Obj)(i:Nat)(hi:i<w.heap.size)(hb:i≠b):(Go.Proofs.sortWorldK enc k w b 0 m d os).heap[i]? = w.heap[i]? := by
 unfold Go.Proofs.sortWorldK Go.Sort.putRowK Go.Sort.putRow Go.Sort.mapBlock Go.Sort.grow
 simp only[Go.Sort.ahead]
 rw[Array.getElem?_append_left (by simpa using hi),Array.getElem?_modify,XV (Ne.symm hb)]
def ZbY(enc:Nat->List Value)(k:Nat)(w:World)(b m:Nat)(d:Array Nat)(os:Array Obj){cur:Array Value}{ty:TypeId}(hb:w.heap[b]? = some (.cells cur ty (0,0))) :
  (Go.Proofs.sortWorldK enc k w b 0 m d os).heap[b]? = some (.cells (Go.Sort.putCells id 0 (Go.Sort.flatK enc k d) cur) ty (0,0)):=by
 have hi:b<w.heap.size:=(Yk.1 hb).1
 unfold Go.Proofs.sortWorldK Go.Sort.putRowK Go.Sort.putRow Go.Sort.mapBlock Go.Sort.grow
 simp only[Go.Sort.ahead]
 rw[Array.getElem?_append_left (by simpa using hi),Array.getElem?_modify,X3 rfl,hb]
 rfl
theorem PW(enc:Nat->List Value)(k:Nat)(w:World)(b m:Nat)(d:Array Nat)(os:Array Obj):(Go.Proofs.sortWorldK enc k w b 0 m d os).heap.size=w.heap.size+os.size:=by
 unfold Go.Proofs.sortWorldK Go.Sort.putRowK Go.Sort.putRow Go.Sort.mapBlock Go.Sort.grow
 simp[Go.Sort.ahead]
def ZjN{w w':World}(h:Gs w w'):∃q os,w'=Go.Sort.grow (w.drewN q) os:=by
 refine⟨w'.drawn-w.drawn,w'.heap.extract w.heap.size w'.heap.size,?_⟩
 obtain⟨h1,h2,h3,h4,h5,h6⟩:=h
 have hh:w'.heap=w.heap++w'.heap.extract w.heap.size w'.heap.size:=by
  apply Array.ext_getElem?
  intro i
  by_cases hi:i<w.heap.size
  . rw[Array.getElem?_append_left hi,h6 i hi]
  rw[Array.getElem?_append_right (by omega),Array.getElem?_extract]
  by_cases hj:i<w'.heap.size
  .
   rw[X3 (by omega)]
   congr 1
   omega
  rw[XV (by omega),Array.getElem?_eq_none (by omega)]
 cases w'
 cases w
 simp only at h1 h2 h3 h5 hh
 simp only[Go.Sort.grow,World.drewN,World.mk.injEq]
 refine⟨hh,h2,?_,h1,h3⟩
 omega
def PV [Glob P]{ρ:Go.Shelf.Ren}(L:Go.Proofs.SlLaysF0.n6 P ρ){fS ty:Nat}(hfS:ρ.f 6=fS)(hty:ρ.t 24=ty)(aE : ∀w,(isAgg ty).run P w = .ok true w)(zE : ∀w,(Go.sizeOf ty).run P w = .ok (P.cellsOf ty) w)
  {r nf g:Nat}{rows:List (List D)}{h:H}{aD:List D}(cf:List D->List D->Int)(hbS:d9 P fS=true)(hr:h r=some ⟨ty,rows⟩)(hnr:bu rows=true)(hcn:aD.all D.nr=true)(hmax:rows.length<4611686018427387904)
  (hcmp : ∀x∈rows,∀y∈rows,PureCt P g ([.agg x,.agg y]++aD) (.i (cf x y)))(hO:SwoOn cf rows) :
  bT P fS [.mrow r 0 rows.length,.fn (.func g) [] aD] h nf (λd h' n'=>d = .tuple []/\n'=nf /\ ∃rows',rows'.Perm rows/\Ou cf rows'/\h'=upd h r (some ⟨ty,rows'⟩)):=by
 refine⟨hbS,λw gm vs hm hU hrs=>?_⟩
 obtain⟨x,vs1,rfl,hx,h1⟩:=hrs.of_cons
 obtain⟨f,vs2,rfl,hf,h2⟩:=h1.of_cons
 rw[h2.of_nil]
 cases hf with|fn _ _ _ fs cs l1 l2 r1 r2 =>
 have hfs:fs = #[]:=Zz (by simpa using l1.symm)
 subst hfs
 cases hx with|mrow _ _ _ _ _ hUr hv =>
 obtain⟨blk,c,q1,q2,q3,q4,q5⟩:=hm.blk r _ hr
 obtain⟨v1,v2⟩:=hv _ _ _ q1
 by_cases hne:rows=[]
 .
  subst hne;have hx' : ∃p cap,x = .slice p 0 cap:=by
   rcases v2 with⟨_,a,rfl⟩|⟨_,b,_,rfl⟩
   . exact⟨a,0,rfl⟩
   exact⟨_,_,rfl⟩
  obtain⟨p,cap,rfl⟩:=hx';have key:=Go.Proofs.AnyF.slices_SortFunc_none L p cap (.func (.func g) #[] cs) w;rw[hfS]at key;refine callsIn_wide.2 (key.mono ?_);rintro e w' ⟨rfl,rfl⟩;refine⟨_,gm,_,h,nf,⟨rfl,rfl,[],.refl _,.nil,?_⟩,rfl,.mk_tuple (vs:=#[]) .nil,hm,ax.refl _ _,hU⟩
  funext i
  unfold upd
  split
  . rename_i e;subst e;exact hr
  rfl
 have hn0:0<rows.length:=Zt.2 hne
 rcases q5 with⟨_,q5⟩|⟨b,cur,rfl,q6,q7,q8,q9⟩
 . simp only at q3;omega
 have q6:=q6.cells v1.2
 have q7:=q7 v1.2
 have q4:=v1.2
 rcases v2 with⟨e0,a,rfl⟩|⟨hc0,b',hb',rfl⟩
 . simp only at q3;omega
 cases hb'
 have hbw:b<w.heap.size:=(Yk.1 q6).1
 generalize hk:P.cellsOf ty=k at *
 simp only at q3
 let ix:Nat->Nat:=λi=>if i<rows.length then i else 0
 have hix : ∀i,ix i<rows.length:=λi=>by simp only[ix];split<;>assumption
 have Ja : ∀i,i<rows.length->ix i=i:=λi hi=>by simp only[ix];rw[X3 hi]
 let enc:Nat->List Value:=λi=>(List.range k).map λj=>cur.getD (ix i*k+j) undef
 have MJ : ∀i,(enc i).length=k:=λi=>by simp[enc]
 have hrow : ∀i,i<rows.length->(rows.getD i []).length=k /\ ∀(j:Nat)d,(rows.getD i [])[j]? = some d->(enc i)[j]? = some (cur.getD (i*k+j) undef)/\cur[i*k+j]? = some (cur.getD (i*k+j) undef)/\(cur.getD (i*k+j) undef).oneCell'=true/\ag w gm d (cur.getD (i*k+j) undef):=by
  intro i hi;have e1:rows[i]? = some (rows.getD i []):=by simp[List.getD,hi]
  obtain⟨p1,p2⟩:=q9 i _ e1;simp only[hk]at p1 p2;refine⟨p1,λj d hd=>?_⟩
  obtain⟨u,u1,u2,u3⟩:=p2 j d hd;have e2:cur.getD (i*k+j) undef=u:=by simp[Zy,u1]
  have hj:j<k:=by rw[<-p1];exact(X7.1 hd).1
  rw[e2];refine⟨by simp[enc,hj,Ja i hi];rw[<-e2];simp[Zy],u1,u2,u3⟩
 have UF : ∀i,enc i=enc (ix i):=λi=>by simp only[enc];rw[Ja (ix i) (hix i)]
 have hone : ∀i,∀v∈enc i,v.oneCell'=true:=by
  intro i v hv;rw[UF]at hv;obtain⟨j,hj⟩:=Zw hv;have hjk:j<k:=by rw[<-MJ (ix i)];exact(X7.1 hj).1
  obtain⟨p1,p2⟩:=hrow (ix i) (hix i);have hd:(rows.getD (ix i) [])[j]? = some ((rows.getD (ix i) [])[j]'(by omega)):=by simp
  obtain⟨u1,_,u2,_⟩:=p2 j _ hd;rw[u1]at hj
  cases hj
  exact u2
 let rw':Nat->List D:=λi=>rows.getD (ix i) []
 have hmem : ∀i,rw' i∈rows:=λi=>by
  have:rw' i=rows[ix i]'(hix i):=by simp[rw',List.getD,hix i]
  rw[this];exact YH _
 let cn:Nat->Nat->Int:=λi j=>cf (rw' i) (rw' j)
 have hswo:Go.Sort.SWO (Go.Proofs.ltOf cn):=by
  refine⟨λx=>?_,λx y z p1 p2=>?_,λx y z p1 p2=>?_⟩
  . simp only[Go.Proofs.ltOf,cn,X4];exact hO.irrefl _ (hmem x)
  . simp only[Go.Proofs.ltOf,cn,XX]at *;exact hO.trans _ (hmem x) _ (hmem y) _ (hmem z) p1 p2
  simp only[Go.Proofs.ltOf,cn,X4]at *;exact hO.ntrans _ (hmem x) _ (hmem y) _ (hmem z) p1 p2
 let d:Array Nat:=Array.range rows.length
 have hds:d.size=rows.length:=by simp[d]
 have hdg : ∀i,i<rows.length->d[i]! = i:=λi hi=>by simp[d,hi]
 have Zg0 : ∀t,t<rows.length*k->t / k<rows.length/\t % k<k:=λt ht=>⟨Nat.div_lt_of_lt_mul (by rw[ZE];exact ht),Nat.mod_lt _ q2⟩
 have hget : ∀i j,i<rows.length->j<k->(enc i)[j]! = cur.getD (i*k+j) undef:=by
  intro i j hi hj;obtain⟨p1,p2⟩:=hrow i hi;have hd:(rows.getD i [])[j]? = some ((rows.getD i [])[j]'(by omega)):=by simp
  rw[List.getElem!_eq_getElem?_getD,(p2 j _ hd).1];rfl
 have hH:Go.Sort.HoldsK enc k w b 0 d:=by
  intro t ht;simp only[Go.Sort.size_flatK,hds]at ht;rw[Go.Sort.get_flatK _ _ _ _ (by rw[hds];exact ht)]
  obtain⟨t1,t2⟩:=Zg0 t ht;rw[hdg _ t1,hget _ _ t1 t2];have e:t / k*k+t % k=t:=by rw[ZE];exact Nat.div_add_mod t k
  rw[e,Nat.zero_add];have hlt:t<cur.size:=by rw[q7];exact YB ht (YY k q3)
  refine⟨?_,?_⟩
  . simp[World.cell?,q6,hlt,id,Zy]
  simp[World.frozen?,q6]
 have hcl:Go.Proofs.CmpLays P g cs enc k cn b 0 d.size w:=by
  intro m os dk hdk x y;obtain⟨hbd,_,hct⟩:=hcmp _ (hmem x) _ (hmem y);have hW:=PW enc k w b m dk os;have hI : ∀b',gm.I b'->b'<(Go.Proofs.sortWorldK enc k w b 0 m dk os).heap.size:=λb' hb'=>by rw[hW];have:=hm.imm b' hb';omega
  have hrep : ∀{d:D}{v:Value},d.nr=true->ag w gm d v->ag (Go.Proofs.sortWorldK enc k w b 0 m dk os) (jI gm.I) d v:=by
   intro d v hd hv;have h1:=ag.clean (g':=jI gm.I) hv hd (λb hb=>hb)
   refine ag.mono (g:=jI gm.I) (g':=jI gm.I) (λb' hb'=>⟨hb',?_⟩) (λ_ h=>h) (λ_ h=>.inl rfl) h1
   exact KQ enc k w b m dk os b' (hm.imm b' hb') (λe=>q8 (e▸hb'))
  have hagg : ∀i,ag (Go.Proofs.sortWorldK enc k w b 0 m dk os) (jI gm.I) (.agg (rw' i)) (.agg (enc i).toArray):=by
   intro i;rw[UF i];obtain⟨p1,p2⟩:=hrow (ix i) (hix i);refine .mk_agg ⟨by rw[p1,MJ],λj d v e1 e2=>?_⟩
   obtain⟨u1,_,_,u4⟩:=p2 j d e1;rw[u1]at e2
   cases e2
   exact hrep (sU (EF hnr (hmem i)) (Yj e1)) u4
  have hargs:aB (Go.Proofs.sortWorldK enc k w b 0 m dk os) (jI gm.I) ([.agg (rw' x),.agg (rw' y)]++aD) ([.agg (enc x).toArray,.agg (enc y).toArray]++cs.toList):=by
   refine aB.append (.cons (hagg x) (.cons (hagg y) .nil)) ⟨by simpa using l2,λi d v e1 e2=>?_⟩
   exact hrep (YI.1 hcn d (Yj e1)) (r2 i d v e1 (by simpa using e2))
  have:=callsIn_wide.1 (hct _ gm.I _ hI (hm.gr.later λb' hb'=>⟨hb',KQ enc k w b m dk os b' (hm.imm b' hb') (λe=>q8 (e▸hb'))⟩) hargs)
  have ea:([.agg (enc x).toArray,.agg (enc y).toArray]++cs.toList:List Value).toArray = #[.agg (enc x).toArray,.agg (enc y).toArray]++cs:=by apply Zo;simp
  rw[ea]at this;refine this.mono ?_;rintro e w' ⟨v,rfl,hb,hv⟩;refine⟨?_,ZjN hb⟩;rw[hv.v_inv]
 have key:=Go.Proofs.AnyQ.slices_SortFunc L k (by rw[hty];exact aE) (by rw[hty];exact zE) enc MJ hone cn hswo g cs b 0 c d w (λargs w=>vR (hcmp _ (hmem 0) _ (hmem 0)).1 args w) hcl hH hbw (by rw[hds];exact hmax)
 rw[hfS,hds]at key
 have ev:(Value.slice (some ⟨b,0*k,Option.none⟩) rows.length (c-0))=Value.slice (some ⟨b,0,Option.none⟩) rows.length c:=by simp
 rw[ev]
 refine callsIn_wide.2 (key.mono ?_)
 rintro e w' ⟨rfl,d',n',os,hperm,hsort,rfl⟩
 obtain⟨hsz,_,hpm⟩:=hperm
 rw[hds]at hsz
 have hex : ∀a:Array Nat,a.size=rows.length->a.extract 0 rows.length=a:=λa ha=>by rw[<-ha];exact Array.extract_size
 rw[hex d' hsz,hex d hds]at hpm
 have hlt' : ∀i,i<rows.length->d'[i]! < rows.length:=by
  intro i hi;have h1:d'[i]! ∈ d'.toList:=by
   rw[getElem!_pos d' i (by omega)]
   simp
  have:=hpm.mem_iff.1 h1
  simpa[d]using this
 let rows':List (List D):=d'.toList.map rw'
 have hrows:d.toList.map rw'=rows:=by
  apply List.ext_getElem?
  intro i
  by_cases hi:i<rows.length
  . simp[d,hi,rw',Ja i hi,List.getD]
  simp[d,hi]
 have hP:rows'.Perm rows:=by rw[<-hrows];exact hpm.map rw'
 have hS:Ou cf rows':=by
  unfold Ou;rw[ZH];intro i j hi hj hij;have hj':j<rows.length:=by simpa[rows',hsz]using hj
  have:=hsort i j (Yi _) hij hj';simp only[Go.Proofs.ltOf,cn,X4]at this;rw[getElem!_pos d' i (by omega),getElem!_pos d' j (by omega)]at this
  simpa[rows']using this
 have hl':rows'.length=rows.length:=by simp[rows',hsz]
 have hput:=hm.put (h':=upd h r (some ⟨ty,rows'⟩)) (w':=Go.Proofs.sortWorldK enc k w b 0 n' d' os) r b c ⟨ty,rows'⟩ (Go.Sort.putCells id 0 (Go.Sort.flatK enc k d') cur)
  (.inr (by simp only[hk];exact q1)) (bL _ _ _) (λr' hr'=>.inl (aJ _ _ _ _ hr')) (.inr ⟨r,c,_,q1,.inl rfl⟩) (ZbY enc k w b n' d' os q6) (by simp[Go.Sort.putCells,q7,hk]) (by simp only[hk];exact q2)
  (by simp only[hl'];exact q3) q4 (by
   intro i row hi;have hil:i<rows.length:=by rw[<-hl'];exact(X7.1 hi).1
   have e1:row=rows.getD (d'[i]!) []:=by
    simp only[rows',YU]at hi;rw[getElem!_pos d' i (by omega)]
    have:d'.toList[i]? = some d'[i]:=by simp
    rw[this]at hi;simp only[YX,Yf]at hi;rw[<-hi];simp only[rw'];rw[Ja _ (by have:=hlt' i hil;rwa [getElem!_pos d' i (by omega)]at this)]
   obtain⟨p1,p2⟩:=hrow _ (hlt' i hil);rw[<-e1]at p1 p2;simp only[hk];refine⟨p1,λj dd hd=>?_⟩
   have hjk:j<k:=by rw[<-p1];exact(X7.1 hd).1
   obtain⟨u1,u2,u3,u4⟩:=p2 j dd hd;have hbound:i*k+j<rows.length*k:=by
    have:=YY k (show i+1<=rows.length from hil)
    rw[Zh,Nat.one_mul]at this;omega
   have hcs:i*k+j<cur.size:=by rw[q7];exact YB hbound (YY k q3)
   refine⟨_,?_,u3,u4⟩;have hdiv:(i*k+j) / k=i:=by rw[ZE,Nat.mul_add_div q2,Nat.div_eq_of_lt hjk];rfl
   have hmod:(i*k+j) % k=j:=by rw[ZE,Z4,ZB hjk]
   simp only[Go.Sort.putCells,Array.getElem?_mapIdx,ZL hcs,YX];rw[X3 ⟨Yi _,by simp only[Go.Sort.size_flatK,hsz];omega⟩,Nat.sub_zero,Go.Sort.get_flatK _ _ _ _ (by rw[hsz];exact hbound),hdiv,hmod,hget _ _ (hlt' i hil) hjk]
   rfl)
  ⟨rfl,rfl,rfl,by rw[PW];omega,λi hi hne=>KQ enc k w b n' d' os i hi (λe=>hne (by rw[e]))⟩ (by unfold Go.Proofs.sortWorldK Go.Sort.putRowK Go.Sort.putRow Go.Sort.mapBlock Go.Sort.grow Go.Sort.ahead;exact ZP _ _)
 obtain⟨g',g1,g2,g3,g4,g5⟩:=hput
 exact⟨_,g',_,_,nf,⟨rfl,rfl,rows',hP,hS,rfl⟩,rfl,.mk_tuple (vs:=#[]) .nil,g4,g5,λr' hr'=>by
  rcases(g2 r').1 hr' with h|h
  . exact hU _ h
  subst h;exact hU _ hUr⟩
end Go.DL
namespace Go.Zon
open Go.DL Go.Str Go.Rec Go.Cmp
abbrev PS:=Nat×Sgd
def rowP(x:PS):List D:=[.v (.string (bs x.2.set.name)),.i x.2.set.ty,.i x.2.set.life,.mrow x.1 0 x.2.set.data.length,.list true []]
def lP(p:List PS):List Sgd:=p.map (·.2)
structure ZM(tz ts td:TypeId)(zc rs:Nat)(a:Str)(p:List PS)(h:H):Prop where
 z:h zc=some ⟨tz,[[.v (.string (bs a)),.mrow rs 0 p.length]]⟩
 r:h rs=some ⟨ts,p.map rowP⟩
 d : ∀x∈p,h x.1=some ⟨td,x.2.set.data.map Dat.d⟩
 zr:zc≠rs
 ne : ∀x∈p,x.1≠zc/\x.1≠rs
 nd:(p.map (·.1)).Nodup
 sig : ∀x∈p,x.2.sigs=[]
theorem mH(p:List PS):(lP p).length=p.length:=by simp[lP]
theorem CR{p:List PS}{i:Nat}(h:i<p.length):(lP p)[i]! = p[i]!.2:=by
 rw[getElem!_pos (lP p) i (by rw[mH];exact h),getElem!_pos p i h]
 simp[lP]
theorem snap_mrow(h:H)(k r off len:Nat):snap h (k+1) (.mrow r off len) = .list false ((aC (.mrow r off len) h).map λrow=>row.map (snap h k)):=rfl
theorem snap_agg(h:H)(k:Nat)(cs:List D):snap h (k+1) (.agg cs) = .agg (cs.map (snap h k)):=rfl
theorem snap_v(h:H)(k:Nat)(x:Value):snap h k (.v x) = .v x:=by cases k<;>rfl
theorem snap_list(h:H)(k:Nat)(f:Bool)(l:List (List D)):snap h k (.list f l) = .list f l:=by cases k<;>rfl
def zZ(td:TypeId)(h:H)(x:PS):Prop:=h x.1=some ⟨td,x.2.set.data.map Dat.d⟩/\x.2.sigs=[]
theorem P9(h:H)(k:Nat)(l:List Dat):(l.map Dat.d).map (λrow=>row.map (snap h k))=l.map Dat.d:=by
 rw[List.map_map]
 refine Zc λx _=>?_
 simp[Dat.d,snap_v]
def lH{td:TypeId}{h:H}{x:PS}(hx:zZ td h x)(k:Nat):((rowP x).map (snap h (k+1))).map wk=x.2.d /\ ∀c∈rowP x,dL h (k+2) c:=by
 obtain⟨h1,h2⟩:=hx
 have hr:aC (.mrow x.1 0 x.2.set.data.length) h=x.2.set.data.map Dat.d:=by simp only[aC,h1,X6];exact Ym (by simp)
 refine⟨?_,?_⟩
 . simp only[rowP,X8,Yz,snap_v,snap_mrow,snap_list,hr,P9];simp only[wk,tV,Sgd.d,h2,Yz,eB]
 intro c hc
 simp only[rowP,Yl,YZ,or_false]at hc
 rcases hc with rfl|rfl|rfl|rfl|rfl
 . rfl
 . rfl
 . rfl
 .
  refine⟨⟨by rw[h1];rfl,by rw[hr];simp⟩,?_⟩
  rw[hr];intro row hrow c hc;obtain⟨d,_,rfl⟩:=Yr.1 hrow;simp only[Dat.d,Yl,YZ,or_false]at hc
  rcases hc with rfl|rfl|rfl<;>cases k<;>rfl
 rfl
theorem P6{td:TypeId}{h:H}{p:List PS}(hp : ∀x∈p,zZ td h x)(k:Nat):eB ((p.map rowP).map (λrow=>row.map (snap h (k+1))))=(lP p).map Sgd.d:=by
 rw[Kj,List.map_map,List.map_map,lP,List.map_map]
 refine Zc λx hx=>?_
 have:=(lH (hp x hx) k).1
 simp only[Function.comp_apply,uT]
 exact this
def P5{td ts:TypeId}{h:H}{rs:Nat}{p:List PS}(hr:h rs=some ⟨ts,p.map rowP⟩)(hp : ∀x∈p,zZ td h x):wk (snap h 4 (.mrow rs 0 p.length)) = .list false ((lP p).map Sgd.d)/\dL h 4 (.mrow rs 0 p.length):=by
 have hrw:aC (.mrow rs 0 p.length) h=p.map rowP:=by simp only[aC,hr,X6];exact Ym (by simp)
 refine⟨?_,?_⟩
 . rw[snap_mrow,hrw];simp only[wk,P6 hp]
 refine⟨⟨by rw[hr];rfl,by rw[hrw];simp⟩,?_⟩
 rw[hrw]
 intro row hrow c hc
 obtain⟨x,hx,rfl⟩:=Yr.1 hrow
 exact(lH (hp x hx) 1).2 c hc
def P7{td:TypeId}{h:H}{x:PS}(hx:zZ td h x):wk (snap h 4 (.agg (rowP x))) = .agg x.2.d/\dL h 4 (.agg (rowP x)):=by
 refine⟨?_,(lH hx 1).2⟩
 have:=(lH hx 2).1
 rw[snap_agg]
 simp only[wk,uT]
 rw[this]
theorem ZM.data{tz ts td:TypeId}{zc rs:Nat}{a:Str}{p:List PS}{h:H}(m:ZM tz ts td zc rs a p h):∀x∈p,zZ td h x:=λx hx=>⟨m.d x hx,m.sig x hx⟩
theorem ZM.snap{tz ts td:TypeId}{zc rs:Nat}{a:Str}{p:List PS}{h:H}(m:ZM tz ts td zc rs a p h):wk (Go.DL.snap h 5 (.agg [.v (.string (bs a)),.mrow rs 0 p.length])) = .agg (Zon.d ⟨a,lP p⟩)/\dL h 5 (.agg [.v (.string (bs a)),.mrow rs 0 p.length]):=by
 obtain⟨h1,h2⟩:=P5 m.r m.data
 refine⟨?_,?_⟩
 . have e:Go.DL.snap h 5 (.agg [.v (.string (bs a)),.mrow rs 0 p.length]) = .agg [.v (.string (bs a)),Go.DL.snap h 4 (.mrow rs 0 p.length)]:=rfl;rw[e];simp only[wk,dZ,h1,Zon.d]
 intro c hc
 simp only[Yl,YZ,or_false]at hc
 rcases hc with rfl|rfl
 . rfl
 exact h2
def ZM.keep{tz ts td:TypeId}{zc rs:Nat}{a:Str}{p:List PS}{h h':H}(m:ZM tz ts td zc rs a p h)(hk : ∀q,(q=zc\/q=rs \/ ∃x∈p,q=x.1)->h' q=h q):ZM tz ts td zc rs a p h' :=
 ⟨(hk zc (.inl rfl)).trans m.z,(hk rs (.inr (.inl rfl))).trans m.r,λx hx=>(hk x.1 (.inr (.inr ⟨x,hx,rfl⟩))).trans (m.d x hx),m.zr,m.ne,m.nd,m.sig⟩
def ZM.lt{tz ts td:TypeId}{zc rs:Nat}{a:Str}{p:List PS}{h:H}(m:ZM tz ts td zc rs a p h){n:Nat}(hn : ∀r,n<=r->h r=none):zc<n/\rs<n /\ ∀x∈p,x.1<n:=by
 have key : ∀r b,h r=some b->r<n:=λr b e=>by
  rcases YE r n with k|k
  . exact k
  rw[hn r k]at e;cases e
 exact⟨key _ _ m.z,key _ _ m.r,λx hx=>key _ _ (m.d x hx)⟩
section
variable {α : Type} [Inhabited α]
def gJ(g:α->List D)(keep:α->Bool)(l:List α)(k:Nat):List (List D):=((l.take k).filter keep).map g++(l.map g).drop ((l.take k).filter keep).length
def jX(keep:α->Bool)(l:List α)(k:Nat):Nat:=((l.take k).filter keep).length
omit [Inhabited α]in
def Bb(keep:α->Bool)(l:List α)(k:Nat):jX keep l k<=k:=Yh (List.length_filter_le _ _) (by simp;omega)
omit [Inhabited α]in
theorem zA{g:α->List D}{keep:α->Bool}{l:List α}{k:Nat}(hk:k<=l.length):(gJ g keep l k).length=l.length:=by
 have:=Bb keep l k
 unfold jX at this
 simp[gJ];omega
def TT{g:α->List D}{keep:α->Bool}{l:List α}{k:Nat}(hk:k<l.length)(h:keep l[k]! = true):jX keep l (k+1)=jX keep l k+1/\(gJ g keep l k).set (jX keep l k) (g l[k]!)=gJ g keep l (k+1):=by
 have hle:=Bb keep l k
 have e:(l.take (k+1)).filter keep=(l.take k).filter keep++[l[k]!]:=by rw[qY! hk,List.filter_append,List.filter_cons,h];simp
 refine⟨by simp[jX,e],?_⟩
 unfold jX at hle ⊢
 unfold gJ
 rw[e]
 generalize (l.take k).filter keep=A at hle ⊢
 rw[List.set_append_right _ _ (by simp),Zk,Yp,YT,X0,Yw]
 congr 1
 have hd:(l.map g).drop A.length=g l[A.length]! :: (l.map g).drop (A.length+1):=by
  rw[getElem!_pos l A.length (by omega),YC (by simp;omega)]
  simp
 rw[hd]
 simp
def IR{g:α->List D}{keep:α->Bool}{l:List α}{k:Nat}(hk:k<l.length)(h:keep l[k]! = false):jX keep l (k+1)=jX keep l k/\gJ g keep l (k+1)=gJ g keep l k:=by
 have e:(l.take (k+1)).filter keep=(l.take k).filter keep:=by rw[qY! hk,List.filter_append,List.filter_cons,h];simp
 exact⟨by simp[jX,e],by simp[gJ,e]⟩
def TW{g:α->List D}{keep:α->Bool}{l:List α}{k:Nat}(hk:k<l.length):(gJ g keep l k).getD k []=g l[k]! := by
 have hle:=Bb keep l k
 unfold jX at hle
 unfold gJ
 generalize (l.take k).filter keep=A at hle ⊢
 rw[List.getD_eq_getElem?_getD,YL (by simp;omega),Y2,Zk]
 rw[show A.length+(k-A.length)=k from by omega]
 rw[getElem!_pos l k hk]
 simp[hk]
def TY{g:α->List D}{keep:α->Bool}{l:List α}{k:Nat}(hk:k<=l.length)(h : ∀i,i<k->keep l[i]! = true):jX keep l k=k/\gJ g keep l k=l.map g:=by
 have e:(l.take k).filter keep=l.take k:=Y1.2 λx hx=>by
  obtain⟨i,hi,rfl⟩:=kQ.1 hx;have hi':i<k:=by simp at hi;omega
  rw[show(l.take k)[i]! = l[i]! from by rw[getElem!_pos _ i hi,getElem!_pos l i (by omega),List.getElem_take]]
  exact h i hi'
 have hl:(l.take k).length=k:=by simp;omega
 refine⟨by simp only[jX,e];exact hl,?_⟩
 simp only[gJ,e,hl]
 rw[ZQ]
 exact Za _ _
omit [Inhabited α]in
def TV{g:α->List D}{keep:α->Bool}{l:List α}:(gJ g keep l l.length).take (jX keep l l.length)=(l.filter keep).map g/\jX keep l l.length=(l.filter keep).length:=by
 refine⟨?_,by simp[jX]⟩
 unfold gJ jX
 rw[Yt,List.take_append_of_le_length (by simp),Ym (by simp)]
end
def dR{α:Type}[Inhabited α](q:α->Bool)(l:List α)(k:Nat):Int:=if k<l.length then(if q l[k]! = true then(k:Int)else dR q l (k+1))else -1
termination_by l.length-k
theorem yn{α:Type}[Inhabited α](q:α->Bool)(l:List α)(k:Nat):dR q l k=if k<l.length then(if q l[k]! = true then(k:Int)else dR q l (k+1))else -1:=by rw[dR]
theorem FK{α:Type}[Inhabited α](q:α->Bool)(l:List α):∀n k,l.length-k<=n->(dR q l k = -1 /\ ∀i,k<=i->i<l.length->q l[i]! = false) \/ ∃j,dR q l k=(j:Nat)/\k<=j/\j<l.length/\q l[j]! = true /\ ∀i,k<=i->i<j->q l[i]! = false:=by
 intro n
 induction n with
 | zero=>intro k h;left;rw[yn,XV (by omega)];exact⟨rfl,λi h1 h2=>by omega⟩
 | succ n ih =>
  intro k h;rw[yn]
  by_cases hk:k<l.length
  .
   rw[X3 hk]
   by_cases hq:q l[k]! = true
   . rw[X3 hq];exact .inr ⟨k,rfl,XW _,hk,hq,λi h1 h2=>by omega⟩
   rw[XV hq];have hq':q l[k]! = false:=by simpa using hq
   rcases ih (k+1) om with⟨h1,h2⟩|⟨j,h1,h2,h3,h4,h5⟩
   .
    exact .inl ⟨h1,λi h3 h4=>by
     by_cases e:i=k
     . rw[e];exact hq'
     exact h2 i om h4⟩
   exact .inr ⟨j,h1,om,h3,h4,λi h6 h7=>by
    by_cases e:i=k
    . rw[e];exact hq'
    exact h5 i om h7⟩
  rw[XV hk];exact .inl ⟨rfl,λi h1 h2=>by omega⟩
end Go.Zon
namespace Go.Zon
open Go.DL Go.Str Go.Rec Go.Cmp
def EQ:D->Int
 | .eptr [.v (.int _ k)]=>k
 | _=>0
@[go_sem]theorem intp1_i{k:IntKind}{n:Int}:EQ (.eptr [.v (.int k n)])=n:=rfl
def Ap:D->RSet
 | .eptr l=>set1 (.agg l)
 | _=>default
@[go_sem]theorem ZkS{l:List D}:Ap (.eptr l)=set1 (.agg l):=rfl
def Gb:D->Chg
 | .eptr l=>yC (.agg l)
 | _=>default
@[go_sem]theorem Zmi{l:List D}:Gb (.eptr l)=yC (.agg l):=rfl
def F9:D->Int
 | .fn _ _ [d]=>EQ d
 | _=>0
@[go_sem]theorem Zmf{f:Fn}{x:List D}{d:D}:F9 (.fn f x [d])=EQ d:=rfl
def WI:D->RSet
 | .fn _ _ [d]=>Ap d
 | _=>default
def sV(s:Sgd):Bool:=decide (0<s.sigs.length)||decide (s.set.ty=8)
def dQ(n:Str)(s:Sgd):Bool:=decide (s.set.name=n)
def dU(l:List Dat)(x:Dat):Bool:=decide (x∈l)
theorem Nk{α:Type}[Inhabited α](q:α->Bool)(l:List α):decide (0<=dR q l 0) = !aA l.length (λi=>!q l[i]!) 0:=by
 rcases FK q l _ 0 (XW _)with⟨h1,h2⟩|⟨j,h1,h2,h3,h4,h5⟩
 .
  rw[h1];have:aA l.length (λi=>!q l[i]!) 0=true:=by
   rw[eu];intro i _ hi;show(!q l[i]!)=true;rw[h2 i (Yi _) hi];rfl
  rw[this];rfl
 rw[h1]
 have:aA l.length (λi=>!q l[i]!) 0=false:=by
  rw[Bool.eq_false_iff];intro h;rw[eu]at h;have:(!q l[j]!)=true:=h j (Yi _) h3;rw[h4]at this
  cases this
 rw[this];simp
theorem Zed(z:Zon):jE z = !decide (0<=dR sV z.sets 0):=by
 rw[Nk,Bool.not_not]
 rfl
theorem SQ(z:Zon)(n:Str):IE z n=decide (0<=dR (dQ n) z.sets 0):=by
 rw[Nk]
 unfold IE
 congr 2
 funext i
 show(!(z.sets[i]!.set.name==n))=(!decide (z.sets[i]!.set.name=n))
 rw[YK]
 simp
theorem FN{α:Type}[Inhabited α]{q:α->Bool}{l:List α}{k:Nat}(hk:k<l.length)(h:q l[k]! = true):dR q l k=k:=by rw[yn,X3 hk,X3 h]
theorem FO{α:Type}[Inhabited α]{q:α->Bool}{l:List α}{k:Nat}(hk:k<l.length)(h:q l[k]! = false):dR q l k=dR q l (k+1):=by
 rw[yn,X3 hk,XV (by rw[h];exact Bool.false_ne_true)]
theorem FP{α:Type}[Inhabited α]{q:α->Bool}{l:List α}{k:Nat}(hk : ¬k<l.length):dR q l k = -1:=by rw[yn,XV hk]
theorem Zg7(l:List Dat)(x:Dat):dU l x=decide (0<=dR (λy=>decide (x=y)) l 0):=by
 rw[Nk]
 unfold dU
 rw[YK,XX,Ya,Bool.eq_false_iff,Ne,eu]
 constructor
 .
  intro h k;obtain⟨i,hi,rfl⟩:=kQ.1 h;have:=k i (Yi _) hi
  simp at this
 intro h
 apply YV
 intro hx
 refine h λi _ hi=>?_
 have:x≠l[i]! := λe=>hx (kQ.2 ⟨i,hi,e.symm⟩)
 simpa using this
def qx(z:Zon)(n:Chg):Bool :=
 if n.kind=1\/n.kind=2 then decide (0<=dR (dQ n.set.name) z.sets 0)==decide (n.kind=1)else
 if n.kind=3 then di z.sets n.q else if n.kind=4 then !di z.sets n.q else di z.sets n.q&&decide (z.sets[bg z.sets n.q]!.set.data=n.set.data)
theorem ZhW(a b:RSet):decide (a=b)=(a.name==b.name&&a.ty==b.ty&&a.life==b.life&&decide (a.data=b.data)):=by
 cases a;cases b;rw[YK];simp[and_assoc]
def Nn{l:List Sgd}{q:ak}(h:di l q=true):bg l q<l.length:=by
 unfold di at h
 rw[XU,XX]at h
 exact h.1
def zF(td:TypeId)(h:H)(p:List PS):H:=p.foldl (λh x=>upd h x.1 (some ⟨td,x.2.set.data.map Dat.d⟩)) h
theorem ZgY{td:TypeId}{h:H}{p:List PS}{x:PS}:zF td h (p++[x])=upd (zF td h p) x.1 (some ⟨td,x.2.set.data.map Dat.d⟩):=by simp[zF]
theorem I8{td:TypeId}{q:Nat}:∀{p:List PS}{h:H},(∀x∈p,x.1≠q)->zF td h p q=h q
 | [],_,_=>rfl
 | x::p,h,hn=>by
  show zF td (upd h x.1 _) p q=_
  rw[I8 λy hy=>hn y (List.mem_cons_of_mem _ hy),aJ _ _ _ _ λe=>hn x List.mem_cons_self e.symm]
theorem Ux{td:TypeId}:∀{p:List PS}{h:H},(p.map (·.1)).Nodup -> ∀x∈p,zF td h p x.1=some ⟨td,x.2.set.data.map Dat.d⟩
 | [],_,_,_,hx=>by cases hx
 | y::p,h,hn,x,hx=>by
  show zF td (upd h y.1 _) p x.1=_
  rw[X8,List.nodup_cons]at hn
  rcases Yl.1 hx with rfl|hx
  . rw[I8 λz hz e=>hn.1 (Yr.2 ⟨z,hz,e⟩),bL]
  exact Ux hn.2 x hx
def Ze2{p:List PS}{x:PS}(h:(p.map (·.1)).Nodup)(hx : ∀y∈p,y.1≠x.1):((p++[x]).map (·.1)).Nodup:=by
 rw[YT,List.nodup_append]
 refine⟨h,by simp,λa ha b hb=>?_⟩
 obtain⟨y,hy,rfl⟩:=Yr.1 ha
 simp only[X8,Yz,Yn]at hb
 rw[hb]
 exact hx y hy
def Sgd.bare(s:Sgd):Sgd:=⟨s.set,[]⟩
theorem ZjX{l:List Sgd}{k:Nat}(h:k<l.length):(l.take (k+1)).map Sgd.bare=(l.take k).map Sgd.bare++[l[k]!.bare]:=by rw[qY! h,YT];rfl
def Zf0{p:List PS}{l:List Sgd}{k:Nat}(h:lP p=(l.take k).map Sgd.bare)(hk:k<=l.length):p.length=k:=by
 have:=congrArg List.length h
 simp[lP]at this
 omega
def Zdp{p:List PS}{k m:Nat}{z:List D}(hk:p.length=k)(hm:k<m):(p.map rowP++List.replicate (m-k) z).getD k []=z:=by
 subst hk
 rw[List.getD_eq_getElem?_getD,YL (by simp),Zk,Yp,List.getElem?_replicate,X3 (by omega)]
 rfl
def Zdk{p:List PS}{x:PS}{k m:Nat}{z:List D}(hk:p.length=k)(hm:k<m):(p.map rowP++List.replicate (m-k) z).set k (rowP x)=(p++[x]).map rowP++List.replicate (m-(k+1)) z:=by
 subst hk
 rw[List.set_append_right _ _ (by simp)]
 have e:m-p.length=(m-(p.length+1))+1:=by omega
 rw[e,List.replicate_succ]
 simp
theorem G7(h:H)(k:Nat)(l:List D):snap h k (.eptr l) = .eptr l:=by cases k<;>rfl
def Zge{α:Type}{g:α->List D}{keep:α->Bool}{l:List α}{k:Nat}{row:List D}(h:row∈gJ g keep l k):∃x∈l,row=g x:=by
 unfold gJ at h
 rcases Yv.1 h with h|h
 . obtain⟨x,hx,rfl⟩:=Yr.1 h;exact⟨x,List.mem_of_mem_take (Zp.1 hx).1,rfl⟩
 obtain⟨x,hx,rfl⟩:=Yr.1 (List.mem_of_mem_drop h)
 exact⟨x,hx,rfl⟩
def TU{α:Type}{g:α->List D}{keep:α->Bool}{l:List α}{k i m:Nat}(hg : ∀x,(g x).length=m)(hi:i<(gJ g keep l k).length):((gJ g keep l k).getD i []).length=m:=by
 have h:(gJ g keep l k).getD i []∈gJ g keep l k:=by
  rw[List.getD_eq_getElem?_getD,Yg hi];exact YH hi
 obtain⟨x,_,e⟩:=Zge h
 rw[e,hg]
def ZhD{α:Type}[Inhabited α]{q:α->Bool}{l:List α}(h : ¬dR q l 0 = -1):∃j:Nat,dR q l 0=(j:Int)/\j<l.length/\q l[j]! = true /\ ∀i,i<j->q l[i]! = false:=by
 rcases FK q l _ 0 (XW _)with⟨g1,_⟩|⟨j,g1,_,g3,g4,g5⟩
 . exact absurd g1 h
 exact⟨j,g1,g3,g4,λi hi=>g5 i (Yi _) hi⟩
def ZhF{α:Type}[Inhabited α]{q:α->Bool}{l:List α}(h:dR q l 0 = -1):l.filter (λx=>!q x)=l:=by
 rcases FK q l _ 0 (XW _)with⟨_,g2⟩|⟨j,g1,_,g3,g4,g5⟩
 .
  refine Y1.2 λx hx=>?_
  obtain⟨i,hi,rfl⟩:=kQ.1 hx;have:q l[i]! = false:=g2 i (Yi _) hi;rw[this];rfl
 rw[h]at g1;omega
def Zb4{td:TypeId}{h:H}{r:Nat}{l:List Dat}(hr:h r=some ⟨td,l.map Dat.d⟩):wk (snap h 2 (.mrow r 0 l.length)) = .list false (l.map Dat.d)/\dL h 2 (.mrow r 0 l.length):=by
 have hrw:aC (.mrow r 0 l.length) h=l.map Dat.d:=by simp only[aC,hr,X6];exact Ym (by simp)
 refine⟨?_,?_⟩
 . rw[snap_mrow,hrw];simp only[wk,P9,tV]
 refine⟨⟨by rw[hr];rfl,by rw[hrw];simp⟩,?_⟩
 rw[hrw]
 intro row hrow c hc
 obtain⟨d,_,rfl⟩:=Yr.1 hrow
 simp only[Dat.d,Yl,YZ,or_false]at hc
 rcases hc with rfl|rfl|rfl<;>rfl
def zP(a b:List Sgd):Bool:=decide (a.length=b.length)&&aA a.length (λi=>decide (a[i]!.set=b[i]!.set)) 0
def gQ(l:List Dat):Nat->List Dat
 | 0=>[]
 | k+1=>if k=0\/l[k]! ≠ l[k-1]! then gQ l k++[l[k]!]else gQ l k
def qK(l:List Dat):List Dat:=gQ l l.length
theorem BI{l:List Dat}{k:Nat}(h:k=0\/l[k]! ≠ l[k-1]!):gQ l (k+1)=gQ l k++[l[k]!]:=X3 h
theorem BJ{l:List Dat}{k:Nat}(h : ¬(k=0\/l[k]! ≠ l[k-1]!)):gQ l (k+1)=gQ l k:=XV h
theorem JM(l:List Dat):∀k,(gQ l k).length<=k
 | 0=>XW _
 | k+1=>by
  have:=JM l k
  by_cases h:k=0\/l[k]! ≠ l[k-1]!
  . rw[BI h,X0];simp;omega
  rw[BJ h];omega
theorem JL{l:List Dat}:∀k,k<=l.length->(∀i,0<i->i<k->l[i]! ≠ l[i-1]!)->gQ l k=l.take k
 | 0,_,_=>by simp[gQ]
 | k+1,hk,h=>by
  rw[BI,JL k (by omega) (λi h1 h2=>h i h1 (by omega)),qY! (by omega)]
  by_cases e:k=0
  . exact .inl e
  exact .inr (h k om om)
theorem ND{l:List Dat}(hs:l.Pairwise λa b=>dV a b<=0):∀k,k<=l.length->jR dV (gQ l k) /\ ∀x,x∈gQ l k↔x∈l.take k
 | 0,_=>⟨.nil,λx=>by simp[gQ]⟩
 | k+1,hk=>by
  obtain⟨h1,h2⟩:=ND hs k om;have hat : ∀i j,i<j->j<l.length->dV l[i]! l[j]! <= 0:=λi j hij hj=>by
   rw[getElem!_pos l i (by omega),getElem!_pos l j hj]
   exact ZH.1 hs i j om hj hij
  by_cases h:k=0\/l[k]! ≠ l[k-1]!
  .
   rw[BI h,qY! (by omega)]
   refine⟨Ze.2 ⟨h1,Z7 _ _,λx hx y hy=>?_⟩,λx=>by rw[Yv,Yv,h2]⟩
   rw[Yn]at hy;subst hy;obtain⟨i,hi,rfl⟩:=kQ.1 ((h2 x).1 hx);have hi':i<k:=by simp at hi;omega
   rw[show(l.take k)[i]! = l[i]! from by rw[getElem!_pos _ i hi,getElem!_pos l i (by omega),List.getElem_take]]
   have hne:=h.resolve_left (by omega)
   have hlt:dV l[k-1]! l[k]! < 0:=by
    have:=hat (k-1) k om om;have h3:dV l[k-1]! l[k]! ≠ 0:=λe=>hne (We e).symm
    omega
   by_cases e:i=k-1
   . rw[e];exact hlt
   exact tK.le_lt (hat i (k-1) om om) hlt
  rw[BJ h,qY! (by omega)]
  refine⟨h1,λx=>?_⟩
  rw[h2,Yv,Yn];refine⟨.inl,λh3=>h3.elim id λe=>?_⟩
  have e2:l[k]! = l[k-1]! := YV λq=>h (.inr q)
  have hk0:k≠0:=λq=>h (.inl q)
  rw[e,e2];refine kQ.2 ⟨k-1,by simp;omega,?_⟩
  rw[getElem!_pos _ (k-1) (by simp;omega),getElem!_pos l (k-1) (by omega),List.getElem_take]
def Ziw{l:List Dat}(hs:l.Pairwise λa b=>dV a b<=0):jR dV (qK l):=(ND hs _ (XW _)).1
theorem Zix{l:List Dat}(hs:l.Pairwise λa b=>dV a b<=0){x:Dat}:x∈qK l↔x∈l:=by
 have:=(ND hs _ (XW _)).2 x
 rwa [Yt]at this
def lC(l:List Dat)(k:Nat):List (List D):=(gQ l k).map Dat.d++(l.map Dat.d).drop (gQ l k).length
theorem NE{l:List Dat}{k:Nat}(hk:k<=l.length):(lC l k).length=l.length:=by
 have:=JM l k
 unfold lC;simp;omega
def NF{l:List Dat}{k i:Nat}(h1:(gQ l k).length<=i)(h2:i<l.length):(lC l k).getD i []=[.v (.string (bs l[i]!.t)),.i l[i]!.n,.i l[i]!.m]:=by
 unfold lC
 rw[List.getD_eq_getElem?_getD,YL (by simpa using h1),Y2,Zk,show(gQ l k).length+(i-(gQ l k).length)=i from by omega,YU,Yg h2,getElem!_pos l i h2]
 rfl
def Ziu{l:List Dat}{k:Nat}(h:k=0\/l[k]! ≠ l[k-1]!)(hk:k<l.length):(lC l k).set (gQ l k).length [.v (.string (bs l[k]!.t)),.i l[k]!.n,.i l[k]!.m]=lC l (k+1):=by
 have:=JM l k
 unfold lC
 rw[BI h,List.set_append_right _ _ (by simp),Zk,Yp,YC (by simp;omega),YO,X0,YT,Yw]
 rfl
theorem VJ{l:List Dat}{k:Nat}(h : ¬(k=0\/l[k]! ≠ l[k-1]!)):lC l (k+1)=lC l k:=by unfold lC;rw[BJ h]
theorem Zit(l:List Dat)(k:Nat):(lC l k).take (gQ l k).length=(gQ l k).map Dat.d:=by
 unfold lC
 rw[List.take_append_of_le_length (by simp),Ym (by simp)]
theorem Ziv{l:List Dat}{k:Nat}(hk:k<=l.length)(h : ∀i,0<i->i<k->l[i]! ≠ l[i-1]!):lC l k=l.map Dat.d:=by
 unfold lC
 rw[JL k hk h,YR,ZK hk,<-List.map_drop,<-YT,Za]
theorem JN{l:List Dat}(h : ∀i,0<i->i<l.length->l[i]! ≠ l[i-1]!):qK l=l:=by
 unfold qK
 rw[JL _ (XW _) h,Yt]
def ZM.shrink{tz ts td:TypeId}{zc rs:Nat}{a:Str}{p p':List PS}{h h':H}(m:ZM tz ts td zc rs a p h)(hs:p'.Sublist p)(hz:h' zc=some ⟨tz,[[.v (.string (bs a)),.mrow rs 0 p'.length]]⟩)(hr:h' rs=some ⟨ts,p'.map rowP⟩)(hd : ∀x∈p,h' x.1=h x.1):ZM tz ts td zc rs a p' h' :=
 ⟨hz,hr,λx hx=>(hd x (hs.subset hx)).trans (m.d x (hs.subset hx)),m.zr,λx hx=>m.ne x (hs.subset hx),(hs.map _).nodup m.nd,λx hx=>m.sig x (hs.subset hx)⟩
def j6(tz ts td:TypeId)(zc:Nat)(a:Str)(l:List Sgd)(h h':H)(n n':Nat):Prop :=
 ∃rs p,ZM tz ts td zc rs a p h'/\lP p=l/\(∀q b,h q=some b->b.ty≠ts->b.ty≠td->q≠zc->h' q=some b)/\n<=n'
theorem Zf3(p:List PS)(i:Nat):lP (p.eraseIdx i)=(lP p).eraseIdx i:=by simp[lP,List.eraseIdx_eq_take_drop_succ,ZQ,List.map_drop]
theorem Xr{p:List PS}:∀q∈p.map rowP,q.length=5:=λq hq=>by
 obtain⟨x,_,rfl⟩:=Yr.1 hq
 rfl
theorem Zfy{α β:Type}(f:α->β)(l:List α)(i:Nat):(l.map f).eraseIdx i=(l.eraseIdx i).map f:=by simp[List.eraseIdx_eq_take_drop_succ,ZQ,List.map_drop]
def PH{tz ts td:TypeId}{zc rs:Nat}{a:Str}{p p':List PS}{h:H}{n n':Nat}(hz:ZM tz ts td zc rs a p h)(hs:p'.Sublist p)(hn:n<=n'):j6 tz ts td zc a (lP p') h (upd (upd h rs (some ⟨ts,p'.map rowP⟩)) zc (some ⟨tz,[[.v (.string (bs a)),.mrow rs 0 p'.length]]⟩)) n n':=by
 refine⟨rs,p',hz.shrink hs (bL _ _ _) ?_ (λx hx=>?_),rfl,λq b h1 h2 h3 h4=>?_,hn⟩
 . rw[aJ _ _ _ _ (λe=>hz.zr e.symm),bL]
 . have:=hz.ne x hx;rw[aJ _ _ _ _ this.1,aJ _ _ _ _ this.2]
 have h5:q≠rs:=λe=>h2 (by rw[e,hz.r]at h1;cases h1;rfl)
 rw[aJ _ _ _ _ h4,aJ _ _ _ _ h5]
 exact h1
def ZM.fresh{tz ts td:TypeId}{zc rs:Nat}{a:Str}{p:List PS}{h:H}(m:ZM tz ts td zc rs a p h){q:Nat}{b:Option eU}(hq:h q=none):ZM tz ts td zc rs a p (upd h q b) :=
 m.keep λr hr=>aJ _ _ _ _ λe=>by
  subst e
  rcases hr with rfl|rfl|⟨x,hx,rfl⟩
  . rw[m.z]at hq;cases hq
  . rw[m.r]at hq;cases hq
  rw[m.d x hx]at hq;cases hq
def j6.of_fresh{tz ts td:TypeId}{zc:Nat}{a:Str}{l:List Sgd}{h h':H}{n n1 n':Nat}{q:Nat}{b:Option eU}{n2:Nat}(s:j6 tz ts td zc a l (upd h q b) h' n1 n')(hq:h q=none)(hn:n<=n1)(hn2:n'<=n2):j6 tz ts td zc a l h h' n n2:=by
 obtain⟨rs,p,h1,h2,h3,h4⟩:=s
 refine⟨rs,p,h1,h2,λr c hr k1 k2 k3=>h3 r c ?_ k1 k2 k3,Yh hn (Yh h4 hn2)⟩
 rw[aJ _ _ _ _ (λe=>by rw[e,hq]at hr;cases hr)]
 exact hr
def j6.same{tz ts td:TypeId}{zc rs:Nat}{a:Str}{p:List PS}{h:H}{n n':Nat}(m:ZM tz ts td zc rs a p h)(hn:n<=n'):j6 tz ts td zc a (lP p) h h n n':=⟨rs,p,m,rfl,λ_ _ h _ _ _=>h,hn⟩
def Aq(l:List Sgd)(t:RSet):List Sgd:=if di l ⟨t.name,t.ty⟩=true then l.eraseIdx (bg l ⟨t.name,t.ty⟩)else l
def j6.after{tz ts td:TypeId}{zc:Nat}{a:Str}{l:List Sgd}{h h1 h2:H}{n n1 n2 n3:Nat}(s:j6 tz ts td zc a l h1 h2 n1 n2)(k : ∀q b,h q=some b->b.ty≠ts->b.ty≠td->q≠zc->h1 q=some b)(hn:n<=n1)(hn2:n2<=n3):j6 tz ts td zc a l h h2 n n3:=by
 obtain⟨rs,p,h1,h2,h3,h4⟩:=s
 exact⟨rs,p,h1,h2,λr c hr k1 k2 k3=>h3 r c (k r c hr k1 k2 k3) k1 k2 k3,Yh hn (Yh h4 hn2)⟩
def Sgd.withD(s:Sgd)(d:List Dat):Sgd:=⟨{ s.set with data:=d },[]⟩
theorem QO{p:List PS}{i:Nat}{y:PS}:(p.map rowP).set i (rowP y)=(p.set i y).map rowP:=by rw[List.map_set]
def K8{p:List PS}{i:Nat}(hi:i<p.length):(p.map rowP).getD i []=rowP p[i]! := by simp[List.getD,hi,getElem!_pos]
def Zdo{p:List (List D)}{i:Nat}{y:List D}(hi:i<p.length):(p.set i y).getD i []=y:=by simp[List.getD,hi]
theorem SN{p:List PS}{i:Nat}{y:PS}(hi:i<p.length)(hy:y.1=p[i]!.1):(p.set i y).map (·.1)=p.map (·.1):=by
 rw[List.map_set,hy,getElem!_pos p i hi]
 have:p[i].1=(p.map (·.1))[i]'(by simpa using hi):=by simp
 rw[this,List.set_getElem_self]
def CL{p:List PS}{i:Nat}{y x:PS}(hx:x∈p.set i y):x=y\/x∈p:=(List.mem_or_eq_of_mem_set hx).symm
def Ze3{p:List PS}(h:(p.map (·.1)).Nodup){i:Nat}(hi:i<p.length){y:PS}(hy:y.1=p[i]!.1){x:PS}(hx:x∈p.set i y)(hne:x≠y):x∈p/\x.1≠p[i]!.1:=by
 have hn:((p.set i y).map (·.1)).Nodup:=by rw[SN hi hy];exact h
 refine⟨(CL hx).resolve_left hne,λe=>hne ?_⟩
 have hy2:y∈p.set i y:=List.mem_iff_getElem.2 ⟨i,by simpa using hi,by simp⟩
 obtain⟨j,hj,rfl⟩:=Zg hx
 obtain⟨k,hk,ek⟩:=Zg hy2
 have e2:((p.set i y).map (·.1))[j]'(by simpa using hj)=((p.set i y).map (·.1))[k]'(by simpa using hk):=by
  simp only[List.getElem_map];rw[ek,e,hy]
 have:=(List.getElem_inj hn).1 e2
 subst this
 exact ek
def ZM.setD{tz ts td:TypeId}{zc rs:Nat}{a:Str}{p:List PS}{h h':H}(m:ZM tz ts td zc rs a p h){i:Nat}(hi:i<p.length)(d:List Dat)(hz:h' zc=h zc)(hr:h' rs=some ⟨ts,(p.map rowP).set i (rowP (p[i]!.1,p[i]!.2.withD d))⟩)(hd:h' p[i]!.1=some ⟨td,d.map Dat.d⟩)(ho : ∀x∈p,x.1≠p[i]!.1->h' x.1=h x.1) :
  ZM tz ts td zc rs a (p.set i (p[i]!.1,p[i]!.2.withD d)) h':=by
 have hin:p[i]! ∈ p:=by rw[getElem!_pos p i hi];exact YH hi
 refine⟨by rw[hz,m.z,Z8],by rw[hr,QO],λx hx=>?_,m.zr,λx hx=>?_,by rw[SN (y:=(p[i]!.1,p[i]!.2.withD d)) hi rfl];exact m.nd,λx hx=>?_⟩
 .
  by_cases e:x=(p[i]!.1,p[i]!.2.withD d)
  . subst e;exact hd
  obtain⟨h1,h2⟩:=Ze3 (y:=(p[i]!.1,p[i]!.2.withD d)) m.nd hi rfl hx e;rw[ho x h1 h2];exact m.d x h1
 .
  rcases CL hx with e|hx
  . rw[e];exact m.ne p[i]! hin
  exact m.ne x hx
 rcases CL hx with rfl|hx
 . rfl
 exact m.sig x hx
def xz(l:List Sgd)(t:RSet):List Sgd :=
 if di l ⟨t.name,t.ty⟩=true then
  (if(l[bg l ⟨t.name,t.ty⟩]!.set.data.filter λx=>!dU t.data x).length=0 then l.eraseIdx (bg l ⟨t.name,t.ty⟩)
   else l.set (bg l ⟨t.name,t.ty⟩) (l[bg l ⟨t.name,t.ty⟩]!.withD (l[bg l ⟨t.name,t.ty⟩]!.set.data.filter λx=>!dU t.data x)))
 else l
theorem ZhS{α:Type}(l:List α)(i:Nat)(y:α):(l.set i y).eraseIdx i=l.eraseIdx i:=by
 rw[List.eraseIdx_eq_take_drop_succ,List.eraseIdx_eq_take_drop_succ,List.take_set_of_le (XW _),List.drop_set_of_lt (Nat.lt_succ_self _)]
theorem IP{p:List PS}{i:Nat}{y:PS}:lP (p.set i y)=(lP p).set i y.2:=by simp[lP,List.map_set]
theorem KE{l:List Sgd}{t:RSet}(hf:di l ⟨t.name,t.ty⟩=false):xz l t=l:=by unfold xz;rw[XV o4t]
theorem KF{p:List PS}{t:RSet}{ix:Nat}(hf:di (lP p) ⟨t.name,t.ty⟩=true)(hix:ix=bg (lP p) ⟨t.name,t.ty⟩)(hi:ix<p.length)(hn : ¬(p[ix]!.2.set.data.filter λx=>!dU t.data x).length=0) :
  lP (p.set ix (p[ix]!.1,p[ix]!.2.withD (p[ix]!.2.set.data.filter λx=>!dU t.data x)))=xz (lP p) t:=by
 unfold xz
 rw[X3 hf,<-hix,CR hi,XV hn,IP]
theorem KG{p:List PS}{t:RSet}{ix:Nat}(hf:di (lP p) ⟨t.name,t.ty⟩=true)(hix:ix=bg (lP p) ⟨t.name,t.ty⟩)(hi:ix<p.length)(hn:(p[ix]!.2.set.data.filter λx=>!dU t.data x).length=0)(y:PS) :
  (lP (p.set ix y)).eraseIdx ix=xz (lP p) t:=by
 unfold xz
 rw[X3 hf,<-hix,CR hi,X3 hn,IP,ZhS]
def Ke(o:List Dat)(t:RSet):List Dat:=if t.ty≠3/\t.ty≠4 then oG o t.data else t.data
def BR(l:List Sgd)(t:RSet):List Sgd :=
 if di l ⟨t.name,t.ty⟩=true then l.set (bg l ⟨t.name,t.ty⟩) ⟨{ t with data:=Ke l[bg l ⟨t.name,t.ty⟩]!.set.data t },[]⟩
 else l.take (bg l ⟨t.name,t.ty⟩)++⟨t,[]⟩::l.drop (bg l ⟨t.name,t.ty⟩)
theorem Zis{a b l:List Dat}(ha:jR dV a)(hb:jR dV b)(hp:l.Perm (b++a))(hs:Sorted dV l):qK l=oG a b:=by
 have hs':l.Pairwise λa b=>dV a b<=0:=hs
 obtain⟨h1,h2⟩:=Zfi _ a b (XW _) ha hb
 refine Ed tK (Ziw hs') h1 λx=>?_
 rw[Zix hs',h2,hp.mem_iff,Yv]
 exact Or.comm
theorem ZM.setP{tz ts td:TypeId}{zc rs:Nat}{a:Str}{p:List PS}{h h':H}(m:ZM tz ts td zc rs a p h){i:Nat}(hi:i<p.length){r:Nat}{s:RSet}(hz:h' zc=h zc)(hr:h' rs=some ⟨ts,(p.map rowP).set i (rowP (r,⟨s,[]⟩))⟩)(hd:h' r=some ⟨td,s.data.map Dat.d⟩)
  (hf : ∀x∈p,x.1≠r)(hrz:r≠zc/\r≠rs)(ho : ∀x∈p,h' x.1=h x.1):ZM tz ts td zc rs a (p.set i (r,⟨s,[]⟩)) h':=by
 refine⟨by rw[hz,m.z,Z8],by rw[hr,QO],λx hx=>?_,m.zr,λx hx=>?_,?_,λx hx=>?_⟩
 .
  rcases CL hx with rfl|hx
  . exact hd
  rw[ho x hx];exact m.d x hx
 .
  rcases CL hx with rfl|hx
  . exact hrz
  exact m.ne x hx
 .
  rw[List.map_set];have hn:r ∉ p.map (·.1):=λhc=>by
   obtain⟨x,hx,e⟩:=Yr.1 hc;exact hf x hx e
  exact nodup_set_new m.nd hn
 rcases CL hx with rfl|hx
 . rfl
 exact m.sig x hx
where
 nodup_set_new {l:List Nat} {i r:Nat} (h:l.Nodup) (hr:r ∉ l):(l.set i r).Nodup:=by
  induction l generalizing i with
  | nil=>simp
  | cons x l ih =>
   rw[List.nodup_cons]at h;have hr1:r≠x:=λe=>hr (by simp[e])
   have hr2:r ∉ l:=λe=>hr (by simp[e])
   cases i with
   | zero=>rw[YO,List.nodup_cons];exact⟨hr2,h.2⟩
   | succ i =>
    rw[YW,List.nodup_cons];refine⟨λhc=>?_,ih h.2 hr2⟩
    rcases List.mem_or_eq_of_mem_set hc with q|q
    . exact h.1 q
    exact hr1 q.symm
def Zf1{p:List PS}{i:Nat}{y:PS}:lP (p.take i++y::p.drop i)=(lP p).take i++y.2::(lP p).drop i:=by simp[lP,ZQ,List.map_drop]
theorem Zdn{p:List PS}{i:Nat}{y:PS}:(p.map rowP).take i++rowP y::(p.map rowP).drop i=(p.take i++y::p.drop i).map rowP:=by simp[ZQ,List.map_drop]
def L8{p:List PS}{i:Nat}{y x:PS}(h:x∈p.take i++y::p.drop i):x=y\/x∈p:=by
 rcases Yv.1 h with h|h
 . exact .inr (List.mem_of_mem_take h)
 rcases Yl.1 h with h|h
 . exact .inl h
 exact .inr (List.mem_of_mem_drop h)
def ZM.insP{tz ts td:TypeId}{zc rs rs':Nat}{a:Str}{p:List PS}{h h':H}(m:ZM tz ts td zc rs a p h){i:Nat}(hi:i<=p.length){r:Nat}{s:RSet}(hz:h' zc=some ⟨tz,[[.v (.string (bs a)),.mrow rs' 0 (p.length+1)]]⟩)(hr:h' rs'=some ⟨ts,(p.map rowP).take i++rowP (r,⟨s,[]⟩)::(p.map rowP).drop i⟩)(hd:h' r=some ⟨td,s.data.map Dat.d⟩)
  (hf : ∀x∈p,x.1≠r)(hrz:r≠zc/\r≠rs')(hzz:zc≠rs')(hne : ∀x∈p,x.1≠rs')(ho : ∀x∈p,h' x.1=h x.1):ZM tz ts td zc rs' a (p.take i++(r,⟨s,[]⟩)::p.drop i) h':=by
 refine⟨?_,by rw[hr,Zdn],λx hx=>?_,hzz,λx hx=>?_,?_,λx hx=>?_⟩
 .
  rw[hz];have:(p.take i++(r,(⟨s,[]⟩:Sgd))::p.drop i).length=p.length+1:=by simp;omega
  rw[this]
 .
  rcases L8 hx with rfl|hx
  . exact hd
  rw[ho x hx];exact m.d x hx
 .
  rcases L8 hx with rfl|hx
  . exact hrz
  exact⟨(m.ne x hx).1,hne x hx⟩
 .
  have hn:r ∉ p.map (·.1):=λhc=>by
   obtain⟨x,hx,e⟩:=Yr.1 hc;exact hf x hx e
  have e:(p.take i++(r,(⟨s,[]⟩:Sgd))::p.drop i).map (·.1)=(p.map (·.1)).take i++r::(p.map (·.1)).drop i:=by simp[ZQ,List.map_drop]
  rw[e];have hd2:((p.map (·.1)).take i++(p.map (·.1)).drop i).Nodup:=by rw[Za];exact m.nd
  rw[List.nodup_append]at hd2 ⊢;refine⟨hd2.1,List.nodup_cons.2 ⟨λhc=>hn (List.mem_of_mem_drop hc),hd2.2.1⟩,λx hx y hy=>?_⟩
  rcases Yl.1 hy with rfl|hy
  . exact λe=>hn (e▸List.mem_of_mem_take hx)
  exact hd2.2.2 x hx y hy
 rcases L8 hx with rfl|hx
 . rfl
 exact m.sig x hx
theorem Zkl{l:List Sgd}{t:RSet}(hf:di l ⟨t.name,t.ty⟩=false):BR l t=l.take (bg l ⟨t.name,t.ty⟩)++⟨t,[]⟩::l.drop (bg l ⟨t.name,t.ty⟩):=by unfold BR;rw[XV o4t]
theorem Xw{p:List PS}{t:RSet}{ix:Nat}(hf:di (lP p) ⟨t.name,t.ty⟩=true)(hix:ix=bg (lP p) ⟨t.name,t.ty⟩)(hi:ix<p.length){d:List Dat}(hd:d=Ke p[ix]!.2.set.data t)(r:Nat):lP (p.set ix (r,⟨{ t with data:=d },[]⟩))=BR (lP p) t:=by
 unfold BR
 rw[X3 hf,<-hix,CR hi,IP,hd]
def ZhJ{l:List Sgd}{q:ak}(ho:eX l)(hn : ∀s∈l,az s.set.name=true)(hq:az q.name=true) :
  bg l q<=l.length/\(∀k,k<bg l q->qp l[k]!.q q<0)/\(∀k,bg l q<=k->k<l.length -> ¬qp l[k]!.q q<0):=by
 have hc : ∀k,k<l.length->qC l[k]!.q q=qp l[k]!.q q:=λk hk=>Cw (hn _ (eO hk)) hq
 obtain⟨h1,h2⟩:=WV (λk=>qC l[k]!.q q) l.length (λi j hij hj h=>by
   rw[hc _ (by omega)]
   rw[hc _ hj]at h
   by_cases e:i=j
   . subst e;exact h
   exact JZ.lt_le (vY ho (by omega:i<j) hj) om) _ 0 l.length (XW _) (Yi _) (XW _) (λk hk=>by omega) (λk h1 h2=>by omega)
 have h1 : ∀k,k<bg l q->qC l[k]!.q q<0:=h1
 have h2 : ∀k,bg l q<=k->k<l.length -> ¬qC l[k]!.q q<0:=h2
 have hle:bg l q<=l.length:=(Oc _ _ 0 l.length (XW _) (Yi _)).1
 refine⟨hle,λk hk=>?_,λk hk hk2=>?_⟩
 . rw[<-hc k (by omega)];exact h1 k hk
 rw[<-hc k hk2];exact h2 k hk hk2
def JE{l:List Sgd}{q:ak}(hn : ∀s∈l,az s.set.name=true)(hq:az q.name=true)(h:di l q=true):bg l q<l.length/\l[bg l q]!.q=q:=by
 unfold di at h
 rw[XU,XX,YA]at h
 refine⟨h.1,?_⟩
 have:=h.2
 rw[Cw (hn _ (eO h.1)) hq,y7]at this
 exact this
theorem Np{l:List Sgd}{q:ak}(ho:eX l)(hn : ∀s∈l,az s.set.name=true)(hq:az q.name=true)(h:di l q=true):fu l q=some l[bg l q]! := by
 rw[FL ho hn hq,X3 h]
theorem Nq{l:List Sgd}{q:ak}(ho:eX l)(hn : ∀s∈l,az s.set.name=true)(hq:az q.name=true)(h:di l q=false):fu l q=none:=by
 rw[FL ho hn hq,XV (by rw[h];exact Bool.false_ne_true)]
def KY{l:List Sgd}(h:eX l){k:Nat}(hk:k<l.length){s:Sgd}(hq:l[k]!.q=s.q):l.set k s=jU l s:=by
 rw[Rx h hk hq,List.set_eq_take_append_cons_drop,X3 hk]
theorem Vp{l:List Sgd}(h:eX l){k:Nat}(hk:k<l.length){q:ak}(hq:l[k]!.q=q):l.eraseIdx k=zY l q:=by
 rw[VW h hk hq,List.eraseIdx_eq_take_drop_succ]
theorem Zct{z:Zon}(h:nS z){c:Chg}(hc:az c.set.name=true)(hk:c.kind=3):Aq z.sets c.set=kE z.sets c:=by
 unfold Aq kE
 rw[XV (show ¬c.kind=4 by omega),XV (show ¬c.kind=1 by omega),show c.q=⟨c.set.name,c.set.ty⟩from rfl]
 cases hf:di z.sets ⟨c.set.name,c.set.ty⟩with
 | false=>rw[XV (by simp),Nq h.ord h.nms hc hf]
 | true =>
  obtain⟨h1,h2⟩:=JE h.nms (q:=⟨c.set.name,c.set.ty⟩) hc hf;rw[X3 rfl,Np h.ord h.nms hc hf,Vp h.ord h1 h2];simp only;rw[XV (λk=>by omega)]
theorem Zbp{z:Zon}(h:nS z){c:Chg}(hc:az c.set.name=true)(hk:c.kind=2):xz z.sets c.set=kE z.sets c:=by
 unfold xz kE
 rw[XV (show ¬c.kind=4 by omega),XV (show ¬c.kind=1 by omega),show c.q=⟨c.set.name,c.set.ty⟩from rfl]
 cases hf:di z.sets ⟨c.set.name,c.set.ty⟩with
 | false=>rw[XV (by simp),Nq h.ord h.nms hc hf]
 | true =>
  obtain⟨h1,h2⟩:=JE h.nms (q:=⟨c.set.name,c.set.ty⟩) hc hf;rw[X3 rfl,Np h.ord h.nms hc hf];simp only;have e:(z.sets[bg z.sets ⟨c.set.name,c.set.ty⟩]!.set.data.filter λx=>!dU c.set.data x)=leftD z.sets[bg z.sets ⟨c.set.name,c.set.ty⟩]!.set.data c.set.data:=(ZfT _ _).symm
  rw[e]
  by_cases hd:leftD z.sets[bg z.sets ⟨c.set.name,c.set.ty⟩]!.set.data c.set.data=[]
  . rw[X3 (by rw[hd];rfl),XV (λk=>k.2 hd),Vp h.ord h1 h2]
  rw[XV (λk=>hd (Yb k)),X3 ⟨hk,hd⟩]
  exact KY h.ord h1 rfl
theorem Zkm{z:Zon}(h:nS z){c:Chg}(hc:az c.set.name=true)(hk:c.kind=1):BR z.sets c.set=kE z.sets c:=by
 unfold BR kE
 rw[XV (show ¬c.kind=4 by omega),X3 hk,show c.q=⟨c.set.name,c.set.ty⟩from rfl]
 cases hf:di z.sets ⟨c.set.name,c.set.ty⟩with
 | true =>
  obtain⟨h1,h2⟩:=JE h.nms (q:=⟨c.set.name,c.set.ty⟩) hc hf;rw[X3 rfl,Np h.ord h.nms hc hf];exact KY h.ord h1 h2
 | false =>
  have hn:=Nq h.ord h.nms (q:=⟨c.set.name,c.set.ty⟩) hc hf;rw[XV (by simp),hn]
  obtain⟨h1,h2,h3⟩:=ZhJ h.ord h.nms (q:=⟨c.set.name,c.set.ty⟩) hc;have e:(⟨{ c.set with data:=J4 none c },[]⟩:Sgd)=⟨c.set,[]⟩:=rfl
  rw[e]
  conv=>rhs;rw[<-Za (bg z.sets ⟨c.set.name,c.set.ty⟩) z.sets]
  refine(Rv (λx hx=>?_) (λx hx=>?_)).symm
  .
   obtain⟨k,hk,rfl⟩:=kQ.1 hx;have hk':k<bg z.sets ⟨c.set.name,c.set.ty⟩:=by simp at hk;omega
   rw[show(z.sets.take (bg z.sets ⟨c.set.name,c.set.ty⟩))[k]! = z.sets[k]! from by rw[getElem!_pos _ k hk,getElem!_pos z.sets k (by omega),List.getElem_take]]
   exact h2 k hk'
  obtain⟨k,hk,rfl⟩:=kQ.1 hx;have hk':bg z.sets ⟨c.set.name,c.set.ty⟩+k<z.sets.length:=by simp at hk;omega
  rw[show(z.sets.drop (bg z.sets ⟨c.set.name,c.set.ty⟩))[k]! = z.sets[bg z.sets ⟨c.set.name,c.set.ty⟩+k]! from by rw[getElem!_pos _ k hk,getElem!_pos z.sets _ hk',List.getElem_drop]]
  have h4:=h3 _ (ZP _ k) hk';have h5:qp z.sets[bg z.sets ⟨c.set.name,c.set.ty⟩+k]!.q ⟨c.set.name,c.set.ty⟩≠0:=λe=>by
   rw[y7]at e;exact CK.1 hn _ (eO hk') e
  show 0<qp _ _
  have h6:(⟨c.set,[]⟩:Sgd).q=⟨c.set.name,c.set.ty⟩:=rfl;rw[h6];omega
theorem Zfe{l:List Sgd}{c:Chg}(hk:c.kind=4):(l.filter λx=>!dQ c.set.name x)=kE l c:=by
 unfold kE
 rw[X3 hk]
 rfl
theorem Zf2{p:List PS}{q:Sgd->Bool}:lP (p.filter λx=>q x.2)=(lP p).filter q:=by simp[lP,List.filter_map,Function.comp_def]
def PI{y:Zon}{c:Chg}(hy:dO y)(hc:fZ c=true)(h:(c.kind=4/\c.set.name=y.apex)\/aI ⟨y.apex,kE y.sets c⟩=false):xA y c=none:=by
 unfold xA
 rw[Md hy.zo (BM hc),X3 h]
def Zbv{y:Zon}{c:Chg}(hy:dO y)(hc:fZ c=true)(h1 : ¬(c.kind=4/\c.set.name=y.apex))(h2:aI ⟨y.apex,kE y.sets c⟩=true):xA y c=some ⟨y.apex,kE y.sets c⟩:=by
 unfold xA
 rw[Md hy.zo (BM hc),XV (by rintro (k|k);exact h1 k;rw[h2]at k;cases k)]
def WL{c:Chg}(h:fZ c=true):c.kind=1\/c.kind=2\/c.kind=3\/c.kind=4:=by
 unfold fZ at h
 rw[XU]at h
 have:=h.2
 grind
theorem ZjY{z:Zon}(h:dO z):z.sets.map Sgd.bare=z.sets:=by
 conv=>rhs;rw[<-List.map_id z.sets]
 refine Zc λs hs=>?_
 have:=h.sig s hs
 cases s
 simp only at this
 subst this
 rfl
def Ck(f:D):Sgd->Bool:=match f with
 | .fn (.func k) _ [d]=>if k=101 then dQ (Gb d).set.name else dQ (Ap d).name
 | _=>sV
def semB_pl:Ck (.fn (.func 99) [] [])=sV:=rfl
def semB_ho{l:List D}:Ck (.fn (.func 101) [] [.eptr l])=dQ (Gb (.eptr l)).set.name:=rfl
attribute[go_sem]semB_pl semB_ho
end Go.Zon
namespace Go.DL
open Go.RowKit Go.ChangeShapes Go.WideShapes
variable {P : Program}
def Ow(Q:TypeId->List D->Prop):List Field->List D->Prop
 | [],ds=>ds=[]
 | f::fs,ds=>∃a b,ds=a++b/\Q f.type a/\Ow Q fs b
def Sh(P:Program)[Glob P]:Nat->TypeId->List D->Prop
 | 0,_,_=>False
 | k+1,t,ds=>match P.underlying t with
  | some .bool=>∃b,ds=[.v (.bool b)]
  | some (.int q)=>∃n,ds=[.v (.int q n)]/\(Lit.int q n).wf=true
  | some .string=>∃s,ds=[.v (.string s)]/\s.size<=maxLen
  | some (.slice e)=>∃rows,ds=[.list false rows] /\ ∀r∈rows,Sh P k e r
  | some (.struct fs)=>Ow (Sh P k) fs.toList ds
  | _=>False
def yR(P:Program)[Glob P]:Nat->TypeId->Bool
 | 0,_=>false
 | k+1,t=>match P.underlying t with
  | some .bool|some (.int _)|some .string=>true
  | some (.slice e)=>decide (0<P.cellsOf e)&&decide (e<P.types.size)&&yR P k e
  | some (.struct fs)=>fs.toList.all λf=>decide (f.type<P.types.size)&&yR P k f.type
  | _=>false
def xu(w:World)(g:Mem)(ds:List D)(cs:List Value):Prop:=aB w g ds cs /\ ∀v∈cs,v.oneCell'=true
theorem xu.nil{w:World}{g:Mem}:xu w g [] []:=⟨.nil,λv h=>by cases h⟩
def xu.one{w:World}{g:Mem}{d:D}{v:Value}(h:ag w g d v)(h1:v.oneCell'=true):xu w g [d] [v] :=
 ⟨.cons h .nil,λu hu=>by rw[Yn]at hu;subst hu;exact h1⟩
def xu.append{w:World}{g:Mem}{ds es:List D}{cs us:List Value}(h:xu w g ds cs)(k:xu w g es us):xu w g (ds++es) (cs++us) :=
 ⟨h.1.append k.1,λv hv=>(Yv.1 hv).elim (h.2 v) (k.2 v)⟩
def NZ{w:World}{a:Addr}{v:Value}(h:w.cell? a=some v):a.block<w.heap.size:=by
 unfold World.cell? at h
 split at h
 . rename_i c _ _ hb;exact(Yk.1 hb).1
 cases h
theorem Zjw{w:World}{base:Nat}{a:Addr}{n:Nat}{cs:List Value}(h:w.cells? base a n=some cs):cs.length=n /\ ∀j,j<n->w.cell? (a.add j)=cs[j]? := by
 unfold World.cells? at h
 split at h
 .
  have key : ∀(l:List Nat)(cs:List Value),l.mapM (λi=>w.cell? (a.add i))=some cs->cs.length=l.length /\ ∀(j i:Nat),l[j]? = some i->w.cell? (a.add i)=cs[j]? := by
   intro l
   induction l with
   | nil=>intro cs h;simp at h;subst h;exact⟨rfl,λj i h=>by simp at h⟩
   | cons i l ih =>
    intro cs h;rw[List.mapM_cons]at h
    cases hc:w.cell? (a.add i)with
    | none=>rw[hc]at h;simp at h
    | some v =>
     rw[hc]at h;simp only[Option.bind_eq_bind,Option.bind_some]at h
     cases hr:l.mapM (λi=>w.cell? (a.add i))with
     | none=>rw[hr]at h;simp at h
     | some r =>
      rw[hr]at h
      simp at h
      subst h;obtain⟨h1,h2⟩:=ih r hr;refine⟨by simp[h1],λj i' hj=>?_⟩
      cases j with
      | zero=>simp at hj;subst hj;simpa using hc
      | succ j=>simp at hj;simpa using h2 j i' hj
  obtain⟨h1,h2⟩:=key _ _ h;exact⟨by simpa using h1,λj hj=>h2 j j (by simp[hj])⟩
 cases h
theorem KA{α:Type}(l:List α)(m n:Nat):(l.drop m).take n++(l.drop (m+n))=l.drop m:=by
 rw[<-ZI];exact Za n (l.drop m)
theorem reads [Glob P]{H:Type}{enc:TypeId×Value->H}{w:World}{base:Nat}{spare:Nat->Bool}{held:Bool}(hl:laidOutB P=true) :
  ∀(k:Nat)(t:TypeId)(cs:List Value)(fuel:Nat)(x:DataW H×List MemPlace),t<P.types.size->yR P k t=true->DataW.trod enc P w base spare held fuel t cs=some x ->
   ∃ds,Sh P k t ds/\xu w (jI λb=>b<w.heap.size) ds cs:=by
 intro k
 induction k with
 | zero=>intro t cs fuel x _ h;cases h
 | succ k ih =>
  intro t cs fuel x htl hs hr;unfold yR at hs;unfold Sh
  split at hs
  .
   rename_i hu
   obtain⟨b,rfl,_⟩:=DataW.trod_bool hu hr;exact⟨_,⟨b,rfl⟩,.one (.v _) rfl⟩
  .
   rename_i q hu
   obtain⟨n,rfl,_,hw⟩:=DataW.trod_int hu hr;exact⟨_,⟨n,rfl,hw⟩,.one (.v _) rfl⟩
  .
   rename_i hu
   obtain⟨s,rfl,_,hw⟩:=DataW.trod_string hu hr;exact⟨_,⟨s,rfl,hw⟩,.one (.v _) rfl⟩
  .
   rename_i e hu
   simp only[XU,XX]at hs;obtain⟨⟨hpos,hel⟩,hs⟩:=hs
   rcases DataW.trod_slice hu hr with⟨rfl,_⟩|⟨a,len,cap,elems,rest,n,_,rfl,_,_,hlc,hcm,hlen,hrd,_,_⟩
   . exact⟨_,⟨[],rfl,λr h=>by cases h⟩,.one (.empty false none 0 (λh=>by cases h) (by simp[maxLen])) rfl⟩
   have hrow : ∀i,i<len -> ∃ds,Sh P k e ds/\ds.length=P.cellsOf e /\ ∀(j:Nat)d,ds[j]? = some d -> ∃v,w.cell? (a.add (i*P.cellsOf e+j))=some v/\v.oneCell'=true/\ag w (jI λb=>b<w.heap.size) d v:=by
    intro i hi;have h1:=hrd i hi;have h2:elems[i]? = some (elems[i]'(by omega)):=Yg _
    rw[h2]at h1;rw[Option.bind_eq_some_iff]at h1;obtain⟨cs',hc,ht⟩:=h1;obtain⟨hcl,hcg⟩:=Zjw hc;obtain⟨ds,hsh,⟨hrl,hrr⟩,ho⟩:=ih e cs' n _ hel hs ht;refine⟨ds,hsh,by rw[hrl,hcl],λj d hd=>?_⟩
    have hj:j<cs'.length:=by rw[<-hrl];exact(X7.1 hd).1
    have hcj:=hcg j (by omega)
    rw[add_add']at hcj;have hg:cs'[j]? = some (cs'[j]'hj):=Yg _;exact⟨cs'[j]'hj,by rw[hcj,hg],ho _ (YH _),hrr j d _ hd hg⟩
   have hch : ∃rows:List (List D),rows.length=len /\ ∀i r,rows[i]? = some r->Sh P k e r/\r.length=P.cellsOf e /\ ∀(j:Nat)d,r[j]? = some d -> ∃v,w.cell? (a.add (i*P.cellsOf e+j))=some v/\v.oneCell'=true/\ag w (jI λb=>b<w.heap.size) d v:=by
    refine⟨(List.range len).map λi=>if h:i<len then Classical.choose (hrow i h)else[],by simp,λi r hr=>?_⟩
    rw[YU]at hr
    by_cases hi:i<len
    . rw[List.getElem?_range hi]at hr;simp only[YX,Yf]at hr;rw[dif_pos hi]at hr;subst hr;exact ZN (hrow i hi)
    rw[Z0 (by simpa using hi)]at hr;cases hr
   obtain⟨rows,hrl,hrr⟩:=hch;refine⟨_,⟨rows,rfl,λr h=>by obtain⟨i,hi⟩:=Zw h;exact(hrr i r hi).1⟩,.one ?_ rfl⟩
   cases hz:len with
   | zero =>
    subst hz;have:rows=[]:=Yb hrl;subst this;exact .empty false _ _ (λh=>by cases h) hcm
   | succ m =>
    rw[<-hz,<-hrl];have hcv : ∀i j,∃u,∀row d,rows[i]? = some row->row[j]? = some d->w.cell? (a.add (i*P.cellsOf e+j))=some u/\u.oneCell'=true/\ag w (jI λb=>b<w.heap.size) d u:=by
     intro i j
     by_cases hh : ∃row d,rows[i]? = some row/\row[j]? = some d
     .
      obtain⟨row,d,q1,q2⟩:=hh;obtain⟨u,q3⟩:=(hrr i row q1).2.2 j d q2;refine⟨u,λrow' d' q1' q2'=>?_⟩
      rw[q1]at q1';cases q1'
      rw[q2]at q2';cases q2'
      exact q3
     exact⟨undef,λrow d q1 q2=>absurd ⟨row,d,q1,q2⟩ hh⟩
    have hcs : ∀i j row d,rows[i]? = some row->row[j]? = some d->w.cell? (a.add (i*P.cellsOf e+j))=some (Classical.choose (hcv i j))/\(Classical.choose (hcv i j)).oneCell'=true/\ag w (jI λb=>b<w.heap.size) d (Classical.choose (hcv i j)):=λi j row d h1 h2=>ZN (hcv i j) row d h1 h2
    refine .list false rows a cap (P.cellsOf e) (λi j=>Classical.choose (hcv i j)) ?_ om (λh=>by cases h) hcm (λr hr=>?_) (λi j r d h1 h2=>⟨(hcs i j r d h1 h2).1,(hcs i j r d h1 h2).2.1⟩) λi j r d h1 h2=>(hcs i j r d h1 h2).2.2
    .
     show a.block<w.heap.size
     have h0:rows[0]? = some (rows[0]'(by omega)):=Yg _
     obtain⟨_,q2,q3⟩:=hrr 0 _ h0;have h1:(rows[0]'(by omega))[0]? = some ((rows[0]'(by omega))[0]'(by omega)):=Yg _
     obtain⟨v,hv,_⟩:=q3 0 _ h1;have:=NZ hv;rwa [block_add]at this
    obtain⟨i,hi⟩:=Zw hr;exact(hrr i r hi).2.1
  .
   rename_i fs hu
   obtain⟨xs,n,_,_,hcl,hxl,hf⟩:=DataW.trod_struct hu hr;obtain⟨_,hsum,hoff⟩:=kid_struct hl htl hu;simp only[YI,XU,XX]at hs;have key : ∀(fl:List Field)(i off:Nat),fs.toList.drop i=fl->off=((fs.toList.take i).map λf=>P.cellsOf f.type).sum -> ∃ds,Ow (Sh P k) fl ds/\xu w (jI λb=>b<w.heap.size) ds (cs.drop off):=by
    intro fl
    induction fl with
    | nil =>
     intro i off hd ho;have hil:fs.toList.length<=i:=by
      have:=congrArg List.length hd;simp only[Yu,Zq]at this;omega
     have:off=cs.length:=by rw[hcl,hsum,ho,Ym hil]
     rw[this,ZJ];exact⟨[],rfl,.nil⟩
    | cons f fl ihf =>
     intro i off hd ho;have hil:i<fs.toList.length:=by
      have:=congrArg List.length hd;simp only[Yu,YS]at this;omega
     have hfi:fs.toList[i]? = some f:=by
      have:(fs.toList.drop i)[0]? = some f:=by rw[hd];rfl
      simpa using this
     have hofs:=hoff i f hfi;have hxi:xs[i]? = some (xs[i]'(by rw[hxl];simpa using hil)):=Yg _
     have hrd:=hf i f (by simpa using hfi)
     rw[hxi,hofs,<-ho]at hrd;have hmem:=Yj hfi;obtain⟨ds1,h1,h2⟩:=ih f.type _ n _ (hs f hmem).1 (hs f hmem).2 hrd;have htk:fs.toList.take (i+1)=fs.toList.take i++[f]:=by rw[Zj,hfi];rfl
     obtain⟨ds2,h3,h4⟩:=ihf (i+1) (off+P.cellsOf f.type) (by rw[<-ZI,hd];rfl) (by rw[htk,YT,List.sum_append,<-ho];simp)
     refine⟨ds1++ds2,⟨ds1,ds2,rfl,h1,h3⟩,?_⟩;rw[<-KA cs off (P.cellsOf f.type)];exact h2.append h4
   obtain⟨ds,h1,h2⟩:=key fs.toList 0 0 rfl (by simp)
   exact⟨ds,h1,by simpa using h2⟩
  cases hs
def shFuel:Nat:=12
def ShV(P:Program)[Glob P](t:TypeId)(x:D):Prop:=match P.underlying t with
 | some (.struct _)=>∃cs,x = .agg cs/\Sh P shFuel t cs
 | _=>Sh P shFuel t [x]
def ShArgs(P:Program)[Glob P]:List TypeId->List D->Prop
 | [],xs=>xs=[]
 | t::ts,xs=>∃x ys,xs=x::ys/\ShV P t x/\ShArgs P ts ys
theorem readV [Glob P]{H:Type}{enc:TypeId×Value->H}{w:World}{spare:Nat->Bool}{held:Bool}{b0:Nat}{t:TypeId}{v:Value}{d:DataW H}{ps:List MemPlace}(hl:laidOutB P=true)(htl:t<P.types.size)(hs:yR P shFuel t=true)(hv:Value.okWide P w .any b0 t v)(h:DataW.Trod enc P w 0 spare held t v d ps) :
  ∃x,ShV P t x/\ag w (jI λb=>b<w.heap.size) x v:=by
 obtain⟨fuel,h⟩:=h
 obtain⟨ds,h1,h2⟩:=reads hl shFuel t v.cells.toList fuel _ htl hs h
 have one:v.cells = #[v]->ShV P t (ds.headD .junk)/\ag w (jI λb=>b<w.heap.size) (ds.headD .junk) v\/(∃fs,P.underlying t=some (.struct fs)):=by
  intro hc;rw[hc]at h2;have hlen:ds.length=1:=h2.1.1
  match ds,hlen with
  | [x],_ =>
   by_cases hst : ∃fs,P.underlying t=some (.struct fs)
   . exact .inr hst
   refine .inl ⟨?_,h2.1.head⟩;unfold ShV
   split
   . rename_i fs hu;exact absurd ⟨fs,hu⟩ hst
   exact h1
 unfold shFuel yR at hs
 split at hs
 .
  rename_i hu
  obtain⟨b,rfl⟩:=okWide_bool hu hv
  rcases one rfl with h|⟨fs,h⟩
  . exact⟨_,h⟩
  rw[hu]at h;cases h
 .
  rename_i q hu
  obtain⟨n,rfl⟩:=okWide_int hu hv
  rcases one rfl with h|⟨fs,h⟩
  . exact⟨_,h⟩
  rw[hu]at h;cases h
 .
  rename_i hu
  obtain⟨s,rfl⟩:=okWide_string hu hv
  rcases one rfl with h|⟨fs,h⟩
  . exact⟨_,h⟩
  rw[hu]at h;cases h
 .
  rename_i e hu
  obtain⟨a,len,cap,rfl⟩:=okWide_slice hu hv
  rcases one rfl with h|⟨fs,h⟩
  . exact⟨_,h⟩
  rw[hu]at h;cases h
 .
  rename_i fs hu
  obtain⟨cs,rfl,_⟩:=okWide_struct hu hv;refine⟨.agg ds,?_,.mk_agg ?_⟩
  . unfold ShV;rw[hu];exact⟨ds,rfl,h1⟩
  have:(Value.agg cs).cells=cs:=rfl;rw[this]at h2;exact h2.1
 cases hs
theorem readAll [Glob P]{H:Type}{enc:TypeId×Value->H}{w:World}{spare:Nat->Bool}{held:Bool}{b0:Nat}(hl:laidOutB P=true):∀(ts:List TypeId)(vs:List Value)(ds:List (DataW H))(ps:List MemPlace),(∀t∈ts,t<P.types.size/\yR P shFuel t=true) ->
  (∀(j:Nat)t v,ts[j]? = some t->vs[j]? = some v->Value.okWide P w .any b0 t v)->DataW.TrodAll enc P w 0 spare held ts vs ds ps -> ∃xs,ShArgs P ts xs/\aB w (jI λb=>b<w.heap.size) xs vs
 | [],[],[],_,_,_,_=>⟨[],rfl,.nil⟩
 | t::ts,v::vs,d::ds,ps,ht,hv,⟨p,q,h1,h2,_⟩=>by
  obtain⟨x,hx1,hx2⟩:=readV hl (ht t (by simp)).1 (ht t (by simp)).2 (hv 0 t v rfl rfl) h1
  obtain⟨xs,hy1,hy2⟩:=readAll hl ts vs ds q (λt' h=>ht t' (by simp[h])) (λj t' v' e1 e2=>hv (j+1) t' v' (by simpa using e1) (by simpa using e2)) h2
  exact⟨x::xs,⟨x,xs,rfl,hx1,hy1⟩,.cons hx2 hy2⟩
theorem ZjM{W W':World}(hb:Gs W W')(may:MemPlace->Prop):W.keptBut W' may:=by
 refine⟨hb.os,hb.output,λi hi=>?_⟩
 rw[hb.block i hi]
 cases h:W.heap[i]? with
 | none=>trivial
 | some o =>
  cases o<;>first
   | exact⟨rfl,rfl,rfl,λ_ _=>rfl⟩
   | exact .inr ⟨rfl,rfl⟩
   | rfl
theorem Pq [Glob P]{H:Type}{enc:TypeId×Value->H}{W W':World}(hl:laidOutB P=true)(hb:Gs W W'):∀(ts:List TypeId)(vs:List Value)(ds:List (DataW H))(ps:List MemPlace),(∀t∈ts,P.readableRec t=true/\t<P.types.size) ->
  DataW.TrodAll enc P W 0 (λ_=>true) true ts vs ds ps->(∀x∈ps,x.block<W.heap.size) -> ∀sp:Nat->Bool,(∀x∈ps,sp x.block=true)->DataW.TrodAll enc P W' 0 sp true ts vs ds ps
 | [],[],[],_,_,h,_,_,_=>h
 | t::ts,v::vs,d::ds,ps,ht,⟨p,q,h1,h2,e⟩,hlt,sp,hsp=>by
  subst e;have hbe:Below W.heap.size W W':=⟨hb.os,hb.tape,hb.output,hb.size,hb.block⟩;exact⟨p,q,WideElems.Trod_stays hl (ht t (by simp)).1 (ht t (by simp)).2 h1 (λx hx=>hbe.same (hlt x (ZT _ hx))) (λx hx=>hsp x (ZT _ hx)),
   Pq hl hb ts vs ds q (λt' h=>ht t' (by simp[h])) h2 (λx hx=>hlt x (List.mem_append_right _ hx)) sp (λx hx=>hsp x (List.mem_append_right _ hx)),rfl⟩
theorem law_contract_g [Glob P]{H:Type}{enc:TypeId×Value->H}{f:FuncId}{fn:Func}{s:ChangeSpec}{tb:TypeId}{apart fresh handsOn again:Bool}(hl:laidOutB P=true)(hvars:s.vars=[])(hrt:fn.resultTypes = #[tb])(UH:P.underlying tb=some .bool)
  (I7:(fn.params.toList.all λt=>P.readableRec t&&decide (t<P.types.size)&&yR P shFuel t)=true)
  (hfn : ∀ds:List (DataW H),ds.length=fn.params.toList.length->s.fn H ds={ results:=[.lit (.bool true)],args:=ds })
  (hct : ∀xs:List D,ShArgs P fn.params.toList xs->PureCt P f xs (.b true)) :
  ∀(W:World)(base:Nat)(args:Array Value)(ds gs:List (DataW H))(before:List MemPlace),Gr P (λb=>b<W.heap.size) W->(∀(j:Nat)t v,fn.params[j]? = some t->args[j]? = some v->Value.okWide P W .any base t v) ->
   DataW.Whole enc P fn.params.toList s.vars apart W args.toList ds gs before ->
   Calls P f args W λe W'=>∃v,e = .returned v/\s.post enc P fn apart fresh handsOn again W args v W':=by
 intro W base args ds gs before hgr hval hW
 simp only[YI,XU,XX]at I7
 have hW':=hW
 obtain⟨p,q,hA,hV,hpq,hfz,hnd⟩:=hW
 rw[hvars]at hV
 obtain⟨rfl,rfl⟩:gs=[]/\q=[]:=by
  cases gs with
  | nil=>exact⟨rfl,hV⟩
  | cons g gs=>exact False.elim hV
 rw[Yx]at hpq
 obtain⟨xs,hx1,hx2⟩:=readAll hl _ _ _ _ (λt ht=>⟨(I7 t ht).1.2,(I7 t ht).2⟩) (λj t v h1 h2=>hval j t v (by simpa using h1) (by simpa using h2)) hA
 obtain⟨_,_,hct⟩:=hct xs hx1
 have hlen : ∀{ts:List TypeId}{vs:List Value}{ds:List (DataW H)}{ps:List MemPlace},DataW.TrodAll enc P W 0 (λ_=>true) true ts vs ds ps->ds.length=ts.length:=by
  intro ts
  induction ts with
  | nil=>intro vs ds ps h;cases vs<;>cases ds<;>first|rfl|exact False.elim h
  | cons t ts ih =>
   intro vs ds ps h
   cases vs<;>cases ds<;>first|exact False.elim h|skip
   obtain⟨_,_,_,h2,_⟩:=h
   simp[ih h2]
 have hres:=hfn ds (hlen hA)
 have:=callsIn_wide.1 (hct W (λb=>b<W.heap.size) _ (λb h=>h) hgr hx2)
 have ea:args.toList.toArray=args:=by simp
 rw[ea]at this
 refine this.mono ?_
 rintro e W' ⟨v,rfl,hb,hv⟩
 rw[hv.v_inv]
 refine⟨_,rfl,?_⟩
 have hlt : ∀x∈before,x.block<W.heap.size:=λx hx=>hW'.lt x hx
 have hsp : ∀sp:Nat->Bool,(∀x∈before,sp x.block=true)->DataW.TrodAll enc P W' 0 sp true fn.params.toList args.toList ds before:=by
  intro sp h;rw[hpq]at h hlt ⊢;exact Pq hl hb _ _ _ _ (λt ht=>(I7 t ht).1) hA hlt sp h
 have hfn':s.fn H (ds++[])={ results:=[.lit (.bool true)],args:=ds }:=by rw[Yx];exact hres
 have hrs : ∀(b:Nat)(sp:Nat->Bool)(hd:Bool),DataW.TrodAll enc P W' b sp hd fn.resultTypes.toList ((Value.bool true).resultList fn.resultTypes.size) [.lit (.bool true)] []:=by
  intro b sp hd;rw[hrt];exact trodAll_cons_mk (shut_bool UH _) trodAll_mk0
 have hold : ∀x∈before,(λb=>decide (b<W.heap.size)) x.block=true:=λx hx=>by simpa using hlt x hx
 have hvs : ∀sp:Nat->Bool,DataW.TrodVars enc P W' sp s.vars [] []:=λsp=>by rw[hvars];exact rfl
 have hfz' : ∀x∈before,∀b off,x=MemPlace.cell b off->W'.frozen? ⟨b,off,none⟩=false:=by
  intro x hx b off e;subst e;have hbl:b<W.heap.size:=hlt _ hx;have e2:W'.frozen? ⟨b,off,none⟩=W.frozen? ⟨b,off,none⟩:=World.frozen?_of_block (hb.block b hbl);rw[e2];exact hfz b off hx
 unfold ChangeSpec.post
 refine⟨ds,[],before,[],before,[],hW',?_,?_,?_,World.keptBut_mono (λx hx=>⟨hx,.inr (.inl hx)⟩) (ZjM hb (· ∈ before)),λ_=>⟨?_,?_⟩⟩
 . rw[hfn'];exact hrs _ _ _
 . rw[hfn'];exact hsp _ hold
 . rw[hfn'];exact hvs _
 . exact ok_one hrt rfl (okWide_bool_mk UH _)
 refine⟨_,[],([]++before)++[],⟨[]++before,[],trodAll_append (hsp _ λ_ _=>rfl) (hrs _ _ _),hvs _,rfl,?_,?_⟩,?_⟩
 . intro b off hx;exact hfz' _ (by simpa using hx) b off rfl
 .
  intro ha
  simpa using hnd ha
 intro x hx _
 simpa using hx
def litV:Lit->Value
 | .bool b=>.bool b
 | .int k n=>.int k n
 | .string s=>.string ⟨s.toArray⟩
 | _=>undef
def zu{H:Type}:Nat->DataW H->List Value
 | 0,_=>[]
 | k+1,d=>match d with
  | .lit l=>[litV l]
  | .agg ds=>ds.flatMap (zu k)
  | _=>[]
def EK(P:Program):Nat->TypeId->Bool
 | 0,_=>false
 | k+1,t=>match P.underlying t with
  | some .bool|some (.int _)|some .string=>true
  | some (.array _ e)=>decide (e<P.types.size)&&EK P k e
  | some (.struct fs)=>fs.toList.all λf=>decide (f.type<P.types.size)&&EK P k f.type
  | _=>false
theorem lits{H:Type}{enc:TypeId×Value->H}{w:World}{base:Nat}{spare:Nat->Bool}{held:Bool}(hl:laidOutB P=true) :
  ∀(k:Nat)(t:TypeId)(cs:List Value)(fuel:Nat)(x:DataW H×List MemPlace),t<P.types.size->EK P k t=true->DataW.trod enc P w base spare held fuel t cs=some x->cs=zu k x.1:=by
 intro k
 induction k with
 | zero=>intro t cs fuel x _ h;cases h
 | succ k ih =>
  intro t cs fuel x htl hs hr;unfold EK at hs
  split at hs
  .
   rename_i hu
   obtain⟨b,rfl,rfl⟩:=DataW.trod_bool hu hr;rfl
  .
   rename_i q hu
   obtain⟨n,rfl,rfl,_⟩:=DataW.trod_int hu hr;rfl
  .
   rename_i hu
   obtain⟨s,rfl,rfl,_⟩:=DataW.trod_string hu hr
   show[Value.string s]=[Value.string ⟨s.data.toList.toArray⟩]
   simp
  .
   rename_i n e hu
   simp only[XU,XX]at hs;obtain⟨xs,m,_,rfl,hcl,hxl,hel⟩:=DataW.trod_array hu hr;obtain⟨_,hcn⟩:=kid_array hl htl hu;have key : ∀(j i:Nat),i+j=n->cs.drop (i*P.cellsOf e)=((xs.drop i).map (·.1)).flatMap (zu k):=by
    intro j
    induction j with
    | zero =>
     intro i hi;have hi':i=n:=by omega
     subst hi';rw[<-hcn,<-hcl,ZJ,<-hxl,ZJ];rfl
    | succ j ihj =>
     intro i hi;have hlt:i<xs.length:=by omega
     have h1:=hel i (by omega)
     rw[Yg hlt]at h1;have h2:=ih e _ m _ hs.1 hs.2 h1;have h3:=ihj (i+1) (by omega)
     have e1:(i+1)*P.cellsOf e=i*P.cellsOf e+P.cellsOf e:=by rw[Nat.succ_mul]
     rw[e1]at h3;rw[YC hlt,X8,ZU,<-h3,<-h2];exact(KA cs _ _).symm
   have:=key n 0 om
   simpa[zu]using this
  .
   rename_i fs hu
   obtain⟨xs,n,_,rfl,hcl,hxl,hf⟩:=DataW.trod_struct hu hr;obtain⟨_,hsum,hoff⟩:=kid_struct hl htl hu;simp only[YI,XU,XX]at hs;have hxl':xs.length=fs.toList.length:=by simpa using hxl
   have key : ∀(j i:Nat),i+j=fs.toList.length->cs.drop ((fs.toList.take i).map λf=>P.cellsOf f.type).sum=((xs.drop i).map (·.1)).flatMap (zu k):=by
    intro j
    induction j with
    | zero =>
     intro i hi;have hi':i=fs.toList.length:=by omega
     subst hi';rw[Yt,<-hsum,<-hcl,ZJ,<-hxl',ZJ];rfl
    | succ j ihj =>
     intro i hi;have hlt:i<fs.toList.length:=by omega
     have Uz:i<xs.length:=by omega
     have hfi:fs.toList[i]? = some fs.toList[i]:=Yg hlt;have h1:=hf i fs.toList[i] (by simp)
     rw[hoff i _ hfi,Yg Uz]at h1;have hm:=hs _ (YH hlt);have h2:=ih _ _ n _ hm.1 hm.2 h1;have h3:=ihj (i+1) (by omega)
     have htk:fs.toList.take (i+1)=fs.toList.take i++[fs.toList[i]]:=by rw[Zj,hfi];rfl
     rw[htk,YT,List.sum_append]at h3;simp only[X8,Yz,List.sum_cons,List.sum_nil,Zv]at h3;rw[YC Uz,X8,ZU,<-h3,<-h2];exact(KA cs _ _).symm
   have:=key fs.toList.length 0 om
   simpa[zu]using this
  cases hs
end Go.DL
namespace Go.Proofs.YtidphdaoejibcaaGreatDoor
open Go.Proofs.Tryz
open Go.DL Go.RowKit Go.ChangeShapes
def jlaid : List (String × DataW Unit) := [("bytes.ErrTooLarge", Rows.laid_bytes_ErrTooLarge), ("nameplan/record.rules", Rows.laid_nameplan_record_rules), ("nameplan/journal.errBroken", Rows.laid_nameplan_journal_errBroken)]
theorem Ud : ("*errors.errorString" : String) = "*" ++ "errors.errorString" := by decide
def jrow (u : TypeId) (h : prog.typeName? 3 u = some "*errors.errorString") : u = 339 :=
 typeName_ptr_named (nm := "errors.errorString") (by rw [<- Ud]; kernel_rfl) (by kernel_rfl) (by decide) u (by rw [<- Ud]; exact h)
def ZfY{P:Program}{nm:String}{d:DataW Unit}{r:List (String×DataW Unit)}{W:World}{g:Nat}{t:TypeId}{k:Nat}{cells:List Value}(hl:laidOutB P=true)(h:laidMet P ((nm,d)::r) W)
  (hg:P.globalNamed nm=some g)(ht:(P.globals[g]?).map (·.type)=some t)(htl:t<P.types.size)(hb:EK P k t=true)(hc:zu k d=cells)(j:Nat)(v:Value)(hv':cells[j]? = some v):W.cell? ⟨g,j,none⟩=some v:=by
 obtain⟨ps,⟨g0,t0,cs,fuel,p,q,hg0,ht0,hv,hd,_,_⟩,_,_⟩:=h
 obtain rfl:=Zu (hg.symm.trans hg0)
 obtain rfl:=Zu (ht.symm.trans ht0)
 have hcs:=lits hl k t _ _ _ htl hb hd
 rw[show zu k (d,p).1=cells from hc]at hcs
 rw[World.var?_cell hg0 hv j]
 obtain⟨l⟩:=cs
 simp only at hcs
 subst hcs
 simp[hv']
set_option maxRecDepth 100000 in
theorem told_cells{W:World}(h:laidMetH prog jlaid W):∃a:Addr,∀x cs,toldF a x=some cs->x<W.heap.size /\ ∀(j:Nat)v,cs[j]? = some v->W.cell? ⟨x,j,none⟩=some v:=by
 unfold jlaid at h
 rw[MakeChecks.laidMetH_plain _ _ _ (by kernel_rfl)]at h
 have h2:=h.tail
 have h3:=h2.tail
 obtain ⟨a, s, hv, _, _, _⟩ := laid_sentinel (g := 0) (n := "nameplan/journal.errBroken") (nm := "*errors.errorString") h3 (by kernel_rfl) (by kernel_rfl) underlying136 jrow underlying339 underlying362 rfl rfl underlying9 (by kernel_rfl) (by kernel_rfl)
 have hr:=ZfY (g:=1) (t:=256) (k:=3) (cells:=Hq) (by kernel_rfl) h2 (by kernel_rfl) (by kernel_rfl) (YM (by kernel_rfl)) (by kernel_rfl) (by kernel_rfl)
 have he:W.cell? ⟨0,0,none⟩=some (jZ a):=by
  rw[World.var?_cell (by kernel_rfl) hv 0]
  rfl
 refine⟨a,λx cs hx=>?_⟩
 unfold toldF at hx
 split at hx
 .
  rename_i e
  subst e
  cases hx
  exact⟨NZ (hr 0 _ rfl),hr⟩
 split at hx
 .
  rename_i e
  subst e
  cases hx
  refine⟨NZ he,λj v hj=>?_⟩
  match j,hj with
  | 0,hj=>cases hj;exact he
  | j+1,hj=>simp at hj
 cases hx
open Go.Str Go.Rec Go.Zon Go.Jn
def Tp:aR where
 pure:=λ_=>true
 pf:=λk xs=>match k,xs with
  | 273,[x0,x1]=>.i (fT (aF x0) (bE x1))
  | 252,[x0,x1]=>.i (fT (aF x0) (bE x1))
  | 222,[x0]=>.b (iC (aF x0))
  | 179,[x0]=>.b (iC (aF x0))
  | 178,[x0]=>.list false ((jD (aF x0)).map sR)
  | 108,[x0]=>.b (az (aF x0))
  | 157,[x0]=>.b (az (aF x0))
  | 117,[x0]=>.b (az (aF x0))
  | 180,[x0]=>.list false ((bC (aF x0)).map sR)
  | 254,[x0,x1]=>.i (Go.Lib.compareBytes (aF x0) (aF x1))
  | 225,[x0,x1]=>.i (Go.Lib.compareBytes (aF x0) (aF x1))
  | 188,[x0,x1]=>.i (fQ (aF x0) (aF x1))
  | 186,[x0,x1]=>.tuple [.i (if az (aF x0)&&az (aF x1)then kP (aF x0) (aF x1)else 0),.i (if az (aF x0)&&az (aF x1)then 0 else 11)]
  | 161,[x0,x1]=>.tuple [.i (if az (aF x0)&&az (aF x1)then kP (aF x0) (aF x1)else 0),.i (if az (aF x0)&&az (aF x1)then 0 else 11)]
  | 190,[x0,x1,x2]=>.b (aV (bE x0) (bE x1) (bE x2))
  | 265,[x0,x1,x2]=>.b (aV (bE x0) (bE x1) (bE x2))
  | 181,[x0,x1,x2]=>.b (aV (bE x0) (bE x1) (bE x2))
  | 226,[x0]=>.b ((bE x0) != (bE x0))
  | 264,[x0]=>.b ((aF x0) != (aF x0))
  | 162,[x0,x1]=>.i (cmpI (bE x0) (bE x1))
  | 231,[x0,x1]=>.i (uJ (aF x0) (aF x1))
  | 189,[x0,x1]=>.b (yh (aF x0) (aF x1))
  | 118,[x0,x1]=>.b (yh (aF x0) (aF x1))
  | 191,[x0]=>.b (jC (aF x0))
  | 183,[x0]=>.b (jC (aF x0))
  | 236,[x0]=>.b (vM (aF x0))
  | 234,[x0]=>.b (vM (aF x0))
  | 185,[x0,x1]=>.b (less (j4 x0) (j4 x1))
  | 192,[x0,x1]=>.b (jQ (K7 x0) (j4 x1))
  | 184,[x0,x1]=>.b (nZ (bE x0) (j4 x1))
  | 230,[x0]=>.i (uZ (CX x0) 0)
  | 193,[x0,x1]=>.i (dV (j4 x0) (j4 x1))
  | 119,[x0]=>.b (fq (set1 x0))
  | 110,[x0]=>.b (fq (set1 x0))
  | 182,[x0]=>.b (Am (bE x0))
  | 112,[x0,x1]=>.i (lK (set1 x0) (set1 x1))
  | 149,[x0,x1]=>.b (uV (set1 x0) (set1 x1))
  | 127,[x0]=>.tuple [.list false ((xn (set1 x0)).1.map bD),.i (xn (set1 x0)).2]
  | 238,[x0]=>.tuple [.agg (iP (gL x0)).1.d,.i (iP (gL x0)).2]
  | 223,[x0,x1]=>.b (wT (aF x0) (aF x1))
  | 158,[x0,x1]=>.b (wT (aF x0) (aF x1))
  | 100,[x0,x1]=>.tuple [.b (kr (aF x0) (aF x1)),.i (if az (aF x0)&&az (aF x1)then 0 else 11)]
  | 111,[x0,x1]=>.b (ik (aF x0) (aF x1))
  | 109,[x0]=>.b (yM (aF x0))
  | 120,[x0,x1,x2,x3]=>.i (qC ⟨(aF x0),(bE x1)⟩ ⟨(aF x2),(bE x3)⟩)
  | 145,[x0,x1]=>.i (qC (lL x0) (lL x1))
  | 121,[x0,x1]=>.b (fits (bE x0) (yE x1))
  | 113,[x0,x1]=>.b (fits (bE x0) (yE x1))
  | 122,[x0,x1]=>.b (mg (sI x0) (aF x1))
  | 116,[x0,x1]=>.b (mg (sI x0) (aF x1))
  | 88,[x0,x1]=>.b (lg (dz x0) (dz x1))
  | 42,[x0,x1]=>.b (sM (fe x0) (fe x1))
  | 13,[x0,x1]=>.b (mh (aO x0) (aO x1))
  | 129,[x0,x1]=>.i (qC (dz x0).q (lL x1))
  | 128,[x0,x1,.fn (.func 129) [] []]=>.tuple [.i (bg (fe x0) (lL x1)),.b (di (fe x0) (lL x1))]
  | 74,[x0,x1]=>.tuple [.i (bg (aO x0).sets (lL x1)),.b (di (aO x0).sets (lL x1))]
  | 59,[x0]=>.b (ordered (aO x0))
  | 60,[x0]=>.b (vS (aO x0))
  | 62,[x0]=>.b (uP (xQ x0))
  | 63,[x0]=>.b (qP (xQ x0))
  | 64,[x0]=>.b (zK (xQ x0))
  | 65,[x0]=>.b (zN (xQ x0))
  | 61,[x0]=>.agg (kU (aO x0)).d
  | 23,[x0]=>.b (aI (aO x0))
  | 26,[x0]=>.tuple [.i (if aI (aO x0)then aL (aO x0)else 0),.i (if aI (aO x0)then 0 else 1)]
  | 57,[x0,x1]=>.i (dM (aO x0).sets (lL x1))
  | 52,[x0]=>.b (mr (aO x0))
  | 53,[x0]=>.b (qW (aO x0))
  | 54,[x0]=>.b (mW (aO x0))
  | 235,[x0]=>.list false ((gT (aO x0)).map sR)
  | 187,[x0]=>.list false ((bW (aO x0)).map sR)
  | 114,[x0]=>.list false ((gB (aO x0)).map sR)
  | 55,[x0]=>.b (rQ (aO x0))
  | 115,[x0]=>.list false ((AJ (aO x0)).map bR)
  | 56,[x0]=>.b (tH (aO x0))
  | 19,[x0]=>.b (jh (aO x0))
  | 21,[x0]=>.i (cZ (aO x0))
  | 18,[x0]=>.b (vN (aO x0))
  | 58,[x0]=>.b (iy (bE x0))
  | 27,[x0,x1]=>.b (gV (bE x0) (bE x1))
  | 22,[x0,x1]=>.tuple [.b (mE (bE x0) (bE x1)).1,.i (mE (bE x0) (bE x1)).2]
  | 31,[x0]=>.agg (dz x0).q.d
  | 75,[x0]=>.list false ((nP x0).map Dat.d)
  | 76,[x0]=>.list false ((sI x0).map RSig.d)
  | 34,[x0]=>.agg (dz x0).d
  | 28,[x0]=>.fmap (jb (kT (fe x0)))
  | 77,[x0,x1]=>.b (kH (nP x0) (nP x1))
  | 78,[x0,x1]=>.b (w9 (sI x0) (sI x1))
  | 35,[x0,x1]=>.b (wB (dz x0) (dz x1))
  | 30,[x0,x1]=>.tuple [.agg (dz x0).q.d,.b (oz (wM x1) (dz x0).q)]
  | 33,[x0,x1]=>.tuple [.agg (dz x0).d,.b (yz (eY (wM x1) (dz x0).q) (dz x0))]
  | 83,[x0,x1]=>.tuple [.agg (dz x0).d,.b (oz (wM x1) (dz x0).q)]
  | 86,[x0]=>.tuple [.agg (dz x0).d,.b true]
  | 144,[x0]=>.tuple [.agg (dz x0).d,.b true]
  | 137,[x0]=>.agg (lL x0).d
  | 29,[x0,x1]=>.list false (((fe x0).filterMap (lV (Gf x1))).map ak.d)
  | 141,[x0,x1]=>.list false (((Ia x0).filterMap (j3S (Gf x1))).map ak.d)
  | 32,[x0,x1]=>.list false (((fe x0).filterMap (He (x1))).map Sgd.d)
  | 85,[.fn (.func 31) [] []]=>.fn (.func 148) [] [.eptr [.fn (.func 31) [] []]]
  | 148,[x0,x1,.eptr [.fn (.func 31) [] []]]=>.i (qC (dz x0).q (dz x1).q)
  | 140,[.fn (.func 137) [] []]=>.fn (.func 209) [] [.eptr [.fn (.func 137) [] []]]
  | 82,[x0]=>.b (fO (jv x0))
  | 9,[x0,x1]=>.tuple [.agg (kW (aO x0) (aO x1)).1.d,.i (kW (aO x0) (aO x1)).2]
  | 38,[x0,x1]=>.tuple [.agg (ed (aO x0) (jv x1)).1.d,.i (ed (aO x0) (jv x1)).2]
  | 81,[x0,x1]=>.tuple [.agg (rM (jv x0) (jv x1)).1.d,.i (rM (jv x0) (jv x1)).2]
  | 25,[x0]=>.list false ((dY (aO x0)).map bD)
  | 39,[x0]=>.list false ((dC (jv x0)).map bD)
  | 24,[x0,x1]=>.list false ((cO (BN x0) (gL x1)).map bD)
  | 69,[x0]=>.v (.int .u64 ((iD (gL x0):Nat):Int))
  | 133,[x0,x1]=>.b (isE (Ko x0))
  | 130,[x0,x1]=>.tuple [.list false ((bN (BN x0).toNat (gL x1)).2.map bD),.i (bN (BN x0).toNat (gL x1)).1]
  | 80,[x0,x1]=>.tuple [.agg (fV (cnt1 x0) (gL x1)).1.d,.i (fV (cnt1 x0) (gL x1)).2]
  | 79,[x0]=>.tuple [.agg (gF (gL x0)).d,.i (gX (jc (gL x0)))]
  | 36,[x0]=>.tuple [.agg (u6 (nO x0)).d,.b (fJ (nO x0)).isSome]
  | 37,[x0]=>.b (fO (jv x0))
  | 40,[x0]=>.list false ((gL x0).map bD)
  | 41,[x0,x1,x2]=>.list false (((gL x0)++cu (Ii x1)++(gL x2)).map bD)
  | 8,[x0]=>.tuple [.agg (rW (aO x0)).1.d,.i (rW (aO x0)).2]
  | 10,[x0,x1]=>.tuple [.agg (mP (nO x0) (jv x1)).1.d,.i (mP (nO x0) (jv x1)).2]
  | 11,[x0]=>.tuple [.agg (qZ (nO x0)).1.d,.i (qZ (nO x0)).2]
  | 12,[x0]=>.tuple [.agg (oQ (nO x0)).1.d,.i (oQ (nO x0)).2]
  | 89,[x0]=>.b (AU (aO x0))
  | 154,[x0]=>.b (fO (jv x0))
  | 43,[x0]=>.b (lI (sK x0))
  | 93,[x0]=>.b (jH (vg x0))
  | 94,[x0]=>.tuple [.v (.string (bs (ou (vg x0)).1)),.b (ou (vg x0)).2]
  | 220,[x0,x1]=>.b (lg (dz x0) (dz x1))
  | 106,[x0,x1,.fn (.func 220) [] []]=>.b (sM (fe x0) (fe x1))
  | 155,[x0,x1]=>.b (mh (aO x0) (aO x1))
  | 95,[x0,x1]=>.i (pg (sK x0) (aO x1))
  | 153,[x0]=>.agg (dz x0).d
  | 152,[x0,.fn (.func 153) [] []]=>.list false ((fe x0).map Sgd.d)
  | 92,[x0]=>.agg (aO x0).d
  | 151,[x0]=>.i (aL (aO x0))
  | 150,[x0,.fn (.func 151) [] []]=>.list false (((ma x0).map aL).map ko)
  | 90,[x0]=>.tuple [.list false ((tX (ma x0)).1.map ko),.b (tX (ma x0)).2]
  | 91,[x0,x1]=>.agg (zk (Kh x1) (bE x0)).d
  | 44,[x0,x1,x2]=>.tuple [.agg (jg (ma x0) (yE x1) (bE x2)).1.d,.i (jg (ma x0) (yE x1) (bE x2)).2]
  | 45,[x0,x1,x2]=>.tuple [.agg (kw (sK x0) (vg x1) (bE x2)).1.d,.i (kw (sK x0) (vg x1) (bE x2)).2]
  | 14,[x0,x1,x2]=>.tuple [.agg (kL (sK x0) (ma x1) (bE x2)).1.d,.i (kL (sK x0) (ma x1) (bE x2)).2]
  | 99,[x0]=>.b (sV (dz x0))
  | 101,[x0,x1]=>.b (dQ (Gb x1).set.name (dz x0))
  | 177,[x0,x1]=>.b (dQ (Ap x1).name (dz x0))
  | 156,[x0,x1]=>.i (dR (Ck (x1)) (fe x0) 0)
  | 98,[x0,x1]=>.b (decide (0<=dR (Ck (x1)) (fe x0) 0))
  | 47,[x0]=>.b (jE (aO x0))
  | 96,[x0]=>.b (ja (yC x0))
  | 97,[x0]=>.b (fZ (yC x0))
  | 46,[x0]=>.b (jS (Ai x0))
  | 48,[x0,x1]=>.b (kr (aF x0) (aF x1))
  | 160,[x0,x1,x2]=>.i (qC (dz x0).q ⟨(aF x1),(EQ x2)⟩)
  | 159,[x0,x1,x2]=>.tuple [.i (bg (fe x0) ⟨(aF x1),(F9 x2)⟩),.b (di (fe x0) ⟨(aF x1),(F9 x2)⟩)]
  | 102,[x0,x1,x2]=>.tuple [.i (bg (aO x0).sets ⟨(aF x1),(bE x2)⟩),.b (di (aO x0).sets ⟨(aF x1),(bE x2)⟩)]
  | 49,[x0,x1]=>.b (qx (aO x0) (yC x1))
  | 107,[x0,x1]=>.b (decide ((dz x0).set=(dz x1).set))
  | 106,[x0,x1,.fn (.func 107) [] []]=>.b (zP (fe x0) (fe x1))
  | 233,[x0,x1]=>.i (dR (λy=>decide ((j4 x1)=y)) (nP x0) 0)
  | 173,[x0,x1]=>.b (dU (nP x0) (j4 x1))
  | 172,[x0,x1]=>.b (dU (Ap x1).data (j4 x0))
  | 232,[x0,x1]=>.i (dR (dU (WI x1).data) (nP x0) 0)
  | 168,[x0,x1]=>.i (dV (j4 x0) (j4 x1))
  | 16,[x0,x1]=>.tuple [.agg (fF (aO x0) (Ai x1)).1.d,.i (fF (aO x0) (Ai x1)).2]
  | 20,[x0]=>.b (jE (aO x0))
  | 17,[x0,x1]=>.agg (gP (bE x0) (CX x1)).d
  | 6,[x0,x1]=>.b (wZ (aO x0) (Ah x1))
  | 7,[x0,x1]=>.tuple [.list false ((mV (aO x0) (Ah x1)).1.map Zon.d),.b (mV (aO x0) (Ah x1)).2]
  | 5,[]=>.b true
  | 3,[x0,x1,x2]=>.b true
  | _,_=>.junk
@[go_sem]theorem tpp{k:FuncId}:Tp.pure k=true:=rfl
@[go_sem]theorem tpg1{x0 x1:D}:Tp.pf 273 [x0,x1] = .i (fT (aF x0) (bE x1))/\Tp.pf 252 [x0,x1] = .i (fT (aF x0) (bE x1))/\Tp.pf 254 [x0,x1] = .i (Go.Lib.compareBytes (aF x0) (aF x1))/\Tp.pf 225 [x0,x1] = .i (Go.Lib.compareBytes (aF x0) (aF x1))/\Tp.pf 188 [x0,x1] = .i (fQ (aF x0) (aF x1))/\Tp.pf 186 [x0,x1] = .tuple [.i (if az (aF x0)&&az (aF x1)then kP (aF x0) (aF x1)else 0),.i (if az (aF x0)&&az (aF x1)then 0 else 11)]/\Tp.pf 161 [x0,x1] = .tuple [.i (if az (aF x0)&&az (aF x1)then kP (aF x0) (aF x1)else 0),.i (if az (aF x0)&&az (aF x1)then 0 else 11)]/\Tp.pf 162 [x0,x1] = .i (cmpI (bE x0) (bE x1))/\Tp.pf 231 [x0,x1] = .i (uJ (aF x0) (aF x1))/\Tp.pf 189 [x0,x1] = .b (yh (aF x0) (aF x1))/\Tp.pf 118 [x0,x1] = .b (yh (aF x0) (aF x1))/\Tp.pf 185 [x0,x1] = .b (less (j4 x0) (j4 x1))/\Tp.pf 192 [x0,x1] = .b (jQ (K7 x0) (j4 x1))/\Tp.pf 184 [x0,x1] = .b (nZ (bE x0) (j4 x1))/\Tp.pf 193 [x0,x1] = .i (dV (j4 x0) (j4 x1))/\Tp.pf 112 [x0,x1] = .i (lK (set1 x0) (set1 x1))/\Tp.pf 149 [x0,x1] = .b (uV (set1 x0) (set1 x1))/\Tp.pf 223 [x0,x1] = .b (wT (aF x0) (aF x1))/\Tp.pf 158 [x0,x1] = .b (wT (aF x0) (aF x1))/\Tp.pf 100 [x0,x1] = .tuple [.b (kr (aF x0) (aF x1)),.i (if az (aF x0)&&az (aF x1)then 0 else 11)]/\Tp.pf 111 [x0,x1] = .b (ik (aF x0) (aF x1))/\Tp.pf 145 [x0,x1] = .i (qC (lL x0) (lL x1))/\Tp.pf 121 [x0,x1] = .b (fits (bE x0) (yE x1))/\Tp.pf 113 [x0,x1] = .b (fits (bE x0) (yE x1))/\Tp.pf 122 [x0,x1] = .b (mg (sI x0) (aF x1))/\Tp.pf 116 [x0,x1] = .b (mg (sI x0) (aF x1))/\Tp.pf 88 [x0,x1] = .b (lg (dz x0) (dz x1))/\Tp.pf 42 [x0,x1] = .b (sM (fe x0) (fe x1))/\Tp.pf 13 [x0,x1] = .b (mh (aO x0) (aO x1))/\Tp.pf 129 [x0,x1] = .i (qC (dz x0).q (lL x1))/\Tp.pf 128 [x0,x1,.fn (.func 129) [] []] = .tuple [.i (bg (fe x0) (lL x1)),.b (di (fe x0) (lL x1))]/\Tp.pf 74 [x0,x1] = .tuple [.i (bg (aO x0).sets (lL x1)),.b (di (aO x0).sets (lL x1))]/\Tp.pf 57 [x0,x1] = .i (dM (aO x0).sets (lL x1))/\Tp.pf 27 [x0,x1] = .b (gV (bE x0) (bE x1))/\Tp.pf 22 [x0,x1] = .tuple [.b (mE (bE x0) (bE x1)).1,.i (mE (bE x0) (bE x1)).2]/\Tp.pf 77 [x0,x1] = .b (kH (nP x0) (nP x1))/\Tp.pf 78 [x0,x1] = .b (w9 (sI x0) (sI x1))/\Tp.pf 35 [x0,x1] = .b (wB (dz x0) (dz x1))/\Tp.pf 30 [x0,x1] = .tuple [.agg (dz x0).q.d,.b (oz (wM x1) (dz x0).q)]/\Tp.pf 33 [x0,x1] = .tuple [.agg (dz x0).d,.b (yz (eY (wM x1) (dz x0).q) (dz x0))]:=by and_intros<;>rfl
@[go_sem]theorem tpg2{x0 x1:D}:Tp.pf 83 [x0,x1] = .tuple [.agg (dz x0).d,.b (oz (wM x1) (dz x0).q)]/\Tp.pf 29 [x0,x1] = .list false (((fe x0).filterMap (lV (Gf x1))).map ak.d)/\Tp.pf 141 [x0,x1] = .list false (((Ia x0).filterMap (j3S (Gf x1))).map ak.d)/\Tp.pf 32 [x0,x1] = .list false (((fe x0).filterMap (He (x1))).map Sgd.d)/\Tp.pf 148 [x0,x1,.eptr [.fn (.func 31) [] []]] = .i (qC (dz x0).q (dz x1).q)/\Tp.pf 9 [x0,x1] = .tuple [.agg (kW (aO x0) (aO x1)).1.d,.i (kW (aO x0) (aO x1)).2]/\Tp.pf 38 [x0,x1] = .tuple [.agg (ed (aO x0) (jv x1)).1.d,.i (ed (aO x0) (jv x1)).2]/\Tp.pf 81 [x0,x1] = .tuple [.agg (rM (jv x0) (jv x1)).1.d,.i (rM (jv x0) (jv x1)).2]/\Tp.pf 24 [x0,x1] = .list false ((cO (BN x0) (gL x1)).map bD)/\Tp.pf 133 [x0,x1] = .b (isE (Ko x0))/\Tp.pf 130 [x0,x1] = .tuple [.list false ((bN (BN x0).toNat (gL x1)).2.map bD),.i (bN (BN x0).toNat (gL x1)).1]/\Tp.pf 80 [x0,x1] = .tuple [.agg (fV (cnt1 x0) (gL x1)).1.d,.i (fV (cnt1 x0) (gL x1)).2]/\Tp.pf 10 [x0,x1] = .tuple [.agg (mP (nO x0) (jv x1)).1.d,.i (mP (nO x0) (jv x1)).2]/\Tp.pf 220 [x0,x1] = .b (lg (dz x0) (dz x1))/\Tp.pf 106 [x0,x1,.fn (.func 220) [] []] = .b (sM (fe x0) (fe x1))/\Tp.pf 155 [x0,x1] = .b (mh (aO x0) (aO x1))/\Tp.pf 95 [x0,x1] = .i (pg (sK x0) (aO x1))/\Tp.pf 91 [x0,x1] = .agg (zk (Kh x1) (bE x0)).d/\Tp.pf 101 [x0,x1] = .b (dQ (Gb x1).set.name (dz x0))/\Tp.pf 177 [x0,x1] = .b (dQ (Ap x1).name (dz x0))/\Tp.pf 156 [x0,x1] = .i (dR (Ck (x1)) (fe x0) 0)/\Tp.pf 98 [x0,x1] = .b (decide (0<=dR (Ck (x1)) (fe x0) 0))/\Tp.pf 48 [x0,x1] = .b (kr (aF x0) (aF x1))/\Tp.pf 49 [x0,x1] = .b (qx (aO x0) (yC x1))/\Tp.pf 107 [x0,x1] = .b (decide ((dz x0).set=(dz x1).set))/\Tp.pf 106 [x0,x1,.fn (.func 107) [] []] = .b (zP (fe x0) (fe x1))/\Tp.pf 233 [x0,x1] = .i (dR (λy=>decide ((j4 x1)=y)) (nP x0) 0)/\Tp.pf 173 [x0,x1] = .b (dU (nP x0) (j4 x1))/\Tp.pf 172 [x0,x1] = .b (dU (Ap x1).data (j4 x0))/\Tp.pf 232 [x0,x1] = .i (dR (dU (WI x1).data) (nP x0) 0)/\Tp.pf 168 [x0,x1] = .i (dV (j4 x0) (j4 x1))/\Tp.pf 16 [x0,x1] = .tuple [.agg (fF (aO x0) (Ai x1)).1.d,.i (fF (aO x0) (Ai x1)).2]/\Tp.pf 17 [x0,x1] = .agg (gP (bE x0) (CX x1)).d/\Tp.pf 6 [x0,x1] = .b (wZ (aO x0) (Ah x1))/\Tp.pf 7 [x0,x1] = .tuple [.list false ((mV (aO x0) (Ah x1)).1.map Zon.d),.b (mV (aO x0) (Ah x1)).2]:=by and_intros<;>rfl
@[go_sem]theorem tpg3{x0:D}:Tp.pf 222 [x0] = .b (iC (aF x0))/\Tp.pf 179 [x0] = .b (iC (aF x0))/\Tp.pf 178 [x0] = .list false ((jD (aF x0)).map sR)/\Tp.pf 108 [x0] = .b (az (aF x0))/\Tp.pf 157 [x0] = .b (az (aF x0))/\Tp.pf 117 [x0] = .b (az (aF x0))/\Tp.pf 180 [x0] = .list false ((bC (aF x0)).map sR)/\Tp.pf 226 [x0] = .b ((bE x0) != (bE x0))/\Tp.pf 264 [x0] = .b ((aF x0) != (aF x0))/\Tp.pf 191 [x0] = .b (jC (aF x0))/\Tp.pf 183 [x0] = .b (jC (aF x0))/\Tp.pf 236 [x0] = .b (vM (aF x0))/\Tp.pf 234 [x0] = .b (vM (aF x0))/\Tp.pf 230 [x0] = .i (uZ (CX x0) 0)/\Tp.pf 119 [x0] = .b (fq (set1 x0))/\Tp.pf 110 [x0] = .b (fq (set1 x0))/\Tp.pf 182 [x0] = .b (Am (bE x0))/\Tp.pf 127 [x0] = .tuple [.list false ((xn (set1 x0)).1.map bD),.i (xn (set1 x0)).2]/\Tp.pf 238 [x0] = .tuple [.agg (iP (gL x0)).1.d,.i (iP (gL x0)).2]/\Tp.pf 109 [x0] = .b (yM (aF x0))/\Tp.pf 59 [x0] = .b (ordered (aO x0))/\Tp.pf 60 [x0] = .b (vS (aO x0))/\Tp.pf 62 [x0] = .b (uP (xQ x0))/\Tp.pf 63 [x0] = .b (qP (xQ x0))/\Tp.pf 64 [x0] = .b (zK (xQ x0))/\Tp.pf 65 [x0] = .b (zN (xQ x0))/\Tp.pf 61 [x0] = .agg (kU (aO x0)).d/\Tp.pf 23 [x0] = .b (aI (aO x0))/\Tp.pf 26 [x0] = .tuple [.i (if aI (aO x0)then aL (aO x0)else 0),.i (if aI (aO x0)then 0 else 1)]/\Tp.pf 52 [x0] = .b (mr (aO x0))/\Tp.pf 53 [x0] = .b (qW (aO x0))/\Tp.pf 54 [x0] = .b (mW (aO x0))/\Tp.pf 235 [x0] = .list false ((gT (aO x0)).map sR)/\Tp.pf 187 [x0] = .list false ((bW (aO x0)).map sR)/\Tp.pf 114 [x0] = .list false ((gB (aO x0)).map sR)/\Tp.pf 55 [x0] = .b (rQ (aO x0))/\Tp.pf 115 [x0] = .list false ((AJ (aO x0)).map bR)/\Tp.pf 56 [x0] = .b (tH (aO x0))/\Tp.pf 19 [x0] = .b (jh (aO x0))/\Tp.pf 21 [x0] = .i (cZ (aO x0)):=by and_intros<;>rfl
@[go_sem]theorem tpg4{x0:D}:Tp.pf 18 [x0] = .b (vN (aO x0))/\Tp.pf 58 [x0] = .b (iy (bE x0))/\Tp.pf 31 [x0] = .agg (dz x0).q.d/\Tp.pf 75 [x0] = .list false ((nP x0).map Dat.d)/\Tp.pf 76 [x0] = .list false ((sI x0).map RSig.d)/\Tp.pf 34 [x0] = .agg (dz x0).d/\Tp.pf 28 [x0] = .fmap (jb (kT (fe x0)))/\Tp.pf 86 [x0] = .tuple [.agg (dz x0).d,.b true]/\Tp.pf 144 [x0] = .tuple [.agg (dz x0).d,.b true]/\Tp.pf 137 [x0] = .agg (lL x0).d/\Tp.pf 82 [x0] = .b (fO (jv x0))/\Tp.pf 25 [x0] = .list false ((dY (aO x0)).map bD)/\Tp.pf 39 [x0] = .list false ((dC (jv x0)).map bD)/\Tp.pf 69 [x0] = .v (.int .u64 ((iD (gL x0):Nat):Int))/\Tp.pf 79 [x0] = .tuple [.agg (gF (gL x0)).d,.i (gX (jc (gL x0)))]/\Tp.pf 36 [x0] = .tuple [.agg (u6 (nO x0)).d,.b (fJ (nO x0)).isSome]/\Tp.pf 37 [x0] = .b (fO (jv x0))/\Tp.pf 40 [x0] = .list false ((gL x0).map bD)/\Tp.pf 8 [x0] = .tuple [.agg (rW (aO x0)).1.d,.i (rW (aO x0)).2]/\Tp.pf 11 [x0] = .tuple [.agg (qZ (nO x0)).1.d,.i (qZ (nO x0)).2]/\Tp.pf 12 [x0] = .tuple [.agg (oQ (nO x0)).1.d,.i (oQ (nO x0)).2]/\Tp.pf 89 [x0] = .b (AU (aO x0))/\Tp.pf 154 [x0] = .b (fO (jv x0))/\Tp.pf 43 [x0] = .b (lI (sK x0))/\Tp.pf 93 [x0] = .b (jH (vg x0))/\Tp.pf 94 [x0] = .tuple [.v (.string (bs (ou (vg x0)).1)),.b (ou (vg x0)).2]/\Tp.pf 153 [x0] = .agg (dz x0).d/\Tp.pf 152 [x0,.fn (.func 153) [] []] = .list false ((fe x0).map Sgd.d)/\Tp.pf 92 [x0] = .agg (aO x0).d/\Tp.pf 151 [x0] = .i (aL (aO x0))/\Tp.pf 150 [x0,.fn (.func 151) [] []] = .list false (((ma x0).map aL).map ko)/\Tp.pf 90 [x0] = .tuple [.list false ((tX (ma x0)).1.map ko),.b (tX (ma x0)).2]/\Tp.pf 99 [x0] = .b (sV (dz x0))/\Tp.pf 47 [x0] = .b (jE (aO x0))/\Tp.pf 96 [x0] = .b (ja (yC x0))/\Tp.pf 97 [x0] = .b (fZ (yC x0))/\Tp.pf 46 [x0] = .b (jS (Ai x0))/\Tp.pf 20 [x0] = .b (jE (aO x0)):=by and_intros<;>rfl
@[go_sem]theorem tpg5{x0 x1 x2:D}:Tp.pf 190 [x0,x1,x2] = .b (aV (bE x0) (bE x1) (bE x2))/\Tp.pf 265 [x0,x1,x2] = .b (aV (bE x0) (bE x1) (bE x2))/\Tp.pf 181 [x0,x1,x2] = .b (aV (bE x0) (bE x1) (bE x2))/\Tp.pf 41 [x0,x1,x2] = .list false (((gL x0)++cu (Ii x1)++(gL x2)).map bD)/\Tp.pf 44 [x0,x1,x2] = .tuple [.agg (jg (ma x0) (yE x1) (bE x2)).1.d,.i (jg (ma x0) (yE x1) (bE x2)).2]/\Tp.pf 45 [x0,x1,x2] = .tuple [.agg (kw (sK x0) (vg x1) (bE x2)).1.d,.i (kw (sK x0) (vg x1) (bE x2)).2]/\Tp.pf 14 [x0,x1,x2] = .tuple [.agg (kL (sK x0) (ma x1) (bE x2)).1.d,.i (kL (sK x0) (ma x1) (bE x2)).2]/\Tp.pf 160 [x0,x1,x2] = .i (qC (dz x0).q ⟨(aF x1),(EQ x2)⟩)/\Tp.pf 159 [x0,x1,x2] = .tuple [.i (bg (fe x0) ⟨(aF x1),(F9 x2)⟩),.b (di (fe x0) ⟨(aF x1),(F9 x2)⟩)]/\Tp.pf 102 [x0,x1,x2] = .tuple [.i (bg (aO x0).sets ⟨(aF x1),(bE x2)⟩),.b (di (aO x0).sets ⟨(aF x1),(bE x2)⟩)]/\Tp.pf 3 [x0,x1,x2] = .b true:=by and_intros<;>rfl
@[go_sem]theorem tpg6{x0 x1 x2 x3:D}:Tp.pf 120 [x0,x1,x2,x3] = .i (qC ⟨(aF x0),(bE x1)⟩ ⟨(aF x2),(bE x3)⟩):=rfl
@[go_sem]theorem tpg7:Tp.pf 85 [.fn (.func 31) [] []] = .fn (.func 148) [] [.eptr [.fn (.func 31) [] []]]/\Tp.pf 140 [.fn (.func 137) [] []] = .fn (.func 209) [] [.eptr [.fn (.func 137) [] []]]/\Tp.pf 5 [] = .b true:=by and_intros<;>rfl
def Ac:aR:={ Tp with bs:=true }
def tpB_p{k:FuncId}:Ac.pure k=Tp.pure k:=rfl
def tpB_f{k:FuncId}{xs:List D}:Ac.pf k xs=Tp.pf k xs:=rfl
def tpB_b:Ac.bs=true:=rfl
def tp_b:Tp.bs=false:=rfl
def tp_c:Tp.cf=false:=rfl
def tpB_c:Ac.cf=false:=rfl
attribute[go_sem]tpB_p tpB_f tpB_b tp_b tp_c tpB_c
def lZ:aR:={ Tp with cf:=true }
def tpF_p{k:FuncId}:lZ.pure k=Tp.pure k:=rfl
def tpF_f{k:FuncId}{xs:List D}:lZ.pf k xs=Tp.pf k xs:=rfl
def tpF_b:lZ.bs=false:=rfl
def tpF_c:lZ.cf=true:=rfl
def tp_s:Tp.dp=false:=rfl
def tpB_s:Ac.dp=false:=rfl
attribute[go_sem]tpF_p tpF_f tpF_b tpF_c tp_s tpB_s
def uQ:aR:={ Tp with dp:=true }
def tpS_p{k:FuncId}:uQ.pure k=Tp.pure k:=rfl
def tpS_f{k:FuncId}{xs:List D}:uQ.pf k xs=Tp.pf k xs:=rfl
def tpS_b:uQ.bs=false:=rfl
def tpS_c:uQ.cf=false:=rfl
def tpS_s:uQ.dp=true:=rfl
attribute[go_sem]tpS_p tpS_f tpS_b tpS_c tpS_s
set_option maxRecDepth 10000
variable [Glob prog] [Told]
def ZfW(s:Str)(c:Int)(hs:s.length<=9223372036854775806):PureCt prog 273 [.v (.string (bs s)),.v (.int .u8 c)] (.i (fT s c)):=by
 rw[fT]
 refine oO func273 λff=>?_
 unfold f273
 refine aa Tp ?_
 refine ae ?_
 refine aa Tp ?_
 refine ah ?_
 refine lp (α:=(Nat)×Nat) [0,1] (λ⟨k,nx⟩=>(k<=s.length)/\(mG s c s.length=mG s c k)/\True) (λ⟨k,nx⟩=>k) (λ⟨k,nx⟩=>[(5,.i ((k:Int)-1))]) (λ⟨k,nx⟩=>[]) (λ⟨k,nx⟩=>nx) (s.length,_) (hA:=⟨iv,rfl,trivial⟩) (round:=?_)
 rintro⟨k,nx⟩ ⟨hk,hv, -⟩
 simp only[XY,XZ]
 refine oL Tp ?_ ?_ (hp:=rfl) (hq:=rfl)<;>intro c1
 .
  have hk2:0<k:=by have h7:(0:Int)<=(k:Int)-1:=(by simpa using c1);omega
  have e1:((k:Int)-1).toNat=k-1:=by omega
  have ff:=qA @e1 ff;refine ae ?_;refine ah ?_;refine aa Tp ?_;refine cd ?_ ?_<;>intro c2
  . refine aa Tp ?_;exact fo 0 (k:=by rw[hv,TK hk2,X3 c2];congr 2;omega)
  refine aj ?_;refine ai Tp ?_
  show ∃_,_
  exact ay (k-1,_) (h1:=⟨iv,(by(try dsimp only);rw[hv,TK hk2,if_neg c2]),trivial⟩)
 have hk2:k=0:=by have h7 : ¬(0:Int)<=(k:Int)-1:=(by simpa using c1);omega
 refine aK ?_
 refine aa Tp ?_
 exact fo 0 (k:=by rw[hv,hk2];rfl)
def Mk(s:Str)(c:Int)(hs:s.length<=9223372036854775806):PureCt prog 252 [.v (.string (bs s)),.v (.int .u8 c)] (.i (fT s c)):=by
 refine oO func252 λff=>?_
 unfold f252
 refine aa Tp ?_
 refine aa Tp ?_ (hok:=oF (ZfW _ _ hs))
 exact fp 0
def ZgE(s:Str):PureCt prog 222 [.v (.string (bs s))] (.b (iC s)):=by
 rw[ZfZ]
 refine oO func222 λff=>?_
 unfold f222
 have e1:((s.length:Int)-1).toNat=s.length-1:=by omega
 have ff:=qA @e1 ff
 refine aa Tp ?_
 refine oK Tp ?_ ?_<;>intro c1
 . refine aa Tp ?_;exact fo 0 (k:=o4i)
 refine ae ?_
 refine aa Tp ?_
 refine ah ?_
 refine lp (α:=(Nat)×Nat) [0,27] (λ⟨k,nx⟩=>(k<=s.length)/\(aA s.length (xM s) 0=aA s.length (xM s) k)/\True) (λ⟨k,nx⟩=>s.length-k) (λ⟨k,nx⟩=>[(28,.i k)]) (λ⟨k,nx⟩=>[]) (λ⟨k,nx⟩=>nx) (0,_) (hA:=⟨iv,rfl,trivial⟩) (round:=?_)
 rintro⟨k,nx⟩ ⟨hk,hv, -⟩
 simp only[XY,XZ]
 refine aa Tp ?_
 refine ae ?_
 refine cd ?_ ?_ (hp:=rfl)<;>intro c2
 .
  have hk2:k<s.length:=by simpa using c2
  refine aj ?_;refine ae ?_;refine ah ?_;refine oD Tp ?_;refine cd ?_ ?_<;>intro c3
  . refine aa Tp ?_;exact fo 0 (k:=by have h8:xM s k=false:=(by simp only[xM,rX,Yd,Yy,X4];omega);rw[hv,iF,X3 hk2,h8];(repeat' split)<;>rfl)
  refine aj ?_;refine ai Tp ?_
  show ∃_,_
  exact ay (k+1,_) (h1:=⟨iv,(by(try dsimp only);have h8:xM s k=true:=(by simp only[xM,rX,Bool.or_eq_true,Bool.and_eq_true,decide_eq_true_eq];omega);rw[hv,iF,if_pos hk2,h8];rfl),trivial⟩)
 refine aK ?_
 refine aa Tp ?_
 exact fo 0 (k:=o2e)
def Zdz(s:Str)(hs:s.length<=9223372036854775806):PureCt prog 179 [.v (.string (bs s))] (.b (iC s)):=by
 rw[iC]
 refine oO func179 λff=>?_
 unfold f179
 refine aa Tp ?_
 refine ae ?_
 refine aa Tp ?_
 refine ah ?_
 refine lp (α:=(Nat)×Nat) [0] (λ⟨k,nx⟩=>(k<=s.length)/\(aA s.length (qf s) 0=aA s.length (qf s) k)/\True) (λ⟨k,nx⟩=>s.length-k) (λ⟨k,nx⟩=>[(3,.i k)]) (λ⟨k,nx⟩=>[]) (λ⟨k,nx⟩=>nx) (0,_) (hA:=⟨iv,rfl,trivial⟩) (round:=?_)
 rintro⟨k,nx⟩ ⟨hk,hv, -⟩
 simp only[XY,XZ]
 refine oL Tp ?_ ?_ (hp:=rfl)<;>intro c1
 .
  have hk2:k<s.length:=by simpa using c1
  refine ae ?_;refine ah ?_;refine oD Tp ?_;refine cd ?_ ?_<;>intro c2
  . refine aa Tp ?_;exact fo 0 (k:=by have h8:qf s k=false:=(by simp only[qf,rX,Yd,Yy,X4];omega);rw[hv,iF,X3 hk2,h8];rfl)
  refine aj ?_;refine ai Tp ?_
  show ∃_,_
  exact ay (k+1,_) (h1:=⟨iv,(by(try dsimp only);have h8:qf s k=true:=(by simp only[qf,rX,Bool.or_eq_true,Bool.and_eq_true,decide_eq_true_eq];omega);rw[hv,iF,if_pos hk2,h8];rfl),trivial⟩)
 refine aK ?_
 refine aa Tp ?_
 exact fo 0 (k:=by rw[hv,iF,XV (by omega)];congr 2;rw[YK];simp only[XU,XX,ZF];omega)
def QL(s:Str)(hs:s.length<=1000):PureCt prog 178 [.v (.string (bs s))] (.list false ((jD s).map sR)):=by
 rw[jD]
 refine oO func178 λff=>?_
 unfold f178
 refine aa Tp ?_
 refine aa Ac ?_
 refine ae ?_
 refine aa Tp ?_
 refine ah ?_
 refine lp (α:=(Nat)×(List Str)×(Nat)×Nat) [0] (λ⟨k,out,r,nx⟩=>(k<=s.length)/\(1<=out.length)/\(out.length<=k+1)/\(∀x∈out,x.length<=k)/\(wu s 0 [[]]=wu s k out)/\(r<nx)/\True) (λ⟨k,out,r,nx⟩=>s.length-k) (λ⟨k,out,r,nx⟩=>[(3,.mrow r 0 out.length),(4,.i k)]) (λ⟨k,out,r,nx⟩=>[(r,⟨9,out.map sR⟩)]) (λ⟨k,out,r,nx⟩=>nx) (0,[[]],1,_) (hA:=⟨iv,o4x,o4x,o4x,rfl,iv,trivial⟩) (round:=?_)
 rintro⟨k,out,r,nx⟩ ⟨hk,ho1,ho,hl,hv,hr, -⟩
 simp only[XY,XZ]
 have ff:=qA @hr ff
 refine oL Tp ?_ ?_ (hp:=rfl)<;>intro c1
 .
  have hk2:k<s.length:=by simpa using c1
  have hk3:out.length-1<out.length:=by omega
  have e1:((out.length:Int)-1).toNat=out.length-1:=by omega
  have e5:((k:Int)+1).toNat=k+1:=by omega
  have hl3:out[out.length-1]!.length<=k:=hl _ (by rw[getElem!_pos out _ hk3];exact YH _)
  have ff:=qE @e1 @e5 (nK hk3) (ZeE hk2) ff;refine ae ?_;refine ah ?_;refine aa Tp ?_;refine cd ?_ ?_<;>intro c2
  .
   have e2:=ZbT (out:=out) (c:=s.getD k 0) c2;refine ai Tp ?_;refine ai Tp ?_
   show ∃_,_
   exact ay (k+1,out++[[]],(nx+10),_) (h1:=⟨iv,o4x,o4j,(by(try dsimp only);intro x hx;rcases List.mem_append.1 hx with h|h;exact Nat.le_succ_of_le (hl x h);simp at h;subst h;exact Nat.zero_le _),(by(try dsimp only);rw[hv,Ef,if_pos hk2,e2]),iv,trivial⟩) (h3:=o0q) (h4:=o0q) (h5:=o0q)
  have e2:=ZbV (out:=out) (c:=s.getD k 0) c2;refine ai Tp ?_;refine ai Tp ?_
  show ∃_,_
  exact ay (k+1,out.set (out.length-1) (out[out.length-1]! ++ [s.getD k 0]),r,_) (h1:=⟨iv,o4j,o4j,(by(try dsimp only);intro x hx;rcases List.mem_or_eq_of_mem_set hx with h|h;exact Nat.le_succ_of_le (hl x h);subst h;rw[List.length_append];exact Nat.succ_le_succ hl3),(by(try dsimp only);rw[hv,Ef,if_pos hk2,e2]),iv,trivial⟩) (h3:=o0q) (h4:=o0q) (h5:=o0q)
 refine aK ?_
 refine aa Tp ?_
 exact fo 1 (k:=by rw[hv,Ef,XV (by omega)])
def lJ(s:Str):PureCt prog 108 [.v (.string (bs s))] (.b (az s)):=by
 rw[az]
 refine oO func108 λff=>?_
 unfold f108
 refine aa Tp ?_
 refine oK Tp ?_ ?_<;>intro c1
 . refine aa Tp ?_;exact fo 0 (k:=by rw[X3 c1])
 refine oK Tp ?_ ?_<;>intro c2
 . refine aa Tp ?_;exact fo 0 (k:=by rw[XV c1,X3 (by omega)])
 refine aa Tp ?_ (hok:=ig @QL)
 refine ae ?_
 refine aa Tp ?_
 refine ah ?_
 refine lp (α:=(Nat)×Nat) [3] (λ⟨k,nx⟩=>(k<=(jD s).length)/\(aA (jD s).length (uk (jD s)) 0=aA (jD s).length (uk (jD s)) k)/\True) (λ⟨k,nx⟩=>(jD s).length-k) (λ⟨k,nx⟩=>[(4,.i k)]) (λ⟨k,nx⟩=>[]) (λ⟨k,nx⟩=>nx) (0,_) (hA:=⟨iv,rfl,trivial⟩) (round:=?_)
 rintro⟨k,nx⟩ ⟨hk,hv, -⟩
 simp only[XY,XZ]
 have hsl:=ZbW s k
 have hsn:=(GV s).2
 refine oL Tp ?_ ?_ (hp:=rfl)<;>intro c3
 .
  have hk2:k<(jD s).length:=by simpa using c3
  have ff:=qA (nK hk2) ff;refine ae ?_;refine ah ?_;refine aa Tp ?_ (hok:=ig @Zdz);refine aa Tp ?_ (hok:=by(try simp only[go_sem,ff]);all_goals (refine⟨λ_=>⟨om,om⟩,λh1 _=>⟨h1,λh3=>by rw[h1,h3];rfl⟩⟩))
  refine cd ?_ ?_<;>intro c4
  . refine aa Tp ?_;exact fo 0 (k:=by rw[XV c1,XV (by omega),hv,iF,X3 hk2,Zeq c4.1 (by first|exact c4.2|(rcases c4.2 with h|h;exact .inl (by omega);exact .inr h))];rfl)
  refine aj ?_;refine ai Tp ?_
  show ∃_,_
  exact ay (k+1,_) (h1:=⟨iv,(by(try dsimp only);rw[hv,iF,if_pos hk2,Zep (by first|exact c4|(rcases c4 with h|h;exact .inl h;exact .inr ⟨om,h.2⟩))];rfl),trivial⟩)
 refine aK ?_
 refine aa Tp ?_
 exact fo 0 (k:=by rw[XV c1,XV (by omega),hv,iF,XV (by omega),ZF];congr 2;exact ZO.2 (by omega))
def Et(s:Str)(hs:s.length<=1000):PureCt prog 180 [.v (.string (bs s))] (.list false ((bC s).map sR)):=by
 rw[bC]
 refine oO func180 λff=>?_
 unfold f180
 refine aa Tp ?_
 refine oK Tp ?_ ?_<;>intro c1
 . refine aa Tp ?_;exact fo 0 (k:=by rw[X3 c1];rfl)
 refine aa Tp ?_ (hok:=oF (QL _ hs))
 exact fo 0 (k:=by rw[XV c1])
theorem WY:d9 prog 221=true:=by kernel_rfl
theorem Eb(s:Str):PureCt prog 157 [.v (.string (bs s))] (.b (az s)):=by
 refine oO func157 λff=>?_
 unfold f157
 refine aa Tp ?_
 refine oK Tp ?_ ?_<;>intro c1
 . refine aa Tp ?_;exact fo 0 (k:=by rw[az,X3 c1])
 refine oK Tp ?_ ?_<;>intro c3
 . refine aa Tp ?_;exact fo 0 (k:=by rw[az,XV c1,X3 (by omega)])
 refine aa Tp ?_
 refine ae ?_
 refine aa Tp ?_
 refine ah ?_
 refine Vz o5l ev func221 rfl WY (by simp[f221]) rfl (λl rL hp ha hb hn=>?_)
 unfold f221
 refine oK Tp ?_ ?_<;>intro d0
 . exact absurd d0 c1
 refine aa Tp ?_
 refine ah ?_
 refine lp (α:=(Str)×(Nat)×(Bool)×Nat) [1] (λ⟨rest,n,wild,nx⟩=>(n<=8)/\(rest.length<=s.length)/\(7<nx)/\(az s=qU (pW rest) n wild)/\True) (λ⟨rest,n,wild,nx⟩=>rest.length) (λ⟨rest,n,wild,nx⟩=>[(4,.v (.string (bs rest)))]) (λ⟨rest,n,wild,nx⟩=>[(0,⟨4,[[.b false]]⟩),(6,⟨3,[[.i n]]⟩),(7,⟨4,[[.b wild]]⟩)]) (λ⟨rest,n,wild,nx⟩=>nx) (s,0,false,_) (hA:=⟨oW,o2t,iv,(by(try dsimp only);rw[SV,if_neg c1,if_neg (by omega)]),trivial⟩) (round:=?_)
 rintro⟨rest,n,wild,nx⟩ ⟨hn8,hl,hx,hv, -⟩
 simp only[XY,XZ]
 have hL:=IM rest 46
 have n0:0<nx:=by omega
 have n6:6<nx:=by omega
 have n7:7<nx:=by omega
 refine ah ?_
 refine aa Tp ?_ (hok:=ig @Mk)
 refine ae ?_
 refine ae ?_
 refine Vw (C:=Tp) (r:=rL) 5 (dN rfl) rfl rfl rfl o4l ?_ ev o3b o5l ev (by rw[hp];rfl) (by rw[hp,hn];show ∀p∈[13],p<30;decide) ?_
 .
  try simp only[go_sem,ff]
  all_goals (first|done|(repeat' (with_reducible apply And.intro))<;>first|omega|(with_reducible assumption)|(intros;omega)|(intros;simp only[XX,X4,Yc,XU,Yd,Ya,Yq]at *;omega)|(simp_all;done)|(simp_all;omega))
 rw[ha,hb,hp,hn]
 show DW _ _ _ _ { n:=_,t:=yS _ [13] _,h:=_,nx:=_ }
 simp only[Qz,Qy]
 refine ai Tp ?_
 refine⟨rfl,?_⟩
 refine ah ?_
 refine aa Tp ?_
 refine oK Tp ?_ ?_ (hp:=rfl) (hq:=rfl)<;>intro c9
 .
  refine aa Tp ?_;refine aN ?_;refine⟨rfl,false,some .ret,⟨rfl,rfl⟩,⟨_,_,_,_,_,_⟩,by simp only[X9,X6,S.put,go_sem,ff];exact rfl,?_,?_⟩
  .
   try simp only[go_sem,ff]
   all_goals (first|done|(repeat' (with_reducible apply And.intro))<;>first|omega|(with_reducible assumption)|(intros;omega)|(intros;simp only[XX,X4,Yc,XU,Yd,Ya,Yq]at *;omega)|(simp_all;done)|(simp_all;omega))
  try simp only[aH]
  refine cd ?_ ?_ (hp:=rfl) (hq:=rfl)<;>intro d3
  . refine aN ?_;refine⟨.inr rfl,some .ret,rfl,?_⟩;exact fin 0 (hr:=oS (k:=by first|(rw[hv,sO,OZ c9];done)|(rw[hv,sO,OY c9 c12])))
  simp at d3
 have c9b:=Zjn c9
 refine aa Tp ?_
 refine aa Tp ?_ (hok:=ig @ZgE)
 refine cd (λc12=>?_) (λc12=>?_) (hp:=rfl) (hq:=rfl)
 .
  refine aa Tp ?_;refine aN ?_;refine⟨rfl,false,some .ret,⟨rfl,rfl⟩,⟨_,_,_,_,_,_⟩,by simp only[X9,X6,S.put,go_sem,ff];exact rfl,?_,?_⟩
  .
   try simp only[go_sem,ff]
   all_goals (first|done|(repeat' (with_reducible apply And.intro))<;>first|omega|(with_reducible assumption)|(intros;omega)|(intros;simp only[XX,X4,Yc,XU,Yd,Ya,Yq]at *;omega)|(simp_all;done)|(simp_all;omega))
  try simp only[aH]
  refine cd ?_ ?_ (hp:=rfl) (hq:=rfl)<;>intro d3
  . refine aN ?_;refine⟨.inr rfl,some .ret,rfl,?_⟩;exact fin 0 (hr:=oS (k:=by first|(rw[hv,sO,OZ c9];done)|(rw[hv,sO,OY c9 c12])))
  simp at d3
 refine aj ?_
 refine⟨rfl,true,none,⟨rfl,rfl⟩,⟨_,_,_,_,_,_⟩,by simp only[X9,X6,S.put,go_sem,ff];exact rfl,?_,?_⟩
 .
  try simp only[go_sem,ff]
  all_goals (first|done|(repeat' (with_reducible apply And.intro))<;>first|omega|(with_reducible assumption)|(intros;omega)|(intros;simp only[XX,X4,Yc,XU,Yd,Ya,Yq]at *;omega)|(simp_all;done)|(simp_all;omega))
 try simp only[aH]
 refine cd ?_ ?_<;>intro d3
 . refine aN ?_;refine⟨.inr rfl,none,rfl,?_⟩;refine aa Tp ?_;exact fo 0 (k:=by rw[hv,sO,OX c9 c12,X3 d3];rfl)
 refine aj ?_
 refine ai Tp ?_
 show ∃_,_
 exact ay (rest.take (fT rest 46).toNat,n+1,((rest.drop (fT rest 46+1).toNat)==[42]),_) (h1:=⟨oW,o2t,iv,(by(try dsimp only);rw[hv,sO,OX c9 c12,if_neg d3]),trivial⟩) (h2:=by show(_:Nat)<_;(simp;omega))
def zl(s:Str):PureCt prog 117 [.v (.string (bs s))] (.b (az s)):=by
 refine oO func117 λff=>?_
 unfold f117
 refine aa Tp ?_
 refine aa Tp ?_ (hok:=oF (Eb _))
 exact fp 0
def Zjs:Go.Shelf.Ren:={ f:=λx=>match x with|213=>254|265=>274|n=>n,t:=λx=>match x with|3=>3|9=>9|n=>n,g:=λn=>n }
def Zjt:Go.Proofs.Lays.n213 prog Zjs:={
 mixed:=oM
 f213:=func254.trans (by kernel_rfl)
 f265:=func274.trans (by kernel_rfl)
 t3:=underlying3
 a3:=Tryz.isAgg3
 z3:=Tryz.sizeOf3
 v3:=Tryz.zeroValue3
 t9:=underlying9
 a9:=Tryz.isAgg9
 z9:=Tryz.sizeOf9
 v9:=Tryz.zeroValue9 }
def Zjr(a b:Str):PureCt prog 254 [.v (.string (bs a)),.v (.string (bs b))] (.i (Go.Lib.compareBytes a b)):=by
 refine⟨by kernel_rfl,by simp[D.nr],λw I vs hI hg hr=>?_⟩
 obtain⟨x,l,rfl,h1,h2⟩:=hr.of_cons
 obtain⟨y,l,rfl,h3,h4⟩:=h2.of_cons
 rw[h4.of_nil,h1.v_inv,h3.v_inv]
 have:=Go.Proofs.Any.bytealg_CompareString Zjt (bs a) (bs b) w
 refine callsIn_wide.2 (this.mono ?_)
 rintro e w' ⟨rfl,rfl⟩
 refine⟨_,rfl,⟨rfl,rfl,rfl,XW _,XW _,λ_ _=>rfl⟩,?_⟩
 rw[tN,tN]
 exact .v _
def Zjq(a:Str)(b:Str):PureCt prog 225 [.v (.string (bs a)),.v (.string (bs b))] (.i (Go.Lib.compareBytes a b)):=by
 refine oO func225 λff=>?_
 unfold f225
 refine aa Tp ?_
 refine aa Tp ?_ (hok:=oF (Zjr _ _))
 exact fp 0
def Zd6(s:Str)(h:H)(n:Nat):bT prog 224 [.v (.string (bs s))] h n (λd h' n'=>d = .fn (.func 253) [] [.mptr (n+5) 0 0,.mptr (n+4) 0 0]/\h'=upd (upd h (n+4) (some ⟨9,[[.v (.string (bs s))]]⟩)) (n+5) (some ⟨4,[[.b (s != [46])]]⟩)/\n'=n+10):=by
 refine oP func224 λhnone ff=>?_
 unfold f224
 have ff:=qA (nH (n+4) (n+5)) ff
 refine oD Tp ?_
 refine aN ?_
 exact bZ (upd (upd h (n+4) (some ⟨9,[[.v (.string (bs s))]]⟩)) (n+5) (some ⟨4,[[.b (s != [46])]]⟩)) (hr:=by(try simp only[go_sem,ff]);all_goals (exact⟨rfl,rfl,rfl⟩)) (hh:=by intro q;left;by_cases e1:q=n+5<;>by_cases e2:q=n+4<;>simp[upd,e1,e2])
def Zd9(more:Bool)(rest:Str)(m r:Nat)(h:H)(n:Nat)(hm:h m=some ⟨4,[[.b more]]⟩)(hr:h r=some ⟨9,[[.v (.string (bs rest))]]⟩)(hmr:m≠r)(hl:rest.length<=1000):bT prog 253 [.mptr m 0 0,.mptr r 0 0] h n (λd h' n'=>d = .tuple [.v (.string (bs (xI more rest))),.b more]/\h'=upd (upd h m (some ⟨4,[[.b (sS more rest)]]⟩)) r (some ⟨9,[[.v (.string (bs (sQ more rest)))]]⟩)/\n<=n'):=by
 refine oP func253 λhnone ff=>?_
 unfold f253
 have hrm:r≠m:=λe=>hmr e.symm
 have hL:=IM rest 46
 have ff:=qE @hm @hr @hmr @hrm ff
 refine aa Tp ?_
 refine oK Tp ?_ ?_<;>intro c1
 . refine aa Tp ?_;refine aN ?_;exact bZ (upd (upd h m (some ⟨4,[[.b (sS more rest)]]⟩)) r (some ⟨9,[[.v (.string (bs (sQ more rest)))]]⟩)) (hr:=oS (k:=o3w)) (hh:=o1y)
 refine aa Tp ?_ (hok:=ig @Mk)
 refine aa Tp ?_
 refine ae ?_
 refine aa Tp ?_
 refine cd ?_ ?_<;>intro c2
 . refine ai Tp ?_;refine aa Tp ?_;refine aN ?_;exact bZ (upd (upd h m (some ⟨4,[[.b (sS more rest)]]⟩)) r (some ⟨9,[[.v (.string (bs (sQ more rest)))]]⟩)) (hr:=oS (k:=o3w)) (hh:=o1y)
 refine ai Tp ?_
 refine aa Tp ?_
 refine aN ?_
 exact bZ (upd (upd h m (some ⟨4,[[.b (sS more rest)]]⟩)) r (some ⟨9,[[.v (.string (bs (sQ more rest)))]]⟩)) (hr:=oS (k:=o3w)) (hh:=o1y)
def LV(a:Str)(b:Str):PureCt prog 161 [.v (.string (bs a)),.v (.string (bs b))] (.tuple [.i (if az a&&az b then kP a b else 0),.i (if az a&&az b then 0 else 11)]):=by
 refine oO func161 λff=>?_
 unfold f161
 refine oC Tp ?_
 refine oK Tp (λc1=>?_) (λc1=>?_) (hok:=by(try simp only[go_sem,ff]);all_goals (first|done|(simp only[Eb,and_true,implies_true];done)|((repeat' (with_reducible apply And.intro))<;>first|(intros;exact Eb _)))) (hp:=rfl)
 . refine aa Tp ?_;exact fo 1 (k:=by(have e:(az a&&az b)=false:=by revert c1;cases az a<;>cases az b<;>simp);rw[e];rfl)
 refine oK Tp ?_ ?_<;>intro c2
 . refine aa Tp ?_;exact fo 1 (k:=by rw[c1.1,c1.2,kP,X3 c2];rfl)
 refine ae (bI Tp 1 (hct:=by exact Zd6 b _ _) (hk:=?_))
 rintro res h2 n2 ⟨rfl,rfl,rfl⟩
 refine bH Tp ?_
 refine aa Tp ?_
 refine ae ?_
 refine aa Tp ?_
 refine ah ?_
 refine Vz o5l ev func221 rfl WY (by simp[f221]) rfl (λl rL hp ha hb hn=>?_)
 unfold f221
 refine oK Tp ?_ ?_<;>intro d0
 . refine aN ?_;refine⟨.inr rfl,none,rfl,?_⟩;refine aa Tp ?_;exact fo 1 (k:=o2b)
 refine aa Tp ?_
 refine ah ?_
 refine lp (α:=(Str)×(Bool)×(Str)×Nat) [1] (λ⟨rest,more,ug,nx⟩=>(rest.length<=60)/\(ug.length<=60)/\(30<nx)/\(uK (gZ a) (gZ b)=uK (pW rest) (pl more ug))/\True) (λ⟨rest,more,ug,nx⟩=>rest.length) (λ⟨rest,more,ug,nx⟩=>[(4,.v (.string (bs rest)))]) (λ⟨rest,more,ug,nx⟩=>[(0,⟨3,[[.i 0]]⟩),(1,⟨35,[[.i 0]]⟩),(22,⟨9,[[.v (.string (bs ug))]]⟩),(23,⟨4,[[.b more]]⟩),(30,⟨287,[[.fn (.func 253) [] [.mptr 23 0 0,.mptr 22 0 0]]]⟩)]) (λ⟨rest,more,ug,nx⟩=>nx) (a,(b != [46]),b,_) (hA:=⟨(gI c1.1),(gI c1.2),iv,(by(try dsimp only);rw[Zdy b,gZ,if_neg d0]),trivial⟩) (round:=?_)
 rintro⟨rest,more,ug,nx⟩ ⟨hl,hl2,hx,hv, -⟩
 simp only[XY,XZ]
 have hL:=IM rest 46
 have n0:0<nx:=by omega
 have n1:1<nx:=by omega
 have n22:22<nx:=by omega
 have n23:23<nx:=by omega
 refine ah ?_
 refine aa Tp ?_ (hok:=ig @Mk)
 refine ae ?_
 refine ae ?_
 refine Vw (C:=Tp) (r:=rL) 5 (dN rfl) rfl rfl rfl o4l ?_ ev o3b o5l ev (by rw[hp];rfl) (by rw[hp,hn];show ∀p∈[32],p<46;decide) ?_
 .
  try simp only[go_sem,ff]
  all_goals (first|done|(repeat' (with_reducible apply And.intro))<;>first|omega|(with_reducible assumption)|(intros;omega)|(intros;simp only[XX,X4,Yc,XU,Yd,Ya,Yq]at *;omega)|(simp_all;done)|(simp_all;omega))
 rw[ha,hb,hp,hn]
 show DW _ _ _ _ { n:=_,t:=yS _ [32] _,h:=_,nx:=_ }
 simp only[Qz,Qy]
 refine ai Tp ?_
 refine⟨rfl,?_⟩
 refine ah ?_
 refine ae (bI Tp 1 (hct:=by exact Zd9 more ug 23 22 _ _ rfl rfl (by decide) om) (hk:=?_))
 rintro res h2 n2 ⟨rfl,rfl,hn2⟩
 refine bH Tp ?_
 refine oK Tp (λc11=>?_) (λc11=>?_) (hp:=rfl) (hq:=rfl)
 .
  refine aa Tp ?_;refine aN ?_;refine⟨rfl,false,some .ret,⟨rfl,rfl⟩,⟨_,_,_,_,_,_⟩,by simp only[X9,X6,S.put,go_sem,ff];exact rfl,?_,?_⟩
  .
   try simp only[go_sem,ff]
   all_goals (first|done|(repeat' (with_reducible apply And.intro))<;>first|omega|(with_reducible assumption)|(intros;omega)|(intros;simp only[XX,X4,Yc,XU,Yd,Ya,Yq]at *;omega)|(simp_all;done)|(simp_all;omega))
  try simp only[aH]
  refine cd ?_ ?_ (hp:=rfl) (hq:=rfl)<;>intro d3
  . refine aN ?_;refine⟨.inr rfl,some .ret,rfl,?_⟩;exact fin 1 (hr:=oS (k:=o1j))
  simp at d3
 refine aa Tp ?_ (hok:=oF (Zjq _ _))
 refine aa Tp ?_
 refine cd (λc14=>?_) (λc14=>?_) (hp:=rfl) (hq:=rfl)
 .
  refine aa Tp ?_;refine aN ?_;refine⟨rfl,false,some .ret,⟨rfl,rfl⟩,⟨_,_,_,_,_,_⟩,by simp only[X9,X6,S.put,go_sem,ff];exact rfl,?_,?_⟩
  .
   try simp only[go_sem,ff]
   all_goals (first|done|(repeat' (with_reducible apply And.intro))<;>first|omega|(with_reducible assumption)|(intros;omega)|(intros;simp only[XX,X4,Yc,XU,Yd,Ya,Yq]at *;omega)|(simp_all;done)|(simp_all;omega))
  try simp only[aH]
  refine cd ?_ ?_ (hp:=rfl) (hq:=rfl)<;>intro d3
  . refine aN ?_;refine⟨.inr rfl,some .ret,rfl,?_⟩;exact fin 1 (hr:=oS (k:=o1j))
  simp at d3
 refine aj ?_
 refine⟨rfl,true,none,⟨rfl,rfl⟩,⟨_,_,_,_,_,_⟩,by simp only[X9,X6,S.put,go_sem,ff];exact rfl,?_,?_⟩
 .
  try simp only[go_sem,ff]
  all_goals (first|done|(repeat' (with_reducible apply And.intro))<;>first|omega|(with_reducible assumption)|(intros;omega)|(intros;simp only[XX,X4,Yc,XU,Yd,Ya,Yq]at *;omega)|(simp_all;done)|(simp_all;omega))
 try simp only[aH]
 refine cd ?_ ?_<;>intro d3
 . refine aN ?_;refine⟨.inr rfl,none,rfl,?_⟩;refine aa Tp ?_;exact fo 1 (k:=o2b)
 refine aj ?_
 refine ai Tp ?_
 show ∃_,_
 exact ay (rest.take (fT rest 46).toNat,sS more ug,sQ more ug,_) (h1:=⟨o2t,(by(try dsimp only);first|omega|(have:=Zeg more ug;omega)),iv,(by(try dsimp only);rw[hv,NV c11 c14,if_neg d3]),trivial⟩) (h2:=by show(_:Nat)<_;(simp;omega))
def Eu(a:Str)(b:Str)(ha:a.length<=1000)(hb:b.length<=1000):PureCt prog 188 [.v (.string (bs a)),.v (.string (bs b))] (.i (fQ a b)):=by
 rw[Ze5]
 refine oO func188 λff=>?_
 unfold f188
 have hl:=(RP a).2
 have hm:=(RP b).2
 refine aa Tp ?_
 refine aa Tp ?_ (hok:=oF (Et _ ha))
 refine aa Tp ?_ (hok:=oF (Et _ hb))
 refine ae ?_
 refine aa Tp ?_
 refine ah ?_
 refine lp (α:=(Nat)×Nat) [5,6] (λ⟨k,nx⟩=>(1<=k)/\(k<=(bC a).length+1)/\(zg (bC a) (bC b) 1=zg (bC a) (bC b) k)/\True) (λ⟨k,nx⟩=>(bC a).length+1-k) (λ⟨k,nx⟩=>[(7,.i k)]) (λ⟨k,nx⟩=>[]) (λ⟨k,nx⟩=>nx) (1,_) (hA:=⟨iv,iv,rfl,trivial⟩) (round:=?_)
 rintro⟨k,nx⟩ ⟨hk,hk1,hv, -⟩
 simp only[XY,XZ]
 refine oL Tp ?_ ?_ (hp:=rfl) (hq:=rfl)<;>intro c1
 .
  have hk2:k<=(bC a).length/\k<=(bC b).length:=by simp only[XU,XX]at c1;omega
  have e1:(((bC a).length:Int)-k).toNat=(bC a).length-k:=by omega
  have e2:(((bC b).length:Int)-k).toNat=(bC b).length-k:=by omega
  have g1:(bC a).length-k<(bC a).length:=by omega
  have g2:(bC b).length-k<(bC b).length:=by omega
  have ff:=qE @e1 @e2 (nK g1) (nK g2) ff;refine ae ?_;refine ah ?_;refine oC Tp ?_;refine oK Tp ?_ ?_ (hp:=rfl) (hq:=rfl)<;>intro c2
  . refine aa Tp ?_;exact fo 0 (k:=by rw[hv,AO,X3 hk2,X3 c2])
  refine aa Tp ?_;refine cd ?_ ?_ (hp:=rfl) (hq:=rfl)<;>intro c3
  . refine aa Tp ?_;exact fo 0 (k:=by rw[hv,AO,X3 hk2,XV (by rw[c2];simp),X3 c3])
  refine aj ?_;refine ai Tp ?_
  show ∃_,_
  exact ay (k+1,_) (h1:=⟨iv,iv,(by(try dsimp only);rw[hv,AO,if_pos hk2,if_neg (by rw[c2];simp),if_neg (by rw[c3];simp)]),trivial⟩)
 have hk2 : ¬(k<=(bC a).length/\k<=(bC b).length):=by simp only[Yy,X4]at c1;omega
 refine aK ?_
 refine oK Tp ?_ ?_<;>intro c4
 . refine aa Tp ?_;exact fo 0 (k:=by rw[hv,AO,XV hk2,X3 (by omega)])
 refine oK Tp ?_ ?_<;>intro c5
 . refine aa Tp ?_;exact fo 0 (k:=by rw[hv,AO,XV hk2,XV (by omega),X3 (by omega)])
 refine aa Tp ?_
 exact fo 0 (k:=by rw[hv,AO,XV hk2,XV (by omega),XV (by omega)])
def Zdw(a:Str)(b:Str):PureCt prog 186 [.v (.string (bs a)),.v (.string (bs b))] (.tuple [.i (if az a&&az b then kP a b else 0),.i (if az a&&az b then 0 else 11)]):=by
 refine oO func186 λff=>?_
 unfold f186
 refine aa Tp ?_
 refine aa Tp ?_ (hok:=oF (lJ _))
 refine aa Tp ?_ (hok:=oF (lJ _))
 refine oK Tp ?_ ?_ (hp:=rfl)<;>intro c1
 .
  have e:(az a&&az b)=false:=by revert c1;cases az a<;>cases az b<;>simp
  refine aa Tp ?_;exact fo 1 (k:=by rw[e];rfl)
 have e:(az a&&az b)=true:=by rw[c1.1,c1.2];rfl
 have la:=gI c1.1
 have lb:=gI c1.2
 refine aa Tp ?_ (hok:=ig @Eu)
 exact fo 1 (k:=by rw[e,LU];rfl)
def D6(x:Int)(lo:Int)(hi:Int):PureCt prog 190 [.i x,.i lo,.i hi] (.b (aV x lo hi)):=by
 refine oO func190 λff=>?_
 unfold f190
 refine oC Tp ?_
 exact fp 0
theorem Kk(x:Int)(lo:Int)(hi:Int):PureCt prog 265 [.v (.int .u8 x),.v (.int .u8 lo),.v (.int .u8 hi)] (.b (aV x lo hi)):=by
 refine oO func265 λff=>?_
 unfold f265
 refine oC Tp ?_
 exact fp 0
def pU(x:Int)(lo:Int)(hi:Int):PureCt prog 181 [.i x,.i lo,.i hi] (.b (aV x lo hi)):=by
 refine oO func181 λff=>?_
 unfold f181
 refine oC Tp ?_
 exact fp 0
def SL(x:Int):PureCt prog 226 [.i x] (.b (x != x)):=by
 refine oO func226 λff=>?_
 unfold f226
 refine oC Tp ?_
 exact fp 0
def SK(x:Str):PureCt prog 264 [.v (.string (bs x))] (.b (x != x)):=by
 refine oO func264 λff=>?_
 unfold f264
 refine oC Tp ?_
 exact fp 0
def F5(x:Int)(y:Int):PureCt prog 162 [.i x,.i y] (.i (cmpI x y)):=by
 refine oO func162 λff=>?_
 unfold f162
 refine aa Tp ?_
 refine aa Tp ?_ (hok:=by(try simp only[go_sem,ff]);all_goals (have h:=SL x;simp only[bne_self_eq_false]at h;exact h))
 refine aa Tp ?_ (hok:=by(try simp only[go_sem,ff]);all_goals (have h:=SL y;simp only[bne_self_eq_false]at h;exact h))
 refine oK Tp ?_ ?_ (hp:=rfl)<;>intro c1
 . simp at c1
 refine oK Tp ?_ ?_ (hp:=rfl)<;>intro c2
 . simp at c2
 refine oK Tp ?_ ?_<;>intro c3
 . refine aa Tp ?_;exact fo 0 (k:=o2f)
 refine oK Tp ?_ ?_<;>intro c4
 . refine aa Tp ?_;exact fo 0 (k:=o2f)
 refine aa Tp ?_
 exact fo 0 (k:=o2f)
def WA(x:Str)(y:Str):PureCt prog 231 [.v (.string (bs x)),.v (.string (bs y))] (.i (uJ x y)):=by
 refine oO func231 λff=>?_
 unfold f231
 refine aa Tp ?_
 refine aa Tp ?_ (hok:=by(try simp only[go_sem,ff]);all_goals (have h:=SK x;simp only[bne_self_eq_false]at h;exact h))
 refine aa Tp ?_ (hok:=by(try simp only[go_sem,ff]);all_goals (have h:=SK y;simp only[bne_self_eq_false]at h;exact h))
 refine oK Tp ?_ ?_ (hp:=rfl)<;>intro c1
 . simp at c1
 refine oK Tp ?_ ?_ (hp:=rfl)<;>intro c2
 . simp at c2
 refine oK Tp ?_ ?_<;>intro c3
 . refine aa Tp ?_;exact fo 0 (k:=o2f)
 refine oK Tp ?_ ?_<;>intro c4
 . refine aa Tp ?_;exact fo 0 (k:=o2f)
 refine aa Tp ?_
 exact fo 0 (k:=o2f)
def Zg6(s:Str)(p:Str):PureCt prog 189 [.v (.string (bs s)),.v (.string (bs p))] (.b (yh s p)):=by
 refine oO func189 λff=>?_
 unfold f189
 refine oC Tp ?_
 exact fo 0 (k:=by have e:decide ((p.length:Int)<=s.length)=decide (p.length<=s.length):=ZO.2 (by omega);rw[yh,e])
def MO(s:Str)(p:Str):PureCt prog 118 [.v (.string (bs s)),.v (.string (bs p))] (.b (yh s p)):=by
 refine oO func118 λff=>?_
 unfold f118
 refine aa Tp ?_
 refine aa Tp ?_ (hok:=ig @Zg6)
 exact fp 0
def Mt(s:Str):PureCt prog 191 [.v (.string (bs s))] (.b (jC s)):=by
 refine oO func191 λff=>?_
 unfold f191
 refine aa Tp ?_
 refine aa Tp ?_ (hok:=ig @MO)
 exact fo 0 (k:=by rw[Af])
def pV(s:Str):PureCt prog 183 [.v (.string (bs s))] (.b (jC s)):=by
 refine oO func183 λff=>?_
 unfold f183
 refine oC Tp ?_
 exact fo 0 (k:=by rw[jC];congr 2;rw[YK];simp only[XU,XX,YA];omega)
def ZgF(s:Str):PureCt prog 236 [.v (.string (bs s))] (.b (vM s)):=by
 rw[vM]
 refine oO func236 λff=>?_
 unfold f236
 have e1:((s.length:Int)-1).toNat=s.length-1:=by omega
 have ff:=qA @e1 ff
 refine aa Tp ?_
 have hin:aV (s.length:Int) 1 40=true->(1:Int)<=s.length/\(s.length:Int)<=40:=by intro h;simp only[aV,XU,XX]at h;exact h
 refine oK Tp (λc1=>?_) (λc1=>?_) (hok:=by(try simp only[go_sem,ff]);all_goals (refine⟨⟨⟨D6 _ _ _,λh=>by have:=hin h;omega⟩,λh=>?_⟩,λh=>?_⟩<;>(rw[Yd,Yq]at h;have:=hin h.1;omega)))
 .
  try simp only[aV,XU,Yy,XX,X4]at c1
  refine aa Tp ?_;exact fo 0 (k:=o4i)
 try simp only[aV,XU,Yy,XX,X4]at c1
 refine ae ?_
 refine aa Tp ?_
 refine ah ?_
 refine lp (α:=(Nat)×Nat) [0,23] (λ⟨k,nx⟩=>(k<=s.length)/\(aA s.length (tF s) 0=aA s.length (tF s) k)/\True) (λ⟨k,nx⟩=>s.length-k) (λ⟨k,nx⟩=>[(24,.i k)]) (λ⟨k,nx⟩=>[]) (λ⟨k,nx⟩=>nx) (0,_) (hA:=⟨iv,rfl,trivial⟩) (round:=?_)
 rintro⟨k,nx⟩ ⟨hk,hv, -⟩
 simp only[XY,XZ]
 refine aa Tp ?_
 refine ae ?_
 refine cd ?_ ?_ (hp:=rfl)<;>intro c2
 .
  have hk2:k<s.length:=by simpa using c2
  refine aj ?_;refine ae ?_;refine ah ?_;refine oC Tp ?_;refine aa Tp ?_ (hok:=by(try simp only[go_sem,ff]);all_goals (first|done|(simp only[Kk,and_true,implies_true];done)|((repeat' (with_reducible apply And.intro))<;>first|(intros;exact Kk _ _ _)|(intros;simp_all;done))))
  refine cd ?_ ?_<;>intro c3
  . refine aa Tp ?_;exact fo 0 (k:=o1g)
  refine aj ?_;refine ai Tp ?_
  show ∃_,_
  exact ay (k+1,_) (h1:=⟨iv,o0e,trivial⟩)
 refine aK ?_
 refine aa Tp ?_
 exact fo 0 (k:=o2e)
def Zdb(s:Str):PureCt prog 234 [.v (.string (bs s))] (.b (vM s)):=by
 rw[vM]
 refine oO func234 λff=>?_
 unfold f234
 have e1:((s.length:Int)-1).toNat=s.length-1:=by omega
 have ff:=qA @e1 ff
 refine oC Tp ?_
 refine oK Tp ?_ ?_<;>intro c1
 . refine aa Tp ?_;exact fo 0 (k:=o4i)
 refine ae ?_
 refine aa Tp ?_
 refine ah ?_
 refine lp (α:=(Nat)×Nat) [0,3] (λ⟨k,nx⟩=>(k<=s.length)/\(aA s.length (tF s) 0=aA s.length (tF s) k)/\True) (λ⟨k,nx⟩=>s.length-k) (λ⟨k,nx⟩=>[(4,.i k)]) (λ⟨k,nx⟩=>[]) (λ⟨k,nx⟩=>nx) (0,_) (hA:=⟨iv,rfl,trivial⟩) (round:=?_)
 rintro⟨k,nx⟩ ⟨hk,hv, -⟩
 simp only[XY,XZ]
 refine oL Tp ?_ ?_ (hp:=rfl)<;>intro c2
 .
  have hk2:k<s.length:=by simpa using c2
  refine ae ?_;refine ah ?_;refine oC Tp ?_;refine cd ?_ ?_<;>intro c3
  . refine aa Tp ?_;exact fo 0 (k:=o1g)
  refine aj ?_;refine ai Tp ?_
  show ∃_,_
  exact ay (k+1,_) (h1:=⟨iv,o0e,trivial⟩)
 refine aK ?_
 refine aa Tp ?_
 exact fo 0 (k:=o2e)
def Zdx(a:Dat)(b:Dat):PureCt prog 185 [.agg a.d,.agg b.d] (.b (less a b)):=by
 rw[less]
 refine oO func185 λff=>?_
 unfold f185
 refine aa Tp ?_
 refine oK Tp ?_ ?_ (hp:=rfl) (hq:=rfl)<;>intro c1
 . refine aa Tp ?_;exact fo 0 (k:=by rw[X3 c1];rfl)
 refine oK Tp ?_ ?_ (hp:=rfl) (hq:=rfl)<;>intro c2
 . refine aa Tp ?_;exact fo 0 (k:=by rw[XV (by rw[c1];simp),X3 c2])
 refine aa Tp ?_
 exact fo 0 (k:=by rw[XV (by rw[c1];simp),XV (by rw[c2];simp)])
def WB(l:List Int):PureCt prog 230 [.list false (l.map iR)] (.i (uZ l 0)):=by
 refine oO func230 λff=>?_
 unfold f230
 refine Zh9 0 rfl λhlen=>?_
 simp only[Zk,maxLen]at hlen
 refine oC Tp ?_
 refine ae ?_
 refine aa Tp ?_
 refine ah ?_
 refine lp (α:=(Nat)×Nat) [3,6,7] (λ⟨k,nx⟩=>(k<=l.length)/\(uZ l 0=uZ l k)/\True) (λ⟨k,nx⟩=>l.length-k) (λ⟨k,nx⟩=>[(8,.i k)]) (λ⟨k,nx⟩=>[]) (λ⟨k,nx⟩=>nx) (0,_) (hA:=⟨iv,rfl,trivial⟩) (round:=?_)
 rintro⟨k,nx⟩ ⟨hk,hv, -⟩
 simp only[XY,XZ]
 refine aa Tp ?_
 refine ae ?_
 refine cd ?_ ?_ (hp:=rfl)<;>intro c1
 .
  have hk2:k<l.length:=by simpa using c1
  have ff:=qA (UO hk2) ff;refine aj ?_;refine ae ?_;refine ah ?_;refine oC Tp ?_;refine cd ?_ ?_ (hp:=rfl) (hq:=rfl)<;>intro c2
  . refine aa Tp ?_;exact fo 0 (k:=by rw[hv,AP,X3 hk2,X3 c2])
  refine aj ?_;refine ai Tp ?_
  show ∃_,_
  exact ay (k+1,_) (h1:=⟨iv,(by(try dsimp only);rw[hv,AP,if_pos hk2,if_neg (by rw[c2];simp)]),trivial⟩)
 refine aK ?_
 refine aa Tp ?_
 exact fo 0 (k:=by rw[hv,AP,XV (by omega)])
def WC(a:Dat)(b:Dat):PureCt prog 193 [.agg a.d,.agg b.d] (.i (dV a b)):=by
 refine oO func193 λff=>?_
 unfold f193
 refine aa Tp ?_
 refine aa Tp ?_ (hok:=oJ WA F5 (WB [_,_,_]))
 exact fo 0 (k:=by rw[<-R9];rfl)
def Zdc(k:Int):PureCt prog 182 [.i k] (.b (Am k)):=by
 refine oO func182 λff=>?_
 unfold f182
 refine oC Tp ?_
 exact fo 0 (k:=by first|rfl|(unfold Am;simp))
def O3(r:vT)(d:Dat)(hr:r.even=true->0<=r.n0):PureCt prog 192 [.agg r.d,.agg d.d] (.b (jQ r d)):=by
 refine oO func192 λff=>?_
 unfold f192
 refine aa Tp ?_
 refine oK Tp (λc1=>?_) (λc1=>?_) (hok:=by(try simp only[go_sem,ff]);all_goals (first|done|((repeat' (with_reducible apply And.intro))<;>first|(intros;exact D6 _ _ _)|(intro h;simp only[XU,Ya,Yd,Yq,jL]at h;have:=hr h.2;omega)|(intros;simp_all;done))))
 . refine aa Tp ?_;exact fo 0 (k:=by rcases c1 with(h|h)|⟨h1,h2⟩<;>simp[jQ, *])
 refine ae ?_
 refine aa Tp ?_
 refine ah ?_
 refine aa Tp ?_
 refine cd ?_ ?_<;>intro c2
 . refine aa Tp ?_ (hok:=oI zl Mt);exact fo 0 (k:=o3m)
 refine aa Tp ?_
 refine cd ?_ ?_<;>intro c3
 . refine aa Tp ?_ (hok:=oF (zl _));exact fo 0 (k:=o3m)
 refine aa Tp ?_
 refine cd ?_ ?_<;>intro c4
 . refine aa Tp ?_ (hok:=oF (ZgF _));exact fo 0 (k:=o3m)
 refine aj ?_
 refine aa Tp ?_
 exact fo 0 (k:=by obtain⟨⟨h1,h2⟩,h3⟩:=c1;rcases h3 with h3|h3<;>simp[jQ,xy, *]<;>cases d.t<;>rfl)
def ZdJ(k:Int)(d:Dat):PureCt prog 184 [.i k,.agg d.d] (.b (nZ k d)):=by
 refine oO func184 λff=>?_
 unfold f184
 refine aa Tp ?_
 refine ae ?_
 refine aa Tp ?_
 refine ah ?_
 refine aa Tp ?_
 refine cd ?_ ?_<;>intro c1
 .
  refine aa Tp ?_ (hok:=o0h)
  exact fo 0 (k:=by simp[nZ, *])
 refine oL Tp ?_ ?_<;>intro c2
 .
  refine cd ?_ ?_<;>intro c3
  .
   refine aa Tp ?_ (hok:=o0h)
   exact fo 0 (k:=by simp[nZ, *])
  exact absurd c2 c3
 refine ai Tp ?_
 refine cd ?_ ?_<;>intro c4
 .
  refine aa Tp ?_ (hok:=o0h)
  exact fo 0 (k:=by simp[nZ, *])
 refine aa Tp ?_
 refine cd ?_ ?_<;>intro c5
 .
  refine aa Tp ?_ (hok:=o0h)
  exact fo 0 (k:=by simp[nZ, *])
 refine aa Tp ?_
 refine cd ?_ ?_<;>intro c6
 . refine aa Tp ?_ (hok:=ig @Zdb);exact fo 0 (k:=by simp[nZ, *])
 refine oL Tp ?_ ?_<;>intro c7
 .
  refine cd ?_ ?_<;>intro c8
  .
   refine aa Tp ?_ (hok:=o0h)
   exact fo 0 (k:=by simp[nZ, *])
  exact absurd c7 c8
 refine ai Tp ?_
 refine cd ?_ ?_<;>intro c9
 .
  refine aa Tp ?_ (hok:=o0h)
  exact fo 0 (k:=by simp[nZ, *])
 refine aa Tp ?_
 refine cd (λc10=>?_) (λc10=>?_)
 .
  refine aa Tp ?_ (hok:=o0h)
  exact fo 0 (k:=by simp[nZ, *])
 refine aj ?_
 refine aa Tp ?_
 exact fo 0 (k:=by simp[nZ, *])
open Go.Cmp
def Zda{k:Nat}(h1:1<=k)(h8:k<=8):∃rest:List D,∀hh,jl prog (.v (.pointer (some ⟨1,k*8,none⟩))) hh=(gH k).d++rest:=by
 refine⟨(Hq.drop (k*8+8)).map D.v,λhh=>?_⟩
 rw[TG,glob0]
 have:k=1\/k=2\/k=3\/k=4\/k=5\/k=6\/k=7\/k=8:=by omega
 rcases this with e|e|e|e|e|e|e|e<;>subst e<;>rfl
def uW(s:RSet):PureCt prog 119 [.agg s.d] (.b (fq s)):=by
 refine oO func119 λff=>?_
 unfold f119
 refine aa Tp ?_
 refine oK Tp ?_ ?_ (hok:=oa2 @zl @D6)<;>intro c1
 . refine aa Tp ?_;exact fo 0 (k:=by rcases c1 with(h|h)|h<;>simp[fq,h])
 refine oK Tp ?_ ?_ (hok:=oF (D6 _ _ _))<;>intro c2
 . refine aa Tp ?_;exact fo 0 (k:=by simp[fq,c2])
 have hty:=jL.1 c1.1.2
 obtain⟨rest,hld⟩:=Zda (k:=s.ty.toNat) om om
 have ff:=qA @hld ff
 refine aa Tp ?_ (hok:=by(try simp only[go_sem,ff]);all_goals (first|done|omega|((repeat' (with_reducible apply And.intro))<;>first|omega|rfl)))
 refine oK Tp (λc3=>?_) (λc3=>?_) (hok:=by(try simp only[go_sem,ff]);all_goals (first|done|((repeat' (with_reducible apply And.intro))<;>first|(intros;exact Mt _)|(intros;simp_all;done)|(intros;by_cases hq:(gH s.ty.toNat).single=true<;>simp_all))))
 . refine aa Tp ?_;exact fo 0 (k:=by rcases c3 with⟨h1,h2⟩|⟨h1,h2⟩<;>simp[fq,h1,h2])
 refine ae ?_
 refine aa Tp ?_
 refine ah ?_
 refine lp (α:=(Nat)×Nat) [1,3,50,51] (λ⟨k,nx⟩=>(k<=s.data.length)/\(27<nx)/\(aA s.data.length (nQ s.ty.toNat s.data) 0=aA s.data.length (nQ s.ty.toNat s.data) k)/\True) (λ⟨k,nx⟩=>s.data.length-k) (λ⟨k,nx⟩=>[(52,.i k)]) (λ⟨k,nx⟩=>[(0,⟨60,[s.d]⟩),(27,⟨255,[(gH s.ty.toNat).d]⟩)]) (λ⟨k,nx⟩=>nx) (0,_) (hA:=⟨iv,iv,rfl,trivial⟩) (round:=?_)
 rintro⟨k,nx⟩ ⟨hk,hx,hv, -⟩
 simp only[XY,XZ]
 have n0:0<nx:=by omega
 have ff:=qB @hx @n0 ff
 refine aa Tp ?_
 refine ae ?_
 refine cd ?_ ?_ (hp:=rfl)<;>intro c4
 .
  have hk2:k<s.data.length:=by simpa using c4
  have ff:=qA (o9 hk2) ff;refine aj ?_;refine ae ?_;refine ah ?_;refine aa Tp ?_;have Bo:=jL.1 c2;have e1:((k:Int)-1).toNat=k-1:=by omega
  have hk1:k-1<s.data.length:=by omega
  have ff:=qB @e1 (o9 hk1) ff;refine aa Tp ?_ (hok:=by(try simp only[go_sem,ff]);all_goals (first|done|((repeat' (with_reducible apply And.intro))<;>first|(intros;exact O3 _ _ (QK _))|(intros;exact WC _ _)|(intros;simp_all;done)|(intro h;simp only[XU,XX]at h;have:=h.2;omega)|skip)))
  refine cd ?_ ?_<;>intro c5
  . refine aa Tp ?_;exact fo 0 (k:=by rw[KX c1 c2 c3,hv,iF,X3 hk2,V8 c5];rfl)
  refine aj ?_;refine ai Tp ?_
  show ∃_,_
  exact ay (k+1,_) (h1:=⟨iv,iv,(by(try dsimp only);rw[hv,iF,if_pos hk2,V7 c5];rfl),trivial⟩)
 refine aK ?_
 refine aa Tp ?_
 exact fo 0 (k:=by rw[KX c1 c2 c3,hv,iF,XV (by omega)])
def QM(s:RSet):PureCt prog 110 [.agg s.d] (.b (fq s)):=by
 refine oO func110 λff=>?_
 unfold f110
 refine oC Tp ?_
 refine oK Tp ?_ ?_ (hok:=oa3 @lJ @pU @Zdc)<;>intro c1
 . refine aa Tp ?_;exact fo 0 (k:=by rw[Zcp c1])
 refine oK Tp ?_ ?_ (hok:=ig @pV) (hp:=rfl) (hq:=rfl)<;>intro c2
 .
  rw[OU _ c1.1.1.1.2]at c2
  try simp only[XX,X4,Yc,XU,Yd,Ya,Yq,Yy,YA,Zm,ZC,Zr,ne_eq]at c2
  refine aa Tp ?_;exact fo 0 (k:=by rw[Zco c2])
 rw[OU _ c1.1.1.1.2]at c2
 try simp only[XX,X4,Yc,XU,Yd,Ya,Yq,Yy,YA,Zm,ZC,Zr,ne_eq]at c2
 refine ae ?_
 refine aa Tp ?_
 refine ah ?_
 refine lp (α:=(Nat)×Nat) [1,3] (λ⟨k,nx⟩=>(k<=s.data.length)/\(0<nx)/\(aA s.data.length (nQ s.ty.toNat s.data) 0=aA s.data.length (nQ s.ty.toNat s.data) k)/\True) (λ⟨k,nx⟩=>s.data.length-k) (λ⟨k,nx⟩=>[(4,.i k)]) (λ⟨k,nx⟩=>[(0,⟨60,[s.d]⟩)]) (λ⟨k,nx⟩=>nx) (0,_) (hA:=⟨iv,iv,rfl,trivial⟩) (round:=?_)
 rintro⟨k,nx⟩ ⟨hk,hx,hv, -⟩
 simp only[XY,XZ]
 have ff:=qA @hx ff
 refine oL Tp ?_ ?_ (hp:=rfl)<;>intro c3
 .
  have hk2:k<s.data.length:=by simpa using c3
  have ff:=qA (o9 hk2) ff;refine ae ?_;refine ah ?_;have Bo:=jL.1 c1.1.2;have e1:((k:Int)-1).toNat=k-1:=by omega
  have hk1:k-1<s.data.length:=by omega
  have ff:=qB @e1 (o9 hk1) ff;refine aa Tp ?_ (hok:=oa2 @ZdJ @Zdx);refine cd ?_ ?_<;>intro c4
  . refine aa Tp ?_;exact fo 0 (k:=by rw[Qv c1 c2,hv,iF,X3 hk2,Zi7 c1.1.1.1.2 c4];rfl)
  refine aj ?_;refine ai Tp ?_
  show ∃_,_
  exact ay (k+1,_) (h1:=⟨iv,iv,(by(try dsimp only);rw[hv,iF,if_pos hk2,Zi5 c1.1.1.1.2 c4];rfl),trivial⟩)
 refine aK ?_
 refine aa Tp ?_
 exact fo 0 (k:=by rw[Qv c1 c2,hv,iF,XV (by omega)])
def QR(a:RSet)(b:RSet):PureCt prog 112 [.agg a.d,.agg b.d] (.i (lK a b)):=by
 refine oO func112 λff=>?_
 unfold f112
 refine aa Tp ?_
 refine aa Tp ?_ (hok:=oF (Zdw _ _))
 refine oK Tp ?_ ?_<;>intro c1
 . refine aa Tp ?_;exact fo 0 (k:=o3c)
 refine oK Tp ?_ ?_<;>intro c2
 . refine aa Tp ?_;exact fo 0 (k:=o3c)
 refine oK Tp ?_ ?_<;>intro c3
 . refine aa Tp ?_;exact fo 0 (k:=o3c)
 refine aa Tp ?_
 exact fo 0 (k:=o3c)
def Zdg(a:RSet)(b:RSet)(ha:a.data.length<=100000):PureCt prog 149 [.agg a.d,.agg b.d] (.b (uV a b)):=by
 refine oO func149 λff=>?_
 unfold f149
 refine aa Tp ?_
 refine oK Tp ?_ ?_<;>intro c1
 . refine aa Tp ?_;exact fo 0 (k:=by rw[Zc4 c1])
 refine ae ?_
 refine aa Tp ?_
 refine ah ?_
 refine lp (α:=(Nat)×Nat) [2,3] (λ⟨k,nx⟩=>(k<=a.data.length)/\(1<nx)/\(∀i,i<k->a.data[i]! = b.data[i]!)/\True) (λ⟨k,nx⟩=>a.data.length-k) (λ⟨k,nx⟩=>[(5,.i k)]) (λ⟨k,nx⟩=>[(0,⟨60,[a.d]⟩),(1,⟨60,[b.d]⟩)]) (λ⟨k,nx⟩=>nx) (0,_) (hA:=⟨iv,iv,o3u,trivial⟩) (round:=?_)
 rintro⟨k,nx⟩ ⟨hk,hx,hv, -⟩
 simp only[XY,XZ]
 have n0:0<nx:=by omega
 have ff:=qB @hx @n0 ff
 refine oL Tp ?_ ?_ (hp:=rfl)<;>intro c2
 .
  have hk2:k<a.data.length:=by simpa using c2
  have hk3:k<b.data.length:=by have:=c1.2;omega
  have ff:=qB (o9 hk2) (o9 hk3) ff;refine ae ?_;refine ah ?_;refine aa Tp ?_;refine cd ?_ ?_ (hp:=rfl) (hq:=rfl)<;>intro c3
  . refine aa Tp ?_;exact fo 0 (k:=by rw[Zc5 (Zja c3)])
  refine aj ?_;refine ai Tp ?_
  show ∃_,_
  exact ay (k+1,_) (h1:=⟨iv,iv,(by(try dsimp only);intro i hi;by_cases e:i=k;subst e;exact Zi6 c3;exact hv i om),trivial⟩)
 refine aK ?_
 refine aa Tp ?_
 exact fo 0 (k:=by rw[Zc3 c1 λi hi=>hv i (by omega)])
@[go_sem]theorem all_bD{t:Str}:(∀r∈t.map bD,r.length=1)=True:=by
 apply eq_true
 intro r hr
 obtain⟨x,_,rfl⟩:=Yr.1 hr
 rfl
theorem Zdj(b t:Str):(b.map bD++[[.v (.int .u8 ((jJ t.length).toNat:Int))]])++t.map bD=(b++bO t).map bD:=by
 simp[bO,bD]
theorem qX(t:Str):(bO t).length=t.length+1:=rfl
theorem Zin{l:List Dat}{k:Nat}(h:k<l.length):l.drop k=l[k]! :: l.drop (k+1):=by
 rw[YC h,getElem!_pos l k h]
theorem take8(m:Int){k:Nat}(h:k<8):(cB m).take (k+1)=(cB m).take k++[gU (uN m) (56-8*k)]:=by
 have:k=0\/k=1\/k=2\/k=3\/k=4\/k=5\/k=6\/k=7:=by omega
 rcases this with e|e|e|e|e|e|e|e<;>subst e<;>rfl
def ZeN(m:Int)(s:Nat)(hs:s<=56):IntKind.u8.wrap ((IntKind.u64.wrap m).fdiv (2^(min s 64)))=((gU (uN m) s).toNat:Int):=by
 have e1:IntKind.u64.wrap m=(uN m:Int):=by rw[IntKind.wrap_u64];unfold uN;omega
 rw[e1,IntKind.wrap_u8,ZK (by omega),J6]
 rw[Int.fdiv_eq_ediv_of_nonneg _ (by exact_mod_cast Yi _)]
 norm_cast
def Xq(b t:Str)(r:Nat)(h:H)(n:Nat)(hr:h r=some ⟨5,b.map bD⟩)(hl:b.length<=1000000)(ht:t.length<=1000000):bT prog 197 [.mrow r 0 b.length,.v (.string (bs t))] h n (λd h' n'=>∃r',d = .mrow r' 0 (b++bO t).length/\h'=upd (upd h r none) r' (some ⟨5,(b++bO t).map bD⟩)/\n<=r'/\r'<n'):=by
 refine oP func197 λhnone ff=>?_
 unfold f197
 have hrn:r<n:=by rcases YE r n with q|q;exact q;rw[hnone r q]at hr;cases hr
 have ff:=qB @hr @hrn ff
 refine oD Tp ?_
 refine aN ?_
 exact bZ (upd (upd h r none) (n+10) (some ⟨5,(b++bO t).map bD⟩)) (hr:=oS (k:=by exact⟨n+10,by simp[bO];omega,rfl,om,om⟩)) (hh:=by rw[<-Zdj];exact U4 (r1:=n+6) (.inr (hnone _ (by omega))))
def Kc(b:Str)(m:Int)(r:Nat)(h:H)(n:Nat)(hr:h r=some ⟨5,b.map bD⟩)(hl:b.length<=1000000):bT prog 198 [.mrow r 0 b.length,.i m] h n (λd h' n'=>∃r',d = .mrow r' 0 (b++cB m).length/\h'=upd (upd h r none) r' (some ⟨5,(b++cB m).map bD⟩)/\n<=r'/\r'<n'):=by
 refine oP func198 λhnone ff=>?_
 unfold f198
 have hrn:r<n:=by rcases YE r n with q|q;exact q;rw[hnone r q]at hr;cases hr
 have ff:=qB @hr @hrn ff
 refine aa Tp ?_
 refine ae ?_
 refine aa Tp ?_
 refine ah ?_
 refine jk (α:=(Nat)×(Nat)×Nat) [1] (λ⟨k,r1,nx⟩=>(k<=8)/\(r1=r/\k=0\/n<=r1)/\(r1<nx)/\(n<=nx)/\True) (λ⟨k,r1,nx⟩=>9-k) (λ⟨k,r1,nx⟩=>[(0,.mrow r1 0 (b.length+k)),(5,.i (56-8*k))]) (λ⟨k,r1,nx⟩=>upd (upd h r none) r1 (some ⟨5,(b++(cB m).take k).map bD⟩)) (λ⟨k,r1,nx⟩=>nx) (0,r,_) (hA:=⟨iv,iv,iv,iv,trivial⟩) (round:=?_) (Bq:=by simp only[Ye,Yx];exact Zhu hr)
 rintro⟨k,r1,nx⟩ ⟨hk,h1,hx,hn, -⟩
 simp only[XY,XZ]
 have ff:=qA @hx ff
 refine oL Tp ?_ ?_ (hp:=rfl) (hq:=rfl)<;>intro c1
 .
  have hk2:k<8:=by have:(0:Int)<=56-8*(k:Int):=(by simpa using c1);omega
  have e1:(56-8*(k:Int)).toNat=56-8*k:=by omega
  have e2:=ZeN m (56-8*k) (by omega)
  have ff:=qB @e1 @e2 ff;refine ae ?_;refine ah ?_;refine ai Tp ?_ (hok:=by(try simp only[go_sem,ff,iW,YR,X0]);all_goals (exact ok0))
  refine ai Tp ?_
  show ∃_,_
  refine ay (k+1,(nx+9),_) (h1:=⟨iv,iv,iv,iv,trivial⟩) (h5:=?_);rw[take8 m hk2,<-Yw,YT,YT];exact U4 (h1.imp (λq=>q.1) λq=>hnone _ q)
 have hk3:k=8:=by have : ¬(0:Int)<=56-8*(k:Int):=(by simpa using c1);omega
 subst hk3
 refine aK ?_
 refine aa Tp ?_
 refine aN ?_
 exact bZ (upd (upd h r none) r1 (some ⟨5,(b++cB m).map bD⟩)) (hr:=oS (k:=by exact⟨r1,by simp[iW],rfl,om,om⟩))
def ZdM(s:RSet):PureCt prog 127 [.agg s.d] (.tuple [.list false ((xn s).1.map bD),.i (xn s).2]):=by
 refine oO func127 λff=>?_
 unfold f127
 refine aa Tp ?_
 refine oK Tp ?_ ?_ (hok:=oF (uW _))<;>intro c1
 . refine aa Tp ?_;exact fo 2 (k:=by simp[xn,c1])
 have hs:=(iJ s).1 c1
 have Bo:=hs.len
 have hn60:=gI hs.name
 refine aa Tp ?_
 refine yu 4 5 o5l o5l ?_
 refine ae (bI Tp 3 (hct:=by exact Xq [] s.name 7 _ _ rfl (by simp) om) (hk:=?_))
 rintro res h2 n2 ⟨r1,rfl,rfl,ar1,br1⟩
 dsimp only at ar1 br1
 have z1r1:(0=r1)=False:=YN om
 have z2r1:(r1=0)=False:=YN om
 have pr1:0<n2:=by omega
 have ff:=qE @z1r1 @z2r1 @br1 @pr1 ff
 refine bH Tp ?_
 refine BH [1,4] [(0,⟨60,[s.d]⟩),(r1,⟨5,(bO s.name).map bD⟩)] o4m o3s ?_
 refine ae (bI Tp 3 (hct:=by exact Kc (bO s.name) s.ty r1 _ _ (by simp only[go_sem,z1r1,z2r1]) o5d) (hk:=?_))
 rintro res h2 n2 ⟨r2,rfl,rfl,ar2,br2⟩
 dsimp only at ar2 br2
 have z1r2:(0=r2)=False:=YN om
 have z2r2:(r2=0)=False:=YN om
 have pr2:0<n2:=by omega
 have ff:=qE @z1r2 @z2r2 @br2 @pr2 ff
 refine bH Tp ?_
 refine BH [1,4] [(0,⟨60,[s.d]⟩),(r2,⟨5,(bO s.name++cB s.ty).map bD⟩)] o4m o3s ?_
 refine ae (bI Tp 3 (hct:=by exact Kc (bO s.name++cB s.ty) s.life r2 _ _ (by simp only[go_sem,z1r2,z2r2]) o5d) (hk:=?_))
 rintro res h2 n2 ⟨r3,rfl,rfl,ar3,br3⟩
 dsimp only at ar3 br3
 have pr3:0<n2:=by omega
 have ff:=qD (nH 0 r3) @br3 @pr3 ff
 refine bH Tp ?_
 refine BH [1,4] [(0,⟨60,[s.d]⟩),(r3,⟨5,(bO s.name++cB s.ty++cB s.life).map bD⟩)] o4m o3s ?_
 refine aa Tp ?_ (hok:=by(try simp only[go_sem,ff,qX,iW,X0]);all_goals (exact ok0))
 refine ae ?_
 refine aa Tp ?_
 refine ah ?_
 refine lp (α:=(Nat)×(Str)×(Nat)×Nat) [30,31] (λ⟨k,out,r,nx⟩=>(k<=s.data.length)/\(r<nx)/\(out.length<=1000+k*300)/\(out++(s.data.drop k).flatMap kI=gY s)/\True) (λ⟨k,out,r,nx⟩=>s.data.length-k) (λ⟨k,out,r,nx⟩=>[(4,.mrow r 0 out.length),(32,.i k)]) (λ⟨k,out,r,nx⟩=>[(r,⟨5,(out).map bD⟩)]) (λ⟨k,out,r,nx⟩=>nx) (0,bO s.name++cB s.ty++cB s.life++[jJ s.data.length],(n2+11),_) (hA:=⟨iv,iv,(by first|(simp[bO,iW];omega)|(dsimp only;simp[bO,iW];omega)),(by first|(simp[gY])|(dsimp only;simp[gY])),trivial⟩) (round:=?_)
 rintro⟨k,out,r,nx⟩ ⟨hk,hr,ho,hv, -⟩
 simp only[XY,XZ]
 have ff:=qA @hr ff
 refine aa Tp ?_
 refine ae ?_
 refine cd ?_ ?_ (hp:=rfl)<;>intro c2
 .
  have hk2:k<s.data.length:=by simpa using c2
  have hd:=(NL hs.ty (hs.dat _ (YH hk2))).2.1;rw[<-getElem!_pos s.data k hk2]at hd;have ff:=qA (o9 hk2) ff;refine aj ?_;refine ae ?_;refine ah ?_;refine aa Tp ?_;refine ae (bI Tp 3 (hct:=by exact Xq out s.data[k]!.t r _ _ (by simp only[go_sem,hr]) om om) (hk:=?_))
  rintro res h2 n2 ⟨q1,rfl,rfl,aq1,bq1⟩;dsimp only at aq1 bq1;have z1q1:(nx+3=q1)=False:=eq_false om;have z2q1:(q1=nx+3)=False:=eq_false om;have pq1:nx+3<n2:=by omega
  have ff:=qE @z1q1 @z2q1 @bq1 @pq1 ff;refine bH Tp ?_;refine BH [4,6,30,31,32] [((nx+3),⟨57,[s.data[k]!.d]⟩),(q1,⟨5,(out++bO s.data[k]!.t).map bD⟩)] o4m o3s ?_
  refine ae (bI Tp 3 (hct:=by exact Kc (out++bO s.data[k]!.t) s.data[k]!.n q1 _ _ (by simp only[go_sem,z1q1,z2q1]) o5d) (hk:=?_))
  rintro res h2 n2 ⟨q2,rfl,rfl,aq2,bq2⟩;dsimp only at aq2 bq2;have z1q2:(nx+3=q2)=False:=eq_false om;have z2q2:(q2=nx+3)=False:=eq_false om;have pq2:nx+3<n2:=by omega
  have ff:=qE @z1q2 @z2q2 @bq2 @pq2 ff;refine bH Tp ?_;refine BH [4,6,30,31,32] [((nx+3),⟨57,[s.data[k]!.d]⟩),(q2,⟨5,(out++bO s.data[k]!.t++cB s.data[k]!.n).map bD⟩)] o4m o3s ?_
  refine bI Tp 3 (hct:=by exact Kc (out++bO s.data[k]!.t++cB s.data[k]!.n) s.data[k]!.m q2 _ _ (by simp only[go_sem,z1q2,z2q2]) o5d) (hk:=?_)
  rintro res h2 n2 ⟨q3,rfl,rfl,aq3,bq3⟩;dsimp only at aq3 bq3;have pq3:nx+3<n2:=by omega
  have ff:=qD (nH (nx+3) q3) @bq3 @pq3 ff;refine bH Tp ?_;refine BH [4,30,31,32] [(q3,⟨5,(out++bO s.data[k]!.t++cB s.data[k]!.n++cB s.data[k]!.m).map bD⟩)] o4m o3s ?_
  refine ai Tp ?_
  show ∃_,_
  exact ay (k+1,out++bO s.data[k]!.t++cB s.data[k]!.n++cB s.data[k]!.m,q3,_) (h1:=⟨iv,iv,(by(try dsimp only);simp only[List.length_append,qX,iW];omega),(by(try dsimp only);rw[<-hv,Zin hk2];simp[kI]),trivial⟩)
 refine aK ?_
 refine aa Tp ?_
 exact fo 2 (k:=by rw[Y3 (by omega)]at hv;simp at hv;simp[xn,c1,hv])
def Zey{u:Nat}(hu:u<18446744073709551616)(c:UInt8):IntKind.u64.wrap ((BitVec.ofInt 64 (IntKind.u64.wrap ((u:Int)*2^(min 8 64))) ||| BitVec.ofInt 64 (IntKind.u64.wrap (c.toNat:Int))).toNat:Nat)=(gG u c:Int):=by
 have hc:=c.toNat_lt
 have e0:((2:Int)^(min 8 64))=256:=rfl
 rw[e0]
 have e1:IntKind.u64.wrap ((u:Int)*256)=((u*256 % 18446744073709551616:Nat):Int):=by rw[IntKind.wrap_u64];omega
 have e2:IntKind.u64.wrap (c.toNat:Int)=(c.toNat:Int):=by rw[IntKind.wrap_u64];omega
 rw[e1,e2,BitVec.ofInt_natCast,BitVec.ofInt_natCast,BitVec.toNat_or,BitVec.toNat_ofNat,BitVec.toNat_ofNat]
 have e3:c.toNat % 2^64=c.toNat:=ZB om
 have e4:u*256 % 18446744073709551616 % 2^64=(u % 72057594037927936) <<< 8:=by rw[Nat.shiftLeft_eq];omega
 rw[e3,e4,<-Nat.shiftLeft_add_eq_or_of_lt (by omega:c.toNat<2^8),Nat.shiftLeft_eq,IntKind.wrap_u64]
 unfold gG
 omega
def PK(u:Nat)(c:UInt8):gG u c<18446744073709551616:=by unfold gG;omega
theorem Zbo{m:Int}{st:RS}(h:(st.2||decide ((st.1.length:Int)<m))=true):bS m st=([],(st.1,true)):=by
 unfold bS;rw[X3 h]
theorem Zbn{m:Int}{st:RS}(h:(st.2||decide ((st.1.length:Int)<m))=false):bS m st=(st.1.take m.toNat,(st.1.drop m.toNat,st.2)):=by
 unfold bS;rw[h,(Yd.1 h).1];rfl
@[go_sem]theorem Zlh{l:Str}:(l.map bD).map Go.DL.byteOf=l:=kR (f:=bD) (g:=Go.DL.byteOf) (λx=>by simp[Go.DL.byteOf,bD]) l
@[go_sem]theorem Zmy{l:Str}:(l.map bD).all isByte=true:=by
 induction l with
 | nil=>rfl
 | cons x l ih=>simp only[X8,List.all_cons,ih];rfl
def take_len(n:Nat)(st:RS):(bS n st).1.length<=n:=by
 unfold bS
 split
 . exact Yi _
 show(st.1.take _).length<=n
 simp;omega
def wrapc(c:UInt8):IntKind.i64.wrap (c.toNat:Int)=(c.toNat:Int):=by
 have:=c.toNat_lt
 rw[IntKind.wrap_i64];omega
theorem VE{l:Str}{k:Nat}(h:k<l.length):l.drop k=l.getD k 0::l.drop (k+1):=by
 rw[YC h]
 congr 1
 simp[List.getD,h]
def FD{l:Str}{n:Nat}(h:n<l.length):(l.map bD).getD n []=[.v (.int .u8 ((l.getD n 0).toNat:Int))]:=by
 simp[List.getD,h,bD]
def count_le(st:RS):(dP st).1<=255:=by
 unfold dP
 split
 . have:=((bS 1 st).1.getD 0 0).toNat_lt;simp only;omega
 exact Yi _
theorem V4{n k:Nat}{out:List Dat}{st:RS}(h:k<n)(c:(aS (aS (bJ st).2).2).2.2=false):iZ (n-k) out st=iZ (n-(k+1)) (out++[(iT st).1]) (iT st).2:=by
 rw[show n-k=(n-(k+1))+1 by omega,iZ,XV (by rw[show(iT st).2.2=(aS (aS (bJ st).2).2).2.2 from rfl,c];simp)]
theorem Zi2{n k:Nat}{out:List Dat}{st:RS}(h:k<n)(c:(aS (aS (bJ st).2).2).2.2=true):iZ (n-k) out st=(out,(iT st).2):=by
 rw[show n-k=(n-(k+1))+1 by omega,iZ,X3 (show(iT st).2.2=true from c)]
theorem Zi3{n k:Nat}{out:List Dat}{st:RS}(h : ¬k<n):iZ (n-k) out st=(out,st):=by
 rw[show n-k=0 by omega];rfl
theorem Q8{x:Str}{out:List Dat}{st:RS}(h:(out,st)=iZ (dP (aS (aS (bJ (x,false)).2).2).2).1 [] (dP (aS (aS (bJ (x,false)).2).2).2).2):oh (x,false)=(⟨(bJ (x,false)).1,(aS (bJ (x,false)).2).1,(aS (aS (bJ (x,false)).2).2).1,out⟩,st):=by
 unfold oh
 simp only
 rw[<-h]
theorem Q9{x:Str}{out:List Dat}{st:RS}(h:(out,st)=iZ (dP (aS (aS (bJ (x,false)).2).2).2).1 [] (dP (aS (aS (bJ (x,false)).2).2).2).2)(c:((st.2||decide ((0:Int)<st.1.length)) || !fq ⟨(bJ (x,false)).1,(aS (bJ (x,false)).2).1,(aS (aS (bJ (x,false)).2).2).1,out⟩)=true):iP x=(Sz,10):=by
 have e:decide ((0:Int)<st.1.length)=decide (0<st.1.length):=ZO.2 om
 rw[e]at c
 unfold iP
 rw[Q8 h]
 exact X3 c
theorem Q7{x:Str}{out:List Dat}{st:RS}(h:(out,st)=iZ (dP (aS (aS (bJ (x,false)).2).2).2).1 [] (dP (aS (aS (bJ (x,false)).2).2).2).2)(c:((st.2||decide ((0:Int)<st.1.length)) || !fq ⟨(bJ (x,false)).1,(aS (bJ (x,false)).2).1,(aS (aS (bJ (x,false)).2).2).1,out⟩)=false):iP x=(⟨(bJ (x,false)).1,(aS (bJ (x,false)).2).1,(aS (aS (bJ (x,false)).2).2).1,out⟩,0):=by
 have e:decide ((0:Int)<st.1.length)=decide (0<st.1.length):=ZO.2 om
 rw[e]at c
 unfold iP
 rw[Q8 h]
 exact XV (by rw[Bool.not_eq_true];exact c)
@[go_sem]theorem bslU:Oa prog 31=true:=by kernel_rfl
theorem KC(m:Int)(hm:0<=m)(st:RS)(rb:Nat)(h:H)(n:Nat)(hb:h rb=some ⟨327,[[.list false ((st).1.map bD),.b (st).2]]⟩):bT prog 279 [.mptr rb 0 0,.i m] h n (λd h' n'=>(∃f,d = .list f ((bS m st).1.map bD))/\h'=upd h rb (some ⟨327,[[.list false (((bS m st).2).1.map bD),.b ((bS m st).2).2]]⟩)/\n<=n'):=by
 refine oP func279 λhnone ff=>?_
 unfold f279
 have ff:=qA @hb ff
 refine aa Tp ?_
 refine oK Tp ?_ ?_ (hp:=rfl) (hq:=rfl)<;>intro c1
 . refine oC Tp ?_;refine aN ?_;exact bZ (upd h rb (some ⟨327,[[.list false (st.1.map bD),.b true]]⟩)) (hr:=oS (k:=by rw[Zbo c1];exact⟨⟨_,rfl⟩,rfl,om⟩)) (hh:=by intro q;left;by_cases e1:q=rb<;>simp[upd,e1])
 have c1b:=Yd.1 c1
 have c1c:=of_decide_eq_false c1b.2
 refine oD Tp ?_
 refine aN ?_
 exact bZ (upd h rb (some ⟨327,[[.list false ((st.1.drop m.toNat).map bD),.b st.2]]⟩)) (hr:=oS (k:=by rw[Zbn c1];exact⟨⟨_,by rw[ZQ]⟩,rfl,om⟩)) (hh:=by intro q;left;by_cases e1:q=rb<;>simp[upd,e1])
theorem Wx(st:RS)(rb:Nat)(h:H)(n:Nat)(hb:h rb=some ⟨327,[[.list false ((st).1.map bD),.b (st).2]]⟩):bT prog 268 [.mptr rb 0 0] h n (λd h' n'=>d = .i (dP st).1/\h'=upd h rb (some ⟨327,[[.list false (((dP st).2).1.map bD),.b ((dP st).2).2]]⟩)/\n<=n'):=by
 refine oP func268 λhnone ff=>?_
 unfold f268
 have ff:=qA @hb ff
 refine aa Tp ?_
 refine ae ?_
 refine ae (bI Tp 1 (hct:=by exact KC 1 om st rb _ _ (by simp only[go_sem,hb])) (hk:=?_))
 rintro res h2 n2 ⟨⟨f,rfl⟩,rfl,a1⟩
 try dsimp only at a1
 refine bH Tp ?_
 refine aa Tp ?_
 refine cd ?_ ?_<;>intro c1
 .
  have hk:0<(bS 1 st).1.length:=by omega
  have ff:=qB (FD hk) @wrapc ff;refine aa Tp ?_;refine aN ?_;exact bZ (upd h rb (some ⟨327,[[.list false (((dP st).2).1.map bD),.b ((dP st).2).2]]⟩)) (hr:=oS (k:=by exact⟨by unfold dP;rw[X3 (by omega)],om⟩))
 refine aj ?_
 refine aa Tp ?_
 refine aN ?_
 exact bZ (upd h rb (some ⟨327,[[.list false (((dP st).2).1.map bD),.b ((dP st).2).2]]⟩)) (hr:=oS (k:=by exact⟨by unfold dP;rw[XV (by omega)];rfl,om⟩))
def Px(st:RS)(rb:Nat)(h:H)(n:Nat)(hb:h rb=some ⟨327,[[.list false ((st).1.map bD),.b (st).2]]⟩):bT prog 266 [.mptr rb 0 0] h n (λd h' n'=>d = .v (.string (bs (bJ st).1))/\h'=upd h rb (some ⟨327,[[.list false (((bJ st).2).1.map bD),.b ((bJ st).2).2]]⟩)/\n<=n'):=by
 refine oP func266 λhnone ff=>?_
 unfold f266
 have ff:=qA @hb ff
 refine aa Tp ?_
 refine ae (xe ?_)
 refine En (C:=Tp) 2 (R:=_) om (dN rfl) rfl rfl o3y ?_ ?_ ev o5l ev (by exact Wx st rb _ _ (by simp only[go_sem,hb])) ?_
 .
  try simp only[go_sem,ff]
  all_goals (first|done|(repeat' (with_reducible apply And.intro))<;>first|omega|(with_reducible assumption)|(intros;omega)|(intros;simp only[XX,X4,Yc,XU,Yd,Ya,Yq]at *;omega)|(simp_all;done)|(simp_all;omega))
 .
  try simp only[go_sem,ff]
  all_goals (first|done|rfl|decide|simp)
 rintro res h2 n2 ⟨rfl,rfl,a1⟩
 try dsimp only at a1
 refine En (C:=Tp) 3 (R:=_) om (dN rfl) rfl rfl o3y ?_ ?_ ev o5l ev (by exact KC ((dP st).1) om (dP st).2 rb _ _ (by simp only[go_sem])) ?_
 .
  try simp only[go_sem,ff]
  all_goals (first|done|(repeat' (with_reducible apply And.intro))<;>first|omega|(with_reducible assumption)|(intros;omega)|(intros;simp only[XX,X4,Yc,XU,Yd,Ya,Yq]at *;omega)|(simp_all;done)|(simp_all;omega))
 .
  try simp only[go_sem,ff]
  all_goals (first|done|rfl|decide|simp)
 rintro res h3 n3 ⟨⟨f,rfl⟩,rfl,a2⟩
 try dsimp only at a2
 refine wy (C:=Tp) o5o o3y ?_ rfl ?_
 .
  try simp only[go_sem,ff]
  all_goals (first|done|(repeat' (with_reducible apply And.intro))<;>first|omega|(with_reducible assumption)|(intros;omega)|(intros;simp only[XX,X4,Yc,XU,Yd,Ya,Yq]at *;omega)|(simp_all;done)|(simp_all;omega))
 try simp only[aH]
 refine aN ?_
 exact bZ (upd h rb (some ⟨327,[[.list false (((bJ st).2).1.map bD),.b ((bJ st).2).2]]⟩)) (hr:=oS (k:=by exact⟨by simp[bJ],om⟩)) (hh:=by intro q;left;by_cases e1:q=rb<;>simp[upd,e1,bJ])
def Iy(st:RS)(rb:Nat)(h:H)(n:Nat)(hb:h rb=some ⟨327,[[.list false ((st).1.map bD),.b (st).2]]⟩):bT prog 267 [.mptr rb 0 0] h n (λd h' n'=>d = .i (aS st).1/\h'=upd h rb (some ⟨327,[[.list false (((aS st).2).1.map bD),.b ((aS st).2).2]]⟩)/\n<=n'):=by
 refine oP func267 λhnone ff=>?_
 unfold f267
 have ff:=qA @hb ff
 refine oC Tp ?_
 refine ae ?_
 refine ae (bI Tp 1 (hct:=by exact KC 8 om st rb _ _ (by simp only[go_sem,hb])) (hk:=?_))
 rintro res h2 n2 ⟨⟨f,rfl⟩,rfl,a1⟩
 try dsimp only at a1
 refine bH Tp ?_
 refine ah ?_
 refine jk (α:=(Nat)×(Nat)×Nat) [7,8] (λ⟨k,u,nx⟩=>(k<=(bS 8 st).1.length)/\(u<18446744073709551616)/\(n<=nx)/\(((bS 8 st).1.drop k).foldl gG u=fP (bS 8 st).1)/\True) (λ⟨k,u,nx⟩=>(bS 8 st).1.length-k) (λ⟨k,u,nx⟩=>[(3,.v (.int .u64 u)),(9,.i k)]) (λ⟨k,u,nx⟩=>upd h rb (some ⟨327,[[.list false (((bS 8 st).2).1.map bD),.b ((bS 8 st).2).2]]⟩)) (λ⟨k,u,nx⟩=>nx) (0,0,_) (hA:=⟨iv,oW,iv,rfl,trivial⟩) (round:=?_)
 rintro⟨k,u,nx⟩ ⟨hk,hu,hn,hv, -⟩
 simp only[XY,XZ]
 refine aa Tp ?_
 refine ae ?_
 refine cd ?_ ?_ (hp:=rfl)<;>intro c1
 .
  have hk2:k<(bS 8 st).1.length:=by simpa using c1
  have h8:(bS 8 st).1.length<=8:=take_len 8 st;have hor:=Zey hu ((bS 8 st).1.getD k 0);have ff:=qB (FD hk2) @hor ff;refine aj ?_;refine ae ?_;refine ah ?_;refine aa Tp ?_;refine ai Tp ?_;refine ai Tp ?_
  show ∃_,_
  exact ay (k+1,gG u ((bS 8 st).1.getD k 0),_) (h1:=⟨iv,(PK _ _),iv,(by first|(rw[<-hv,VE hk2];rfl)|(dsimp only;rw[<-hv,VE hk2];rfl)),trivial⟩) (h3:=o0y) (h4:=o0y)
 refine aK ?_
 refine aa Tp ?_
 refine aN ?_
 exact bZ (upd h rb (some ⟨327,[[.list false (((bS 8 st).2).1.map bD),.b ((bS 8 st).2).2]]⟩)) (hr:=oS (k:=by rw[Y3 (by omega)]at hv;exact⟨by rw[show u=fP (bS 8 st).1 from hv];rfl,rfl,om⟩))
def Zdh(x:Str):PureCt prog 238 [.list false (x.map bD)] (.tuple [.agg (iP x).1.d,.i (iP x).2]):=by
 refine oO func238 λff=>?_
 unfold f238
 refine oD Tp ?_
 refine ae (bI Tp 1 (hct:=by exact Px (x,false) 4 _ _ rfl) (hk:=?_))
 rintro res h2 n2 ⟨rfl,rfl,a1⟩
 try dsimp only at a1
 have p4:4<n2:=by omega
 have p0:0<n2:=by omega
 have ff:=qB @p4 @p0 ff
 refine bH Tp ?_
 obtain⟨q,hq⟩:∃q,q=n2+3:=⟨_,rfl⟩
 rw[<-hq]
 refine yt q 3 60 57 ev (by rfl) o5l ?_
 simp only[YW,YO]
 obtain⟨r0,hr0⟩:∃r0,r0=(n2+5):=⟨_,rfl⟩
 rw[<-hr0]
 have z4_q:(4=q)=False:=YN om
 have yq_4:(q=4)=False:=YN om
 have ff:=qG @z4_q @yq_4 (nH 4 r0) (nH q r0) (nH 0 q) (nH 0 r0) ff
 refine BH [2,4,5,6,7] [(0,⟨60,[[.v (.string (bs [])),.i 0,.i 0,.list true []]]⟩),(4,⟨327,[[.list false (((bJ (x,false)).2).1.map bD),.b ((bJ (x,false)).2).2]]⟩),(q,⟨60,[[.v (.string (bs ((bJ (x,false)).1))),.i (0),.i (0),.mrow r0 0 0]]⟩),(r0,⟨57,[]⟩)] o4m o3s ?_
 refine ae (bI Tp 1 (hct:=by exact Iy (bJ (x,false)).2 4 _ _ (by simp only[go_sem])) (hk:=?_))
 rintro res h2 n2 ⟨rfl,rfl,a2⟩
 try dsimp only at a2
 have p4:4<n2:=by omega
 have p0:0<n2:=by omega
 have pq:q<n2:=by omega
 have pr:r0<n2:=by omega
 have ff:=qB @pq @pr ff
 refine bH Tp ?_
 refine ae (bI Tp 1 (hct:=by exact Iy (aS (bJ (x,false)).2).2 4 _ _ (by simp only[go_sem,z4_q,yq_4] )) (hk:=?_))
 rintro res h2 n2 ⟨rfl,rfl,a3⟩
 try dsimp only at a3
 have p4:4<n2:=by omega
 have p0:0<n2:=by omega
 have pq:q<n2:=by omega
 have pr:r0<n2:=by omega
 refine bH Tp ?_
 refine ae ?_
 refine ae (bI Tp 0 (hct:=by exact Wx (aS (aS (bJ (x,false)).2).2).2 4 _ _ (by simp only[go_sem,z4_q,yq_4])) (hk:=?_))
 rintro res h2 n2 ⟨rfl,rfl,a4⟩
 try dsimp only at a4
 have p4:4<n2:=by omega
 have p0:0<n2:=by omega
 have pq:q<n2:=by omega
 have pr:r0<n2:=by omega
 refine bH Tp ?_
 refine ah ?_
 refine lp (α:=(Nat)×(List Dat)×(Nat)×(RS)×Nat) [2,4,5,6,7,22] (λ⟨k,out,r,st,nx⟩=>(k<=(dP (aS (aS (bJ (x,false)).2).2).2).1)/\(r<nx)/\(r≠0/\r≠4/\r≠q)/\(q<nx)/\(out.length<=k)/\(iZ ((dP (aS (aS (bJ (x,false)).2).2).2).1-k) out st=iZ (dP (aS (aS (bJ (x,false)).2).2).2).1 [] (dP (aS (aS (bJ (x,false)).2).2).2).2)/\True) (λ⟨k,out,r,st,nx⟩=>(dP (aS (aS (bJ (x,false)).2).2).2).1-k) (λ⟨k,out,r,st,nx⟩=>[(23,.i k)]) (λ⟨k,out,r,st,nx⟩=>[(0,⟨60,[[.v (.string (bs [])),.i 0,.i 0,.list true []]]⟩),(4,⟨327,[[.list false ((st).1.map bD),.b (st).2]]⟩),(q,⟨60,[[.v (.string (bs ((bJ (x,false)).1))),.i ((aS (bJ (x,false)).2).1),.i ((aS (aS (bJ (x,false)).2).2).1),.mrow r 0 out.length]]⟩),(r,⟨57,out.map Dat.d⟩)]) (λ⟨k,out,r,st,nx⟩=>nx) (0,[],r0,(dP (aS (aS (bJ (x,false)).2).2).2).2,_) (hA:=⟨iv,iv,iv,iv,o4x,o4x,trivial⟩) (round:=?_)
 rintro⟨k,out,r,st,nx⟩ ⟨hk,hr,hrn,hqn,ho,hv, -⟩
 simp only[XY,XZ]
 have p4:4<nx:=by omega
 have p0:0<nx:=by omega
 have ff:=qH @hr @hqn @p4 @p0 (nH 0 r) (nH 4 r) (nH q r) ff
 refine aa Tp ?_
 refine ae ?_
 refine cd ?_ ?_ (hp:=rfl) (hq:=rfl)<;>intro c1
 .
  have hk2:k<(dP (aS (aS (bJ (x,false)).2).2).2).1:=by simpa using c1
  have hc8:=count_le (aS (aS (bJ (x,false)).2).2).2;refine aj ?_;refine ae ?_;refine ah ?_;refine aa Tp ?_;refine ae (bI Tp 1 (hct:=by exact Px st 4 _ _ (by simp only[go_sem,p4])) (hk:=?_))
  rintro res h2 n2 ⟨rfl,rfl,a5⟩
  try dsimp only at a5
  refine bH Tp ?_;refine ae (bI Tp 1 (hct:=by exact Iy (bJ st).2 4 _ _ (by simp only[go_sem,p4])) (hk:=?_))
  rintro res h2 n2 ⟨rfl,rfl,a6⟩
  try dsimp only at a6
  refine bH Tp ?_;refine ae (bI Tp 1 (hct:=by exact Iy (aS (bJ st).2).2 4 _ _ (by simp only[go_sem,p4])) (hk:=?_))
  rintro res h2 n2 ⟨rfl,rfl,a7⟩
  try dsimp only at a7
  have ww:nx+1<n2:=by omega
  have w4:4<n2:=by omega
  have w0:0<n2:=by omega
  have wq:q<n2:=by omega
  have wr:r<n2:=by omega
  have ff:=qF @ww @w4 @w0 @wq @wr ff;refine bH Tp ?_;refine oK Tp ?_ ?_ (hp:=rfl) (hq:=rfl)<;>intro c2
  .
   have hv2:=hv;rw[Zi2 hk2 c2]at hv2;refine aK ?_;refine ae ?_;refine yw q 3 r (rows:=out.map Dat.d) (off:=0) (len:=out.length) ev (by rfl) ev om (by simp) ow ?_
   simp only[X6,yQ,YW,YO];refine aa Tp ?_ (hok:=oH (uW ⟨_,_,_,out⟩));refine cd ?_ ?_ (hp:=rfl) (hq:=rfl)<;>intro c9
   . refine aa Tp ?_;exact fo 2 (k:=by rw[Q9 hv2 c9];try rfl)
   refine aj ?_;refine aa Tp ?_;exact fo 2 (k:=by rw[Q7 hv2 c9];try rfl)
  refine ai Tp ?_;refine ai Tp ?_
  show ∃_,_
  exact ay (k+1,out++[(iT st).1],(n2+10),(iT st).2,_) (h1:=⟨iv,iv,iv,iv,o4j,(by(try dsimp only);rw[<-hv,V4 hk2 c2]),trivial⟩) (h3:=o0r) (h4:=o0r) (h5:=o0r)
 have hk2 : ¬k<(dP (aS (aS (bJ (x,false)).2).2).2).1:=by simpa using c1
 have hv2:=hv
 rw[Zi3 hk2]at hv2
 refine aK ?_
 refine ae ?_
 refine yw q 3 r (rows:=out.map Dat.d) (off:=0) (len:=out.length) ev (by rfl) ev om (by simp) ow ?_
 simp only[X6,yQ,YW,YO]
 refine aa Tp ?_ (hok:=oH (uW ⟨_,_,_,out⟩))
 refine cd ?_ ?_ (hp:=rfl) (hq:=rfl)<;>intro c9
 . refine aa Tp ?_;exact fo 2 (k:=by rw[Q9 hv2 c9];try rfl)
 refine aj ?_
 refine aa Tp ?_
 exact fo 2 (k:=by rw[Q7 hv2 c9];try rfl)
def kz(h:H)(W:Nat):Option Nat:=match h W with
 | some ⟨_,[.mrow r _ _::_]⟩=>some r
 | _=>none
def bB(T:TypeId)(h:H)(W nx:Nat)(l:Str)(m:Nat):Prop:=W<nx/\((l.length+m=0 /\ ∃x:Int,h W=some ⟨T,[[.list true [],.i 0,.v (.int .i8 x)]]⟩)\/(0<l.length+m /\ ∃(r:Nat)(x:Int),r≠W/\r<nx/\h r=some ⟨5,l.map bD⟩/\h W=some ⟨T,[[.mrow r 0 (l.length+m),.i 0,.v (.int .i8 x)]]⟩))
def bK(h h':H)(W n n':Nat):Prop:=n<=n'/\(∀q,q<n->q≠W->kz h W≠some q->h' q=h q)/\(∀q,q<n->q≠W->kz h W≠some q->kz h' W≠some q)
theorem bK.trans{h h' h'':H}{W n n' n'':Nat}(a:bK h h' W n n')(b:bK h' h'' W n' n''):bK h h'' W n n'' :=
 ⟨Yh a.1 b.1,λq h1 h2 h3=>(b.2.1 q (YB h1 a.1) h2 (a.2.2 q h1 h2 h3)).trans (a.2.1 q h1 h2 h3),λq h1 h2 h3=>b.2.2 q (YB h1 a.1) h2 (a.2.2 q h1 h2 h3)⟩
theorem bK.refl{h:H}{W n n':Nat}(hn:n<=n'):bK h h W n n':=⟨hn,λ_ _ _ _=>rfl,λ_ _ _ h=>h⟩
theorem QQ{h:H}{W T:Nat}{x:Int}(e:h W=some ⟨T,[[.list true [],.i 0,.v (.int .i8 x)]]⟩):kz h W=none:=by unfold kz;rw[e]
theorem jT{h:H}{W T r k:Nat}{x:Int}(e:h W=some ⟨T,[[.mrow r 0 k,.i 0,.v (.int .i8 x)]]⟩):kz h W=some r:=by unfold kz;rw[e]
def uR.rct{P:Program}[Glob P]{f:FuncId}{args:List D}{h:H}{n:Nat}{R:D->H->Nat->Env->Prop}(k:uR P f args h n Env.tt R):bT P f args h n (λd h' n'=>∃E',R d h' n' E') :=
 ⟨k.1,λw g vs h1 h2 h3=>(k.2 w g vs h1 h2 trivial h3).mono λ_ _⟨v,g',res,h',n',E',q1,q2,q3,q4,q5,q6,q7⟩=>⟨v,g',res,h',n',⟨E',q1⟩,q2,q3,q4,q5,q6⟩⟩
def ZjK(T:TypeId)(l:Str)(h:H)(n W:Nat)(hB:bB T h W n l 0)(hl:l.length<=1000000000000):bT prog 194 [.mptr W 0 0] h n (λd h' n'=>d = .i l.length/\bK h h' W n n'/\bB T h' W n' l 0):=by
 refine oP func194 λhnone ff=>?_
 unfold f194
 refine aa Tp ?_
 obtain⟨Bu,⟨e0,x,hW⟩|⟨e0,r,x,fB,hrn,hr,hW⟩⟩:=hB
 . obtain rfl:l=[]:=Yb om;have ff:=qB @hW (nG W n) ff;refine aa Tp ?_;refine aN ?_;exact bZ (_) (hh:=λ_=>.inl rfl) (hr:=oS (k:=by exact⟨rfl,bK.refl om,om,.inl ⟨rfl,x,hW⟩⟩))
 rw[Zv]at hW
 have nJ:(W=r)=False:=YN (λe=>fB e.symm)
 have nD:(r=W)=False:=YN fB
 have ff:=qG @hW @hr @nJ @nD (nG W n) (nG r n) ff
 refine aa Tp ?_
 refine aN ?_
 exact bZ (_) (hh:=λ_=>.inl rfl) (hr:=oS (k:=by exact⟨by simp,bK.refl om,om,.inr ⟨e0,r,x,fB,om,hr,hW⟩⟩))
def bo123:d9 prog 123=true:=by kernel_rfl
theorem GJ(T:TypeId)(l:Str)(m:Nat)(h:H)(n W:Nat)(hB:bB T h W n l 0)(hl:l.length+m<=1000000000000):uR prog 123 [.mptr W 0 0,.i m] h n (Env.tt) (λd h' n' E'=>∃ok:Bool,∃a:Int,d = .tuple [.i a,.b ok]/\bK h h' W n n'/\(ok=true->a=l.length/\bB T h' W n' l m)/\(ok=false->0<m/\bB T h' W n' l 0 /\ ∀r,kz h' W=some r -> ∀g w,E'.p g w->(Env.capLt r (l.length+m)).p g w)):=by
 refine ZdL rfl func123 rfl bo123 (by simp[f123]) (λhnone=>?_)
 unfold f123
 have ff:=True.intro
 refine aa Tp ?_
 refine ae ?_
 obtain⟨Bu,⟨e0,x,hW⟩|⟨e0,r,x,fB,hrn,hr,hW⟩⟩:=hB
 .
  obtain rfl:l=[]:=Yb om;have ff:=qB @hW (nG W n) ff;refine aa Tp ?_;refine bY ?_;refine M3 Tp 5 (e:=5) ?_;refine aP Tp ?_
  try simp only[aH]
  refine cd ?_ ?_<;>intro c1
  .
   obtain rfl:m=0:=by omega
   refine oC Tp ?_;refine aN ?_;exact JD (_) (hh:=λ_=>.inl rfl) (Env.tt) (hE:=λ_ _ _ _=>trivial) (hr:=oS (k:=by exact⟨_,_,rfl,⟨om,λq q1 q2 q3=>by simp only[upd];repeat rw[XV (by omega)],λq q1 q2 q3=>by rw[QQ (x:=x) (T:=T) (by simp[upd])];simp⟩,λ_=>⟨rfl,om,.inl ⟨rfl,x,by simp[upd]⟩⟩,λq=>(by cases q)⟩))
  refine aj ?_;refine aa Tp ?_;refine aN ?_;exact JD (_) (hh:=λ_=>.inl rfl) (Env.tt) (hE:=λ_ _ _ _=>trivial) (hr:=oS (k:=by exact⟨_,_,rfl,bK.refl (by omega),λq=>(by cases q),λ_=>⟨by have : ¬(m:Int)<=0:=(by simpa using c1);omega,⟨om,.inl ⟨rfl,x,hW⟩⟩,λq hq=>by rw[QQ hW]at hq;cases hq⟩⟩))
 rw[Zv]at hW
 have nJ:(W=r)=False:=YN (λe=>fB e.symm)
 have nD:(r=W)=False:=YN fB
 have ff:=qG @hW @hr @nJ @nD (nG W n) (nG r n) ff
 refine aa Tp ?_
 refine bY ?_
 refine M4 Tp 5 (λc hc1 hc2=>?_)
 have hc3:(c:Int)<=9223372036854775807:=by have:=hc2;unfold maxLen at this;omega
 refine aP Tp ?_
 try simp only[aH]
 refine cd ?_ ?_<;>intro c1
 .
  refine bY ?_;refine MR Tp 8 (r:=r) (off:=0) (c:=c) (l.length+m) rfl (by have:(m:Int)<=(c:Int)-(l.length:Int):=(by simpa using c1);omega) ?_
  refine aP Tp ?_
  try simp only[aH]
  refine aa Tp ?_;refine aN ?_;exact JD (_) (hh:=λ_=>.inl rfl) (Env.tt) (hE:=λ_ _ _ _=>trivial) (hr:=oS (k:=by exact⟨_,_,rfl,⟨om,λq q1 q2 q3=>by simp only[upd];repeat rw[XV (by omega)],λq q1 q2 q3=>by rw[jT (x:=x) (T:=T) (k:=l.length+m) (r:=r) (by simp[upd])];rw[jT hW]at q3;exact q3⟩,λ_=>⟨by simp,om,.inr ⟨om,r,x,fB,om,by simp only[upd];rw[XV fB];exact hr,by simp[upd]⟩⟩,λq=>(by cases q)⟩))
 refine aj ?_
 refine aa Tp ?_
 refine aN ?_
 exact JD (_) (hh:=λ_=>.inl rfl) (Env.capLt r (l.length+m)) (hE:=λg w w2 q=>⟨q.2.1,λblk c' sz he=>by have h9:=q.2.2 blk c' sz he;have : ¬((m:Int)<=(c:Int)-(l.length:Int)):=(by simpa using c1);omega⟩) (hr:=oS (k:=by exact⟨_,_,rfl,bK.refl (by omega),λq=>(by cases q),λ_=>⟨by have : ¬((m:Int)<=(c:Int)-(l.length:Int)):=(by simpa using c1);omega,⟨om,.inr ⟨om,r,x,fB,om,hr,hW⟩⟩,λq hq g w hp=>by rw[jT hW]at hq;cases hq;exact hp⟩⟩))
def bo237:d9 prog 237=true:=by kernel_rfl
theorem MP(h:H)(n:Nat):yK prog 237 [] h n .returning .returning (λh' n'=>(∀q,q<n->h' q=h q)/\n<=n'):=by
 refine BK (d:=.v .nilIface) (v:=.nilIface) func237 rfl bo237 (by simp[f237]) (dN rfl) rfl rfl (by decide) (.inl ⟨rfl,rfl,rfl⟩) (λ_ _=>.v _) (λhnone=>?_)
 have ff:=True.intro
 refine Zhg Tp 1 true ?_ (ht:=underlying20)
 refine aP Tp ?_
 try simp only[aH]
 refine cd ?_ ?_<;>intro c1
 . simp at c1
 refine aj ?_
 refine⟨(by trivial),h,_,?_,Nat.le_refl _,λq hq=>rfl,by dsimp only;omega⟩
 intro r
 dsimp only
 first
 | exact .inl rfl
 | exact(Decidable.em (r<n)).elim (λe=>by left;simp only[upd];repeat (first|rfl|rw[XV (by omega)])) λe=>by right;exact hnone r (by omega)
def bB.cell{T:TypeId}{h:H}{W nx:Nat}{l:Str}{m:Nat}(hB:bB T h W nx l m):∃(d:D)(x:Int),d.one=true/\h W=some ⟨T,[[d,.i 0,.v (.int .i8 x)]]⟩:=by
 obtain⟨_,⟨_,x,hW⟩|⟨_,r,x,h1,h2,_,hW⟩⟩:=hB
 . exact⟨_,x,rfl,hW⟩
 exact⟨_,x,rfl,hW⟩
def bB.last{T:TypeId}{h:H}{W nx nx':Nat}{l:Str}{m:Nat}{d:D}{x:Int}(hB:bB T h W nx l m)(hW:h W=some ⟨T,[[d,.i 0,.v (.int .i8 x)]]⟩)(y:Int)(hn:nx<=nx'):bB T (upd h W (some ⟨T,[[d,.i 0,.v (.int .i8 y)]]⟩)) W nx' l m:=by
 obtain⟨h0,⟨e,x',hW'⟩|⟨e,r,x',h1,h2,h3,hW'⟩⟩:=hB
 .
  rw[hW]at hW'
  cases hW'
  exact⟨om,.inl ⟨e,y,bL _ _ _⟩⟩
 rw[hW]at hW'
 cases hW'
 exact⟨om,.inr ⟨e,r,y,h1,om,by rw[aJ _ _ _ _ h1];exact h3,bL _ _ _⟩⟩
def bK.last{T:TypeId}{h:H}{W n n':Nat}{d:D}{x:Int}(hW:h W=some ⟨T,[[d,.i 0,.v (.int .i8 x)]]⟩)(y:Int)(hn:n<=n'):bK h (upd h W (some ⟨T,[[d,.i 0,.v (.int .i8 y)]]⟩)) W n n':=by
 refine⟨hn,λq _ h2 _=>aJ _ _ _ _ h2,λq _ _ h3=>?_⟩
 have:kz (upd h W (some ⟨T,[[d,.i 0,.v (.int .i8 y)]]⟩)) W=kz h W:=by
  unfold kz;rw[bL,hW]
  cases d<;>rfl
 rw[this]
 exact h3
theorem bK.more{h h2 h3:H}{W n n2 n3:Nat}(a:bK h h2 W n n2)(hn:n2<=n3)(k : ∀q,q<n2->q≠W->kz h2 W≠some q->h3 q=h2 q)(k2 : ∀q,kz h3 W=some q->kz h2 W=some q\/n2<=q):bK h h3 W n n3 :=
 a.trans ⟨hn,k,λq h1 _ h3 e=>by rcases k2 q e with h4|h4;exact h3 h4;omega⟩
def bB.cases3{T:TypeId}{h:H}{W nx m:Nat}{l:Str}(hB:bB T h W nx l m):(l=[]/\m=0 /\ ∃x:Int,h W=some ⟨T,[[.list true [],.i 0,.v (.int .i8 x)]]⟩)\/(0<l.length/\m=0 /\ ∃(r:Nat)(x:Int),r≠W/\r<nx/\h r=some ⟨5,l.map bD⟩/\h W=some ⟨T,[[.mrow r 0 (l.length+0),.i 0,.v (.int .i8 x)]]⟩)\/(0<m /\ ∃(r:Nat)(x:Int),r≠W/\r<nx/\h r=some ⟨5,l.map bD⟩/\h W=some ⟨T,[[.mrow r 0 (l.length+m),.i 0,.v (.int .i8 x)]]⟩):=by
 obtain⟨_,⟨e,x,hW⟩|⟨e,r,x,h1,h2,h3,hW⟩⟩:=hB
 . exact .inl ⟨Yb om,om,x,hW⟩
 rcases Nat.eq_zero_or_pos m with h0|h0
 . subst h0;exact .inr (.inl ⟨om,rfl,r,x,h1,h2,h3,hW⟩)
 exact .inr (.inr ⟨h0,r,x,h1,h2,h3,hW⟩)
theorem QY{m k:Nat}{x:List D}:(List.replicate m x).drop k=List.replicate (m-k) x:=by simp
def Xa:d9 prog 196=true:=by kernel_rfl
def Zhb(m:Nat)(h:H)(n:Nat)(h0:0<m)(hl:m<=1000000000000):bT prog 196 [.list true [],.i m] h n (λd h' n'=>∃r',d = .mrow r' 0 0/\h' r'=some ⟨5,List.replicate m [.v (.int .u8 0)]⟩/\n<=r'/\r'<n' /\ ∀q,q<n->h' q=h q):=by
 have ff:=True.intro
 refine HZ (C:=Tp) 0 func196 rfl Xa (by simp[f196]) o3d ev o4d (dN rfl) rfl rfl (by intro o ho;simp at ho) o4l o4d o3g ev (λhnone=>?_)
 unfold f196
 refine aP Tp ?_
 try simp only[aH]
 have e00:((0:Nat):Int)+(m:Int)=m:=by omega
 have ff:=qA @e00 ff
 refine aa Tp ?_
 refine ae ?_
 refine bY ?_
 refine M3 Tp 2 (e:=5) ?_
 refine aP Tp ?_
 try simp only[aH]
 refine cd ?_ ?_ (hp:=rfl)<;>intro c1
 . exfalso;simp at c1;omega
 refine aj ?_
 refine bY ?_
 refine MS Tp 1 (e:=5) (kk:=.i64) m h0 o4k (by omega) ?_
 refine aP Tp ?_
 try simp only[aH]
 refine bY ?_
 refine FE Tp 2 (e:=5) ?_
 refine aP Tp ?_
 try simp only[aH]
 refine aa Tp ?_
 refine aN ?_
 refine⟨_,_,_,rfl,rfl,MP _ _,λh1 n1⟨w1,w2⟩=>?_⟩
 try dsimp only at w1 w2
 exact⟨by simp only[go_sem,ff],h1,n1,λ_=>.inl rfl,XW _,_,by simp only[go_sem,ff];first|done|rfl,by rw[w1 _ (by omega)];simp only[upd];repeat (first|rfl|rw[XV (by omega)]|rw[X3 rfl]),om,om,λq hq=>by rw[w1 q (by omega)];simp only[upd];repeat (first|rfl|rw[XV (by omega)]|rw[X3 rfl])⟩
def gs_ct(l:Str)(m:Nat)(h:H)(n r:Nat)(hr:h r=some ⟨5,l.map bD⟩)(h0:0<l.length)(h1:0<m)(hl:l.length+m<=1000000000000):uR prog 196 [.mrow r 0 l.length,.i m] h n (Env.capLt r (l.length+m)) (λd h' n' E'=>E'=Env.tt/\(λd h' n'=>∃r' k,d = .mrow r' 0 l.length/\h' r'=some ⟨5,l.map bD++List.replicate k [.v (.int .u8 0)]⟩/\m<=k/\n<=r'/\r'<n' /\ ∀q,q<n->h' q=h q) d h' n'):=by
 have ff:=True.intro
 refine ZdK (Dh:=by rfl) (C:=Tp) 0 func196 rfl Xa (by simp[f196]) o3d ev o4d (dN rfl) rfl rfl (by intro o ho;simp at ho) o4l o4d o3g ev (λhnone=>?_)
 unfold f196
 refine aP Tp ?_
 try simp only[aH]
 have hrn:r<n:=by rcases YE r n with q|q;exact q;rw[hnone r q]at hr;cases hr
 have ff:=qB @hr (nG r n) ff
 refine aa Tp ?_
 refine ae ?_
 refine bY ?_
 refine gcapE Tp 2 (r:=r) (l.length+m) (λ_ _ q=>q) (λc hc1 hc2=>?_)
 try dsimp only at hc2
 refine aP Tp ?_
 try simp only[aH]
 refine cd ?_ ?_<;>intro c1
 .
  refine sJ ?_;refine gcapQ Tp 1 (r:=r) (off:=0) rfl ?_;refine aP Tp ?_
  try simp only[aH]
  refine bY ?_;refine MS Tp 1 (e:=5) (kk:=.i64) (2*c) (by omega) o4k (by omega) ?_
  refine aP Tp ?_
  try simp only[aH]
  refine bY ?_;refine BC Tp 2 l.length ?_;refine aP Tp ?_
  try simp only[aH]
  refine aa Tp ?_;refine aN ?_;refine⟨_,_,_,rfl,rfl,MP _ _,λh1 n1⟨w1,w2⟩=>?_⟩
  try dsimp only at w1 w2
  exact⟨by simp only[go_sem,ff],h1,n1,λ_=>.inl rfl,XW _,_,2*c-l.length,by simp only[go_sem,ff];first|done|rfl,by rw[w1 _ (by omega)];simp[upd,QY],om,om,om,λq hq=>by rw[w1 q (by omega)];simp only[upd];repeat (first|rfl|rw[XV (by omega)]|rw[X3 rfl])⟩
 refine aj ?_
 refine bY ?_
 refine MS Tp 1 (e:=5) (kk:=.i64) (l.length+m) (by omega) o4k (by omega) ?_
 refine aP Tp ?_
 try simp only[aH]
 refine bY ?_
 refine BC Tp 2 l.length ?_
 refine aP Tp ?_
 try simp only[aH]
 refine aa Tp ?_
 refine aN ?_
 refine⟨_,_,_,rfl,rfl,MP _ _,λh1 n1⟨w1,w2⟩=>?_⟩
 try dsimp only at w1 w2
 exact⟨by simp only[go_sem,ff],h1,n1,λ_=>.inl rfl,XW _,_,m,by simp only[go_sem,ff];first|done|rfl,by rw[w1 _ (by omega)];simp[upd,QY],om,om,om,λq hq=>by rw[w1 q (by omega)];simp only[upd];repeat (first|rfl|rw[XV (by omega)]|rw[X3 rfl])⟩
def bB.mono{T:TypeId}{h:H}{W nx nx':Nat}{l:Str}{m:Nat}(hB:bB T h W nx l m)(hn:nx<=nx'):bB T h W nx' l m:=by
 obtain⟨h0,h1|⟨e,r,x,h1,h2,h3,h4⟩⟩:=hB
 . exact⟨om,.inl h1⟩
 exact⟨om,.inr ⟨e,r,x,h1,om,h3,h4⟩⟩
def bB.mk{T:TypeId}{h:H}{W nx r k:Nat}{l:Str}{m:Nat}{x:Int}(hW:h W=some ⟨T,[[.mrow r 0 k,.i 0,.v (.int .i8 x)]]⟩)(hr:h r=some ⟨5,l.map bD⟩)(hk:k=l.length+m)(h0:0<l.length+m)(h1:r≠W)(h2:r<nx)(h3:W<nx):bB T h W nx l m:=by
 subst hk
 exact⟨h3,.inr ⟨h0,r,x,h1,h2,hr,hW⟩⟩
def bK.down{h h':H}{W n m n':Nat}(a:bK h h' W m n')(hn:n<=m):bK h h' W n n':=⟨Yh hn a.1,λq h1=>a.2.1 q (YB h1 hn),λq h1=>a.2.2 q (YB h1 hn)⟩
def bK.up{h h':H}{W n n' n2:Nat}(a:bK h h' W n n')(hn:n'<=n2):bK h h' W n n2:=⟨Yh a.1 hn,a.2.1,a.2.2⟩
theorem bK.row{T:TypeId}{h h2 h3:H}{W n n2 n3 r k:Nat}{x:Int}(hW:h3 W=some ⟨T,[[.mrow r 0 k,.i 0,.v (.int .i8 x)]]⟩)(a:bK h h2 W n n2)(hn:n2<=n3)(hk : ∀q,q<n2->q≠W->kz h2 W≠some q->h3 q=h2 q)(hr:kz h2 W=some r\/n2<=r):bK h h3 W n n3 :=
 a.more hn hk λq e=>by rw[jT hW]at e;cases e;exact hr
def MQ(T:TypeId)(l:Str)(m:Nat)(h:H)(n W:Nat)(hB:bB T h W n l 0)(hl:l.length+m<=1000000000000):bT prog 124 [.mptr W 0 0,.i m] h n (λd h' n'=>d = .i l.length/\bK h h' W n n'/\bB T h' W n' l m):=by
 refine oP func124 λhnone ff=>?_
 unfold f124
 refine aa Tp ?_
 refine ae (bI Tp 1 (hct:=by exact ZjK T l _ _ W (hB.mono o5r) om) (hk:=?_))
 rintro res h2 n2 ⟨rfl,aT,hB2⟩
 try dsimp only at aT hB2
 replace aT:=aT.down (show n<=_ by omega)
 obtain⟨d0,x0,hd1,hW2⟩:=hB2.cell
 have hWn2:=hB2.1
 have ff:=qD @hW2 @hd1 (nG W n2) ff
 refine bH Tp ?_
 refine oK Tp ?_ ?_ (hp:=rfl)<;>intro c1
 . exfalso;simp at c1
 refine ae ?_
 refine bY ?_
 refine ZcS (C:=Tp) 2 (R:=_) om (dN rfl) rfl rfl (by simp only[List.drop_succ_cons,List.drop_zero,List.take_succ_cons,List.take_zero,S.put,Nat.sub_self,Nat.reduceSub,go_sem,ff];first|done|exact rfl) ?_ ?_ ev o5l ev (by exact GJ T l m _ _ W (hB2.mono o5r) hl) (by exact λ_ _ _=>trivial) ?_
 .
  try simp only[go_sem,ff]
  all_goals (exact ok0)
 .
  try simp only[go_sem,ff]
  all_goals (first|done|rfl|decide|simp)
 rintro res h3 n3 E3 ⟨ok,a,rfl,eQ,hT,hF⟩
 try dsimp only at eQ hT hF
 refine aP Tp ?_
 try simp only[aH]
 refine aa Tp ?_
 refine cd ?_ ?_ (hp:=rfl) (hq:=rfl)<;>intro c3
 . have hT9:=hT c3;refine aa Tp ?_;refine aN ?_;exact bZ (_) (hh:=λ_=>.inl rfl) (hr:=oS (k:=by exact⟨by rw[hT9.1],(aT.trans (eQ.down (by omega))).up (by omega),hT9.2.mono (by omega)⟩))
 obtain⟨hm0,hB3,hcap⟩:=hF c3
 refine aj ?_
 refine ae ?_
 have hB3k:=hB3
 obtain⟨hWn3,⟨e0,x3,hW3⟩|⟨e0,r,x3,fB,hrn,hr,hW3⟩⟩:=hB3
 .
  obtain rfl:l=[]:=Yb om;have e00:((0:Nat):Int)+(m:Int)=m:=by omega
  have ff:=qE @hW3 @e00 @Int.zero_add (nG W n3) ff;refine bY ?_;refine Zhn Tp 4 (e:=5) (λy hy=>?_)
  refine aP Tp ?_
  try simp only[aH]
  refine cd ?_ ?_ (hp:=rfl)<;>intro c4
  .
   have hm64:m<=64:=by simp at c4;omega
   refine bY ?_;refine gmkC Tp 2 (e:=5) m 64 hm0 hm64 (by omega) o4k ?_
   refine aP Tp ?_
   try simp only[aH]
   refine NB (r:=(n3+20)) 0 ev ?_;refine aa Tp ?_;refine aN ?_;exact bZ (_) (hh:=λ_=>.inl rfl) (hr:=oS (k:=by first|exact⟨rfl,bK.row (T:=T) ev (aT.trans (eQ.down (by omega))) (by omega) (λq q1 q2 q3=>by simp only[upd];repeat (first|rfl|rw[XV (by omega)])) (.inr (by omega)),bB.mk ev (by simp[upd]) (by simp) (by simp;omega) (by omega) (by omega) (by omega)⟩|exact⟨bK.row (T:=T) ev (aT.trans (eQ.down (by omega))) (by omega) (λq q1 q2 q3=>by simp only[upd];repeat (first|rfl|rw[XV (by omega)])) (.inr (by omega)),bB.mk ev (by simp[upd]) (by simp) (by simp;omega) (by omega) (by omega) (by omega)⟩))
  refine aj ?_;refine bY ?_;refine M3 Tp 4 (e:=5) ?_;refine aP Tp ?_
  try simp only[aH]
  refine ae ?_;refine aa Tp ?_;refine cd ?_ ?_ (hp:=rfl)<;>intro c5
  . exfalso;simp at c5;omega
  refine aa Tp ?_;refine cd ?_ ?_ (hp:=rfl)<;>intro c6
  . exfalso;simp at c6;omega
  refine VI Tp 16 19 [] (hE:=λ_ _ _=>trivial) (hct:=by exact(Zhb m _ _ hm0 om).ie) (hkeep:=?_) (hk:=?_)
  . intro res h2 n2 _ q hq;cases hq
  rintro res h4 n4 ⟨r4,rfl,hr4,nE,hr4n,hkeep⟩
  try dsimp only at nE hkeep
  have hW4:=(hkeep W (by omega)).trans hW3
  have hrW4:r4≠W:=by omega
  have ff:=qF hr4 hW4 (nH W r4) (nG W n4) (nG r4 n4) ff;refine aP Tp ?_
  try simp only[aH]
  refine aa Tp ?_;refine bY ?_;refine UL Tp 8 (r:=r4) (off:=0) m ?_;refine aP Tp ?_
  try simp only[aH]
  refine NB (r:=r4) 0 ev ?_;refine aa Tp ?_;refine aN ?_;exact bZ (_) (hh:=λ_=>.inl rfl) (hr:=oS (k:=by first|exact⟨rfl,bK.row (T:=T) ev (aT.trans (eQ.down (by omega))) (by omega) (λq q1 q2 q3=>by have:=hkeep q (by omega);simp only[upd];repeat (first|exact this|rw[XV (by omega)])) (.inr (by omega)),bB.mk ev (by simp[upd]) (by simp) (by simp;omega) (by omega) (by omega) (by omega)⟩|exact⟨bK.row (T:=T) ev (aT.trans (eQ.down (by omega))) (by omega) (λq q1 q2 q3=>by have:=hkeep q (by omega);simp only[upd];repeat (first|exact this|rw[XV (by omega)])) (.inr (by omega)),bB.mk ev (by simp[upd]) (by simp) (by simp;omega) (by omega) (by omega) (by omega)⟩))
 rw[Zv]at hW3
 have e1:0<l.length:=by omega
 have hE0:((l.length:Int)-((0:Nat):Int)).toNat=l.length:=by omega
 have nJ:(W=r)=False:=YN (λe=>fB e.symm)
 have nD:(r=W)=False:=YN fB
 have ff:=qA @hW3 (qI @hr @nJ @nD @Int.zero_add @Int.sub_zero @hE0 (nG W n3) (nG r n3) ff)
 refine bY ?_
 refine gmnil Tp 4 (e:=5) ?_
 refine aP Tp ?_
 try simp only[aH]
 refine cd ?_ ?_ (hp:=rfl)<;>intro c4
 . exfalso;simp at c4
 refine aj ?_
 refine bY ?_
 refine M4 Tp 4 (λc hc1 hc2=>?_)
 have hc3:(c:Int)<=9223372036854775807:=by have:=hc2;unfold maxLen at this;omega
 refine aP Tp ?_
 try simp only[aH]
 refine ae ?_
 refine aa Tp ?_
 refine cd ?_ ?_<;>intro c5
 .
  refine zU Tp 13 ?_;refine BC Tp 13 l.length ?_;refine aP Tp ?_
  try simp only[aH]
  refine aa Tp ?_;refine bY ?_;refine MR Tp 8 (r:=r) (off:=0) (c:=c) (l.length+m) rfl (by have:(m:Int)<=(c:Int) / 2-(l.length:Int):=(by simpa using c5);omega) ?_
  refine aP Tp ?_
  try simp only[aH]
  refine aa Tp ?_;refine aN ?_;exact bZ (_) (hh:=λ_=>.inl rfl) (hr:=oS (k:=by first|exact⟨rfl,bK.row (T:=T) ev (aT.trans (eQ.down (by omega))) (by omega) (λq q1 q2 q3=>by have lu:q≠r:=λe=>q3 (by rw[e];exact jT hW3);simp only[upd];repeat (first|rfl|rw[XV lu]|rw[XV (by omega)])) (.inl (jT hW3)),bB.mk ev (by simp[upd,fB]) (by simp) (by omega) (by omega) (by omega) (by omega)⟩|exact⟨bK.row (T:=T) ev (aT.trans (eQ.down (by omega))) (by omega) (λq q1 q2 q3=>by have lu:q≠r:=λe=>q3 (by rw[e];exact jT hW3);simp only[upd];repeat (first|rfl|rw[XV lu]|rw[XV (by omega)])) (.inl (jT hW3)),bB.mk ev (by simp[upd,fB]) (by simp) (by omega) (by omega) (by omega) (by omega)⟩))
 refine Zij (r:=r) (k:=l.length+m) ev (λg w q=>hcap r (jT hW3) g w q.2) (λhc9=>?_)
 refine aa Tp ?_
 refine cd ?_ ?_ (hp:=rfl)<;>intro c6
 . exfalso;simp at c6;omega
 refine VI Tp 16 19 [] (hE:=by exact λg w q=>hcap r (jT hW3) g w q.1.2) (hct:=by exact(gs_ct l m _ _ r hr e1 hm0 hl).i) (hkeep:=?_) (hk:=?_)
 . intro res h2 n2 _ q hq;cases hq
 rintro res h4 n4 ⟨E4,rfl,r4,k4,rfl,hr4,hk4,nE,hr4n,hkeep⟩
 try dsimp only at nE hkeep
 have hW4:=(hkeep W (by omega)).trans hW3
 have hrW4:r4≠W:=by omega
 have ff:=qF hr4 hW4 (nH W r4) (nG W n4) (nG r4 n4) ff
 refine aP Tp ?_
 try simp only[aH]
 refine aa Tp ?_
 refine bY ?_
 refine UL Tp 8 (r:=r4) (off:=0) (l.length+m) ?_
 refine aP Tp ?_
 try simp only[aH]
 refine NB (r:=r4) l.length ev ?_
 refine aa Tp ?_
 refine aN ?_
 exact bZ (_) (hh:=λ_=>.inl rfl) (hr:=oS (k:=by first|exact⟨rfl,bK.row (T:=T) ev (aT.trans (eQ.down (by omega))) (by omega) (λq q1 q2 q3=>by have:=hkeep q (by omega);simp only[upd];repeat (first|exact this|rw[XV (by omega)])) (.inr (by omega)),bB.mk ev (by simp[upd]) (by simp) (by omega) (by omega) (by omega) (by omega)⟩|exact⟨bK.row (T:=T) ev (aT.trans (eQ.down (by omega))) (by omega) (λq q1 q2 q3=>by have:=hkeep q (by omega);simp only[upd];repeat (first|exact this|rw[XV (by omega)])) (.inr (by omega)),bB.mk ev (by simp[upd]) (by simp) (by omega) (by omega) (by omega) (by omega)⟩))
def bB.has{T:TypeId}{h:H}{W nx m:Nat}{l:Str}(hB:bB T h W nx l m)(h0:0<m):∃(r:Nat)(x:Int),r≠W/\r<nx/\h r=some ⟨5,l.map bD⟩/\h W=some ⟨T,[[.mrow r 0 (l.length+m),.i 0,.v (.int .i8 x)]]⟩:=by
 obtain⟨_,⟨e,x,hW⟩|⟨e,r,x,h1,h2,h3,hW⟩⟩:=hB
 . omega
 exact⟨r,x,h1,h2,h3,hW⟩
def bB.wrote{T:TypeId}{h:H}{W nx r k:Nat}{l p:Str}{x:Int}{rows:List (List D)}(hW:h W=some ⟨T,[[.mrow r 0 k,.i 0,.v (.int .i8 x)]]⟩)(hr:h r=some ⟨5,rows⟩)(he:rows=(l++p).map bD)(hk:k=l.length+p.length)(h0:0<l.length+p.length)(h1:r≠W)(h2:r<nx)(h3:W<nx):bB T h W nx (l++p) 0:=by
 subst he
 exact bB.mk hW hr (by rw[hk,X0];rfl) (by rw[X0];omega) h1 h2 h3
theorem OV(T:TypeId)(l:Str)(b:UInt8)(h:H)(n W:Nat)(hB:bB T h W n l 0)(hl:l.length+1<=1000000000000):bT prog 66 [.mptr W 0 0,.v (.int .u8 b.toNat)] h n (λd h' n'=>d = .v .nilIface/\bK h h' W n n'/\bB T h' W n' (l++[b]) 0):=by
 refine oP func66 λhnone ff=>?_
 unfold f66
 obtain⟨d0,x0,hd1,hW⟩:=hB.cell
 have Bu:=hB.1
 have ff:=qD @hW @hd1 (nG W n) ff
 refine oC Tp ?_
 refine ae (bI Tp 1 (hct:=by exact uR.rct (GJ T l 1 _ _ W (hB.last hW _ o5r) hl)) (hk:=?_))
 rintro res h2 n2 ⟨E2,ok,a,rfl,aT,hT,hF⟩
 try dsimp only at aT hT hF
 have hs0:=bK.last (n':=n) hW 0 (XW n)
 replace aT:=hs0.trans (aT.down oW)
 refine bH Tp ?_
 refine jnh (α:=(H)×Nat) [0,1] (λ⟨hq,nx⟩=>(bB T hq W nx l (1))/\(bK h hq W n nx)/\(n<=nx)/\True) (λ⟨hq,nx⟩=>[(5,.i l.length)]) (λ⟨hq,nx⟩=>hq) (λ⟨hq,nx⟩=>nx) ?_ ?_
 .
  refine aa Tp ?_;refine cd ?_ ?_ (hp:=rfl) (hq:=rfl)<;>intro c3
  .
   have hF2:=hF (by simpa using c3)
   refine bI Tp 1 (hct:=by exact MQ T l 1 _ _ W ((hF2.2.1).mono o5r) hl) (hk:=?_)
   rintro res h3 n3 ⟨rfl,eQ,hB3⟩
   try dsimp only at eQ hB3
   refine bH Tp ?_
   show ∃_,_
   exact Cu (h3,_) (h1:=⟨(hB3.mono oW),o3z,o4g,trivial⟩)
  have vI:=hT (by simpa using c3)
  have hal:=vI.1;subst hal;refine aj ?_
  show ∃_,_
  exact Cu (h2,_) (h1:=⟨(vI.2.mono oW),(aT.up oW),o4q,trivial⟩)
 rintro⟨hq,nx⟩ ⟨hG,aQ,hnx, -⟩
 simp only[XY,XZ]
 obtain⟨r,y,fB,hrn,hr,hW2⟩:=hG.has om
 have UJ:=hG.1
 have hll:((l.length:Int)).toNat=l.length:=by omega
 have nJ:(W=r)=False:=YN (λe=>fB e.symm)
 have nD:(r=W)=False:=YN fB
 have ff:=qA @hW2 (qI @hr @nJ @nD @Int.sub_zero @Int.zero_add (nG W nx) (nG r nx) @hll ff)
 refine bY ?_
 refine Zg9 Tp 7 (e:=5) (z:=.tmp 22) (r:=r) (off:=0) (len:=l.length+1) (n:=l.length) ?_
 refine aP Tp ?_
 try simp only[aH]
 refine aa Tp ?_
 refine aN ?_
 exact bZ (_) (hh:=λ_=>.inl rfl) (hr:=oS (k:=by first|exact⟨rfl,bK.row (T:=T) ev aQ (by omega) (λq q1 q2 q3=>by have lu:q≠r:=λe=>q3 o5n;simp only[upd];repeat (first|rfl|rw[XV lu]|rw[XV (by omega)])) (.inl (jT hW2)),bB.wrote (r:=r) ev ev (by simp[bD]) (by simp) (by simp) fB (by omega) (by omega)⟩|exact⟨bK.row (T:=T) ev aQ (by omega) (λq q1 q2 q3=>by have lu:q≠r:=λe=>q3 o5n;simp only[upd];repeat (first|rfl|rw[XV lu]|rw[XV (by omega)])) (.inl (jT hW2)),bB.wrote (r:=r) ev ev (by simp[bD]) (by simp) (by simp) fB (by omega) (by omega)⟩))
def DX(T:TypeId)(l:Str)(p:Str)(h:H)(n W:Nat)(hB:bB T h W n l 0)(hl:l.length+p.length<=1000000000000):bT prog 71 [.mptr W 0 0,.list false (p.map bD)] h n (λd h' n'=>d = .tuple [.i p.length,.v .nilIface]/\bK h h' W n n'/\bB T h' W n' (l++p) 0):=by
 refine oP func71 λhnone ff=>?_
 unfold f71
 obtain⟨d0,x0,hd1,hW⟩:=hB.cell
 have Bu:=hB.1
 have ff:=qD @hW @hd1 (nG W n) ff
 refine oC Tp ?_
 refine ae (bI Tp 3 (hct:=o2k) (hk:=?_))
 rintro res h2 n2 ⟨E2,ok,a,rfl,aT,hT,hF⟩
 try dsimp only at aT hT hF
 have hs0:=bK.last (n':=n) hW 0 (XW n)
 replace aT:=hs0.trans (aT.down oW)
 refine bH Tp ?_
 refine jnh (α:=(H)×Nat) [0,1] (λ⟨hq,nx⟩=>(bB T hq W nx l (p.length))/\(bK h hq W n nx)/\(n<=nx)/\True) (λ⟨hq,nx⟩=>[(6,.i l.length)]) (λ⟨hq,nx⟩=>hq) (λ⟨hq,nx⟩=>nx) ?_ ?_
 .
  refine aa Tp ?_;refine cd ?_ ?_ (hp:=rfl) (hq:=rfl)<;>intro c3
  .
   have hF2:=hF (by simpa using c3)
   refine bI Tp 3 (hct:=o2x) (hk:=?_)
   rintro res h3 n3 ⟨rfl,eQ,hB3⟩
   try dsimp only at eQ hB3
   refine bH Tp ?_
   show ∃_,_
   exact Cu (h3,_) (h1:=⟨(hB3.mono oW),o3z,o4g,trivial⟩)
  have vI:=hT (by simpa using c3)
  have hal:=vI.1;subst hal;refine aj ?_
  show ∃_,_
  exact Cu (h2,_) (h1:=⟨(vI.2.mono oW),(aT.up oW),o4q,trivial⟩)
 rintro⟨hq,nx⟩ ⟨hG,aQ,hnx, -⟩
 simp only[XY,XZ]
 have UJ:=hG.1
 rcases hG.cases3 with⟨e1,e2,y,hW2⟩|⟨e1,e2,r,y,fB,hrn,hr,hW2⟩|⟨e1,r,y,fB,hrn,hr,hW2⟩
 .
  obtain rfl:=e1;obtain rfl:p=[]:=Yb e2;have ff:=qB @hW2 (nG W nx) ff;refine bY ?_;refine FE Tp 7 (e:=5) ?_;refine aP Tp ?_
  try simp only[aH]
  refine aN ?_;exact bZ (_) (hh:=λ_=>.inl rfl) (hr:=oS (k:=o0j))
 .
  obtain rfl:p=[]:=Yb e2;have hll:((l.length:Int)).toNat=l.length:=by omega
  have hE1:(((l.length+0:Nat):Int)-(l.length:Int)).toNat=0:=by omega
  have hE2:((l.length:Int)-(l.length:Int)).toNat=0:=by omega
  have nJ:(W=r)=False:=YN (λe=>fB e.symm)
  have nD:(r=W)=False:=YN fB;have ff:=qD @hW2 @hr @nJ (qI @nD @Int.sub_zero @Int.zero_add (nG W nx) (nG r nx) @hll @hE1 @hE2 ff);refine bY ?_;refine FE Tp 7 (e:=5) ?_;refine aP Tp ?_
  try simp only[aH]
  refine aN ?_;exact bZ (_) (hh:=λ_=>.inl rfl) (hr:=oS (k:=o0j))
 have hll:((l.length:Int)).toNat=l.length:=by omega
 have hE1:(((l.length+p.length:Nat):Int)-(l.length:Int)).toNat=p.length:=by omega
 have hE2:((l.length:Int)+(p.length:Int)-(l.length:Int)).toNat=p.length:=by omega
 have nJ:(W=r)=False:=YN (λe=>fB e.symm)
 have nD:(r=W)=False:=YN fB
 have ff:=qD @hW2 @hr @nJ (qI @nD @Int.sub_zero @Int.zero_add (nG W nx) (nG r nx) @hll @hE1 @hE2 ff)
 refine bY ?_
 refine UR Tp 7 (e:=5) (r:=r) (off:=l.length) (m:=p.length) (news:=p.map bD) ?_ (hrl:=by intro q hq;obtain⟨b,_,rfl⟩:=Yr.1 hq;rfl)
 refine aP Tp ?_
 try simp only[aH]
 refine aN ?_
 exact bZ (_) (hh:=λ_=>.inl rfl) (hr:=oS (k:=o0b))
def XT(T:TypeId)(l:Str)(p:Str)(h:H)(n W:Nat)(hB:bB T h W n l 0)(hl:l.length+p.length<=1000000000000):bT prog 126 [.mptr W 0 0,.v (.string (bs p))] h n (λd h' n'=>d = .tuple [.i p.length,.v .nilIface]/\bK h h' W n n'/\bB T h' W n' (l++p) 0):=by
 refine oP func126 λhnone ff=>?_
 unfold f126
 obtain⟨d0,x0,hd1,hW⟩:=hB.cell
 have Bu:=hB.1
 have ff:=qD @hW @hd1 (nG W n) ff
 refine oC Tp ?_
 refine ae (bI Tp 3 (hct:=o2k) (hk:=?_))
 rintro res h2 n2 ⟨E2,ok,a,rfl,aT,hT,hF⟩
 try dsimp only at aT hT hF
 have hs0:=bK.last (n':=n) hW 0 (XW n)
 replace aT:=hs0.trans (aT.down oW)
 refine bH Tp ?_
 refine jnh (α:=(H)×Nat) [0,1] (λ⟨hq,nx⟩=>(bB T hq W nx l (p.length))/\(bK h hq W n nx)/\(n<=nx)/\True) (λ⟨hq,nx⟩=>[(6,.i l.length)]) (λ⟨hq,nx⟩=>hq) (λ⟨hq,nx⟩=>nx) ?_ ?_
 .
  refine aa Tp ?_;refine cd ?_ ?_ (hp:=rfl) (hq:=rfl)<;>intro c3
  .
   have hF2:=hF (by simpa using c3)
   refine bI Tp 3 (hct:=o2x) (hk:=?_)
   rintro res h3 n3 ⟨rfl,eQ,hB3⟩
   try dsimp only at eQ hB3
   refine bH Tp ?_
   show ∃_,_
   exact Cu (h3,_) (h1:=⟨(hB3.mono oW),o3z,o4g,trivial⟩)
  have vI:=hT (by simpa using c3)
  have hal:=vI.1;subst hal;refine aj ?_
  show ∃_,_
  exact Cu (h2,_) (h1:=⟨(vI.2.mono oW),(aT.up oW),o4q,trivial⟩)
 rintro⟨hq,nx⟩ ⟨hG,aQ,hnx, -⟩
 simp only[XY,XZ]
 have UJ:=hG.1
 rcases hG.cases3 with⟨e1,e2,y,hW2⟩|⟨e1,e2,r,y,fB,hrn,hr,hW2⟩|⟨e1,r,y,fB,hrn,hr,hW2⟩
 .
  obtain rfl:=e1;obtain rfl:p=[]:=Yb e2;have ff:=qB @hW2 (nG W nx) ff;refine bY ?_;refine FE Tp 7 (e:=5) ?_;refine aP Tp ?_
  try simp only[aH]
  refine aN ?_;exact bZ (_) (hh:=λ_=>.inl rfl) (hr:=oS (k:=o0j))
 .
  obtain rfl:p=[]:=Yb e2;have hll:((l.length:Int)).toNat=l.length:=by omega
  have hE1:(((l.length+0:Nat):Int)-(l.length:Int)).toNat=0:=by omega
  have hE2:((l.length:Int)-(l.length:Int)).toNat=0:=by omega
  have nJ:(W=r)=False:=YN (λe=>fB e.symm)
  have nD:(r=W)=False:=YN fB;have ff:=qD @hW2 @hr @nJ (qI @nD @Int.sub_zero @Int.zero_add (nG W nx) (nG r nx) @hll @hE1 @hE2 ff);refine bY ?_;refine FE Tp 7 (e:=5) ?_;refine aP Tp ?_
  try simp only[aH]
  refine aN ?_;exact bZ (_) (hh:=λ_=>.inl rfl) (hr:=oS (k:=o0j))
 have hll:((l.length:Int)).toNat=l.length:=by omega
 have hE1:(((l.length+p.length:Nat):Int)-(l.length:Int)).toNat=p.length:=by omega
 have hE2:((l.length:Int)+(p.length:Int)-(l.length:Int)).toNat=p.length:=by omega
 have nJ:(W=r)=False:=YN (λe=>fB e.symm)
 have nD:(r=W)=False:=YN fB
 have ff:=qD @hW2 @hr @nJ (qI @nD @Int.sub_zero @Int.zero_add (nG W nx) (nG r nx) @hll @hE1 @hE2 ff)
 refine bY ?_
 refine UR Tp 7 (e:=5) (r:=r) (off:=l.length) (m:=p.length) (news:=p.map bD) ?_ (hrl:=by intro q hq;obtain⟨b,_,rfl⟩:=Yr.1 hq;rfl)
 refine aP Tp ?_
 try simp only[aH]
 refine aN ?_
 exact bZ (_) (hh:=λ_=>.inl rfl) (hr:=oS (k:=o0b))
theorem DK(T:TypeId)(l:Str)(h:H)(n W:Nat)(hB:bB T h W n l 0)(hl:l.length<=1000000000000):bT prog 70 [.mptr W 0 0] h n (λd h' n'=>((l=[]/\d = .list true [])\/(l≠[] /\ ∃r,d = .mrow r 0 l.length/\h' r=some ⟨5,l.map bD⟩/\kz h' W=some r))/\bK h h' W n n'/\bB T h' W n' l 0):=by
 refine oP func70 λhnone ff=>?_
 unfold f70
 refine aa Tp ?_
 have Fz:=hB
 obtain⟨Bu,⟨e0,x,hW⟩|⟨e0,r,x,fB,hrn,hr,hW⟩⟩:=hB
 . obtain rfl:l=[]:=Yb om;have ff:=qB @hW (nG W n) ff;refine aa Tp ?_;refine aN ?_;exact bZ (_) (hh:=λ_=>.inl rfl) (hr:=oS (k:=by first|exact⟨.inl rfl,bK.refl om,Fz.mono om⟩|exact⟨.inl ⟨rfl,rfl⟩,bK.refl om,Fz.mono om⟩))
 rw[Zv]at hW
 have hE1:((l.length:Int)-0).toNat=l.length:=by omega
 have hE2:((l.length:Int)).toNat=l.length:=by omega
 have nJ:(W=r)=False:=YN (λe=>fB e.symm)
 have nD:(r=W)=False:=YN fB
 have ff:=qA @hW (qI @hr @nJ @nD @hE1 @hE2 @Int.sub_zero (nG W n) (nG r n) ff)
 refine aa Tp ?_
 refine aN ?_
 exact bZ (_) (hh:=λ_=>.inl rfl) (hr:=oS (k:=by exact⟨.inr ⟨λe=>by subst e;simp at e0,r,rfl,hr,jT hW⟩,bK.refl om,Fz.mono om⟩))
def ZiI{d:Nat}{c:UInt8}(h:d<18446744073709551616):IntKind.u64.wrap (Ki .u64 (d:Int) (IntKind.u64.wrap (c.toNat:Int))*1099511628211)=((rV d c:Nat):Int):=by
 have hc:=c.toNat_lt
 have e0:IntKind.u64.wrap (c.toNat:Int)=(c.toNat:Int):=by rw[IntKind.wrap_u64];omega
 have e1:(BitVec.ofInt 64 (d:Int) ^^^ BitVec.ofInt 64 (c.toNat:Int)).toNat=d ^^^ c.toNat:=by
  rw[BitVec.toNat_xor,BitVec.ofInt_natCast,BitVec.ofInt_natCast,BitVec.toNat_ofNat,BitVec.toNat_ofNat,ZB (by omega),ZB (by omega)]
 have e2:d ^^^ c.toNat<2^64:=Nat.xor_lt_two_pow om om
 have e3:Ki .u64 (d:Int) (c.toNat:Int)=IntKind.u64.wrap ((BitVec.ofInt 64 (d:Int) ^^^ BitVec.ofInt 64 (c.toNat:Int)).toNat:Int):=rfl
 rw[e0,e3,e1,IntKind.wrap_u64,IntKind.wrap_u64]
 unfold rV
 omega
def ZiM(l:Str){d:Nat}(h:d<18446744073709551616):l.foldl rV d<18446744073709551616:=by
 rcases List.eq_nil_or_concat l with e|⟨p,z,e⟩
 . subst e;exact h
 rw[e,List.concat_eq_append,Zf,YF,ZA]
 unfold rV
 omega
def ZiL{b:Str}{d k:Nat}(h:k<b.length):(b.take (k+1)).foldl rV d=rV ((b.take k).foldl rV d) (b.getD k 0):=by
 have e:b[k]?.toList=[b.getD k 0]:=by simp[List.getD,Yg h]
 rw[Zj,Zf,e,YF,ZA]
def ZjV(u s:Nat)(hs:s<=56):IntKind.u8.wrap ((u:Int).fdiv (2^(min s 64)))=((gU u s).toNat:Int):=by
 rw[IntKind.wrap_u8,ZK (by omega),J6]
 rw[Int.fdiv_eq_ediv_of_nonneg _ (by exact_mod_cast Yi _)]
 norm_cast
def GG(n:Int):IntKind.u64.wrap n=((uN n:Nat):Int):=by rw[IntKind.wrap_u64];unfold uN;omega
def yP{n:Nat}(h:n<18446744073709551616):IntKind.u64.wrap (n:Int)=(n:Int):=by rw[IntKind.wrap_u64];omega
def bo125:d9 prog 125=true:=by kernel_rfl
def Zjg(b:Str)(d:Nat)(h:H)(n W:Nat)(hW:h W=some ⟨200,[[.v (.int .u64 ((d:Nat):Int))]]⟩)(hd:d<18446744073709551616)(hb:b.length<=1000000000000):bT prog 125 [.mptr W 0 0,.list false (b.map bD)] h n (λx h' n'=>h'=upd h W (some ⟨200,[[.v (.int .u64 ((b.foldl rV d:Nat):Int))]]⟩)/\n<=n'):=by
 refine Lg func125 rfl bo125 (by simp[f125]) (λhnone=>?_)
 unfold f125
 have ff:=True.intro
 refine aa Tp ?_
 refine ah ?_
 refine jk (α:=(Nat)×Nat) [0,6,7] (λ⟨k,nx⟩=>(k<=b.length)/\(n<=nx)/\(W<nx)/\True) (λ⟨k,nx⟩=>b.length-k) (λ⟨k,nx⟩=>[(8,.i k)]) (λ⟨k,nx⟩=>upd h W (some ⟨200,[[.v (.int .u64 (((b.take k).foldl rV d:Nat):Int))]]⟩)) (λ⟨k,nx⟩=>nx) (0,_) (hA:=⟨iv,iv,(by(try dsimp only);rcases Nat.lt_or_ge W n with q|q;omega;rw[hnone W q]at hW;cases hW),trivial⟩) (round:=?_) (Bq:=by intro q;left;show upd h W (some ⟨200,[[.v (.int .u64 ((d:Nat):Int))]]⟩) q=h q;by_cases e:q=W;subst e;rw[bL];exact hW.symm;rw[aJ _ _ _ _ e])
 rintro⟨k,nx⟩ ⟨hk,hn,hWx, -⟩
 show DW _ _ _ _ { n:=_,t:=tab _,h:=_,nx:=_,e:=_ }
 simp only[XY,XZ]
 refine aa Tp ?_
 refine ae ?_
 refine cd ?_ ?_<;>intro c1
 .
  have hk2:k<b.length:=by omega
  have hst:=ZiL (d:=d) hk2;have hdl:=ZiM (b.take k) hd;have hds:=ZiI (c:=b.getD k 0) hdl;have ff:=qA (FD hk2) ff;refine aj ?_
  show DW _ _ _ _ _
  refine ae ?_;refine ah ?_;refine aa Tp ?_;refine sJ ?_;refine gmulu Tp 7 hds ?_;refine gnilc Tp 8 (r:=W) (j:=0) (off:=0) ?_;refine gst1 Tp 9 ?_;refine gend Tp ?_;refine dw_to [(8,.i k),(0,.mptr W 0 0),(6,.list false (b.map bD)),(7,.i b.length)] (upd h W (some ⟨200,[[.v (.int .u64 ((rV ((b.take k).foldl rV d) (b.getD k 0):Nat):Int))]]⟩)) _ (nx+14) .tt ?_ (hh:=by show upd (upd h W _) W _=_;rw[yN];rfl)
  show DW _ _ _ _ _
  refine ai Tp ?_
  show ∃_,_
  refine ay (k+1,_) (h1:=⟨iv,iv,iv,trivial⟩) (h5:=?_);rw[hst];exact CQ _
 .
  have hk3:k=b.length:=by omega
  subst hk3;refine aK ?_;exact bZ (upd h W (some ⟨200,[[.v (.int .u64 ((b.foldl rV d:Nat):Int))]]⟩)) (hr:=by(try simp only[go_sem,ff]);all_goals (first|omega|exact⟨rfl,by omega⟩)) (hh:=by rw[Yt];exact CQ _)
def I1(b:Str)(hb:b.length<=1000000000000):PureCt prog 69 [.list false (b.map bD)] (.v (.int .u64 ((iD b:Nat):Int))):=by
 refine oO func69 λff=>?_
 unfold f69
 refine oC Tp ?_
 refine ae (bI Tp 1 (hct:=by exact Zjg b VQ _ _ _ o4o (by decide) hb) (hk:=?_))
 rintro res h2 n2 ⟨rfl,h9⟩
 refine bH Tp ?_
 refine aa Tp ?_
 exact fp 0
def bB.fresh{T:TypeId}{h:H}{W nx nx' q:Nat}{l:Str}{m:Nat}{x:Option eU}(hB:bB T h W nx l m)(hq:nx<=q)(hn:nx<=nx'):bB T (upd h q x) W nx' l m:=by
 obtain⟨h0,⟨e,y,h1⟩|⟨e,r,y,h1,h2,h3,h4⟩⟩:=hB
 . exact⟨om,.inl ⟨e,y,by rw[aJ _ _ _ _ (by omega)];exact h1⟩⟩
 exact⟨om,.inr ⟨e,r,y,h1,om,by rw[aJ _ _ _ _ (by omega)];exact h3,by rw[aJ _ _ _ _ (by omega)];exact h4⟩⟩
def bK.fresh{h:H}{W n n' q:Nat}{x:Option eU}(hW:W<n)(hq:n<=q)(hn:n<=n'):bK h (upd h q x) W n n':=by
 refine⟨hn,λp h1 _ _=>aJ _ _ _ _ om,λp _ _ h3=>?_⟩
 have:kz (upd h q x) W=kz h W:=by
  unfold kz;rw[aJ _ _ _ _ (by omega)]
 rw[this]
 exact h3
theorem Zbg(l t:Str):l++dX t.length 1++t=l++bO t:=by simp[J8,bO]
def ZeM{a b c d:Int}{j:Nat}(h:j<4):([[.i a],[.i b],[.i c],[.i d]]:List (List D)).getD j []=[.i ([a,b,c,d][j]!)]:=by
 have:j=0\/j=1\/j=2\/j=3:=by omega
 rcases this with e|e|e|e<;>subst e<;>rfl
theorem Xg(n:Int):dX (uN n) 8=cB n:=rfl
def uN_of{n:Int}(h:0<=n/\n<18446744073709551616):((uN n:Nat):Int)=n:=by unfold uN;omega
theorem FV{α:Type}[Inhabited α]{l:List α}{k:Nat}(h:k<l.length)(f:α->Str):(l.drop k).flatMap f=f l[k]! ++ (l.drop (k+1)).flatMap f:=by
 rw[YC h,ZU,getElem!_pos l k h]
def DI(T:TypeId)(l:Str)(u k:Nat)(h:H)(n W:Nat)(hB:bB T h W n l 0)(hu:u<18446744073709551616)(hk:k<=8)(hl:l.length<=900000000000):bT prog 87 [.mptr W 0 0,.v (.int .u64 ((u:Nat):Int)),.i k] h n (λd h' n'=>bK h h' W n n'/\bB T h' W n' (l++dX u k) 0):=by
 refine oP func87 λhnone ff=>?_
 unfold f87
 refine aa Tp ?_
 refine ah ?_
 refine jk (α:=(Nat)×(Str)×(H)×Nat) [0,1] (λ⟨j,o,hq,nx⟩=>(j<=8)/\(o++dX u j=l++dX u k)/\(o.length+j=l.length+k)/\(bB T hq W nx o 0)/\(bK h hq W n nx)/\True) (λ⟨j,o,hq,nx⟩=>j) (λ⟨j,o,hq,nx⟩=>[(2,.i ((j:Int)-1))]) (λ⟨j,o,hq,nx⟩=>hq) (λ⟨j,o,hq,nx⟩=>nx) (k,l,h,_) (hA:=⟨oW,rfl,rfl,(hB.mono oW),(bK.refl oW),trivial⟩) (round:=?_)
 rintro⟨j,o,hq,nx⟩ ⟨hj,ho,hol,hG,hst, -⟩
 simp only[XY,XZ]
 refine oL Tp ?_ ?_<;>intro c1
 .
  obtain⟨i,rfl⟩:∃i,j=i+1:=⟨j-1,om⟩;have e1:(((i+1:Nat):Int)-1)=(i:Int):=by omega
  have e1b:((i:Int)+1-1)=(i:Int):=by omega
  have e2:(8*(i:Int)).toNat=8*i:=by omega
  have e3:=ZjV u (8*i) (by omega)
  have ff:=qE @e1 @e1b @e2 @e3 ff;refine ae ?_;refine ah ?_;refine zU Tp 8 ?_;refine En (C:=Tp) 8 (R:=_) om (dN rfl) rfl rfl o2l ?_ ?_ ev o5l ev (by exact OV T o (gU u (8*i)) _ _ W (hG.mono oW) om) ?_
  .
   try simp only[go_sem,ff]
   all_goals (exact ok0)
  .
   try simp only[go_sem,ff]
   all_goals (first|done|rfl|decide|simp)
  rintro res h2 n2 ⟨rfl,aT,hG2⟩
  try dsimp only at aT
  refine aP Tp ?_
  try simp only[aH]
  refine ai Tp ?_
  show ∃_,_
  exact ay (i,o++[gU u (8*i)],h2,_) (h1:=⟨iv,(by(try dsimp only);rw[<-ho,List.append_assoc];rfl),o4j,(by first|(exact hG2.mono (by omega))|(dsimp only;exact hG2.mono (by omega))),(by(try dsimp only);exact(hst.trans (aT.down oW)).up (by omega)),trivial⟩)
 obtain rfl:j=0:=by omega
 have ho2:o=l++dX u k:=by simpa[dX]using ho
 refine aK ?_
 exact bZ (_) (hh:=λ_=>.inl rfl) (hr:=oS (k:=by rw[<-ho2];exact⟨hst.up (by omega),hG.mono (by omega)⟩))
theorem Cb(T:TypeId)(l:Str)(u:Nat)(h:H)(n W:Nat)(hB:bB T h W n l 0)(hu:u<18446744073709551616)(hl:l.length<=900000000000):bT prog 68 [.mptr W 0 0,.v (.int .u64 ((u:Nat):Int))] h n (λd h' n'=>bK h h' W n n'/\bB T h' W n' (l++dX u 8) 0):=by
 refine oP func68 λhnone ff=>?_
 unfold f68
 refine bI Tp 2 (hct:=by exact DI T l u 8 _ _ W (hB.mono oW) hu om hl) (hk:=?_)
 rintro res h2 n2 ⟨aT,hG2⟩
 try dsimp only at aT
 refine bH Tp ?_
 exact bZ (_) (hh:=λ_=>.inl rfl) (hr:=oS (k:=by exact⟨(aT.down oW).up om,hG2.mono om⟩))
def Gy(T:TypeId)(l:Str)(m:Nat)(h:H)(n W:Nat)(hB:bB T h W n l 0)(hm:m<4294967296)(hl:l.length<=900000000000):bT prog 67 [.mptr W 0 0,.i m] h n (λd h' n'=>bK h h' W n n'/\bB T h' W n' (l++dX m 4) 0):=by
 refine oP func67 λhnone ff=>?_
 unfold f67
 have e1:=yP (n:=m) (by omega)
 have ff:=qA @e1 ff
 refine bI Tp 3 (hct:=by exact DI T l m 4 _ _ W (hB.mono oW) om om hl) (hk:=?_)
 rintro res h2 n2 ⟨aT,hG2⟩
 try dsimp only at aT
 refine bH Tp ?_
 exact bZ (_) (hh:=λ_=>.inl rfl) (hr:=oS (k:=by exact⟨(aT.down oW).up om,hG2.mono om⟩))
def Gu(T:TypeId)(l t:Str)(h:H)(n W:Nat)(hB:bB T h W n l 0)(ht:t.length<=10000)(hl:l.length<=800000000000):bT prog 72 [.mptr W 0 0,.v (.string (bs t))] h n (λd h' n'=>bK h h' W n n'/\bB T h' W n' (l++bO t) 0):=by
 refine oP func72 λhnone ff=>?_
 unfold f72
 have e1:=yP (n:=t.length) (by omega)
 have ff:=qA @e1 ff
 refine ae (bI Tp 4 (hct:=by exact DI T l t.length 1 _ _ W (hB.mono oW) om om om) (hk:=?_))
 rintro res h2 n2 ⟨aT,hG2⟩
 try dsimp only at aT
 refine bH Tp ?_
 refine bI Tp 4 (hct:=by exact XT T _ t _ _ W (hG2.mono oW) (by rw[X0,fD];omega)) (hk:=?_)
 rintro res h3 n3 ⟨rfl,eQ,hG3⟩
 try dsimp only at eQ
 refine bH Tp ?_
 exact bZ (_) (hh:=λ_=>.inl rfl) (hr:=oS (k:=by rw[<-Zbg];exact⟨((aT.down oW).trans (eQ.down oW)).up (by omega),hG3.mono (by omega)⟩))
noncomputable def uM [Glob prog][Told]:List PanicEntry:=[{ v:=jZ iL,recovered:=false }]
def bq(h h':H)(R n n':Nat):Prop:=n<=n' /\ ∀q,q<n->q≠R->h' q=h q
theorem bq.trans{h h' h'':H}{R n n' n'':Nat}(a:bq h h' R n n')(b:bq h' h'' R n' n''):bq h h'' R n n'':=⟨Yh a.1 b.1,λq h1 h2=>(b.2 q (YB h1 a.1) h2).trans (a.2 q h1 h2)⟩
def bq.down{h h':H}{R n m n':Nat}(a:bq h h' R m n')(hn:n<=m):bq h h' R n n':=⟨Yh hn a.1,λq h1=>a.2 q (YB h1 hn)⟩
def bq.up{h h':H}{R n n' n2:Nat}(a:bq h h' R n n')(hn:n'<=n2):bq h h' R n n2:=⟨Yh a.1 hn,a.2⟩
def bq.refl{h:H}{R n n':Nat}(hn:n<=n'):bq h h R n n':=⟨hn,λ_ _ _=>rfl⟩
def jB(h:H)(R:Nat)(x:Str):Prop:=∃f:Bool,h R=some ⟨263,[[.list f (x.map bD)]]⟩
def Zbl{x:Str}{m:Nat}(h:m<=x.length):bS m (x,false)=(x.take m,(x.drop m,false)):=take_ok rfl h
def take_none{x:Str}{m:Nat}(h:x.length<m):(bS m (x,false)).2.2=true:=by rw[vW (.inr (by show(x.length:Int)<m;omega))]
theorem Sm(l:Str)(k:Nat)(h:k<l.length):fP (l.take (k+1))=gG (fP (l.take k)) (l.getD k 0):=by
 have e:l[k]?.toList=[l.getD k 0]:=by simp[List.getD,Yg h]
 unfold fP
 rw[Zj,Zf,e,YF,ZA]
@[go_sem]theorem ldc_err(h:H):jl prog (.v (.pointer (some ⟨0,0,none⟩))) h=[.v (jZ iL)]:=by
 rw[TG,globE]
 rfl
def bo200:d9 prog 200=true:=by kernel_rfl
def IW(x:Str)(m:Nat)(h:H)(n R:Nat)(hb:jB h R x)(hx:x.length<=1000000000)(hm:m<=1000000000000):nT prog 200 [.mptr R 0 0,.i m] h n (λd h' n'=>∃x':Str,(bS m (x,false)).2=(x',false)/\(∃f1:Bool,d = .list f1 ((bS m (x,false)).1.map bD))/\jB h' R x'/\bq h h' R n n') (λc h' n'=>c=uM/\(bS m (x,false)).2.2=true/\bq h h' R n n'):=by
 refine Ca func200 rfl bo200 (by simp[f200]) (λhnone=>?_)
 unfold f200
 have ff:=True.intro
 obtain⟨f,hR⟩:=hb
 have hRn:R<n:=by rcases YE R n with q|q;exact q;rw[hnone R q]at hR;cases hR
 have hE1:((m:Int)).toNat=m:=by omega
 have hE2:((0:Int)).toNat=0:=rfl
 have ff:=qE @hR @hE1 @hE2 (nG R n) ff
 refine aa Tp ?_
 refine oK Tp ?_ ?_<;>intro c1
 .
  have hlt:x.length<m:=by omega
  refine sJ ?_;refine Dj Tp 1 (d:=.v (jZ iL)) (t:=339) (v:=.pointer (some iL)) ?_ (λw g u hu=>hu.v_inv)
  try simp only[iq,iE]
  exact jr _ (by exact⟨rfl,take_none hlt,bq.refl oW⟩) (hn:=XW _) (hh:=λ_=>.inl rfl)
 have hle:m<=x.length:=by omega
 have hty:=Zbl hle
 refine oD Tp ?_
 refine aN ?_
 exact Dp (.inr rfl) (_) (hh:=λ_=>.inl rfl) (hr:=oS (k:=by rw[hty];exact⟨_,rfl,⟨_,by rw[ZQ];try rfl⟩,⟨_,by simp only[upd,Zl];rw[List.map_drop];try rfl⟩,om,(λq q1 q2=>by simp only[upd];repeat (first|rfl|rw[XV (by omega)]))⟩))
theorem ZeO(l:Str):fP l<256^l.length:=by
 have key : ∀(l:Str)(a:Nat),l.foldl gG a<256^l.length*(a+1):=by
  intro l
  induction l with
  | nil=>intro a;simp
  | cons c l ih =>
   intro a;have h1:=ih (gG a c);have h2:gG a c+1<=256*(a+1):=by unfold gG;have:=c.toNat_lt;omega
   rw[YF,YS,Nat.pow_succ,Nat.mul_assoc];exact YB h1 (Nat.mul_le_mul_left _ h2)
 have:=key l 0
 unfold fP
 omega
def RV(k:Nat)(st:RS):(bS k st).1.length<=k:=by
 unfold bS
 split
 . simp
 simp[YR];omega
def zf(k:Int)(st:RS):(bS k st).2.1.length<=st.1.length:=by
 unfold bS
 split
 . simp
 simp
def AB(k:Nat)(st:RS):(au k st).1<256^k:=YB (ZeO _) (Nat.pow_le_pow_right om (RV k st))
def Cj(u:Nat):Nat:=u*256 % 18446744073709551616
def shl8(u:Nat):IntKind.u64.wrap ((u:Int)*2^(min (8:Int).toNat IntKind.u64.bits))=((Cj u:Nat):Int):=by
 unfold Cj
 rw[IntKind.wrap_u64]
 simp[IntKind.bits]
def or8(u:Nat)(c:UInt8):IntKind.u64.wrap (BitVec.ofInt 64 ((Cj u:Nat):Int) ||| BitVec.ofInt 64 (IntKind.u64.wrap (c.toNat:Int))).toNat=((gG u c:Nat):Int):=by
 have hc:=c.toNat_lt
 have e0:IntKind.u64.wrap (c.toNat:Int)=(c.toNat:Int):=by rw[IntKind.wrap_u64];omega
 rw[e0]
 unfold Cj
 rw[BitVec.ofInt_natCast,BitVec.ofInt_natCast,BitVec.toNat_or,BitVec.toNat_ofNat,BitVec.toNat_ofNat,ZB (show c.toNat<2^64 by omega),Nat.mod_mod_of_dvd _ (by decide:2^64 ∣ 18446744073709551616)]
 have e2:u*256 % 18446744073709551616=2^8*(u % 72057594037927936):=by omega
 rw[e2,<-Nat.two_pow_add_eq_or_of_lt (show c.toNat<2^8 by omega)]
 rw[IntKind.wrap_u64]
 unfold gG
 omega
attribute [irreducible] Cj
attribute [local irreducible] gG
def Mw{u:Nat}(h:u<9223372036854775808):IntKind.i64.wrap (u:Int)=(u:Int):=by rw[IntKind.wrap_i64];omega
def bo199:d9 prog 199=true:=by kernel_rfl
def IX(x:Str)(m:Nat)(h:H)(n R:Nat)(hb:jB h R x)(hx:x.length<=1000000000)(hm:m<=8):nT prog 199 [.mptr R 0 0,.i m] h n (λd h' n'=>∃x':Str,(au m (x,false)).2=(x',false)/\d = .v (.int .u64 (((au m (x,false)).1:Nat):Int))/\jB h' R x'/\bq h h' R n n') (λc h' n'=>c=uM/\(au m (x,false)).2.2=true/\bq h h' R n n'):=by
 refine Ca func199 rfl bo199 (by simp[f199]) (λhnone=>?_)
 unfold f199
 have ff:=True.intro
 refine oC Tp ?_
 refine ae ?_
 refine bY ?_
 refine iX 2 (C:=Tp) (hct:=by exact IW x m _ _ R hb hx om) (hp:=?_) (hk:=?_)
 .
  rintro c9 h9 n9 ⟨rfl,hbad,aQ⟩
  try simp only[iq,iE]
  exact jr _ (by exact⟨rfl,hbad,((aQ.down oW).up oW)⟩) (hn:=XW _) (hh:=λ_=>.inl rfl)
 rintro res h2 n2 ⟨x2,hp2,⟨f1,rfl⟩,hb2,aT⟩
 have hbl:=RV m (x,false)
 obtain⟨b,hbe⟩:∃b,b=(bS m (x,false)).1:=⟨_,rfl⟩
 rw[<-hbe]at hbl
 try rw[<-hbe]
 refine aP Tp ?_
 try simp only[aH]
 refine ah ?_
 refine jk (α:=(Nat)×(Nat)×Nat) [10,11] (λ⟨k,u,nx⟩=>(k<=b.length)/\(u=fP (b.take k))/\(n2<=nx)/\True) (λ⟨k,u,nx⟩=>b.length-k) (λ⟨k,u,nx⟩=>[(5,.v (.int .u64 ((u:Nat):Int))),(12,.i k)]) (λ⟨k,u,nx⟩=>h2) (λ⟨k,u,nx⟩=>nx) (0,0,_) (hA:=⟨iv,rfl,iv,trivial⟩) (round:=?_)
 rintro⟨k,u,nx⟩ ⟨hk,hu,hn, -⟩
 simp only[XY,XZ]
 refine aa Tp ?_
 refine ae ?_
 refine cd ?_ ?_<;>intro c1
 .
  have hk2:k<b.length:=by omega
  have ff:=qA (FD hk2) ff;refine aj ?_;refine ae ?_;refine ah ?_;refine aa Tp ?_;refine sJ ?_;refine UT Tp 1 (.int .u64 ((Cj u:Nat):Int)) ?_ (hv:=by exact congrArg (Value.int .u64) (shl8 u)) (hp:=by exact(by decide:(0:Int)<=8))
  refine UT Tp 4 (.int .u64 ((gG u (b.getD k 0):Nat):Int)) ?_ (hv:=by exact congrArg (Value.int .u64) (or8 u (b.getD k 0))) (hp:=by exact rfl)
  refine aP Tp ?_
  try simp only[aH]
  refine ai Tp ?_
  show ∃_,_
  exact ay (k+1,gG u (b.getD k 0),_) (h1:=⟨iv,(by(try dsimp only);rw[Sm b k hk2,<-hu]),iv,trivial⟩)
 have hk3:k=b.length:=by omega
 subst hk3
 rw[Yt]at hu
 subst hu
 subst hbe
 refine aK ?_
 refine aa Tp ?_
 refine aN ?_
 exact Dp (.inr rfl) (_) (hh:=λ_=>.inl rfl) (hr:=oS (k:=by exact⟨x2,hp2,rfl,hb2,(aT.down oW).up oW⟩))
def Mr(x:Str)(h:H)(n R:Nat)(hb:jB h R x)(hx:x.length<=1000000000):nT prog 199 [.mptr R 0 0,.i 1] h n (λd h' n'=>∃x':Str,(au 1 (x,false)).2=(x',false)/\d = .v (.int .u64 (((au 1 (x,false)).1:Nat):Int))/\jB h' R x'/\bq h h' R n n') (λc h' n'=>c=uM/\(au 1 (x,false)).2.2=true/\bq h h' R n n'):=IX x 1 h n R hb hx om
def Zgu(x:Str)(h:H)(n R:Nat)(hb:jB h R x)(hx:x.length<=1000000000):nT prog 199 [.mptr R 0 0,.i 2] h n (λd h' n'=>∃x':Str,(au 2 (x,false)).2=(x',false)/\d = .v (.int .u64 (((au 2 (x,false)).1:Nat):Int))/\jB h' R x'/\bq h h' R n n') (λc h' n'=>c=uM/\(au 2 (x,false)).2.2=true/\bq h h' R n n'):=IX x 2 h n R hb hx om
def IY(x:Str)(h:H)(n R:Nat)(hb:jB h R x)(hx:x.length<=1000000000):nT prog 199 [.mptr R 0 0,.i 4] h n (λd h' n'=>∃x':Str,(au 4 (x,false)).2=(x',false)/\d = .v (.int .u64 (((au 4 (x,false)).1:Nat):Int))/\jB h' R x'/\bq h h' R n n') (λc h' n'=>c=uM/\(au 4 (x,false)).2.2=true/\bq h h' R n n'):=IX x 4 h n R hb hx om
def xV(x:Str)(h:H)(n R:Nat)(hb:jB h R x)(hx:x.length<=1000000000):nT prog 199 [.mptr R 0 0,.i 8] h n (λd h' n'=>∃x':Str,(au 8 (x,false)).2=(x',false)/\d = .v (.int .u64 (((au 8 (x,false)).1:Nat):Int))/\jB h' R x'/\bq h h' R n n') (λc h' n'=>c=uM/\(au 8 (x,false)).2.2=true/\bq h h' R n n'):=IX x 8 h n R hb hx om
def bo202:d9 prog 202=true:=by kernel_rfl
def IV(x:Str)(h:H)(n R:Nat)(hb:jB h R x)(hx:x.length<=1000000000):nT prog 202 [.mptr R 0 0] h n (λd h' n'=>∃x':Str,(bQ (x,false)).2=(x',false)/\d = .v (.string (bs (bQ (x,false)).1))/\jB h' R x'/\bq h h' R n n') (λc h' n'=>c=uM/\(bQ (x,false)).2.2=true/\bq h h' R n n'):=by
 refine Ca func202 rfl bo202 (by simp[f202]) (λhnone=>?_)
 unfold f202
 have ff:=True.intro
 refine aa Tp ?_
 refine bY ?_
 refine iX 1 (C:=Tp) (hct:=by exact Mr x _ _ R hb hx) (hp:=?_) (hk:=?_)
 .
  rintro c9 h9 n9 ⟨rfl,hbad,aQ⟩
  try simp only[iq,iE]
  exact jr _ (by exact⟨rfl,by unfold bQ;rw[vW (.inl hbad)],((aQ.down oW).up oW)⟩) (hn:=XW _) (hh:=λ_=>.inl rfl)
 rintro res h2 n2 ⟨x2,hp2,rfl,hb2,aT⟩
 have C9:(au 1 (x,false)).1<256^1:=AB 1 (x,false)
 obtain⟨u,hue⟩:∃u,u=(au 1 (x,false)).1:=⟨_,rfl⟩
 try rw[<-hue]
 rw[<-hue]at C9
 have e1:=Mw (u:=u) (by omega)
 have ff:=qA e1 ff
 have hx2:x2.length<=1000000000:=by have:=zf 1 (x,false);rw[show bS 1 (x,false)=((bS 1 (x,false)).1,(x2,false))from Prod.ext rfl hp2]at this;exact Yh this hx
 refine aP Tp ?_
 try simp only[aH]
 refine bY ?_
 refine iX 2 (C:=Tp) (hct:=by exact IW x2 u _ _ R hb2 hx2 om) (hp:=?_) (hk:=?_)
 .
  rintro c9 h9 n9 ⟨rfl,hbad,aQ⟩
  try simp only[iq,iE]
  exact jr _ (by exact⟨rfl,by unfold bQ;rw[hp2,<-hue];exact hbad,((aT.down oW).trans (aQ.down oW)).up oW⟩) (hn:=XW _) (hh:=λ_=>.inl rfl)
 rintro res h3 n3 ⟨x3,hp3,⟨f1,rfl⟩,hb3,eQ⟩
 refine aP Tp ?_
 try simp only[aH]
 refine aN ?_
 exact Dp (.inr rfl) (_) (hh:=λ_=>.inl rfl) (hr:=oS (k:=by have e3:bQ (x,false)=bS u (x2,false):=(by unfold bQ;rw[hp2,<-hue]);rw[e3];exact⟨x3,hp3,rfl,hb3,((aT.down oW).trans (eQ.down oW)).up oW⟩))
def Xh{k:Int}{st:RS}(h:st.2=true):(bS k st).2.2=true:=by rw[vW (.inl h)]
theorem uO{k:Int}{st:RS}(h:st.2=true):(au k st).2.2=true:=Xh h
def nN:Nat->RS->RS
 | 0,st=>st
 | k+1,st=>(au 8 (nN k st)).2
def nV(k:Nat)(st:RS):Int:=sN (au 8 (nN k st)).1
def zq{k:Nat}{st:RS}{x x':Str}(h:nN k st=(x,false))(h2:(au 8 (x,false)).2=(x',false)):nN (k+1) st=(x',false):=by
 show(au 8 (nN k st)).2=_
 rw[h,h2]
theorem LY{st:RS}{k:Nat}(h:(nN k st).2=true):∀j,(nN (k+j) st).2=true
 | 0=>h
 | j+1=>uO (LY h j)
def Zff{st:RS}{k m:Nat}{x:Str}(h:nN k st=(x,false))(h2:(au 8 (x,false)).2.2=true)(hk:k<m):(nN m st).2=true:=by
 have h3:(nN (k+1) st).2=true:=by
  show(au 8 (nN k st)).2.2=true
  rw[h];exact h2
 have:=LY h3 (m-(k+1))
 rwa [show k+1+(m-(k+1))=m by omega]at this
def IG{k:Nat}{st:RS}{x:Str}(h:nN k st=(x,false)):IntKind.i64.wrap (((au 8 (x,false)).1:Nat):Int)=nV k st:=by
 unfold nV
 rw[h]
 rfl
theorem Il(st:RS):ll st=(⟨(bQ st).1,nV 0 (bQ st).2,nV 1 (bQ st).2,nV 2 (bQ st).2,nV 3 (bQ st).2,(au 8 (nN 4 (bQ st).2)).1⟩,nN 5 (bQ st).2):=rfl
def Zcd{st:RS}(h:(bQ st).2.2=true):(ll st).2.2=true:=by
 rw[Il]
 exact LY (k:=0) h 5
def Ei{st:RS}{k:Nat}{x5 x:Str}(h:(bQ st).2=(x5,false))(h1:nN k (x5,false)=(x,false))(h2:(au 8 (x,false)).2.2=true)(hk:k<5):(ll st).2.2=true:=by
 rw[Il,h]
 exact Zff h1 h2 hk
def Zca{st:RS}{x5 x x':Str}(h:(bQ st).2=(x5,false))(h1:nN 4 (x5,false)=(x,false))(h2:(au 8 (x,false)).2=(x',false)):ll st=(⟨(bQ st).1,nV 0 (x5,false),nV 1 (x5,false),nV 2 (x5,false),nV 3 (x5,false),(((au 8 (x,false)).1:Nat):Int)⟩,(x',false)):=by
 rw[Il,h,h1]
 show(_,(au 8 (nN 4 (x5,false))).2)=_
 rw[h1,h2]
theorem KS{st:RS}(h:st.2=true)(o:List RSig):∀k,jF k o st=(o,st)
 | 0=>rfl
 | k+1=>by unfold jF;rw[X3 h]
theorem Qd{x:Str}{o:List RSig}{k:Nat}:jF (k+1) o (x,false)=jF k (o++[(ll (x,false)).1]) (ll (x,false)).2:=rfl
def Ci{x:Str}{o:List RSig}{k:Nat}(h:(ll (x,false)).2.2=true)(hk:0<k):(jF k o (x,false)).2.2=true:=by
 obtain⟨j,rfl⟩:∃j,k=j+1:=⟨k-1,om⟩
 rw[Qd,KS h]
 exact h
def Cs(z:Str)(st:RS)(j:Nat):List D:=[.v (.string (bs z)),.i (if 0<j then nV 0 st else 0),.i (if 1<j then nV 1 st else 0),.i (if 2<j then nV 2 st else 0),.i (if 3<j then nV 3 st else 0),.v (.int .u64 0)]
def bq.via{h h1 H2 h':H}{R n n1 m n':Nat}(a:bq h h1 R n n1)(k : ∀q,q<n->q≠R->H2 q=h1 q)(b:bq H2 h' R m n')(hm:n1<=m):bq h h' R n n' :=
 ⟨by have:=a.1;have:=b.1;omega,λq q1 q2=>(b.2 q (by have:=a.1;omega) q2).trans ((k q q1 q2).trans (a.2 q q1 q2))⟩
def rv{h h1 H2 h':H}{R n n1 m n':Nat}(a:bq h h1 R n n1)(b:bq H2 h' R m n')(k : ∀q,q<n->q≠R->H2 q=h1 q:=by intro q q1 q2;first|rfl|((try dsimp only);simp only[upd];repeat (first|rfl|rw[if_neg (by omega)])))(hm:n1<=m:=by first|omega|(dsimp only;omega)):bq h h' R n n':=a.via k b hm
def kp{h1 h2:H}{R n n' c:Nat}{v:Option eU}(st:bq h1 h2 R n n')(e:h1 c=v:=by simp only[go_sem,ff];first|done|exact rfl)(o1:c<n:=by first|omega|(dsimp only;omega))(o2:c≠R:=by omega):h2 c=v:=(st.2 c o1 o2).trans e
def qV{k:Int}{x x':Str}(h:(au k (x,false)).2=(x',false)):x'.length<=x.length:=by
 have:=zf k (x,false)
 rw[show(bS k (x,false)).2=(x',false)from h]at this
 exact this
def Zbm{k:Int}{x x':Str}(h:(bS k (x,false)).2=(x',false)):x'.length<=x.length:=qV h
def GH{x x':Str}(h:(bQ (x,false)).2=(x',false)):x'.length<=x.length:=by
 have h1:=zf (au 1 (x,false)).1 (au 1 (x,false)).2
 have h2:=zf 1 (x,false)
 rw[show bS (au 1 (x,false)).1 (au 1 (x,false)).2=bQ (x,false)from rfl,h]at h1
 exact Yh h1 h2
def Zes{x x2 x3:Str}(h:(au 2 (x,false)).2=(x2,false))(h3:(bS ((au 2 (x,false)).1:Nat) (x2,false)).2=(x3,false)):jW (x,false)=((bS ((au 2 (x,false)).1:Nat) (x2,false)).1,(x3,false)):=by
 unfold jW
 rw[h]
 exact Prod.ext rfl h3
def QA{st:RS}(h:(jW st).2.2=true):(iA st).2.2=true:=by
 unfold iA
 split
 . exact h
 rfl
def Zcv{st:RS}(h:(iP (jW st).1).2≠0):(iA st).2.2=true:=by
 unfold iA
 rw[XV h]
def Zcu{st:RS}{b x3:Str}(h:jW st=(b,(x3,false)))(h2:(iP b).2=0):iA st=((iP b).1,(x3,false)):=by
 unfold iA
 rw[h,X3 h2]
def KW{st:RS}(h:(iA st).2.2=true):(iQ st).2.2=true:=by
 show(jF _ _ _).2.2=true
 rw[KS (uO h)]
 exact uO h
def Zcl{x x3:Str}{s:RSet}(h:iA (x,false)=(s,(x3,false)))(h2:(au 1 (x3,false)).2.2=true):(iQ (x,false)).2.2=true:=by
 show(jF _ _ _).2.2=true
 rw[h,KS h2]
 exact h2
def Zck{x x3 x4:Str}{s:RSet}(h:iA (x,false)=(s,(x3,false)))(h2:(au 1 (x3,false)).2=(x4,false)):iQ (x,false)=(⟨s,(jF (au 1 (x3,false)).1 [] (x4,false)).1⟩,(jF (au 1 (x3,false)).1 [] (x4,false)).2):=by
 unfold iQ
 simp only[h,h2]
set_option maxHeartbeats 2000000
def bo203:d9 prog 203=true:=by kernel_rfl
def Ue(x:Str)(h:H)(n R:Nat)(hb:jB h R x)(hx:x.length<=1000000000):nT prog 203 [.mptr R 0 0] h n (λd h' n'=>∃x':Str,(iQ (x,false)).2=(x',false)/\d = .agg (iQ (x,false)).1.d/\jB h' R x'/\bq h h' R n n') (λc h' n'=>c=uM/\(iQ (x,false)).2.2=true/\bq h h' R n n'):=by
 refine Ca func203 rfl bo203 (by simp[f203]) (λhnone=>?_)
 unfold f203
 have ff:=True.intro
 obtain⟨f,hR⟩:=hb
 have hRn:R<n:=by rcases YE R n with q|q;exact q;rw[hnone R q]at hR;cases hR
 have ff:=qD @hR (nG R n) (nH R n) ff
 refine aa Tp ?_
 refine bY ?_
 refine iX 1 (C:=Tp) (hct:=by exact Zgu x _ _ R ⟨f,by simp only[go_sem,ff];first|done|exact rfl⟩ hx) (hp:=?_) (hk:=?_)
 .
  rintro c9 h9 n9 ⟨rfl,hbad,aQ⟩
  try simp only[iq,iE]
  exact jr _ (by exact⟨rfl,KW (QA (by unfold jW;exact Xh hbad)),(rv (bq.refl (h:=h) (R:=R) (XW n)) aQ)⟩) (hn:=XW _) (hh:=λ_=>.inl rfl)
 rintro res h2 n2 ⟨x2,hp2,rfl,hb2,aT⟩
 try dsimp only at aT
 have hl2:=aT.1
 obtain⟨f2,hR2⟩:=hb2
 have hn2:h2 n=some ⟨84,[[.v (.string (bs [])),.i 0,.i 0,.list true [],.list true []]]⟩:=kp aT
 have hs2:bq h h2 R n n2:=(rv (bq.refl (h:=h) (R:=R) (XW n)) aT)
 have C9:(au 2 (x,false)).1<256^2:=AB 2 (x,false)
 obtain⟨u,hue⟩:∃u,u=(au 2 (x,false)).1:=⟨_,rfl⟩
 try rw[<-hue]
 rw[<-hue]at C9
 have e1:=Mw (u:=u) (by omega)
 have ff:=qF hR2 hn2 e1 (nG R n2) (nG n n2) ff
 have ff:=qG hR2 hn2 e1 (nH R n) (nG R n2) (nG n n2) ff
 have hx2:=Yh (qV hp2) hx
 refine aP Tp ?_
 try simp only[aH]
 refine bY ?_
 refine iX 2 (C:=Tp) (hct:=by exact IW x2 u _ _ R ⟨f2,by simp only[go_sem,ff];first|done|exact rfl⟩ hx2 (by omega)) (hp:=?_) (hk:=?_)
 .
  rintro c9 h9 n9 ⟨rfl,hbad,aQ⟩
  try simp only[iq,iE]
  exact jr _ (by exact⟨rfl,KW (QA (by unfold jW;rw[hp2,<-hue];exact hbad)),(rv hs2 aQ)⟩) (hn:=XW _) (hh:=λ_=>.inl rfl)
 rintro res h3 n3 ⟨x3,hp3,⟨f1,rfl⟩,hb3,eQ⟩
 try dsimp only at eQ
 have hl3:=eQ.1
 obtain⟨f3,hR3⟩:=hb3
 have hn3:h3 n=some ⟨84,[[.v (.string (bs [])),.i 0,.i 0,.list true [],.list true []]]⟩:=kp eQ
 have hs3:bq h h3 R n n3:=(rv hs2 eQ)
 rw[hue]at hp3
 have hraw:=Zes hp2 hp3
 rw[<-hue]at hraw
 obtain⟨b,hbe⟩:∃b,b=(bS u (x2,false)).1:=⟨_,rfl⟩
 rw[<-hbe]at hraw
 try rw[<-hbe]
 have ff:=qE hR3 hn3 (nG R n3) (nG n n3) ff
 refine aP Tp ?_ (hok:=by(try simp only[go_sem,ff]);all_goals (exact Zdh b))
 try simp only[aH]
 refine ae ?_
 refine aa Tp ?_
 refine cd ?_ ?_<;>intro c1
 .
  refine sJ ?_;refine Dj Tp 1 (d:=.v (jZ iL)) (t:=339) (v:=.pointer (some iL)) ?_ (λw g u hu=>hu.v_inv)
  try simp only[iq,iE]
  exact jr _ (by exact⟨rfl,KW (Zcv (by rw[hraw];exact c1)),(rv hs3 (bq.refl (XW _)))⟩) (hn:=XW _) (hh:=λ_=>.inl rfl)
 .
  have hset:=Zcu hraw c1;obtain⟨rs,hrs⟩:∃rs,rs=(iP b).1:=⟨_,rfl⟩
  try rw[<-hrs]
  rw[<-hrs]at hset;have hx3:=Yh (Zbm hp3) hx2;refine aj ?_
  show DW _ _ _ _ _
  refine aa Tp ?_;refine ae ?_;refine yt (n3+14) 4 84 153 o4y (by rfl) o5l ?_
  simp only[YW,YO];obtain⟨C,Fy⟩:∃C,C=n3+14:=⟨_,rfl⟩;rw[<-Fy];obtain⟨O,hOe⟩:∃O,O=n3+16:=⟨_,rfl⟩;rw[<-hOe];have ff:=qG (nH R n) (nH C R) (nH O R) (nH C n) (nH O n) (nH C O) ff;refine bY ?_;refine iX 1 (C:=Tp) (hct:=by exact Mr x3 _ _ R ⟨f3,by simp only[go_sem,ff];first|done|exact rfl⟩ hx3) (hp:=?_) (hk:=?_)
  .
   rintro c9 h9 n9 ⟨rfl,hbad,aQ⟩
   try simp only[iq,iE]
   exact jr _ (by exact⟨rfl,Zcl hset hbad,(rv hs3 aQ)⟩) (hn:=XW _) (hh:=λ_=>.inl rfl)
  rintro res h4 n4 ⟨x4,uy,rfl,hb4,iK⟩
  try dsimp only at iK
  have hl4:=iK.1;obtain⟨f4,uB⟩:=hb4;have nE:h4 n=some ⟨84,[[.v (.string (bs [])),.i 0,.i 0,.list true [],.list true []]]⟩:=kp iK;have Bz:h4 C=some ⟨84,[[.v (.string (bs rs.name)),.i rs.ty,.i rs.life,.list false (rs.data.map Dat.d),.mrow O 0 0]]⟩:=kp iK;have hO4:h4 O=some ⟨153,[]⟩:=kp iK;have hs4:bq h h4 R n n4:=(rv hs3 iK);have Fs:(au 1 (x3,false)).1<256^1:=AB 1 (x3,false);have hsg:=Zck hset uy;obtain⟨N,Fu⟩:∃N,N=(au 1 (x3,false)).1:=⟨_,rfl⟩
  try rw[<-Fu]
  rw[<-Fu]at Fs hsg;have ff:=qI uB nE Bz hO4 (nG R n4) (nG n n4) (nG C n4) (nG O n4) ff;have hx4:=Yh (qV uy) hx3;refine aP Tp ?_
  try simp only[aH]
  refine ah ?_;refine jk (α:=(Nat)×(List RSig)×(Str)×(Nat)×(H)×Nat) [0,2,6,26] (λ⟨k,o,xs,r,hq,nx⟩=>(k<=N)/\(jF N [] (x4,false)=jF (N-k) o (xs,false))/\(o.length=k)/\(jB hq R xs)/\(hq C=some ⟨84,[[.v (.string (bs rs.name)),.i rs.ty,.i rs.life,.list false (rs.data.map Dat.d),.mrow r 0 k]]⟩)/\(hq r=some ⟨153,(o).map RSig.d⟩)/\(hq n=some ⟨84,[[.v (.string (bs [])),.i 0,.i 0,.list true [],.list true []]]⟩)/\(bq h hq R n nx)/\(C<r)/\(r<nx)/\(xs.length<=1000000000)/\True) (λ⟨k,o,xs,r,hq,nx⟩=>N-k) (λ⟨k,o,xs,r,hq,nx⟩=>[(27,.v (.int .u64 ((k:Nat):Int)))]) (λ⟨k,o,xs,r,hq,nx⟩=>hq) (λ⟨k,o,xs,r,hq,nx⟩=>nx) (0,[],x4,O,h4,_) (hA:=⟨iv,rfl,rfl,⟨f4,uB⟩,Bz,hO4,nE,(by first|(exact hs4.up (by omega))|(dsimp only;exact hs4.up (by omega))),oW,oW,iv,trivial⟩) (round:=?_)
  rintro⟨k,o,xs,r,hq,nx⟩ ⟨hk,hps,hol,vH,hC,hr,hn,hst,hCr,hrx,hxl, -⟩
  show DW _ _ _ _ { n:=_,t:=tab _,h:=_,nx:=_,e:=_ }
  simp only[XY,XZ];obtain⟨fs,uA⟩:=vH;have e7:=yP (n:=k+1) (by omega)
  have e7b:((k+1:Nat):Int)=(k:Int)+1:=by omega
  rw[e7b]at e7;have ff:=qH @uA @hC @hr @hn @e7 (nG R nx) (nG n nx) (qI (nG C nx) (nG r nx) (nH R n) (nH C R) (nH R r) (nH C n) (nH n r) (nH C r) ff);refine aa Tp ?_;refine ae ?_;refine cd ?_ ?_<;>intro c2
  .
   have hk2:k<N:=by omega
   obtain⟨M,hM⟩:∃M,N-k=M+1:=⟨N-k-1,by omega⟩
   refine aj ?_
   show DW _ _ _ _ _
   refine ae ?_;refine ah ?_;refine bY ?_;refine iX 1 (C:=Tp) (hct:=by exact IV xs _ _ R ⟨fs,by simp only[go_sem,ff];first|done|exact rfl⟩ hxl) (hp:=?_) (hk:=?_)
   .
    rintro c9 h9 n9 ⟨rfl,hbad,aQ⟩
    try simp only[iq,iE]
    exact jr _ (by exact⟨rfl,by rw[hsg,hps];exact Ci (Zcd hbad) (by omega),(rv hst aQ)⟩) (hn:=XW _) (hh:=λ_=>.inl rfl)
   rintro res h5 n5 ⟨x5,o6,rfl,hb5,fM⟩
   try dsimp only at fM
   have hl5:=fM.1;obtain⟨f5,vJ⟩:=hb5;have Bn:h5 n=some ⟨84,[[.v (.string (bs [])),.i 0,.i 0,.list true [],.list true []]]⟩:=kp fM;have hC5:h5 C=some ⟨84,[[.v (.string (bs rs.name)),.i rs.ty,.i rs.life,.list false (rs.data.map Dat.d),.mrow r 0 k]]⟩:=kp fM;have hr5:h5 r=some ⟨153,(o).map RSig.d⟩:=kp fM;have hs5:bq h h5 R n n5:=(rv hst fM);obtain⟨zt,ER⟩:∃z,z=(bQ (xs,false)).1:=⟨_,rfl⟩
   try rw[<-ER]
   have ff:=qI vJ Bn hC5 hr5 (nG R n5) (nG n n5) (nG C n5) (nG r n5) ff;have hx5:=Yh (GH o6) hxl;refine aP Tp ?_
   try simp only[aH]
   refine ae ?_;obtain⟨q,hqe⟩:∃q,q=n5+3:=⟨_,rfl⟩;rw[<-hqe];simp only[yN];have ff:=qB (nH R n) (nH C R) (qI (nH R r) (nH R q) (nH C n) (nH n r) (nH n q) (nH C r) (nH C q) (nH q r) ff);refine aa Tp ?_;refine ah ?_;refine jk (α:=(Nat)×(Str)×(H)×Nat) [0,2,6,7,26,27,36,37] (λ⟨j,iN,hq2,nx⟩=>(j<=4)/\(nN j (x5,false)=(iN,false))/\(jB hq2 R iN)/\(hq2 q=some ⟨153,[Cs zt (x5,false) j]⟩)/\(bq h5 hq2 R n5 nx)/\(q<nx)/\(iN.length<=1000000000)/\True) (λ⟨j,iN,hq2,nx⟩=>4-j) (λ⟨j,iN,hq2,nx⟩=>[(38,.i j)]) (λ⟨j,iN,hq2,nx⟩=>hq2) (λ⟨j,iN,hq2,nx⟩=>nx) (0,x5,upd h5 q (some ⟨153,[Cs zt (x5,false) 0]⟩),_) (hA:=⟨iv,rfl,(by(try dsimp only);exact⟨f5,by rw[aJ _ _ _ _ (by omega)];exact vJ⟩),(bL _ _ _),(by(try dsimp only);exact⟨by omega,λp p1 p2=>aJ _ _ _ _ (by omega)⟩),iv,oW,trivial⟩) (round:=?_)
   rintro⟨j,iN,hq2,nx⟩ ⟨hj,hN,hb10,hQ,jM,hqx,sZ, -⟩
   show DW _ _ _ _ { n:=_,t:=tab _,h:=_,nx:=_,e:=_ }
   simp only[XY,XZ];obtain⟨fs2,hR10⟩:=hb10;have ff:=qH @hR10 @hQ (nG q nx) (nG R nx) (nG n nx) (nG C nx) (nG r nx) ff;refine aa Tp ?_;refine ae ?_;refine cd ?_ ?_<;>intro c3
   .
    have hj2:j<4:=by omega
    refine aj ?_
    show DW _ _ _ _ _
    refine ae ?_;refine ah ?_
    rcases(by omega:j=0\/j=1\/j=2\/j=3)with rfl|rfl|rfl|rfl
    .
     have hQ:hq2 q=some ⟨153,[[.v (.string (bs zt)),.i 0,.i 0,.i 0,.i 0,.v (.int .u64 0)]]⟩:=hQ;have ff:=qA @hQ ff;refine aa Tp ?_;refine sJ ?_;refine iX 2 (C:=Tp) (hct:=o2s) (hp:=?_) (hk:=?_)
     .
      rintro c9 h9 n9 ⟨rfl,hbad,aQ⟩
      try simp only[iq,iE]
      exact jr _ o0s (hn:=Nat.le_refl _) (hh:=λ_=>.inl rfl)
     rintro res h8 n8 ⟨x8,lS,rfl,wS,il⟩
     try dsimp only at il
     have Bo:=il.1;obtain⟨f8,qy⟩:=wS;have Bv:h8 q=some ⟨153,[[.v (.string (bs zt)),.i 0,.i 0,.i 0,.i 0,.v (.int .u64 0)]]⟩:=kp il;have hv:=IG hN;have ff:=qI qy Bv hv (nG R n8) (nG n n8) (nG C n8) (nG r n8) (nG q n8) ff;have C8:=Yh (qV lS) sZ;refine aP Tp ?_
     try simp only[aH]
     show DW _ _ _ _ _
     refine ai Tp ?_
     show ∃_,_
     exact ay (1,x8,upd h8 q (some ⟨153,[Cs zt (x5,false) 1]⟩),_) (h1:=⟨iv,(zq hN lS),o3i,(bL _ _ _),o1a,iv,iv,trivial⟩)
    .
     have hQ:hq2 q=some ⟨153,[[.v (.string (bs zt)),.i (nV 0 (x5,false)),.i 0,.i 0,.i 0,.v (.int .u64 0)]]⟩:=hQ;have ff:=qA @hQ ff;refine aa Tp ?_;refine sJ ?_;refine iX 2 (C:=Tp) (hct:=o2s) (hp:=?_) (hk:=?_)
     .
      rintro c9 h9 n9 ⟨rfl,hbad,aQ⟩
      try simp only[iq,iE]
      exact jr _ o0s (hn:=Nat.le_refl _) (hh:=λ_=>.inl rfl)
     rintro res h8 n8 ⟨x8,lS,rfl,wS,il⟩
     try dsimp only at il
     have Bo:=il.1;obtain⟨f8,qy⟩:=wS;have Bv:h8 q=some ⟨153,[[.v (.string (bs zt)),.i (nV 0 (x5,false)),.i 0,.i 0,.i 0,.v (.int .u64 0)]]⟩:=kp il;have hv:=IG hN;have ff:=qI qy Bv hv (nG R n8) (nG n n8) (nG C n8) (nG r n8) (nG q n8) ff;have C8:=Yh (qV lS) sZ;refine aP Tp ?_
     try simp only[aH]
     show DW _ _ _ _ _
     refine ai Tp ?_
     show ∃_,_
     exact ay (2,x8,upd h8 q (some ⟨153,[Cs zt (x5,false) 2]⟩),_) (h1:=⟨iv,(zq hN lS),o3i,(bL _ _ _),o1a,iv,iv,trivial⟩)
    .
     have hQ:hq2 q=some ⟨153,[[.v (.string (bs zt)),.i (nV 0 (x5,false)),.i (nV 1 (x5,false)),.i 0,.i 0,.v (.int .u64 0)]]⟩:=hQ;have ff:=qA @hQ ff;refine aa Tp ?_;refine sJ ?_;refine iX 2 (C:=Tp) (hct:=o2s) (hp:=?_) (hk:=?_)
     .
      rintro c9 h9 n9 ⟨rfl,hbad,aQ⟩
      try simp only[iq,iE]
      exact jr _ o0s (hn:=Nat.le_refl _) (hh:=λ_=>.inl rfl)
     rintro res h8 n8 ⟨x8,lS,rfl,wS,il⟩
     try dsimp only at il
     have Bo:=il.1;obtain⟨f8,qy⟩:=wS;have Bv:h8 q=some ⟨153,[[.v (.string (bs zt)),.i (nV 0 (x5,false)),.i (nV 1 (x5,false)),.i 0,.i 0,.v (.int .u64 0)]]⟩:=kp il;have hv:=IG hN;have ff:=qI qy Bv hv (nG R n8) (nG n n8) (nG C n8) (nG r n8) (nG q n8) ff;have C8:=Yh (qV lS) sZ;refine aP Tp ?_
     try simp only[aH]
     show DW _ _ _ _ _
     refine ai Tp ?_
     show ∃_,_
     exact ay (3,x8,upd h8 q (some ⟨153,[Cs zt (x5,false) 3]⟩),_) (h1:=⟨iv,(zq hN lS),o3i,(bL _ _ _),o1a,iv,iv,trivial⟩)
    .
     have hQ:hq2 q=some ⟨153,[[.v (.string (bs zt)),.i (nV 0 (x5,false)),.i (nV 1 (x5,false)),.i (nV 2 (x5,false)),.i 0,.v (.int .u64 0)]]⟩:=hQ;have ff:=qA @hQ ff;refine aa Tp ?_;refine sJ ?_;refine iX 2 (C:=Tp) (hct:=o2s) (hp:=?_) (hk:=?_)
     .
      rintro c9 h9 n9 ⟨rfl,hbad,aQ⟩
      try simp only[iq,iE]
      exact jr _ o0s (hn:=Nat.le_refl _) (hh:=λ_=>.inl rfl)
     rintro res h8 n8 ⟨x8,lS,rfl,wS,il⟩
     try dsimp only at il
     have Bo:=il.1;obtain⟨f8,qy⟩:=wS;have Bv:h8 q=some ⟨153,[[.v (.string (bs zt)),.i (nV 0 (x5,false)),.i (nV 1 (x5,false)),.i (nV 2 (x5,false)),.i 0,.v (.int .u64 0)]]⟩:=kp il;have hv:=IG hN;have ff:=qI qy Bv hv (nG R n8) (nG n n8) (nG C n8) (nG r n8) (nG q n8) ff;have C8:=Yh (qV lS) sZ;refine aP Tp ?_
     try simp only[aH]
     show DW _ _ _ _ _
     refine ai Tp ?_
     show ∃_,_
     exact ay (4,x8,upd h8 q (some ⟨153,[Cs zt (x5,false) 4]⟩),_) (h1:=⟨iv,(zq hN lS),o3i,(bL _ _ _),o1a,iv,iv,trivial⟩)
   .
    obtain rfl:j=4:=by omega
    have hQ:hq2 q=some ⟨153,[[.v (.string (bs zt)),.i (nV 0 (x5,false)),.i (nV 1 (x5,false)),.i (nV 2 (x5,false)),.i (nV 3 (x5,false)),.v (.int .u64 0)]]⟩:=hQ;refine aK ?_
    show DW _ _ _ _ _
    refine bY ?_;refine iX 1 (C:=Tp) (hct:=o2s) (hp:=?_) (hk:=?_)
    .
     rintro c9 h9 n9 ⟨rfl,hbad,aQ⟩
     try simp only[iq,iE]
     exact jr _ o0s (hn:=Nat.le_refl _) (hh:=λ_=>.inl rfl)
    rintro res h9 n9 ⟨x9,EY,rfl,hb9,aQ⟩
    try dsimp only at aQ
    have vG:=aQ.1;obtain⟨f9,hR9⟩:=hb9;have hQ9:h9 q=some ⟨153,[[.v (.string (bs zt)),.i (nV 0 (x5,false)),.i (nV 1 (x5,false)),.i (nV 2 (x5,false)),.i (nV 3 (x5,false)),.v (.int .u64 0)]]⟩:=kp aQ;have hs7:=jM.trans (aQ.down o4z)
    have Bl:=(hs7.2 n (by omega) (by omega)).trans Bn
    have hC9:=(hs7.2 C (by omega) (by omega)).trans hC5
    have hr9:=(hs7.2 r (by omega) (by omega)).trans hr5
    have hs9:=bq.via hs5 (λ_ _ _=>rfl) hs7 (XW _)
    have hsig:=Zca o6 hN EY;rw[<-ER]at hsig;have ff:=qE hR9 hQ9 Bl hC9 (qI hr9 (nG R n9) (nG n n9) (nG C n9) (nG r n9) (nG q n9) (nH R n) (nH C R) (qI (nH R r) (nH R q) (nH C n) (nH n r) (nH n q) (nH C r) (nH C q) (nH q r) ff));have mK:=Yh (qV EY) sZ;refine aP Tp ?_
    try simp only[aH]
    refine ai Tp ?_
    show DW _ _ _ _ _
    refine ai Tp ?_
    show ∃_,_
    exact ay (k+1,o++[(ll (xs,false)).1],x9,(n9+8),_,_) (h1:=⟨iv,(by(try dsimp only);rw[hps,hM,Qd,hsig,show N-(k+1)=M by omega]),o4b,(by(try dsimp only);exact⟨f9,by simp only[go_sem,ff];first|done|exact rfl⟩),o3p,(by(try dsimp only);rw[hsig];simp only[go_sem,ff,List.map_append,List.map_cons,List.map_nil];first|done|exact rfl),o3p,o3t,oW,oW,iv,trivial⟩) (h5:=λ_=>.inl rfl)
  .
   have hk3:N-k=0:=by omega
   rw[hk3]at hps;refine aK ?_
   show DW _ _ _ _ _
   refine yw C 4 r (rows:=o.map RSig.d) (off:=0) (len:=k) ev rfl ev (by omega) (by simp[hol]) EE ?_
   simp only[X6,yQ,YW,YO];refine aa Tp ?_;refine aN ?_;exact Dp (.inr rfl) (_) (hh:=λ_=>.inl rfl) (hr:=by(try simp only[go_sem,ff]);all_goals (rw[hsg,hps,Ym (by simp[hol])];exact⟨xs,rfl,rfl,⟨fs,by simp only[go_sem,ff];first|done|exact rfl⟩,(rv hst (bq.refl (XW _)))⟩))
theorem KU{st:RS}(h:st.2=true)(o:List Sgd):∀k,jG k o st=(o,st)
 | 0=>rfl
 | k+1=>by unfold jG;rw[X3 h]
theorem KT{x:Str}{o:List Sgd}{k:Nat}:jG (k+1) o (x,false)=jG k (o++[(iQ (x,false)).1]) (iQ (x,false)).2:=rfl
def Qm{x:Str}{o:List Sgd}{k:Nat}(h:(iQ (x,false)).2.2=true)(hk:0<k):(jG k o (x,false)).2.2=true:=by
 obtain⟨j,rfl⟩:∃j,k=j+1:=⟨k-1,om⟩
 rw[KT,KU h]
 exact h
theorem Qe : ∀(k:Nat)(o:List RSig)(st:RS),(jF k o st).2.1.length<=st.1.length
 | 0,_,_=>XW _
 | k+1,o,st=>by
  have h : ∀st:RS,(ll st).2.1.length<=st.1.length:=by
   intro st;have t : ∀k(st:RS),(au k st).2.1.length<=st.1.length:=λk st=>zf k st
   have a:=zf (au 1 st).1 (au 1 st).2;have b:=t 1 st;rw[Il];have e : ∀k(st:RS),(nN k st).1.length<=st.1.length:=by
    intro k
    induction k with
    | zero=>exact λ_=>XW _
    | succ k ih=>exact λst=>Yh (t 8 _) (ih st)
   exact Yh (e 5 _) (Yh a b)
  unfold jF
  split
  . exact XW _
  exact Yh (Qe k _ _) (h st)
def Qo{x x':Str}(h:(iQ (x,false)).2=(x',false)):x'.length<=x.length:=by
 have h1:(iQ (x,false)).2.1.length<=x.length:=by
  have t : ∀k(st:RS),(au k st).2.1.length<=st.1.length:=λk st=>zf k st
  have a:=zf (au 2 (x,false)).1 (au 2 (x,false)).2;have b:=t 2 (x,false);have c:(iA (x,false)).2.1.length<=(jW (x,false)).2.1.length:=by
   unfold iA
   split<;>exact XW _
  exact Yh (Qe _ _ _) (Yh (t 1 _) (Yh c (Yh a b)))
 rw[h]at h1
 exact h1
def Ao{st:RS}(h:st.2=true):(lm st).2.2=true:=by
 show(jG _ _ _).2.2=true
 rw[KU (uO h)]
 exact uO h
def Qu{st:RS}(h:(au 4 st).2.2=true):(lm st).2.2=true:=by
 show(jG _ _ _).2.2=true
 rw[KU h]
 exact h
theorem Qt{x x4:Str}(h:(au 4 (x,false)).2=(x4,false)):lm (x,false)=jG (au 4 (x,false)).1 [] (x4,false):=by
 unfold lm
 rw[h]
def XI{st:RS}(h:(bQ st).2.2=true):(jV st).2.2=true:=Ao h
def OH{x x2:Str}(h:(bQ (x,false)).2=(x2,false))(h2:(lm (x2,false)).2.2=true):(jV (x,false)).2.2=true:=by
 show(lm _).2.2=true
 rw[h]
 exact h2
def XH{x x2:Str}(h:(bQ (x,false)).2=(x2,false)):jV (x,false)=(⟨(bQ (x,false)).1,(lm (x2,false)).1⟩,(lm (x2,false)).2):=by
 unfold jV
 rw[h]
theorem Ez{st:RS}(h:st.2=true)(o:List ak):∀k,lq k o st=(o,st)
 | 0=>rfl
 | k+1=>by unfold lq;rw[X3 h]
theorem Rm{x:Str}{o:List ak}{k:Nat}:lq (k+1) o (x,false)=lq k (o++[(ol (x,false)).1]) (ol (x,false)).2:=rfl
def Ro{x:Str}{o:List ak}{k:Nat}(h:(ol (x,false)).2.2=true)(hk:0<k):(lq k o (x,false)).2.2=true:=by
 obtain⟨j,rfl⟩:∃j,k=j+1:=⟨k-1,om⟩
 rw[Rm,Ez h]
 exact h
def ZdX{st:RS}(h:(bQ st).2.2=true):(ol st).2.2=true:=uO h
def ZdW{x x2:Str}(h:(bQ (x,false)).2=(x2,false))(h2:(au 1 (x2,false)).2.2=true):(ol (x,false)).2.2=true:=by
 show(au 1 (bQ (x,false)).2).2.2=true
 rw[h]
 exact h2
def ZdT{x x2 x3:Str}(h:(bQ (x,false)).2=(x2,false))(h2:(au 1 (x2,false)).2=(x3,false)):ol (x,false)=(⟨(bQ (x,false)).1,IntKind.i64.wrap (((au 1 (x2,false)).1:Nat):Int)⟩,(x3,false)):=by
 unfold ol
 rw[h,h2]
 rfl
def ZiG{st:RS}(h:(bQ st).2.2=true):(fI st).2.2=true:=by
 unfold fI
 simp only
 have h1:=uO (k:=8) h
 have h2:=uO (k:=8) h1
 have h3:=uO (k:=4) h2
 rw[Ez h3]
 exact Ao h3
def ZiF{x x2:Str}(h:(bQ (x,false)).2=(x2,false))(h2:(au 8 (x2,false)).2.2=true):(fI (x,false)).2.2=true:=by
 unfold fI
 simp only[h]
 have h3:=uO (k:=8) h2
 have h4:=uO (k:=4) h3
 rw[Ez h4]
 exact Ao h4
def ZiE{x x2 x3:Str}(h:(bQ (x,false)).2=(x2,false))(h2:(au 8 (x2,false)).2=(x3,false))(h3:(au 8 (x3,false)).2.2=true):(fI (x,false)).2.2=true:=by
 unfold fI
 simp only[h,h2]
 have h4:=uO (k:=4) h3
 rw[Ez h4]
 exact Ao h4
def ZiD{x x2 x3 x4:Str}(h:(bQ (x,false)).2=(x2,false))(h2:(au 8 (x2,false)).2=(x3,false))(h3:(au 8 (x3,false)).2=(x4,false))(h4:(au 4 (x4,false)).2.2=true):(fI (x,false)).2.2=true:=by
 unfold fI
 simp only[h,h2,h3]
 rw[Ez h4]
 exact Ao h4
def ZiC{x x2 x3 x4 x5:Str}(h:(bQ (x,false)).2=(x2,false))(h2:(au 8 (x2,false)).2=(x3,false))(h3:(au 8 (x3,false)).2=(x4,false))(h4:(au 4 (x4,false)).2=(x5,false)) :
  fI (x,false)=(⟨(bQ (x,false)).1,IntKind.i64.wrap (((au 8 (x2,false)).1:Nat):Int),IntKind.i64.wrap (((au 8 (x3,false)).1:Nat):Int),(lq (au 4 (x4,false)).1 [] (x5,false)).1,(lm (lq (au 4 (x4,false)).1 [] (x5,false)).2).1⟩,(lm (lq (au 4 (x4,false)).1 [] (x5,false)).2).2):=by
 unfold fI
 simp only[h,h2,h3,h4]
 rfl
set_option maxHeartbeats 2000000
def bo132:d9 prog 132=true:=by kernel_rfl
def Zgh(x:Str)(h:H)(n R:Nat)(hb:jB h R x)(hx:x.length<=1000000000):nT prog 132 [.mptr R 0 0] h n (λd h' n'=>∃x':Str,(jV (x,false)).2=(x',false)/\d = .agg (jV (x,false)).1.d/\jB h' R x'/\bq h h' R n n') (λc h' n'=>c=uM/\(jV (x,false)).2.2=true/\bq h h' R n n'):=by
 refine Ca func132 rfl bo132 (by simp[f132]) (λhnone=>?_)
 unfold f132
 have ff:=True.intro
 obtain⟨f,hR⟩:=hb
 have hRn:R<n:=by rcases YE R n with q|q;exact q;rw[hnone R q]at hR;cases hR
 have ff:=qD @hR (nG R n) (nH R n) ff
 refine aa Tp ?_
 refine bY ?_
 refine iX 1 (C:=Tp) (hct:=by exact IV x _ _ R ⟨f,ev⟩ hx) (hp:=?_) (hk:=?_)
 .
  rintro c9 h9 n9 ⟨rfl,hbad,aQ⟩
  try simp only[iq,iE]
  exact jr _ (by exact⟨rfl,XI hbad,(rv (bq.refl (h:=h) (R:=R) (XW n)) aQ)⟩) (hn:=XW _) (hh:=λ_=>.inl rfl)
 rintro res h2 n2 ⟨x2,hp2,rfl,hb2,aT⟩
 try dsimp only at aT
 have hl2:=aT.1
 obtain⟨f2,hR2⟩:=hb2
 have hn2:h2 n=some ⟨24,[[.v (.string (bs [])),.list true []]]⟩:=kp aT
 have hs2:bq h h2 R n n2:=(rv (bq.refl (h:=h) (R:=R) (XW n)) aT)
 have hze:=XH hp2
 obtain⟨zt,ER⟩:∃z,z=(bQ (x,false)).1:=⟨_,rfl⟩
 try rw[<-ER]
 rw[<-ER]at hze
 have ff:=qE hR2 hn2 (nG R n2) (nG n n2) ff
 have hx2:=Yh (GH hp2) hx
 refine aP Tp ?_
 try simp only[aH]
 refine ae ?_
 refine yt (n2+3) 1 24 84 ev (by rfl) o5l ?_
 simp only[YW,YO]
 obtain⟨C,Fy⟩:∃C,C=n2+3:=⟨_,rfl⟩
 rw[<-Fy]
 obtain⟨O,hOe⟩:∃O,O=n2+5:=⟨_,rfl⟩
 rw[<-hOe]
 have ff:=qG (nH R n) (nH C R) (nH O R) (nH C n) (nH O n) (nH C O) ff
 refine bY ?_
 refine iX 1 (C:=Tp) (hct:=by exact IY x2 _ _ R ⟨f2,ev⟩ hx2) (hp:=?_) (hk:=?_)
 .
  rintro c9 h9 n9 ⟨rfl,hbad,aQ⟩
  try simp only[iq,iE]
  exact jr _ (by exact⟨rfl,OH hp2 (Qu hbad),(rv hs2 aQ)⟩) (hn:=XW _) (hh:=λ_=>.inl rfl)
 rintro res h4 n4 ⟨x4,uy,rfl,hb4,iK⟩
 try dsimp only at iK
 have hl4:=iK.1
 obtain⟨f4,uB⟩:=hb4
 have nE:h4 n=some ⟨24,[[.v (.string (bs [])),.list true []]]⟩:=kp iK
 have Bz:h4 C=some ⟨24,[[.v (.string (bs zt)),.mrow O 0 0]]⟩:=kp iK
 have hO4:h4 O=some ⟨84,[]⟩:=kp iK
 have hs4:bq h h4 R n n4:=(rv hs2 iK)
 have Fs:(au 4 (x2,false)).1<256^4:=AB 4 (x2,false)
 have hsg:=Qt uy
 obtain⟨N,Fu⟩:∃N,N=(au 4 (x2,false)).1:=⟨_,rfl⟩
 try rw[<-Fu]
 rw[<-Fu]at Fs hsg
 have ff:=qI uB nE Bz hO4 (nG R n4) (nG n n4) (nG C n4) (nG O n4) ff
 have hx4:=Yh (qV uy) hx2
 refine aP Tp ?_
 try simp only[aH]
 refine ah ?_
 refine jk (α:=(Nat)×(List Sgd)×(Str)×(Nat)×(H)×Nat) [0,2,3,8] (λ⟨k,o,xs,r,hq,nx⟩=>(k<=N)/\(jG N [] (x4,false)=jG (N-k) o (xs,false))/\(o.length=k)/\(jB hq R xs)/\(hq C=some ⟨24,[[.v (.string (bs zt)),.mrow r 0 k]]⟩)/\(hq r=some ⟨84,(o).map Sgd.d⟩)/\(hq n=some ⟨24,[[.v (.string (bs [])),.list true []]]⟩)/\(bq h hq R n nx)/\(C<r)/\(r<nx)/\(xs.length<=1000000000)/\True) (λ⟨k,o,xs,r,hq,nx⟩=>N-k) (λ⟨k,o,xs,r,hq,nx⟩=>[(9,.v (.int .u64 ((k:Nat):Int)))]) (λ⟨k,o,xs,r,hq,nx⟩=>hq) (λ⟨k,o,xs,r,hq,nx⟩=>nx) (0,[],x4,O,h4,_) (hA:=⟨iv,rfl,rfl,⟨f4,uB⟩,Bz,hO4,nE,(hs4.up oW),oW,oW,iv,trivial⟩) (round:=?_)
 rintro⟨k,o,xs,r,hq,nx⟩ ⟨hk,hps,hol,vH,hC,hr,hn,hst,hCr,hrx,hxl, -⟩
 simp only[XY,XZ]
 obtain⟨fs,uA⟩:=vH
 have e7:=yP (n:=k+1) (by omega)
 have e7b:((k+1:Nat):Int)=(k:Int)+1:=by omega
 rw[e7b]at e7
 have ff:=qH @uA @hC @hr @hn @e7 (nG R nx) (nG n nx) (qI (nG C nx) (nG r nx) (nH R n) (nH C R) (nH R r) (nH C n) (nH n r) (nH C r) ff)
 refine aa Tp ?_
 refine ae ?_
 refine cd ?_ ?_<;>intro c1
 .
  have hk2:k<N:=by omega
  obtain⟨M,hM⟩:∃M,N-k=M+1:=⟨N-k-1,om⟩;refine aj ?_;refine ae ?_;refine ah ?_;refine VH Tp 3 4 5 [(1,11)] (R:=_) (X:=_) (hct:=by exact Ue xs _ _ R ⟨fs,ev⟩ hxl) (hkeep:=?kp15) (zJ:=?fo15) (hk:=?kk15) (hp:=?pp15)
  case kp15 =>
   rintro res h2 n2 ⟨_,_,_,_,aQ⟩ p hp r9 hrr;simp only[Yn]at hp;subst hp;simp only[go_sem,ff,sd,named,YA]at hrr ⊢;subst hrr;exact aQ.2 _ oW om
  case fo15 =>
   rintro res h2 n2 ⟨_,_,rfl,_,_⟩
   (try simp only[X9,X6,X5,Ye,S.put,Yp,Nat.reduceSub,Nat.reduceAdd,go_sem,ff]);all_goals exact ok0
  case pp15 =>
   rintro c9 h9 n9 ⟨rfl,hbad,aQ⟩ t9
   try simp only[iq,iE]
   exact jr _ (by exact⟨rfl,OH hp2 (by rw[hsg,hps];exact Qm hbad (by omega)),(rv hst aQ)⟩) (hn:=XW _) (hh:=λ_=>.inl rfl)
  rintro res h5 n5 ⟨x5,o6,rfl,hb5,fM⟩
  try dsimp only at fM
  have hl5:=fM.1;obtain⟨f5,vJ⟩:=hb5;have Bn:h5 n=some ⟨24,[[.v (.string (bs [])),.list true []]]⟩:=kp fM;have hC5:h5 C=some ⟨24,[[.v (.string (bs zt)),.mrow r 0 k]]⟩:=kp fM;have hr5:h5 r=some ⟨84,(o).map Sgd.d⟩:=kp fM;have hs5:bq h h5 R n n5:=(rv hst fM);have ff:=qI vJ Bn hC5 hr5 (nG R n5) (nG n n5) (nG C n5) (nG r n5) ff;have hx5:=Yh (Qo o6) hxl;have hsig:iQ (xs,false)=((iQ (xs,false)).1,(x5,false)):=Prod.ext rfl o6;refine gto ?_;refine aP Tp ?_
  try simp only[aH]
  refine ai Tp ?_
  show ∃_,_
  exact ay (k+1,o++[(iQ (xs,false)).1],x5,(n5+5),_,_) (h1:=⟨iv,(by(try dsimp only);rw[hps,hM,KT,hsig,show N-(k+1)=M by omega]),o4b,(by(try dsimp only);exact⟨f5,ev⟩),o3p,o1p,o3p,(by(try dsimp only);exact(rv hs5 (bq.refl (Nat.le_refl _)))),oW,oW,iv,trivial⟩) (h5:=λ_=>.inl rfl)
 have hk3:N-k=0:=by omega
 rw[hk3]at hps
 refine aK ?_
 refine yw C 1 r (rows:=o.map Sgd.d) (off:=0) (len:=k) ev rfl ev om (by simp[hol]) CG ?_
 simp only[X6,yQ,YW,YO]
 refine aa Tp ?_
 refine aN ?_
 exact Dp (.inr rfl) (_) (hh:=λ_=>.inl rfl) (hr:=oS (k:=by rw[hze,hsg,hps,Ym (by simp[hol])];exact⟨xs,rfl,rfl,⟨fs,ev⟩,(rv hst (bq.refl (XW _)))⟩))
set_option maxHeartbeats 2000000
def bo135:d9 prog 135=true:=by kernel_rfl
def ZgA(x:Str)(h:H)(n R:Nat)(hb:jB h R x)(hx:x.length<=1000000000):nT prog 135 [.mptr R 0 0] h n (λd h' n'=>∃x':Str,(fI (x,false)).2=(x',false)/\d = .agg (fI (x,false)).1.d/\jB h' R x'/\bq h h' R n n') (λc h' n'=>c=uM/\(fI (x,false)).2.2=true/\bq h h' R n n'):=by
 refine Ca func135 rfl bo135 (by simp[f135]) (λhnone=>?_)
 unfold f135
 have ff:=True.intro
 obtain⟨f,hR⟩:=hb
 have hRn:R<n:=by rcases YE R n with q|q;exact q;rw[hnone R q]at hR;cases hR
 have ff:=qD @hR (nG R n) (nH R n) ff
 refine aa Tp ?_
 refine bY ?_
 refine iX 1 (C:=Tp) (hct:=by exact IV x _ _ R ⟨f,ev⟩ hx) (hp:=?_) (hk:=?_)
 .
  rintro c9 h9 n9 ⟨rfl,hbad,aQ⟩
  try simp only[iq,iE]
  exact jr _ (by exact⟨rfl,ZiG hbad,(rv (bq.refl (h:=h) (R:=R) (XW n)) aQ)⟩) (hn:=XW _) (hh:=λ_=>.inl rfl)
 rintro res h2 n2 ⟨x2,hp2,rfl,hb2,aT⟩
 try dsimp only at aT
 have hl2:=aT.1
 obtain⟨f2,hR2⟩:=hb2
 have kn2:h2 n=some ⟨40,[[.v (.string (bs [])),.i 0,.i 0,.list true [],.list true []]]⟩:=kp aT
 have hs2:bq h h2 R n n2:=(rv (bq.refl (h:=h) (R:=R) (XW n)) aT)
 have hx2:=Yh (GH hp2) hx
 obtain⟨zt,ezt⟩:∃v,v=(bQ (x,false)).1:=⟨_,rfl⟩
 try rw[<-ezt]
 have ff:=qE hR2 kn2 (nG R n2) (nG n n2) ff
 refine aP Tp ?_
 try simp only[aH]
 obtain⟨C,Fy⟩:∃C,C=n2+3:=⟨_,rfl⟩
 rw[<-Fy]
 have ff:=qD (nH R n) (nH C R) (nH C n) ff
 refine bY ?_
 refine iX 1 (C:=Tp) (hct:=by exact xV x2 _ _ R ⟨f2,ev⟩ hx2) (hp:=?_) (hk:=?_)
 .
  rintro c9 h9 n9 ⟨rfl,hbad,aQ⟩
  try simp only[iq,iE]
  exact jr _ (by exact⟨rfl,ZiF hp2 hbad,(rv hs2 aQ)⟩) (hn:=XW _) (hh:=λ_=>.inl rfl)
 rintro res h3 n3 ⟨x3,hp3,rfl,hb3,eQ⟩
 try dsimp only at eQ
 have hl3:=eQ.1
 obtain⟨f3,hR3⟩:=hb3
 have kn3:h3 n=some ⟨40,[[.v (.string (bs [])),.i 0,.i 0,.list true [],.list true []]]⟩:=kp eQ
 have kC3:h3 C=some ⟨40,[[.v (.string (bs zt)),.i 0,.i 0,.list true [],.list true []]]⟩:=kp eQ
 have hs3:bq h h3 R n n3:=(rv hs2 eQ)
 have hx3:=Yh (qV hp3) hx2
 obtain⟨v2,ev2⟩:∃v,v=(au 8 (x2,false)).1:=⟨_,rfl⟩
 try rw[<-ev2]
 have ff:=qG hR3 kn3 kC3 (nG R n3) (nG n n3) (nG C n3) ff
 refine aP Tp ?_
 try simp only[aH]
 refine bY ?_
 refine iX 1 (C:=Tp) (hct:=by exact xV x3 _ _ R ⟨f3,ev⟩ hx3) (hp:=?_) (hk:=?_)
 .
  rintro c9 h9 n9 ⟨rfl,hbad,aQ⟩
  try simp only[iq,iE]
  exact jr _ (by exact⟨rfl,ZiE hp2 hp3 hbad,(rv hs3 aQ)⟩) (hn:=XW _) (hh:=λ_=>.inl rfl)
 rintro res h4 n4 ⟨x4,uy,rfl,hb4,iK⟩
 try dsimp only at iK
 have hl4:=iK.1
 obtain⟨f4,uB⟩:=hb4
 have kn4:h4 n=some ⟨40,[[.v (.string (bs [])),.i 0,.i 0,.list true [],.list true []]]⟩:=kp iK
 have kC4:h4 C=some ⟨40,[[.v (.string (bs zt)),.i (IntKind.i64.wrap ((v2:Nat):Int)),.i 0,.list true [],.list true []]]⟩:=kp iK
 have hs4:bq h h4 R n n4:=(rv hs3 iK)
 have hx4:=Yh (qV uy) hx3
 obtain⟨v3,ev3⟩:∃v,v=(au 8 (x3,false)).1:=⟨_,rfl⟩
 try rw[<-ev3]
 have ff:=qG uB kn4 kC4 (nG R n4) (nG n n4) (nG C n4) ff
 refine aP Tp ?_
 try simp only[aH]
 refine ae ?_
 refine yt C 3 40 86 ev (by rfl) o5l ?_
 simp only[YW,YO]
 obtain⟨r,hre⟩:∃r,r=n4+5:=⟨_,rfl⟩
 rw[<-hre]
 have ff:=qG (nH R n) (nH C R) (nH R r) (nH C n) (nH n r) (nH C r) ff
 refine bY ?_
 refine iX 1 (C:=Tp) (hct:=by exact IY x4 _ _ R ⟨f4,ev⟩ hx4) (hp:=?_) (hk:=?_)
 .
  rintro c9 h9 n9 ⟨rfl,hbad,aQ⟩
  try simp only[iq,iE]
  exact jr _ (by exact⟨rfl,ZiD hp2 hp3 uy hbad,(rv hs4 aQ)⟩) (hn:=XW _) (hh:=λ_=>.inl rfl)
 rintro res h5 n5 ⟨x5,o6,rfl,hb5,fM⟩
 try dsimp only at fM
 have hl5:=fM.1
 obtain⟨f5,vJ⟩:=hb5
 have kn5:h5 n=some ⟨40,[[.v (.string (bs [])),.i 0,.i 0,.list true [],.list true []]]⟩:=kp fM
 have kC5:h5 C=some ⟨40,[[.v (.string (bs zt)),.i (IntKind.i64.wrap ((v2:Nat):Int)),.i (IntKind.i64.wrap ((v3:Nat):Int)),.mrow r 0 0,.list true []]]⟩:=kp fM
 have kr5:h5 r=some ⟨86,[]⟩:=kp fM
 have hs5:bq h h5 R n n5:=(rv hs4 fM)
 have hx5:=Yh (qV o6) hx4
 have hde:=ZiC hp2 hp3 uy o6
 have Fs:(au 4 (x4,false)).1<256^4:=AB 4 (x4,false)
 obtain⟨N,eN⟩:∃v,v=(au 4 (x4,false)).1:=⟨_,rfl⟩
 try rw[<-eN]
 rw[<-eN]at Fs hde
 rw[<-ezt,<-ev2,<-ev3]at hde
 have ff:=qI vJ kn5 kC5 kr5 (nG R n5) (nG n n5) (nG C n5) (nG r n5) ff
 refine aP Tp ?_
 try simp only[aH]
 refine ah ?_
 refine jk (α:=(Nat)×(List ak)×(Str)×(Nat)×(H)×Nat) [0,2,3,17] (λ⟨k,o,xs,r,hq,nx⟩=>(k<=N)/\(lq N [] (x5,false)=lq (N-k) o (xs,false))/\(o.length=k)/\(jB hq R xs)/\(hq C=some ⟨40,[[.v (.string (bs zt)),.i (IntKind.i64.wrap ((v2:Nat):Int)),.i (IntKind.i64.wrap ((v3:Nat):Int)),.mrow r 0 k,.list true []]]⟩)/\(hq r=some ⟨86,(o).map ak.d⟩)/\(hq n=some ⟨40,[[.v (.string (bs [])),.i 0,.i 0,.list true [],.list true []]]⟩)/\(bq h hq R n nx)/\(C<r)/\(r<nx)/\(xs.length<=1000000000)/\True) (λ⟨k,o,xs,r,hq,nx⟩=>N-k) (λ⟨k,o,xs,r,hq,nx⟩=>[(18,.v (.int .u64 ((k:Nat):Int)))]) (λ⟨k,o,xs,r,hq,nx⟩=>hq) (λ⟨k,o,xs,r,hq,nx⟩=>nx) (0,[],x5,r,h5,_) (hA:=⟨iv,rfl,rfl,⟨f5,vJ⟩,kC5,kr5,kn5,(hs5.up oW),oW,oW,iv,trivial⟩) (round:=?_)
 rintro⟨k,o,xs,r,hq,nx⟩ ⟨hk,hps,hol,vH,hC,hr,hn,hst,hCr,hrx,hxl, -⟩
 simp only[XY,XZ]
 obtain⟨fs,uA⟩:=vH
 have e7:=yP (n:=k+1) (by omega)
 have e7b:((k+1:Nat):Int)=(k:Int)+1:=by omega
 rw[e7b]at e7
 have ff:=qH @uA @hC @hr @hn @e7 (nG R nx) (nG n nx) (qI (nG C nx) (nG r nx) (nH R n) (nH C R) (nH R r) (nH C n) (nH n r) (nH C r) ff)
 refine aa Tp ?_
 refine ae ?_
 refine cd ?_ ?_<;>intro c1
 .
  have hk2:k<N:=by omega
  obtain⟨M,hM⟩:∃M,N-k=M+1:=⟨N-k-1,om⟩;refine aj ?_;refine ae ?_;refine ah ?_;refine bY ?_;refine iX 1 (C:=Tp) (hct:=by exact IV xs _ _ R ⟨fs,ev⟩ hxl) (hp:=?_) (hk:=?_)
  .
   rintro c9 h9 n9 ⟨rfl,hbad,aQ⟩
   try simp only[iq,iE]
   exact jr _ (by exact⟨rfl,by rw[hde,hps];exact Ao (Ro (ZdX hbad) (by omega)),(rv hst aQ)⟩) (hn:=XW _) (hh:=λ_=>.inl rfl)
  rintro res h6 n6 ⟨x6,hp6,rfl,hb6,Da⟩
  try dsimp only at Da
  have Df:=Da.1;obtain⟨f6,hR6⟩:=hb6;have kn6:h6 n=some ⟨40,[[.v (.string (bs [])),.i 0,.i 0,.list true [],.list true []]]⟩:=kp Da;have kC6:h6 C=some ⟨40,[[.v (.string (bs zt)),.i (IntKind.i64.wrap ((v2:Nat):Int)),.i (IntKind.i64.wrap ((v3:Nat):Int)),.mrow r 0 k,.list true []]]⟩:=kp Da;have kr6:h6 r=some ⟨86,(o).map ak.d⟩:=kp Da;have hs6:bq h h6 R n n6:=(rv hst Da);have hx6:=Yh (GH hp6) hxl;obtain⟨qt,eqt⟩:∃v,v=(bQ (xs,false)).1:=⟨_,rfl⟩
  try rw[<-eqt]
  have ff:=qI hR6 kn6 kC6 kr6 (nG R n6) (nG n n6) (nG C n6) (nG r n6) ff;refine aP Tp ?_
  try simp only[aH]
  obtain⟨q,hqe⟩:∃q,q=n6+3:=⟨_,rfl⟩;rw[<-hqe];simp only[yN];have ff:=qB (nH R n) (nH C R) (qI (nH R r) (nH R q) (nH C n) (nH n r) (nH n q) (nH C r) (nH C q) (nH q r) ff);refine bY ?_;refine iX 1 (C:=Tp) (hct:=by exact Mr x6 _ _ R ⟨f6,ev⟩ hx6) (hp:=?_) (hk:=?_)
  .
   rintro c9 h9 n9 ⟨rfl,hbad,aQ⟩
   try simp only[iq,iE]
   exact jr _ (by exact⟨rfl,by rw[hde,hps];exact Ao (Ro (ZdW hp6 hbad) (by omega)),(rv hs6 aQ)⟩) (hn:=XW _) (hh:=λ_=>.inl rfl)
  rintro res h7 n7 ⟨x7,EZ,rfl,vH,jM⟩
  try dsimp only at jM
  have hl7:=jM.1;obtain⟨f7,uA⟩:=vH;have kn7:h7 n=some ⟨40,[[.v (.string (bs [])),.i 0,.i 0,.list true [],.list true []]]⟩:=kp jM;have kC7:h7 C=some ⟨40,[[.v (.string (bs zt)),.i (IntKind.i64.wrap ((v2:Nat):Int)),.i (IntKind.i64.wrap ((v3:Nat):Int)),.mrow r 0 k,.list true []]]⟩:=kp jM;have kr7:h7 r=some ⟨86,(o).map ak.d⟩:=kp jM;have kq7:h7 q=some ⟨86,[[.v (.string (bs qt)),.i 0]]⟩:=kp jM;have hs7:bq h h7 R n n7:=(rv hs6 jM);have hx7:=Yh (qV EZ) hx6;have hqo:=ZdT hp6 EZ;rw[<-eqt]at hqo;have ff:=qB uA kn7 (qI kC7 kr7 kq7 (nG R n7) (nG n n7) (nG C n7) (nG r n7) (nG q n7) ff);refine aP Tp ?_
  try simp only[aH]
  refine ai Tp ?_;refine ai Tp ?_
  show ∃_,_
  exact ay (k+1,o++[(ol (xs,false)).1],x7,(n7+9),_,_) (h1:=⟨iv,(by(try dsimp only);rw[hps,hM,Rm,hqo,show N-(k+1)=M by omega]),o4b,(by(try dsimp only);exact⟨f7,ev⟩),o3p,(by(try dsimp only);rw[hqo];simp only[go_sem,ff,List.map_append,List.map_cons,List.map_nil];first|done|exact rfl),o3p,(by(try dsimp only);exact(rv hs7 (bq.refl (Nat.le_refl _)))),oW,oW,iv,trivial⟩) (h5:=λ_=>.inl rfl)
 have hk3:N-k=0:=by omega
 rw[hk3]at hps
 have hps:lq N [] (x5,false)=(o,(xs,false)):=hps
 obtain⟨DQ,hDQ⟩:∃l,l=o:=⟨_,rfl⟩
 refine aK ?_
 refine ae ?_
 refine yw C 3 r (rows:=o.map ak.d) (off:=0) (len:=k) ev rfl ev om (by simp[hol]) Sv ?_
 simp only[X6,yQ,YW,YO]
 rw[Ym (by simp[hol]),<-hDQ]
 refine yt C 4 40 84 ev (by rfl) o5l ?_
 simp only[YW,YO]
 obtain⟨p,hpe⟩:∃p,p=nx+1:=⟨_,rfl⟩
 rw[<-hpe]
 have ff:=qH (nH R n) (nH C R) (nH R p) (nH C n) (nH n p) (nH C p) (nH p r) ff
 refine bY ?_
 refine iX 1 (C:=Tp) (hct:=by exact IY xs _ _ R ⟨fs,ev⟩ hxl) (hp:=?_) (hk:=?_)
 .
  rintro c9 h9 n9 ⟨rfl,hbad,aQ⟩
  try simp only[iq,iE]
  exact jr _ (by exact⟨rfl,by rw[hde,hps];exact Qu hbad,(rv hst aQ)⟩) (hn:=XW _) (hh:=λ_=>.inl rfl)
 rintro res h8 n8 ⟨x8,lS,rfl,wS,il⟩
 try dsimp only at il
 have Bo:=il.1
 obtain⟨f8,qy⟩:=wS
 have kn8:h8 n=some ⟨40,[[.v (.string (bs [])),.i 0,.i 0,.list true [],.list true []]]⟩:=kp il
 have kC8:h8 C=some ⟨40,[[.v (.string (bs zt)),.i (IntKind.i64.wrap ((v2:Nat):Int)),.i (IntKind.i64.wrap ((v3:Nat):Int)),.list false (DQ.map ak.d),.mrow p 0 0]]⟩:=kp il
 have kp8:h8 p=some ⟨84,[]⟩:=kp il
 have hs8:bq h h8 R n n8:=(rv hst il)
 have C8:=Yh (qV lS) hxl
 rw[hps,Qt lS,<-hDQ]at hde
 have hMl:(au 4 (xs,false)).1<256^4:=AB 4 (xs,false)
 obtain⟨M,eM⟩:∃v,v=(au 4 (xs,false)).1:=⟨_,rfl⟩
 try rw[<-eM]
 rw[<-eM]at hMl hde
 have ff:=qI qy kn8 kC8 kp8 (nG R n8) (nG n n8) (nG C n8) (nG p n8) ff
 refine aP Tp ?_
 try simp only[aH]
 refine ah ?_
 refine jk (α:=(Nat)×(List Sgd)×(Str)×(Nat)×(H)×Nat) [0,2,3,35] (λ⟨k,o,iN,p,hq2,nx⟩=>(k<=M)/\(jG M [] (x8,false)=jG (M-k) o (iN,false))/\(o.length=k)/\(jB hq2 R iN)/\(hq2 C=some ⟨40,[[.v (.string (bs zt)),.i (IntKind.i64.wrap ((v2:Nat):Int)),.i (IntKind.i64.wrap ((v3:Nat):Int)),.list false (DQ.map ak.d),.mrow p 0 k]]⟩)/\(hq2 p=some ⟨84,(o).map Sgd.d⟩)/\(hq2 n=some ⟨40,[[.v (.string (bs [])),.i 0,.i 0,.list true [],.list true []]]⟩)/\(bq h hq2 R n nx)/\(C<p)/\(p<nx)/\(iN.length<=1000000000)/\True) (λ⟨k,o,iN,p,hq2,nx⟩=>M-k) (λ⟨k,o,iN,p,hq2,nx⟩=>[(36,.v (.int .u64 ((k:Nat):Int)))]) (λ⟨k,o,iN,p,hq2,nx⟩=>hq2) (λ⟨k,o,iN,p,hq2,nx⟩=>nx) (0,[],x8,p,h8,_) (hA:=⟨iv,rfl,rfl,⟨f8,qy⟩,kC8,kp8,kn8,(hs8.up oW),oW,oW,iv,trivial⟩) (round:=?_)
 rintro⟨k,o,iN,p,hq2,nx⟩ ⟨hk,I6,E5,vH,hC,hr,hn,aT,hCr,hrx,sZ, -⟩
 simp only[XY,XZ]
 obtain⟨fs2,uA⟩:=vH
 have e7:=yP (n:=k+1) (by omega)
 have e7b:((k+1:Nat):Int)=(k:Int)+1:=by omega
 rw[e7b]at e7
 have ff:=qH @uA @hC @hr @hn @e7 (nG R nx) (nG n nx) (qI (nG C nx) (nG p nx) (nH R n) (nH C R) (nH R p) (nH C n) (nH n p) (nH C p) ff)
 refine aa Tp ?_
 refine ae ?_
 refine cd ?_ ?_<;>intro c2
 .
  have hk2:k<M:=by omega
  obtain⟨L,hL⟩:∃L,M-k=L+1:=⟨M-k-1,om⟩;refine aj ?_;refine ae ?_;refine ah ?_;refine VH Tp 3 4 5 [(1,38)] (R:=_) (X:=_) (hct:=by exact Ue iN _ _ R ⟨fs2,ev⟩ sZ) (hkeep:=?kp23) (zJ:=?fo23) (hk:=?kk23) (hp:=?pp23)
  case kp23 =>
   rintro res h2 n2 ⟨_,_,_,_,aQ⟩ p hp r9 hrr;simp only[Yn]at hp;subst hp;simp only[go_sem,ff,sd,named,YA]at hrr ⊢;subst hrr;exact aQ.2 _ oW om
  case fo23 =>
   rintro res h2 n2 ⟨_,_,rfl,_,_⟩
   (try simp only[X9,X6,X5,Ye,S.put,Yp,Nat.reduceSub,Nat.reduceAdd,go_sem,ff]);all_goals exact ok0
  case pp23 =>
   rintro c9 h9 n9 ⟨rfl,hbad,aQ⟩ t9
   try simp only[iq,iE]
   exact jr _ (by exact⟨rfl,by rw[hde,I6];exact Qm hbad (by omega),(rv aT aQ)⟩) (hn:=XW _) (hh:=λ_=>.inl rfl)
  rintro res h9 n9 ⟨x9,EY,rfl,hb9,aQ⟩
  try dsimp only at aQ
  have vG:=aQ.1;obtain⟨f9,hR9⟩:=hb9;have Bl:h9 n=some ⟨40,[[.v (.string (bs [])),.i 0,.i 0,.list true [],.list true []]]⟩:=kp aQ;have hC9:h9 C=some ⟨40,[[.v (.string (bs zt)),.i (IntKind.i64.wrap ((v2:Nat):Int)),.i (IntKind.i64.wrap ((v3:Nat):Int)),.list false (DQ.map ak.d),.mrow p 0 k]]⟩:=kp aQ;have hp9b:h9 p=some ⟨84,(o).map Sgd.d⟩:=kp aQ;have hs9:bq h h9 R n n9:=(rv aT aQ);have ff:=qI hR9 Bl hC9 hp9b (nG R n9) (nG n n9) (nG C n9) (nG p n9) ff;have mK:=Yh (Qo EY) sZ;have hsig:iQ (iN,false)=((iQ (iN,false)).1,(x9,false)):=Prod.ext rfl EY;refine gto ?_;refine aP Tp ?_
  try simp only[aH]
  refine ai Tp ?_
  show ∃_,_
  exact ay (k+1,o++[(iQ (iN,false)).1],x9,(n9+5),_,_) (h1:=⟨iv,(by(try dsimp only);rw[I6,hL,KT,hsig,show M-(k+1)=L by omega]),(by(try dsimp only);rw[List.length_append,E5];rfl),(by(try dsimp only);exact⟨f9,ev⟩),o3p,o1p,o3p,o3t,oW,oW,iv,trivial⟩) (h5:=λ_=>.inl rfl)
 have hk3:M-k=0:=by omega
 rw[hk3]at I6
 refine aK ?_
 refine yw C 4 p (rows:=o.map Sgd.d) (off:=0) (len:=k) ev rfl ev om (by simp[E5]) CG ?_
 simp only[X6,yQ,YW,YO]
 refine aa Tp ?_
 refine aN ?_
 exact Dp (.inr rfl) (_) (hh:=λ_=>.inl rfl) (hr:=oS (k:=by rw[hde,I6,Ym (by simp[E5])];exact⟨iN,rfl,rfl,⟨fs2,ev⟩,(rv aT (bq.refl (XW _)))⟩))
end Go.Proofs.YtidphdaoejibcaaGreatDoor
namespace Go.Proofs.YtidphdaoejibcaaGreatDoor
open Go.Proofs.Tryz
open Go.RowKit Go.Extern.Stop Go.Stop Go.Extern Go.DL
def ZgI(v:Value)(w:World):(Extern.ReflectliteType.typeOf #[.iface 339 v]).run prog w = .ok (.iface 299 (.agg #[.pointer (some ⟨4,339,none⟩)])) w:=by kernel_rfl
def WF : Array Value -> Sem Value := Extern.ReflectliteType.method fun t => do Go.Extern.Rtype.noPackHeld "Comparable" t; pure (.bool (<- typeInfo t).comparable)
def ZgN(w:World):(WF #[.agg #[.pointer (some ⟨4,339,none⟩)]]).run prog w = .ok (.bool true) w:=by kernel_rfl
def ZgM (v : Value) (w : World) : (Go.method 473 299 v "Comparable").run prog w = .ok (301, v) w := by kernel_rfl
def ZgO:(prog.info? 339).map (·.comparable)=some true:=by kernel_rfl
def ZgK:(prog.info? 362).map (·.size)=some 1:=by kernel_rfl
def ZgG(a:Addr)(w:World) :
  Calls prog 133 #[.iface 339 (.pointer (some a)),.iface 339 (.pointer (some a))] w λe w'=>e = .returned (.bool true)/\w'=w:=by
 obtain⟨i,hi,hcmp⟩:=Option.map_eq_some_iff.1 ZgO
 obtain⟨j,hj,hjs⟩:=Option.map_eq_some_iff.1 ZgK
 have h8:=@run_callFunc_extern prog 204 _ Extern.ReflectliteType.typeOf func204 (by kernel_rfl) (by kernel_rfl) (by kernel_rfl) (by kernel_rfl)
 have h32:=@run_callFunc_extern prog 301 _ WF func301 (by kernel_rfl) (by kernel_rfl) (by kernel_rfl) (by kernel_rfl)
 have tT:=ZgI
 have cT:=ZgN
 have mR:=ZgM
 have heq:=run_eql_iface_ptr_same (P:=prog) w a underlying136 underlying339 hi hcmp hj
 go_enter func133,ntmps133
 go_wp2
 refine wp_loop_rounds 1 ?_
 rw[rounds_succ]
 go_wp2
 go_ret
 exact⟨rfl,rfl⟩
def ZgH(b:Addr)(w:World) :
  Calls prog 133 #[.nilIface,.iface 339 (.pointer (some b))] w λe w'=>e = .returned (.bool false)/\w'=w:=by
 have hn:=run_eql_iface_nil_left (P:=prog) w 339 (.pointer (some b)) underlying136
 go_enter func133,ntmps133
 go_wp2
 go_ret
 exact⟨rfl,rfl⟩
variable [Glob prog] [Told]
noncomputable def Dt(b:Bool):Value:=if b then jZ iL else .nilIface
def RA{x y z:Value}(h : ∀w,Calls prog 133 #[x,y] w λe w'=>e = .returned z/\w'=w):PureCt prog 133 [.v x,.v y] (.v z):=by
 refine⟨by kernel_rfl,rfl,λw I vs hI hgr hr=>?_⟩
 obtain⟨a,l,rfl,h1,h2⟩:=hr.of_cons
 obtain⟨b,l2,rfl,h3,h4⟩:=h2.of_cons
 obtain rfl:=h1.v_inv
 obtain rfl:=h3.v_inv
 have h0:l2=[]:=Yb h4.1.symm
 subst h0
 refine(callsIn_wide.2 (h w)).mono ?_
 rintro e w' ⟨rfl,rfl⟩
 exact⟨z,rfl,⟨rfl,rfl,rfl,XW _,XW _,λ_ _=>rfl⟩,.v _⟩
@[go_sem]theorem Zly(b:Bool):Go.Jn.isE (Dt b)=b:=by cases b<;>rfl
def Uj(b:Bool):PureCt prog 133 [.v (Dt b),.v (jZ iL)] (.b b):=by
 cases b
 . exact RA λw=>ZgH iL w
 . exact RA λw=>ZgG iL w
end Go.Proofs.YtidphdaoejibcaaGreatDoor
