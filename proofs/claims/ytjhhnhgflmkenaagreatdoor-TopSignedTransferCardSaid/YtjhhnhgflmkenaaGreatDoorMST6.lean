/-
  MANY TEXTS OF MINE IN ONE (a claim has a limit of files): UpW7, UpW8, UpW9, UpW10, UpW11, UpW12, UpW13, UpW14, UpW15, UpW16, UrW1, LkW1, LkW3, SgW2, SgW1, SgW3, LkW2, SgW4, SgW5, SgW6, DeW1, DeW2, DeW3, LkW7, LkW9, LkW4, LkWa, LkW5, LkW6, LkWb, LkWc, LkWe, LkW8, LkWd, TpW1, TpW2, TpW3, SgW7. Conditions: none.
-/
import Derived.Test.YtjhhnhgflmkenaaGreatDoorMST5
set_option linter.unusedVariables false
set_option linter.unusedSimpArgs false
set_option linter.unusedSectionVars false
set_option linter.defProp false
set_option linter.unnecessarySimpa false
namespace Go.Proofs.YtjhhnhgflmkenaaGreatDoor
open Go.Proofs.Tryz
open Go.DL Go.Str Go.Rec Go.Cmp Go.Zon
set_option maxRecDepth 10000
theorem _root_.o3x{p:Prop}(h:p:=by rw[h];decide):p:=h
theorem _root_.o3w{p:Prop}(h:p:=by rw[uf];omega):p:=h
theorem _root_.o3t{p:Prop}(h:p:=by rw[h1,h2];simp):p:=h
theorem _root_.o3p{p:Prop}(h:p:=by simp_all [tO,jR]):p:=h
theorem _root_.o3k{p:Prop}(h:p:=by dsimp only;decide):p:=h
theorem _root_.o3c{p:Prop}(h:p:=by rw[e,T]at G;cases G;rfl):p:=h
theorem _root_.o2u{p:Prop}(h:p:=by rintro (q|q);exact q rfl;exact N q):p:=h
theorem _root_.o2k{p:Prop}(h:p:=by first|(rw[x,f];rfl)|(dsimp only;rw[x,f];rfl)):p:=h
theorem _root_.o2j{p:Prop}(h:p:=by rw[NJ (by unfold zF;rw[<-wU];grind)];try rfl):p:=h
theorem _root_.o1Z{p:Prop}(h:p:=by(try dsimp only);rw[m,Ej p (by rw[<-g,f];exact n)]):p:=h
theorem _root_.o1Y{p:Prop}(h:p:=by rw[G,m,BZ p (by rw[<-g,f];exact n),<-g,f];try rfl):p:=h
theorem _root_.o1W{p:Prop}(h:p:=by(try dsimp only);exact(JS u U).2 (by simpa using I)):p:=h
theorem _root_.o1V{p:Prop}(h:p:=by(try dsimp only);exact(JS u U).1 (by simpa using I)):p:=h
theorem _root_.o1S{p:Prop}(h:p:=by first|(intro i A;omega)|(dsimp only;intro i A;omega)):p:=h
theorem _root_.o1R{p:Prop}(h:p:=by first|exact⟨rfl,rfl,om⟩|(refine⟨rfl,?_⟩;omega)|omega):p:=h
theorem _root_.o1Q{p:Prop}(h:p:=by rcases YK q n with w|w;exact w;rw[o q w]at G;cases G):p:=h
theorem _root_.o1L{p:Prop}(h:p:=by rw[<-f.1];intro q;left;simp only[upd];split<;>simp_all):p:=h
theorem _root_.o1I{p:Prop}(h:p:=by(try simp only[go_sem,ff]);all_goals (exact EY _ _ _ _ _)):p:=h
theorem _root_.o1E{p:Prop}(h:p:=by(try simp only[go_sem,ff]);all_goals (exact(Cv _ _ _).2.2)):p:=h
theorem _root_.o1r{p:Prop}(h:p:=by exact less_upd o (λq K=>by simp only[upd];repeat rw[XV (by omega)])):p:=h
theorem _root_.o1d{p:Prop}(h:p:=by refine⟨⟨by rw[Yw];omega,Int.le_refl _⟩,λr O=>?_⟩;obtain⟨x,_,rfl⟩:=Yp.1 O;rfl):p:=h
theorem _root_.o1b{p:Prop}(h:p:=by(try dsimp only);rw[List.map_append];simp only[go_sem,ff];first|done|exact rfl):p:=h
theorem _root_.o0Z{p:Prop}(h:p:=by(repeat' (with_reducible apply And.intro))<;>first|omega|(rw[He];omega)|rfl|skip):p:=h
theorem _root_.o0M{p:Prop}(h:p:=by(try simp only[go_sem,ff]);all_goals (first|done|rfl|(simp;done)|(left;simp;done)|(right;simp;done))):p:=h
theorem _root_.o0E{p:Prop}(h:p:=by rintro (q|q|q);rw[f.ok]at q;cases q;rw[q]at c;simp at c;rw[show zS (o.map dF) (dF y)=true from YB q]at c;simp at c):p:=h
theorem _root_.o0w{p:Prop}(h:p:=by(try simp only[go_sem,ff]);all_goals (first|done|exact congrArg (λq=>some (dE.mk 4 q)) (rO U (by rw[vK U J];grind))|(simp;done))):p:=h
theorem _root_.o0u{p:Prop}(h:p:=by(try dsimp only);exact .inr ⟨_,by rw[List.length_append];rfl,by rw[List.map_append];simp only[go_sem,ff];first|done|exact rfl,om,om⟩):p:=h
theorem _root_.o0o{p:Prop}(h:p:=by first|(rw[CZ,X0 F];exact B.of_fresh f oW oW)|(rw[CZ,XV (by rw[F];exact Bool.false_ne_true)];exact(kI.same m (XW n)).of_fresh f (by omega) (by omega))):p:=h
theorem _root_.o0j{p:Prop}(h:p:=by first|omega|exact⟨by first|(rw[f.2];done)|(rw[f.2];congr 1;done)|(rw[f.2];congr 1;omega),rfl,om⟩|exact⟨by first|(rw[f.2];done)|(rw[f.2];congr 1;done)|(rw[f.2];congr 1;omega),om⟩):p:=h
theorem _root_.o0a{p:Prop}(h:p:=by first|(rw[Nr F];exact(kI.same A (XW n)).of_fresh f (by omega) (by omega))|(rw[<-Nu F m hi (by simpa using I) _];exact X.after (λq b y O G e4=>by have B:q≠z:=(λe=>O (by rw[e,hz.r]at y;cases y;rfl));have W:q≠p[K]!.1:=(λe=>G (by rw[e,hz.d _ (lw hi)]at y;cases y;rfl));have L:q≠n:=(λe=>by rw[e,f]at y;cases y);simp only[upd,XV B,XV W,XV L];exact y) oW oW)|(rw[<-Nt F m hi (by simpa using I)];exact(kI.same hz3 (XW n)).after (λq b y O G e4=>by have B:q≠z:=(λe=>O (by rw[e,hz.r]at y;cases y;rfl));have W:q≠p[K]!.1:=(λe=>G (by rw[e,hz.d _ (lw hi)]at y;cases y;rfl));have L:q≠n:=(λe=>by rw[e,f]at y;cases y);simp only[upd,XV B,XV W,XV L];exact y) (by omega) oW)):p:=h
variable [Dr] [Glob prog] [Told]
theorem Xm{q:Sgd->Bool}{p:List PS}:∀n k,p.length-k<=n->d9 q (lP p) k=d9 (λx=>q x.2) p k:=by
 intro n;induction n with
 | zero=>intro k h;rw[Al q,Al (λx:PS=>q x.2),XV o3w,XV (by omega)]
 | succ n a =>
  intro k h;rw[Al q,Al (λx:PS=>q x.2),uf];by_cases X:k<p.length
  . rw[X0 X,X0 X,FE X,a (k+1) (by omega)]
  rw[XV X,XV X]
def ZmD{q:Sgd->Bool}{p:List PS}(h : ¬d9 q (lP p) 0 = -1):∃j:Nat,d9 q (lP p) 0=(j:Int)/\j<p.length/\q p[j]!.2=true /\ ∀i,i<j->q p[i]!.2=false:=by
 rw[Xm _ 0 (XW _)]at h ⊢;rcases IV (λx:PS=>q x.2) p _ 0 (XW _)with⟨a,_⟩|⟨j,a,_,c,f,g⟩
 . exact absurd a h
 exact⟨j,a,c,f,λi hi=>g i (Yh _) hi⟩
def ZmF{q:Sgd->Bool}{p:List PS}(h:d9 q (lP p) 0 = -1):p.filter (λx=>!q x.2)=p:=by
 rw[Xm _ 0 (XW _)]at h;rcases IV (λx:PS=>q x.2) p _ 0 (XW _)with⟨_,a⟩|⟨j,c,_,f,g,k⟩
 . refine Y1.2 λx E=>?_;obtain⟨i,hi,rfl⟩:=jh.1 E;have:q p[i]!.2=false:=a i (Yh _) hi;rw[this];rfl
 rw[h]at c;omega
theorem lw{p:List PS}{k:Nat}(h:k<p.length):p[k]! ∈ p:=jh.2 ⟨k,h,rfl⟩
def ZdU(p:List PS)(t:RSet)(m:Nat)(h:H)(n z:Nat)(hm:m=p.length)(hl:p.length<=1000000)(hr:h z=some ⟨56,p.map rowP⟩)(hp : ∀x∈p,Cs 70 h x/\x.1≠z):yp 220 [.mrow z 0 m,.fn (.func 221) [] [.eptr t.d]] h n (λd h' n'=>d = .mrow z 0 (p.filter (λx:PS=>!dZ t.name x.2)).length/\h'=upd h z (some ⟨56,(p.filter (λx:PS=>!dZ t.name x.2)).map rowP⟩)/\n<=n'):=by
 refine oP func220 λo ff=>?_;unfold f220;subst hm;have F:=TG hr λx E=>(hp x E).1;have ab:z<n:=by rcases YK z n with q|q;exact q;rw[o z q]at hr;cases hr
 have M : ∀x∈p,x.1<n:=λx E=>by rcases YK x.1 n with q|q;exact q;have:=(hp x E).1.1;rw[o x.1 q]at this;cases this
 have ff:=qA @hr ff;refine xa ?_;refine bX ?_;refine LC De 2 4 (hct:=ZdM (lP p) (by rw[uf];exact hl) t) (hso:=?_) (hz:=?_) (hk:=?_)
 .
  intro d G;simp only[XZ,YH,Yl,Y2,or_false]at G;rcases G with rfl|rfl
  . exact F.2
  refine⟨λc L=>by simp at L,λc L=>?_⟩;rw[Yk]at L;subst L;simp[dU,D.nr,aX,mM,RSet.d]
 . simp only[XZ,YH,X7,Yy];rw[F.1];simp[TJ,J4,wk,dA,RSet.d,qb]
 refine xF ?_;try simp only[aH]
 refine xr ?_ ?_ (hq:=rfl)<;>intro w
 . have y:=ZmF (by simpa using w);refine xa ?_;exact oN (bJ (upd h z (some ⟨56,(p.filter (λx:PS=>!dZ t.name x.2)).map rowP⟩)) (hr:=oS (k:=by rw[y];first|exact⟨rfl,rfl,om⟩|exact⟨rfl,om⟩)) (hh:=by rw[y];intro q;left;unfold upd;split;rename_i e;subst e;exact hr.symm;rfl))
 obtain⟨j,g1,g3,g4,g5⟩:=ZmD (by simpa using w);have W:=Xw (g:=rowP) (keep:=(λx:PS=>!dZ t.name x.2)) (l:=p) (k:=j) (by omega) (λi hi=>by show(!dZ t.name p[i]!.2)=true;rw[g5 i hi];rfl);have Y:=Lc (g:=rowP) (keep:=(λx:PS=>!dZ t.name x.2)) g3 (by show(!dZ t.name p[j]!.2)=false;rw[g4];rfl);have N:ky (λx:PS=>!dZ t.name x.2) p (j+1)=j:=by rw[Y.1,W.1]
 have O:gN rowP (λx:PS=>!dZ t.name x.2) p (j+1)=p.map rowP:=by rw[Y.2,W.2]
 refine xj ?_;have ff:=qB @N @g1 ff;refine iF (Nat×Nat) [0,1] (λ⟨k,Z⟩=>(k<=p.length/\n<=Z,p.length-k,[(5,.i (ky (λx:PS=>!dZ t.name x.2) p k)),(6,.i k)],upd h z (some ⟨56,gN rowP (λx:PS=>!dZ t.name x.2) p k⟩),Z)) (j+1,_) ?_ (um:=by intro q;left;dsimp only;rw[O];unfold upd;split;rename_i e;subst e;exact hr.symm;rfl);rintro⟨k,Z⟩ ⟨X,E⟩;simp only[XX,XZ];refine xt ?_ ?_ (hq:=rfl)<;>intro I
 .
  have U:k<p.length:=by simpa[BH X]using I
  have R:=DY (λx:PS=>!dZ t.name x.2) p k;have T:(gN rowP (λx:PS=>!dZ t.name x.2) p k).getD k []=[.v (.string (bs p[k]!.2.set.name)),.i p[k]!.2.set.ty,.i p[k]!.2.set.life,.mrow p[k]!.1 0 p[k]!.2.set.data.length,.e]:=Xv U;have r:(gN rowP (λx:PS=>!dZ t.name x.2) p k).length=p.length:=BH om;have V:((gN rowP (λx:PS=>!dZ t.name x.2) p k).getD (ky (λx:PS=>!dZ t.name x.2) p k) []).length=5:=Xt (λ_=>rfl) om;have ff:=qE @T @r @V (nH (Z+8) z) ff;refine wD ?_;refine xa ?_;refine bX ?_;have J:=lw U;have u:=hp _ J;have ac:=M _ J;refine LC De 2 4 (hct:=Sz p[k]!.2 t) (hso:=?_) (hz:=?_) (hk:=?_)
  .
   intro d G;simp only[XZ,XX,Yl,Y2,or_false]at G;rcases G with rfl|rfl
   . refine(TI (td:=70) (x:=p[k]!) ⟨?_,u.1.2⟩).2;simp only[upd];(repeat rw[XV (by omega)]);exact u.1.1
   simp[dU,D.nr,aX,mM,RSet.d]
  .
   simp only[XZ,XX,X7,Yy];refine congr (congrArg List.cons ((TI (td:=70) (x:=p[k]!) ⟨?_,u.1.2⟩).1)) ?_
   . simp only[upd];(repeat rw[XV (by omega)]);exact u.1.1
   simp[J4,wk,dA,RSet.d,qb]
  refine xF ?_;try simp only[aH]
  refine cd ?_ ?_<;>intro a
  .
   refine xa ?_;refine xb ?_;refine xb ?_;have B:=Xr (g:=rowP) (keep:=(λx:PS=>!dZ t.name x.2)) U (by simpa using a);have ff:=qB B.1 B.2 ff;refine ah (k+1,_) (h5:=?_);intro q;by_cases A:q=Z+8
   . right;subst A;simp only[upd];(repeat rw[XV (by omega)]);exact o _ (by omega)
   left;simp only[upd];by_cases K:q=z
   . subst K;simp only[Zm,XV A];first|(rw[B.2];done)|(rw[List.drop_of_length_le (by omega),<-B.2];rfl)
   simp only[XV A,XV K]
  refine xl ?_;have B:=Lc (g:=rowP) (keep:=(λx:PS=>!dZ t.name x.2)) U (by simpa using a);have ff:=qB B.1 B.2 ff;refine ah (k+1,_) (h5:=?_);intro q;by_cases A:q=Z+8
  . right;subst A;simp only[upd];(repeat rw[XV (by omega)]);exact o _ (by omega)
  left;simp only[upd];by_cases K:q=z
  . subst K;simp only[Zm,XV A];first|(rw[B.2];done)|(rw[List.drop_of_length_le (by omega),<-B.2];rfl)
  simp only[XV A,XV K]
 have v:k=p.length:=by have : ¬k<p.length:=(by simpa using I);omega
 subst v;have R:=DY (λx:PS=>!dZ t.name x.2) p p.length;have f:=Xu (g:=rowP) (keep:=(λx:PS=>!dZ t.name x.2)) (l:=p);have r:(gN rowP (λx:PS=>!dZ t.name x.2) p p.length).length=p.length:=BH (XW _);have ff:=qA @r ff;refine aB ?_;refine aj (yY ?_);refine Kg (C:=De) 3 (by omega) (dP rfl) rfl rfl (by kernel_rfl) (by kernel_rfl) (by kernel_rfl) o1T ?_ (by rfl) ev ev (by rw[BH (by omega)];omega) ?_
 . exact okU
 refine yw (C:=De) o3j o1T ?_ rfl ?_
 . exact okU
 try simp only[aH]
 refine xa ?_;exact oN (bJ (upd h z (some ⟨56,(p.filter (λx:PS=>!dZ t.name x.2)).map rowP⟩)) (hr:=oS (k:=o0j)) (hh:=o1L))
def ZdV(l:List Dat)(s:RSet)(m:Nat)(h:H)(n z:Nat)(R:m=l.length)(T:l.length<=1000000)(hs:s.data.length<=1000000)(hr:h z=some ⟨70,l.map Dat.d⟩):yp 215 [.mrow z 0 m,.fn (.func 216) [] [.eptr s.d]] h n (λd h' V=>d = .mrow z 0 (l.filter (λx:Dat=>!eB s.data x)).length/\h'=upd h z (some ⟨70,(l.filter (λx:Dat=>!eB s.data x)).map Dat.d⟩)/\n<=V):=by
 refine oP func215 λo ff=>?_;unfold f215;subst R;have u:=Zfu hr;have W:z<n:=by rcases YK z n with q|q;exact q;rw[o z q]at hr;cases hr
 have ff:=qA @hr ff;refine xa ?_;refine bX ?_;refine LC De 2 2 (hct:=ZdK l s T hs) (hso:=?_) (hz:=?_) (hk:=?_)
 .
  intro d y;simp only[XZ,YH,Yl,Y2,or_false]at y;rcases y with rfl|rfl
  . exact u.2
  refine⟨λc F=>by simp at F,λc F=>?_⟩;rw[Yk]at F;subst F;simp[dU,D.nr,aX,mM,RSet.d]
 . simp only[XZ,YH,X7,Yy];rw[u.1];simp[TJ,J4,wk,dA,RSet.d,qb]
 refine xF ?_;try simp only[aH]
 refine xr ?_ ?_ (hq:=rfl)<;>intro w
 . have r:=ZmE (by simpa using w);refine xa ?_;exact oN (bJ (upd h z (some ⟨70,(l.filter (λx:Dat=>!eB s.data x)).map Dat.d⟩)) (hr:=oS (k:=by rw[r];first|exact⟨rfl,rfl,om⟩|exact⟨rfl,om⟩)) (hh:=by rw[r];intro q;left;unfold upd;split;rename_i e;subst e;exact hr.symm;rfl))
 obtain⟨j,Y,g3,g4,g5⟩:=ZmC (by simpa using w);have N:=Xw (g:=Dat.d) (keep:=(λx:Dat=>!eB s.data x)) (l:=l) (k:=j) (by omega) (λi hi=>by show(!eB s.data l[i]!)=true;rw[g5 i hi];rfl);have O:=Lc (g:=Dat.d) (keep:=(λx:Dat=>!eB s.data x)) g3 (by show(!eB s.data l[j]!)=false;rw[g4];rfl);have G:ky (λx:Dat=>!eB s.data x) l (j+1)=j:=by rw[O.1,N.1]
 have J:gN Dat.d (λx:Dat=>!eB s.data x) l (j+1)=l.map Dat.d:=by rw[O.2,N.2]
 refine xj ?_;have ff:=qB @G @Y ff;refine iF (Nat×Nat) [0,1] (λ⟨k,Z⟩=>(k<=l.length/\n<=Z,l.length-k,[(5,.i (ky (λx:Dat=>!eB s.data x) l k)),(6,.i k)],upd h z (some ⟨70,gN Dat.d (λx:Dat=>!eB s.data x) l k⟩),Z)) (j+1,_) ?_ (um:=by intro q;left;dsimp only;rw[J];unfold upd;split;rename_i e;subst e;exact hr.symm;rfl);rintro⟨k,Z⟩ ⟨X,E⟩;simp only[XX,XZ];refine xt ?_ ?_ (hq:=rfl)<;>intro I
 .
  have U:k<l.length:=by simpa[BH X]using I
  have K:=DY (λx:Dat=>!eB s.data x) l k;have L:(gN Dat.d (λx:Dat=>!eB s.data x) l k).getD k []=[.v (.string (bs l[k]!.t)),.i l[k]!.n,.i l[k]!.m]:=Xv U;have p:(gN Dat.d (λx:Dat=>!eB s.data x) l k).length=l.length:=BH om;have M:((gN Dat.d (λx:Dat=>!eB s.data x) l k).getD (ky (λx:Dat=>!eB s.data x) l k) []).length=3:=Xt (λ_=>rfl) om;have ff:=qE @L @p @M (nH (Z+8) z) ff;refine wD ?_;refine xa ?_;refine bX ?_;refine LC De 2 2 (hct:=Sm l[k]! s hs) (hso:=?_) (hz:=?_) (hk:=?_)
  .
   intro d y;simp only[XZ,XX,Yl,Y2,or_false]at y;rcases y with rfl|rfl
   . simp[dU,D.nr,Dat.d]
   simp[dU,D.nr,aX,mM,RSet.d]
  . simp[J4,Go.DL.snap_agg,Go.DL.snap_v,wk,dA,RSet.d,Dat.d,qb]
  refine xF ?_;try simp only[aH]
  refine cd ?_ ?_<;>intro a
  .
   refine xa ?_;refine xb ?_;refine xb ?_;have B:=Xr (g:=Dat.d) (keep:=(λx:Dat=>!eB s.data x)) U (by simpa using a);have ff:=qB B.1 B.2 ff;refine ah (k+1,_) (h5:=?_);intro q;by_cases t:q=Z+8
   . right;subst t;simp only[upd];(repeat rw[XV (by omega)]);exact o _ (by omega)
   left;simp only[upd];by_cases A:q=z
   . subst A;simp only[Zm,XV t];first|(rw[B.2];done)|(rw[List.drop_of_length_le (by omega),<-B.2];rfl)
   simp only[XV t,XV A]
  refine xl ?_;have B:=Lc (g:=Dat.d) (keep:=(λx:Dat=>!eB s.data x)) U (by simpa using a);have ff:=qB B.1 B.2 ff;refine ah (k+1,_) (h5:=?_);intro q;by_cases t:q=Z+8
  . right;subst t;simp only[upd];(repeat rw[XV (by omega)]);exact o _ (by omega)
  left;simp only[upd];by_cases A:q=z
  . subst A;simp only[Zm,XV t];first|(rw[B.2];done)|(rw[List.drop_of_length_le (by omega),<-B.2];rfl)
  simp only[XV t,XV A]
 have v:k=l.length:=by have : ¬k<l.length:=(by simpa using I);omega
 subst v;have K:=DY (λx:Dat=>!eB s.data x) l l.length;have f:=Xu (g:=Dat.d) (keep:=(λx:Dat=>!eB s.data x)) (l:=l);have p:(gN Dat.d (λx:Dat=>!eB s.data x) l l.length).length=l.length:=BH (XW _);have ff:=qA @p ff;refine aB ?_;refine aj (yY ?_);refine Kg (C:=De) 3 (by omega) (dP rfl) rfl rfl (by kernel_rfl) (by kernel_rfl) (by kernel_rfl) o1T ?_ (by rfl) ev ev (by rw[BH (by omega)];omega) ?_
 . exact okU
 refine yw (C:=De) o3j o1T ?_ rfl ?_
 . exact okU
 try simp only[aH]
 refine xa ?_;exact oN (bJ (upd h z (some ⟨70,(l.filter (λx:Dat=>!eB s.data x)).map Dat.d⟩)) (hr:=oS (k:=o0j)) (hh:=o1L))
def SB(z j f i:Nat)(a:Str)(p:List PS)(h:H)(n:Nat)(hz:ZM 24 56 70 z j a p h)(J:h f=some ⟨209,[[.mptr z 0 0]]⟩)(E:p.length<=100000)(hi:i<p.length):yp 207 [.i i,.mptr f 0 0] h n (λd h' g=>d = .tuple []/\kI 24 56 70 z a ((lP p).eraseIdx i) h h' n g):=by
 refine oP func207 λo ff=>?_;unfold f207;have m:=hz.z;have y:=hz.r;have t:=hz.zr;have u:f≠z:=λe=>by rw[e,m]at J;cases J
 have c:f≠j:=λe=>by rw[e,y]at J;cases J
 have w:z≠f:=λe=>u e.symm;have x:j≠f:=λe=>c e.symm;have A:j≠z:=λe=>t e.symm;have ff:=qA @m (qI @y @t @J @u @c @w @x @A ff);refine dr1 De 8 11 [(0,1)] (hct:=by exact ZnO (p.map rowP) i p.length (i+1) _ _ j (by simp) (by simpa using hi) rfl (by simp;omega) o3h Zcy) (hkeep:=?_) (hk:=?_)
 . rintro R Y B ⟨rfl,rfl,N⟩ q K r v;simp only[Yk]at K;subst K;simp only[go_sem,ff,sd,named,YF]at v ⊢;subst v;simp only[upd,XV c]
 rintro R Y B ⟨rfl,rfl,N⟩;refine xF ?_;try simp only[aH]
 exact bJ (_) (hh:=λ_=>.inl rfl) (hr:=oS (k:=by(try dsimp only at N);rw[Zj6,show p.length-1=(p.eraseIdx i).length from by simp[List.length_eraseIdx,hi],<-ZkN];exact Tj hz (List.eraseIdx_sublist _ _) oW))
def ZdG(t:RSet)(z c f:Nat)(a:Str)(p:List PS)(h:H)(n:Nat)(hz:ZM 24 56 70 z c a p h)(J:h f=some ⟨209,[[.mptr z 0 0]]⟩)(O:p.length<=100000):yp 219 [.agg t.d,.mptr f 0 0] h n (λd h' g=>d = .tuple []/\kI 24 56 70 z a (lP (p.filter (λx:PS=>!dZ t.name x.2))) h h' n g):=by
 refine oP func219 λo ff=>?_;unfold f219;have j:=hz.z;have y:=hz.r;have u:=hz.zr;have v:f≠z:=λe=>by rw[e,j]at J;cases J
 have m:f≠c:=λe=>by rw[e,y]at J;cases J
 have A:z≠f:=λe=>v e.symm;have B:c≠f:=λe=>m e.symm;have I:c≠z:=λe=>u e.symm;have L:c<n:=by rcases YK c n with q|q;exact q;rw[o c q]at y;cases y
 have F:z<n:=by rcases YK z n with q|q;exact q;rw[o z q]at j;cases j
 have G:f<n:=by rcases YK f n with q|q;exact q;rw[o f q]at J;cases J
 have ff:=qH @j @y @u @J @v @m @A (qI @B @I (nH n c) (nH n z) (nH f n) (nH c z) (nH f c) (nH f z) ff);refine xa ?_;refine sO 2 n ev ev o3o ?_;refine dr1 De 6 7 [(0,1)] (hct:=by exact ZdU p t p.length _ _ c rfl (by omega) o3h (λx E=>⟨⟨by have:=hz.ne x E;simp only[upd];(repeat rw[XV (by first|omega|(intro e;have:=hz.d x E;rw[e,o _ (XW _)]at this;cases this))]);exact hz.d x E,hz.sig x E⟩,(hz.ne x E).2⟩)) (hkeep:=?_) (hk:=?_)
 . rintro R Y M ⟨rfl,rfl,N⟩ q K r w;simp only[Yk]at K;subst K;simp only[go_sem,ff,sd,named,YF]at w ⊢;subst w;simp only[upd,XV m]
 rintro R Y M ⟨rfl,rfl,N⟩;refine xF ?_;try simp only[aH]
 exact bJ (upd (upd h c (some ⟨56,(p.filter (λx:PS=>!dZ t.name x.2)).map rowP⟩)) z (some ⟨24,[[.v (.string (bs a)),.mrow c 0 (p.filter (λx:PS=>!dZ t.name x.2)).length]]⟩)) (hr:=oS (k:=by(try dsimp only at N);exact Tj hz List.filter_sublist oW)) (hh:=by intro q;simp only[upd];by_cases e:q=n;right;subst e;(repeat rw[if_neg (by omega)]);exact o _ (Nat.le_refl _);left;(repeat (first|rfl|(split<;>first|rfl|omega))))
@[go_sem]theorem snapW_v9{h:H}{x:Value}:jr h (.v x) = .v x:=rfl
def Qu{p:List PS}{q:Qst}(h:bV (lP p) q=true):aV (lP p) q<p.length:=by have:=Qv h;rwa [uf]at this
def Zdu(t:RSet)(z v u ce:Nat)(a:Str)(p:List PS)(h:H)(n:Nat)(hz:ZM 24 56 70 z v a p h)(J:h u=some ⟨209,[[.mptr z 0 0]]⟩)(y:h ce=some ⟨223,[[.fn (.func 207) [] [.mptr u 0 0]]]⟩)(K:p.length<=100000):yp 218 [.agg t.d,.mptr u 0 0,.mptr ce 0 0] h n (λd h' g=>d = .tuple []/\kI 24 56 70 z a (CZ (lP p) t) h h' n g):=by
 refine oP func218 λo ff=>?_;unfold f218;have A:=hz.z;have I:=hz.r;have f:h n=none:=o _ (XW _);have m:=hz.fresh (b:=some ⟨53,[t.d]⟩) f;have L:v<n:=by rcases YK v n with q|q;exact q;rw[o v q]at I;cases I
 have M:z<n:=by rcases YK z n with q|q;exact q;rw[o z q]at A;cases A
 have N:u<n:=by rcases YK u n with q|q;exact q;rw[o u q]at J;cases J
 have O:ce<n:=by rcases YK ce n with q|q;exact q;rw[o ce q]at y;cases y
 have ff:=qI @A @I @J @y (nH n v) (nH n z) (nH u n) (nH ce n) ff;refine xa ?_;have G:=m.snap;have T:jr (upd h n (some ⟨53,[[.v (.string (bs t.name)),.i t.ty,.i t.life,.l (t.data.map Dat.d)]]⟩)) (.agg [.v (.string (bs a)),.mrow v 0 p.length]) = .agg [.v (.string (bs a)),.l ((lP p).map Sgd.d)]:=G.1;have ff:=qA @T ff;refine aa wS ?_ (hok:=oz (qB (CP ⟨a,lP p⟩ t.name t.ty o3w) G.2 (λrow j c U=>by obtain⟨x,E,rfl⟩:=Yp.1 j;exact(uC (m.data x E) 1).2 c U)));refine xp ?_ ?_ (hq:=rfl)<;>intro w
 .
  have F:bV (lP p) ⟨t.name,t.ty⟩=true:=by simpa using w
  have hi:=Qu F;refine ya 2 (hct:=by exact SB z v u (aV (lP p) ⟨t.name,t.ty⟩) a p _ _ m o3h K hi) (hk:=?_);rintro R Y r ⟨rfl,B⟩;refine yb ?_;exact bJ (_) (hh:=λ_=>.inl rfl) (hr:=oS (k:=o0o))
 have F:bV (lP p) ⟨t.name,t.ty⟩=false:=by simpa using w
 refine bM ?_;exact bJ (_) (hh:=λ_=>.inl rfl) (hr:=oS (k:=o0o))
def Zds(t:RSet)(v z T ce:Nat)(a:Str)(p:List PS)(h:H)(n:Nat)(hz:ZM 24 56 70 v z a p h)(J:h T=some ⟨209,[[.mptr v 0 0]]⟩)(u:h ce=some ⟨223,[[.fn (.func 207) [] [.mptr T 0 0]]]⟩)(hl:p.length<=100000)(aw : ∀x∈p,x.2.set.data.length<=100000)(bm:t.data.length<=100000):yp 214 [.agg t.d,.mptr T 0 0,.mptr ce 0 0] h n (λd h' g=>d = .tuple []/\kI 24 56 70 v a (zu (lP p) t) h h' n g):=by
 refine oP func214 λo ff=>?_;unfold f214;have V:=hz.z;have eU:=hz.r;have f:h n=none:=o _ (XW _);have A:=hz.fresh (b:=some ⟨53,[t.d]⟩) f;have bp:z<n:=by rcases YK z n with q|q;exact q;rw[o z q]at eU;cases eU
 have br:v<n:=by rcases YK v n with q|q;exact q;rw[o v q]at V;cases V
 have bw:T<n:=by rcases YK T n with q|q;exact q;rw[o T q]at J;cases J
 have bx:ce<n:=by rcases YK ce n with q|q;exact q;rw[o ce q]at u;cases u
 have ab:(v=n)=False:=YS om;have b7:(T=z)=False:=YS λe=>by rw[e,eU]at J;cases J
 have b8:(ce=z)=False:=YS λe=>by rw[e,eU]at u;cases u
 have ac:(v=z)=False:=YS hz.zr;have ff:=qE @V @eU @J @u (qI @b7 @b8 @ac (nH n z) (nH n v) (nH T n) (nH ce n) @ab ff);refine xa ?_;have am:=A.snap;have Ac:jr (upd h n (some ⟨53,[[.v (.string (bs t.name)),.i t.ty,.i t.life,.l (t.data.map Dat.d)]]⟩)) (.agg [.v (.string (bs a)),.mrow z 0 p.length]) = .agg [.v (.string (bs a)),.l ((lP p).map Sgd.d)]:=am.1;have ff:=qA @Ac ff;refine aa wS ?_ (hok:=oz (qB (CP ⟨a,lP p⟩ t.name t.ty o3w) am.2 (λrow j c hc=>by obtain⟨x,E,rfl⟩:=Yp.1 j;exact(uC (A.data x E) 1).2 c hc)));refine xr ?_ ?_ (hq:=rfl)<;>intro w
 .
  have F:bV (lP p) ⟨t.name,t.ty⟩=false:=by simpa using w
  exact oN (bJ (_) (hh:=λ_=>.inl rfl) (hr:=oS (k:=o0a)))
 have F:bV (lP p) ⟨t.name,t.ty⟩=true:=by simpa using w
 have hi:=Qu F;obtain⟨K,m⟩:∃K,K=aV (lP p) ⟨t.name,t.ty⟩:=⟨_,rfl⟩;rw[<-m]at hi;have Im:=m.symm;have j:(p.map rowP).getD K []=[.v (.string (bs p[K]!.2.set.name)),.i p[K]!.2.set.ty,.i p[K]!.2.set.life,.mrow p[K]!.1 0 p[K]!.2.set.data.length,.e]:=N9 hi;have Z:((p.map rowP).set K [.v (.string (bs p[K]!.2.set.name)),.i p[K]!.2.set.ty,.i p[K]!.2.set.life,.mrow p[K]!.1 0 (p[K]!.2.set.data.filter λx=>!eB t.data x).length,.e]).getD K []=[.v (.string (bs p[K]!.2.set.name)),.i p[K]!.2.set.ty,.i p[K]!.2.set.life,.mrow p[K]!.1 0 (p[K]!.2.set.data.filter λx=>!eB t.data x).length,.e]:=Zho (by simpa using hi);have M:=hz.d p[K]! (lw hi);have U:=hz.ne p[K]! (lw hi);have ca:=aw p[K]! (lw hi);have cb:p[K]!.1<n:=by rcases YK p[K]!.1 n with q|q;exact q;rw[o _ q]at M;cases M
 have aq:(p[K]!.1=z)=False:=YS U.2;have b9:(z=p[K]!.1)=False:=YS (λe=>U.2 e.symm);have bb:(p[K]!.1=v)=False:=YS U.1;have ar:(v=p[K]!.1)=False:=YS (λe=>U.1 e.symm);have be:(T=p[K]!.1)=False:=YS λe=>by rw[e,M]at J;cases J
 have FL:(ce=p[K]!.1)=False:=YS λe=>by rw[e,M]at u;cases u
 have bh:(p.map rowP).length=p.length:=by simp
 have hz3:ZM 24 56 70 v z a (p.set K (p[K]!.1,p[K]!.2.withD (p[K]!.2.set.data.filter λx=>!eB t.data x))) (upd (upd (upd (upd h n (some ⟨53,[t.d]⟩)) n none) p[K]!.1 (some ⟨70,(p[K]!.2.set.data.filter λx=>!eB t.data x).map Dat.d⟩)) z (some ⟨56,(p.map rowP).set K [.v (.string (bs p[K]!.2.set.name)),.i p[K]!.2.set.ty,.i p[K]!.2.set.life,.mrow p[K]!.1 0 (p[K]!.2.set.data.filter λx=>!eB t.data x).length,.e]⟩)):=hz.setD hi (p[K]!.2.set.data.filter λx=>!eB t.data x) (by simp only[upd,ac,ar,ab,Y8]) (bI _ _ _) (by simp only[upd,aq,Y8,Zm]) (λx E N=>by have B:=(hz.ne x E).2;have W:x.1≠n:=(λe=>by have:=hz.d x E;rw[e,f]at this;cases this);simp only[upd,XV B,XV N,XV W]);have ff:=qE @Im @j @Z @M (qI @bh (nH n (p[K]!.1)) @aq @b9 @bb @ar @be @FL ff);refine xa ?_;refine sO 3 n ev ev o3o ?_;refine aj (ya 6 (hct:=by exact ZdV p[K]!.2.set.data t _ _ _ _ rfl om om o3h) (hk:=?_));rintro R Y r ⟨rfl,rfl,a1⟩;try dsimp only at a1
 refine yb ?_;refine xi ?_ ?_<;>intro I
 . refine ya 2 (hct:=by exact SB v z T K a _ _ _ hz3 o3h (by simpa using hl) (by simpa using hi)) (hk:=?_);rintro R Y r ⟨rfl,X⟩;refine yb ?_;exact bJ (_) (hh:=λ_=>.inl rfl) (hr:=oS (k:=o0a))
 refine bM ?_;exact bJ (_) (hh:=λ_=>.inl rfl) (hr:=oS (k:=o0a))
def ZdI(z:Nat)(h:H)(n:Nat)(a:z<n):yp 137 [.mptr z 0 0] h n (λd h' g=>d = .agg [.v .nilFunc,.fn (.func 209) [] [.mptr n 0 0],.fn (.func 214) [] [.mptr n 0 0,.mptr (n+3) 0 0],.fn (.func 218) [] [.mptr n 0 0,.mptr (n+3) 0 0],.fn (.func 219) [] [.mptr n 0 0]]/\h' n=some ⟨209,[[.mptr z 0 0]]⟩/\h' (n+3)=some ⟨223,[[.fn (.func 207) [] [.mptr n 0 0]]]⟩/\(∀q,q<n->h' q=h q)/\n+3<g):=by refine oP func137 λo ff=>?_;unfold f137;refine oD De ?_;exact oN (bJ (_) (hh:=λ_=>.inl rfl) (hr:=oS (k:=by refine⟨λq K=>?_,om⟩;simp only[upd];(repeat rw[XV (by omega)]))))
def ZaQ{p:List PS}(q:Qst):aV (lP p) q<=p.length:=by have h:aV (lP p) q<=(lP p).length:=(Rh _ _ 0 (lP p).length (XW _) (Yh _)).1;rw[uf]at h;exact h
def Zd8(t:RSet)(f z m:Nat)(a:Str)(p:List PS)(h:H)(n:Nat)(hz:ZM 24 56 70 f z a p h)(J:h m=some ⟨209,[[.mptr f 0 0]]⟩)(hl:p.length<=90000)(b7 : ∀x∈p,x.2.set.data.length<=1000)(b8 : ∀x∈p,j5 eD x.2.set.data)(b9:j5 eD t.data)(bb:0<t.data.length)(co:t.data.length<=1000):yp 209 [.agg t.d,.mptr m 0 0] h n (λd h' g=>d = .tuple []/\kI 24 56 70 f a (EG (lP p) t) h h' n g):=by
 refine oP func209 λo ff=>?_;unfold f209;have L:=hz.z;have T:=hz.r;have be:h n=none:=o _ (XW _);have ac:=hz.fresh (b:=some ⟨53,[t.d]⟩) be;have cp:z<n:=by rcases YK z n with q|q;exact q;rw[o z q]at T;cases T
 have cq:f<n:=by rcases YK f n with q|q;exact q;rw[o f q]at L;cases L
 have cr:m<n:=by rcases YK m n with q|q;exact q;rw[o m q]at J;cases J
 have bh:(m=z)=False:=YS λe=>by rw[e,T]at J;cases J
 have bm:(m=f)=False:=YS λe=>by rw[e,L]at J;cases J
 have bp:(f=z)=False:=YS hz.zr;have br:(z=f)=False:=YS λe=>hz.zr e.symm;have bw:(z=m)=False:=YS λe=>by rw[<-e,T]at J;cases J
 have bx:(f=m)=False:=YS λe=>by rw[<-e,L]at J;cases J
 have cw:m≠z:=λe=>by rw[e,T]at J;cases J
 have cA:f≠z:=hz.zr;have cC:m≠f:=λe=>by rw[e,L]at J;cases J
 have u : ∀x∈p,x.1<n:=λx E=>by have:=hz.d x E;rcases YK x.1 n with q|q;exact q;rw[o x.1 q]at this;cases this
 have ff:=qE @L @T @J @bh (qI @bm @bp @br @bw @bx (nH n z) (nH n f) (nH m n) ff);refine xa ?_;have am:=ac.snap;have Ac:jr (upd h n (some ⟨53,[[.v (.string (bs t.name)),.i t.ty,.i t.life,.l (t.data.map Dat.d)]]⟩)) (.agg [.v (.string (bs a)),.mrow z 0 p.length]) = .agg [.v (.string (bs a)),.l ((lP p).map Sgd.d)]:=am.1;have ff:=qA @Ac ff;refine aa wS ?_ (hok:=oz (qB (CP ⟨a,lP p⟩ t.name t.ty o3w) am.2 (λrow j c hc=>by obtain⟨x,E,rfl⟩:=Yp.1 j;exact(uC (ac.data x E) 1).2 c hc)));refine aj (ya 2 (hct:=by exact SC t.data bb om _ _) (hk:=?_));rintro R Y F ⟨v,rfl,rfl,N,b1⟩;try dsimp only at N b1
 have ff:=qG @N @b1 (nH n v) (nH v z) (nH v f) (nH m v) ff;refine yb ?_;refine xr ?_ ?_ (hq:=rfl)<;>intro c1
 .
  have hf:bV (lP p) ⟨t.name,t.ty⟩=false:=by simpa using c1
  have ff:=qF (nH n (F+15)) (nH (F+15) z) (nH (F+15) f) (nH m (F+15)) (nH (F+15) v) ff;refine aj ?_;refine dr1 zf 9 10 [(0,1)] (hct:=by exact ZlH (p.map rowP) [.v (.string (bs t.name)),.i t.ty,.i t.life,.mrow v 0 t.data.length,.e] (aV (lP p) ⟨t.name,t.ty⟩) p.length _ _ z (F+15) (by simp) (by simpa using ZaQ _) (by simp;omega) o3h o3h om rfl Zcy) (hkeep:=?_) (hk:=?_)
  .
   rintro R A n3 ⟨r2,rfl,y,O,Z,e4⟩ q X r aq;try dsimp only at O Z e4
   simp only[Yk]at X;subst X;simp only[go_sem,ff,sd,named,YF]at aq ⊢;subst aq;rw[Z m (by omega) (by omega)];try simp only[go_sem,ff]
  rintro R A n3 ⟨r2,rfl,y,O,Z,e4⟩;try dsimp only at O Z e4
  simp only[YX]at y O Z e4 ⊢;have e5:A f=some ⟨24,[[.v (.string (bs a)),.mrow z 0 p.length]]⟩:=by rw[Z f (by omega) (by omega)];simp only[go_sem,ff]
  have ff:=qA e5 ff;refine aN zf ?_;try simp only[aH]
  refine jb ?_;refine bJ (_) (hh:=λ_=>.inl rfl) (hr:=?_);try simp only[go_sem,ff]
  rw[ZpT hf];have X : ∀q,q≠z->q<n->A q=h q:=λq B W=>by rw[Z q B (by omega)];simp only[upd];repeat rw[XV (by omega)]
  have ab:r2≠f:=by rcases O with e|e;rw[e];exact λe=>hz.zr e.symm;omega
  have ar:r2≠v:=by rcases O with e|e;rw[e];omega;omega
  refine⟨r2,_,hz.insP (rs':=r2) (i:=(aV (lP p) ⟨t.name,t.ty⟩)) (ZaQ _) (r:=v) (s:=t) (by simp[upd]) ?_ ?_ (λx E e=>by have:=u x E;omega) ⟨om,λe=>ar e.symm⟩ (λe=>ab e.symm) (λx E e=>by rcases O with k|k;rw[k]at e;exact(hz.ne x E).2 e;have:=u x E;omega) (λx E=>by simp only[upd];rw[if_neg (hz.ne x E).1,X _ (hz.ne x E).2 (u x E)]),ZkL,λq b G k2 k3 k4=>?_,by first|omega|(dsimp only;omega)⟩
  . simp only[upd];rw[XV ab,y];rfl
  . simp only[upd];rw[XV (by omega),Z v (by omega) (by omega)];simp only[upd];repeat (first|rfl|rw[XV (by omega)]|rw[X0 rfl])
  have B:q≠z:=(λe=>k2 o3c);have W:q<n:=o1Q;simp only[upd];rw[XV k4,X q B W];exact G
 have hf:bV (lP p) ⟨t.name,t.ty⟩=true:=by simpa using c1
 have hi:=Qu hf;obtain⟨K,U⟩:∃K,K=aV (lP p) ⟨t.name,t.ty⟩:=⟨_,rfl⟩;rw[<-U]at hi;have Im:=U.symm;have j:(p.map rowP).getD K []=[.v (.string (bs p[K]!.2.set.name)),.i p[K]!.2.set.ty,.i p[K]!.2.set.life,.mrow p[K]!.1 0 p[K]!.2.set.data.length,.e]:=N9 hi;have ca:=hz.d p[K]! (lw hi);have V:=hz.ne p[K]! (lw hi);have cD:=b7 p[K]! (lw hi);have cE:=u p[K]! (lw hi);have cb:(p.map rowP).length=p.length:=by simp
 have cg:(p[K]!.1=z)=False:=YS (by exact V.2);have ch:(p[K]!.1=f)=False:=YS (by exact V.1);have ci:(z=p[K]!.1)=False:=YS (by exact λe=>V.2 e.symm);have cj:(f=p[K]!.1)=False:=YS (by exact λe=>V.1 e.symm);have ff:=qB @Im @j (qI @ca @cb (nH n (p[K]!.1)) (nH (p[K]!.1) v) @cg @ch @ci @cj ff);refine xf ?_ ?_<;>intro I
 .
  have ff:=qF (nH n (F+26)) (nH (F+26) z) (nH (F+26) f) (nH m (F+26)) (nH (F+26) v) ff;refine aj ?_;refine Ck De 11 ?_;refine Zaw De 11 (r:=v) (n:=t.data.length) (rows:=t.data.map Dat.d) (news:=p[K]!.2.set.data.map Dat.d) o3m (hrl:=by intro q X;obtain⟨x,_,rfl⟩:=List.mem_map.1 X;rfl) (hby:=by rw[show(prog).bytesOf 70=32 from rfl,List.length_map];omega) (h63:=by rw[List.length_map];omega) ?_;refine xF ?_;try simp only[aH]
  obtain⟨M,cl⟩:∃q,q=F+26:=⟨_,rfl⟩;simp only[<-cl];have ff:=qG (nH n M) (nH M z) (nH M f) (nH m M) (nH v M) (nH (p[K]!.1) M) ff;refine aj (ya 2 (hct:=by exact Zdt (t.data++p[K]!.2.set.data) _ _ _ M (by rw[X3]) (by rw[X3];omega) (by simp only[go_sem,ff,Yv])) (hk:=?_));rintro R Y F ⟨rfl,rfl,l9,aw,cm,rfl⟩;have uV:=aw.length_eq;rw[X3]at uV;refine yb ?_;refine ya 2 (hct:=by exact ZdY l9 _ _ _ M om om o3h) (hk:=?_);rintro R Y F ⟨rfl,rfl,a8⟩;try dsimp only at a8
  refine yb ?_;refine Ck De 8 ?_;refine xF ?_;try simp only[aH]
  refine bJ (_) (hh:=λ_=>.inl rfl) (hr:=?_);try simp only[go_sem,ff]
  rw[<-ZcC (d:=sQ l9) hf U hi (by unfold MW;rw[if_pos (by grind)];exact Zno (b8 _ (lw hi)) b9 aw cm) M];refine⟨z,_,hz.setP hi (r:=M) (s:={ t with data:=sQ l9 }) ?_ ?_ ?_ (λx E e=>by have:=u x E;omega) ⟨om,om⟩ (λx E=>?_),rfl,λq b G k2 k3 k4=>?_,by first|omega|(dsimp only;omega)⟩
  . simp only[upd];repeat (first|rfl|rw[XV (by omega)]|rw[XV hz.zr])
  . simp only[upd,Zm];rfl
  . simp only[upd];repeat (first|rfl|rw[XV (by omega)]|rw[X0 rfl])
  . have B:=hz.ne x E;have W:=u x E;simp only[upd];repeat (first|rfl|rw[XV B.2]|rw[XV (by omega)])
  have B:q≠z:=(λe=>k2 o3c);have W:q<n:=o1Q;simp only[upd];repeat (first|exact G|rw[XV B]|rw[XV (by omega)])
 refine Ck De 8 ?_;refine xF ?_;try simp only[aH]
 refine bJ (_) (hh:=λ_=>.inl rfl) (hr:=?_);try simp only[go_sem,ff]
 rw[<-ZcC (d:=t.data) hf U hi (by unfold MW;rw[if_neg (by grind)]) v];refine⟨z,_,hz.setP hi (r:=v) (s:={ t with data:=t.data }) ?_ ?_ ?_ (λx E e=>by have:=u x E;omega) ⟨om,om⟩ (λx E=>?_),rfl,λq b G k2 k3 k4=>?_,by first|omega|(dsimp only;omega)⟩
 . simp only[upd];repeat (first|rfl|rw[XV (by omega)]|rw[XV hz.zr])
 . simp only[upd,Zm];rfl
 . simp only[upd];repeat (first|rfl|rw[XV (by omega)]|rw[X0 rfl])
 . have B:=hz.ne x E;have W:=u x E;simp only[upd];repeat (first|rfl|rw[XV B.2]|rw[XV (by omega)])
 have B:q≠z:=(λe=>k2 o3c);have W:q<n:=o1Q;simp only[upd];repeat (first|exact G|rw[XV B]|rw[XV (by omega)])
def Zch:fE prog 135=true:=by kernel_rfl
theorem Zd4(a ce:Nat)(h:H)(n:Nat):AP prog 135 [.mptr a 0 0,.mptr ce 0 0] h n .returning .returning (λI c=>(∀q,q<n->I q=h q)/\n<=c):=by
 refine Ey (d:=.v .nilIface) (v:=.nilIface) func135 rfl Zch (by simp[f135]) (dP rfl) rfl rfl (by decide) (.inl ⟨rfl,rfl,rfl⟩) (λ_ _=>.v _) (λo=>?_);have ff:=True.intro;refine Uw (C:=De) 1 (.agg #[.int .i64 0]) (d:=.v .nilIface) (r:=.tuple [.agg [.i 0],.b false]) (v:=.nilIface) om (dP rfl) rfl rfl (by kernel_rfl) (by kernel_rfl) o1c trivial (by rfl) o3h (λw g q K=>by cases K;rfl) (.inl ⟨rfl,λw g=>?_⟩) ?_
 .
  exact .tuple _ _ rfl (λi d x J Y=>by
   match i with
   | 0=>cases J;cases Y;exact .agg _ _ rfl (λi d x J Y=>by
     match i with
     | 0=>cases J;cases Y;exact .v _
     | i+1=>simp at J)
   | 1=>cases J;cases Y;exact .v _
   | i+2=>simp at J)
 refine xF ?_;try simp only[aH]
 refine xi ?_ ?_<;>intro f
 . simp at f
 refine bM ?_;refine⟨(by trivial),h,_,?_,Nat.le_refl _,λq K=>rfl,by dsimp only;omega⟩;intro r;dsimp only;by_cases e:r<n
 . left;simp only[upd];repeat (first|rfl|rw[XV (by omega)])
 right;exact o r om
theorem SF(a ce:Nat)(h:H)(n:Nat)(a0 u z:D)(hz:h a=some ⟨24,[[a0,u]]⟩)(A:h ce=some ⟨39,[[z]]⟩)(k:Int)(N:a≠ce)(F:a<n)(G:ce<n):AP prog 135 [.mptr a 0 0,.mptr ce 0 0] h n (.panicking [{ v:=.iface 204 (.agg #[.int .i64 k]),recovered:=false }]) (.panicking [{ v:=.iface 204 (.agg #[.int .i64 k]),recovered:=true }]) (λI L=>I a=some ⟨24,[[.v (.string (bs [])),.e]]⟩/\I ce=some ⟨39,[[.i k]]⟩/\n<=L /\ ∀q,q<n->q≠a->q≠ce->I q=h q):=by
 have c : ∀(w:World)(g:Mem),ae w g (.agg [.i k]) (.agg #[.int .i64 k]):=λw g=>.agg _ _ rfl (λi d x J Y=>by
  match i with
  | 0=>cases J;cases Y;exact .v _
  | i+1=>simp at J)
 refine Ey (d:=.iface 204 (.agg [.i k])) (v:=.iface 204 (.agg #[.int .i64 k])) func135 rfl Zch (by simp[f135]) (dP rfl) rfl rfl (by decide) (.inr ⟨rfl,rfl⟩) (λw g=>.iface _ _ _ (c w g)) (λo=>?_);have m : ∀k,(a=n+k)=False:=λk=>YS om;have p : ∀k,(ce=n+k)=False:=λk=>YS om;have M : ∀k,(n+k=a)=False:=λk=>YS om;have O : ∀k,(n+k=ce)=False:=λk=>YS om;have R:(a=ce)=False:=YS N;have t:(ce=a)=False:=YS λe=>N e.symm;have ff:=qH hz A m p M O R t;refine Uw (C:=De) 1 (.agg #[.int .i64 0]) (d:=.iface 204 (.agg [.i k])) (r:=.tuple [.agg [.i k],.b true]) (v:=.iface 204 (.agg #[.int .i64 k])) om (dP rfl) rfl rfl (by kernel_rfl) (by kernel_rfl) o1c trivial (by rfl) o3h (λw g q K=>?_) (.inr ⟨_,rfl,λw g=>?_⟩) ?_
 .
  cases K with|iface _ _ x E =>
  cases E with|agg _ j f Y =>
  let⟨j⟩:=j
  match j,f with
  | [y],_ =>
   have:=Y 0 (.i k) y rfl rfl;cases this;rfl
 .
  exact .tuple _ _ rfl (λi d x J Y=>by
   match i with
   | 0=>cases J;cases Y;exact c w g
   | 1=>cases J;cases Y;exact .v _
   | i+2=>simp at J)
 refine xF ?_;try simp only[aH]
 refine xi ?_ ?_<;>intro T
 .
  refine rgnP De [⟨2,3⟩] ?_;refine⟨(by trivial),_,_,λ_=>.inl rfl,Nat.le_refl _,?_,?_,by dsimp only;omega,λq B W U=>?_⟩
  . dsimp only;simp only[upd];repeat (first|rfl|rw[if_neg (by omega)]|rw[if_pos rfl])
  . dsimp only;simp only[upd];repeat (first|rfl|rw[if_neg (by omega)]|rw[if_pos rfl])
  dsimp only;simp only[upd];repeat (first|rfl|rw[if_neg W]|rw[if_neg U]|rw[if_neg (by omega)])
 simp at T
def ZdJ{y:Zon}{c:Chg}(t:dX y)(j:gp c=true)(z v m u:Nat)(a:Str)(p:List PS)(r:lP p=y.sets)(F:p.length<=90000)(w : ∀x∈p,x.2.set.data.length<=8/\j5 eD x.2.set.data) :
  ∃f B Z,([.v .nilFunc,.fn (.func 209) [] [.mptr m 0 0],.fn (.func 214) [] [.mptr m 0 0,.mptr u 0 0],.fn (.func 218) [] [.mptr m 0 0,.mptr u 0 0],.fn (.func 219) [] [.mptr m 0 0]]:List D).drop c.kind.toNat = .fn (.func f) [] B::Z /\ ∀h n,ZM 24 56 70 z v a p h->h m=some ⟨209,[[.mptr z 0 0]]⟩->h u=some ⟨223,[[.fn (.func 207) [] [.mptr m 0 0]]]⟩->yp f ([]++[.agg c.set.d]++B) h n (λd h' g=>d = .tuple []/\kI 24 56 70 z a (kT y.sets c) h h' n g):=by
 rcases Zb1 j with k|k|k|k
 . have o:=Q7 j (.inl k);refine⟨209,[.mptr m 0 0],_,by rw[k];rfl,λh n J Y A=>?_⟩;have q:=Zd8 c.set z v m a p h n J Y F (λx E=>by have:=(w x E).1;omega) (λx E=>(w x E).2) o.1.sorted (by have:=o.1.len;omega) (by have:=o.1.len;omega);rwa [r,ZpU t.zo (EC j) k]at q
 . have o:=Q7 j (.inr k);refine⟨214,[.mptr m 0 0,.mptr u 0 0],_,by rw[k];rfl,λh n J Y A=>?_⟩;have q:=Zds c.set z v m u a p h n J Y A (by omega) (λx E=>by have:=(w x E).1;omega) (by have:=o.1.len;omega);rwa [r,Zez t.zo (EC j) k]at q
 . refine⟨218,[.mptr m 0 0,.mptr u 0 0],_,by rw[k];rfl,λh n J Y A=>?_⟩;have q:=Zdu c.set z v m u a p h n J Y A (by omega);rwa [r,Zgd t.zo (EC j) k]at q
 refine⟨219,[.mptr m 0 0],_,by rw[k];rfl,λh n J Y A=>?_⟩;have q:=ZdG c.set z v m a p h n J Y (by omega);rwa [ZkM (q:=λx=>!dZ c.set.name x),r,ZjL k]at q
def bo64:fE prog 64=true:=by kernel_rfl
theorem SE(z:Zon)(l:List Chg)(h:H)(n:Nat)(hz:dX z)(bx : ∀c∈l,gp c=true)(cF:l.length<=1000):yp 64 [.agg z.d,.l (l.map Chg.d)] h n (λd h' n'=>((Aw z l=none/\d = .tuple [.agg [.v (.string (bs [])),.e],.i 6]) \/ ∃y zc m p,Aw z l=some y/\d = .tuple [.agg [.v (.string (bs z.apex)),.mrow m 0 p.length],.i 0]/\ZM 24 56 70 zc m z.apex p h'/\lP p=y.sets/\zc<n'/\m<n' /\ ∀x∈p,x.1<n') /\ ∀q b,q<n->h q=some b->b.ty≠56->b.ty≠70->h' q=some b):=by
 have ff:=True.intro;refine Ky (C:=De) 1 func64 rfl bo64 (by simp[f64]) (by intro o ho;simp only[Yl,Y2,or_false]at ho;rcases ho with rfl|rfl|rfl<;>rfl) ev o2b (dP rfl) rfl rfl (by intro o ho;simp only[X5,Yf,Yl,Y2,or_false]at ho;rcases ho with rfl<;>rfl) o2q o2b o1w ev (λca=>?_);unfold f64;refine xF ?_;try simp only[aH]
 have cA:=hz.zo.len;have ff:=qD (nH n (n+1)) (nH n (n+2)) (nH (n+1) (n+2)) ff;refine aj (ya 1 (hct:=by exact Zd0 z om (λs N=>by have:=(hz.zo.ok s N).len;omega) _ _) (hk:=?_));rintro R Y r ⟨L,p0,rfl,d1,d2,d3,d4,d5,d6,d7,d8⟩;try dsimp only at d5 d6 d7 d8
 have e1:Y n=some ⟨24,[z.d]⟩:=by rw[d8 _ (by omega)];simp only[go_sem,ff]
 have O:Y (n+1)=some ⟨24,[[.v (.string (bs [])),.e]]⟩:=by rw[d8 _ (by omega)];simp only[go_sem,ff]
 have e3:Y (n+2)=some ⟨39,[[.i 0]]⟩:=by rw[d8 _ (by omega)];simp only[go_sem,ff]
 have ff:=qD @e1 @O @e3 ff;refine yb ?_;refine aj (ya 0 (hct:=by exact ZdI (n+1) _ _ o3m) (hk:=?_));rintro R hb nb ⟨rfl,g1,g2,g3,g4⟩;try dsimp only at g1 g2 g3 g4
 refine yb ?_;refine xj ?_;refine Zm7 λu Ee=>?_;dsimp only at Ee;obtain⟨A,cb⟩:∃q,q=r+3:=⟨_,rfl⟩;obtain⟨G,cg⟩:∃q,q=r+6:=⟨_,rfl⟩;obtain⟨qa,b9⟩:∃q,q=nb+1:=⟨_,rfl⟩;simp only[Nat.add_assoc,Nat.reduceAdd]at Ee g1 g2;simp only[<-cb,<-cg,<-b9]at Ee g1 g2;simp only[<-b9];have w0 : ∀q,q<r+3->u q=upd Y (n+1) (some ⟨24,[[.v (.string (bs z.apex)),.mrow L 0 p0.length]]⟩) q:=λq K=>by rw[Ee];simp only[upd];rw[XV (by omega),XV (by omega)];have:=g3 q (by omega);simpa[upd]using this
 have i0:u n=some ⟨24,[z.d]⟩:=by rw[w0 n (by omega)];simp only[upd];rw[XV (by omega)];exact e1
 have i1:u (n+1)=some ⟨24,[[.v (.string (bs z.apex)),.mrow L 0 p0.length]]⟩:=by rw[w0 (n+1) (by omega)];simp only[upd,Zm]
 have i2:u (n+2)=some ⟨39,[[.i 0]]⟩:=by rw[w0 (n+2) (by omega)];simp only[upd];rw[XV (by omega)];exact e3
 have ic:u A=some ⟨209,[[.mptr (n+1) 0 0]]⟩:=by rw[Ee];simp only[upd];rw[XV (by omega),XV (by omega)];exact g1
 have ch:u G=some ⟨223,[[.fn (.func 207) [] [.mptr A 0 0]]]⟩:=by rw[Ee];simp only[upd];rw[XV (by omega),XV (by omega)];exact g2
 have ia:u qa=some ⟨207,[[.v .nilFunc,.fn (.func 209) [] [.mptr A 0 0],.fn (.func 214) [] [.mptr A 0 0,.mptr G 0 0],.fn (.func 218) [] [.mptr A 0 0,.mptr G 0 0],.fn (.func 219) [] [.mptr A 0 0]]]⟩:=by rw[Ee];simp only[upd,Zm]
 have ci:ZM 24 56 70 (n+1) L z.apex p0 u:=⟨i1,by rw[w0 L (by omega)];simp only[upd];rw[XV (by omega)];exact d2,λx E=>by have:=d5 x E;rw[w0 x.1 (by omega)];simp only[upd];rw[XV (by omega)];exact d3 x E,om,λx E=>by have:=d5 x E;exact⟨om,this.1⟩,d4,λx E=>by have V:x.2∈lP p0:=Yp.2 ⟨x,E,rfl⟩;rw[d1]at V;let⟨s9,_,e9⟩:=Yp.1 V;rw[<-e9];rfl⟩;have cj:lP p0=z.sets:=by rw[d1,Zpm hz]
 have cl : ∀q b,q<n->h q=some b->b.ty≠56->b.ty≠70->u q=some b:=λq b B W _ _=>by rw[w0 q (by omega)];simp only[upd];rw[XV (by omega),d8 q (by omega)];simp only[upd];repeat (first|exact W|rw[XV (by omega)])
 refine iF (Nat×Zon×Nat×(List PS)×H×Nat) [2,4,5,13,14] (λ⟨k,y,m,p,K,Z⟩=>(k<=l.length/\u7 z l k=some y/\dX y/\y.apex=z.apex/\ZM 24 56 70 (n+1) m z.apex p K/\lP p=y.sets/\K n=some ⟨24,[z.d]⟩/\K (n+2)=some ⟨39,[[.i 0]]⟩/\K A=some ⟨209,[[.mptr (n+1) 0 0]]⟩/\K G=some ⟨223,[[.fn (.func 207) [] [.mptr A 0 0]]]⟩/\K qa=some ⟨207,[[.v .nilFunc,.fn (.func 209) [] [.mptr A 0 0],.fn (.func 214) [] [.mptr A 0 0,.mptr G 0 0],.fn (.func 218) [] [.mptr A 0 0,.mptr G 0 0],.fn (.func 219) [] [.mptr A 0 0]]]⟩/\(∀q b,q<n->h q=some b->b.ty≠56->b.ty≠70->K q=some b)/\(n+2<Z/\A<Z/\G<Z/\qa<Z),l.length-k,[(6,.mptr qa 0 0),(15,.i k)],K,Z)) (0,z,L,p0,u,_) ?_ (hA:=⟨iv,rfl,hz,rfl,ci,cj,i0,i2,ic,ch,ia,cl,oW⟩);rintro⟨k,y,m,p,K,Z⟩ ⟨X,N,F,FR,vR,aq,b0,b2,bc,bd,ba,aw,cG⟩;simp only[XX,XZ];refine Zm3 λbb=>?_;dsimp only at bb;have M:=vR.lt bb;have eU:=vR.r;have ab:=vR.z;have cC:p.length=y.sets.length:=by rw[<-aq,uf]
 have cD:=F.zo.len;have cH:=vR.zr;have cI:m≠n:=λe=>by rw[e,b0]at eU;cases eU
 have cm:m≠n+2:=λe=>by rw[e,b2]at eU;cases eU
 have cJ:m≠A:=λe=>by rw[e,bc]at eU;cases eU
 have cL:m≠G:=λe=>by rw[e,bd]at eU;cases eU
 have cM:m≠qa:=λe=>by rw[e,ba]at eU;cases eU
 have cN:A≠n+1:=λe=>by rw[e,ab]at bc;cases bc
 have cP:G≠n+1:=λe=>by rw[e,ab]at bd;cases bd
 have cQ:qa≠n+1:=λe=>by rw[e,ab]at ba;cases ba
 have Ih : ∀x∈p,x.2.set.data.length<=8/\j5 eD x.2.set.data:=λx E=>by have V:x.2∈y.sets:=(by rw[<-aq];exact Yp.2 ⟨x,E,rfl⟩);have T:=F.zo.ok _ V;exact⟨T.len.2,T.sorted⟩
 have ff:=qE @b0 @b2 @bc @bd (qI @ba @eU @ab (nH n (Z+3)) (nH (n+1) (Z+3)) (nH (n+2) (Z+3)) (nH (Z+3) A) (nH (Z+3) G) (qI (nH (Z+3) qa) (nH (Z+3) m) (nH n m) (nH (n+1) m) (nH (n+2) m) (nH A m) (nH G m) (nH qa m) ff));refine xo ?_ ?_ (hq:=rfl)<;>intro c1
 .
  have U:k<l.length:=by simpa using c1
  have j:gp l[k]! = true:=bx _ (jh.2 ⟨k,U,rfl⟩);have ff:=qA (FX U) ff;refine wB ?_;refine xa ?_;refine xf ?_ ?_<;>intro I
  .
   refine tF ?_;refine Uu (C:=De) 1 om (dP rfl) rfl rfl (by kernel_rfl) o1c o2b (by rfl) ev ?_;refine FV De 2 (d:=.iface 204 (.agg [.i 6])) (t:=204) (v:=.agg #[.int .i64 6]) ?_ (λw g q b7=>?_)
   . have PG:=Jk (by rw[Jj N];exact Tk F j (.inl (by rw[FR];grind))) l.length (by omega);refine⟨_,_,_,rfl,rfl,SF (n+1) (n+2) _ _ _ _ (.i 0) ev o3h 6 om o3m o3m,λJ n1⟨w1,w2,w3,w4⟩=>?_⟩;have ff:=qB w1 w2 ff;exact⟨by simp only[go_sem,ff],J,n1,λ_=>.inl rfl,Nat.le_refl _,.inl ⟨PG,by simp only[go_sem,ff]⟩,λq b B W q3 a=>by rw[w4 q o3m (by omega) (by omega)];simp only[upd];repeat (first|exact aw q b B W q3 a|rw[if_neg (by omega)])⟩
   cases b7 with|iface _ _ x E =>
   cases E with|agg _ vs Af Ak =>
   let⟨vs⟩:=vs
   match vs,Af with
   | [y9],_ =>
    have:=Ak 0 (.i 6) y9 rfl rfl;cases this;rfl
  have I : ¬(l[k]!.kind=4/\l[k]!.set.name=y.apex):=by rw[FR];grind
  let⟨f9,cR,cS,be,bh⟩:=ZdJ F j (n+1) m A G z.apex p aq om Ih;have cE:=Zb1 j;rw[<-Nat.mul_one l[k]!.kind.toNat]at be;have ff:=qA @be ff;refine aj ?_;refine dr1 De 6 7 [] (hct:=by exact bh _ _ (vR.keep (λq Ie=>by have co:q<Z:=(by rcases Ie with rfl|rfl|⟨x,E,rfl⟩;omega;exact M.2.1;exact M.2.2 x E);simp only[upd];repeat (first|rfl|rw[XV (by omega)]))) o3h o3h) (hkeep:=?_) (hk:=?_)
  . intro R Y r _ q K;cases K
  rintro R Y r ⟨rfl,bm⟩;try dsimp only at bm
  let⟨bp,p2,ac,b8,f,cU⟩:=bm;have g0:=f n _ ev o3k o3k (by omega);have g2:=f (n+2) _ ev o3k o3k (by omega);have gc:=f A _ ev o3k o3k (by omega);have gd:=f G _ ev o3k o3k (by omega);have ga:=f qa _ ev o3k o3k (by omega);have gt:=f (Z+3) _ ev o3k o3k (by omega);have ar : ∀q b,q<n->h q=some b->b.ty≠56->b.ty≠70->Y q=some b:=λq b B W q3 a=>f q b (by simp only[upd];repeat (first|exact aw q b B W q3 a|rw[XV (by omega)])) q3 a (by omega);have gz:=ac.z;have gr:=ac.r;have ff:=qH g0 g2 gc gd ga gz gr ff;refine xF ?_;try simp only[aH]
  have br:=ac.snap;have Ac:jr Y (.agg [.v (.string (bs z.apex)),.mrow bp 0 p2.length]) = .agg [.v (.string (bs z.apex)),.l ((lP p2).map Sgd.d)]:=br.1;have ff:=qA @Ac ff;refine wE wS (λc3=>?_) (λc3=>?_) (hok:=oz (qB (vw ⟨z.apex,lP p2⟩) br.2 (λrow bw c j=>by obtain⟨x,E,rfl⟩:=Yp.1 bw;exact(uC (ac.data x E) 1).2 c j)))
  .
   refine tF ?_;refine Uu (C:=De) 1 om (dP rfl) rfl rfl (by kernel_rfl) o1c o2b (by rfl) ev ?_;refine FV De 2 (d:=.iface 204 (.agg [.i 6])) (t:=204) (v:=.agg #[.int .i64 6]) ?_ (λw g q b7=>?_)
   . have PG:=Jk (by rw[Jj N];exact Tk F j (.inr (by rw[<-b8,FR];exact c3))) l.length (by omega);refine⟨_,_,_,rfl,rfl,SF (n+1) (n+2) _ _ _ _ (.i 0) ev o3h 6 om o3m o3m,λJ n1⟨w1,w2,w3,w4⟩=>?_⟩;have ff:=qB w1 w2 ff;exact⟨by simp only[go_sem,ff],J,n1,λ_=>.inl rfl,Nat.le_refl _,.inl ⟨PG,by simp only[go_sem,ff]⟩,λq b B W q3 a=>by rw[w4 q o3m (by omega) (by omega)];exact ar q b B W q3 a⟩
   cases b7 with|iface _ _ x E =>
   cases E with|agg _ vs Af Ak =>
   let⟨vs⟩:=vs
   match vs,Af with
   | [y9],_ =>
    have:=Ak 0 (.i 6) y9 rfl rfl;cases this;rfl
  refine bM ?_;have cp:ak ⟨y.apex,kT y.sets l[k]!⟩=true:=by rw[<-b8,FR];exact c3
  have am:=ZeH F j I cp;have cq:=(Nw F j am).1;refine xb ?_;exact ah (k+1,⟨y.apex,kT y.sets l[k]!⟩,bp,p2,Y,_) (h1:=⟨iv,(by(try dsimp only);rw[Jj N];exact am),cq,FR,ac,b8,g0,g2,gc,gd,ga,ar,oW⟩)
 have cr:k=l.length:=by have : ¬k<l.length:=(by simpa using c1);omega
 subst cr;refine aB ?_;refine xa ?_;refine jb ?_;refine⟨.returning,.returning,_,rfl,rfl,Zd4 (n+1) (n+2) _ _,λJ n1⟨w1,w2⟩=>?_⟩;have v1:J (n+1)=some ⟨24,[[.v (.string (bs z.apex)),.mrow m 0 p.length]]⟩:=by rw[w1 _ o3m];simp only[go_sem,ff]
 have v2:J (n+2)=some ⟨39,[[.i 0]]⟩:=by rw[w1 _ o3m];simp only[go_sem,ff]
 have ff:=qB v1 v2 ff;refine⟨by simp only[go_sem,ff],J,n1,λ_=>.inl rfl,Nat.le_refl _,.inr ⟨y,n+1,m,p,N,by simp only[go_sem,ff],vR.keep (λq K=>?_),aq,by dsimp only at w2;omega,by dsimp only at w2;omega,λx E=>by have:=M.2.2 x E;dsimp only at w2;omega⟩,λq b B W q3 a=>by rw[w1 q o3m];simp only[upd];repeat (first|exact aw q b B W q3 a|rw[if_neg (by omega)])⟩;have co:q<Z:=by rcases K with rfl|rfl|⟨x,E,rfl⟩;omega;exact M.2.1;exact M.2.2 x E
 have cw:q≠n+2:=by rcases K with rfl|rfl|⟨x,E,rfl⟩;omega;exact cm;intro e;have:=vR.d x E;rw[e,b2]at this;cases this
 rw[w1 q o3m];simp only[upd];rw[XV cw];by_cases e9:q=n+1
 . subst e9;simp only[Zm];rw[ab]
 simp only[XV e9]
def Zfv{td f:TypeId}{h:H}{z:Nat}{p:List PS}(hr:h z=some ⟨f,p.map rowP⟩)(hp : ∀x∈p,Cs td h x):jr h (.mrow z 0 p.length) = .l ((lP p).map Sgd.d)/\dU h 5 (.mrow z 0 p.length):=by
 have a:aG (.mrow z 0 p.length) h=p.map rowP:=by simp only[aG,hr,X4];exact Ye (by simp)
 refine⟨?_,?_⟩
 . show wk (snap h 5 (.mrow z 0 p.length))=_;rw[Go.Zon.snap_mrow,a];simp only[wk,TH hp]
 refine⟨⟨by rw[hr];rfl,by rw[a];simp⟩,?_⟩;rw[a];intro row j c g;obtain⟨x,E,rfl⟩:=Yp.1 j;exact(uC (hp x E) 2).2 c g
def Zfw{td:TypeId}{h:H}{x:PS}(E:Cs td h x):jr h (.agg (rowP x)) = .agg x.2.d/\dU h 5 (.agg (rowP x)):=by refine⟨?_,(uC E 2).2⟩;have:=(uC E 3).1;show wk (snap h 5 (.agg (rowP x)))=_;rw[Go.Zon.snap_agg];simp only[wk,wT];rw[this]
def Zqd{h:H}{f:Fn}:jr h (.fn f [] []) = .fn f [] []:=rfl
def Zqc{h:H}{b:Bool}{l:List (List D)}:jr h (.list b l)=wk (.list b l):=rfl
attribute[go_sem]Zqd Zqc
theorem ZaZ{y z:Zon}(hz:dX z)(o:dX y)(m:y.apex=z.apex):Ch z.sets y.sets=nJ y z:=by
 unfold Ch nJ;rw[YD,XU,XY,XY,dG];constructor
 .
  rintro⟨J,Y⟩;have N:y.sets=z.sets:=by refine FC! J.symm λi hi=>?_;have A:z.sets[i]!.set=y.sets[i]!.set:=YP (Y i (Yh _) om);have a:=hz.sig _ (eO (show i<z.sets.length by omega));have U:=o.sig _ (eO hi);exact NP A.symm (by rw[a,U])
  cases y;cases z;simp only at m N;rw[m,N]
 rintro rfl;exact⟨rfl,λi _ _=>YB rfl⟩
theorem ZgR{a b:Sgd}(m:a.sigs=[])(p:b.sigs=[]):decide (a.set=b.set)=lT b a:=by unfold lT;rw[YD,XY,XY];exact⟨λh=>NP h.symm (by rw[m,p]),λh=>by rw[h]⟩
theorem Tt{z:Zon}(h:dX z):bV z.sets ⟨z.apex,4⟩=true/\aV z.sets ⟨z.apex,4⟩<z.sets.length/\z.sets[aV z.sets ⟨z.apex,4⟩]! = gG z:=by
 have J:=Tq h.ok;have Y:=Cf h.zo.ord h.zo.nms (q:=⟨z.apex,4⟩) h.zo.apex;have A:fB z.sets ⟨z.apex,4⟩=some (gG z):=J;rw[A]at Y;cases a:bV z.sets ⟨z.apex,4⟩with
 | false=>rw[a]at Y;cases Y
 | true =>
  rw[a,X0 rfl]at Y;exact⟨rfl,(Md h.zo.nms (q:=⟨z.apex,4⟩) h.zo.apex a).1,(Zu Y).symm⟩
def Zo5{p:List PS}{a:Str}(o:dX ⟨a,lP p⟩){K:Nat}(c:K=aV (lP p) ⟨a,4⟩):K<p.length/\p[K]!.2=gG ⟨a,lP p⟩ /\ ∀r,lP (p.set K (r,p[K]!.2.withD [⟨[],yG p[K]!.2.set.data[0]!.n,p[K]!.2.set.data[0]!.m⟩]))=(Rf ⟨a,lP p⟩).sets:=by
 let⟨J,Y,A⟩:=Tt o;simp only at J Y A;rw[<-c]at Y A;rw[uf]at Y;rw[FE Y]at A;refine⟨Y,A,λr=>?_⟩;rw[La,Zca o.ok];show(lP p).set K _=kw (lP p) (uB _ _);have e:(p[K]!.2.withD [⟨[],yG p[K]!.2.set.data[0]!.n,p[K]!.2.set.data[0]!.m⟩])=uB ⟨a,lP p⟩ (yG (dF ⟨a,lP p⟩)):=by rw[A];rfl
 show(lP p).set K (p[K]!.2.withD [⟨[],yG p[K]!.2.set.data[0]!.n,p[K]!.2.set.data[0]!.m⟩])=_;rw[e];refine NT o.ord (by rw[uf];exact Y) ?_;rw[FE Y,A,Tu o.ok];exact(zB o.ok).2
theorem Zhm{p:List PS}{i:Nat}(hi:i<p.length){d:List Dat}(m:p[i]!.2.set.data.length=d.length):(p.map rowP).set i (rowP (p[i]!.1,p[i]!.2.withD d))=p.map rowP:=by
 have e:rowP (p[i]!.1,p[i]!.2.withD d)=(p.map rowP)[i]'(by simpa using hi):=by rw[List.getElem_map,getElem!_pos p i hi];rw[getElem!_pos p i hi]at m;simp only[rowP,Sgd.withD,m]
 rw[e,List.set_getElem_self]
def ZdW(z:Zon)(J m:Nat)(p:List PS)(h:H)(n:Nat)(hz:dX z)(M:dX (⟨z.apex,lP p⟩:Zon))(v:ZM 24 56 70 J m z.apex p h):yp 65 [.agg z.d,.agg [.v (.string (bs z.apex)),.mrow m 0 p.length]] h n (λd h' g=>d = .tuple [] /\ ∃p',ZM 24 56 70 J m z.apex p' h'/\p'.length=p.length/\lP p'=(xV z (⟨z.apex,lP p⟩:Zon)).sets/\(∀q,q<n->q≠J->q≠m->(∀x∈p,q≠x.1)->h' q=h q)):=by
 refine oP func65 λo ff=>?_;unfold f65;have ab:=v.lt o;have ac:=v.z;have eU:=v.r;have bh:=hz.zo.len;have bm:p.length<=20000:=by have:(lP p).length<=20000:=M.zo.len;rwa [uf]at this
 have f:ZM 24 56 70 J m z.apex p (upd (upd h n (some ⟨24,[[.v (.string (bs z.apex)),.l (z.sets.map Sgd.d)]]⟩)) (n+1) (some ⟨24,[[.v (.string (bs z.apex)),.mrow m 0 p.length]]⟩)):=(v.fresh (o n (XW _))).fresh (by rw[aI _ _ _ _ (by omega)];exact o _ (by omega));obtain⟨r,A⟩:∃q,q=aV z.sets ⟨z.apex,4⟩:=⟨_,rfl⟩;obtain⟨K,F⟩:∃q,q=aV (lP p) ⟨z.apex,4⟩:=⟨_,rfl⟩;let⟨s1,Z,s3⟩:=Tt hz;rw[<-A]at Z s3;let⟨u,b2,b3⟩:=Zo5 M F;have O:=A.symm;have Im:=F.symm;have j:(p.map rowP).getD K []=[.v (.string (bs p[K]!.2.set.name)),.i p[K]!.2.set.ty,.i p[K]!.2.set.life,.mrow p[K]!.1 0 p[K]!.2.set.data.length,.e]:=N9 u;have am:=v.d p[K]! (lw u);have y:=v.ne p[K]! (lw u);have aq:(p.map rowP).length=p.length:=by simp
 have br:=ab.2.2 p[K]! (lw u);let⟨t,bw,bx,_,_⟩:=JQ M.ok;rw[<-b2]at t;have ar:p[K]!.2.set.data.length=1:=by rw[t];rfl
 have aw:(p[K]!.2.set.data.map Dat.d).getD 0 []=[.v (.string (bs [])),.i p[K]!.2.set.data[0]!.n,.i p[K]!.2.set.data[0]!.m]:=by rw[oh (by omega)];rw[t];rfl
 have b7:p[K]!.2.set.data[0]!.n=dF (⟨z.apex,lP p⟩:Zon):=by rw[t];rfl
 have bp:=b7;have R:=f.snap;have Ac:jr (upd (upd h n (some ⟨24,[[.v (.string (bs z.apex)),.l (z.sets.map Sgd.d)]]⟩)) (n+1) (some ⟨24,[[.v (.string (bs z.apex)),.mrow m 0 p.length]]⟩)) (.agg [.v (.string (bs z.apex)),.mrow m 0 p.length]) = .agg [.v (.string (bs z.apex)),.l ((lP p).map Sgd.d)]:=R.1;have Ib:=Zfv f.r f.data;have T:=Ib.1;have U:=Zfw (f.data _ (lw u));have X:jr (upd (upd h n (some ⟨24,[[.v (.string (bs z.apex)),.l (z.sets.map Sgd.d)]]⟩)) (n+1) (some ⟨24,[[.v (.string (bs z.apex)),.mrow m 0 p.length]]⟩)) (.agg [.v (.string (bs p[K]!.2.set.name)),.i p[K]!.2.set.ty,.i p[K]!.2.set.life,.mrow p[K]!.1 0 p[K]!.2.set.data.length,.e]) = .agg [.v (.string (bs p[K]!.2.set.name)),.i p[K]!.2.set.ty,.i p[K]!.2.set.life,.l (p[K]!.2.set.data.map Dat.d),.l (p[K]!.2.sigs.map RSig.d)]:=U.1;have b8:(p[K]!.1=m)=False:=YS y.2;have b9:(m=p[K]!.1)=False:=YS (λe=>y.2 e.symm);have bb:=bN Z;have be:jr (upd (upd h n (some ⟨24,[[.v (.string (bs z.apex)),.l (z.sets.map Sgd.d)]]⟩)) (n+1) (some ⟨24,[[.v (.string (bs z.apex)),.mrow m 0 p.length]]⟩)) (.agg [.v (.string (bs z.sets[r]!.set.name)),.i z.sets[r]!.set.ty,.i z.sets[r]!.set.life,.l (z.sets[r]!.set.data.map Dat.d),.l (z.sets[r]!.sigs.map RSig.d)]) = .agg [.v (.string (bs z.sets[r]!.set.name)),.i z.sets[r]!.set.ty,.i z.sets[r]!.set.life,.l (z.sets[r]!.set.data.map Dat.d),.l (z.sets[r]!.sigs.map RSig.d)]:=by simp only[jr,Go.Zon.snap_agg,X7,Yy,Go.Zon.snap_v,Go.Zon.snap_list,wk,dA,qb,CE]
 have ff:=qG @ac @eU @O @Im @j @am (qI @aq @aw @Ac @be @T @X (nH n (p[K]!.1)) (nH (n+1) (p[K]!.1)) (qI @b8 @b9 @bb @s1 (nH n m) (nH n J) (nH (n+1) m) (nH (n+1) J) ff));refine xa ?_;refine oM wS (λw=>?_) (λw=>?_) (hok:=oz (qB (ZdT z.sets (lP p) om (λs hs=>by have:=(hz.zo.ok s hs).len;omega)) (λrow j c L=>by obtain⟨x,E,rfl⟩:=Yp.1 j;exact(uC (f.data x E) 2).2 c L) Ib.2)) (hq:=rfl)
 .
  refine jb ?_;refine bJ (_) (hh:=λ_=>.inl rfl) (hr:=?_);try simp only[go_sem,ff]
  refine⟨p,f,rfl,?_,λq B W q3 a=>?_⟩
  . unfold xV;rw[XV (by rw[<-ZaZ hz M rfl,w];simp)]
  simp only[upd];rw[XV (by omega),XV (by omega)]
 refine xa ?_ (hok:=oH (by have V:=CP z z.apex 4 (by omega);rw[<-A,s1]at V;exact V));refine aa wS ?_ (hok:=oS (k:=by first|trivial|(repeat' with_reducible apply And.intro)<;>first|(intros;exact(by have V:=CP ⟨z.apex,lP p⟩ z.apex 4 o3w;rw[<-F]at V;exact V))|exact(λrow j c L=>by obtain⟨x,E,rfl⟩:=Yp.1 j;exact(uC (f.data x E) 1).2 c L)|(intros;exact R.2)|rfl));refine wG wS (λI=>?_) (λI=>?_) (hok:=oS (k:=by first|trivial|(repeat' with_reducible apply And.intro)<;>first|(intros;exact Sn z.sets[r]! p[K]!.2 (by have:=(hz.zo.ok _ (eO Z)).len;omega))|(intros;exact U.2)|exact(λrow j c L=>by obtain⟨x,E,rfl⟩:=Yp.1 j;simp only[Dat.d,Yl,Y2,or_false]at L;rcases L with rfl|rfl|rfl<;>rfl)|omega|(intros;omega)|rfl)) (hq:=rfl)
 .
  refine xa ?_;refine xb ?_;refine bJ (_) (hh:=λ_=>.inl rfl) (hr:=?_);try simp only[go_sem,ff]
  have hD:p[K]!.2.set.data.map Dat.d=[[.v (.string (bs [])),.i p[K]!.2.set.data[0]!.n,.i p[K]!.2.set.data[0]!.m]]:=by rw[t];rfl
  refine⟨p.set K (p[K]!.1,p[K]!.2.withD [⟨[],yG p[K]!.2.set.data[0]!.n,p[K]!.2.set.data[0]!.m⟩]),f.setD u _ ?_ ?_ ?_ (λx E N=>?_),by simp,?_,λq B W q3 a=>?_⟩
  . exact aI _ _ _ _ (λe=>y.1 e.symm)
  . rw[aI _ _ _ _ (λe=>y.2 e.symm),Zhm u (by rw[ar];rfl)];exact f.r
  . rw[bI,hD];rfl
  . exact aI _ _ _ _ N
  . have k2:lT (gG (⟨z.apex,lP p⟩:Zon)) (gG z)=true:=(by rw[<-b2,<-s3,<-ZgR (hz.sig _ (eO Z)) (v.sig _ (lw u))];exact I);rw[b3];unfold xV;rw[X0 ⟨(ZaZ hz M rfl).symm.trans (by simpa using w),k2⟩]
  have:=a p[K]! (lw u);simp only[upd];rw[XV this,XV (by omega),XV (by omega)]
 refine bM ?_;refine bJ (_) (hh:=λ_=>.inl rfl) (hr:=?_);try simp only[go_sem,ff]
 refine⟨p,f,rfl,?_,λq B W q3 a=>?_⟩
 . unfold xV;rw[XV];rintro⟨G,k2⟩;have Y:z.sets[r]!.set=p[K]!.2.set:=(by rw[s3,b2];rw[YP k2]);rw[YB Y]at I;cases I
 simp only[upd];rw[XV (by omega),XV (by omega)]
def Zd3{z:Zon}{l:List Chg}(hz:dX z)(a : ∀c∈l,gp c=true)(f:l.length<=1000)(hn:Aw z l=none)(h:H)(n:Nat):yp 64 [.agg z.d,.l (l.map Chg.d)] h n (λd h' g=>d = .tuple [.agg [.v (.string (bs [])),.e],.i 6] /\ ∀q b,q<n->h q=some b->b.ty≠56->b.ty≠70->h' q=some b) :=
 (SE z l h n hz a f).mono λd h' g⟨J,Y⟩=>by
  rcases J with⟨_,e⟩|⟨y,j,k,p,N,_⟩
  . exact⟨e,Y⟩
  rw[hn]at N;cases N
def Zd2{z y:Zon}{l:List Chg}(hz:dX z)(j : ∀c∈l,gp c=true)(k:l.length<=1000)(o:Aw z l=some y)(h:H)(n:Nat):yp 64 [.agg z.d,.l (l.map Chg.d)] h n (λd h' g=>∃f a p,d = .tuple [.agg [.v (.string (bs z.apex)),.mrow a 0 p.length],.i 0]/\ZM 24 56 70 f a z.apex p h'/\lP p=y.sets/\f<g/\a<g/\(∀x∈p,x.1<g) /\ ∀q b,q<n->h q=some b->b.ty≠56->b.ty≠70->h' q=some b) :=
 (SE z l h n hz j k).mono λd h' g⟨J,Y⟩=>by
  rcases J with⟨N,_⟩|⟨v,f,a,p,N,e,G,m,r,t,u⟩
  . rw[o]at N;cases N
  rw[o]at N;cases N;exact⟨f,a,p,e,G,m,r,t,u,Y⟩
def Sw{n a:Str}(hn:ai n=true)(m:ai a=true):fT n a=ig n a:=ZdD hn m
theorem upz_1{z:Zon}{u:Upd}(h:ak z=false\/j6 u=false):fH z u=(dQ,1):=by unfold fH;rw[X0 h]
theorem upz_2{z:Zon}{u:Upd}(h1:ak z=true)(h2:j6 u=true)(h:jQ z=false):fH z u=(dQ,12):=by unfold fH;rw[XV o3t,X0 h]
theorem Sq{z:Zon}{u:Upd}(h1:ak z=true)(h2:j6 u=true)(h3:jQ z=true)(h:kY z u.needs=true\/kY z u.chgs=true):fH z u=(dQ,20):=by unfold fH;rw[XV o3t,XV (by rw[h3];simp),X0 h]
theorem upz_4{z:Zon}{u:Upd}(h1:ak z=true)(h2:j6 u=true)(h3:jQ z=true)(h4 : ¬(kY z u.needs=true\/kY z u.chgs=true))(h:yH z u.needs=false):fH z u=(dQ,24):=by unfold fH;rw[XV o3t,XV (by rw[h3];simp),XV h4,X0 h]
def upz_5{z:Zon}{u:Upd}(h1:ak z=true)(h2:j6 u=true)(h3:jQ z=true)(h4 : ¬(kY z u.needs=true\/kY z u.chgs=true))(h5:yH z u.needs=true)(h:Aw z u.chgs=none):fH z u=(dQ,6):=by unfold fH;rw[XV o3t,XV (by rw[h3];simp),XV h4,XV (by rw[h5];simp),h]
def upz_6{z y:Zon}{u:Upd}(h1:ak z=true)(h2:j6 u=true)(h3:jQ z=true)(h4 : ¬(kY z u.needs=true\/kY z u.chgs=true))(h5:yH z u.needs=true)(h:Aw z u.chgs=some y):fH z u=(xV z y,0):=by unfold fH;rw[XV o3t,XV (by rw[h3];simp),XV h4,XV (by rw[h5];simp),h]
def ZlU{z:Zon}(h:ak z=true)(hz:mi z){n:Chg}(hn:ai n.set.name=true):sG z n=holdB z n:=by
 have O:bV z.sets n.q=decide (0<=dV z.sets n.q):=Me hz (by exact hn);have a:0<=dV z.sets n.q->z.sets[aV z.sets n.q]! = z.sets[(dV z.sets n.q).toNat]! := ZaR hz (by exact hn);unfold sG holdB;by_cases J:n.kind=1
 . simp[J,WB]
 by_cases c:n.kind=2
 . simp[c,WB]
 rw[XV (by omega),XV J,XV c];by_cases A:n.kind=3
 . simp[A,O]
 rw[XV A];by_cases Y:n.kind=4
 . rw[X0 Y,X0 Y,O,YD];simp
 rw[XV Y,XV Y,O];by_cases p:0<=dV z.sets n.q
 . simp[p,A,a p]
 simp[p]
def Wx{n:Chg}(h:jg n=true):ai n.set.name=true:=by unfold jg at h;rw[XU]at h;exact h.1
theorem ZbJ{z:Zon}{l:List Chg}{k:Nat}(hk:k<l.length)(h:ig l[k]!.set.name z.apex=false):kY z l=true:=by unfold kY;rw[Ya,Bool.eq_false_iff,Ne,dG];intro q;have:ig l[k]!.set.name z.apex=true:=q k (Yh _) hk;rw[h]at this;cases this
def ZbH{z:Zon}{l:List Chg}(h:ax l.length (λi=>ig l[i]!.set.name z.apex) 0=true):kY z l=false:=by unfold kY;rw[h];rfl
theorem Zor{z y:Zon}(hz:dX y)(a:y.apex=z.apex):xV z y=⟨z.apex,(xV z y).sets⟩:=by let⟨m,_,_,e⟩:=ZbO (z:=z) hz;rw[e];show uz y m=⟨z.apex,(uz y m).sets⟩;rw[<-a];rfl
def Zd7(z:Zon)(u:Upd):yk 17 [.agg z.d,.agg u.d] (.tuple [.agg (fH z u).1.d,.i (fH z u).2]):=by
 refine oO func17 λff=>?_;unfold f17;refine xa ?_;refine xf ?_ ?_ (hok:=oI (Zdr u) (vw z))<;>intro w
 . exact ye (K:=6) (k:=by rw[upz_1 (by grind)];rfl)
 have n:ak z=true:=by grind
 have o:j6 u=true:=by grind
 have zo:=lL n;have bw:=zo.len;have ac:=Zdy o;have t:=Nb o;have FM:u.needs.length<=20/\u.chgs.length<=20:=by have V:=o;simp only[j6,XU,XY]at V;exact V.1.1
 refine xf ?_ ?_ (hok:=oH (Zdw z om))<;>intro I
 . exact ye (K:=6) (k:=by rw[upz_2 n o I];rfl)
 have g:jQ z=true:=by grind
 have B:=dX.mk' n g;refine xj ?_;refine lq (Nat×Nat) [2,3,4,28,29] (λ⟨k,Z⟩=>(k<=u.needs.length/\(ax u.needs.length ((λi=>ig u.needs[i]!.set.name z.apex)) 0=ax u.needs.length ((λi=>ig u.needs[i]!.set.name z.apex)) k)/\2<Z,u.needs.length-k,[(30,.i k)],[(0,⟨24,[z.d]⟩),(1,⟨28,[u.d]⟩),(2,⟨24,[[.v (.string (bs [])),.e]]⟩)],Z)) (0,_) ?_;rintro⟨k,Z⟩ ⟨hk,am,E⟩;simp only[XX,XZ];have ff:=qA @E ff;refine xo ?_ ?_<;>intro a
 .
  have U:k<u.needs.length:=by simpa using a
  have H7:=Sw (Wx (ac _ (eO U))) zo.apex;have ff:=qB (FX U) @H7 ff;refine wB ?_;refine xa ?_;refine xi (λc4=>?_) (λc4=>?_) (hok:=oH (by have V:=Sl u.needs[k]!.set.name z.apex;rw[H7]at V;exact V))
  . exact ye (K:=6) (k:=by rw[Sq n o g (.inl (ZbJ U c4))];rfl)
  refine xl ?_;have T:((λi=>ig u.needs[i]!.set.name z.apex)) k=true:=by simpa using c4
  exact ah (k+1,_) (h1:=⟨iv,(by(try dsimp only);rw[am,bC U T]),iv⟩)
 have v:k=u.needs.length:=by omega
 subst v;have J:kY z u.needs=false:=ZbH (by rw[am,gB (by omega)]);refine aB ?_;refine xj ?_;refine lq (Nat×Nat) [2,3,4,44,45] (λ⟨k,Z⟩=>(k<=u.chgs.length/\(ax u.chgs.length ((λi=>ig u.chgs[i]!.set.name z.apex)) 0=ax u.chgs.length ((λi=>ig u.chgs[i]!.set.name z.apex)) k)/\2<Z,u.chgs.length-k,[(46,.i k)],[(0,⟨24,[z.d]⟩),(1,⟨28,[u.d]⟩),(2,⟨24,[[.v (.string (bs [])),.e]]⟩)],Z)) (0,_) ?_;rintro⟨k,Z⟩ ⟨hk,aq,E⟩;simp only[XX,XZ];have ff:=qA @E ff;refine xo ?_ ?_<;>intro c5
 .
  have U:k<u.chgs.length:=by simpa using c5
  have H7:=Sw (EC (t _ (eO U))) zo.apex;have ff:=qB (FX U) @H7 ff;refine wB ?_;refine xa ?_;refine xi (λc6=>?_) (λc6=>?_) (hok:=oH (by have V:=Sl u.chgs[k]!.set.name z.apex;rw[H7]at V;exact V))
  . exact ye (K:=6) (k:=by rw[Sq n o g (.inr (ZbJ U c6))];rfl)
  refine xl ?_;have T:((λi=>ig u.chgs[i]!.set.name z.apex)) k=true:=by simpa using c6
  exact ah (k+1,_) (h1:=⟨iv,(by(try dsimp only);rw[aq,bC U T]),iv⟩)
 have v:k=u.chgs.length:=by omega
 subst v;have L:kY z u.chgs=false:=ZbH (by rw[aq,gB (by omega)]);have h : ¬(kY z u.needs=true\/kY z u.chgs=true):=by rw[J,L];simp
 refine aB ?_;refine xj ?_;refine lq (Nat×Nat) [2,3,4,60,61] (λ⟨k,Z⟩=>(k<=u.needs.length/\(ax u.needs.length ((λi=>holdB z u.needs[i]!)) 0=ax u.needs.length ((λi=>holdB z u.needs[i]!)) k)/\2<Z,u.needs.length-k,[(62,.i k)],[(0,⟨24,[z.d]⟩),(1,⟨28,[u.d]⟩),(2,⟨24,[[.v (.string (bs [])),.e]]⟩)],Z)) (0,_) ?_;rintro⟨k,Z⟩ ⟨hk,M,E⟩;simp only[XX,XZ];have ff:=qA @E ff;refine xo ?_ ?_<;>intro c7
 .
  have U:k<u.needs.length:=by simpa using c7
  have ar:=ZlU n zo (Wx (ac _ (eO U)));have ff:=qB (FX U) @ar ff;refine wB ?_;refine xa ?_;refine xi (λc8=>?_) (λc8=>?_) (hok:=oH (by have V:=ZdP z u.needs[k]! (by omega) (λs N=>by have:=(zo.ok s N).len;omega);rw[ar]at V;exact V))
  . exact ye (K:=6) (k:=by rw[upz_4 n o g h (by unfold yH;rw[M];exact ed (p:=(λi=>holdB z u.needs[i]!)) U c8)];rfl)
  refine xl ?_;have T:((λi=>holdB z u.needs[i]!)) k=true:=by simpa using c8
  exact ah (k+1,_) (h1:=⟨iv,(by(try dsimp only);rw[M,bC U T]),iv⟩)
 have v:k=u.needs.length:=by omega
 subst v;have aw:yH z u.needs=true:=by unfold yH;rw[M,gB (by omega)]
 refine aB ?_;rcases m:Aw z u.chgs with _|y
 .
  have X:=upz_5 n o g h aw m;refine aj (ya 3 (hct:=by exact Zd3 B t om m _ _) (hk:=?_));rintro R Y r ⟨rfl,f⟩;try dsimp only at f
  have k0:=f 0 _ (by omega) ev o3k o3k;have O:=f 2 _ (by omega) ev o3k o3k;have ff:=qB @k0 @O ff;refine yb ?_;refine aj ?_;refine xp ?_ ?_ (hq:=rfl)<;>intro c9
  . exact ye (K:=6) (k:=by rw[X];rfl)
  exfalso;simp at c9
 have X:=upz_6 n o g h aw m;have F:=MM B t _ _ (XW _) m;refine aj (ya 3 (hct:=by exact Zd2 B t om m _ _) (hk:=?_));rintro R Y r ⟨zc,rs,p,rfl,vR,be,z1,z2,z3,f⟩;try dsimp only at f
 have k0:=f 0 _ (by omega) ev o3k o3k;have O:=f 2 _ (by omega) ev o3k o3k;have ff:=qB @k0 @O ff;refine yb ?_;refine xr ?_ ?_ (hq:=rfl)<;>intro c9
 . exfalso;simp at c9
 have b7:(⟨z.apex,lP p⟩:Zon)=y:=by rw[be,<-F.2]
 have bh:dX ⟨z.apex,lP p⟩:=by rw[b7];exact F.1
 refine aj (ya 2 (hct:=by exact ZdW z zc rs p _ _ B bh (vR.keep (λq Ie=>by have bx:q<r:=(by rcases Ie with rfl|rfl|⟨x,E,rfl⟩;exact z1;exact z2;exact z3 x E);simp only[upd];repeat (first|rfl|rw[XV (by omega)])))) (hk:=?_));rintro R A n3 ⟨rfl,p2,b8,bm,bp,ab⟩;try dsimp only at ab
 have b9:zc≠2:=λe=>by have V:=vR.z;rw[e,O]at V;simp at V
 have bb:rs≠2:=λe=>by have V:=vR.r;rw[e,O]at V;simp at V
 have br : ∀x∈p,x.1≠2:=λx E e=>by have V:=vR.d x E;rw[e,O]at V;simp at V
 have m2:A 2=some ⟨24,[[.v (.string (bs [])),.e]]⟩:=by rw[ab 2 (by omega) b9.symm bb.symm (λx E e=>br x E e.symm)];simp only[upd];repeat (first|exact O|rw[XV (by omega)])
 have m7:A (r+7)=some ⟨24,[[.v (.string (bs z.apex)),.mrow rs 0 p.length]]⟩:=by rw[ab (r+7) (by omega) (by omega) (by omega) (λx E e=>by have:=z3 x E;omega)];simp only[upd];repeat (first|rfl|rw[XV (by omega)]|rw[X0 rfl])
 have G : ∀(H9:H)(d:D),(∀q,q≠2->H9 q=A q)->d = .tuple [.agg [.v (.string (bs z.apex)),.mrow rs 0 p.length],.i 0]->wk (Go.DL.snap H9 6 d) = .tuple [.agg (fH z u).1.d,.i (fH z u).2]/\dU H9 6 d:=by
  rintro H9 d hH rfl;have uU:ZM 24 56 70 zc rs z.apex p2 H9:=b8.keep (λq W=>hH q (by rcases W with rfl|rfl|⟨x,E,rfl⟩;exact b9;exact bb;exact λe=>by have V:=b8.d x E;rw[e,m2]at V;simp at V));have N:=uU.snap;rw[bm]at N;rw[X,Zor F.1 F.2];refine⟨?_,?_⟩
  . show D.tuple [wk (Go.DL.snap H9 5 (.agg [.v (.string (bs z.apex)),.mrow rs 0 p.length])),_]=_;rw[N.1,bp,b7];rfl
  intro c j;simp only[Yl,Y2,or_false]at j;rcases j with rfl|rfl
  . exact N.2
  rfl
 have ff:=qB @m2 @m7 ff;refine yb ?_;refine xa ?_;refine jb ?_;refine fin 6 (hr:=?_) (hk:=?_)
 . exact(G _ _ (λq W=>aI _ _ _ _ W) o3h).1
 exact(G _ _ (λq W=>aI _ _ _ _ W) o3h).2
def Zhi(z:Zon)(h:z.sets.length<=1000000):yk 26 [.agg z.d] (.b (jQ z)):=by
 refine oO func26 λff=>?_;unfold f26;refine xa ?_;refine xj ?_;refine lq (Nat×Nat) [1] (λ⟨k,Z⟩=>(k<=z.sets.length/\ax z.sets.length ((zJ z.sets)) 0=ax z.sets.length ((zJ z.sets)) k/\0<Z,z.sets.length-k,[(3,.i k)],[(0,⟨24,[z.d]⟩)],Z)) (0,_) ?_;rintro⟨k,Z⟩ ⟨X,u,E⟩;simp only[XX,XZ];have ff:=qA @E ff;refine xt ?_ ?_<;>intro w
 .
  have U:k<z.sets.length:=by simpa using w
  have ff:=qA (bN U) ff;refine wD ?_;refine xi ?_ ?_<;>intro I
  . exact ye (k:=by have a:(zJ z.sets) k=false:=(by simp only[zJ];grind);simp only[jQ];rw[u,ed U a])
  refine xl ?_;have T:((zJ z.sets)) k=true:=by simp only[zJ];grind
  exact ah (k+1,_) (h1:=⟨iv,o2D,iv⟩)
 refine aB ?_;exact ye (k:=by simp only[jQ];rw[u,gB (by omega)])
open Go.Jn Go.RowKit
def Zls:Go.Shelf.Ren:={ f:=λx=>match x with|137=>195|217=>262|266=>302|n=>n,t:=λx=>match x with|9=>9|5=>5|3=>3|n=>n,g:=λn=>n }
def ixbS:Go.Proofs.Lays.n137 prog Zls:={
 mixed:=by kernel_rfl
 f137:=func195.trans (by kernel_rfl)
 f217:=func262.trans (by kernel_rfl)
 f266:=func302.trans (by kernel_rfl)
 t3:=underlying3
 a3:=Tryz.isAgg3
 z3:=Tryz.sizeOf3
 v3:=Tryz.zeroValue3
 t5:=underlying5
 a5:=Tryz.isAgg5
 z5:=Tryz.sizeOf5
 v5:=Tryz.zeroValue5
 t9:=underlying9
 a9:=Tryz.isAgg9
 z9:=Tryz.sizeOf9
 v9:=Tryz.zeroValue9 }
def XI:Go.Shelf.Ren:={ f:=λx=>match x with|156=>266|165=>303|166=>304|169=>305|240=>333|241=>334|276=>347|277=>348|n=>n,t:=λx=>match x with|31=>97|9=>9|3=>3|4=>4|0=>0|20=>20|72=>359|76=>227|70=>357|37=>80|75=>221|127=>387|164=>396|5=>5|80=>197|n=>n,g:=λn=>n }
def Ps:Go.Proofs.Lays.n156 prog XI:={
 mixed:=by kernel_rfl
 f156:=func266.trans (by kernel_rfl)
 f165:=func303.trans (by kernel_rfl)
 f166:=func304.trans (by kernel_rfl)
 f169:=func305.trans (by kernel_rfl)
 f240:=func333.trans (by kernel_rfl)
 f241:=func334.trans (by kernel_rfl)
 f276:=func347.trans (by kernel_rfl)
 f277:=func348.trans (by kernel_rfl)
 t0:=underlying0
 a0:=Tryz.isAgg0
 z0:=Tryz.sizeOf0
 v0:=Tryz.zeroValue0
 t3:=underlying3
 a3:=Tryz.isAgg3
 z3:=Tryz.sizeOf3
 v3:=Tryz.zeroValue3
 t4:=underlying4
 a4:=Tryz.isAgg4
 z4:=Tryz.sizeOf4
 v4:=Tryz.zeroValue4
 t9:=underlying9
 a9:=Tryz.isAgg9
 z9:=Tryz.sizeOf9
 v9:=Tryz.zeroValue9
 t20:=underlying20
 a20:=Tryz.isAgg20
 z20:=Tryz.sizeOf20
 v20:=Tryz.zeroValue20
 t31:=underlying97
 a31:=Tryz.isAgg97
 z31:=Tryz.sizeOf97
 v31:=Tryz.zeroValue97
 t37:=underlying80
 a37:=Tryz.isAgg80
 z37:=Tryz.sizeOf80
 v37:=Tryz.zeroValue80
 t70:=underlying357
 a70:=Tryz.isAgg357
 z70:=Tryz.sizeOf357
 v70:=Tryz.zeroValue357
 t72:=underlying359
 a72:=Tryz.isAgg359
 z72:=Tryz.sizeOf359
 v72:=Tryz.zeroValue359
 t75:=underlying221
 a75:=Tryz.isAgg221
 z75:=Tryz.sizeOf221
 v75:=Tryz.zeroValue221
 t76:=underlying227
 a76:=Tryz.isAgg227
 z76:=Tryz.sizeOf227
 v76:=Tryz.zeroValue227
 t127:=underlying387
 a127:=Tryz.isAgg387
 z127:=Tryz.sizeOf387
 v127:=Tryz.zeroValue387
 t164:=underlying396
 a164:=Tryz.isAgg396
 z164:=Tryz.sizeOf396
 v164:=Tryz.zeroValue396 }
def XR(s:Str)(c:Int):yk 195 [.v (.string (bs s)),.v (.int .u8 c)] (.i (HV s c)):=by refine⟨by kernel_rfl,by simp[D.nr],λw I j f M O=>?_⟩;obtain⟨x,l,rfl,J,Y⟩:=O.of_cons;obtain⟨y,l,rfl,A,a⟩:=Y.of_cons;rw[a.of_nil,J.v_inv,A.v_inv];have:=Go.Proofs.Any.strings_IndexByte ixbS (bs s) c w;refine callsIn_wide.2 (this.mono ?_);rintro e T ⟨rfl,rfl⟩;refine⟨_,rfl,⟨rfl,rfl,rfl,XW _,λ_=>XW _,λ_ _=>rfl⟩,?_⟩;rw[mh];exact .v _
def XP{s:Str}(h:(46:UInt8)∈s):yk 195 [.v (.string (bs s)),.v (.int .u8 46)] (.i (s.idxOf 46:Int)):=by have:=XR s 46;rwa [Zab h]at this
def XQ{s:Str}(h : ¬(46:UInt8)∈s):yk 195 [.v (.string (bs s)),.v (.int .u8 46)] (.i (-1)):=by have:=XR s 46;rwa [Zac h]at this
def Pq:Builder.Extra prog XI where
 sizeBuilder:=by kernel_rfl
 liesBuilder:=by kernel_rfl
 t5:=underlying5
 a5:=Tryz.isAgg5
 z5:=Tryz.sizeOf5
 v5:=Tryz.zeroValue5
 infoByte:=by kernel_rfl
 cellsByte:=by kernel_rfl
 sizeByte:=by kernel_rfl
 neB5:=by decide
theorem Pt : ∀l:List Str,Go.Lib.join l [46]=jT l
 | []=>rfl
 | [p]=>Go.Lib.join_one _ _
 | p::q::r=>by rw[Go.Lib.join_cons,jT,<-Pt (q::r),Go.Lib.join_cons];simp[Go.Lib.joinTail]
def Wi(s:Str):yk 120 [.v (.string (bs s))] (.tuple [.v (.string (bs (tO s))),.i (if ai s then(if s=[46]then 4 else 0)else 11)]):=by
 refine oO func120 λff=>?_;unfold f120;refine xv ?_;refine xf ?_ ?_ (hok:=oF (CQ _))<;>intro w
 . exact ye (K:=1) (k:=o3p)
 refine xf ?_ ?_<;>intro I
 . exact ye (K:=1) (k:=o3p)
 refine aj ?_;have f:=iE (by simpa using w);by_cases c:(46:UInt8)∈s
 .
  have g:=List.idxOf_lt_length_of_mem c;have y:((s.idxOf 46:Int)+1).toNat=s.idxOf 46+1:=by omega
  have ff:=qB (Zab c) @y ff;refine xa ?_ (hok:=oS (k:=by first|exact XP c|exact XQ c));refine xp ?_ ?_ (hq:=rfl)<;>intro a
  . exact ye (K:=1) (k:=o3p)
  simp at a
 have ff:=qA (Zac c) ff;refine xa ?_ (hok:=oS (k:=by first|exact XP c|exact XQ c));refine xp ?_ ?_ (hq:=rfl)<;>intro a
 . simp at a
 refine bM ?_;exact ye (K:=1) (k:=o3p)
def Xi(a:Str)(b:Str):yk 199 [.v (.string (bs a)),.v (.string (bs b))] (.i (uZ a b)):=by refine oO func199 λff=>?_;unfold f199;refine xa ?_;refine xa ?_ (hok:=oF (KT _ _));exact yi
def Pd(s:Str)(z:Str):yk 122 [.v (.string (bs s)),.v (.string (bs z))] (.b (fT s z)):=by refine oO func122 λff=>?_;unfold f122;refine xa ?_;refine xa ?_ (hok:=oF (Dw _ _));exact yi
def Ph{h hs:H}{n r:Nat}{y:Option dE}(hn : ∀q,n<=q->h q=none)(hr:hs r=y)(hk : ∀q,q<n->q≠r->hs q=h q):∀q,upd h r y q=hs q\/upd h r y q=none:=λq=>by
 by_cases e:q=r
 . subst e;left;rw[bI,hr]
 rw[aI _ _ _ _ e];by_cases O:q<n
 . exact .inl (hk q O e).symm
 exact .inr (hn q om)
def less_upd{h hs:H}{n:Nat}(hn : ∀q,n<=q->h q=none)(hk : ∀q,q<n->hs q=h q):∀q,h q=hs q\/h q=none:=λq=>by
 by_cases e:q<n
 . exact .inl (hk q e).symm
 exact .inr (hn q om)
def iY{h1 hs:H}{r:Nat}{y:Option dE}(h : ∀q,h1 q=hs q\/h1 q=none)(hr:hs r=y):∀q,upd h1 r y q=hs q\/upd h1 r y q=none:=λq=>by
 by_cases e:q=r
 . subst e;left;rw[bI,hr]
 rw[aI _ _ _ _ e];exact h q
@[go_sem]theorem Zq0{m:IM}:jl prog 31 (ug m)=true:=by
 induction m with
 | nil=>rfl
 | cons p m k=>rw[DV];simp only[jl,k,Qst.d,Hz,Zt]
def ll(v:Vw)(n:Str)(t:Int):yk 121 [.eptr v.d,.v (.string (bs n)),.i t] (.i (bK v.z.sets ⟨n,t⟩)):=by
 refine oO func121 λff=>?_;unfold f121;refine xa ?_;refine aj ?_;rcases F:ul (vJ v.z.sets v.z.sets.length) ⟨n,t⟩with _|x
 .
  have ff:=qA @F ff;refine xa ?_;refine xp ?_ ?_ (hq:=rfl)<;>intro w
  . simp at w
  refine bM ?_;exact ye (k:=by simp[bK,F])
 have ff:=qA @F ff;refine xa ?_;refine xp ?_ ?_ (hq:=rfl)<;>intro w
 . exact ye (k:=by simp[bK,F])
 simp at w
def lM(v:Vw):yk 125 [.eptr v.d] (.i (bK v.z.sets ⟨v.z.apex,4⟩)):=by refine oO func125 λff=>?_;unfold f125;refine xa ?_;exact yi (hok:=oH (ll v v.z.apex 4))
def Zku(i:Int)(v:Vw)(n:Str)(h0:0<=i)(h1:i.toNat<v.z.sets.length):yk 198 [.i i,.eptr [.eptr v.d],.eptr [.v (.string (bs n))]] (.b (decide (0<=uZ v.z.sets[i.toNat]!.set.name n))):=by refine oO func198 λff=>?_;unfold f198;have ff:=qA (bN h1) ff;refine xa ?_;exact yi (hok:=oH Xi)
def Zkb(i:Int)(v:Vw)(n:Str)(h0:0<=i)(h1:i.toNat<v.z.sets.length):yk 265 [.i i,.eptr [.eptr v.d],.eptr [.v (.string (bs n))]] (.b (decide (0<uZ v.z.sets[i.toNat]!.set.name n))):=by refine oO func265 λff=>?_;unfold f265;have ff:=qA (bN h1) ff;refine xa ?_;exact yi (hok:=oH Xi)
def uG(x:Int)(i:Nat):List D:=(List.range 8).map λj=>.v (.int .u8 (if j<i then((jZ (uN x) (56-8*j)).toNat:Int)else 0))
def Zhz(x:Int):[D.v (.int .u8 0),.v (.int .u8 0),.v (.int .u8 0),.v (.int .u8 0),.v (.int .u8 0),.v (.int .u8 0),.v (.int .u8 0),.v (.int .u8 0)]=uG x 0:=rfl
theorem GU(x:Int)(i:Nat):(uG x i).length=8:=rfl
def UK(x:Int)(i:Nat):(uG x i).all D.one=true:=rfl
def Zhv(x:Int)(i:Nat):∀d∈uG x i,∃v:Value,d = .v v/\v.oneCell'=true:=λd m=>by obtain⟨j,_,rfl⟩:=Yp.1 m;exact⟨_,rfl,rfl⟩
theorem Zhw{x:Int}{i:Nat}(h:i<8):(uG x i).set i (.v (.int .u8 ((jZ (uN x) (56-8*i)).toNat:Int)))=uG x (i+1):=by
 unfold uG;refine List.ext_getElem (by simp) λj J Y=>?_;rw[List.getElem_set];simp only[List.getElem_map,List.getElem_range];by_cases e:i=j
 . subst e;rw[X0 rfl,X0 (Nat.lt_succ_self _)]
 rw[XV e];by_cases O:j<i
 . rw[X0 O,X0 (Nat.lt_succ_of_lt O)]
 rw[XV O,XV (by omega)]
def Zhx{x:Int}{i:Nat}(h:i<8):List.take (i*1) (uG x i)++[.v (.int .u8 ((jZ (uN x) (56-8*i)).toNat:Int))]++List.drop (i*1+1) (uG x i)=uG x (i+1):=by rw[<-Zhw h,List.set_eq_take_append_cons_drop,X0 (by rw[GU];exact h),Nat.mul_one,YR];rfl
theorem Zhy(x:Int):((uG x 8).map λd=>[d])=(bZ x).map bD:=rfl
theorem Zpj{l:List Int}{d k:Nat}(h:k<l.length):((l.take (k+1)).flatMap bZ).foldl gP d=(bZ l[k]!).foldl gP (((l.take k).flatMap bZ).foldl gP d):=by rw[nE! h,List.flatMap_append,Za];simp
def Zkw{n:Nat}(h:n<=60):IntKind.u8.wrap (n:Int)=((jS n).toNat:Int):=by rw[IntKind.wrap_u8];unfold jS;rw[UInt8.toNat_ofNat'];omega
def Zi5(l:List Int)(d:Nat)(h:H)(n W:Nat)(c:h W=some ⟨256,[[.v (.int .u64 ((d:Nat):Int))]]⟩)(z:d<18446744073709551616)(N:l.length<=1000):yp 182 [.l (l.map iR),.mptr W 0 0] h n (λx h' g=>h'=upd h W (some ⟨256,[[.v (.int .u64 (((l.flatMap bZ).foldl gP d:Nat):Int))]]⟩)/\n<=g):=by
 refine oP func182 λo ff=>?_;unfold f182;have O:W<n:=Nat.lt_of_not_le λq=>by(rw[o W q]at c;cases c)
 have ff:=qA @c ff;refine xa ?_;refine dK ?_;refine iF (Nat×Nat) [1,7,8] (λ⟨k,Z⟩=>(k<=l.length/\n<=Z,l.length-k,[(9,.i k)],upd h W (some ⟨256,[[.v (.int .u64 ((((l.take k).flatMap bZ).foldl gP d:Nat):Int))]]⟩),Z)) (0,_) ?_ (um:=by intro q;left;show upd h W (some ⟨256,[[.v (.int .u64 ((d:Nat):Int))]]⟩) q=h q;by_cases e:q=W;subst e;rw[bI];exact c.symm;rw[aI _ _ _ _ e]);rintro⟨k,Z⟩ ⟨X,f⟩;simp only[XX,XZ];have a:W<Z:=by omega
 have ff:=qA @a ff;refine xo ?_ ?_<;>intro w
 .
  have U:k<l.length:=by simpa using w
  have j:=F8 ((l.take k).flatMap bZ) z;have A:=F8 ((l.take (k+1)).flatMap bZ) z;have ff:=qE (IJ U) (Zhz l[k]!) (GU l[k]! 0) (UK l[k]! 0) ff;refine wB ?_;refine xv ?_;refine xj ?_;refine iF (Nat×Nat×Nat) [1,4,7,8,9] (λ⟨i,b,Z⟩=>(i<=8/\b<Z/\n<=b,8-i,[(5,.mptr b 0 0),(13,.i i)],upd (upd h W (some ⟨256,[[.v (.int .u64 ((((l.take k).flatMap bZ).foldl gP d:Nat):Int))]]⟩)) b (some ⟨257,[uG l[k]! i]⟩),Z)) (0,(Z+4),_) ?_ (um:=by exact λ_=>.inl rfl);rintro⟨i,b,Z⟩ ⟨hi,p,B⟩;simp only[XX,XZ];have a:W<Z:=by omega
  have ff:=qD @a @p (nH W b) ff;refine xo ?_ ?_ (hq:=rfl)<;>intro I
  .
   have t:i<8:=by(have V:=I;simp at V;omega)
   have E:((56:Int)-8*(i:Int)).toNat=56-8*i:=by omega
   have u:=VZ l[k]! (56-8*i) (by omega);have v:=Zhx (x:=l[k]!) t;have F:=GU l[k]! i;have ff:=qF @E @u @v (GU l[k]! i) (UK l[k]! i) ff;refine wB ?_;refine xa ?_;refine xb ?_;refine xb ?_;refine ah (i+1,b,_) (h5:=?_);refine iY (Ph o ?_ (λq K y=>?_)) ?_
   . first|(simp only[go_sem,ff];done)|(simp only[go_sem,ff];exact rfl)
   . simp only[upd];repeat rw[XV (by omega)]
   first|(simp only[go_sem,ff];done)|(simp only[go_sem,ff];exact rfl)
  have G:i=8:=by(have V:=I;simp at V;omega)
  subst G;refine aB ?_;refine tF ?_;refine Zl8 De 0 (m:=8) (e:=5) (row:=uG l[k]! 8) ?_ (GU _ _) (Zhv _ _);rw[Zhy];refine C9 (C:=De) 1 (R:=_) (by omega) (dP rfl) rfl rfl o1c ?_ ?_ ev o3h ev (by exact Jb (bZ l[k]!) (((l.take k).flatMap bZ).foldl gP d) _ _ W o2t j (by rw[j4];omega)) ?_
  . exact okU
  .
   try simp only[go_sem,ff]
   all_goals (first|done|rfl|decide|simp)
  rintro J Y r ⟨rfl,L⟩;refine xF ?_;try simp only[aH]
  refine xb ?_;refine ah (k+1,_) (h5:=?_);refine Ph o ?_ (λq K y=>?_)
  . rw[Zpj U];first|(simp only[go_sem,ff];done)|(simp only[go_sem,ff];exact rfl)
  simp only[upd];repeat rw[XV (by omega)]
 have M:k=l.length:=by omega
 subst M;refine aB ?_;exact bJ (upd h W (some ⟨256,[[.v (.int .u64 (((l.flatMap bZ).foldl gP d:Nat):Int))]]⟩)) (hr:=oS (k:=by first|omega|exact⟨rfl,om⟩)) (hh:=by rw[Yt];exact BD _)
def Tf(k:SKey):yk 37 [.agg k.d] (.b (uD k)):=by refine oO func37 λff=>?_;unfold f37;refine xa ?_;exact ye (k:=by simp[uD,aP,ZI])
def Te(f:Int)(u:Int):yk 36 [.i f,.i u] (.b (oU f u)):=by refine oO func36 λff=>?_;unfold f36;refine xa ?_;exact ye (k:=by simp[oU,ZI])
def Zg0(a:SKey)(b:SKey):yk 39 [.agg a.d,.agg b.d] (.i (Go.Rec.cmpI a.n b.n)):=by refine oO func39 λff=>?_;unfold f39;refine xa ?_;exact yi (hok:=oH Ga)
def Zhd(a:jo)(b:jo)(m:cZ a.sets):yk 16 [.agg a.d,.agg b.d] (.b (E9 a b)):=by refine oO func16 λff=>?_;unfold f16;refine xa ?_;refine xa ?_ (hok:=oH (UE _ _ m));exact ye (k:=by rw[show(a.cut==b.cut)=decide (a.cut=b.cut)by(rw[YD];simp),E9];rfl)
theorem ZeC(b a:Str)(k:SKey)(f u:Int):ES b a k f u=([k.n,k.a,f,u].flatMap bZ).foldl gP (a.foldl gP ([jS a.length].foldl gP (b.foldl gP Co))):=by unfold ES dig;rw[<-Za,<-Za,<-Za];congr 1;simp
theorem Zov(a:Str):((bs a).data.toList.map AU)=a.map bD:=by rw[mh];rfl
theorem NJ{s:RSet}{a:Str}{k:SKey}{f u:Int}(h:zF s a k f u=false):fu s a k f u=(TY,1):=XV o3x
theorem ZfG{s:RSet}{a:Str}{k:SKey}{f u:Int}(h:zF s a k f u=true):fu s a k f u=(EW s a k f u,0):=X0 h
theorem ZfK(x g:RSig):decide (x=g)=(x.zone==g.zone&&(x.key==g.key&&(x.alg==g.alg&&(x.frm==g.frm&&(x.unt==g.unt&&x.sum==g.sum))))):=by let⟨a,b,c,d,e,f⟩:=x;let⟨t,h,j,u,k,m⟩:=g;rw[YD];simp
def Zo2{s:RSet}(h:(qW s).2=0):(qW s).1.length<=1000:=by
 unfold qW at h ⊢;by_cases e:fw s=true
 . rw[X0 e];exact Kc ((iA s).1 e)
 rw[XV e]at h;cases h
def Ze3(b:Str)(a:Str)(k:SKey)(f:Int)(u:Int)(p:b.length<=1000000)(hz:a.length<=60):yk 107 [.l (b.map bD),.v (.string (bs a)),.agg k.d,.i f,.i u] (.v (.int .u64 ((ES b a k f u:Nat):Int))):=by
 refine oO func107 λff=>?_;unfold f107;have g:=F8 b (d:=Co) (by decide);have h:=F8 [jS a.length] g;have j:=F8 a h;have m:=Zkw hz;have ff:=qA @m ff;refine oD De ?_;refine aj (ya 1 (hct:=by exact Jb b Co _ _ _ o2t (by decide) om) (hk:=?_));rintro c Y r ⟨rfl,n⟩;refine yb ?_;refine aj (ya 4 (hct:=by exact Jb [jS a.length] (b.foldl gP Co) _ _ _ o2t g (by simp)) (hk:=?_));rintro c Y r ⟨rfl,o⟩;refine yb ?_;refine bX ?_;refine gconv De 1 (sb:=bs a) (u:=.string) (e:=5) ?_ (by rw[Zo8];omega);rw[Zov];refine C9 (C:=De) 2 (R:=_) om (dP rfl) rfl rfl o1c ?_ ?_ ev o3h ev (by exact Jb a ([jS a.length].foldl gP (b.foldl gP Co)) _ _ _ o2t h om) ?_
 . exact okU
 .
  try simp only[go_sem,ff]
  all_goals (first|done|rfl|decide|simp)
 rintro c t v ⟨rfl,w⟩;refine xF ?_;try simp only[aH]
 refine aj (ya 8 (hct:=by exact Zi5 [k.n,k.a,f,u] (a.foldl gP ([jS a.length].foldl gP (b.foldl gP Co))) _ _ _ o2t j (by simp)) (hk:=?_));rintro c Y r ⟨rfl,x⟩;refine yb ?_;exact ye (k:=by rw[ZeC];try rfl)
def Tv(s:RSet)(c:Str)(k:SKey)(f:Int)(u:Int):yk 43 [.agg s.d,.v (.string (bs c)),.agg k.d,.i f,.i u] (.tuple [.agg (fu s c k f u).1.d,.i (fu s c k f u).2]):=by
 refine oO func43 λff=>?_;unfold f43;refine xa ?_;refine xf ?_ ?_ (hok:=oa4 @Tf @Te @yF @LA)<;>intro w
 . exact ye (K:=2) (k:=o2j)
 refine xa ?_ (hok:=oF (U3 _));refine xf ?_ ?_<;>intro I
 . exact ye (K:=2) (k:=o2j)
 refine aj ?_;refine xa ?_ (hok:=oF (Dw _ _));refine xi ?_ ?_<;>intro a
 . exact ye (K:=2) (k:=o2j)
 refine bM ?_;have g:(qW s).1.length<=1000000:=Nat.le_trans (Zo2 (by grind)) om;have h:=iE (l:=c) (by grind);exact ye (K:=2) (hok:=oF (Ze3 _ _ _ _ _ g h)) (k:=by rw[ZfG (by unfold zF;rw[<-wU];grind)];try rfl)
def ZgO(s:RSet)(g:RSig)(k:SKey):yk 14 [.agg s.d,.agg g.d,.agg k.d] (.b (y7 s g k)):=by refine oO func14 λff=>?_;unfold f14;refine xa ?_;refine xa ?_ (hok:=oF (Tv _ _ _ _ _));exact ye (k:=by rw[y7,ZfK];rfl)
def ZcX(z:Zon)(s:Str):yk 50 [.agg z.d,.v (.string (bs s))] (.tuple [.v (.string (bs (jY z s).1)),.b (jY z s).2.1,.i (jY z s).2.2]):=by
 refine oO func50 λff=>?_;unfold f50;refine xa ?_;refine xf ?_ ?_ (hok:=oI yF (vw z))<;>intro w
 . exact ye (K:=1) (k:=by simp only[jY];rw[if_neg (by simp only[Bool.and_eq_true];grind)])
 have f:ai s=true:=by grind
 have V:ak z=true:=by grind
 have o:ai z.apex=true:=(zL.1 (by unfold ak at V;simp only[XU]at V;exact V.1.1.1.1.1)).apex;refine aj ?_;refine xa ?_ (hok:=oF (Dw _ _));refine xi ?_ ?_<;>intro I
 . exact ye (K:=1) (k:=by simp only[jY];rw[X0 (by rw[f,V];rfl),XV (by have h:=I;unfold fT at h;rw[f,o]at h;simpa using h)])
 have u:under s z.apex=true:=by have h:=I;unfold fT at h;rw[f,o]at h;simpa using h
 refine bM ?_;refine xa ?_;refine xj ?_;refine lq (Str×Nat) [2,9] (λ⟨m,Z⟩=>(ai m=true/\dW m z.apex/\fF z s=fF z m/\25<Z,(dH m).length,[(10,.v (.string (bs m)))],[(0,⟨24,[z.d]⟩),(25,⟨166,[z.d]⟩)],Z)) (s,_) ?_ (hA:=⟨f,((JG f o).1 u),rfl,iv⟩);rintro⟨m,Z⟩ ⟨g,j,n,E⟩;simp only[XX,XZ];have r:0<Z:=by omega
 have ff:=qB @E @r ff;refine oL De ?_ ?_<;>intro a
 .
  refine wD ?_;refine xa ?_ (hok:=oH (EK z ⟨m,2⟩ (zM V)));refine xp ?_ ?_ (hq:=rfl)<;>intro c
  . exact ye (K:=1) (k:=by simp only[jY];rw[X0 (by rw[f,V];rfl),X0 u,n,Zoh a (by simpa using c)])
  have p:bV z.sets ⟨m,2⟩=false:=by simpa using c
  let⟨O,t⟩:=Gu g j a;have v:tO m=jR m:=by unfold tO;rw[g,Ze.2 O];rfl
  have ff:=qA @v ff;refine xl ?_ (hok:=oV (Wi m));exact ah (jR m,_) (h1:=⟨((Bo g O).1),t,(by(try dsimp only);exact n.trans (ZbI g j a p).1),iv⟩) (h2:=by show(_:Nat)<_;exact(ZbI g j a p).2)
 refine aB ?_;exact ye (K:=1) (k:=by simp only[jY];rw[X0 (by rw[f,V];rfl),X0 u,n,Zoi a])
def RU(z:Zon):yk 33 [.agg z.d] (.tuple [.l ((if ak z then cK z else[]).map sR),.i (if ak z then 0 else 1)]):=by
 refine oO func33 λff=>?_;unfold f33;refine xa ?_;refine xf ?_ ?_ (hok:=oF (vw z))<;>intro w
 . exact ye (K:=2) (k:=by rw[show ak z=false by simpa using w];rfl)
 have V:ak z=true:=by simpa using w
 have j:(bB z).b.length=z.sets.length:=MO z;have m:=zM V;refine xa ?_ (hok:=oF (RV z (zM V)));refine xa ?_;refine aj ?_;refine wu 5 9 o3h o3h ?_;refine xa ?_;refine dK ?_;refine lq (Nat×Nat×Nat) [4,18,19] (λ⟨k,r,Z⟩=>(k<=z.sets.length/\r<Z/\9<r,z.sets.length-k,[(5,.mrow r 0 (fV (bB z) (k)).length),(20,.i k)],[(0,⟨24,[z.d]⟩),(9,⟨168,[(bB z).d]⟩),(r,⟨9,(fV (bB z) (k)).map sR⟩)],Z)) (0,12,_) ?_;rintro⟨k,r,Z⟩ ⟨X,O,n⟩;simp only[XX,XZ];have o:9<Z:=by omega
 have p:=OX (bB z) k;have ff:=qF @O @o (nH 0 9) (nH 0 r) (nH 9 r) ff;refine xo ?_ ?_<;>intro I
 .
  have U:k<z.sets.length:=by simpa using I
  have v:k<(bB z).b.length:=by omega
  have ff:=qB (bN U) (kC v) ff;refine wB ?_;refine xv ?_;refine xf ?_ ?_<;>intro a
  . refine aB ?_;refine xb ?_;have B:=Zjs (x:=bB z) (k:=k) (λh=>by unfold DD at h;exact h.elim a.1 a.2);have ff:=qA B ff;exact ah (k+1,r,_)
  by_cases f:(fV (bB z) (k)).length=0
  .
   have t:(fV (bB z) (k))=[]:=Yb f;have ff:=qB @f @t ff;refine xp ?_ ?_<;>intro c
   . refine xb ?_;refine xb ?_;have B:=Wp (x:=bB z) (k:=k) (show DD (bB z) k from a) (by simp only[K7];first|exact .inl f|grind);have ff:=qA B ff;exact ah (k+1,(Z+42),_)
   refine xl ?_;have B:=Wo (x:=bB z) (k:=k) (by simp only[K7];grind);have ff:=qA B ff;exact ah (k+1,r,_)
  have g:(fV (bB z) (k)).length-1<(fV (bB z) (k)).length:=by omega
  have y:(((fV (bB z) (k)).length:Int)-1).toNat=(fV (bB z) (k)).length-1:=by omega
  have u:(((fV (bB z) (k)).length:Int)==0)=false:=by rw[Ze];omega
  have ff:=qD @y @u (kC g) ff;refine xp ?_ ?_<;>intro c
  . refine xb ?_;refine xb ?_;have B:=Wp (x:=bB z) (k:=k) (show DD (bB z) k from a) (by simp only[K7];first|exact .inl f|grind);have ff:=qA B ff;exact ah (k+1,(Z+42),_)
  refine xl ?_;have B:=Wo (x:=bB z) (k:=k) (by simp only[K7];grind);have ff:=qA B ff;exact ah (k+1,r,_)
 have A:k=z.sets.length:=by omega
 subst A;refine aB ?_;exact ye (K:=2) (k:=by rw[V];rfl)
def ZiL{z:Zon}(hz:ak z=true){k:Nat}(hk:k<z.sets.length)(v:nS (dO z z.sets.length) z.sets[k]!.set.name=true):(dL (dO z z.sets.length) z.sets (k+1)).2=z.sets[k]!.set.name:=by
 let⟨j,A,c,g,f⟩:=QZ.1 v;have h:=lL hz;have m:=Rm h A;have e:=Zcj (f▸m) (Rm h hk);have a:mg (bB z)=true:=by unfold ak at hz;simp only[Bool.and_eq_true]at hz;grind
 unfold mg at a;have a:=(dG _ _ _).1 a j (Yh _) A;unfold cutAt at a;have p:(kH z)[j]! ≠ []:=by
  rcases m with⟨_,G⟩|⟨G,_⟩
  . exact absurd (JH _) (G _ ⟨j,A,c,g,rfl⟩)
  exact G
 have O:(kH z)[j]! = z.sets[j]!.set.name:=by
  by_cases q:(kH z)[j]! = z.sets[j]!.set.name
  . exact q
  have a:(let t:=z.sets[j]!.set.ty;if(kH z)[j]! = []then !decide (t=6)else if(kH z)[j]! = z.sets[j]!.set.name then decide (t=2)||decide (t=6)||decide (t=8)||decide (t=1)else decide (t=1))=true:=a;rw[XV p,XV q,c]at a;cases a
 rw[<-Rj _ _ _ _ hk];show(kH z)[k]! = _;rw[<-e,O,f]
theorem vK{z:Zon}{k:Nat}{c:Str}(h:k<z.sets.length)(j:(dL (dO z z.sets.length) z.sets (k+1)).2=c):iW (bB z) k=(c==[]||(!decide (z.sets[k]!.set.ty=2) && !decide (z.sets[k]!.set.ty=1))):=by unfold iW bB;show((kH z)[k]! == []||_)=_;unfold kH;rw[Rj _ _ _ _ h,j]
def ZiI(z:Zon):List.take z.sets.length ((o8 (bB z) z.sets.length z.sets.length).map bR)=(pE (bB z) z.sets.length).map bR:=by rw[UI];exact Ye (by rw[YX,xm];exact XW _)
def Zfl(z:Zon)(hz:ak z=true):yk 41 [.agg z.d] (.l ((pE (bB z) z.sets.length).map bR)):=by
 refine oO func41 λff=>?_;unfold f41;have h:=zM hz;refine xv ?_;refine xj ?_;refine lq (Nat×Nat) [1,3,14,15] (λ⟨k,Z⟩=>(k<=z.sets.length/\2<Z,z.sets.length-k,[(16,.i k)],[(0,⟨24,[z.d]⟩),(2,⟨175,gZ (vP (dO z (k)))⟩)],Z)) (0,_) ?_;rintro⟨k,Z⟩ ⟨X,E⟩;simp only[XX,XZ];have g:0<Z:=by omega
 have ff:=qB @E @g ff;refine xo ?_ ?_<;>intro w
 .
  have U:k<z.sets.length:=by simpa using w
  have ff:=qA (bN U) ff;refine wB ?_;refine xa ?_;refine xi ?_ ?_<;>intro I
  . refine xb ?_;refine xb ?_;have ff:=qA (QT (z:=z) (k:=k) (by grind)) ff;exact ah (k+1,_)
  refine xl ?_;have ff:=qA (QU (z:=z) (k:=k) (by grind)) ff;exact ah (k+1,_)
 have m:k=z.sets.length:=by omega
 subst m;refine aB ?_;refine Ml 3 2 ev ev rfl V6 ?_;refine xv ?_;refine xj ?_;refine lq (Nat×Str×Nat×Nat) [3,42,43] (λ⟨k,cut,f,Z⟩=>(k<=z.sets.length/\f<Z/\2<f/\cut=(dL (dO z z.sets.length) z.sets k).2,z.sets.length-k,[(6,.mrow f 0 z.sets.length),(7,.v (.string (bs cut))),(44,.i k)],[(0,⟨24,[z.d]⟩),(f,⟨4,(o8 (bB z) z.sets.length (k)).map bR⟩)],Z)) (0,[],(Z+4),_) ?_;rintro⟨k,cut,f,Z⟩ ⟨X,E,o,j⟩;simp only[XX,XZ];have g:0<Z:=by omega
 have ff:=qD @E @g (nH 0 f) ff;refine xo ?_ ?_<;>intro a
 .
  have U:k<z.sets.length:=by simpa using a
  have ff:=qD (bN U) (Fb (x:=bB z) X) (IK (l:=o8 (bB z) z.sets.length k) (n:=k) (by rw[Fb X];exact U)) ff;refine wB ?_;refine xa ?_;refine aj ?_;refine xi ?_ ?_<;>intro c
  . refine xb ?_;refine xb ?_;refine xb ?_;have J:=ZiL hz U c;have ff:=qA J ff;exact ah (k+1,(dL (dO z z.sets.length) z.sets (k+1)).2,f,_) (h3:=o0w) (h4:=o0w) (h5:=o0w)
  refine xi ?_ ?_<;>intro r
  .
   refine xa ?_ (hok:=oF (Dw _ _));refine xi ?_ ?_<;>intro t
   .
    refine xb ?_;refine xb ?_;refine xb ?_;have J:(dL (dO z z.sets.length) z.sets (k+1)).2=[]:=by show Zon.stepC _ (dL _ _ k).2 _=_;rw[<-j];simp only[Zon.stepC];grind
    have ff:=qA J ff;exact ah (k+1,(dL (dO z z.sets.length) z.sets (k+1)).2,f,_) (h3:=o0w) (h4:=o0w) (h5:=o0w)
   refine xl ?_;refine xb ?_;have J:(dL (dO z z.sets.length) z.sets (k+1)).2=cut:=by show Zon.stepC _ (dL _ _ k).2 _=_;rw[<-j];simp only[Zon.stepC];grind
   have ff:=qA J ff;exact ah (k+1,(dL (dO z z.sets.length) z.sets (k+1)).2,f,_) (h3:=o0w) (h4:=o0w) (h5:=o0w)
  refine xl ?_;refine xb ?_;have J:(dL (dO z z.sets.length) z.sets (k+1)).2=cut:=by show Zon.stepC _ (dL _ _ k).2 _=_;rw[<-j];simp only[Zon.stepC];grind
  have ff:=qA J ff;exact ah (k+1,(dL (dO z z.sets.length) z.sets (k+1)).2,f,_) (h3:=o0w) (h4:=o0w) (h5:=o0w)
 refine aB ?_;have p:k=z.sets.length:=by omega
 subst p;have ff:=qB (ZiI z) (Fb (x:=bB z) (XW z.sets.length)) ff;refine xa ?_;exact oN (fin 1 (hr:=oR) (hk:=by(try simp only[go_sem,ff]);all_goals (exact xm _ _)))
def sw(l:List SKey)(j:Nat):List SKey:=(l.set j l[j-1]!).set (j-1) l[j]!
def sw_d{l:List SKey}{j:Nat}:((l.map SKey.d).set j [.v (.int .i64 l[j-1]!.n),.v (.int .i64 l[j-1]!.a)]).set (j-1) [.v (.int .i64 l[j]!.n),.v (.int .i64 l[j]!.a)]=(sw l j).map SKey.d:=by unfold sw;rw[List.map_set,List.map_set];rfl
def sw_g{l:List SKey}{j:Nat}{x:List D}(h0:0<j):((l.map SKey.d).set j x).getD (j-1) []=(l.map SKey.d).getD (j-1) []:=by rw[List.getD,List.getD,List.getElem?_set_ne (by omega)]
def ZeB{l:List SKey}{j:Nat}(h:j<l.length):(sw l j).Perm l:=by unfold sw;rw[getElem!_pos l j h,getElem!_pos l (j-1) (by omega)];exact List.set_set_perm h om
theorem Td{l:List SKey}{j:Nat}(h:j<l.length)(h0:0<j)(a:Nat):(sw l j)[a]! = if a=j-1 then l[j]! else if a=j then l[j-1]! else l[a]! := by
 unfold sw;by_cases y:a=j-1
 . rw[X0 y,y,getElem!_pos ((l.set j l[j-1]!).set (j-1) l[j]!) (j-1) (by simp;omega),List.getElem_set_self]
 rw[XV y];by_cases c:a<l.length
 .
  rw[getElem!_pos ((l.set j l[j-1]!).set (j-1) l[j]!) a (by simp;omega),List.getElem_set_ne (by omega)];by_cases O:a=j
  . rw[X0 O];subst O;rw[List.getElem_set_self]
  rw[XV O,List.getElem_set_ne (by omega),getElem!_pos l a c]
 rw[XV (by omega),getElem!_neg ((l.set j l[j-1]!).set (j-1) l[j]!) a (by simp;omega),getElem!_neg l a c]
def Gz(l:List SKey)(i j:Nat):Prop:=∀a b,a<b->b<=i->b≠j->l[a]!.n<=l[b]!.n
def JR(l:List SKey)(i:Nat):Prop:=∀a b,a<b->b<i->l[a]!.n<=l[b]!.n
def Tw{l:List SKey}{i:Nat}(h:JR l i):Gz l i i:=λa b J Y A=>h a b J om
def Ze6{l:List SKey}{i j:Nat}(h:Gz l i j)(A:j<l.length)(h0:0<j)(hi:j<=i)(M:l[j]!.n<=l[j-1]!.n):Gz (sw l j) i (j-1):=by
 intro a b J Y c;rw[Td A h0,Td A h0,XV c];by_cases e:b=j
 .
  rw[X0 e];by_cases y:a=j-1
  . rw[X0 y];exact M
  rw[XV y,XV (by omega)];exact h a (j-1) (by omega) (by omega) (by omega)
 rw[XV e];by_cases y:a=j-1
 . rw[X0 y];exact h j b (by omega) Y e
 rw[XV y];by_cases O:a=j
 . rw[X0 O];exact h (j-1) b (by omega) Y e
 rw[XV O];exact h a b J Y e
def Ze8{l:List SKey}{i j:Nat}(h:Gz l i j)(hi:j<=i)(M:j=0\/l[j-1]!.n<=l[j]!.n):JR l (i+1):=by
 intro a b J Y;by_cases e:b=j
 .
  subst e;rcases M with M|M
  . omega
  by_cases y:a=b-1
  . rw[y];exact M
  exact Int.le_trans (h a (b-1) om om om) M
 exact h a b J om e
def Ze7{l:List SKey}{i:Nat}(h:JR l i)(hi:i=l.length):l.Pairwise λa b=>a.n<=b.n:=by rw[Y6];intro a b J Y A;have:=h a b A om;rwa [getElem!_pos l a J,getElem!_pos l b Y]at this
def Zev(ks:List SKey):List.take ks.length ((di ks).map SKey.d)=(di ks).map SKey.d:=Ye (by rw[YX,(zD ks).length_eq];exact XW _)
def Zg9(ks:List SKey)(h:ks.length<=1000000)(o:qR ks=false):yk 13 [.l (ks.map SKey.d)] (.l ((di ks).map SKey.d)):=by
 refine oO func13 λff=>?_;unfold f13;refine oD De ?_;refine xj ?_;refine lq (Nat×(List SKey)×Nat×Nat) [] (λ⟨i,l,b,Z⟩=>(i<=ks.length/\b<Z/\l.Perm ks/\JR l i,ks.length-i,[(3,.mrow b 0 ks.length),(4,.i i)],[(b,⟨62,l.map SKey.d⟩)],Z)) (0,ks,4,_) ?_ (hA:=⟨iv,iv,(List.Perm.refl _),(by first|(intro a b J Y;omega)|(dsimp only;intro a b J Y;omega))⟩);rintro⟨i,l,b,Z⟩ ⟨hi,E,F,N⟩;simp only[XX,XZ];have f:l.length=ks.length:=F.length_eq;have ff:=qB @E @f ff;refine xt ?_ ?_<;>intro w
 .
  have p:i<ks.length:=by simpa using w
  refine wD ?_;refine xa ?_;refine dK ?_;refine lq (Nat×(List SKey)×Nat) [3,4] (λ⟨j,m,Z⟩=>(j<=i/\b<Z/\m.Perm ks/\Gz m i j,j,[(5,.i j)],[(b,⟨62,m.map SKey.d⟩)],Z)) (i,l,_) ?_ (hA:=⟨iv,iv,F,(Tw N)⟩);rintro⟨j,m,Z⟩ ⟨A,k,c,g⟩;simp only[XX,XZ];have r:m.length=ks.length:=c.length_eq;have t:=Em (l:=m) (n:=j) (by omega);have u:=Em (l:=m) (n:=j-1) (by omega);have y:((j:Int)-1).toNat=j-1:=by omega
  have ff:=qF @k @r @t @u @y ff;refine oL De ?_ ?_<;>intro I
  . have ff:=qA (sw_g (l:=m) (j:=j) (x:=[.v (.int .i64 m[j-1]!.n),.v (.int .i64 m[j-1]!.a)]) (by omega)) ff;refine wD ?_;refine xv ?_;refine xb ?_;refine xb ?_;have B:=sw_d (l:=m) (j:=j);have ff:=qA B ff;exact ah (j-1,sw m j,_) (h1:=⟨iv,iv,(by(try dsimp only);exact(ZeB om).trans c),(by(try dsimp only);exact Ze6 g om om A (by grind))⟩)
  refine aB ?_;refine xb ?_;exact ah (i+1,m,b,_) (h1:=⟨iv,iv,c,(by(try dsimp only);exact Ze8 g om (by grind))⟩)
 refine aB ?_;have v:i=ks.length:=by omega
 subst v;have O:=TB F (Ze7 N f.symm) o;subst O;have ff:=qA (Zev ks) ff;refine xa ?_;exact oN (fin 1 (hr:=oR) (hk:=by(try simp only[go_sem,ff]);all_goals (exact(zD ks).length_eq)))
end Go.Proofs.YtjhhnhgflmkenaaGreatDoor
namespace Go.Proofs.YtjhhnhgflmkenaaGreatDoor
open Go.Proofs.Tryz
open Go.DL Go.Str Go.Rec Go.Zon Go.Cmp Go.Jn Go.RowKit
set_option maxRecDepth 10000
variable [Dr] [Glob prog] [Told]
def Zfb:Go.Shelf.Ren:={ f:=λx=>match x with|6=>38|15=>101|14=>100|28=>175|29=>176|20=>167|21=>168|22=>169|23=>170|24=>171|25=>172|26=>173|27=>174|46=>253|47=>254|48=>255|49=>256|50=>257|57=>300|n=>n,t:=λx=>match x with|22=>29|24=>62|25=>107|3=>3|39=>174|0=>0|53=>251|55=>57|4=>4|46=>245|45=>244|50=>180|5=>5|9=>9|66=>319|70=>323|76=>354|77=>355|n=>n,g:=λn=>n }
def srtK:Go.Proofs.SlLaysF0.n6 prog Zfb:={
 mixed:=by kernel_rfl
 f6:=⟨f38.name,by decide,func38.trans (by kernel_rfl)⟩
 f14:=⟨f100.name,by decide,func100.trans (by kernel_rfl)⟩
 f15:=func101.trans (by kernel_rfl)
 f20:=⟨f167.name,by decide,func167.trans (by kernel_rfl)⟩
 f21:=⟨f168.name,by decide,func168.trans (by kernel_rfl)⟩
 f22:=⟨f169.name,by decide,func169.trans (by kernel_rfl)⟩
 f23:=⟨f170.name,by decide,func170.trans (by kernel_rfl)⟩
 f24:=⟨f171.name,by decide,func171.trans (by kernel_rfl)⟩
 f25:=⟨f172.name,by decide,func172.trans (by kernel_rfl)⟩
 f26:=⟨f173.name,by decide,func173.trans (by kernel_rfl)⟩
 f27:=⟨f174.name,by decide,func174.trans (by kernel_rfl)⟩
 f28:=func175.trans (by kernel_rfl)
 f29:=func176.trans (by kernel_rfl)
 f46:=⟨f253.name,by decide,func253.trans (by kernel_rfl)⟩
 f47:=func254.trans (by kernel_rfl)
 f48:=func255.trans (by kernel_rfl)
 f49:=⟨f256.name,by decide,func256.trans (by kernel_rfl)⟩
 f50:=⟨f257.name,by decide,func257.trans (by kernel_rfl)⟩
 f57:=⟨f300.name,by decide,func300.trans (by kernel_rfl)⟩
 t0:=underlying0
 a0:=Tryz.isAgg0
 z0:=Tryz.sizeOf0
 v0:=Tryz.zeroValue0
 t3:=underlying3
 a3:=Tryz.isAgg3
 z3:=Tryz.sizeOf3
 v3:=Tryz.zeroValue3
 t4:=underlying4
 a4:=Tryz.isAgg4
 z4:=Tryz.sizeOf4
 v4:=Tryz.zeroValue4
 t5:=underlying5
 a5:=Tryz.isAgg5
 z5:=Tryz.sizeOf5
 v5:=Tryz.zeroValue5
 t9:=underlying9
 a9:=Tryz.isAgg9
 z9:=Tryz.sizeOf9
 v9:=Tryz.zeroValue9
 t22:=underlying29
 a22:=Tryz.isAgg29
 z22:=Tryz.sizeOf29
 v22:=Tryz.zeroValue29
 t25:=underlying107
 a25:=Tryz.isAgg107
 z25:=Tryz.sizeOf107
 v25:=Tryz.zeroValue107
 t39:=underlying174
 a39:=Tryz.isAgg174
 z39:=Tryz.sizeOf174
 v39:=Tryz.zeroValue174
 t45:=underlying244
 a45:=Tryz.isAgg244
 z45:=Tryz.sizeOf244
 v45:=Tryz.zeroValue244
 t46:=underlying245
 a46:=Tryz.isAgg245
 z46:=Tryz.sizeOf245
 v46:=Tryz.zeroValue245
 t50:=underlying180
 a50:=Tryz.isAgg180
 z50:=Tryz.sizeOf180
 v50:=Tryz.zeroValue180
 t53:=underlying251
 a53:=Tryz.isAgg251
 z53:=Tryz.sizeOf251
 v53:=Tryz.zeroValue251
 t55:=underlying57
 a55:=Tryz.isAgg57
 z55:=Tryz.sizeOf57
 v55:=Tryz.zeroValue57
 t66:=underlying319
 a66:=Tryz.isAgg319
 z66:=Tryz.sizeOf319
 v66:=Tryz.zeroValue319
 t70:=underlying323
 a70:=Tryz.isAgg323
 z70:=Tryz.sizeOf323
 v70:=Tryz.zeroValue323
 t76:=underlying354
 a76:=Tryz.isAgg354
 z76:=Tryz.sizeOf354
 v76:=Tryz.zeroValue354
 t77:=underlying355
 a77:=Tryz.isAgg355
 z77:=Tryz.sizeOf355
 v77:=Tryz.zeroValue355 }
def Zfm(l:List SKey)(m:Nat)(h:H)(n r:Nat)(v:m=l.length)(j:l.length<=1000000)(hr:h r=some ⟨62,l.map SKey.d⟩) :
  yp 38 [.mrow r 0 m,.fn (.func 39) [] []] h n (λd h' g=>d = .tuple []/\g=n /\ ∃f:List SKey,f.Perm l/\(f.Pairwise λa b=>a.n<=b.n)/\h'=upd h r (some ⟨62,f.map SKey.d⟩)):=by
 have e:m=(l.map SKey.d).length:=by simp[v]
 rw[e];have E : ∀x∈l.map SKey.d,SKey.d (SKey.of x)=x:=λx E=>by obtain⟨s,N,rfl⟩:=Yp.1 E;rw[OM]
 refine(ND (ty:=62) srtK rfl rfl Tryz.isAgg62 Tryz.sizeOf62 (λx y=>Go.Rec.cmpI (SKey.of x).n (SKey.of y).n) (by kernel_rfl) hr Zjf rfl (by simp;omega) (λx J y Y=>?_) ⟨λx J=>?_,λx J y Y z A=>?_,λx J y Y z A=>?_⟩).mono ?_
 .
  letI iD:Dr:=I8
  have:=Zg0 (SKey.of x) (SKey.of y);rw[E x J,E y Y]at this;exact this
 . simp only[Go.Rec.cmpI];grind
 . simp only[Go.Rec.cmpI];grind
 . simp only[Go.Rec.cmpI];grind
 rintro d h' g ⟨rfl,rfl,c,F,N,rfl⟩;let⟨B,W⟩:=UF OM F;refine⟨rfl,rfl,c.map SKey.of,W,?_,by rw[B]⟩;rw[List.pairwise_map];refine N.imp λ{a b}A=>?_;have A : ¬Go.Rec.cmpI (SKey.of b).n (SKey.of a).n<0:=A;simp only[Go.Rec.cmpI]at A;grind
theorem Zou{m:Nat}{x:List D}{l:List SKey}(h:l.length=m):List.take 0 (List.replicate m x)++l.map SKey.d++List.drop (0+m) (List.replicate m x)=l.map SKey.d:=by simp
def ui(ks:List SKey)(i:Nat):Bool:=uD ks[i]!
theorem Ld(ks:List SKey):ks.all uD=ax ks.length (ui ks) 0:=by
 rw[YD,YA,dG];constructor
 . intro h i _ hi;unfold ui;rw[getElem!_pos ks i hi];exact h _ (Yz hi)
 intro h k X;obtain⟨i,hi,rfl⟩:=Zb X;have:=h i (Yh _) hi;unfold ui at this;rwa [getElem!_pos ks i hi]at this
section
variable {z : Zon} {ks : List SKey} {f u : Int}
theorem ZpM(h:ks.length<1\/6<ks.length\/oU f u=false\/ak z=false):allR z ks f u=(⟨[],[]⟩,1):=X0 h
theorem ZpK(hq : ¬(ks.length<1\/6<ks.length\/oU f u=false\/ak z=false))(h:ax ks.length (ui ks) 0=false):allR z ks f u=(⟨[],[]⟩,1):=by unfold Zon.allR;rw[XV hq,X0 (by rw[Ld];exact h)]
theorem ZpH(hq : ¬(ks.length<1\/6<ks.length\/oU f u=false\/ak z=false))(hs:ax ks.length (ui ks) 0=true)(h:qR ks=true):allR z ks f u=(⟨[],[]⟩,5):=by unfold Zon.allR;rw[XV hq,XV (by rw[Ld,hs];decide),X0 h]
theorem ZpJ(hq : ¬(ks.length<1\/6<ks.length\/oU f u=false\/ak z=false))(hs:ax ks.length (ui ks) 0=true)(m:qR ks=false)(h:ax z.sets.length (rH z (di ks) f u) 0=false):allR z ks f u=(⟨[],[]⟩,1):=by unfold Zon.allR;rw[XV hq,XV (by rw[Ld,hs];decide),XV (by rw[m];decide),X0 h]
theorem ZpI(hq : ¬(ks.length<1\/6<ks.length\/oU f u=false\/ak z=false))(hs:ax ks.length (ui ks) 0=true)(m:qR ks=false)(h:ax z.sets.length (rH z (di ks) f u) 0=true):allR z ks f u=(jy z (di ks) f u,0):=by unfold Zon.allR;rw[XV hq,XV (by rw[Ld,hs];decide),XV (by rw[m];decide),XV o3x]
end
theorem Zne{ks l:List SKey}(hp:l.Perm ks){k:Nat}(h0:0<k)(hk:k<l.length)(h:l[k-1]!.n=l[k]!.n):qR ks=true:=by unfold qR;rw[Ya,X6];intro f;have a:(l.map SKey.n).Nodup:=(hp.map SKey.n).nodup_iff.2 f;have:=(Y6.1 a) (k-1) k (by simp;omega) (by simp;omega) om;rw[getElem!_pos l (k-1) (by omega),getElem!_pos l k hk]at h;exact this (by rw[List.getElem_map,List.getElem_map];exact h)
def Znf{ks l:List SKey}(hp:l.Perm ks)(hs:l.Pairwise λa b=>a.n<=b.n)(h : ∀i,0<i->i<l.length->l[i-1]!.n≠l[i]!.n):qR ks=false:=by
 unfold qR;rw[Yr,XY];refine(hp.map SKey.n).nodup_iff.1 (Y6.2 λa b J Y A=>?_);rw[YX]at J Y;rw[List.getElem_map,List.getElem_map];have G:=h b (by omega) Y;rw[getElem!_pos l (b-1) (by omega),getElem!_pos l b Y]at G;have c:=(Y6.1 hs) (b-1) b (by omega) Y (by omega);by_cases e:a=b-1
 . subst e;exact G
 have f:=(Y6.1 hs) a (b-1) J (by omega) (by omega);omega
def vE(z:Zon)(ks:List SKey)(f u:Int)(k j:Nat):List RSig:=(ks.take j).map λq=>(fu z.sets[k]!.set z.apex q f u).1
@[go_sem]theorem sgj_0{z:Zon}{ks:List SKey}{f u:Int}{k:Nat}:vE z ks f u k 0=[]:=rfl
def ZfX{z:Zon}{ks:List SKey}{f u:Int}{k j:Nat}(h:j<=ks.length):(vE z ks f u k j).length=j:=by unfold vE;simp;omega
def ZfW{z:Zon}{ks:List SKey}{f u:Int}{k j:Nat}(h:j<ks.length):(vE z ks f u k j).map RSig.d++[[.v (.string (bs (fu z.sets[k]!.set z.apex ks[j]! f u).1.zone)),.v (.int .i64 (fu z.sets[k]!.set z.apex ks[j]! f u).1.key),.v (.int .i64 (fu z.sets[k]!.set z.apex ks[j]! f u).1.alg),.v (.int .i64 (fu z.sets[k]!.set z.apex ks[j]! f u).1.frm),.v (.int .i64 (fu z.sets[k]!.set z.apex ks[j]! f u).1.unt),.v (.int .u64 (fu z.sets[k]!.set z.apex ks[j]! f u).1.sum)]]=(vE z ks f u k (j+1)).map RSig.d:=by unfold vE;rw[nE! h,Yv,Yv];rfl
def ZfH{s:RSet}{a:Str}{k:SKey}{f u:Int}(h : ¬(fu s a k f u).2=0):(fu s a k f u).2=1:=by unfold fu at h ⊢;split<;>simp_all
theorem ZfV{z:Zon}{ks:List SKey}{f u:Int}{k j:Nat}(t:iW (bB z) k=true)(A:j<ks.length)(h : ¬(fu z.sets[k]!.set z.apex ks[j]! f u).2=0):rH z ks f u k=false:=by unfold rH;rw[t,Bool.not_true,Bool.false_or,<-Bool.not_eq_true,YA];intro q;have:=q _ (Yz A);rw[getElem!_pos ks j A]at h;exact h (by simpa using this)
def ZfT{z:Zon}{ks:List SKey}{f u:Int}{k:Nat}(h : ∀j,j<ks.length->(fu z.sets[k]!.set z.apex ks[j]! f u).2=0):rH z ks f u k=true:=by unfold rH;rw[Yc,YA];right;intro q K;obtain⟨j,A,rfl⟩:=Zb K;have:=h j A;rw[getElem!_pos ks j A]at this;simpa using this
def ZfU{z:Zon}{ks:List SKey}{f u:Int}{k:Nat}(h:iW (bB z) k=false):rH z ks f u k=true:=by unfold rH;rw[h];rfl
def EZ(z:Zon)(ks:List SKey)(f u:Int)(k i:Nat):List D :=
 if i<k then[.v (.string (bs z.sets[i]!.set.name)),.i z.sets[i]!.set.ty,.i z.sets[i]!.set.life,.l (z.sets[i]!.set.data.map Dat.d),if iW (bB z) i=true then .l ((vE z ks f u i ks.length).map RSig.d)else .e]
 else[.v (.string (bs [])),.i 0,.i 0,.e,.e]
def qg(z:Zon)(ks:List SKey)(f u:Int)(k:Nat):List (List D):=(List.range z.sets.length).map (EZ z ks f u k)
section
variable (z : Zon) (ks : List SKey) (f u : Int)
theorem NR(k:Nat):(qg z ks f u k).length=z.sets.length:=by simp[qg]
def sg_0:List.replicate z.sets.length [D.v (.string (bs [])),.v (.int .i64 0),.v (.int .i64 0),.e,.e]=qg z ks f u 0:=by unfold qg;refine List.ext_getElem (by simp) λi J Y=>?_;simp[EZ]
def Zf5{k:Nat}(h:k<z.sets.length):(qg z ks f u k).getD k []=[.v (.string (bs [])),.i 0,.i 0,.e,.e]:=by unfold qg;simp[List.getD,h,EZ]
def Uj{k:Nat}{x:D}(E:x=if iW (bB z) k=true then .l ((vE z ks f u k ks.length).map RSig.d)else .e):(qg z ks f u k).set k [.v (.string (bs z.sets[k]!.set.name)),.v (.int .i64 z.sets[k]!.set.ty),.v (.int .i64 z.sets[k]!.set.life),.l (z.sets[k]!.set.data.map Dat.d),x]=qg z ks f u (k+1):=by
 subst E;unfold qg;refine List.ext_getElem (by simp) λi J Y=>?_;rw[List.getElem_set];simp only[List.getElem_map,List.getElem_range];unfold EZ;by_cases e:k=i
 . subst e;rw[X0 rfl,X0 (Nat.lt_succ_self _)]
 rw[XV e];by_cases O:i<k
 . rw[X0 O,X0 (Nat.lt_succ_of_lt O)]
 rw[XV O,XV (by omega)]
theorem EY(k:Nat):aQ (qg z ks f u k)=true:=by
 unfold qg;generalize List.range z.sets.length=L;induction L with
 | nil=>rfl
 | cons i L a =>
  simp only[X7,aQ,a,Bool.and_true];unfold EZ;split
  . split<;>simp[aX,D.nr,aQ,mM,Bu]
  simp[aX,D.nr,aQ]
theorem Ua : ∀n,CV z ks f u n=(List.range n).map (AZ z ks f u)
 | 0=>rfl
 | n+1=>by rw[List.range_succ,Yv,<-Ua n];rfl
theorem Zf6:dB (qg z ks f u z.sets.length)=(jy z ks f u).sets.map Sgd.d:=by unfold qg jy;rw[EO,Ua,List.map_map,List.map_map];refine Y3 λi hi=>?_;have a:i<z.sets.length:=Zk.1 hi;simp only[Function.comp_apply,EZ,AZ,vE,Yt];rw[X0 a];split<;>simp only[dA,wk,Sgd.d,qb,CE,dB,Yy]
end
set_option maxHeartbeats 2000000 in
def ZgZ(z:Zon)(ks:List SKey)(f:Int)(u:Int):yk 9 [.agg z.d,.l (ks.map SKey.d),.i f,.i u] (.tuple [.agg (allR z ks f u).1.d,.i (allR z ks f u).2]):=by
 refine oO func9 λff=>?_;unfold Tryz.f9;refine xa ?_;refine xf ?_ ?_ (hok:=oI Te (vw z))<;>intro w
 . refine xa ?_;exact oN (fin 2 (hr:=oS (k:=by rw[ZpM (by grind)];try rfl)) (hk:=o1I))
 have K : ¬(ks.length<1\/6<ks.length\/oU f u=false\/ak z=false):=by grind
 have V:ak z=true:=by grind
 have b7:=zM V;have b8:ks.length<=6:=by omega
 have b9:1<=ks.length:=by omega
 refine xj ?_;refine lq (Nat×Nat) [1,2,3,4,8,44,45] (λ⟨k,Z⟩=>(k<=ks.length/\ax ks.length (ui ks) 0=ax ks.length (ui ks) k/\1<Z,ks.length-k,[(46,.i k)],[(0,⟨24,[z.d]⟩),(1,⟨24,[[.v (.string (bs [])),.e]]⟩)],Z)) (0,_) ?_;rintro⟨k,Z⟩ ⟨X,hv,E⟩;simp only[XX,XZ];have v:0<Z:=by omega
 have ff:=qB @E @v ff;refine xo ?_ ?_<;>intro I
 .
  have U:k<ks.length:=by simpa using I
  have ff:=qA (Em U) ff;refine wB ?_;refine xa ?_;refine xi ?_ ?_ (hok:=oF (Tf _))<;>intro a
  . refine xa ?_;exact oN (fin 2 (hr:=oS (k:=by have hF:ui ks k=false:=(by unfold ui;grind);rw[ZpK K (by rw[hv,ed U hF])];try rfl)) (hk:=o1I))
  refine xl ?_;have T:(ui ks) k=true:=by unfold ui;grind
  exact ah (k+1,_) (h1:=⟨iv,(by(try dsimp only);rw[hv,bC U T]),iv⟩)
 have W:k=ks.length:=by omega
 subst W;have N:ax ks.length (ui ks) 0=true:=by rw[hv,gB (by omega)]
 refine aB ?_;refine xa ?_;refine bX ?_;refine Qa De 2 (e:=62) (r:=Z+3) (off:=0) (m:=ks.length) (news:=ks.map SKey.d) ?_ (hrl:=o2p) (h0:=by omega);rw[Zou rfl];refine xF ?_;try simp only[aH]
 refine aj (ya 1 (hct:=by exact Zfm ks ks.length _ _ _ rfl om ev) (hk:=?_));rintro R Y n2 ⟨rfl,rfl,l,o,ab,rfl⟩;have ac:l.length=ks.length:=o.length_eq;refine yb ?_;refine xj ?_;refine lq (Nat×Nat×Nat) [2,3,4,8,64] (λ⟨k,b,Z⟩=>(k<=ks.length/\b<Z/\1<b/\(∀i,0<i->i<k->l[i-1]!.n≠l[i]!.n),ks.length-k,[(12,.mrow b 0 ks.length),(63,.mrow b 0 ks.length),(65,.i k)],[(0,⟨24,[z.d]⟩),(1,⟨24,[[.v (.string (bs [])),.e]]⟩),(b,⟨62,l.map SKey.d⟩)],Z)) (0,(Z+3),_) ?_ (hA:=⟨iv,iv,iv,o1H⟩);rintro⟨k,b,Z⟩ ⟨X,E,aq,t⟩;simp only[XX,XZ];have v:0<Z:=by omega
 have n1:1<Z:=by omega
 have ff:=qH @E @v @n1 @ac (nH 0 1) (nH 0 b) (nH 1 b) ff;refine xo ?_ ?_<;>intro c4
 .
  have U:k<ks.length:=by simpa using c4
  have am:k<l.length:=by omega
  have y:((k:Int)-1).toNat=k-1:=by omega
  have ff:=qD (Em am) (Em (l:=l) (n:=k-1) (by omega)) @y ff;refine wB ?_;refine xa ?_;refine xi ?_ ?_<;>intro c5
  . refine xa ?_;exact oN (fin 2 (hr:=oS (k:=by rw[ZpH K N (Zne o (by omega) am (by grind))];try rfl)) (hk:=o1I))
  refine xl ?_;exact ah (k+1,b,_) (h1:=⟨iv,iv,iv,(by(try dsimp only);intro i J Y;by_cases e:i=k;(subst e;grind);exact t i J om)⟩)
 have W:k=ks.length:=by omega
 subst W;have hd:=Znf o ab (by rw[ac];exact t);have O:=TB o ab hd;subst O;refine aB ?_;have F:(di ks).length=ks.length:=(zD ks).length_eq;refine xa ?_ (hok:=oF (Zfl z V));have ff:=qA (sg_0 z (di ks) f u) ff;refine xa ?_;refine xj ?_;refine lq (Nat×Nat×Nat×Nat×Nat) [2,3,4,8,15,95,96] (λ⟨k,b,g,h,Z⟩=>(k<=z.sets.length/\1<b/\b<g/\g<h/\h<Z/\ax z.sets.length (rH z (di ks) f u) 0=ax z.sets.length (rH z (di ks) f u) k,z.sets.length-k,[(12,.mrow b 0 ks.length),(16,.mptr h 0 0),(97,.i k)],[(0,⟨24,[z.d]⟩),(1,⟨24,[[.v (.string (bs [])),.e]]⟩),(b,⟨62,(di ks).map SKey.d⟩),(g,⟨56,(qg z (di ks) f u (k))⟩),(h,⟨24,[[.v (.string (bs z.apex)),.mrow g 0 z.sets.length]]⟩)],Z)) (0,b,(Z+9),(Z+11),_) ?_;rintro⟨k,b,g,h,Z⟩ ⟨X,aq,bb,be,E,G⟩;simp only[XX,XZ];have v:0<Z:=by omega
 have n1:1<Z:=by omega
 have nb:b<Z:=by omega
 have L:g<Z:=by omega
 have ff:=qI @E @v @n1 @nb @L @F (nH 0 1) (nH 0 b) (qI (nH 0 g) (nH 0 h) (nH 1 b) (nH 1 g) (nH 1 h) (nH b g) (nH b h) (nH h g) ff);refine xo ?_ ?_<;>intro c6
 .
  have U:k<z.sets.length:=by simpa using c6
  have yN:=(rA V).2 k U;have ff:=qG (bN U) (IK (l:=pE (bB z) z.sets.length) (n:=k) (by rw[xm];exact U)) (xm (bB z) z.sets.length) (OB (bB z) _ k U) (NR z (di ks) f u k) (Zf5 z (di ks) f u U) ff;refine wB ?_;refine xv ?_;refine xa ?_ (hok:=oS (k:=by exact Gb _ (Yd yN.1 om)));refine xr ?_ ?_ (hq:=rfl)<;>intro c7
  .
   refine xR (Z+10) 4 56 59 ev (by rfl) o3h ?_;simp only[List.set_cons_succ,List.set_cons_zero];refine xa ?_;refine dK ?_;refine lq (Nat×Nat×Nat×Nat) [2,3,4,8,12,15,16,17,95,96,97,115,116] (λ⟨j,p,c,Z⟩=>(j<=ks.length/\h<c/\c<p/\p<Z/\(∀i,i<j->(fu z.sets[k]!.set z.apex (di ks)[i]! f u).2=0),ks.length-j,[(19,.mptr c 0 0),(117,.i j)],[(0,⟨24,[z.d]⟩),(1,⟨24,[[.v (.string (bs [])),.e]]⟩),(b,⟨62,(di ks).map SKey.d⟩),(g,⟨56,(qg z (di ks) f u (k))⟩),(h,⟨24,[[.v (.string (bs z.apex)),.mrow g 0 z.sets.length]]⟩),(c,⟨56,[[.v (.string (bs z.sets[k]!.set.name)),.i z.sets[k]!.set.ty,.i z.sets[k]!.set.life,.l (z.sets[k]!.set.data.map Dat.d),.mrow p 0 j]]⟩),(p,⟨59,(vE z (di ks) f u k j).map RSig.d⟩)],Z)) (0,(Z+23),(Z+10),_) ?_ (hA:=⟨iv,iv,iv,iv,(by first|(intro i J;omega)|(dsimp only;intro i J;omega))⟩);rintro⟨j,p,c,Z⟩ ⟨A,bh,bm,E,BM⟩;simp only[XX,XZ];have v:0<Z:=by omega
   have n1:1<Z:=by omega
   have nb:b<Z:=by omega
   have L:g<Z:=by omega
   have n6:h<Z:=by omega
   have nc:c<Z:=by omega
   have ar:=ZfX (z:=z) (ks:=di ks) (f:=f) (u:=u) (k:=k) (j:=j) (by omega);have ff:=qF @E @v @n1 @nb @L (qI @n6 @nc @ar (nH 0 1) (nH 0 b) (nH 0 g) (nH 0 h) (nH 0 c) (qI (nH 0 p) (nH 1 b) (nH 1 g) (nH 1 h) (nH 1 c) (nH 1 p) (nH b g) (nH b h) (qI (nH b c) (nH b p) (nH h g) (nH c g) (nH p g) (nH c h) (nH p h) (nH c p) ff)));refine xo ?_ ?_<;>intro c8
   .
    have bp:j<ks.length:=by simpa using c8
    have M:j<(di ks).length:=by omega
    have ff:=qA (Em M) ff;refine wB ?_;refine xa ?_;refine xa ?_ (hok:=oF (Tv _ _ _ _ _));refine xf ?_ ?_<;>intro c9
    . have aw:=ZfH c9;have ff:=qA @aw ff;refine xa ?_;exact oN (fin 2 (hr:=oS (k:=by rw[ZpJ K N hd (by rw[G,ed U (ZfV c7 M c9)])];try rfl)) (hk:=o1I))
    refine xb ?_;refine xb ?_;have B:=ZfW (z:=z) (ks:=di ks) (f:=f) (u:=u) (k:=k) M;have ff:=qA B ff;exact ah (j+1,(Z+25),c,_) (h1:=⟨iv,iv,iv,iv,(by(try dsimp only);intro i J;by_cases e:i=j;(subst e;exact c9);exact BM i om)⟩)
   have e9:j=ks.length:=by omega
   subst e9;refine aB ?_;refine sP c 4 p (rows:=(vE z (di ks) f u k ks.length).map RSig.d) (off:=0) (len:=ks.length) ev rfl ev om (by simp;omega) Bu ?_;rw[X4,Ye (by simp;omega)];simp only[YC,Yx];refine xb ?_;refine xb ?_;have T:rH z (di ks) f u k=true:=ZfT (by rw[F];exact BM);have B:=Uj z (di ks) f u (k:=k) (x:=.l ((vE z (di ks) f u k ks.length).map RSig.d)) (by rw[X0 c7,F]);have ff:=qA B ff;exact ah (k+1,b,g,h,_) (h1:=⟨iv,iv,iv,iv,iv,(by(try dsimp only);rw[G,bC U T])⟩)
  refine xb ?_;refine xb ?_;have T:rH z (di ks) f u k=true:=ZfU c7;have B:=Uj z (di ks) f u (k:=k) (x:=.e) (by rw[XV (by rw[c7];decide)]);have ff:=qA B ff;exact ah (k+1,b,g,h,_) (h1:=⟨iv,iv,iv,iv,iv,(by(try dsimp only);rw[G,bC U T])⟩)
 have W:k=z.sets.length:=by omega
 subst W;refine aB ?_;refine sP h 1 g (rows:=(qg z (di ks) f u (z.sets.length))) (off:=0) (len:=z.sets.length) ev rfl ev (by omega) (by rw[NR];omega) (EY _ _ _ _ _) ?_;rw[X4,Ye (by rw[NR];exact XW _)];simp only[YC,Yx];refine xa ?_;exact oN (fin 2 (hr:=oS (k:=by rw[Zf6,ZpI K N hd (by rw[G,gB (by omega)])];try rfl)) (hk:=o1I))
end Go.Proofs.YtjhhnhgflmkenaaGreatDoor
namespace Go.Proofs.YtjhhnhgflmkenaaGreatDoor
open Go.Proofs.Tryz
open Go.DL Go.Str Go.Rec Go.Zon Go.Cmp Go.Jn Go.RowKit
set_option maxRecDepth 10000
variable [Dr] [Glob prog] [Told]
def Zn1(s:Sgd):yk 32 [.agg s.d] (.b (!decide (s.set.ty=8))):=by refine oO func32 λff=>?_;unfold f32;refine xa ?_;exact yi
def Znw(s:Sgd)(hs:sK s):yk 35 [.agg s.d] (.agg s.d):=by refine oO func35 λff=>?_;unfold f35;refine xa ?_;refine xa ?_ (hok:=oS (k:=o2X));refine xa ?_ (hok:=oS (k:=o2Y));exact yi (K:=2)
def Znh(l:List Sgd)(h:l.length<=1000000):yk 31 [.l (l.map Sgd.d),.fn (.func 32) [] []] (.l ((bL l).map Sgd.d)):=by
 refine oO func31 λff=>?_;unfold f31;refine xv ?_;refine aj ?_;refine wu 5 56 o3h o3h ?_;refine xa ?_;refine dK ?_;refine lq (Nat×Nat×Nat) [1,8,9] (λ⟨k,r,Z⟩=>(k<=l.length/\r<Z,l.length-k,[(5,.mrow r 0 (tC l k).length),(10,.i k)],[(r,⟨56,(tC l k).map Sgd.d⟩)],Z)) (0,2,_) ?_;rintro⟨k,r,Z⟩ ⟨X,O⟩;simp only[XX,XZ];have a:=ZfQ l k;have ff:=qA @O ff;refine xo ?_ ?_<;>intro w
 .
  have U:k<l.length:=by simpa using w
  have ff:=qA (bN U) ff;refine wB ?_;refine xa ?_;refine xi ?_ ?_ (hok:=oF (Zn1 l[k]!))<;>intro I
  . refine xb ?_;refine xb ?_;have B:=ZfM U I;have ff:=qA B ff;exact ah (k+1,(Z+11),_)
  refine xl ?_;have B:=ZfN U I;have ff:=qA B ff;exact ah (k+1,r,_)
 have c:k=l.length:=by omega
 subst c;refine aB ?_;exact ye (K:=1) (k:=by rw[ZfR])
@[go_sem]theorem keysOk_N{m:TM}:jl prog 9 (xD m)=true:=by
 induction m with
 | nil=>rfl
 | cons p m k=>rw[DU];simp only[jl,k,ko9,Zt]
@[go_sem high] theorem Zsl {P:Program}[Glob P] {t:TypeId}{k':IntKind}{b:Int}:fP P t .shl (.int .i64 1) (.int k' b)=(.int .i64 (MN b),0<=b):=by rw[Zpb];rfl
@[go_sem high] theorem binV_orX {P:Program}[Glob P] {t:TypeId}{k k':IntKind}{a b:Int}:fP P t .or (.int k a) (.int k' b)=(.int k (xn k a b),k=k'):=by rw[ZiR];rfl
@[go_sem high] theorem Zso {P:Program}[Glob P] {t:TypeId}{k k':IntKind}{a b:Int}:fP P t .and (.int k a) (.int k' b)=(.int k (Jr k a b),k=k'):=by rw[ZpF];rfl
@[go_sem high] theorem Zsp {P:Program}[Glob P] {t:TypeId}{k k':IntKind}{a b:Int}:fP P t .andNot (.int k a) (.int k' b)=(.int k (MV k a b),k=k'):=by rw[ZpG];rfl
def Znv(z:Zon)(f:List Str)(hz:ak z=true)(hn:f.length<=20000):yk 34 [.agg z.d,.l (f.map sR)] (.l ((nextF z f).map RSet.d)):=by
 refine oO func34 λff=>?_;unfold f34;have t:=zM hz;refine oD De ?_;refine xj ?_;refine lq (Nat×Nat) [1,2,5,18,19] (λ⟨k,Z⟩=>(k<=z.sets.length/\4<Z,z.sets.length-k,[(6,.i (zT z.sets k)),(20,.i k)],[(0,⟨24,[z.d]⟩),(4,⟨170,gZ (xD (yg z.sets k))⟩)],Z)) (0,_) ?_;rintro⟨k,Z⟩ ⟨X,E⟩;simp only[XX,XZ];have m:0<Z:=by omega
 have ff:=qB @E @m ff;refine xo ?_ ?_<;>intro w
 .
  have U:k<z.sets.length:=by simpa using w
  have h:=ZcO hz U;have u:1<=z.sets[k]!.set.ty/\z.sets[k]!.set.ty<=8:=by(have V:=h.ty;simp only[aP,XU,XY]at V;exact V)
  have n:0<z.sets[k]!.set.data.length:=h.len.1;have ff:=qD (bN U) (oh n) (Zd9 (l:=z.sets) (k:=k)) ff;refine wB ?_;refine xv ?_;refine xi ?_ ?_<;>intro I
  . refine xb ?_;refine xb ?_;have B:=Zks (l:=z.sets) (k:=k) I;have ff:=qA B ff;exact ah (k+1,_)
  refine xl ?_;have B:=Zkt (l:=z.sets) (k:=k) I;have ff:=qA B ff;exact ah (k+1,_)
 have o:k=z.sets.length:=by omega
 subst o;refine aB ?_;refine Ml 5 4 ev ev rfl Zjb ?_;have ff:=qA (nx_0 z f) ff;refine xa ?_;refine xj ?_;refine lq (Nat×Nat×Nat) [1,2,5,6,48,49] (λ⟨i,b,Z⟩=>(i<=f.length/\b<Z/\0<b,f.length-i,[(9,.mrow b 0 f.length),(50,.i i)],[(0,⟨24,[z.d]⟩),(b,⟨53,rU z f i⟩)],Z)) (0,(Z+3),_) ?_;rintro⟨i,b,Z⟩ ⟨hi,p,v⟩;simp only[XX,XZ];have m:0<Z:=by omega
 have x:=He z f i;have ff:=qD @p @m (nH 0 b) ff;refine xo ?_ ?_<;>intro a
 .
  have g:i<f.length:=by simpa using a
  obtain⟨j,A⟩:∃j:Nat,j=(i+1) % f.length:=⟨_,rfl⟩;have y:((i:Int)+1) % (f.length:Int)=(j:Int):=by rw[A];exact(Int.natCast_emod (i+1) f.length).symm
  have r:j<f.length:=by rw[A];exact Nat.mod_lt _ (by omega)
  have ff:=qE (kC g) @y (kC r) (Zi3 (z:=z) g) ff;refine wB ?_;refine xv ?_;refine xf ?_ ?_<;>intro c
  . refine xb ?_;refine xa ?_;refine xb ?_ (hok:=oS (k:=o0Z));refine xb ?_;have ff:=qA (VW g A (Zl2 c)) ff;exact ah (i+1,b,_)
  refine xa ?_;refine xb ?_ (hok:=oS (k:=o0Z));refine xb ?_;have ff:=qA (VW g A (Zl3 c)) ff;exact ah (i+1,b,_)
 have o:i=f.length:=by omega
 subst o;refine aB ?_;refine Mk 9 b (rows:=rU z f f.length) (off:=0) (len:=f.length) ev ev (by rw[He];omega) (VX _ _ _) ?_;rw[X4,Ye (by rw[He];exact XW _)];refine xa ?_;exact oN (fin 0 (hr:=oS (k:=by rw[Zi4])) (hk:=by(try simp only[go_sem,ff]);all_goals (exact VX z f f.length)))
end Go.Proofs.YtjhhnhgflmkenaaGreatDoor
namespace Go.Proofs.YtjhhnhgflmkenaaGreatDoor
open Go.Proofs.Tryz
open Go.DL Go.Str Go.Rec Go.Zon Go.Cmp Go.Jn Go.RowKit
set_option maxRecDepth 10000
variable [Dr] [Glob prog] [Told]
def ZjK(z:Zon):(cK z).length<=z.sets.length:=OX _ _
def ZfO(l:List Sgd):(bL l).length<=l.length:=List.length_filter_le _ _
def uM(r:RSet):List D:=[.v (.string (bs r.name)),.i r.ty,.i r.life,.l (r.data.map Dat.d),.e]
def gq(l:List Sgd)(nx:List RSet):Nat->List (List D)
 | 0=>[]
 | k+1 =>
  if k+1<l.length/\l[k+1]!.set.name=l[k]!.set.name then gq l nx k++[l[k]!.d]
  else if(dz l nx k).2<nx.length/\nx[(dz l nx k).2]!.name=l[k]!.set.name then gq l nx k++[l[k]!.d]++[uM nx[(dz l nx k).2]!]
  else gq l nx k++[l[k]!.d]
section
variable {l : List Sgd} {nx : List RSet} {k : Nat}
@[go_sem]theorem chR_0:gq l nx 0=[]:=rfl
theorem Q8(h:k+1<l.length/\l[k+1]!.set.name=l[k]!.set.name):gq l nx (k+1)=gq l nx k++[l[k]!.d]/\(dz l nx (k+1)).2=(dz l nx k).2:=⟨X0 h,by rw[ZbZ h]⟩
theorem Jl(h : ¬(k+1<l.length/\l[k+1]!.set.name=l[k]!.set.name))(h2:(dz l nx k).2<nx.length/\nx[(dz l nx k).2]!.name=l[k]!.set.name):gq l nx (k+1)=gq l nx k++[l[k]!.d]++[uM nx[(dz l nx k).2]!]/\(dz l nx (k+1)).2=(dz l nx k).2+1:=⟨by rw[gq,XV h,X0 h2],by rw[ZbY h h2]⟩
theorem Az(h : ¬(k+1<l.length/\l[k+1]!.set.name=l[k]!.set.name))(h2 : ¬((dz l nx k).2<nx.length/\nx[(dz l nx k).2]!.name=l[k]!.set.name)):gq l nx (k+1)=gq l nx k++[l[k]!.d]/\(dz l nx (k+1)).2=(dz l nx k).2:=⟨by rw[gq,XV h,XV h2],by rw[ZbX h h2]⟩
theorem Cv(l:List Sgd)(nx:List RSet):∀k,dB (gq l nx k)=(dz l nx k).1.map Sgd.d/\(gq l nx k).length=(dz l nx k).1.length/\aQ (gq l nx k)=true
 | 0=>⟨rfl,rfl,rfl⟩
 | k+1=>by
  let⟨J,Y,f⟩:=Cv l nx k;have y : ∀s:Sgd,dA s.d=s.d:=λs=>by simp only[Sgd.d,dA,wk,qb,CE]
  have O : ∀r:RSet,dA (uM r)=(⟨r,[]⟩:Sgd).d:=λr=>by simp only[uM,Sgd.d,dA,wk,qb,dB,Yy]
  have g : ∀s:Sgd,aX s.d=true:=λs=>by simp[Sgd.d,aX,D.nr,mM,Bu]
  have h : ∀r:RSet,aX (uM r)=true:=λr=>by simp[uM,aX,D.nr,mM,aQ]
  rw[EO]at J ⊢;have c : ∀(A B:List (List D)),aQ (A++B)=(aQ A&&aQ B):=λA B=>by
   induction A with
   | nil=>simp[aQ]
   | cons a A j=>simp only[XX,aQ,j,ZI]
  by_cases a:k+1<l.length/\l[k+1]!.set.name=l[k]!.set.name
  . rw[(Q8 a).1,ZbZ a];exact⟨by rw[Yv,J,Yv,List.map_singleton,y];rfl,by simp[Y],by rw[c,f];simp[aQ,g]⟩
  by_cases b:(dz l nx k).2<nx.length/\nx[(dz l nx k).2]!.name=l[k]!.set.name
  . rw[(Jl a b).1,ZbY a b];exact⟨by rw[Yv,Yv,J,Yv,Yv,List.map_singleton,List.map_singleton,y,O];rfl,by simp[Y],by rw[c,c,f];simp[aQ,g,h]⟩
  rw[(Az a b).1,ZbX a b];exact⟨by rw[Yv,J,Yv,List.map_singleton,y];rfl,by simp[Y],by rw[c,f];simp[aQ,g]⟩
end
theorem ZoS(l:List Sgd)(nx:List RSet):dB (gq l nx l.length)=(ML l nx).map Sgd.d:=(Cv l nx _).1
def VY{nx:List RSet}{c:Nat}(h:c<nx.length):((nx.drop c).map RSet.d).getD 0 []=[.v (.string (bs nx[c]!.name)),.i nx[c]!.ty,.i nx[c]!.life,.l (nx[c]!.data.map Dat.d)]:=by rw[YE h,getElem!_pos nx c h];rfl
def VV{nx:List RSet}{c:Nat}(h:c<nx.length):List.drop 1 ((nx.drop c).map RSet.d)=(nx.drop (c+1)).map RSet.d:=by rw[<-List.map_drop,ZO]
theorem ZoR{z:Zon}(h:ak z=false):fJ z=(⟨[],[]⟩,1):=X0 h
theorem ZoQ{z:Zon}(hz:ak z=true)(h:ak (plainOf z)=false):fJ z=(⟨[],[]⟩,1):=by unfold fJ;rw[XV (by rw[hz];decide),X0 h]
theorem ZoP{z:Zon}(hz:ak z=true)(h:ak (plainOf z)=true)(h2:20000<(plainOf z).sets.length+(cK (plainOf z)).length):fJ z=(⟨[],[]⟩,2):=by unfold fJ;rw[XV (by rw[hz];decide),XV o3x,X0 h2]
theorem ZoO{z:Zon}(hz:ak z=true)(h:ak (plainOf z)=true)(h2 : ¬20000<(plainOf z).sets.length+(cK (plainOf z)).length):fJ z=(⟨z.apex,ML (plainOf z).sets (Zon.nextF (plainOf z) (cK (plainOf z)))⟩,0):=by unfold fJ;rw[XV (by rw[hz];decide),XV o3x,XV h2]
def ZfP{l:List Sgd}(h:cZ l){k:Nat}(hk:k<(bL l).length):sK (bL l)[k]! := by
 have h1:(bL l)[k]! ∈ bL l:=by rw[getElem!_pos (bL l) k hk];exact Yz hk
 have Y:(bL l)[k]! ∈ l:=(Zq.1 h1).1;let⟨i,hi,A⟩:=jh.1 Y;rw[<-A];exact h.2 i hi
def Zjy(z:Zon)(a:List Str):(Zon.nextF z a).length=a.length:=by simp[Zon.nextF]
def ZjI{z:Zon}(h:ak z=true):yk 33 [.agg z.d] (.tuple [.l ((cK z).map sR),.i 0]):=by have:=RU z;rwa [X0 h,X0 h]at this
def ZjJ{z:Zon}(h:ak z=false):yk 33 [.agg z.d] (.tuple [.l [],.i 1]):=by have:=RU z;rwa [XV o3x,XV o3x]at this
set_option maxHeartbeats 2000000 in
def Zn0(z:Zon):yk 8 [.agg z.d] (.tuple [.agg (fJ z).1.d,.i (fJ z).2]):=by
 refine oO func8 λff=>?_;unfold Tryz.f8;refine xa ?_;refine xr ?_ ?_ (hok:=oF (vw z)) (hq:=rfl)<;>intro w
 .
  have w:ak z=false:=by simpa using w
  refine xa ?_;exact oN (fin 2 (hr:=oS (k:=by rw[ZoR w];try rfl)) (hk:=o1E))
 have V:ak z=true:=by simpa using w
 have h:=zM V;have M:=ZfO z.sets;have t:(⟨z.apex,bL z.sets⟩:Zon)=plainOf z:=rfl;have m:(plainOf z).sets=bL z.sets:=rfl;have u:=ZjK (plainOf z);rw[m]at u;have ff:=qA @t ff;refine xa ?_;refine xa ?_ (hok:=oF (Znh z.sets h));rcases(by cases ak (plainOf z)<;>simp:ak (plainOf z)=true\/ak (plainOf z)=false)with hp|hp
 .
  have ff:=qA @hp ff;refine xa ?_ (hok:=oF (ZjI hp));refine xr ?_ ?_ (hq:=rfl)<;>intro I
  . simp at I
  refine xf ?_ ?_<;>intro c3
  .
   have A:20000<(plainOf z).sets.length+(cK (plainOf z)).length:=by rw[m];omega
   refine xa ?_;exact oN (fin 2 (hr:=oS (k:=by rw[ZoP V hp A];try rfl)) (hk:=o1E))
  have A : ¬20000<(plainOf z).sets.length+(cK (plainOf z)).length:=by rw[m];omega
  have N:(cK (plainOf z)).length<=20000:=by omega
  have R:=Zjy (plainOf z) (cK (plainOf z));refine xa ?_ (hok:=oF (Znv (plainOf z) (cK (plainOf z)) hp N));refine xa ?_;refine xj ?_;refine lq (Nat×Nat×Nat×Nat×Nat) [2,53,54] (λ⟨k,p,c,a,Z⟩=>(k<=(bL z.sets).length/\1<a/\a<p/\a<c/\p≠c/\p<Z/\c<Z,(bL z.sets).length-k,[(4,.mptr a 0 0),(7,.l (((Zon.nextF (Zon.plainOf z) (cK (Zon.plainOf z))).drop (dz (bL z.sets) (Zon.nextF (Zon.plainOf z) (cK (Zon.plainOf z))) k).2).map RSet.d)),(8,.mptr c 0 0),(55,.i k)],[(0,⟨24,[z.d]⟩),(1,⟨24,[[.v (.string (bs [])),.e]]⟩),(a,⟨24,[[.v (.string (bs z.apex)),.l ((bL z.sets).map Sgd.d)]]⟩),(c,⟨24,[[.v (.string (bs z.apex)),.mrow p 0 (gq (bL z.sets) (Zon.nextF (Zon.plainOf z) (cK (Zon.plainOf z))) k).length]]⟩),(p,⟨56,gq (bL z.sets) (Zon.nextF (Zon.plainOf z) (cK (Zon.plainOf z))) k⟩)],Z)) (0,44,46,9,_) ?_;rintro⟨k,p,c,a,Z⟩ ⟨X,T,W,Y,ab,E,F⟩;simp only[XX,XZ];have n0:0<Z:=by omega
  have n1:1<Z:=by omega
  have n4:a<Z:=by omega
  have hw:=(Cv (bL z.sets) (Zon.nextF (Zon.plainOf z) (cK (Zon.plainOf z))) k).2.1;have ac:=(Q6 (bL z.sets) (Zon.nextF (Zon.plainOf z) (cK (Zon.plainOf z))) k).1;have am:=(Q6 (bL z.sets) (Zon.nextF (Zon.plainOf z) (cK (Zon.plainOf z))) k).2;have ff:=qH @E @F @n0 @n1 @n4 (nH 0 1) (nH 0 a) (qI (nH 0 c) (nH 0 p) (nH 1 a) (nH 1 c) (nH 1 p) (nH c a) (nH p a) (nH c p) ff);refine xo ?_ ?_<;>intro c4
  .
   have U:k<(bL z.sets).length:=by simpa using c4
   have yN:=ZfP (rA V) U;have ff:=qA (bN U) ff;refine wB ?_;refine xa ?_;refine xa ?_ (hok:=oH (Znw (bL z.sets)[k]! yN));refine aj ?_;by_cases v:k+1<(bL z.sets).length
   .
    have g3:=bN v;have y:((k:Int)+1).toNat=k+1:=by omega
    have G:decide (((k:Int)+1)<((bL z.sets).length:Int))=true:=YB om;have ff:=qD @g3 @y @G ff;refine xi ?_ ?_<;>intro L
    .
     refine aB ?_;refine xb ?_;show ∃_,_;have B:=(Q8 (l:=(bL z.sets)) (nx:=(Zon.nextF (Zon.plainOf z) (cK (Zon.plainOf z)))) (k:=k) (by grind)).1;have f:=(Q8 (l:=(bL z.sets)) (nx:=(Zon.nextF (Zon.plainOf z) (cK (Zon.plainOf z)))) (k:=k) (by grind)).2;have g:(gq (bL z.sets) (Zon.nextF (Zon.plainOf z) (cK (Zon.plainOf z))) k).length+1=(gq (bL z.sets) (Zon.nextF (Zon.plainOf z) (cK (Zon.plainOf z))) (k+1)).length:=by rw[B];simp
     simp only[Sgd.d,uM]at B;have ff:=qD B.symm f g ff;exact ah (k+1,(Z+12),c,a,_)
    refine bM ?_;by_cases j:(dz (bL z.sets) (Zon.nextF (Zon.plainOf z) (cK (Zon.plainOf z))) k).2<(Zon.nextF (Zon.plainOf z) (cK (Zon.plainOf z))).length
    .
     have J:=VY j;have K:=VV j;have n:decide ((0:Int)<(((Zon.nextF (Zon.plainOf z) (cK (Zon.plainOf z))).drop (dz (bL z.sets) (Zon.nextF (Zon.plainOf z) (cK (Zon.plainOf z))) k).2).length:Int))=true:=YB o3v;have ff:=qD @J @K @n ff;refine xi ?_ ?_<;>intro o
     .
      refine xa ?_;refine xb ?_ (hok:=oS (k:=o1d));refine xb ?_;show ∃_,_;have B:=(Jl (l:=(bL z.sets)) (nx:=(Zon.nextF (Zon.plainOf z) (cK (Zon.plainOf z)))) (k:=k) (by grind) (by grind)).1;have f:=(Jl (l:=(bL z.sets)) (nx:=(Zon.nextF (Zon.plainOf z) (cK (Zon.plainOf z)))) (k:=k) (by grind) (by grind)).2;have g:(gq (bL z.sets) (Zon.nextF (Zon.plainOf z) (cK (Zon.plainOf z))) k).length+1+1=(gq (bL z.sets) (Zon.nextF (Zon.plainOf z) (cK (Zon.plainOf z))) (k+1)).length:=by rw[B];simp
      simp only[Sgd.d,uM]at B;have ff:=qD B.symm f g ff;exact ah (k+1,(Z+55),c,a,_)
     refine xl ?_;show ∃_,_;have B:=(Az (l:=(bL z.sets)) (nx:=(Zon.nextF (Zon.plainOf z) (cK (Zon.plainOf z)))) (k:=k) (by grind) (by grind)).1;have f:=(Az (l:=(bL z.sets)) (nx:=(Zon.nextF (Zon.plainOf z) (cK (Zon.plainOf z)))) (k:=k) (by grind) (by grind)).2;have g:(gq (bL z.sets) (Zon.nextF (Zon.plainOf z) (cK (Zon.plainOf z))) k).length+1=(gq (bL z.sets) (Zon.nextF (Zon.plainOf z) (cK (Zon.plainOf z))) (k+1)).length:=by rw[B];simp
     simp only[Sgd.d,uM]at B;have ff:=qD B.symm f g ff;exact ah (k+1,(Z+12),c,a,_)
    have n:decide ((0:Int)<(((Zon.nextF (Zon.plainOf z) (cK (Zon.plainOf z))).drop (dz (bL z.sets) (Zon.nextF (Zon.plainOf z) (cK (Zon.plainOf z))) k).2).length:Int))=false:=YY o3v;have ff:=qA @n ff;refine xp ?_ ?_ (hq:=rfl)<;>intro o
    . simp at o
    refine xl ?_;show ∃_,_;have B:=(Az (l:=(bL z.sets)) (nx:=(Zon.nextF (Zon.plainOf z) (cK (Zon.plainOf z)))) (k:=k) (by grind) (by grind)).1;have f:=(Az (l:=(bL z.sets)) (nx:=(Zon.nextF (Zon.plainOf z) (cK (Zon.plainOf z)))) (k:=k) (by grind) (by grind)).2;have g:(gq (bL z.sets) (Zon.nextF (Zon.plainOf z) (cK (Zon.plainOf z))) k).length+1=(gq (bL z.sets) (Zon.nextF (Zon.plainOf z) (cK (Zon.plainOf z))) (k+1)).length:=by rw[B];simp
    simp only[Sgd.d,uM]at B;have ff:=qD B.symm f g ff;exact ah (k+1,(Z+12),c,a,_)
   have G:decide (((k:Int)+1)<((bL z.sets).length:Int))=false:=YY om;have ff:=qA @G ff;refine xp ?_ ?_ (hq:=rfl)<;>intro L
   . simp at L
   refine bM ?_;by_cases j:(dz (bL z.sets) (Zon.nextF (Zon.plainOf z) (cK (Zon.plainOf z))) k).2<(Zon.nextF (Zon.plainOf z) (cK (Zon.plainOf z))).length
   .
    have J:=VY j;have K:=VV j;have n:decide ((0:Int)<(((Zon.nextF (Zon.plainOf z) (cK (Zon.plainOf z))).drop (dz (bL z.sets) (Zon.nextF (Zon.plainOf z) (cK (Zon.plainOf z))) k).2).length:Int))=true:=YB o3v;have ff:=qD @J @K @n ff;refine xi ?_ ?_<;>intro o
    .
     refine xa ?_;refine xb ?_ (hok:=oS (k:=o1d));refine xb ?_;show ∃_,_;have B:=(Jl (l:=(bL z.sets)) (nx:=(Zon.nextF (Zon.plainOf z) (cK (Zon.plainOf z)))) (k:=k) (by grind) (by grind)).1;have f:=(Jl (l:=(bL z.sets)) (nx:=(Zon.nextF (Zon.plainOf z) (cK (Zon.plainOf z)))) (k:=k) (by grind) (by grind)).2;have g:(gq (bL z.sets) (Zon.nextF (Zon.plainOf z) (cK (Zon.plainOf z))) k).length+1+1=(gq (bL z.sets) (Zon.nextF (Zon.plainOf z) (cK (Zon.plainOf z))) (k+1)).length:=by rw[B];simp
     simp only[Sgd.d,uM]at B;have ff:=qD B.symm f g ff;exact ah (k+1,(Z+55),c,a,_)
    refine xl ?_;show ∃_,_;have B:=(Az (l:=(bL z.sets)) (nx:=(Zon.nextF (Zon.plainOf z) (cK (Zon.plainOf z)))) (k:=k) (by grind) (by grind)).1;have f:=(Az (l:=(bL z.sets)) (nx:=(Zon.nextF (Zon.plainOf z) (cK (Zon.plainOf z)))) (k:=k) (by grind) (by grind)).2;have g:(gq (bL z.sets) (Zon.nextF (Zon.plainOf z) (cK (Zon.plainOf z))) k).length+1=(gq (bL z.sets) (Zon.nextF (Zon.plainOf z) (cK (Zon.plainOf z))) (k+1)).length:=by rw[B];simp
    simp only[Sgd.d,uM]at B;have ff:=qD B.symm f g ff;exact ah (k+1,(Z+12),c,a,_)
   have n:decide ((0:Int)<(((Zon.nextF (Zon.plainOf z) (cK (Zon.plainOf z))).drop (dz (bL z.sets) (Zon.nextF (Zon.plainOf z) (cK (Zon.plainOf z))) k).2).length:Int))=false:=YY o3v;have ff:=qA @n ff;refine xp ?_ ?_ (hq:=rfl)<;>intro o
   . simp at o
   refine xl ?_;show ∃_,_;have B:=(Az (l:=(bL z.sets)) (nx:=(Zon.nextF (Zon.plainOf z) (cK (Zon.plainOf z)))) (k:=k) (by grind) (by grind)).1;have f:=(Az (l:=(bL z.sets)) (nx:=(Zon.nextF (Zon.plainOf z) (cK (Zon.plainOf z)))) (k:=k) (by grind) (by grind)).2;have g:(gq (bL z.sets) (Zon.nextF (Zon.plainOf z) (cK (Zon.plainOf z))) k).length+1=(gq (bL z.sets) (Zon.nextF (Zon.plainOf z) (cK (Zon.plainOf z))) (k+1)).length:=by rw[B];simp
   simp only[Sgd.d,uM]at B;have ff:=qD B.symm f g ff;exact ah (k+1,(Z+12),c,a,_)
  have e8:k=(bL z.sets).length:=by omega
  subst e8;refine aB ?_;refine sP c 1 p (rows:=gq (bL z.sets) (Zon.nextF (Zon.plainOf z) (cK (Zon.plainOf z))) (bL z.sets).length) (off:=0) (len:=(gq (bL z.sets) (Zon.nextF (Zon.plainOf z) (cK (Zon.plainOf z))) (bL z.sets).length).length) ev rfl ev om om (Cv _ _ _).2.2 ?_;rw[X4,Yt];simp only[YC,Yx];refine xa ?_;exact oN (fin 2 (hr:=oS (k:=by rw[ZoS,ZoO V hp A];try rfl)) (hk:=o1E))
 have ff:=qA @hp ff;refine xa ?_ (hok:=oF (ZjJ hp));refine aj ?_;refine xp ?_ ?_ (hq:=rfl)<;>intro I
 . refine xa ?_;exact oN (fin 2 (hr:=oS (k:=by rw[ZoQ V hp];try rfl)) (hk:=o1E))
 simp at I
end Go.Proofs.YtjhhnhgflmkenaaGreatDoor
namespace Go.Proofs.YtjhhnhgflmkenaaGreatDoor
open Go.Proofs.Tryz
open Go.DL Go.Str Go.Rec Go.Zon Go.Cmp Go.Jn Go.RowKit
set_option maxRecDepth 10000
variable [Dr] [Glob prog] [Told]
def ZlL(l:List Int)(x:Int)(h:l.length<=1000010):yk 263 [.l (l.map iR),.i x] (.i (Ab l x)):=by
 refine oO func263 λff=>?_;unfold f263;refine xa ?_;refine xj ?_;refine lq (Nat×Nat) [0,1,7] (λ⟨k,Z⟩=>(k<=l.length/\(∀i,i<k->l[i]! ≠ x),l.length-k,[(8,.i k)],[],Z)) (0,_) ?_ (hA:=⟨iv,o1J⟩);rintro⟨k,Z⟩ ⟨X,u⟩;simp only[XX,XZ];refine xo ?_ ?_<;>intro w
 .
  have U:k<l.length:=by simpa using w
  have ff:=qA (IJ U) ff;refine wB ?_;refine xa ?_;refine xi ?_ ?_<;>intro I
  . exact ye (k:=by rw[ZlQ U I.symm u])
  refine xl ?_;exact ah (k+1,_) (h1:=⟨iv,(by(try dsimp only);intro i hi;by_cases e:i=k;subst e;exact λO=>I O.symm;exact u i om)⟩)
 have a:k=l.length:=by omega
 subst a;refine aB ?_;exact ye (k:=by rw[ZlR u])
def Zox(l:List Int)(x:Int)(h:l.length<=1000010):yk 196 [.l (l.map iR),.i x] (.b (decide (x∈l))):=by refine oO func196 λff=>?_;unfold f196;refine xa ?_;exact ye (hok:=oH (ZlL l x h)) (k:=by rw[ZlS])
def ZbP(ps:List Int)(k:Nat)(x:Int)(h:ps.length<=1000010):yk 196 [.l ((ps.map iR).take k),.i x] (.b (decide (x∈ps.take k))):=by rw[<-ZJ];exact Zox (ps.take k) x (by rw[YO];omega)
def Zdp(v:Vw)(r:Nat)(h:H)(n:Nat)(hv:h r=some ⟨128,[v.d]⟩)(a:cZ v.z.sets)(u:Int)(ps:List Int)(hp : ∀i,i<ps.length->ps[i]! < (v.z.sets.length:Int))(z:ps.length<=1000010):yp 123 [.mptr r 0 0,.i u,.l (ps.map iR)] h n (λd h' g=>d = .agg (⟨u,nM v.z.sets ps,[]⟩:jo).d/\h'=h/\n<=g):=by
 refine oP func123 λo ff=>?_;unfold f123;have A:r<n:=Nat.lt_of_not_le λq=>by(rw[o r q]at hv;cases hv)
 have ff:=qE @hv (nH n r) (nH (n+3) r) (nH n (n+3)) ff;refine xv ?_;refine aj ?_;refine xR (n+3) 1 64 56 ev (by rfl) o3h ?_;simp only[YC,Yx];refine xa ?_;refine dK ?_;refine iF (Nat×Nat×Nat) [0,2,6,7,13,14] (λ⟨k,p,Z⟩=>(k<=ps.length/\p<Z/\n+3<p,ps.length-k,[(15,.i k)],upd (upd (upd h n (some ⟨64,[[.v (.int .i64 0),.e,.v (.string (bs []))]]⟩)) (n+3) (some ⟨64,[[.i u,.mrow p 0 (qi v.z.sets ps (k)).length,.v (.string (bs []))]]⟩)) p (some ⟨56,(qi v.z.sets ps (k)).map Sgd.d⟩),Z)) (0,(n+5),_) ?_ (um:=by refine iY (iY (iY (less_upd o (λq K=>by simp only[upd];repeat rw[XV (by omega)])) ?_) ?_) ?_<;>first|(simp only[go_sem,ff];done)|(simp only[go_sem,ff];exact rfl));rintro⟨k,p,Z⟩ ⟨X,E,F⟩;simp only[XX,XZ];have G:n<Z:=by omega
 have J:n+3<Z:=by omega
 have L:r<Z:=by omega
 have y:=Ou v.z.sets ps k;have ff:=qB @E @G (qI @J @L (nH n r) (nH (n+3) r) (nH p r) (nH n (n+3)) (nH n p) (nH (n+3) p) ff);refine xo ?_ ?_<;>intro w
 .
  have U:k<ps.length:=by simpa using w
  have M:=hp k U;have ff:=qA (IJ U) ff;refine wB ?_;refine xa ?_;refine aj ?_;by_cases c:ps[k]! < 0
  .
   have x:decide (ps[k]! < 0)=true:=YB c;have ff:=qA @x ff;refine xi ?_ ?_ (hok:=gI (ZbP ps k))<;>intro I
   .
    refine aB ?_;refine xb ?_;have B:=Vz (l:=v.z.sets) (ps:=ps) (k:=k) (by first|exact .inl c|grind);have ff:=qA B ff;refine ah (k+1,p,_) (h5:=?_);refine iY (iY (iY (less_upd o (λq K=>?_)) ?_) ?_) ?_
    . simp only[upd];repeat rw[XV (by omega)]
    . first|(simp only[go_sem,ff];done)|(simp only[go_sem,ff];exact rfl)|(simp only[upd];simp[*];done)
    . first|(simp only[go_sem,ff];done)|(simp only[go_sem,ff];exact rfl)|(simp only[upd];simp[*];done)
    first|(simp only[go_sem,ff];done)|(simp only[go_sem,ff];exact rfl)|(simp only[upd];simp[*];done)
   have f : ¬ps[k]! < 0:=by grind
   have j:ps[k]! ∉ ps.take k:=by grind
   have m:ps[k]!.toNat<v.z.sets.length:=by omega
   have t:=a.2 _ m;have ff:=qA (bN m) ff;refine bM ?_;refine xa ?_;refine xa ?_ (hok:=oS (k:=by exact Gb _ (Yd t.1 om)));refine xa ?_ (hok:=oS (k:=by exact Jg _ (Yd t.2 om)));refine xb ?_;refine xb ?_;have B:=Vy (l:=v.z.sets) (ps:=ps) (k:=k) (λV=>V.elim f j);have ff:=qA B ff;refine ah (k+1,(Z+40),_) (h5:=?_);refine iY (iY (iY (less_upd o (λq K=>?_)) ?_) ?_) ?_
   . simp only[upd];repeat rw[XV (by omega)]
   . first|(simp only[go_sem,ff];done)|(simp only[go_sem,ff];exact rfl)|(simp only[upd];simp[*];done)
   . first|(simp only[go_sem,ff];done)|(simp only[go_sem,ff];exact rfl)|(simp only[upd];simp[*];done)
   first|(simp only[go_sem,ff];done)|(simp only[go_sem,ff];exact rfl)|(simp only[upd];simp[*];done)
  have x:decide (ps[k]! < 0)=false:=YY c;have ff:=qA @x ff;refine xi ?_ ?_ (hok:=gI (ZbP ps k))<;>intro I
  .
   refine aB ?_;refine xb ?_;have B:=Vz (l:=v.z.sets) (ps:=ps) (k:=k) (by first|exact .inl c|grind);have ff:=qA B ff;refine ah (k+1,p,_) (h5:=?_);refine iY (iY (iY (less_upd o (λq K=>?_)) ?_) ?_) ?_
   . simp only[upd];repeat rw[XV (by omega)]
   . first|(simp only[go_sem,ff];done)|(simp only[go_sem,ff];exact rfl)|(simp only[upd];simp[*];done)
   . first|(simp only[go_sem,ff];done)|(simp only[go_sem,ff];exact rfl)|(simp only[upd];simp[*];done)
   first|(simp only[go_sem,ff];done)|(simp only[go_sem,ff];exact rfl)|(simp only[upd];simp[*];done)
  have f : ¬ps[k]! < 0:=by grind
  have j:ps[k]! ∉ ps.take k:=by grind
  have m:ps[k]!.toNat<v.z.sets.length:=by omega
  have t:=a.2 _ m;have ff:=qA (bN m) ff;refine bM ?_;refine xa ?_;refine xa ?_ (hok:=oS (k:=by exact Gb _ (Yd t.1 om)));refine xa ?_ (hok:=oS (k:=by exact Jg _ (Yd t.2 om)));refine xb ?_;refine xb ?_;have B:=Vy (l:=v.z.sets) (ps:=ps) (k:=k) (λV=>V.elim f j);have ff:=qA B ff;refine ah (k+1,(Z+40),_) (h5:=?_);refine iY (iY (iY (less_upd o (λq K=>?_)) ?_) ?_) ?_
  . simp only[upd];repeat rw[XV (by omega)]
  . first|(simp only[go_sem,ff];done)|(simp only[go_sem,ff];exact rfl)|(simp only[upd];simp[*];done)
  . first|(simp only[go_sem,ff];done)|(simp only[go_sem,ff];exact rfl)|(simp only[upd];simp[*];done)
  first|(simp only[go_sem,ff];done)|(simp only[go_sem,ff];exact rfl)|(simp only[upd];simp[*];done)
 have N:k=ps.length:=by omega
 subst N;refine aB ?_;refine sP (n+3) 1 p (rows:=(qi v.z.sets ps ps.length).map Sgd.d) (off:=0) (len:=(qi v.z.sets ps ps.length).length) ev rfl ev om (by simp) Dy ?_;simp only[X4,zq,YC,Yx];refine xa ?_;exact oN (bJ (h) (hr:=oS (k:=o1R)) (hh:=o1r))
theorem bo264:fE prog 264=true:=by kernel_rfl
def Ze5(v:Vw)(n:Str)(h:v.z.sets.length<=1000000):yk 197 [.i v.z.sets.length,.fn (.func 198) [] [.eptr [.eptr v.d],.eptr [.v (.string (bs n))]]] (.i ((Ao v.z.sets n:Nat):Int)):=by
 refine oO func197 λff=>?_;unfold f197;refine xv ?_;refine wD ?_;refine lq (Nat×Nat×Nat) [1] (λ⟨i,j,Z⟩=>(i<=j/\j<=v.z.sets.length/\(Ao v.z.sets n=kG (λk=>if decide (0<=uZ v.z.sets[k]!.set.name n)then 0 else -1) i j),j-i,[(5,.i i),(6,.i j)],[],Z)) (0,v.z.sets.length,_) ?_;rintro⟨i,j,Z⟩ ⟨a,A,u⟩;simp only[XX,XZ];refine xt ?_ ?_<;>intro w
 .
  have U:i<j:=by simpa using w
  have c:(i+j) / 2<v.z.sets.length:=by omega
  have ff:=qA (KY (i:=i) (j:=j) (by omega)) ff;refine dK ?_;refine xa ?_;refine xp (λI=>?_) (λI=>?_) (hok:=oF (Zku (((i+j) / 2:Nat):Int) v n (by omega) (by rw[Int.toNat_natCast];exact c))) (hq:=rfl)
  . refine xb ?_;exact ah ((i+j) / 2+1,j,_) (h1:=⟨iv,iv,o1V⟩)
  refine xb ?_;exact ah (i,(i+j) / 2,_) (h1:=⟨iv,iv,o1W⟩)
 refine aB ?_;exact ye (k:=by rw[u,wN,XV (by omega)])
def Ze4(v:Vw)(n:Str)(h:v.z.sets.length<=1000000):yk 197 [.i v.z.sets.length,.fn (.func 265) [] [.eptr [.eptr v.d],.eptr [.v (.string (bs n))]]] (.i ((zl v.z.sets n:Nat):Int)):=by
 refine oO func197 λff=>?_;unfold f197;refine xv ?_;refine wD ?_;refine lq (Nat×Nat×Nat) [1] (λ⟨i,j,Z⟩=>(i<=j/\j<=v.z.sets.length/\(zl v.z.sets n=kG (λk=>if decide (0<uZ v.z.sets[k]!.set.name n)then 0 else -1) i j),j-i,[(5,.i i),(6,.i j)],[],Z)) (0,v.z.sets.length,_) ?_;rintro⟨i,j,Z⟩ ⟨a,A,u⟩;simp only[XX,XZ];refine xt ?_ ?_<;>intro w
 .
  have U:i<j:=by simpa using w
  have c:(i+j) / 2<v.z.sets.length:=by omega
  have ff:=qA (KY (i:=i) (j:=j) (by omega)) ff;refine dK ?_;refine xa ?_;refine xp (λI=>?_) (λI=>?_) (hok:=oF (Zkb (((i+j) / 2:Nat):Int) v n (by omega) (by rw[Int.toNat_natCast];exact c))) (hq:=rfl)
  . refine xb ?_;exact ah ((i+j) / 2+1,j,_) (h1:=⟨iv,iv,o1V⟩)
  refine xb ?_;exact ah (i,(i+j) / 2,_) (h1:=⟨iv,iv,o1W⟩)
 refine aB ?_;exact ye (k:=by rw[u,wN,XV (by omega)])
def gY(v:Vw)(n:Str)(h:v.z.sets.length<=1000000):yk 124 [.eptr v.d,.v (.string (bs n))] (.b (kD v.z.sets n)):=by
 refine oO func124 λff=>?_;unfold f124;refine xa ?_;refine xa ?_ (hok:=oH (Ze5 v n h));by_cases X:Ao v.z.sets n<v.z.sets.length
 . have a:decide ((Ao v.z.sets n:Int)<v.z.sets.length)=true:=YB om;have ff:=qB @a (bN X) ff;exact ye (hok:=oH Pd) (k:=by simp[kD,X])
 have a:decide ((Ao v.z.sets n:Int)<v.z.sets.length)=false:=YY om;have ff:=qA @a ff;exact ye (hok:=oH Pd) (k:=by simp[kD,X])
def Zdg(v:Vw)(n:Str):yk 200 [.eptr v.d,.v (.string (bs n))] (.fn (.func 264) [] [.eptr [.eptr v.d],.eptr [.v (.string (bs n))]]):=by refine oO func200 λff=>?_;unfold f200;refine xv ?_;exact oN (fin 3 (hr:=oR) (hk:=by(try simp only[go_sem,ff]);all_goals (show D.nr _=true;simp[go_sem,D.nr,aX])))
def lQ(v:Vw)(n:Str)(o:v.z.sets.length<=1000000):yk 126 [.eptr v.d,.v (.string (bs n))] (.i (jc v.z.sets n)):=by
 refine oO func126 λff=>?_;unfold f126;have w:zl v.z.sets n<=v.z.sets.length:=JU _ _;refine xa ?_;refine xj ?_ (hok:=oH (Zdg v n));refine Mj o3h ev func264 rfl bo264 (by simp[f264]) rfl (λl x F m z f=>?_);unfold f264;refine xa ?_ (hok:=oH (Ze4 v n o));refine xa ?_;refine dK ?_;refine lq (Nat×Nat) [0] (λ⟨k,Z⟩=>(k<=v.z.sets.length/\1<Z/\jc v.z.sets n=wJ v.z.sets k,k,[(5,.i ((k:Int)-1))],[(0,⟨124,[[.eptr v.d]]⟩),(1,⟨3,[[.i 0]]⟩)],Z)) ((zl v.z.sets n),_) ?_ (hA:=⟨(JU _ _),iv,rfl⟩);rintro⟨k,Z⟩ ⟨X,E,u⟩;simp only[XX,XZ];have A:0<Z:=by omega
 have ff:=qB @E @A ff;refine xt ?_ ?_ (hq:=rfl)<;>intro j
 .
  have U:0<k:=by have V:(0:Int)<=(k:Int)-1:=(by simpa using j);omega
  have c:k-1<v.z.sets.length:=by omega
  have y:((k:Int)-1).toNat=k-1:=by omega
  have ff:=qB @y (bN c) ff;refine wD ?_;refine aj ?_;refine Mi (C:=De) (r:=x) 2 (dP rfl) rfl rfl rfl o2q ?_ ev o1s o3h ev (by rw[F];rfl) (by rw[F,f];show ∀p∈[9],p<21;decide) ?_
  . exact okU
  rw[m,z,F,f];show DW _ _ _ _ { n:=_,t:=yu _ [9] _,h:=_,nx:=_ };simp only[Kb,Ka];refine xb ?_;refine⟨rfl,?_⟩;refine dK ?_;refine xp ?_ ?_ (hq:=rfl)<;>intro a
  .
   refine xa ?_;refine jb ?_;refine⟨rfl,false,some .ret,⟨rfl,rfl⟩,⟨_,_,_,_,_,_⟩,by simp only[X9,X4,S.put,go_sem,ff];exact rfl,?_,?_⟩
   . exact okU
   try simp only[aH]
   refine ce ?_ ?_ (hq:=rfl)<;>intro g
   . refine jb ?_;refine⟨.inr rfl,some .ret,rfl,?_⟩;exact fin 0 (hr:=oS (k:=by rw[u,Zop U (by simpa using a)]))
   simp at g
  refine bM ?_;refine⟨rfl,true,none,⟨rfl,rfl⟩,⟨_,_,_,_,_,_⟩,by simp only[X9,X4,S.put,go_sem,ff];exact rfl,?_,?_⟩
  . exact okU
  try simp only[aH]
  refine ce ?_ ?_ (hq:=rfl)<;>intro g
  . simp at g
  refine xl ?_;exact ah (k-1,_) (h1:=⟨iv,iv,(by(try dsimp only);rw[u,Zoq U (by simpa using a)])⟩)
 have U:k=0:=by have V : ¬(0:Int)<=(k:Int)-1:=(by simpa using j);omega
 subst U;refine aB ?_;refine⟨.inl rfl,none,rfl,?_⟩;exact ye (k:=by rw[u];rfl)
def zk(v:Vw)(r:Nat)(h:H)(hv:h r=some ⟨128,[v.d]⟩)(a:cZ v.z.sets)(c:Int)(ps:List Int)(hp : ∀i,i<ps.length->ps[i]! < (v.z.sets.length:Int))(f:ps.length<=1000010):∀b,Ct prog 123 [.mptr r 0 0,.i c,.l (ps.map iR)] h b (.agg (⟨c,nM v.z.sets ps,[]⟩:jo).d) h :=
 Zoo o2Z λn=>Zdp v r h n hv a c ps hp f
def Zdo(v:Vw)(r:Nat)(h:H)(n:Nat)(hv:h r=some ⟨128,[v.d]⟩)(a:cZ v.z.sets):yp 53 [.mptr r 0 0] h n (λd h' g=>d = .tuple [.agg ((fA v 1).1.df false),.b (fA v 1).2]/\h'=h/\n<=g):=by
 refine oP func53 λo ff=>?_;unfold f53;have c:r<n:=Nat.lt_of_not_le λq=>by(rw[o r q]at hv;cases hv)
 have ff:=qB @hv (nH n r) ff;refine xa ?_;refine xa ?_ (hok:=oz (qD (ll v) (λN=>lQ v N a.1) (lM v) (λN=>gY v N a.1)));refine aa nA ?_ (hok:=oS (k:=by first|trivial|(repeat' with_reducible apply And.intro)<;>first|(intros;exact ll v _ _)|(intros;exact lQ v _ a.1)|(intros;exact lM v)|(intros;exact gY v _ a.1)|exact(λ_=>gY v _ a.1)|exact zk v r _ ev a 1 [(bK v.z.sets ⟨v.q.name,v.q.ty⟩)] (K5 (tN _ _)) (by simp)));exact oN (bJ (h) (hr:=oS (k:=o1R)) (hh:=o1r))
def Zdd(v:Vw)(r:Nat)(h:H)(n:Nat)(hv:h r=some ⟨128,[v.d]⟩)(a:cZ v.z.sets):yp 56 [.mptr r 0 0] h n (λd h' g=>d = .tuple [.agg ((fA v 4).1.df false),.b (fA v 4).2]/\h'=h/\n<=g):=by
 refine oP func56 λo ff=>?_;unfold f56;have c:r<n:=Nat.lt_of_not_le λq=>by(rw[o r q]at hv;cases hv)
 have ff:=qB @hv (nH n r) ff;refine xa ?_;refine xa ?_ (hok:=oz (qD (ll v) (λN=>lQ v N a.1) (lM v) (λN=>gY v N a.1)));refine aa nA ?_ (hok:=oS (k:=by first|trivial|(repeat' with_reducible apply And.intro)<;>first|(intros;exact ll v _ _)|(intros;exact lQ v _ a.1)|(intros;exact lM v)|(intros;exact gY v _ a.1)|exact(λ_=>gY v _ a.1)|exact zk v r _ ev a 2 [(bK v.z.sets ⟨v.wc,v.q.ty⟩),(jc v.z.sets v.q.name)] (FB (tN _ _) (xU _ _)) (by simp)));exact oN (bJ (h) (hr:=oS (k:=o1R)) (hh:=o1r))
@[go_sem]theorem all_sR9{l:List Str}:(∀r∈l.map sR,r.length=1)=True:=by apply eq_true;intro r O;obtain⟨x,_,rfl⟩:=Yp.1 O;rfl
theorem K9(rest:Str):split rest=(if dR rest 46<0 then[]else split (rest.take (dR rest 46).toNat))++[rest.drop (dR rest 46+1).toNat]:=by
 have J:=xg rest;rw[tH]at J;have Y:=congrArg List.reverse J;rw[List.reverse_reverse,List.reverse_cons]at Y;rw[<-Y];split
 . rfl
 rw[xg,List.reverse_reverse]
theorem ZkH{rest:Str}(h : ¬dR rest 46<0):split rest=split (rest.take (dR rest 46).toNat)++[rest.drop (dR rest 46+1).toNat]:=by have:=K9 rest;rwa [XV h]at this
theorem ZkJ{rest:Str}(h:dR rest 46<0):split rest=[rest.drop (dR rest 46+1).toNat]:=by have:=K9 rest;rwa [X0 h,XZ]at this
def Zfd(rest:Str):0<(split rest).length:=by rw[K9];simp
def ZhG:List.replicate 8 [D.v (.string (bs []))]=(nI []).map sR:=rfl
def Zj4(l:List Str)(i:Nat)(a:Str):(l.map sR).set i [.v (.string (bs a))]=(l.set i a).map sR:=List.map_set.symm
def Zju(s:Str):yk 201 [.v (.string (bs s))] (.tuple [.l ((if ai s then bA s else[]).map sR),.i (if ai s then 0 else 11)]):=by
 refine oO func201 λff=>?_;unfold f201;refine xv ?_;refine xr ?_ ?_ (hok:=oF (CQ _)) (hq:=rfl)<;>intro w
 . exact ye (K:=2) (k:=by rw[show ai s=false by simpa using w];rfl)
 have w:ai s=true:=by simpa using w
 have z:=iE w;have ff:=qA @ZhG ff;refine oD De ?_;refine xj ?_;refine Mj o3h ev func258 rfl Ri (by simp[f258]) rfl (λl L F m M f=>?_);unfold f258;refine xf ?_ ?_<;>intro d0
 . refine jb ?_;refine⟨.inr rfl,none,rfl,?_⟩;refine sP 8 0 7 (rows:=(nI ([]:List Str)).map sR) (off:=0) (len:=8) ev rfl ev (by omega) (Nat.le_of_eq (by rw[YX,ET (by simp only[YI,Zw];omega)])) Wd ?_;simp only[X4,YC,Yx];have A:=ET (ls:=[]) (Yh _);have v:=TA (ls:=[]) (Yh _);have j:((nI []).map sR).take 8=(nI []).map sR:=rfl;have o:((nI []).map sR).drop 8=[]:=rfl;have ff:=qD @j @A @o ff;exact ye (K:=2) (k:=by rw[w];unfold bA;rw[X0 d0];rfl)
 have N:(split s).length<=8:=(WF w d0).2.1;refine xa ?_;refine dK ?_;refine lq (Str×(List Str)×Int×Nat) [1] (λ⟨Z,c,g,x⟩=>(Z.length<=60/\12<x/\split s=split Z++c/\(g=8-(c.length:Int)),Z.length,[(4,.v (.string (bs Z)))],[(7,⟨9,(nI c).map sR⟩),(8,⟨97,[[.mrow 7 0 8]]⟩),(12,⟨3,[[.i g]]⟩)],x)) (s,[],8,_) ?_ (hA:=⟨z,oW,o2x,rfl⟩);rintro⟨Z,c,g,x⟩ ⟨T,E,u,U⟩;simp only[XX,XZ];have W:=Hu Z 46;have B:7<x:=by omega
 have G:8<x:=by omega
 have O:=K9 Z;have I:c.length<8:=by(have V:=congrArg List.length u;rw[X3]at V;have:=Zfd Z;omega)
 have y:(g-1).toNat=8-c.length-1:=by omega
 have J:=ET (ls:=c) (by omega);have ff:=qI @E @B @G @y @J (kC (l:=nI c) (n:=8-c.length-1) (by omega)) (Zj4 (nI c) (8-c.length-1) (Z.drop (dR Z 46+1).toNat)) (Zfk (a:=(Z.drop (dR Z 46+1).toNat)) I) ff;refine dK ?_;refine xa ?_ (hok:=gI @K8);refine aj ?_;refine aj ?_;refine Mi (C:=De) (r:=L) 5 (dP rfl) rfl rfl rfl o2q ?_ ev o1s o3h ev (by rw[F];rfl) (by rw[F,f];show ∀p∈[19],p<33;decide) ?_
 . exact okU
 rw[m,M,F,f];show DW _ _ _ _ { n:=_,t:=yu _ [19] _,h:=_,nx:=_ };simp only[Kb,Ka];refine xb ?_;refine⟨rfl,?_⟩;refine dK ?_;refine xa ?_;refine xb ?_;refine⟨rfl,true,none,⟨rfl,rfl⟩,⟨_,_,_,_,_,_⟩,by simp only[X9,X4,S.put,go_sem,ff];exact rfl,?_,?_⟩
 . exact okU
 try simp only[aH]
 refine cd ?_ ?_<;>intro R
 . refine jb ?_;refine⟨.inr rfl,none,rfl,?_⟩;refine sP 8 0 7 (rows:=(nI ((Z.drop (dR Z 46+1).toNat)::c)).map sR) (off:=0) (len:=8) ev rfl ev (by omega) (Nat.le_of_eq (by rw[YX,ET (by simp only[YI,Zw];omega)])) Wd ?_;simp only[X4,YC,Yx];have A:=ET (ls:=((Z.drop (dR Z 46+1).toNat)::c)) (by rw[YI];omega);have v:=TA (ls:=((Z.drop (dR Z 46+1).toNat)::c)) (by rw[YI];omega);rw[YI,<-Nat.sub_sub]at v;have j:((nI ((Z.drop (dR Z 46+1).toNat)::c)).map sR).take 8=(nI ((Z.drop (dR Z 46+1).toNat)::c)).map sR:=Ye (by rw[YX,A];exact XW _);have o:=v;rw[j]at o;have ff:=qD @j @A @o ff;exact ye (K:=2) (k:=by rw[w];unfold bA;rw[XV d0,AX,u,ZkJ R];rfl)
 refine xl ?_;exact ah (Z.take (dR Z 46).toNat,(Z.drop (dR Z 46+1).toNat)::c,g-1,_) (h1:=⟨o1k,iv,(by(try dsimp only);rw[u,ZkH (by omega)];simp),(by first|(rw[List.length_cons];omega)|(dsimp only;rw[List.length_cons];omega))⟩) (h2:=o2O)
end Go.Proofs.YtjhhnhgflmkenaaGreatDoor
namespace Go.Proofs.YtjhhnhgflmkenaaGreatDoor
open Go.Proofs.Tryz
open Go.DL Go.Str Go.Rec Go.Zon Go.Cmp Go.Jn Go.RowKit
set_option maxRecDepth 10000
variable [Glob prog] [Told]
theorem ZfF(l:List Str)(h1:l.length<=100)(h2:(jT l).length<=1000000):@PureCt drF prog _ 266 [.l (l.map sR),.v (.string (bs [46]))] (.v (.string (bs (jT l)))):=by
 refine⟨by kernel_rfl,by simp only[go_sem,List.all_cons,List.all_nil];first|done|rfl,λw I vs Z M hr=>?_⟩;obtain⟨x,t,rfl,A,Y⟩:=hr.of_cons;obtain⟨y,t,rfl,U,W⟩:=Y.of_cons;rw[W.of_nil,U.v_inv];have fin : ∀e T,e=Ending.returned (.string ⟨(Go.Lib.join ((l.map bs).map (·.data.toList)) (bs [46]).data.toList).toArray⟩)/\Below w.heap.size w T -> ∃v,e = .returned v /\ @EI drF w T/\ae T (jF λb=>I b\/(w.heap.size<=b/\b<T.heap.size)) (.v (.string (bs (jT l)))) v:=by
  rintro e T ⟨rfl,p⟩;refine⟨_,rfl,@EI.mk drF w T p.os p.tape p.output p.size (λq=>q.elim) p.block,?_⟩;have B:(l.map bs).map (·.data.toList)=l:=by rw[List.map_map];exact(Y3 λx _=>mh x).trans (List.map_id l)
  rw[B,mh,Pt];exact .v _
 have r:(Go.Lib.join ((l.map bs).map (·.data.toList)) (bs [46]).data.toList).length<=140737488355328:=by
  have B:(l.map bs).map (·.data.toList)=l:=by rw[List.map_map];exact(Y3 λx _=>mh x).trans (List.map_id l)
  rw[B,mh,Pt];omega
 generalize V:l.map sR=R at A;cases A with
 | empty _ a g hf hm =>
  have f:l=[]:=List.map_eq_nil_iff.1 V;subst f;exact callsIn_wide.2 ((Go.Proofs.Any.strings_Join_none Ps Pq a g (bs [46]) w).mono λe T⟨G,c⟩=>fin e T ⟨G,c▸Below.refl _ _⟩)
 | list _ _ m g u cv F hl hf hm hs hc J =>
  subst V;have k : ∀(i:Nat)x,l[i]? = some x->w.cell? (m.add i)=some (.string (bs x)):=by
   intro i x E;have K:(l.map sR)[i]? = some (sR x):=by rw[YQ,E];rfl
   have e2:u=1:=(hs _ (Ym K)).symm;let⟨G,_⟩:=hc i 0 _ _ K rfl;have c:=(J i 0 _ _ K rfl).v_inv;rw[c,e2]at G;simpa using G
  by_cases N:l=[]
  . subst N;exact callsIn_wide.2 ((Go.Proofs.Any.strings_Join_none Ps Pq (some m) g (bs [46]) w).mono λe T⟨G,c⟩=>fin e T ⟨G,c▸Below.refl _ _⟩)
  have h0:0<l.length:=Zl.2 N;have n:=k 0 l[0] (by simp);have z:m.spot=none:=by
   unfold Go.World.cell? at n;rw[show m.add 0=m from rfl]at n;split at n
   .
    split at n
    . cases n
    rename_i q;simpa using q
   cases n
  let⟨X,o,sp⟩:=m;simp only at z;subst z;have L:X<w.heap.size:=Z _ F;have O:=Go.Proofs.Any.strings_Join Ps Pq X o g (l.map bs) (bs [46]) w (λj x E=>by
   rw[YQ]at E;cases e:l[j]? with
   | none=>rw[e]at E;cases E
   | some y=>rw[e]at E;cases E;rw[<-oQ];exact k j y e) L (by simp;omega) (by simpa using hl) r
  have e8:(l.map bs).length=(l.map sR).length:=by simp
  rw[e8]at O;exact callsIn_wide.2 (O.mono λe T h=>fin e T h)
def ZkI{s:Str}(h:gJ s=true):s.length<=20:=by unfold gJ at h;simp only[XU,XY]at h;omega
theorem XJ : ∀l:List Str,(∀x∈l,x.length<=20)->(jT l).length<=21*l.length
 | [],_=>XW _
 | [p],h=>by have:=h p (by simp);simp[jT];omega
 | p::q::r,h=>by have J:=h p (by simp);have Y:=XJ (q::r) (λx E=>h x (List.mem_cons_of_mem _ E));rw[jT,X3,YI];rw[YI];omega
def Zlh{l:List Str}(h:ax l.length (jf l) 0=true):(jT l).length<=21*l.length:=by
 refine XJ l λx E=>?_;obtain⟨i,hi,rfl⟩:=jh.1 E;have:=(dG _ _ _).1 h i (Yh _) hi;unfold jf at this;rw[Yc]at this;rcases this with e|e
 . exact ZkI e
 simp only[XU,YF]at e;rw[e.2];decide
def ZeY(c:Str):[D.v (.string (bs [42]))]::(bA c).map sR=(zC c).map sR:=rfl
def ZeV(c:Str):List.take (1+(bA c).length) ((zC c).map sR)=(zC c).map sR:=Ye (by rw[YX,zC,YI];omega)
def ZeX(c:Str):(zC c).length=1+(bA c).length:=by rw[zC,YI];omega
def Zjv(l:List Str):yk 202 [.l (l.map sR)] (.tuple [.v (.string (bs (si l).1)),.i (si l).2]):=by
 refine oO func202 λff=>?_;unfold f202;refine xa ?_;refine xr ?_ ?_ (hq:=rfl)<;>intro w
 . have f:l=[]:=Yb (by simpa using w);exact ye (K:=1) (k:=by rw[f];rfl)
 have f:l≠[]:=λe=>by subst e;simp at w
 refine xf ?_ ?_<;>intro I
 .
  have T:8<l.length:=by omega
  exact ye (K:=1) (k:=by rw[si,XV f,X0 T])
 have T : ¬8<l.length:=by omega
 refine xj ?_;refine lq (Nat×Nat) [0,13,14] (λ⟨k,Z⟩=>(k<=l.length/\ax l.length (jf l) 0=ax l.length (jf l) k,l.length-k,[(15,.i k)],[],Z)) (0,_) ?_;rintro⟨k,Z⟩ ⟨X,u⟩;simp only[XX,XZ];refine xo ?_ ?_<;>intro h
 .
  have U:k<l.length:=by simpa using h
  have ff:=qA (kC U) ff;refine wB ?_;refine xa ?_;refine xi (λj=>?_) (λj=>?_) (hok:=oS (k:=by first|trivial|(repeat' with_reducible apply And.intro)<;>first|(intros;exact Zae _)|(intro a b;exact⟨a,λc=>by rw[a,c];rfl⟩)))
  . exact ye (K:=1) (k:=by have m:jf l k=false:=(by simp only[jf];grind);rw[si,if_neg f,if_neg T,if_pos (by rw[u,ed U m])])
  refine xl ?_;have T:(jf l) k=true:=by simp only[jf];grind
  exact ah (k+1,_) (h1:=⟨iv,o2D⟩)
 have n:k=l.length:=by omega
 subst n;have g:ax l.length (jf l) 0=true:=by rw[u,gB (by omega)]
 have o:=Zlh g;refine aB ?_;refine xa ?_ (hok:=oF (ZfF l om om));refine xf ?_ ?_<;>intro p
 . exact ye (K:=1) (k:=by rw[si,XV f,XV T,XV (by rw[g];simp),X0 (by omega)])
 exact ye (K:=1) (k:=by rw[si,XV f,XV T,XV (by rw[g];simp),XV (by omega)])
def Zdf(v:Vw)(h:v.z.sets.length<=1000000)(hq:ai v.q.name=true)(u:dW v.q.name v.z.apex):yk 127 [.eptr v.d] (.v (.string (bs (wV v.z v.q.name)))):=by
 refine oO func127 λff=>?_;unfold f127;refine xv ?_;refine wD ?_;refine lq (Str×Nat) [0] (λ⟨c,Z⟩=>(ai c=true/\dW c v.z.apex/\Cu v.z v.q.name=Cu v.z c,(dH c).length,[(3,.v (.string (bs c)))],[],Z)) (v.q.name,_) ?_ (hA:=⟨hq,u,rfl⟩);rintro⟨c,Z⟩ ⟨a,f,J⟩;simp only[XX,XZ];refine oL De ?_ ?_ (hok:=oH (gY v c h))<;>intro w
 .
  refine dK ?_;obtain⟨N,g⟩:c≠v.z.apex/\kD v.z.sets c=false:=by grind
  let⟨O,o⟩:=Gu a f N;have p:tO c=jR c:=by unfold tO;rw[a,Ze.2 O];rfl
  have ff:=qA @p ff;refine xb ?_ (hok:=oV (Wi c));exact ah (jR c,_) (h1:=⟨((Bo a O).1),o,(by(try dsimp only);exact J.trans (ZbW a f N g).1)⟩) (h2:=by show(_:Nat)<_;exact(ZbW a f N g).2)
 have m:c=v.z.apex\/kD v.z.sets c=true:=by grind
 have n:=ZoI m;have j:wV v.z v.q.name=(si (zC c)).1:=by unfold wV R8;rw[J,n]
 have r:=(Oz c).2;have t:=iE a;have ff:=qD @a (ZeY c) (ZeV c) ff;refine aB ?_;refine xa ?_ (hok:=oF (Zju c));refine aa zf ?_ (hok:=Hd (Zjv (zC c)) (ZeX c));refine xf ?_ ?_<;>intro I
 . exact ye (k:=by rw[j,Zli I])
 exact ye (k:=by rw[j])
def Zdc(v:Vw)(r:Nat)(h:H)(n:Nat)(hv:h r=some ⟨128,[v.d]⟩)(a:cZ v.z.sets):yp 58 [.mptr r 0 0] h n (λd h' g=>d = .tuple [.agg ((fA v 6).1.df (!(fA v 6).2)),.b (fA v 6).2]/\h'=h/\n<=g):=by
 refine oP func58 λo ff=>?_;unfold f58;have f:r<n:=Nat.lt_of_not_le λq=>by(rw[o r q]at hv;cases hv)
 have ff:=qB @hv (nH n r) ff;refine xa ?_;refine xr ?_ ?_ (hok:=oz (qD (ll v) (λN=>lQ v N a.1) (lM v) (λN=>gY v N a.1))) (hq:=rfl)<;>intro w
 . have c:=w;refine xa ?_;exact oN (bJ (h) (hr:=oS (k:=by first|exact⟨by(rw[SK c];try rfl),rfl,om⟩|exact⟨by(rw[SK c];try rfl),om⟩)) (hh:=o1r))
 have c:=w;refine aa nA ?_ (hok:=oS (k:=by first|trivial|(repeat' with_reducible apply And.intro)<;>first|(intros;exact ll v _ _)|(intros;exact lQ v _ a.1)|(intros;exact lM v)|(intros;exact gY v _ a.1)|exact(λ_=>gY v _ a.1)|exact zk v r _ ev a 5 [(bK v.z.sets ⟨v.z.apex,4⟩),(jc v.z.sets v.q.name),(jc v.z.sets v.wc)] (Hr (tN _ _) (xU _ _) (xU _ _)) (by simp)));exact oN (bJ (h) (hr:=oS (k:=by first|exact⟨by(rw[SL c];try rfl),rfl,om⟩|exact⟨by(rw[SL c];try rfl),om⟩)) (hh:=o1r))
def Zdi(v:Vw)(r:Nat)(h:H)(n:Nat)(hv:h r=some ⟨128,[v.d]⟩)(a:cZ v.z.sets):yp 59 [.mptr r 0 0] h n (λd h' g=>d = .agg (Bv v).d/\h'=h/\n<=g):=by
 refine oP func59 λo ff=>?_;unfold f59;have c:r<n:=Nat.lt_of_not_le λq=>by(rw[o r q]at hv;cases hv)
 have ff:=qB @hv (nH n r) ff;refine xv ?_;refine xf ?_ ?_<;>intro w
 . refine xb ?_ (hok:=oz (qD (ll v) (λN=>lQ v N a.1) (lM v) (λN=>gY v N a.1)));refine aa nA ?_ (hok:=oS (k:=by first|trivial|(repeat' with_reducible apply And.intro)<;>first|(intros;exact ll v _ _)|(intros;exact lQ v _ a.1)|(intros;exact lM v)|(intros;exact gY v _ a.1)|exact(λ_=>gY v _ a.1)|exact zk v r _ ev a 6 [(bK v.z.sets ⟨v.z.apex,4⟩),(jc v.z.sets v.q.name),(jc v.z.sets v.wc)] (Hr (tN _ _) (xU _ _) (xU _ _)) (by simp)));exact oN (bJ (h) (hr:=oS (k:=by first|exact⟨by(rw[Wm w];try rfl),rfl,om⟩|exact⟨by(rw[Wm w];try rfl),om⟩)) (hh:=o1r))
 refine aa nA ?_ (hok:=oS (k:=by first|trivial|(repeat' with_reducible apply And.intro)<;>first|(intros;exact ll v _ _)|(intros;exact lQ v _ a.1)|(intros;exact lM v)|(intros;exact gY v _ a.1)|exact(λ_=>gY v _ a.1)|exact zk v r _ ev a 6 [(bK v.z.sets ⟨v.z.apex,4⟩),(jc v.z.sets v.q.name), -1] (Hr (tN _ _) (xU _ _) om) (by simp)));exact oN (bJ (h) (hr:=oS (k:=by first|exact⟨by(rw[Wn w];try rfl),rfl,om⟩|exact⟨by(rw[Wn w];try rfl),om⟩)) (hh:=o1r))
def Si(v:Vw)(r:Nat)(h:H)(n:Nat)(hv:h r=some ⟨128,[v.d]⟩)(a:cZ v.z.sets)(hq:ai v.q.name=true)(u:dW v.q.name v.z.apex):yp 55 [.mptr r 0 0] h n (λd h' g=>n<=g/\((kD v.z.sets v.q.name=true/\d = .tuple [.agg ((fA v 3).1.df (!(fA v 3).2)),.b (fA v 3).2]/\h'=h)\/(kD v.z.sets v.q.name=false/\d = .tuple [.agg ((fA v 3).1.df (!(fA v 3).2)),.b (fA v 3).2]/\h'=upd h r (some ⟨128,[(⟨v.z,v.q,v.cut,v.beh,wV v.z v.q.name⟩:Vw).d]⟩)))):=by
 refine oP func55 λo ff=>?_;unfold f55;have c:r<n:=Nat.lt_of_not_le λq=>by(rw[o r q]at hv;cases hv)
 have ff:=qB @hv (nH n r) ff;refine xa ?_;refine xr ?_ ?_ (hok:=oz (qD (ll v) (λN=>lQ v N a.1) (lM v) (λN=>gY v N a.1))) (hq:=rfl)<;>intro w
 . refine aa nA ?_ (hok:=oS (k:=by first|trivial|(repeat' with_reducible apply And.intro)<;>first|(intros;exact ll v _ _)|(intros;exact lQ v _ a.1)|(intros;exact lM v)|(intros;exact gY v _ a.1)|exact(λ_=>gY v _ a.1)|exact zk v r _ ev a 5 [(bK v.z.sets ⟨v.z.apex,4⟩),(jc v.z.sets v.q.name)] (FB (tN _ _) (xU _ _)) (by simp)));exact oN (bJ (h) (hr:=oS (k:=by refine⟨om,.inl ?_⟩;first|exact⟨w,by(rw[Nj w];try rfl),rfl⟩|exact⟨w,by(rw[Nj w];try rfl)⟩)) (hh:=by exact less_upd o (λq hq=>by simp only[upd];repeat rw[XV (by omega)])))
 refine xa ?_ (hok:=oH (Zdf v a.1 hq u));refine xa ?_;exact oN (bJ (upd h r (some ⟨128,[(⟨v.z,v.q,v.cut,v.beh,wV v.z v.q.name⟩:Vw).d]⟩)) (hr:=oS (k:=by refine⟨om,.inr ?_⟩;first|exact⟨w,by(rw[SN w];try rfl),rfl⟩|exact⟨w,by(rw[SN w];try rfl)⟩)) (hh:=by exact Ph o o3h (λq hq f=>by simp only[upd];repeat rw[XV (by omega)])))
def Zdh(v:Vw)(r:Nat)(h:H)(n:Nat)(hv:h r=some ⟨128,[v.d]⟩)(a:cZ v.z.sets)(f:v.beh=true->0<=bK v.z.sets ⟨v.cut,2⟩):yp 52 [.mptr r 0 0] h n (λd h' g=>d = .tuple [.agg ((fA v 0).1.df (!(fA v 0).2)),.b (fA v 0).2]/\h'=h/\n<=g):=by
 refine oP func52 λo ff=>?_;unfold f52;have z:r<n:=Nat.lt_of_not_le λq=>by(rw[o r q]at hv;cases hv)
 have ff:=qB @hv (nH n r) ff;refine xv ?_;refine xr ?_ ?_ (hq:=rfl)<;>intro w
 . refine xa ?_;exact oN (bJ (h) (hr:=oS (k:=by first|exact⟨by(rw[SQ w];try rfl),rfl,om⟩|exact⟨by(rw[SQ w];try rfl),om⟩)) (hh:=o1r))
 have t:v.beh=true:=by revert w;cases v.beh<;>simp
 have u:(bK v.z.sets ⟨v.cut,2⟩).toNat<v.z.sets.length:=by have:=f t;have:=tN v.z.sets ⟨v.cut,2⟩;omega
 have A:0<=bK v.z.sets ⟨v.cut,2⟩:=f t;have R:=(a.2 _ u).1;have ff:=qA (bN u) ff;refine xa ?_ (hok:=oz (qD (ll v) (λN=>lQ v N a.1) (lM v) (λN=>gY v N a.1)));refine xa ?_ (hok:=oz (qD (ll v) (λN=>lQ v N a.1) (lM v) (λN=>gY v N a.1)));refine jnh (α:=Nat) [0,2,5] (λZ=>(n<Z)/\True) (λZ=>[(6,.i (Di v.z.sets v.cut))]) (λZ=>upd h n (some ⟨64,[[.v (.int .i64 0),.e,.v (.string (bs []))]]⟩)) (λZ=>Z) ?_ ?_
 .
  refine xi ?_ ?_<;>intro I
  . refine xb ?_ (hok:=oz (qD (ll v) (λN=>lQ v N a.1) (lM v) (λN=>gY v N a.1)));have j:Di v.z.sets v.cut=bK v.z.sets ⟨v.cut,8⟩:=X0 I;have ff:=qA j ff;exact Bc _ (h1:=⟨iv,trivial⟩) (h5:=λ_=>.inl rfl)
  refine bM ?_;have j:Di v.z.sets v.cut=bK v.z.sets ⟨v.cut,6⟩:=XV I;have ff:=qA j ff;exact Bc _ (h1:=⟨iv,trivial⟩) (h5:=λ_=>.inl rfl)
 rintro Z ⟨E, -⟩;simp only[XX,XZ];have m:r<Z:=by omega
 have ff:=qB @E @m ff;refine aa zf ?_;refine xj ?_;refine lph (α:=(Nat)×(Nat)×Nat) [0,2,77,78] (λ⟨k,p,Z⟩=>(k<=v.z.sets[(bK v.z.sets ⟨v.cut,2⟩).toNat]!.set.data.length)/\(p<Z)/\(n<p)/\True) (λ⟨k,p,Z⟩=>v.z.sets[(bK v.z.sets ⟨v.cut,2⟩).toNat]!.set.data.length-k) (λ⟨k,p,Z⟩=>[(7,.mrow p 0 (mI v.z.sets v.cut v.z.sets[(bK v.z.sets ⟨v.cut,2⟩).toNat]!.set.data (k)).length),(79,.i k)]) (λ⟨k,p,Z⟩=>upd (upd h n (some ⟨64,[[.v (.int .i64 0),.e,.v (.string (bs []))]]⟩)) p (some ⟨3,(mI v.z.sets v.cut v.z.sets[(bK v.z.sets ⟨v.cut,2⟩).toNat]!.set.data (k)).map iR⟩)) (λ⟨k,p,Z⟩=>Z) (0,(Z+2),_) (hA:=⟨iv,iv,iv,trivial⟩) (round:=?_) (um:=by refine iY (iY (less_upd o (λq K=>by simp only[upd];repeat rw[XV (by omega)])) ?_) ?_<;>first|(simp only[go_sem,ff];done)|(simp only[go_sem,ff];exact rfl));rintro⟨k,p,Z⟩ ⟨X,F,G, -⟩;simp only[XX,XZ];have J:n<Z:=by omega
 have L:r<Z:=by omega
 have x:=Oo v.z.sets v.cut v.z.sets[(bK v.z.sets ⟨v.cut,2⟩).toNat]!.set.data k;have ff:=qG @F @J @L (nH n r) (nH p r) (nH n p) ff;have ff:=qA (pls_0 (l:=v.z.sets) (c:=v.cut) (ds:=v.z.sets[(bK v.z.sets ⟨v.cut,2⟩).toNat]!.set.data)) ff;refine xo ?_ ?_<;>intro M
 .
  have U:k<v.z.sets[(bK v.z.sets ⟨v.cut,2⟩).toNat]!.set.data.length:=by simpa using M
  have ff:=qA (oh U) ff;refine wB ?_;refine xa ?_;refine xp ?_ ?_ (hok:=oH Pd) (hq:=rfl)<;>intro y
  .
   refine xb ?_ (hok:=oz (qD (ll v) (λN=>lQ v N a.1) (lM v) (λN=>gY v N a.1)));refine xb ?_;have B:=Zil (l:=v.z.sets) (c:=v.cut) (ds:=v.z.sets[(bK v.z.sets ⟨v.cut,2⟩).toNat]!.set.data) (k:=k) y;have ff:=qA B ff;refine ah (k+1,(Z+18),_) (h1:=⟨iv,iv,iv,trivial⟩) (h5:=?_);refine iY (iY (less_upd o (λq K=>?_)) ?_) ?_
   . simp only[upd];repeat rw[XV (by omega)]
   . first|(simp only[go_sem,ff];done)|(simp only[go_sem,ff];exact rfl)|(simp only[upd];simp[*];done)
   first|(simp only[go_sem,ff];done)|(simp only[go_sem,ff];exact rfl)|(simp only[upd];simp[*];done)
  refine xl ?_;have B:=Zim (l:=v.z.sets) (c:=v.cut) (ds:=v.z.sets[(bK v.z.sets ⟨v.cut,2⟩).toNat]!.set.data) (k:=k) y;have ff:=qA B ff;refine ah (k+1,p,_) (h1:=⟨iv,iv,iv,trivial⟩) (h5:=?_);refine iY (iY (less_upd o (λq K=>?_)) ?_) ?_
  . simp only[upd];repeat rw[XV (by omega)]
  . first|(simp only[go_sem,ff];done)|(simp only[go_sem,ff];exact rfl)|(simp only[upd];simp[*];done)
  first|(simp only[go_sem,ff];done)|(simp only[go_sem,ff];exact rfl)|(simp only[upd];simp[*];done)
 have O:k=v.z.sets[(bK v.z.sets ⟨v.cut,2⟩).toNat]!.set.data.length:=by omega
 subst O;refine aB ?_;refine Mk 7 p (rows:=(mI v.z.sets v.cut v.z.sets[(bK v.z.sets ⟨v.cut,2⟩).toNat]!.set.data v.z.sets[(bK v.z.sets ⟨v.cut,2⟩).toNat]!.set.data.length).map iR) (off:=0) (len:=(mI v.z.sets v.cut v.z.sets[(bK v.z.sets ⟨v.cut,2⟩).toNat]!.set.data v.z.sets[(bK v.z.sets ⟨v.cut,2⟩).toNat]!.set.data.length).length) ev ev (by simp) Zjg ?_;rw[X4,Ye (by simp)];refine aa nA ?_ (hok:=oS (k:=by first|trivial|(repeat' with_reducible apply And.intro)<;>first|(intros;exact ll v _ _)|(intros;exact lQ v _ a.1)|(intros;exact lM v)|(intros;exact gY v _ a.1)|exact(λ_=>gY v _ a.1)|exact zk v r _ ev a 4 (mI v.z.sets v.cut v.z.sets[(bK v.z.sets ⟨v.cut,2⟩).toNat]!.set.data v.z.sets[(bK v.z.sets ⟨v.cut,2⟩).toNat]!.set.data.length) (Vp _ _ _ _) (by have:=Oo v.z.sets v.cut v.z.sets[(bK v.z.sets ⟨v.cut,2⟩).toNat]!.set.data v.z.sets[(bK v.z.sets ⟨v.cut,2⟩).toNat]!.set.data.length;omega)));refine xv ?_;exact oN (bJ (h) (hr:=oS (k:=by first|exact⟨by(rw[SS w];try rfl),rfl,om⟩|exact⟨by(rw[SS w];try rfl),om⟩)) (hh:=o1r))
end Go.Proofs.YtjhhnhgflmkenaaGreatDoor
namespace Go.Proofs.YtjhhnhgflmkenaaGreatDoor
open Go.Proofs.Tryz
open Go.DL Go.Str Go.Rec Go.Zon Go.Cmp Go.Jn Go.RowKit
set_option maxRecDepth 10000
variable [Dr] [Glob prog] [Told]
def Zdq(v:Vw)(r:Nat)(h:H)(n:Nat)(hv:h r=some ⟨128,[v.d]⟩)(a:cZ v.z.sets):yp 54 [.mptr r 0 0] h n (λd h' g=>d = .tuple [.agg ((fA v 2).1.df false),.b (fA v 2).2]/\h'=h/\n<=g):=by
 refine oP func54 λo ff=>?_;unfold f54;have c:r<n:=Nat.lt_of_not_le λq=>by(rw[o r q]at hv;cases hv)
 have ff:=qB @hv (nH n r) ff;refine xa ?_;refine xa ?_ (hok:=oz (qD (ll v) (λN=>lQ v N a.1) (lM v) (λN=>gY v N a.1)));refine Nv nA [⟨11,14⟩] ?_ (hok:=oS (k:=by first|trivial|(repeat' with_reducible apply And.intro)<;>first|(intros;exact ll v _ _)|(intros;exact lQ v _ a.1)|(intros;exact lM v)|(intros;exact gY v _ a.1)|exact(λ_=>gY v _ a.1)|exact zk v r _ ev a 3 [(bK v.z.sets ⟨v.q.name,3⟩)] (K5 (tN _ _)) (by simp)));exact oN (bJ (h) (hr:=oS (k:=o1R)) (hh:=o1r))
def Zde(v:Vw)(r:Nat)(h:H)(n:Nat)(hv:h r=some ⟨128,[v.d]⟩)(a:cZ v.z.sets):yp 57 [.mptr r 0 0] h n (λd h' g=>d = .tuple [.agg ((fA v 5).1.df false),.b (fA v 5).2]/\h'=h/\n<=g):=by
 refine oP func57 λo ff=>?_;unfold f57;have c:r<n:=Nat.lt_of_not_le λq=>by(rw[o r q]at hv;cases hv)
 have ff:=qB @hv (nH n r) ff;refine xa ?_;refine xa ?_ (hok:=oz (qD (ll v) (λN=>lQ v N a.1) (lM v) (λN=>gY v N a.1)));refine Nv nA [⟨18,21⟩] ?_ (hok:=oS (k:=by first|trivial|(repeat' with_reducible apply And.intro)<;>first|(intros;exact ll v _ _)|(intros;exact lQ v _ a.1)|(intros;exact lM v)|(intros;exact gY v _ a.1)|exact(λ_=>gY v _ a.1)|exact zk v r _ ev a 3 [(bK v.z.sets ⟨v.wc,3⟩),(jc v.z.sets v.q.name)] (FB (tN _ _) (xU _ _)) (by simp)));exact oN (bJ (h) (hr:=oS (k:=o1R)) (hh:=o1r))
def ZjE(z:Zon)(u:Qst)(m:z.sets.length<=1000000)(h:H)(n:Nat):yp 51 [.agg z.d,.agg u.d] h n (λd h' g=>∃r,d = .mptr r 0 0/\h'=upd h r (some ⟨128,[(⟨z,u,[],false,[]⟩:Vw).d]⟩)/\n<=r/\r<g):=by
 refine oP func51 λo ff=>?_;unfold f51;have ff:=qG (nH n (n+1)) (nH n (n+10)) (nH n (n+13)) (nH (n+1) (n+10)) (nH (n+1) (n+13)) (nH (n+10) (n+13)) ff;refine xa ?_;refine Nv De [⟨1,7⟩,⟨3,7⟩,⟨7,8⟩] ?_;refine xj ?_;refine iF (Nat×Nat) [5,20,21] (λ⟨k,Z⟩=>(k<=z.sets.length/\n+13<Z,z.sets.length-k,[(22,.i k)],upd (upd (upd (upd h n (some ⟨24,[z.d]⟩)) (n+1) (some ⟨31,[u.d]⟩)) (n+10) (some ⟨126,gZ (ug (vJ z.sets k))⟩)) (n+13) (some ⟨128,[[.v (.string (bs z.apex)),.l (z.sets.map Sgd.d),.mp (n+10),.v (.string (bs u.name)),.i u.ty,.v (.string (bs [])),.b false,.v (.string (bs []))]]⟩),Z)) (0,_) ?_ (um:=by exact λ_=>.inl rfl);rintro⟨k,Z⟩ ⟨X,E⟩;simp only[XX,XZ];have a:n<Z:=by omega
 have c:n+1<Z:=by omega
 have f:n+10<Z:=by omega
 have ff:=qE @E @a @c @f ff;refine xo ?_ ?_<;>intro w
 .
  have U:k<z.sets.length:=by simpa using w
  have ff:=qB (bN U) (ZkV (l:=z.sets) (k:=k)) ff;refine wB ?_;refine xa ?_;refine xb ?_;refine xb ?_;refine ah (k+1,_) (h5:=?_);refine iY (iY (iY (iY (less_upd o (λq K=>?_)) ?_) ?_) ?_) ?_
  . simp only[upd];repeat rw[XV (by omega)]
  . first|(simp only[go_sem,ff];done)|(simp only[go_sem,ff];exact rfl)|(simp only[upd];simp[*];done)
  . first|(simp only[go_sem,ff];done)|(simp only[go_sem,ff];exact rfl)|(simp only[upd];simp[*];done)
  . first|(simp only[go_sem,ff];done)|(simp only[go_sem,ff];exact rfl)|(simp only[upd];simp[*];done)
  first|(simp only[go_sem,ff];done)|(simp only[go_sem,ff];exact rfl)|(simp only[upd];simp[*];done)
 have j:k=z.sets.length:=by omega
 subst j;refine aB ?_;refine Za8 (n+13) 2 (n+10) ev rfl ev rfl om Zjc ?_;simp only[YC,Yx];refine xa ?_;exact oN (bJ (upd h (n+13) (some ⟨128,[(⟨z,u,[],false,[]⟩:Vw).d]⟩)) (hr:=oS (k:=by exact⟨n+13,rfl,rfl,om,om⟩)) (hh:=by refine iY (less_upd o (λq K=>?_)) ?_<;>simp only[upd]<;>(repeat rw[XV (by omega)])<;>rfl))
end Go.Proofs.YtjhhnhgflmkenaaGreatDoor
namespace Go.Proofs.YtjhhnhgflmkenaaGreatDoor
open Go.Proofs.Tryz
open Go.DL Go.Str Go.Rec Go.Zon Go.Cmp Go.Jn Go.RowKit
set_option maxRecDepth 10000
variable [Glob prog] [Told]
def Zjn(v:Vw)(r:Nat)(h:H)(n:Nat)(hv:h r=some ⟨128,[v.d]⟩)(a:cZ v.z.sets)(hq:ai v.q.name=true)(u:dW v.q.name v.z.apex)(J:kD v.z.sets v.q.name=true):yp 55 [.mptr r 0 0] h n (λd h' g=>d = .tuple [.agg ((fA v 3).1.df (!(fA v 3).2)),.b (fA v 3).2]/\h'=h/\n<=g) :=
 (Si v r h n hv a hq u).mono λd h' g⟨G,c⟩=>by
  rcases c with⟨_,Y,f⟩|⟨Y,_⟩
  . exact⟨Y,f,G⟩
  rw[J]at Y;cases Y
def Zjo(v:Vw)(r:Nat)(h:H)(n:Nat)(hv:h r=some ⟨128,[v.d]⟩)(a:cZ v.z.sets)(hq:ai v.q.name=true)(u:dW v.q.name v.z.apex)(J:kD v.z.sets v.q.name=false):yp 55 [.mptr r 0 0] h n (λd h' g=>d = .tuple [.agg ((fA v 3).1.df (!(fA v 3).2)),.b (fA v 3).2]/\h'=upd h r (some ⟨128,[(⟨v.z,v.q,v.cut,v.beh,wV v.z v.q.name⟩:Vw).d]⟩)/\n<=g) :=
 (Si v r h n hv a hq u).mono λd h' g⟨G,c⟩=>by
  rcases c with⟨Y,_⟩|⟨_,Y,f⟩
  . rw[J]at Y;cases Y
  exact⟨Y,f,G⟩
def Zoj{z:Zon}{s:Str}(hn:ai s=true)(hz:ak z=true)(u:under s z.apex=true):jY z s=((fF z s).1,(fF z s).2,0):=by unfold jY;rw[hn,hz,u];rfl
def Zok{z:Zon}{s:Str}(hn:ai s=true)(hz:ak z=true)(u:under s z.apex=false):jY z s=([],false,20):=by unfold jY;rw[hn,hz,u];rfl
def Zol{z:Zon}{s:Str}(h:(ai s&&ak z)=false):jY z s=([],false,1):=by unfold jY;rw[h];rfl
def M3{z:Zon}{s a:Str}{b:Bool}{e:Int}(h:jY z s=(a,b,e)):yk 50 [.agg z.d,.v (.string (bs s))] (.tuple [.v (.string (bs a)),.b b,.i e]):=by have:=ZcX z s;rwa [h]at this
theorem cut_at{z:Zon}(hz:ak z=true):∀f{n:Str},ai n=true->dW n z.apex->(Au z f n).2=true->0<=bK z.sets ⟨(Au z f n).1,2⟩
 | 0,n,_,_,h=>by cases h
 | f+1,n,hn,u,h=>by
  rw[Au]at h ⊢;by_cases e:n=z.apex
  . rw[X0 e]at h;cases h
  rw[XV e]at h ⊢;by_cases O:bV z.sets ⟨n,2⟩=true
  . rw[X0 O];exact Ziu hz hn O
  rw[XV O]at h ⊢;let⟨c,a⟩:=Gu hn u e;exact cut_at hz f (Bo hn c).1 a h
def ZpD{z:Zon}(hz:ak z=true):ai z.apex=true:=(zL.1 o1M).apex
set_option maxHeartbeats 1000000 in
def ZkE(z:Zon)(q:Qst):yk 15 [.agg z.d,.agg q.d] (.tuple [.agg (pU z q).1.d,.i (pU z q).2]):=by
 refine oO func15 λff=>?_;unfold f15;refine xa ?_;refine xr ?_ ?_ (hq:=rfl)<;>intro U
 .
  have y:aP q.ty 1 8=false:=by(simp only[aP];revert U;simp;omega)
  exact ye (K:=2) (k:=by rw[pU,X0 y];rfl)
 have y : ¬aP q.ty 1 8=false:=by(simp only[aP];revert U;simp<;>omega)
 have A:(ai q.name&&ak z)=false\/(ai q.name=true/\ak z=true/\under q.name z.apex=false)\/(ai q.name=true/\ak z=true/\under q.name z.apex=true):=by(cases ai q.name<;>cases ak z<;>cases under q.name z.apex<;>simp)
 rcases A with hA|⟨L,V,F⟩|⟨L,V,F⟩
 .
  have o:=Zol hA;have ff:=qA @o ff;refine xa ?_ (hok:=oF (M3 o));refine xr ?_ ?_ (hq:=rfl)<;>intro I
  . simp at I
  refine aj ?_;refine xp ?_ ?_ (hq:=rfl)<;>intro N
  . exact ye (K:=2) (k:=by rw[pU,XV y,o];rfl)
  simp at N
 .
  have o:=Zok L V F;have ff:=qA @o ff;refine xa ?_ (hok:=oF (M3 o));refine aj ?_;refine xp ?_ ?_ (hq:=rfl)<;>intro I
  . exact ye (K:=2) (k:=by rw[pU,XV y,o];rfl)
  simp at I
 have o:=Zoj L V F;have u:=(JG L (ZpD V)).1 F;have a:=rA V;have G:pU z q=(Rx z q,0):=by unfold pU;rw[XV y,o];rfl
 have ff:=qA @o ff;refine xa ?_ (hok:=oF (M3 o));refine xr ?_ ?_ (hq:=rfl)<;>intro I
 . simp at I
 refine xr ?_ ?_ (hq:=rfl)<;>intro N
 . simp at N
 refine aj (ya 2 (hct:=by exact ZjE z q a.1 _ _) (hk:=?_));rintro R Y h ⟨r,rfl,rfl,O,T⟩;try dsimp only at O T
 have ab:3<=r:=by omega
 have ff:=qG (nH 0 1) (nH 0 2) (nH 0 r) (nH 1 2) (nH 1 r) (nH 2 r) ff;refine yb ?_;refine xv ?_;refine xj ?_;refine lq (Nat×Str×Nat) [4,9,65,66] (λ⟨k,w,Z⟩=>(k<=7/\r<Z/\(w=if k<=3 then[]else wV z q.name)/\Rx z q=xZ z q (7-k) k,7-k,[(67,.i k)],[(0,⟨24,[z.d]⟩),(1,⟨31,[q.d]⟩),(2,⟨64,[[.v (.int .i64 0),.e,.v (.string (bs []))]]⟩),(r,⟨128,[(⟨z,q,(fF z q.name).1,(fF z q.name).2,w⟩:Vw).d]⟩)],Z)) (0,[],_) ?_;rintro⟨k,w,Z⟩ ⟨X,E,x,m⟩;simp only[XX,XZ];have n0:0<Z:=by omega
 have n1:1<Z:=by omega
 have h:2<Z:=by omega
 have ff:=qE @E @n0 @n1 @h ff;refine xo ?_ ?_ (hq:=rfl)<;>intro c
 .
  have p:k<7:=by(have M:=c;simp at M;omega)
  have g:(⟨z,q,(fF z q.name).1,(fF z q.name).2,w⟩:Vw)=wW z q k:=by rw[x];rfl
  refine wB ?_;have h7:k=0\/k=1\/k=2\/(k=3/\kD z.sets q.name=true)\/(k=3/\kD z.sets q.name=false)\/k=4\/k=5\/k=6:=by(cases kD z.sets q.name<;>simp<;>omega)
  rcases h7 with f|f|f|⟨f,J⟩|⟨f,J⟩|f|f|f
  .
   have ff:=qA @f ff;refine xa ?_;refine aj (ya 1 (hct:=by exact Zdh (⟨z,q,(fF z q.name).1,(fF z q.name).2,w⟩:Vw) r _ _ ev a (λM=>cut_at V _ L u M)) (hk:=?_));rintro R Y h ⟨rfl,rfl,j⟩;try dsimp only at j
   have t:0<h:=by omega
   have B:1<h:=by omega
   have W:2<h:=by omega
   have v:r<h:=by omega
   have ff:=qE @t @B @W @v ff;refine yb ?_;refine xp ?_ ?_ (hq:=rfl)<;>intro n
   . exact ye (K:=2) (k:=o1Y)
   refine xl ?_;exact ah (k+1,w,_) (h1:=⟨iv,iv,o2k,o1Z⟩)
  .
   have ff:=qA @f ff;refine xa ?_;refine aj (ya 1 (hct:=by exact Zdo (⟨z,q,(fF z q.name).1,(fF z q.name).2,w⟩:Vw) r _ _ ev a) (hk:=?_));rintro R Y h ⟨rfl,rfl,j⟩;try dsimp only at j
   have t:0<h:=by omega
   have B:1<h:=by omega
   have W:2<h:=by omega
   have v:r<h:=by omega
   have ff:=qE @t @B @W @v ff;refine yb ?_;refine xp ?_ ?_ (hq:=rfl)<;>intro n
   . exact ye (K:=2) (k:=o1Y)
   refine xl ?_;exact ah (k+1,w,_) (h1:=⟨iv,iv,o2k,o1Z⟩)
  .
   have ff:=qA @f ff;refine xa ?_;refine aj (ya 1 (hct:=by exact Zdq (⟨z,q,(fF z q.name).1,(fF z q.name).2,w⟩:Vw) r _ _ ev a) (hk:=?_));rintro R Y h ⟨rfl,rfl,j⟩;try dsimp only at j
   have t:0<h:=by omega
   have B:1<h:=by omega
   have W:2<h:=by omega
   have v:r<h:=by omega
   have ff:=qE @t @B @W @v ff;refine yb ?_;refine xp ?_ ?_ (hq:=rfl)<;>intro n
   . exact ye (K:=2) (k:=o1Y)
   refine xl ?_;exact ah (k+1,w,_) (h1:=⟨iv,iv,o2k,o1Z⟩)
  .
   have ff:=qA @f ff;refine xa ?_;refine aj (ya 1 (hct:=by exact Zjn (⟨z,q,(fF z q.name).1,(fF z q.name).2,w⟩:Vw) r _ _ ev a L u J) (hk:=?_));rintro R Y h ⟨rfl,rfl,j⟩;try dsimp only at j
   have t:0<h:=by omega
   have B:1<h:=by omega
   have W:2<h:=by omega
   have v:r<h:=by omega
   have ff:=qE @t @B @W @v ff;refine yb ?_;refine xp ?_ ?_ (hq:=rfl)<;>intro n
   . exact ye (K:=2) (k:=o1Y)
   rw[Nj (by exact J)]at n;simp at n
  .
   have ff:=qA @f ff;refine xa ?_;refine aj (ya 1 (hct:=by exact Zjo (⟨z,q,(fF z q.name).1,(fF z q.name).2,w⟩:Vw) r _ _ ev a L u J) (hk:=?_));rintro R Y h ⟨rfl,rfl,j⟩;try dsimp only at j
   have t:0<h:=by omega
   have B:1<h:=by omega
   have W:2<h:=by omega
   have v:r<h:=by omega
   have ff:=qE @t @B @W @v ff;refine yb ?_;refine xp ?_ ?_ (hq:=rfl)<;>intro n
   . exact ye (K:=2) (k:=o1Y)
   refine xl ?_;exact ah (k+1,wV z q.name,_) (h1:=⟨iv,iv,(by first|(rw[f];rfl)|(dsimp only;rw[f];rfl)),o1Z⟩)
  .
   have ff:=qA @f ff;refine xa ?_;refine aj (ya 1 (hct:=by exact Zdd (⟨z,q,(fF z q.name).1,(fF z q.name).2,w⟩:Vw) r _ _ ev a) (hk:=?_));rintro R Y h ⟨rfl,rfl,j⟩;try dsimp only at j
   have t:0<h:=by omega
   have B:1<h:=by omega
   have W:2<h:=by omega
   have v:r<h:=by omega
   have ff:=qE @t @B @W @v ff;refine yb ?_;refine xp ?_ ?_ (hq:=rfl)<;>intro n
   . exact ye (K:=2) (k:=o1Y)
   refine xl ?_;exact ah (k+1,w,_) (h1:=⟨iv,iv,o2k,o1Z⟩)
  .
   have ff:=qA @f ff;refine xa ?_;refine aj (ya 1 (hct:=by exact Zde (⟨z,q,(fF z q.name).1,(fF z q.name).2,w⟩:Vw) r _ _ ev a) (hk:=?_));rintro R Y h ⟨rfl,rfl,j⟩;try dsimp only at j
   have t:0<h:=by omega
   have B:1<h:=by omega
   have W:2<h:=by omega
   have v:r<h:=by omega
   have ff:=qE @t @B @W @v ff;refine yb ?_;refine xp ?_ ?_ (hq:=rfl)<;>intro n
   . exact ye (K:=2) (k:=o1Y)
   refine xl ?_;exact ah (k+1,w,_) (h1:=⟨iv,iv,o2k,o1Z⟩)
  have ff:=qA @f ff;refine xa ?_;refine aj (ya 1 (hct:=by exact Zdc (⟨z,q,(fF z q.name).1,(fF z q.name).2,w⟩:Vw) r _ _ ev a) (hk:=?_));rintro R Y h ⟨rfl,rfl,j⟩;try dsimp only at j
  have t:0<h:=by omega
  have B:1<h:=by omega
  have W:2<h:=by omega
  have v:r<h:=by omega
  have ff:=qE @t @B @W @v ff;refine yb ?_;refine xp ?_ ?_ (hq:=rfl)<;>intro n
  . exact ye (K:=2) (k:=o1Y)
  refine xl ?_;exact ah (k+1,w,_) (h1:=⟨iv,iv,o2k,o1Z⟩)
 have e8:k=7:=by(have M:=c;simp at M;omega)
 have g:(⟨z,q,(fF z q.name).1,(fF z q.name).2,w⟩:Vw)=wW z q k:=by rw[x];rfl
 rw[e8]at g;refine aB ?_;refine aj (ya 1 (hct:=by exact Zdi (⟨z,q,(fF z q.name).1,(fF z q.name).2,w⟩:Vw) r _ _ ev a) (hk:=?_));rintro R Y h ⟨rfl,rfl,j⟩;refine yb ?_;exact fo 2 (k:=by rw[G,m,e8,Zmc,<-g];try rfl)
end Go.Proofs.YtjhhnhgflmkenaaGreatDoor
namespace Go.Proofs.YtjhhnhgflmkenaaGreatDoor
open Go.Proofs.Tryz
open Go.DL Go.Str Go.Rec Go.Cmp Go.Zon Go.Jn
set_option maxRecDepth 10000
variable [Dr] [Glob prog] [Told]
def ZhF(z:Zon)(l:List Upd):yk 5 [.agg z.d,.l (l.map Upd.d)] (.b (yU z l)):=by
 refine oO func5 λff=>?_;unfold Tryz.f5;refine xa ?_;refine xf (λw=>?_) (λw=>?_) (hok:=oS (k:=by first|trivial|(repeat' with_reducible apply And.intro)<;>first|(intros;exact ZhZ z)|exact(λ_=>Oh z)|exact(λh=>Zhi z (ZmL (by grind)).1)|omega|(intro h;simp only[Bool.and_eq_true,decide_eq_true_eq]at h;omega)|(intros;omega)|(intros;simp_all;done)))
 . exact ye (k:=by rw[ZmM (by grind)])
 have c:xO z=true:=by grind
 have f:jA z=true:=by grind
 have g:jQ z=true:=by grind
 have j:l.length<=6:=by omega
 refine xj ?_;refine lq (Nat×Nat) [25,26] (λ⟨k,Z⟩=>(k<=l.length/\(ax l.length ((λi=>decide (l[i]!.needs.length<=10)&&decide (l[i]!.chgs.length<=10))) 0=ax l.length ((λi=>decide (l[i]!.needs.length<=10)&&decide (l[i]!.chgs.length<=10))) k)/\0<Z,l.length-k,[(27,.i k)],[(0,⟨24,[z.d]⟩)],Z)) (0,_) ?_;rintro⟨k,Z⟩ ⟨X,u,E⟩;simp only[XX,XZ];have ff:=qA @E ff;refine xo ?_ ?_<;>intro I
 .
  have U:k<l.length:=by simpa using I
  have ff:=qA (getD_upd U) ff;refine wB ?_;refine xa ?_;refine xi ?_ ?_<;>intro a
  . exact ye (k:=by have m:(λi=>decide (l[i]!.needs.length<=10)&&decide (l[i]!.chgs.length<=10)) k=false:=(by simp only[YT,X6];omega);unfold yU;rw[c,f,g,YB j,u,ed U m];rfl)
  refine xl ?_;have T:((λi=>decide (l[i]!.needs.length<=10)&&decide (l[i]!.chgs.length<=10))) k=true:=by simp only[XU,XY];omega
  exact ah (k+1,_) (h1:=⟨iv,o2D,iv⟩)
 have n:k=l.length:=by omega
 subst n;refine aB ?_;exact ye (k:=by unfold yU;rw[c,f,g,YB j,u,gB (by omega)];rfl)
@[go_sem]theorem all_zon9{l:List Zon}:(∀r∈l.map Zon.d,r.length=2)=True:=by apply eq_true;intro r O;obtain⟨x,_,rfl⟩:=Yp.1 O;rfl
def dw_nh{ro:Option Nat}{c:Code}{Q:Exit->S->Prop}{s:S}(k : ∀V,V=s.h->DW prog ro c Q { n:=s.n,t:=s.t,h:=V,nx:=s.nx,ok:=s.ok,e:=s.e }):DW prog ro c Q s:=k s.h rfl
@[go_sem]theorem keysOk_I{m:List Int}:jl prog 3 (zV m)=true:=by
 induction m with
 | nil=>rfl
 | cons a m k=>rw[Lb];simp only[jl,k,ko3,Zt]
def GQ{z:Zon}(h:ak z=true):yk 28 [.agg z.d] (.i (dF z)):=by
 have O:jA z=true:=by rw[<-uy];exact h
 exact ZhU z (by have:=UV O;omega) (GX O) (UW O)
def Ni{z y:Zon}{u:Upd}{e:Int}(h:fH z u=(y,e)):yk 17 [.agg z.d,.agg u.d] (.tuple [.agg y.d,.i e]):=by have:=Zd7 z u;rwa [h]at this
def Xb{a b:Int}(m:iB a=true)(p:iB b=true):yk 29 [.i a,.i b] (.tuple [.b (gX a b),.i 0]):=by have:=Zbj a b;unfold nT at this;rwa [m,p]at this
theorem A8{z:Zon}(h:ak z=true):iB (dF z)=true:=by rw[<-C8 h];exact A7 h
def Su{z y:Zon}{u:Upd}{e:Int}(h:fH z u=(y,e)):cZ y.sets:=by
 by_cases J:e=0
 . subst J;let⟨a,m⟩:=Gs h;exact rA m.plain.1.ok
 rw[ZdA h J];exact⟨by decide,λk X=>absurd X (Nat.not_lt_zero k)⟩
set_option maxHeartbeats 1000000 in
def Zg2(z:Zon)(l:List Upd)(hz:dX z)(h:z.sets.length<=100)(Ed:l.length<=6)(j : ∀i,i<l.length->l[i]!.chgs.length<=10):yk 7 [.agg z.d,.l (l.map Upd.d)] (.tuple [.l ((mr z l).1.map Zon.d),.b (mr z l).2]):=by
 refine oO func7 λff=>?_;unfold Tryz.f7;refine xv ?_;have J:=GQ hz.ok;simp only[go_sem]at J;refine xa ?_ (hok:=gI @J);refine xj ?_;refine dw_nh (λL M=>?_);dsimp only at M ⊢;have W:L 6=some ⟨92,gZ (zV ([z].map dF))⟩:=by rw[M];simp only[go_sem,ff];first|done|exact rfl
 refine iF (Nat×(List Zon)×D×H×Nat) [7,23,24] (λ⟨k,o,x9,E,Z⟩=>(k<=l.length/\lN z l k=some o/\IsV 6 24 E x9 o Z/\E 6=some ⟨92,gZ (zV (o.map dF))⟩/\6<Z,l.length-k,[(6,x9),(25,.i k)],E,Z)) (0,[z],.list true [[.v (.string (bs z.apex)),.l (z.sets.map Sgd.d)]],L,_) ?_ (hA:=⟨iv,rfl,(.inl rfl),W,oW⟩);rintro⟨k,o,x9,E,Z⟩ ⟨X,u,hI,v,BP⟩;simp only[XX,XZ];let⟨hP,am⟩:=M8 hz h j k o X u;have x:o.length-1<o.length:=by have:=hP.ne;omega
 have t:=(hP.pl _ x).ok;have e1:((o.length:Int)-1).toNat=o.length-1:=by omega
 have ff:=qE @v @e1 (yS x) (nG 6 Z) ff;refine xo ?_ ?_<;>intro w
 .
  have R:k<l.length:=by simpa using w
  have ff:=qA (getD_upd R) ff;refine wB ?_;have R:k<l.length:=by simpa using w
  refine xa ?_;rcases hI with rfl|⟨r,rfl,O,ab,ac⟩
  .
   refine xa ?_;rcases g:fH o[o.length-1]! l[k]! with⟨y,e⟩
   have F:=Su g;have ff:=qA @g ff;refine xa ?_ (hok:=oF (Ni g));refine xf ?_ ?_ (hok:=gI (Kl y o[o.length-1]! F))<;>intro I
   .
    have p:lN z l (k+1)=some o:=by rw[CG u];unfold yf;rw[g];exact X0 (I.elim .inl λq=>.inr (YP q))
    refine aB ?_;refine xb ?_;exact ah (k+1,o,.list true (o.map Zon.d),_,_) (h1:=⟨iv,p,(.inl rfl),o1D,oW⟩) (h5:=λ_=>.inl rfl)
   obtain rfl:e=0:=by grind
   have N:y≠o[o.length-1]! := λq=>by have V:=I;rw[show nJ y o[o.length-1]! = true from YB q]at V;simp at V
   let⟨y0,m⟩:=Gs g;have f:=m.plain.1;have sF:jA y=true:=by rw[<-uy];exact f.ok
   have ff:=qA @sF ff;refine xr ?_ ?_ (hok:=oV (Oh y)) (hq:=rfl)<;>intro a
   . simp at a
   have Y:=GQ t;have A:=GQ f.ok;simp only[go_sem]at Y A;refine xa ?_ (hok:=oI Y A);have h4:=Xb (A8 t) (A8 f.ok);have U:nT (dF o[o.length-1]!) (dF y)=(gX (dF o[o.length-1]!) (dF y),0):=by unfold nT;rw[A8 t,A8 f.ok];rfl
   have ff:=qA @U ff;refine xa ?_ (hok:=oF h4);refine xf ?_ ?_ (hq:=rfl)<;>intro c
   .
    have G:lN z l (k+1)=none:=by rw[CG u];unfold yf;rw[g,XV o2u];exact X0 (c.elim (λq=>.inr (.inl q)) λq=>.inr (.inr (YP q)))
    have T:mr z l=([],false):=by unfold mr;rw[M9 G l.length (by omega)]
    have ff:=qA @T ff;exact yi (K:=2)
   have c5:=c;try simp only[XY,X6,Yc,XU,Yg,Ya,Yr,YT,YF,Ze,ZN,ZP,ne_eq]at c
   have p:lN z l (k+1)=some (o++[y]):=by rw[CG u];unfold yf;rw[g,XV o2u];exact XV o0E
   have B:=Pn (n:=dF y) (o.map dF) (λq=>by rw[show zS (o.map dF) (dF y)=true from YB q]at c;simp at c);have ff:=qA @B ff;refine xa ?_;refine xb ?_;refine xb ?_;exact ah (k+1,o++[y],.mrow (Z+63) 0 (o.length+1),_,_) (h1:=⟨iv,p,o0u,o1b,oW⟩) (h5:=λ_=>.inl rfl)
  have ff:=qD @O (nH 6 r) (nG r Z) ff;refine xa ?_;rcases g:fH o[o.length-1]! l[k]! with⟨y,e⟩
  have F:=Su g;have ff:=qA @g ff;refine xa ?_ (hok:=oF (Ni g));refine xf ?_ ?_ (hok:=gI (Kl y o[o.length-1]! F))<;>intro I
  .
   have p:lN z l (k+1)=some o:=by rw[CG u];unfold yf;rw[g];exact X0 (I.elim .inl λq=>.inr (YP q))
   refine aB ?_;refine xb ?_;exact ah (k+1,o,.mrow r 0 o.length,_,_) (h1:=⟨iv,p,(by(try dsimp only);exact .inr ⟨r,rfl,ev,om,om⟩),o1D,oW⟩) (h5:=λ_=>.inl rfl)
  obtain rfl:e=0:=by grind
  have N:y≠o[o.length-1]! := λq=>by have V:=I;rw[show nJ y o[o.length-1]! = true from YB q]at V;simp at V
  let⟨y0,m⟩:=Gs g;have f:=m.plain.1;have sF:jA y=true:=by rw[<-uy];exact f.ok
  have ff:=qA @sF ff;refine xr ?_ ?_ (hok:=oV (Oh y)) (hq:=rfl)<;>intro a
  . simp at a
  have Y:=GQ t;have A:=GQ f.ok;simp only[go_sem]at Y A;refine xa ?_ (hok:=oI Y A);have h4:=Xb (A8 t) (A8 f.ok);have U:nT (dF o[o.length-1]!) (dF y)=(gX (dF o[o.length-1]!) (dF y),0):=by unfold nT;rw[A8 t,A8 f.ok];rfl
  have ff:=qA @U ff;refine xa ?_ (hok:=oF h4);refine xf ?_ ?_ (hq:=rfl)<;>intro c
  .
   have G:lN z l (k+1)=none:=by rw[CG u];unfold yf;rw[g,XV o2u];exact X0 (c.elim (λq=>.inr (.inl q)) λq=>.inr (.inr (YP q)))
   have T:mr z l=([],false):=by unfold mr;rw[M9 G l.length (by omega)]
   have ff:=qA @T ff;exact yi (K:=2)
  have c5:=c;try simp only[XY,X6,Yc,XU,Yg,Ya,Yr,YT,YF,Ze,ZN,ZP,ne_eq]at c
  have p:lN z l (k+1)=some (o++[y]):=by rw[CG u];unfold yf;rw[g,XV o2u];exact XV o0E
  have B:=Pn (n:=dF y) (o.map dF) (λq=>by rw[show zS (o.map dF) (dF y)=true from YB q]at c;simp at c);have ff:=qA @B ff;refine xa ?_;refine xb ?_;refine xb ?_;exact ah (k+1,o++[y],.mrow (Z+63) 0 (o.length+1),_,_) (h1:=⟨iv,p,o0u,o1b,oW⟩) (h5:=λ_=>.inl rfl)
 have e8:k=l.length:=by omega
 subst e8;have T:mr z l=(o,true):=by unfold mr;rw[u]
 have ff:=qA @T ff;refine aB ?_;rcases hI with rfl|⟨r,rfl,O,ab,ac⟩
 . exact yi (K:=2)
 have ff:=qD @O (nH 6 r) (nG r Z) ff;exact yi (K:=2)
def GL(n:Int)(l:List Int)(h:l.length<=1000):yk 18 [.i n,.l (l.map iR)] (.agg (gQ n l).d):=by
 refine oO func18 λff=>?_;unfold f18;refine xv ?_;refine aj ?_;refine xR 2 1 24 56 ev (by rfl) o3h ?_;simp only[YC,Yx];refine xa ?_;refine dK ?_;refine lq (Nat×Nat×Nat) [1,4,5,19,20] (λ⟨k,r,Z⟩=>(k<=2/\r<Z/\2<r,2-k,[(21,.i k)],[(0,⟨24,[[.v (.string (bs [])),.e]]⟩),(2,⟨24,[[.v (.string (bs [120])),.mrow r 0 k]]⟩),(r,⟨56,([[.v (.string (bs [120])),.i 2,.i 0,.list true [[.v (.string (bs [97,46,110,115])),.i 0,.i 0]],.e],[.v (.string (bs [120])),.i 4,.i 0,.list true [[.v (.string (bs [])),.i n,.i 0]],.e]]).take k⟩)],Z)) (0,4,_) ?_;rintro⟨k,r,Z⟩ ⟨X,O,u⟩;simp only[XX,XZ];have x:2<Z:=by omega
 have ff:=qF @O @x (nH 0 2) (nH 0 r) (nH 2 r) ff;refine xo ?_ ?_<;>intro w
 .
  have m:k=0\/k=1:=by have V:(k:Int)<2:=(by simpa using w);omega
  refine wB ?_;rcases m with f|f
  . have ff:=qA @f ff;refine xa ?_;refine xb ?_;refine xb ?_;exact ah (k+1,(Z+10),_) (h3:=o0M) (h4:=o0M) (h5:=o0M)
  have ff:=qA @f ff;refine xa ?_;refine xb ?_;refine xb ?_;exact ah (k+1,(Z+10),_) (h3:=o0M) (h4:=o0M) (h5:=o0M)
 refine aB ?_;have y:k=2:=by have V : ¬(k:Int)<2:=(by simpa using w);omega
 subst y;refine xr ?_ ?_ (hq:=rfl)<;>intro I
 .
  have j:0<l.length:=by simpa using I
  refine xa ?_;refine aj ?_;refine xR (Z+5) 3 53 70 ev (by rfl) o3h ?_;simp only[YC,Yx];refine xa ?_;refine dK ?_;refine lq (Nat×Nat×Nat×Nat) [4,5,37,38] (λ⟨c,t,g,Z⟩=>(c<=l.length/\r<g/\g<t/\t<Z,l.length-c,[(8,.mptr g 0 0),(39,.i c)],[(0,⟨24,[[.v (.string (bs [])),.e]]⟩),(2,⟨24,[[.v (.string (bs [120])),.mrow r 0 2]]⟩),(r,⟨56,[[.v (.string (bs [120])),.i 2,.i 0,.list true [[.v (.string (bs [97,46,110,115])),.i 0,.i 0]],.e],[.v (.string (bs [120])),.i 4,.i 0,.list true [[.v (.string (bs [])),.i n,.i 0]],.e]]⟩),(g,⟨53,[[.v (.string (bs [119,46,120])),.i 1,.i 0,.mrow t 0 c]]⟩),(t,⟨70,(l.take c).map dI⟩)],Z)) (0,(Z+7),(Z+5),_) ?_;rintro⟨c,t,g,Z⟩ ⟨U,z,J,o⟩;simp only[XX,XZ];have A:g<Z:=by omega
  have B:r<Z:=by omega
  have E:2<Z:=by omega
  have p:(l.take c).length=c:=by simp;omega
  have ff:=qH @o @A @B @E @p (nH 0 2) (nH 0 r) (qI (nH 0 g) (nH 0 t) (nH 2 r) (nH 2 g) (nH 2 t) (nH r g) (nH r t) (nH t g) ff);refine xo ?_ ?_<;>intro a
  .
   have v:c<l.length:=by simpa using a
   have ff:=qA (IJ v) ff;refine wB ?_;refine xa ?_;refine xb ?_;refine xb ?_;have F:(l.take (c+1)).map dI=(l.take c).map dI++[dI l[c]!]:=by rw[nE! v,Yv];rfl
   have ff:=qA F ff;exact ah (c+1,(Z+9),g,_) (h3:=o0M) (h4:=o0M) (h5:=o0M)
  have G:c=l.length:=by omega
  subst G;refine aB ?_;refine sP g 3 t (rows:=l.map dI) (off:=0) (len:=l.length) ev rfl ev om (by simp) Zji ?_;simp only[X4,zq,YC,Yx];refine xb ?_;exact ye (K:=5) (k:=by exact congrArg D.agg (rz_1 j).symm)
 have j : ¬0<l.length:=by simpa using I
 exact ye (K:=5) (k:=by exact congrArg D.agg (rz_0 j).symm)
noncomputable def A9:aM:=dD (gQ 1 []) (gQ 2 [7])
noncomputable def NZ:eQ:=⟨[],[jI 1 (lg (gQ 1 []))]⟩
noncomputable def NY:eQ:=⟨[],[jI 1 (lg (gQ 1 [])),jI 2 (il A9)]⟩
noncomputable def NW:eQ:=⟨jI 1 (lg (gQ 1 []))++jI 2 (il A9),[]⟩
def rz1:fH (gQ 1 []) ⟨[],[rzC]⟩=(gQ 2 [7],0):=by kernel_rfl
def rz2:lJ (gQ 1 []) (gQ 2 [7])=(A9,0):=by kernel_rfl
def rz3:xY (gQ 1 [])=(NZ,0):=by kernel_rfl
def rz4:rf NZ A9=(NY,0):=by kernel_rfl
def rz5:wX NY=(NW,0):=by kernel_rfl
def rz6:uR NW=(gQ 2 [7],0):=by kernel_rfl
def rz7:o9 ⟨true,gQ 1 [],0⟩ [gQ 1 [],gQ 2 [7]] 5=(⟨true,gQ 2 [7],5⟩,0):=by kernel_rfl
def rzl:(jI 1 (lg (gQ 1 []))).length<=1000/\(jI 2 (il A9)).length<=1000:=⟨YP (show decide ((jI 1 (lg (gQ 1 []))).length<=1000)=true by kernel_rfl),YP (show decide ((jI 2 (il A9)).length<=1000)=true by kernel_rfl)⟩
def rzs0:sV NZ:=⟨λp F=>(by have:=rzl;rw[Yk.1 F];omega),by decide,by decide⟩
def rzs1:sV NY:=⟨λp F=>(by have:=rzl;rcases Yl.1 F with e|e;rw[e];omega;rw[Yk.1 e];omega),by decide,by decide⟩
def rzs2:sV NW:=⟨λp F=>(by cases F),by(have:=rzl;show(_++_:Str).length<=_;rw[X3];omega),by decide⟩
def rzp:dX (gQ 1 []):=.mk' (by kernel_rfl) (by kernel_rfl)
def rzq:dX (gQ 2 [7]):=.mk' (by kernel_rfl) (by kernel_rfl)
def rzf:cZ (gQ 2 [7]).sets:=rA rzq.ok
def rzfx:cZ A9.put:=Vj rzf
def rzsx:Gi A9:=λs N g M=>by(rw[rzq.sig s ((put_mem rzp.ord).1 N).1]at M;cases M)
def rzg:yk 11 [.agg (gQ 2 [7]).d,.agg (gQ 2 [7]).d] (.b true):=by have:=Kl (gQ 2 [7]) (gQ 2 [7]) rzf;rwa [Kj]at this
def ZnI{a b:Zon}{x:aM}{e:Int}(h:lJ a b=(x,e)):yk 19 [.agg a.d,.agg b.d] (.tuple [.agg x.d,.i e]):=by have:=Zbr a b;rwa [h]at this
def Zph{z:Zon}{x:eQ}{e:Int}(u:MX z)(h:xY z=(x,e)):yk 20 [.agg z.d] (.tuple [.agg x.d,.i e]):=by have:=Zlq z u;rwa [h]at this
def ZpA{d y:eQ}{x:aM}{e:Int}(h1:sV d)(h2:cZ x.put)(h3:Gi x)(h:rf d x=(y,e)):yk 21 [.agg d.d,.agg x.d] (.tuple [.agg y.d,.i e]):=by have:=Zlr d x h1 h2 h3;rwa [h]at this
def ZeA{d y:eQ}{e:Int}(h1:sV d)(h:wX d=(y,e)):yk 22 [.agg d.d] (.tuple [.agg y.d,.i e]):=by have:=Zla d h1;rwa [h]at this
def Zkj{d:eQ}{y:Zon}{e:Int}(h1:sV d)(h:uR d=(y,e)):yk 23 [.agg d.d] (.tuple [.agg y.d,.i e]):=by have:=Zll d h1;rwa [h]at this
def Vn{s x:gD}{l:List Zon}{t e:Int}(h:o9 s l t=(x,e)):yk 10 [.agg s.d,.l (l.map Zon.d),.i t] (.tuple [.agg x.d,.i e]):=by have:=Zeh s l t;rwa [h]at this
def N7{z:Zon}{l:List Upd}{o:List Zon}{b:Bool}(hz:dX z)(a:z.sets.length<=100)(c:l.length<=6)(j : ∀i,i<l.length->l[i]!.chgs.length<=10)(h:mr z l=(o,b)):yk 7 [.agg z.d,.l (l.map Upd.d)] (.tuple [.l (o.map Zon.d),.b b]):=by have:=Zg2 z l hz a c j;rwa [h]at this
def ZgP{x:Zon}(h:ak x=true):yk 11 [.agg x.d,.agg x.d] (.b true):=by have:=Kl x x (rA h);rwa [Kj]at this
@[go_sem]theorem i00a:((0:Int)==0)=true:=rfl
def Zg1  : yk 4 [] (.b true):=by refine oO func4 λff=>?_;unfold Tryz.f4;have ff:=qI @rz1 @rz2 @rz3 @rz4 @rz5 @rz6 @rz7 @Kj ff;refine xv ?_;refine aa nC ?_ (hok:=oI (GL 1 [] (by decide)) (Ni rz1));refine aa nC ?_ (hok:=oI (GL 1 [] (by decide)) (ZnI rz2));refine xa ?_ (hok:=oI (GL 1 [] (by decide)) (Zph (Zio rzp) rz3));refine xa ?_ (hok:=oF (ZpA rzs0 rzfx rzsx rz4));refine xa ?_ (hok:=oF (ZeA rzs1 rz5));refine xa ?_ (hok:=oF (Zkj rzs2 rz6));refine aa nC ?_ (hok:=oI (GL 1 [] (by decide)) (Vn rz7));refine xa ?_;exact yi (hok:=oI (GL 2 [7] (by decide)) rzg)
end Go.Proofs.YtjhhnhgflmkenaaGreatDoor
namespace Go.Proofs.YtjhhnhgflmkenaaGreatDoor
open Go.Proofs.Tryz
open Go.DL Go.Str Go.Rec Go.Zon Go.Cmp Go.Jn Go.RowKit
set_option maxRecDepth 10000
variable [Glob prog] [Told]
def i11a:((1:Int)==1)=true:=rfl
def i22a:((2:Int)==2)=true:=rfl
def i55a:((5:Int)==5)=true:=rfl
def i51a:((5:Int)==1)=false:=rfl
attribute[go_sem]i11a i22a i55a i51a
def Zcw{z:Zon}{q:Qst}(hz:ak z=true)(hq:ku q=true):yk 15 [.agg z.d,.agg q.d] (.tuple [.agg (pU z q).1.d,.i 0]):=by have:=ZkE z q;rwa [Zcx hz hq]at this
def ZgQ{a:jo}(h:cZ a.sets):yk 16 [.agg a.d,.agg a.d] (.b true):=by have:=Zhd a a h;rwa [UA]at this
def ZoK{s:RSet}{g:RSig}{k:SKey}(h:y7 s g k=true):yk 14 [.agg s.d,.agg g.d,.agg k.d] (.b true):=by have:=ZgO s g k;rwa [h]at this
set_option maxHeartbeats 2000000 in
theorem lawST_ct(z:Zon)(u:Upd)(ks:List SKey)(fr:Int)(h:Int)(q:Qst):yk 3 [.agg z.d,.agg u.d,.l (ks.map SKey.d),.i fr,.i h,.agg q.d] (.b true):=by
 refine oO func3 λff=>?_;unfold Tryz.f3;have ff:=qA @Kj ff;refine xa ?_;refine xa ?_ (hok:=oF Zg1);refine xr ?_ ?_ (hok:=oI (ZhF z [u]) (Zhh q))<;>intro w
 . exact yi
 have Ie:yU z [u]=true:=by grind
 let⟨v,E,M,J⟩:=ZmN Ie;have N:ks.length<=6:=by omega
 have y:ku q=true:=by grind
 rcases Zdk z u with x|⟨o,x,hv,Y⟩|⟨o,x,hv,Y⟩
 .
  have ff:=qA @x ff;refine xa ?_ (hok:=oF (N7 v E M J x));refine aj ?_;refine xp ?_ ?_ (hq:=rfl)<;>intro I
  . exact yi
  simp at I
 .
  have O:((o.length:Int) != 2)=true:=by rw[ZN];omega
  have ff:=qB @x @O ff;refine xa ?_ (hok:=oF (N7 v E M J x));refine aj ?_;refine xp ?_ ?_ (hq:=rfl)<;>intro I
  . exact yi
  simp at I
 have O:((o.length:Int) != 2)=false:=by rw[ZP];omega
 let⟨hP,b9⟩:=M8 v E J _ o (XW _) hv;have ff:=qB @x @O ff;refine xa ?_ (hok:=oF (N7 v E M J x));refine xr ?_ ?_ (hq:=rfl)<;>intro I
 . simp at I
 refine xa ?_;refine aj ?_;refine wu 16 24 o3h o3h ?_;refine xa ?_;refine dK ?_;refine lq (Nat×Nat×Nat) [2,3,4,11,13,67,68] (λ⟨k,p,Z⟩=>(k<=o.length/\p<Z/\2<p/\(∀i,i<k->(fJ o[i]!).2=0)/\(∀i,i<k->(allR (fJ o[i]!).1 ks fr h).2=0),o.length-k,[(16,.mrow p 0 k),(69,.i k)],[(2,⟨31,[q.d]⟩),(p,⟨24,(wZ o ks fr h k).map Zon.d⟩)],Z)) (0,38,_) ?_ (hA:=⟨iv,iv,iv,o1S,o1S⟩);rintro⟨k,p,Z⟩ ⟨X,R,bb,j,m⟩;simp only[XX,XZ];have r:2<Z:=by omega
 have T:=NH (o:=o) (ks:=ks) (f:=fr) (u:=h) X;have ff:=qE @R @r @T (nH 2 p) ff;refine xo ?_ ?_<;>intro a
 .
  have U:k<o.length:=by simpa using a
  have ff:=qA (yS U) ff;refine wB ?_;refine xa ?_;refine xa ?_ (hok:=oF (Zn0 o[k]!));refine xf ?_ ?_<;>intro V
  . have W:=(ZoN (hP.pl k U)).resolve_left V;have ff:=qA @W ff;exact yi
  have ff:=qA @V ff;refine xa ?_ (hok:=oF (ZgZ (fJ o[k]!).1 ks fr h));refine xf ?_ ?_<;>intro c5
  .
   rcases(ZpL (fJ o[k]!).1 ks fr h).resolve_left c5 with he|he
   . have ff:=qA @he ff;exact yi
   have ff:=qA @he ff;exact yi
  refine xb ?_;refine xb ?_;have B:=ZfE (ks:=ks) (f:=fr) (u:=h) U;have ff:=qA B ff;exact ah (k+1,(Z+31),_) (h1:=⟨iv,iv,iv,(by(try dsimp only);intro i A;by_cases e:i=k;(subst e;exact V);exact j i om),(by(try dsimp only);intro i A;by_cases e:i=k;(subst e;exact c5);exact m i om)⟩)
 have e8:k=o.length:=by omega
 subst e8;refine aB ?_;refine Mk 16 p (rows:=(wZ o ks fr h o.length).map Zon.d) (off:=0) (len:=o.length) ev ev (by rw[YX,NH (XW _)];omega) V8 ?_;rw[X4,Ye (by rw[YX,NH (XW _)];exact XW _)];have g:=ZkB hP Y j m;obtain⟨L,hL⟩:∃L,L=wZ o ks fr h o.length:=⟨_,rfl⟩;rw[<-hL]at g ⊢;have ab:0<L.length:=by rw[g.len];omega
 have ac:1<L.length:=by rw[g.len];omega
 have am:=g.pull;have aq:=Zcx (q:=q) g.ok y;have ar:=UA (pU L[1]! q).1;have aw:=g.len;have be:=zM g.ok;have bh:(di ks).length<=6:=by rw[(zD ks).length_eq];exact N
 have ff:=qG (yS ab) (yS ac) @am @aq @ar @aw ff;refine xa ?_ (hok:=oH (Vn g.pull));refine xr ?_ ?_ (hok:=gI (ZgP g.ok)) (hq:=rfl)<;>intro c6
 . simp at c6
 refine xa ?_ (hok:=oI (U6 L[1]! (Zjr g.ok)) (Zg9 ks om g.dup));refine xj ?_;refine lq (Nat×Nat×Nat) [11,13,16,25,26,136,137] (λ⟨k,c,Z⟩=>(k<=L[1]!.sets.length/\c<Z/\2<c,L[1]!.sets.length-k,[(23,.mptr c 0 0),(138,.i k)],[(2,⟨31,[q.d]⟩),(c,⟨44,[(⟨true,L[1]!,5⟩:gD).d]⟩)],Z)) (0,(Z+10),_) ?_;rintro⟨k,c,Z⟩ ⟨X,R,bm⟩;simp only[XX,XZ];have r:2<Z:=by omega
 have ff:=qD @R @r (nH 2 c) ff;refine xo ?_ ?_<;>intro c7
 .
  have U:k<L[1]!.sets.length:=by simpa using c7
  have ff:=qD (bN U) (KJ L[1]!) (IK (l:=uL L[1]!) (n:=k) (by rw[KJ];exact U)) ff;refine wB ?_;refine xa ?_;refine xr ?_ ?_ (hq:=rfl)<;>intro c8
  . refine aB ?_;refine xb ?_;exact ah (k+1,c,_)
  have t:(uL L[1]!)[k]! = true:=by simpa using c8
  let⟨F,b7⟩:=g.own k U t;have ff:=qA @F ff;refine xr ?_ ?_ (hq:=rfl)<;>intro c9
  . simp at c9
  refine xa ?_;refine dK ?_;refine lq (Nat×Nat×Nat) [11,13,16,23,25,26,136,137,138,155,156] (λ⟨n,d,Z⟩=>(n<=(di ks).length/\d<Z/\c<d,(di ks).length-n,[(28,.mptr d 0 0),(157,.i n)],[(2,⟨31,[q.d]⟩),(c,⟨44,[(⟨true,L[1]!,5⟩:gD).d]⟩),(d,⟨56,[L[1]!.sets[k]!.d]⟩)],Z)) (0,(Z+4),_) ?_;rintro⟨n,d,Z⟩ ⟨hn,b8,bp⟩;simp only[XX,XZ];have r:2<Z:=by omega
  have nc:c<Z:=by omega
  have ff:=qG @b8 @r @nc (nH 2 c) (nH 2 d) (nH c d) ff;refine xo ?_ ?_<;>intro d1
  .
   have G:n<(di ks).length:=by simpa using d1
   have FP:n<L[1]!.sets[k]!.sigs.length:=by omega
   have K:=b7 n G;have ff:=qD (vY FP) (Em G) @K ff;refine wB ?_;refine xa ?_;refine xp ?_ ?_ (hok:=oH (ZoK K)) (hq:=rfl)<;>intro d2
   . simp at d2
   refine xl ?_;exact ah (n+1,d,_)
  refine aB ?_;refine xb ?_;exact ah (k+1,c,_)
 refine aB ?_;refine xa ?_ (hok:=oF (Zcw g.ok y));refine aa nC ?_ (hok:=oH (Zcw g.ok y));exact yi (hok:=oH (ZgQ (ZpE q (rA g.ok))))
end Go.Proofs.YtjhhnhgflmkenaaGreatDoor
