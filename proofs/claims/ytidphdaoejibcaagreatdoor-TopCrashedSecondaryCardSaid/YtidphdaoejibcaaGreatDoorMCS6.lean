/-
  MANY TEXTS OF MINE IN ONE (a claim has a limit of files): UpW6, UpW7, UpW8, UpW9, UpW10, UpW11, UpW12, UpW13, UpW14, UpW15, UpW16, UrW1, TpW1, TpW2, TpW3, TpW5. Conditions: none.
-/
import Derived.Test.YtidphdaoejibcaaGreatDoorMCS5
set_option linter.unusedVariables false
set_option linter.unusedSimpArgs false
set_option linter.unusedSectionVars false
set_option linter.defProp false
set_option linter.unnecessarySimpa false
namespace Go.Proofs.YtidphdaoejibcaaGreatDoor
open Go.Proofs.Tryz
open Go.DL Go.Str Go.Rec Go.Cmp Go.Zon
set_option maxRecDepth 10000
theorem _root_.o5z{p:Prop}(h:p:=by dsimp only;decide):p:=h
theorem _root_.o4w{p:Prop}(h:p:=by rintro (q|q);exact q rfl;exact hne q):p:=h
theorem _root_.o4k{p:Prop}(h:p:=by rw[hfil];first|exact⟨rfl,rfl,om⟩|exact⟨rfl,om⟩):p:=h
theorem _root_.o3z{p:Prop}(h:p:=by rw[<-hend.1];intro q;left;simp only[upd];split<;>simp_all):p:=h
theorem _root_.o3w{p:Prop}(h:p:=by rcases YG q n with w|w;exact w;rw[hnone q w]at k1;cases k1):p:=h
theorem _root_.o3v{p:Prop}(h:p:=by(try simp only[go_sem,ff]);all_goals (first|rfl|(simp;done))):p:=h
theorem _root_.o3p{p:Prop}(h:p:=by(try simp only[go_sem,ff]);all_goals (exact Ra hpz hsz Dx hcc nL)):p:=h
theorem _root_.o2y{p:Prop}(h:p:=by(try simp only[go_sem,ff]);all_goals (have q9:=IA y;rw[nM]at q9;exact q9)):p:=h
theorem _root_.o2u{p:Prop}(h:p:=by rw[hfil];intro q;left;unfold upd;split;rename_i e;subst e;exact hr.symm;rfl):p:=h
theorem _root_.o2q{p:Prop}(h:p:=by(try dsimp only);rw[List.map_append];simp only[go_sem,ff];first|done|exact rfl):p:=h
theorem _root_.o2j{p:Prop}(h:p:=by intro q;left;dsimp only;rw[hkr];unfold upd;split;rename_i e;subst e;exact hr.symm;rfl):p:=h
theorem _root_.o1y{p:Prop}(h:p:=by(try simp only[go_sem,ff]);all_goals (first|done|rfl|(simp;done)|(left;simp;done)|(right;simp;done))):p:=h
theorem _root_.o1q{p:Prop}(h:p:=by rintro (q|q|q);rw[hyp.ok]at q;cases q;rw[q]at c4;simp at c4;rw[show yc (o.map dz) (dz y)=true from YE q]at c4;simp at c4):p:=h
theorem _root_.o1o{p:Prop}(h:p:=by(try simp only[go_sem,ff]);all_goals (first|done|((repeat' (with_reducible apply And.intro))<;>first|(intros;exact zq vM)|skip))):p:=h
theorem _root_.o1m{p:Prop}(h:p:=by(try simp only[go_sem,ff]);all_goals (first|done|((repeat' (with_reducible apply And.intro))<;>first|(intros;exact Bq k2 k3)|skip))):p:=h
theorem _root_.o1i{p:Prop}(h:p:=by(try dsimp only);rw[show k+(k2+1)=k+k2+1 from by omega];first|(rw[Ce hst,List.length_append,List.length_singleton];omega)|(rw[Cf hst];omega)):p:=h
theorem _root_.o1h{p:Prop}(h:p:=by(try simp only[go_sem,ff]);all_goals (first|done|((repeat' (with_reducible apply And.intro))<;>first|(intros;exact h2)|(intros;exact h3)|skip))):p:=h
theorem _root_.o1g{p:Prop}(h:p:=by(try dsimp only);exact .inr ⟨_,by rw[List.length_append];rfl,by rw[List.map_append];simp only[go_sem,ff];first|done|exact rfl,by omega,by omega⟩):p:=h
theorem _root_.o1d{p:Prop}(h:p:=by(try simp only[go_sem,ff]);all_goals (first|done|((repeat' (with_reducible apply And.intro))<;>first|(intros;exact D7 (Ch hP h7 hbg hlast) k1)|skip))):p:=h
theorem _root_.o1a{p:Prop}(h:p:=by first|(rw[AR,X3 hf];exact hst.of_fresh hnn oW oW)|(rw[AR,XV o5d];exact(ku.same hz2 (XX n)).of_fresh hnn (by omega) (by omega))):p:=h
theorem _root_.o0n{p:Prop}(h:p:=by first|omega|exact⟨by first|(rw[hend.2];done)|(rw[hend.2];congr 1;done)|(rw[hend.2];congr 1;omega),rfl,om⟩|exact⟨by first|(rw[hend.2];done)|(rw[hend.2];congr 1;done)|(rw[hend.2];congr 1;omega),om⟩):p:=h
theorem _root_.o0h{p:Prop}(h:p:=by(try simp only[go_sem,ff]);all_goals (first|done|((repeat' (with_reducible apply And.intro))<;>first|exact(λ_=>CQ y o[o.length-1]! FQ)|omega|(intro h;simp only[XU,XW]at h;omega)|(intros;omega)|(intros;simp_all;done)|skip))):p:=h
theorem _root_.o0g{p:Prop}(h:p:=by(try simp only[go_sem,ff]);all_goals (first|done|((repeat' (with_reducible apply And.intro))<;>first|(intros;exact mF (hP.pl _ hlast).ok)|omega|(intro h;simp only[XU,XW]at h;omega)|(intros;omega)|(intros;simp_all;done)|skip))):p:=h
theorem _root_.o0e{p:Prop}(h:p:=by(try simp only[go_sem,ff]);all_goals (first|done|((repeat' (with_reducible apply And.intro))<;>first|(intros;exact(mF (hP.pl _ hwl).ok))|(intros;exact(mF (hP.pl _ hnl).ok))|omega|(intro h;simp only[XU,XW]at h;omega)|(intros;omega)|(intros;simp_all;done)|skip))):p:=h
theorem _root_.o0d{p:Prop}(h:p:=by(try simp only[go_sem,ff]);all_goals (first|done|((repeat' (with_reducible apply And.intro))<;>first|(intros;exact sP ⟨a,lP p⟩ t.name t.ty (by rw[mU];omega))|(intros;exact hsw.2)|exact(λrow hrow c hc=>by obtain⟨x,hx,rfl⟩:=Yt.1 hrow;exact(lQ (hz2.data x hx) 1).2 c hc)|rfl|skip))):p:=h
theorem _root_.o0a{p:Prop}(h:p:=by first|(rw[K8 hf];exact(ku.same hz2 (XX n)).of_fresh hnn (by omega) (by omega))|(rw[<-La hf hix hi (by simpa using c2) _];exact hst.after (λq b e1 e2 e3 e4=>by have q1:q≠rs:=(λe=>e2 (by rw[e,hz.r]at e1;cases e1;rfl));have q2:q≠p[ix]!.1:=(λe=>e3 (by rw[e,hz.d _ (kS hi)]at e1;cases e1;rfl));have q3:q≠n:=(λe=>by rw[e,hnn]at e1;cases e1);simp only[upd,XV q1,XV q2,XV q3];exact e1) oW oW)|(rw[<-K9 hf hix hi (by simpa using c2)];exact(ku.same hz3 (XX n)).after (λq b e1 e2 e3 e4=>by have q1:q≠rs:=(λe=>e2 (by rw[e,hz.r]at e1;cases e1;rfl));have q2:q≠p[ix]!.1:=(λe=>e3 (by rw[e,hz.d _ (kS hi)]at e1;cases e1;rfl));have q3:q≠n:=(λe=>by rw[e,hnn]at e1;cases e1);simp only[upd,XV q1,XV q2,XV q3];exact e1) (by omega) oW)):p:=h
variable [Glob prog] [Told]
def Zcg:Go.Shelf.Ren:={ f:=λx=>match x with|6=>167|15=>147|14=>229|28=>218|29=>219|20=>256|21=>257|22=>258|23=>259|24=>260|25=>261|26=>262|27=>263|46=>276|47=>248|48=>249|49=>277|50=>278|57=>281|n=>n,t:=λx=>match x with|22=>58|24=>57|25=>243|3=>3|39=>230|0=>0|53=>284|55=>140|4=>4|46=>278|45=>277|50=>147|5=>5|9=>9|66=>314|70=>296|76=>330|77=>331|n=>n,g:=λn=>n }
def srtU:Go.Proofs.SlLaysF0.n6 prog Zcg:={
 mixed:=by kernel_rfl
 f6:=⟨f167.name,by decide,func167.trans (by kernel_rfl)⟩
 f14:=⟨f229.name,by decide,func229.trans (by kernel_rfl)⟩
 f15:=func147.trans (by kernel_rfl)
 f20:=⟨f256.name,by decide,func256.trans (by kernel_rfl)⟩
 f21:=⟨f257.name,by decide,func257.trans (by kernel_rfl)⟩
 f22:=⟨f258.name,by decide,func258.trans (by kernel_rfl)⟩
 f23:=⟨f259.name,by decide,func259.trans (by kernel_rfl)⟩
 f24:=⟨f260.name,by decide,func260.trans (by kernel_rfl)⟩
 f25:=⟨f261.name,by decide,func261.trans (by kernel_rfl)⟩
 f26:=⟨f262.name,by decide,func262.trans (by kernel_rfl)⟩
 f27:=⟨f263.name,by decide,func263.trans (by kernel_rfl)⟩
 f28:=func218.trans (by kernel_rfl)
 f29:=func219.trans (by kernel_rfl)
 f46:=⟨f276.name,by decide,func276.trans (by kernel_rfl)⟩
 f47:=func248.trans (by kernel_rfl)
 f48:=func249.trans (by kernel_rfl)
 f49:=⟨f277.name,by decide,func277.trans (by kernel_rfl)⟩
 f50:=⟨f278.name,by decide,func278.trans (by kernel_rfl)⟩
 f57:=⟨f281.name,by decide,func281.trans (by kernel_rfl)⟩
 t0:=underlying0
 a0:=Tryz.isAgg0
 z0:=Tryz.sizeOf0
 v0:=Tryz.zeroValue0
 t3:=underlying3
 a3:=Tryz.isAgg3
 z3:=Tryz.sizeOf3
 v3:=Tryz.zeroValue3
 t4:=underlying4
 a4:=Tryz.isAgg4
 z4:=Tryz.sizeOf4
 v4:=Tryz.zeroValue4
 t5:=underlying5
 a5:=Tryz.isAgg5
 z5:=Tryz.sizeOf5
 v5:=Tryz.zeroValue5
 t9:=underlying9
 a9:=Tryz.isAgg9
 z9:=Tryz.sizeOf9
 v9:=Tryz.zeroValue9
 t22:=underlying58
 a22:=Tryz.isAgg58
 z22:=Tryz.sizeOf58
 v22:=Tryz.zeroValue58
 t25:=underlying243
 a25:=Tryz.isAgg243
 z25:=Tryz.sizeOf243
 v25:=Tryz.zeroValue243
 t39:=underlying230
 a39:=Tryz.isAgg230
 z39:=Tryz.sizeOf230
 v39:=Tryz.zeroValue230
 t45:=underlying277
 a45:=Tryz.isAgg277
 z45:=Tryz.sizeOf277
 v45:=Tryz.zeroValue277
 t46:=underlying278
 a46:=Tryz.isAgg278
 z46:=Tryz.sizeOf278
 v46:=Tryz.zeroValue278
 t50:=underlying147
 a50:=Tryz.isAgg147
 z50:=Tryz.sizeOf147
 v50:=Tryz.zeroValue147
 t53:=underlying284
 a53:=Tryz.isAgg284
 z53:=Tryz.sizeOf284
 v53:=Tryz.zeroValue284
 t55:=underlying140
 a55:=Tryz.isAgg140
 z55:=Tryz.sizeOf140
 v55:=Tryz.zeroValue140
 t66:=underlying314
 a66:=Tryz.isAgg314
 z66:=Tryz.sizeOf314
 v66:=Tryz.zeroValue314
 t70:=underlying296
 a70:=Tryz.isAgg296
 z70:=Tryz.sizeOf296
 v70:=Tryz.zeroValue296
 t76:=underlying330
 a76:=Tryz.isAgg330
 z76:=Tryz.sizeOf330
 v76:=Tryz.zeroValue330
 t77:=underlying331
 a77:=Tryz.isAgg331
 z77:=Tryz.sizeOf331
 v77:=Tryz.zeroValue331 }
theorem Ol{x:List D}{l:List Dat}(h:x∈l.map Dat.d):Dat.d (Dat.of x)=x:=by
 obtain⟨s,_,rfl⟩:=Yt.1 h
 rw[E5]
def ZaK(l:List Dat)(m:Nat)(h:H)(n r:Nat)(hm:m=l.length)(hl:l.length<=100000)(hr:h r=some ⟨57,l.map Dat.d⟩) :
  bU prog 167 [.mrow r 0 m,.fn (.func 168) [] []] h n (λd h' n'=>d = .tuple []/\n'=n /\ ∃l':List Dat,l'.Perm l/\Sorted dZ l'/\h'=upd h r (some ⟨57,l'.map Dat.d⟩)):=by
 have e:m=(l.map Dat.d).length:=by simp[hm]
 rw[e]
 refine(Qr (ty:=57) srtU rfl rfl Tryz.isAgg57 Tryz.sizeOf57 (λx y=>dZ (Dat.of x) (Dat.of y)) (by kernel_rfl) hr oU rfl (by simp;omega) (λx hx y hy=>?_) ⟨λx _=>?_,λx _ y _ z _=>?_,λx _ y _ z _=>?_⟩).mono ?_
 . have:=Zbg (Dat.of x) (Dat.of y);rw[Ol hx,Ol hy]at this;exact this
 . have:=tY.self (Dat.of x);omega
 . intro a b;exact tY.lt_le a om
 . intro a b;have h1:=tY.anti (Dat.of x) (Dat.of y);have h2:=tY.anti (Dat.of y) (Dat.of z);have h3:=tY.anti (Dat.of x) (Dat.of z);have:=tY.tr (Dat.of z) (Dat.of y) (Dat.of x) om om;omega
 rintro d h' n' ⟨rfl,rfl,rows',hp,hs,rfl⟩
 have hback:(rows'.map Dat.of).map Dat.d=rows':=by
  rw[List.map_map]
  conv=>rhs;rw[<-List.map_id rows']
  exact Zd λx hx=>Ol (hp.mem_iff.1 hx)
 refine⟨rfl,rfl,rows'.map Dat.of,?_,?_,by rw[hback]⟩
 . have:=hp.map Dat.of;rwa [kW E5]at this
 unfold Sorted
 rw[List.pairwise_map]
 refine hs.imp λ{x y}h=>?_
 have h : ¬dZ (Dat.of y) (Dat.of x)<0:=h
 have:=tY.anti (Dat.of x) (Dat.of y)
 omega
def WF{x y:Dat}(h : ¬x.t=y.t \/ ¬x.n=y.n \/ ¬x.m=y.m):x≠y:=by
 rintro rfl
 simp at h
def Zbf(l:List Dat)(m:Nat)(h:H)(n r:Nat)(hm:m=l.length)(hl:l.length<=1000000)(hr:h r=some ⟨57,l.map Dat.d⟩):bU prog 169 [.mrow r 0 m] h n (λd h' n'=>d = .mrow r 0 (qU l).length/\h'=upd h r (some ⟨57,(qU l).map Dat.d⟩)/\n<=n'):=by
 refine oP func169 λhnone ff=>?_
 unfold f169
 subst hm
 have ff:=qA @hr ff
 refine aa Tp ?_
 refine oK Tp ?_ ?_<;>intro c1
 . refine aa Tp ?_;refine aL ?_;exact cK (upd h r (some ⟨57,(qU l).map Dat.d⟩)) (hr:=oS (k:=by rw[J8 (by intro i h1 h2;omega)];first|exact⟨rfl,om⟩|exact⟨rfl,rfl,om⟩|omega)) (hh:=by rw[J8 (by intro i h1 h2;omega)];intro q;left;unfold upd;split;rename_i e;subst e;exact hr.symm;rfl)
 refine ae ?_
 refine aa Tp ?_
 refine aj ?_
 refine jm (α:=(Nat)×Nat) [0] (λ⟨k,nx⟩=>(k<=l.length)/\(1<=k)/\(n<=nx)/\(∀i,0<i->i<k->l[i]! ≠ l[i-1]!)/\True) (λ⟨k,nx⟩=>l.length-k) (λ⟨k,nx⟩=>[(3,.i k)]) (λ⟨k,nx⟩=>h) (λ⟨k,nx⟩=>nx) (1,_) (hA:=⟨oW,oW,iv,(by first|(intro i h1 h2;omega)|(dsimp only;intro i h1 h2;omega)),trivial⟩) (round:=?_)
 rintro⟨k,nx⟩ ⟨hk,hk1,hn,hv, -⟩
 simp only[XY,X0]
 refine oL Tp ?_ ?_<;>intro c2
 .
  have hk2:k<l.length:=by omega
  have hk3:k-1<l.length:=by omega
  have e1:((k:Int)-1).toNat=k-1:=by omega
  have ff:=qD (pG hk2) (pG hk3) @e1 ff;refine ae ?_;refine aj ?_;refine aa Tp ?_;refine cd ?_ ?_<;>intro c3
  .
   have heq : ¬(k=0\/l[k]! ≠ l[k-1]!):=by rintro (q|q);omega;exact q (Kg c3)
   have hcp:gW l (k+1)=l.take k:=by rw[Cf heq,J6 k (by omega) hv]
   have hcr:lK l (k+1)=l.map Dat.d:=by rw[We heq,ZiW (by omega) hv]
   have hcl:(l.take k).length=k:=by rw[YA];omega
   refine aa Tp ?_;refine ae ?_;refine aa Tp ?_;refine aj ?_;have ff:=qD @hcp @hcr @hcl ff;refine jm (α:=(Nat)×Nat) [0,4] (λ⟨k2,nx⟩=>(k+k2<=l.length)/\(1<=k2)/\(n<=nx)/\((gW l (k+k2)).length<k+k2)/\True) (λ⟨k2,nx⟩=>l.length-k-k2) (λ⟨k2,nx⟩=>[(3,.i (gW l (k+k2)).length),(5,.i k2)]) (λ⟨k2,nx⟩=>upd h r (some ⟨57,lK l (k+k2)⟩)) (λ⟨k2,nx⟩=>nx) (1,_) (hA:=⟨oW,iv,iv,(by first|(rw[hcp,hcl];omega)|(dsimp only;rw[hcp,hcl];omega)),trivial⟩) (round:=?_) (BN:=by intro q;left;dsimp only;rw[hcr];unfold upd;split;rename_i e;subst e;exact hr.symm;rfl)
   rintro⟨k2,nx⟩ ⟨hk2b,hk21,hn2,hcl2, -⟩;simp only[XY,X0];refine oL Tp ?_ ?_<;>intro c4
   .
    have hj:k+k2<l.length:=by omega
    have hcl:=Oe (l:=l) (k:=k+k2) (by omega)
    have e1:((k2:Int)-1).toNat=k2-1:=by omega
    have e2:k+(k2-1)=k+k2-1:=by omega
    have ga:=Og (l:=l) (k:=k+k2) (i:=k+k2) (by omega) hj
    have gb:=Og (l:=l) (k:=k+k2) (i:=k+k2-1) (by omega) (by omega)
    have gc:=Og (l:=l) (k:=k+k2) (i:=(gW l (k+k2)).length) (XX _) (by omega)
    have ff:=qG @e1 @e2 @ga @gb @gc @hcl ff;refine ae ?_;refine aj ?_;refine aa Tp ?_;refine cd ?_ ?_<;>intro c5
    .
     refine aa Tp ?_;refine ai Tp ?_;refine ai Tp ?_
     show ∃_,_
     have hst:k+k2=0\/l[k+k2]! ≠ l[k+k2-1]! := .inr (WF c5);have hs1:=ZiV hst hj;have hs2:gW l (k+(k2+1))=gW l (k+k2)++[l[k+k2]!]:=Ce hst;have hs3:lK l (k+(k2+1))=lK l (k+k2+1):=rfl;have hs4:(gW l (k+(k2+1))).length=(gW l (k+k2)).length+1:=by rw[hs2];simp
     have ff:=qD hs1 hs3 hs4 ff;refine ay (k2+1,_) (h1:=⟨iv,iv,iv,o1i,trivial⟩) (h5:=?_)
     intro q;left;simp only[upd];split<;>simp_all
    refine ah ?_;refine ai Tp ?_
    show ∃_,_
    have hst : ¬(k+k2=0\/l[k+k2]! ≠ l[k+k2-1]!):=by rintro (q|q);omega;exact q (Kg (by grind))
    have hs3:lK l (k+(k2+1))=lK l (k+k2):=We hst;have hs4:gW l (k+(k2+1))=gW l (k+k2):=Cf hst;have ff:=qB hs3 hs4 ff;refine ay (k2+1,_) (h1:=⟨iv,iv,iv,o1i,trivial⟩) (h5:=?_)
    intro q;left;simp only[upd];split<;>simp_all
   have e9:k+k2=l.length:=by omega
   have hcl:=Oe (l:=l) (k:=l.length) (XX _);have hcq:=J7 l l.length;have ff:=qB @e9 @hcl ff;refine aH ?_;refine ae (xw ?_);refine Ig (C:=Tp) 3 (by omega) (dR rfl) rfl rfl (by kernel_rfl) (by kernel_rfl) (by kernel_rfl) o4g ?_ (by rfl) ev ev (by rw[Oe (by omega)];omega) ?_
   .
    try simp only[go_sem,ff]
    all_goals exact ok0
   refine wH (C:=Tp) o5y o4g ?_ rfl ?_
   .
    try simp only[go_sem,ff]
    all_goals exact ok0
   try simp only[aI]
   refine aa Tp ?_;refine aL ?_;exact cK (upd h r (some ⟨57,(qU l).map Dat.d⟩)) (hr:=oS (k:=by first|omega|exact⟨by simp_all [qU],om⟩|exact⟨by simp_all [qU],rfl,om⟩)) (hh:=by intro q;left;simp only[upd];split<;>simp_all [ZiU,qU])
  refine ah ?_;refine ai Tp ?_
  show ∃_,_
  exact ay (k+1,_) (h1:=⟨iv,iv,iv,(by(try dsimp only);intro i h1 h2;by_cases e:i=k;subst e;exact WF (by grind);exact hv i h1 om),trivial⟩)
 have e9:k=l.length:=by omega
 subst e9
 refine aH ?_
 refine aa Tp ?_
 refine aL ?_
 exact cK (upd h r (some ⟨57,(qU l).map Dat.d⟩)) (hr:=oS (k:=by rw[J8 hv];first|exact⟨rfl,om⟩|exact⟨rfl,rfl,om⟩|omega)) (hh:=by rw[J8 hv];intro q;left;unfold upd;split;rename_i e;subst e;exact hr.symm;rfl)
theorem Uo{q:Sgd->Bool}{p:List PS}:∀n k,p.length-k<=n->dV q (lP p) k=dV (λx=>q x.2) p k:=by
 intro n
 induction n with
 | zero=>intro k h;rw[yE q,yE (λx:PS=>q x.2),XV (by rw[mU];omega),XV (by omega)]
 | succ n ih =>
  intro k h;rw[yE q,yE (λx:PS=>q x.2),mU]
  by_cases hk:k<p.length
  . rw[X3 hk,X3 hk,Dl hk,ih (k+1) (by omega)]
  rw[XV hk,XV hk]
def Zh5{q:Sgd->Bool}{p:List PS}(h : ¬dV q (lP p) 0 = -1):∃j:Nat,dV q (lP p) 0=(j:Int)/\j<p.length/\q p[j]!.2=true /\ ∀i,i<j->q p[i]!.2=false:=by
 rw[Uo _ 0 (XX _)]at h ⊢
 rcases Gc (λx:PS=>q x.2) p _ 0 (XX _)with⟨g1,_⟩|⟨j,g1,_,g3,g4,g5⟩
 . exact absurd g1 h
 exact⟨j,g1,g3,g4,λi hi=>g5 i (Yi _) hi⟩
def Zh7{q:Sgd->Bool}{p:List PS}(h:dV q (lP p) 0 = -1):p.filter (λx=>!q x.2)=p:=by
 rw[Uo _ 0 (XX _)]at h
 rcases Gc (λx:PS=>q x.2) p _ 0 (XX _)with⟨_,g2⟩|⟨j,g1,_,g3,g4,g5⟩
 .
  refine Y1.2 λx hx=>?_
  obtain⟨i,hi,rfl⟩:=kV.1 hx;have:q p[i]!.2=false:=g2 i (Yi _) hi;rw[this];rfl
 rw[h]at g1;omega
theorem kS{p:List PS}{k:Nat}(h:k<p.length):p[k]! ∈ p:=kV.2 ⟨k,h,rfl⟩
def Zbb(p:List PS)(t:RSet)(m:Nat)(h:H)(n rs:Nat)(hm:m=p.length)(hl:p.length<=1000000)(hr:h rs=some ⟨84,p.map rowP⟩)(hp : ∀x∈p,Ao 57 h x/\x.1≠rs):bU prog 176 [.mrow rs 0 m,.fn (.func 177) [] [.eptr t.d]] h n (λd h' n'=>d = .mrow rs 0 (p.filter (λx:PS=>!dU t.name x.2)).length/\h'=upd h rs (some ⟨84,(p.filter (λx:PS=>!dU t.name x.2)).map rowP⟩)/\n<=n'):=by
 refine oP func176 λhnone ff=>?_
 unfold f176
 subst hm
 have hsn:=Qv hr λx hx=>(hp x hx).1
 have hrn:rs<n:=by rcases YG rs n with q|q;exact q;rw[hnone rs q]at hr;cases hr
 have hpn : ∀x∈p,x.1<n:=λx hx=>by rcases YG x.1 n with q|q;exact q;have:=(hp x hx).1.1;rw[hnone x.1 q]at this;cases this
 have ff:=qA @hr ff
 refine aa Tp ?_
 refine cB ?_
 refine JA Tp 2 4 (hct:=Za4 (lP p) (by rw[mU];exact hl) t) (hso:=?_) (hz:=?_) (hk:=?_)
 .
  intro d hd;simp only[X0,Yv,Ym,YZ,or_false]at hd
  rcases hd with rfl|rfl
  . exact hsn.2
  refine⟨λc hc=>by simp at hc,λc hc=>?_⟩;rw[Yo]at hc;subst hc;simp[dP,D.nr,bC,oU,RSet.d]
 .
  simp only[X0,Yv,X8,Yz];rw[hsn.1]
  simp[Qy,H7,wk,eB,RSet.d,ui]
 refine aP Tp ?_
 try simp only[aI]
 refine oK Tp ?_ ?_ (hp:=rfl) (hq:=rfl)<;>intro c1
 .
  have hfil:=Zh7 (by simpa using c1)
  refine aa Tp ?_;refine aL ?_;exact cK (upd h rs (some ⟨84,(p.filter (λx:PS=>!dU t.name x.2)).map rowP⟩)) (hr:=oS (k:=o4k)) (hh:=o2u)
 obtain⟨j,g1,g3,g4,g5⟩:=Zh5 (by simpa using c1)
 have gy:=Uy (g:=rowP) (keep:=(λx:PS=>!dU t.name x.2)) (l:=p) (k:=j) (by omega) (λi hi=>by show(!dU t.name p[i]!.2)=true;rw[g5 i hi];rfl)
 have gn:=Je (g:=rowP) (keep:=(λx:PS=>!dU t.name x.2)) g3 (by show(!dU t.name p[j]!.2)=false;rw[g4];rfl)
 have hkn:j5 (λx:PS=>!dU t.name x.2) p (j+1)=j:=by rw[gn.1,gy.1]
 have hkr:gN rowP (λx:PS=>!dU t.name x.2) p (j+1)=p.map rowP:=by rw[gn.2,gy.2]
 refine ae ?_
 refine aa Tp ?_
 refine aj ?_
 have ff:=qB @hkn @g1 ff
 refine jm (α:=(Nat)×Nat) [0,1] (λ⟨k,nx⟩=>(k<=p.length)/\(n<=nx)/\True) (λ⟨k,nx⟩=>p.length-k) (λ⟨k,nx⟩=>[(5,.i (j5 (λx:PS=>!dU t.name x.2) p k)),(6,.i k)]) (λ⟨k,nx⟩=>upd h rs (some ⟨84,gN rowP (λx:PS=>!dU t.name x.2) p k⟩)) (λ⟨k,nx⟩=>nx) (j+1,_) (hA:=⟨iv,iv,trivial⟩) (round:=?_) (BN:=o2j)
 rintro⟨k,nx⟩ ⟨hk,hx, -⟩
 simp only[XY,X0]
 refine oL Tp ?_ ?_ (hp:=rfl) (hq:=rfl)<;>intro c2
 .
  have hk2:k<p.length:=by simpa[zM hk]using c2
  have hle:=Bw (λx:PS=>!dU t.name x.2) p k
  have hat:(gN rowP (λx:PS=>!dU t.name x.2) p k).getD k []=[.v (.string (bs p[k]!.2.set.name)),.i p[k]!.2.set.ty,.i p[k]!.2.set.life,.mrow p[k]!.1 0 p[k]!.2.set.data.length,.list true []]:=Ux hk2
  have hlen:(gN rowP (λx:PS=>!dU t.name x.2) p k).length=p.length:=zM om
  have hg5:((gN rowP (λx:PS=>!dU t.name x.2) p k).getD (j5 (λx:PS=>!dU t.name x.2) p k) []).length=5:=Uv (λ_=>rfl) om
  have ff:=qE @hat @hlen @hg5 (nH (nx+8) rs) ff;refine ae ?_;refine aj ?_;refine aa Tp ?_;refine cB ?_;have hin:=kS hk2;have hq1:=hp _ hin;have hq2:=hpn _ hin;refine JA Tp 2 4 (hct:=PN p[k]!.2 t) (hso:=?_) (hz:=?_) (hk:=?_)
  .
   intro d hd;simp only[X0,XY,Ym,YZ,or_false]at hd
   rcases hd with rfl|rfl
   . refine(Qx (td:=57) (x:=p[k]!) ⟨?_,hq1.1.2⟩).2;simp only[upd];(repeat rw[XV (by omega)]);exact hq1.1.1
   simp[dP,D.nr,bC,oU,RSet.d]
  .
   simp only[X0,XY,X8,Yz];refine congr (congrArg List.cons ((Qx (td:=57) (x:=p[k]!) ⟨?_,hq1.1.2⟩).1)) ?_
   . simp only[upd];(repeat rw[XV (by omega)]);exact hq1.1.1
   simp[H7,wk,eB,RSet.d,ui]
  refine aP Tp ?_
  try simp only[aI]
  refine cd ?_ ?_<;>intro c3
  .
   refine aa Tp ?_;refine ai Tp ?_;refine ai Tp ?_
   show ∃_,_
   have hst:=Uu (g:=rowP) (keep:=(λx:PS=>!dU t.name x.2)) hk2 (by simpa using c3)
   have ff:=qB hst.1 hst.2 ff;refine ay (k+1,_) (h1:=⟨iv,iv,trivial⟩) (h5:=?_);intro q
   by_cases e4:q=nx+8
   . right;subst e4;simp only[upd];(repeat rw[XV (by omega)]);exact hnone _ (by omega)
   left;simp only[upd];by_cases e5:q=rs
   . subst e5;simp only[Zn,XV e4];first|(rw[hst.2];done)|(rw[List.drop_of_length_le (by omega),<-hst.2];rfl)
   simp only[XV e4,XV e5]
  refine ah ?_;refine ai Tp ?_
  show ∃_,_
  have hst:=Je (g:=rowP) (keep:=(λx:PS=>!dU t.name x.2)) hk2 (by simpa using c3)
  have ff:=qB hst.1 hst.2 ff;refine ay (k+1,_) (h1:=⟨iv,iv,trivial⟩) (h5:=?_);intro q
  by_cases e4:q=nx+8
  . right;subst e4;simp only[upd];(repeat rw[XV (by omega)]);exact hnone _ (by omega)
  left;simp only[upd];by_cases e5:q=rs
  . subst e5;simp only[Zn,XV e4];first|(rw[hst.2];done)|(rw[List.drop_of_length_le (by omega),<-hst.2];rfl)
  simp only[XV e4,XV e5]
 have hk3:k=p.length:=by have : ¬k<p.length:=(by simpa using c2);omega
 subst hk3
 have hle:=Bw (λx:PS=>!dU t.name x.2) p p.length
 have hend:=Uw (g:=rowP) (keep:=(λx:PS=>!dU t.name x.2)) (l:=p)
 have hlen:(gN rowP (λx:PS=>!dU t.name x.2) p p.length).length=p.length:=zM (XX _)
 have ff:=qA @hlen ff
 refine aH ?_
 refine ae (xw ?_)
 refine Ig (C:=Tp) 3 (by omega) (dR rfl) rfl rfl (by kernel_rfl) (by kernel_rfl) (by kernel_rfl) o4g ?_ (by rfl) ev ev (by rw[zM (by omega)];omega) ?_
 .
  try simp only[go_sem,ff]
  all_goals exact ok0
 refine wH (C:=Tp) o5y o4g ?_ rfl ?_
 .
  try simp only[go_sem,ff]
  all_goals exact ok0
 try simp only[aI]
 refine aa Tp ?_
 refine aL ?_
 exact cK (upd h rs (some ⟨84,(p.filter (λx:PS=>!dU t.name x.2)).map rowP⟩)) (hr:=oS (k:=o0n)) (hh:=o3z)
def Zbc(l:List Dat)(s:RSet)(m:Nat)(h:H)(n rs:Nat)(hm:m=l.length)(hl:l.length<=1000000)(hs:s.data.length<=1000000)(hr:h rs=some ⟨57,l.map Dat.d⟩):bU prog 171 [.mrow rs 0 m,.fn (.func 172) [] [.eptr s.d]] h n (λd h' n'=>d = .mrow rs 0 (l.filter (λx:Dat=>!dX s.data x)).length/\h'=upd h rs (some ⟨57,(l.filter (λx:Dat=>!dX s.data x)).map Dat.d⟩)/\n<=n'):=by
 refine oP func171 λhnone ff=>?_
 unfold f171
 subst hm
 have hsn:=Zcu hr
 have hrn:rs<n:=by rcases YG rs n with q|q;exact q;rw[hnone rs q]at hr;cases hr
 have ff:=qA @hr ff
 refine aa Tp ?_
 refine cB ?_
 refine JA Tp 2 2 (hct:=Za2 l s hl hs) (hso:=?_) (hz:=?_) (hk:=?_)
 .
  intro d hd;simp only[X0,Yv,Ym,YZ,or_false]at hd
  rcases hd with rfl|rfl
  . exact hsn.2
  refine⟨λc hc=>by simp at hc,λc hc=>?_⟩;rw[Yo]at hc;subst hc;simp[dP,D.nr,bC,oU,RSet.d]
 .
  simp only[X0,Yv,X8,Yz];rw[hsn.1]
  simp[Qy,H7,wk,eB,RSet.d,ui]
 refine aP Tp ?_
 try simp only[aI]
 refine oK Tp ?_ ?_ (hp:=rfl) (hq:=rfl)<;>intro c1
 .
  have hfil:=Zh6 (by simpa using c1)
  refine aa Tp ?_;refine aL ?_;exact cK (upd h rs (some ⟨57,(l.filter (λx:Dat=>!dX s.data x)).map Dat.d⟩)) (hr:=oS (k:=o4k)) (hh:=o2u)
 obtain⟨j,g1,g3,g4,g5⟩:=Zh4 (by simpa using c1)
 have gy:=Uy (g:=Dat.d) (keep:=(λx:Dat=>!dX s.data x)) (l:=l) (k:=j) (by omega) (λi hi=>by show(!dX s.data l[i]!)=true;rw[g5 i hi];rfl)
 have gn:=Je (g:=Dat.d) (keep:=(λx:Dat=>!dX s.data x)) g3 (by show(!dX s.data l[j]!)=false;rw[g4];rfl)
 have hkn:j5 (λx:Dat=>!dX s.data x) l (j+1)=j:=by rw[gn.1,gy.1]
 have hkr:gN Dat.d (λx:Dat=>!dX s.data x) l (j+1)=l.map Dat.d:=by rw[gn.2,gy.2]
 refine ae ?_
 refine aa Tp ?_
 refine aj ?_
 have ff:=qB @hkn @g1 ff
 refine jm (α:=(Nat)×Nat) [0,1] (λ⟨k,nx⟩=>(k<=l.length)/\(n<=nx)/\True) (λ⟨k,nx⟩=>l.length-k) (λ⟨k,nx⟩=>[(5,.i (j5 (λx:Dat=>!dX s.data x) l k)),(6,.i k)]) (λ⟨k,nx⟩=>upd h rs (some ⟨57,gN Dat.d (λx:Dat=>!dX s.data x) l k⟩)) (λ⟨k,nx⟩=>nx) (j+1,_) (hA:=⟨iv,iv,trivial⟩) (round:=?_) (BN:=o2j)
 rintro⟨k,nx⟩ ⟨hk,hx, -⟩
 simp only[XY,X0]
 refine oL Tp ?_ ?_ (hp:=rfl) (hq:=rfl)<;>intro c2
 .
  have hk2:k<l.length:=by simpa[zM hk]using c2
  have hle:=Bw (λx:Dat=>!dX s.data x) l k
  have hat:(gN Dat.d (λx:Dat=>!dX s.data x) l k).getD k []=[.v (.string (bs l[k]!.t)),.i l[k]!.n,.i l[k]!.m]:=Ux hk2
  have hlen:(gN Dat.d (λx:Dat=>!dX s.data x) l k).length=l.length:=zM om
  have hg5:((gN Dat.d (λx:Dat=>!dX s.data x) l k).getD (j5 (λx:Dat=>!dX s.data x) l k) []).length=3:=Uv (λ_=>rfl) om
  have ff:=qE @hat @hlen @hg5 (nH (nx+8) rs) ff;refine ae ?_;refine aj ?_;refine aa Tp ?_;refine cB ?_;refine JA Tp 2 2 (hct:=PD l[k]! s hs) (hso:=?_) (hz:=?_) (hk:=?_)
  .
   intro d hd;simp only[X0,XY,Ym,YZ,or_false]at hd
   rcases hd with rfl|rfl
   . simp[dP,D.nr,Dat.d]
   simp[dP,D.nr,bC,oU,RSet.d]
  . simp[H7,Go.DL.snap_agg,Go.DL.snap_v,wk,eB,RSet.d,Dat.d,ui]
  refine aP Tp ?_
  try simp only[aI]
  refine cd ?_ ?_<;>intro c3
  .
   refine aa Tp ?_;refine ai Tp ?_;refine ai Tp ?_
   show ∃_,_
   have hst:=Uu (g:=Dat.d) (keep:=(λx:Dat=>!dX s.data x)) hk2 (by simpa using c3)
   have ff:=qB hst.1 hst.2 ff;refine ay (k+1,_) (h1:=⟨iv,iv,trivial⟩) (h5:=?_);intro q
   by_cases e4:q=nx+8
   . right;subst e4;simp only[upd];(repeat rw[XV (by omega)]);exact hnone _ (by omega)
   left;simp only[upd];by_cases e5:q=rs
   . subst e5;simp only[Zn,XV e4];first|(rw[hst.2];done)|(rw[List.drop_of_length_le (by omega),<-hst.2];rfl)
   simp only[XV e4,XV e5]
  refine ah ?_;refine ai Tp ?_
  show ∃_,_
  have hst:=Je (g:=Dat.d) (keep:=(λx:Dat=>!dX s.data x)) hk2 (by simpa using c3)
  have ff:=qB hst.1 hst.2 ff;refine ay (k+1,_) (h1:=⟨iv,iv,trivial⟩) (h5:=?_);intro q
  by_cases e4:q=nx+8
  . right;subst e4;simp only[upd];(repeat rw[XV (by omega)]);exact hnone _ (by omega)
  left;simp only[upd];by_cases e5:q=rs
  . subst e5;simp only[Zn,XV e4];first|(rw[hst.2];done)|(rw[List.drop_of_length_le (by omega),<-hst.2];rfl)
  simp only[XV e4,XV e5]
 have hk3:k=l.length:=by have : ¬k<l.length:=(by simpa using c2);omega
 subst hk3
 have hle:=Bw (λx:Dat=>!dX s.data x) l l.length
 have hend:=Uw (g:=Dat.d) (keep:=(λx:Dat=>!dX s.data x)) (l:=l)
 have hlen:(gN Dat.d (λx:Dat=>!dX s.data x) l l.length).length=l.length:=zM (XX _)
 have ff:=qA @hlen ff
 refine aH ?_
 refine ae (xw ?_)
 refine Ig (C:=Tp) 3 (by omega) (dR rfl) rfl rfl (by kernel_rfl) (by kernel_rfl) (by kernel_rfl) o4g ?_ (by rfl) ev ev (by rw[zM (by omega)];omega) ?_
 .
  try simp only[go_sem,ff]
  all_goals exact ok0
 refine wH (C:=Tp) o5y o4g ?_ rfl ?_
 .
  try simp only[go_sem,ff]
  all_goals exact ok0
 try simp only[aI]
 refine aa Tp ?_
 refine aL ?_
 exact cK (upd h rs (some ⟨57,(l.filter (λx:Dat=>!dX s.data x)).map Dat.d⟩)) (hr:=oS (k:=o0n)) (hh:=o3z)
def PR(zc rs cc i:Nat)(a:Str)(p:List PS)(h:H)(n:Nat)(hz:ZM 24 84 57 zc rs a p h)(hcc:h cc=some ⟨183,[[.mptr zc 0 0]]⟩)(hl:p.length<=100000)(hi:i<p.length):bU prog 163 [.i i,.mptr cc 0 0] h n (λd h' n'=>d = .tuple []/\ku 24 84 57 zc a ((lP p).eraseIdx i) h h' n n'):=by
 refine oP func163 λhnone ff=>?_
 unfold f163
 have hzz:=hz.z
 have eU:=hz.r
 have hzn:=hz.zr
 have hc1:cc≠zc:=λe=>by rw[e,hzz]at hcc;cases hcc
 have hc2:cc≠rs:=λe=>by rw[e,eU]at hcc;cases hcc
 have hc3:zc≠cc:=λe=>hc1 e.symm
 have hc4:rs≠cc:=λe=>hc2 e.symm
 have M8:rs≠zc:=λe=>hzn e.symm
 have ff:=qA @hzz (qI @eU @hzn @hcc @hc1 @hc2 @hc3 @hc4 @M8 ff)
 refine dr1 Tp 8 11 [(0,1)] (hct:=by exact Zjh (p.map rowP) i p.length (i+1) _ _ rs (by simp) (by simpa using hi) rfl (by simp;omega) o5v XP) (hkeep:=?_) (hk:=?_)
 . rintro res h2 n2 ⟨rfl,rfl,a1⟩ q hq r hrr;simp only[Yo]at hq;subst hq;simp only[go_sem,ff,sd,named,YB]at hrr ⊢;subst hrr;simp only[upd,XV hc2]
 rintro res h2 n2 ⟨rfl,rfl,a1⟩
 refine aP Tp ?_
 try simp only[aI]
 exact cK (_) (hh:=λ_=>.inl rfl) (hr:=oS (k:=by(try dsimp only at a1);rw[Zf1,show p.length-1=(p.eraseIdx i).length from by simp[List.length_eraseIdx,hi],<-Zgv];exact Qg hz (List.eraseIdx_sublist _ _) oW))
def ZaY(t:RSet)(zc rs cc:Nat)(a:Str)(p:List PS)(h:H)(n:Nat)(hz:ZM 24 84 57 zc rs a p h)(hcc:h cc=some ⟨183,[[.mptr zc 0 0]]⟩)(hl:p.length<=100000):bU prog 175 [.agg t.d,.mptr cc 0 0] h n (λd h' n'=>d = .tuple []/\ku 24 84 57 zc a (lP (p.filter (λx:PS=>!dU t.name x.2))) h h' n n'):=by
 refine oP func175 λhnone ff=>?_
 unfold f175
 have hzz:=hz.z
 have eU:=hz.r
 have hzn:=hz.zr
 have hc1:cc≠zc:=λe=>by rw[e,hzz]at hcc;cases hcc
 have hc2:cc≠rs:=λe=>by rw[e,eU]at hcc;cases hcc
 have hc3:zc≠cc:=λe=>hc1 e.symm
 have hc4:rs≠cc:=λe=>hc2 e.symm
 have M8:rs≠zc:=λe=>hzn e.symm
 have hrn:rs<n:=by rcases YG rs n with q|q;exact q;rw[hnone rs q]at eU;cases eU
 have hzcn:zc<n:=by rcases YG zc n with q|q;exact q;rw[hnone zc q]at hzz;cases hzz
 have hccn:cc<n:=by rcases YG cc n with q|q;exact q;rw[hnone cc q]at hcc;cases hcc
 have ff:=qH @hzz @eU @hzn @hcc @hc1 @hc2 @hc3 (qI @hc4 @M8 (nH n rs) (nH n zc) (nH cc n) (nH rs zc) (nH cc rs) (nH cc zc) ff)
 refine aa Tp ?_
 refine qR 2 n ev ev (by simp[bC,D.nr,oU]) ?_
 refine dr1 Tp 6 7 [(0,1)] (hct:=by exact Zbb p t p.length _ _ rs rfl (by omega) o5v (λx hx=>⟨⟨by have:=hz.ne x hx;simp only[upd];(repeat rw[XV (by first|omega|(intro e;have:=hz.d x hx;rw[e,hnone _ (XX _)]at this;cases this))]);exact hz.d x hx,hz.sig x hx⟩,(hz.ne x hx).2⟩)) (hkeep:=?_) (hk:=?_)
 . rintro res h2 n2 ⟨rfl,rfl,a1⟩ q hq r hrr;simp only[Yo]at hq;subst hq;simp only[go_sem,ff,sd,named,YB]at hrr ⊢;subst hrr;simp only[upd,XV hc2]
 rintro res h2 n2 ⟨rfl,rfl,a1⟩
 refine aP Tp ?_
 try simp only[aI]
 exact cK (upd (upd h rs (some ⟨84,(p.filter (λx:PS=>!dU t.name x.2)).map rowP⟩)) zc (some ⟨24,[[.v (.string (bs a)),.mrow rs 0 (p.filter (λx:PS=>!dU t.name x.2)).length]]⟩)) (hr:=oS (k:=by(try dsimp only at a1);exact Qg hz List.filter_sublist oW)) (hh:=by intro q;simp only[upd];by_cases e:q=n;right;subst e;(repeat rw[if_neg (by omega)]);exact hnone _ (Nat.le_refl _);left;(repeat (first|rfl|(split<;>first|rfl|omega))))
@[go_sem]theorem snapW_v9{h:H}{x:Value}:ji h (.v x) = .v x:=rfl
def NR{p:List PS}{q:ak}(h:dB (lP p) q=true):bz (lP p) q<p.length:=by
 have:=NS h
 rwa [mU]at this
def ZaL(t:RSet)(zc rs cc ce:Nat)(a:Str)(p:List PS)(h:H)(n:Nat)(hz:ZM 24 84 57 zc rs a p h)(hcc:h cc=some ⟨183,[[.mptr zc 0 0]]⟩)(hcd:h ce=some ⟨138,[[.fn (.func 163) [] [.mptr cc 0 0]]]⟩)(hl:p.length<=100000):bU prog 174 [.agg t.d,.mptr cc 0 0,.mptr ce 0 0] h n (λd h' n'=>d = .tuple []/\ku 24 84 57 zc a (AR (lP p) t) h h' n n'):=by
 refine oP func174 λhnone ff=>?_
 unfold f174
 have hzz:=hz.z
 have eU:=hz.r
 have hnn:h n=none:=hnone _ (XX _)
 have hz2:=hz.fresh (b:=some ⟨60,[t.d]⟩) hnn
 have lrs:rs<n:=by rcases YG rs n with q|q;exact q;rw[hnone rs q]at eU;cases eU
 have lzc:zc<n:=by rcases YG zc n with q|q;exact q;rw[hnone zc q]at hzz;cases hzz
 have lcc:cc<n:=by rcases YG cc n with q|q;exact q;rw[hnone cc q]at hcc;cases hcc
 have lce:ce<n:=by rcases YG ce n with q|q;exact q;rw[hnone ce q]at hcd;cases hcd
 have ff:=qI @hzz @eU @hcc @hcd (nH n rs) (nH n zc) (nH cc n) (nH ce n) ff
 refine aa Tp ?_
 have hsw:=hz2.snap
 have yt:ji (upd h n (some ⟨60,[[.v (.string (bs t.name)),.i t.ty,.i t.life,.list false (t.data.map Dat.d)]]⟩)) (.agg [.v (.string (bs a)),.mrow rs 0 p.length]) = .agg [.v (.string (bs a)),.list false ((lP p).map Sgd.d)]:=hsw.1
 have ff:=qA @yt ff
 refine aa uX ?_ (hok:=o0d)
 refine aa Tp ?_
 refine cd ?_ ?_ (hp:=rfl) (hq:=rfl)<;>intro c1
 .
  have hf:dB (lP p) ⟨t.name,t.ty⟩=true:=by simpa using c1
  have hi:=NR hf;refine bJ Tp 2 (hct:=by exact PR zc rs cc (bz (lP p) ⟨t.name,t.ty⟩) a p _ _ hz2 o5v hl hi) (hk:=?_)
  rintro res h2 n2 ⟨rfl,hst⟩;refine bI Tp ?_;exact cK (_) (hh:=λ_=>.inl rfl) (hr:=oS (k:=o1a))
 have hf:dB (lP p) ⟨t.name,t.ty⟩=false:=by simpa using c1
 refine ah ?_
 exact cK (_) (hh:=λ_=>.inl rfl) (hr:=oS (k:=o1a))
def ZaJ(t:RSet)(zc rs cc ce:Nat)(a:Str)(p:List PS)(h:H)(n:Nat)(hz:ZM 24 84 57 zc rs a p h)(hcc:h cc=some ⟨183,[[.mptr zc 0 0]]⟩)(hcd:h ce=some ⟨138,[[.fn (.func 163) [] [.mptr cc 0 0]]]⟩)(hl:p.length<=100000)(hdl : ∀x∈p,x.2.set.data.length<=100000)(htl:t.data.length<=100000):bU prog 170 [.agg t.d,.mptr cc 0 0,.mptr ce 0 0] h n (λd h' n'=>d = .tuple []/\ku 24 84 57 zc a (xI (lP p) t) h h' n n'):=by
 refine oP func170 λhnone ff=>?_
 unfold f170
 have hzz:=hz.z
 have eU:=hz.r
 have hnn:h n=none:=hnone _ (XX _)
 have hz2:=hz.fresh (b:=some ⟨60,[t.d]⟩) hnn
 have lrs:rs<n:=by rcases YG rs n with q|q;exact q;rw[hnone rs q]at eU;cases eU
 have lzc:zc<n:=by rcases YG zc n with q|q;exact q;rw[hnone zc q]at hzz;cases hzz
 have lcc:cc<n:=by rcases YG cc n with q|q;exact q;rw[hnone cc q]at hcc;cases hcc
 have lce:ce<n:=by rcases YG ce n with q|q;exact q;rw[hnone ce q]at hcd;cases hcd
 have hm2:(zc=n)=False:=YO om
 have hc1:(cc=rs)=False:=YO λe=>by rw[e,eU]at hcc;cases hcc
 have hc2:(ce=rs)=False:=YO λe=>by rw[e,eU]at hcd;cases hcd
 have hc3:(zc=rs)=False:=YO hz.zr
 have ff:=qE @hzz @eU @hcc @hcd (qI @hc1 @hc2 @hc3 (nH n rs) (nH n zc) (nH cc n) (nH ce n) @hm2 ff)
 refine aa Tp ?_
 have hsw:=hz2.snap
 have yt:ji (upd h n (some ⟨60,[[.v (.string (bs t.name)),.i t.ty,.i t.life,.list false (t.data.map Dat.d)]]⟩)) (.agg [.v (.string (bs a)),.mrow rs 0 p.length]) = .agg [.v (.string (bs a)),.list false ((lP p).map Sgd.d)]:=hsw.1
 have ff:=qA @yt ff
 refine aa uX ?_ (hok:=o0d)
 refine oK Tp ?_ ?_ (hp:=rfl) (hq:=rfl)<;>intro c1
 .
  have hf:dB (lP p) ⟨t.name,t.ty⟩=false:=by simpa using c1
  refine aL ?_;exact cK (_) (hh:=λ_=>.inl rfl) (hr:=oS (k:=o0a))
 have hf:dB (lP p) ⟨t.name,t.ty⟩=true:=by simpa using c1
 have hi:=NR hf
 obtain⟨ix,hix⟩:∃ix,ix=bz (lP p) ⟨t.name,t.ty⟩:=⟨_,rfl⟩
 rw[<-hix]at hi
 have FM:=hix.symm
 have hrow:(p.map rowP).getD ix []=[.v (.string (bs p[ix]!.2.set.name)),.i p[ix]!.2.set.ty,.i p[ix]!.2.set.life,.mrow p[ix]!.1 0 p[ix]!.2.set.data.length,.list true []]:=LF hi
 have hrow2:((p.map rowP).set ix [.v (.string (bs p[ix]!.2.set.name)),.i p[ix]!.2.set.ty,.i p[ix]!.2.set.life,.mrow p[ix]!.1 0 (p[ix]!.2.set.data.filter λx=>!dX t.data x).length,.list true []]).getD ix []=[.v (.string (bs p[ix]!.2.set.name)),.i p[ix]!.2.set.ty,.i p[ix]!.2.set.life,.mrow p[ix]!.1 0 (p[ix]!.2.set.data.filter λx=>!dX t.data x).length,.list true []]:=ZdP (by simpa using hi)
 have hxd:=hz.d p[ix]! (kS hi)
 have hxe:=hz.ne p[ix]! (kS hi)
 have hxl:=hdl p[ix]! (kS hi)
 have hxn:p[ix]!.1<n:=by rcases YG p[ix]!.1 n with q|q;exact q;rw[hnone _ q]at hxd;cases hxd
 have hx3:(p[ix]!.1=rs)=False:=YO hxe.2
 have hx4:(rs=p[ix]!.1)=False:=YO (λe=>hxe.2 e.symm)
 have hx5:(p[ix]!.1=zc)=False:=YO hxe.1
 have hx6:(zc=p[ix]!.1)=False:=YO (λe=>hxe.1 e.symm)
 have hx7:(cc=p[ix]!.1)=False:=YO λe=>by rw[e,hxd]at hcc;cases hcc
 have Dr:(ce=p[ix]!.1)=False:=YO λe=>by rw[e,hxd]at hcd;cases hcd
 have hlr:(p.map rowP).length=p.length:=by simp
 have hz3:ZM 24 84 57 zc rs a (p.set ix (p[ix]!.1,p[ix]!.2.withD (p[ix]!.2.set.data.filter λx=>!dX t.data x))) (upd (upd (upd (upd h n (some ⟨60,[t.d]⟩)) n none) p[ix]!.1 (some ⟨57,(p[ix]!.2.set.data.filter λx=>!dX t.data x).map Dat.d⟩)) rs (some ⟨84,(p.map rowP).set ix [.v (.string (bs p[ix]!.2.set.name)),.i p[ix]!.2.set.ty,.i p[ix]!.2.set.life,.mrow p[ix]!.1 0 (p[ix]!.2.set.data.filter λx=>!dX t.data x).length,.list true []]⟩)):=hz.setD hi (p[ix]!.2.set.data.filter λx=>!dX t.data x) (by simp only[upd,hc3,hx6,hm2,Za]) (bN _ _ _) (by simp only[upd,hx3,Za,Zn]) (λx hx hne=>by have q1:=(hz.ne x hx).2;have q2:x.1≠n:=(λe=>by have:=hz.d x hx;rw[e,hnn]at this;cases this);simp only[upd,XV q1,XV hne,XV q2])
 have ff:=qE @FM @hrow @hrow2 @hxd (qI @hlr (nH n (p[ix]!.1)) @hx3 @hx4 @hx5 @hx6 @hx7 @Dr ff)
 refine aa Tp ?_
 refine qR 3 n ev ev (by simp[bC,D.nr,oU]) ?_
 refine ae (bJ Tp 6 (hct:=by exact Zbc p[ix]!.2.set.data t _ _ _ _ rfl om om o5v) (hk:=?_))
 rintro res h2 n2 ⟨rfl,rfl,a1⟩
 try dsimp only at a1
 refine bI Tp ?_
 refine aa Tp ?_
 refine cd ?_ ?_<;>intro c2
 .
  refine bJ Tp 2 (hct:=by exact PR zc rs cc ix a _ _ _ hz3 o5v (by simpa using hl) (by simpa using hi)) (hk:=?_)
  rintro res h2 n2 ⟨rfl,hst⟩;refine bI Tp ?_;exact cK (_) (hh:=λ_=>.inl rfl) (hr:=oS (k:=o0a))
 refine ah ?_
 exact cK (_) (hh:=λ_=>.inl rfl) (hr:=oS (k:=o0a))
def Za0(zc:Nat)(h:H)(n:Nat)(hzc:zc<n):bU prog 105 [.mptr zc 0 0] h n (λd h' n'=>d = .agg [.v .nilFunc,.fn (.func 165) [] [.mptr n 0 0],.fn (.func 170) [] [.mptr n 0 0,.mptr (n+3) 0 0],.fn (.func 174) [] [.mptr n 0 0,.mptr (n+3) 0 0],.fn (.func 175) [] [.mptr n 0 0]]/\h' n=some ⟨183,[[.mptr zc 0 0]]⟩/\h' (n+3)=some ⟨138,[[.fn (.func 163) [] [.mptr n 0 0]]]⟩/\(∀q,q<n->h' q=h q)/\n+3<n'):=by
 refine oP func105 λhnone ff=>?_
 unfold f105
 refine oD Tp ?_
 refine aL ?_
 exact cK (_) (hh:=λ_=>.inl rfl) (hr:=oS (k:=by refine⟨λq hq=>?_,om⟩;simp only[upd];(repeat rw[XV (by omega)])))
def VH{p:List PS}(q:ak):bz (lP p) q<=p.length:=by
 have h:bz (lP p) q<=(lP p).length:=(OI _ _ 0 (lP p).length (XX _) (Yi _)).1
 rw[mU]at h
 exact h
def Zbp(t:RSet)(zc rs cc:Nat)(a:Str)(p:List PS)(h:H)(n:Nat)(hz:ZM 24 84 57 zc rs a p h)(hcc:h cc=some ⟨183,[[.mptr zc 0 0]]⟩)(hl:p.length<=90000)(hdl : ∀x∈p,x.2.set.data.length<=1000)(hps : ∀x∈p,jT dZ x.2.set.data)(hts:jT dZ t.data)(ht0:0<t.data.length)(htl:t.data.length<=1000):bU prog 165 [.agg t.d,.mptr cc 0 0] h n (λd h' n'=>d = .tuple []/\ku 24 84 57 zc a (Cr (lP p) t) h h' n n'):=by
 refine oP func165 λhnone ff=>?_
 unfold f165
 have hzz:=hz.z
 have eU:=hz.r
 have hnn:h n=none:=hnone _ (XX _)
 have hz2:=hz.fresh (b:=some ⟨60,[t.d]⟩) hnn
 have lrs:rs<n:=by rcases YG rs n with q|q;exact q;rw[hnone rs q]at eU;cases eU
 have lzc:zc<n:=by rcases YG zc n with q|q;exact q;rw[hnone zc q]at hzz;cases hzz
 have lcc:cc<n:=by rcases YG cc n with q|q;exact q;rw[hnone cc q]at hcc;cases hcc
 have hc1:(cc=rs)=False:=YO λe=>by rw[e,eU]at hcc;cases hcc
 have hc2:(cc=zc)=False:=YO λe=>by rw[e,hzz]at hcc;cases hcc
 have hc3:(zc=rs)=False:=YO hz.zr
 have hc4:(rs=zc)=False:=YO λe=>hz.zr e.symm
 have hc5:(rs=cc)=False:=YO λe=>by rw[<-e,eU]at hcc;cases hcc
 have hc6:(zc=cc)=False:=YO λe=>by rw[<-e,hzz]at hcc;cases hcc
 have hd1:cc≠rs:=λe=>by rw[e,eU]at hcc;cases hcc
 have hd2:zc≠rs:=hz.zr
 have hd3:cc≠zc:=λe=>by rw[e,hzz]at hcc;cases hcc
 have hpn : ∀x∈p,x.1<n:=λx hx=>by have:=hz.d x hx;rcases YG x.1 n with q|q;exact q;rw[hnone x.1 q]at this;cases this
 have ff:=qE @hzz @eU @hcc @hc1 (qI @hc2 @hc3 @hc4 @hc5 @hc6 (nH n rs) (nH n zc) (nH cc n) ff)
 refine aa Tp ?_
 have hsw:=hz2.snap
 have yt:ji (upd h n (some ⟨60,[[.v (.string (bs t.name)),.i t.ty,.i t.life,.list false (t.data.map Dat.d)]]⟩)) (.agg [.v (.string (bs a)),.mrow rs 0 p.length]) = .agg [.v (.string (bs a)),.list false ((lP p).map Sgd.d)]:=hsw.1
 have ff:=qA @yt ff
 refine aa uX ?_ (hok:=o0d)
 refine ae (bJ Tp 2 (hct:=by exact PT t.data ht0 om _ _) (hk:=?_))
 rintro res h2 n2 ⟨r1,rfl,rfl,a1,b1⟩
 try dsimp only at a1 b1
 have ff:=qG @a1 @b1 (nH n r1) (nH r1 rs) (nH r1 zc) (nH cc r1) ff
 refine bI Tp ?_
 refine oK Tp ?_ ?_ (hp:=rfl) (hq:=rfl)<;>intro c1
 .
  have hf:dB (lP p) ⟨t.name,t.ty⟩=false:=by simpa using c1
  have ff:=qF (nH n (n2+15)) (nH (n2+15) rs) (nH (n2+15) zc) (nH cc (n2+15)) (nH (n2+15) r1) ff;refine ae ?_;refine dr1 Au 9 10 [(0,1)] (hct:=by exact Zhi (p.map rowP) [.v (.string (bs t.name)),.i t.ty,.i t.life,.mrow r1 0 t.data.length,.list true []] (bz (lP p) ⟨t.name,t.ty⟩) p.length _ _ rs (n2+15) (by simp) (by simpa using VH _) (by simp;omega) o5v o5v om rfl XP) (hkeep:=?_) (hk:=?_)
  .
   rintro res h3 n3 ⟨r2,rfl,e1,e2,e3,e4⟩ q hq r hrr
   try dsimp only at e2 e3 e4
   simp only[Yo]at hq;subst hq;simp only[go_sem,ff,sd,named,YB]at hrr ⊢;subst hrr;rw[e3 cc (by omega) (by omega)];try simp only[go_sem,ff]
  rintro res h3 n3 ⟨r2,rfl,e1,e2,e3,e4⟩
  try dsimp only at e2 e3 e4
  simp only[Zm]at e1 e2 e3 e4 ⊢;have e5:h3 zc=some ⟨24,[[.v (.string (bs a)),.mrow rs 0 p.length]]⟩:=by rw[e3 zc (by omega) (by omega)];simp only[go_sem,ff]
  have ff:=qA e5 ff;refine aP Au ?_
  try simp only[aI]
  refine aL ?_;refine cK (_) (hh:=λ_=>.inl rfl) (hr:=?_)
  try simp only[go_sem,ff]
  rw[ZkM hf];have hq : ∀q,q≠rs->q<n->h3 q=h q:=λq q1 q2=>by rw[e3 q q1 (by omega)];simp only[upd];repeat rw[XV (by omega)]
  have UW:r2≠zc:=by rcases e2 with e|e;rw[e];exact λe=>hz.zr e.symm;omega
  have hr21:r2≠r1:=by rcases e2 with e|e;rw[e];omega;omega
  refine⟨r2,_,hz.insP (rs':=r2) (i:=(bz (lP p) ⟨t.name,t.ty⟩)) (VH _) (r:=r1) (s:=t) (by simp[upd]) ?_ ?_ (λx hx e=>by have:=hpn x hx;omega) ⟨om,λe=>hr21 e.symm⟩ (λe=>UW e.symm) (λx hx e=>by rcases e2 with k|k;rw[k]at e;exact(hz.ne x hx).2 e;have:=hpn x hx;omega) (λx hx=>by simp only[upd];rw[if_neg (hz.ne x hx).1,hq _ (hz.ne x hx).2 (hpn x hx)]),Zgt,λq b k1 k2 k3 k4=>?_,by first|omega|(dsimp only;omega)⟩
  . simp only[upd];rw[XV UW,e1];rfl
  . simp only[upd];rw[XV (by omega),e3 r1 (by omega) (by omega)];simp only[upd];repeat (first|rfl|rw[XV (by omega)]|rw[X3 rfl])
  have q1:q≠rs:=(λe=>k2 (by rw[e,eU]at k1;cases k1;rfl));have q2:q<n:=o3w;simp only[upd];rw[XV k4,hq q q1 q2];exact k1
 have hf:dB (lP p) ⟨t.name,t.ty⟩=true:=by simpa using c1
 have hi:=NR hf
 obtain⟨ix,hix⟩:∃ix,ix=bz (lP p) ⟨t.name,t.ty⟩:=⟨_,rfl⟩
 rw[<-hix]at hi
 have FM:=hix.symm
 have hrow:(p.map rowP).getD ix []=[.v (.string (bs p[ix]!.2.set.name)),.i p[ix]!.2.set.ty,.i p[ix]!.2.set.life,.mrow p[ix]!.1 0 p[ix]!.2.set.data.length,.list true []]:=LF hi
 have hxd:=hz.d p[ix]! (kS hi)
 have hxe:=hz.ne p[ix]! (kS hi)
 have hxl:=hdl p[ix]! (kS hi)
 have hxn:=hpn p[ix]! (kS hi)
 have hlr:(p.map rowP).length=p.length:=by simp
 have hx3:(p[ix]!.1=rs)=False:=YO (by exact hxe.2)
 have hx4:(p[ix]!.1=zc)=False:=YO (by exact hxe.1)
 have hy3:(rs=p[ix]!.1)=False:=YO (by exact λe=>hxe.2 e.symm)
 have hy4:(zc=p[ix]!.1)=False:=YO (by exact λe=>hxe.1 e.symm)
 have ff:=qB @FM @hrow (qI @hxd @hlr (nH n (p[ix]!.1)) (nH (p[ix]!.1) r1) @hx3 @hx4 @hy3 @hy4 ff)
 refine oK Tp ?_ ?_<;>intro c2
 .
  have ff:=qF (nH n (n2+26)) (nH (n2+26) rs) (nH (n2+26) zc) (nH cc (n2+26)) (nH (n2+26) r1) ff;refine ae ?_;refine Ai Tp 11 ?_;refine Vk Tp 11 (r:=r1) (n:=t.data.length) (rows:=t.data.map Dat.d) (news:=p[ix]!.2.set.data.map Dat.d) o6b (hrl:=by intro q hq;obtain⟨x,_,rfl⟩:=List.mem_map.1 hq;rfl) (hby:=by rw[show(prog).bytesOf 57=32 from rfl,List.length_map];omega) (h63:=by rw[List.length_map];omega) ?_
  refine aP Tp ?_
  try simp only[aI]
  obtain⟨r6,hr6⟩:∃q,q=n2+26:=⟨_,rfl⟩;simp only[<-hr6];have ff:=qG (nH n r6) (nH r6 rs) (nH r6 zc) (nH cc r6) (nH r1 r6) (nH (p[ix]!.1) r6) ff;refine ae (bJ Tp 2 (hct:=by exact ZaK (t.data++p[ix]!.2.set.data) _ _ _ r6 (by rw[XZ]) (by rw[XZ];omega) (by simp only[go_sem,ff,YT])) (hk:=?_))
  rintro res h2 n2 ⟨rfl,rfl,l9,hpm,hso,rfl⟩;have vN:=hpm.length_eq;rw[XZ]at vN;refine bI Tp ?_;refine bJ Tp 2 (hct:=by exact Zbf l9 _ _ _ r6 om om o5v) (hk:=?_)
  rintro res h2 n2 ⟨rfl,rfl,a8⟩
  try dsimp only at a8
  refine bI Tp ?_;refine Ai Tp 8 ?_;refine aP Tp ?_
  try simp only[aI]
  refine cK (_) (hh:=λ_=>.inl rfl) (hr:=?_)
  try simp only[go_sem,ff]
  rw[<-Zaa (d:=qU l9) hf hix hi (by unfold KH;rw[if_pos (by grind)];exact ZiT (hps _ (kS hi)) hts hpm hso) r6]
  refine⟨rs,_,hz.setP hi (r:=r6) (s:={ t with data:=qU l9 }) ?_ ?_ ?_ (λx hx e=>by have:=hpn x hx;omega) ⟨om,om⟩ (λx hx=>?_),rfl,λq b k1 k2 k3 k4=>?_,by first|omega|(dsimp only;omega)⟩
  . simp only[upd];repeat (first|rfl|rw[XV (by omega)]|rw[XV hz.zr])
  . simp only[upd,Zn];rfl
  . simp only[upd];repeat (first|rfl|rw[XV (by omega)]|rw[X3 rfl])
  . have q1:=hz.ne x hx;have q2:=hpn x hx;simp only[upd];repeat (first|rfl|rw[XV q1.2]|rw[XV (by omega)])
  have q1:q≠rs:=(λe=>k2 (by rw[e,eU]at k1;cases k1;rfl));have q2:q<n:=o3w;simp only[upd];repeat (first|exact k1|rw[XV q1]|rw[XV (by omega)])
 refine Ai Tp 8 ?_
 refine aP Tp ?_
 try simp only[aI]
 refine cK (_) (hh:=λ_=>.inl rfl) (hr:=?_)
 try simp only[go_sem,ff]
 rw[<-Zaa (d:=t.data) hf hix hi (by unfold KH;rw[if_neg (by grind)]) r1]
 refine⟨rs,_,hz.setP hi (r:=r1) (s:={ t with data:=t.data }) ?_ ?_ ?_ (λx hx e=>by have:=hpn x hx;omega) ⟨om,om⟩ (λx hx=>?_),rfl,λq b k1 k2 k3 k4=>?_,by first|omega|(dsimp only;omega)⟩
 . simp only[upd];repeat (first|rfl|rw[XV (by omega)]|rw[XV hz.zr])
 . simp only[upd,Zn];rfl
 . simp only[upd];repeat (first|rfl|rw[XV (by omega)]|rw[X3 rfl])
 . have q1:=hz.ne x hx;have q2:=hpn x hx;simp only[upd];repeat (first|rfl|rw[XV q1.2]|rw[XV (by omega)])
 have q1:q≠rs:=(λe=>k2 (by rw[e,eU]at k1;cases k1;rfl));have q2:q<n:=o3w;simp only[upd];repeat (first|exact k1|rw[XV q1]|rw[XV (by omega)])
def Xz:dY prog 103=true:=by kernel_rfl
theorem Zbl(cz ce:Nat)(h:H)(n:Nat):yV prog 103 [.mptr cz 0 0,.mptr ce 0 0] h n .returning .returning (λh' n'=>(∀q,q<n->h' q=h q)/\n<=n'):=by
 refine Cg (d:=.v .nilIface) (v:=.nilIface) func103 rfl Xz (by simp[f103]) (dR rfl) rfl rfl (by decide) (.inl ⟨rfl,rfl,rfl⟩) (λ_ _=>.v _) (λhnone=>?_)
 have ff:=True.intro
 refine Q7 (C:=Tp) 1 (.agg #[.int .i64 0]) (d:=.v .nilIface) (r:=.tuple [.agg [.i 0],.b false]) (v:=.nilIface) om (dR rfl) rfl rfl (by kernel_rfl) (by kernel_rfl) o2s trivial (by rfl) o5v (λw g q hq=>by cases hq;rfl) (.inl ⟨rfl,λw g=>?_⟩) ?_
 .
  exact .tuple _ _ rfl (λi d x h1 h2=>by
   match i with
   | 0=>cases h1;cases h2;exact .agg _ _ rfl (λi d x h1 h2=>by
     match i with
     | 0=>cases h1;cases h2;exact .v _
     | i+1=>simp at h1)
   | 1=>cases h1;cases h2;exact .v _
   | i+2=>simp at h1)
 refine aP Tp ?_
 try simp only[aI]
 refine aa Tp ?_
 refine cd ?_ ?_<;>intro c1
 . simp at c1
 refine ah ?_
 refine⟨(by trivial),h,_,?_,Nat.le_refl _,λq hq=>rfl,by dsimp only;omega⟩
 intro r
 dsimp only
 by_cases e:r<n
 . left;simp only[upd];repeat (first|rfl|rw[XV (by omega)])
 right;exact hnone r om
theorem PV(cz ce:Nat)(h:H)(n:Nat)(a0 b0 c0:D)(hz:h cz=some ⟨24,[[a0,b0]]⟩)(he:h ce=some ⟨35,[[c0]]⟩)(k:Int)(hne:cz≠ce)(hcz:cz<n)(hce:ce<n):yV prog 103 [.mptr cz 0 0,.mptr ce 0 0] h n (.panicking [{ v:=.iface 178 (.agg #[.int .i64 k]),recovered:=false }]) (.panicking [{ v:=.iface 178 (.agg #[.int .i64 k]),recovered:=true }]) (λh' n'=>h' cz=some ⟨24,[[.v (.string (bs [])),.list true []]]⟩/\h' ce=some ⟨35,[[.i k]]⟩/\n<=n' /\ ∀q,q<n->q≠cz->q≠ce->h' q=h q):=by
 have ragg : ∀(w:World)(g:Mem),ag w g (.agg [.i k]) (.agg #[.int .i64 k]):=λw g=>.agg _ _ rfl (λi d x h1 h2=>by
  match i with
  | 0=>cases h1;cases h2;exact .v _
  | i+1=>simp at h1)
 refine Cg (d:=.iface 178 (.agg [.i k])) (v:=.iface 178 (.agg #[.int .i64 k])) func103 rfl Xz (by simp[f103]) (dR rfl) rfl rfl (by decide) (.inr ⟨rfl,rfl⟩) (λw g=>.iface _ _ _ (ragg w g)) (λhnone=>?_)
 have hn1 : ∀k,(cz=n+k)=False:=λk=>YO (by omega)
 have hn2 : ∀k,(ce=n+k)=False:=λk=>YO (by omega)
 have hn3 : ∀k,(n+k=cz)=False:=λk=>YO (by omega)
 have nP : ∀k,(n+k=ce)=False:=λk=>YO (by omega)
 have BJ:(cz=ce)=False:=YO hne
 have hn6:(ce=cz)=False:=YO λe=>hne e.symm
 have ff:=qH hz he hn1 hn2 hn3 nP BJ hn6
 refine Q7 (C:=Tp) 1 (.agg #[.int .i64 0]) (d:=.iface 178 (.agg [.i k])) (r:=.tuple [.agg [.i k],.b true]) (v:=.iface 178 (.agg #[.int .i64 k])) (by omega) (dR rfl) rfl rfl (by kernel_rfl) (by kernel_rfl) o2s trivial (by rfl) o5v (λw g q hq=>?_) (.inr ⟨_,rfl,λw g=>?_⟩) ?_
 .
  cases hq with|iface _ _ x hx =>
  cases hx with|agg _ vs hn h2 =>
  obtain⟨vs⟩:=vs
  match vs,hn with
  | [y],_ =>
   have:=h2 0 (.i k) y rfl rfl
   cases this
   rfl
 .
  exact .tuple _ _ rfl (λi d x h1 h2=>by
   match i with
   | 0=>cases h1;cases h2;exact ragg w g
   | 1=>cases h1;cases h2;exact .v _
   | i+2=>simp at h1)
 refine aP Tp ?_
 try simp only[aI]
 show DW _ _ _ _ _
 refine aa Tp ?_
 refine cd ?_ ?_<;>intro c1
 .
  refine rgnP Tp [⟨2,3⟩] ?_;refine⟨(by trivial),_,_,λ_=>.inl rfl,Nat.le_refl _,?_,?_,by dsimp only;omega,λq q1 q2 q3=>?_⟩
  . dsimp only;simp only[upd];repeat (first|rfl|rw[if_neg (by omega)]|rw[if_pos rfl])
  . dsimp only;simp only[upd];repeat (first|rfl|rw[if_neg (by omega)]|rw[if_pos rfl])
  . dsimp only;simp only[upd];repeat (first|rfl|rw[if_neg q2]|rw[if_neg q3]|rw[if_neg (by omega)])
 . simp at c1
def Za1{y:Zon}{c:Chg}(hpy:dO y)(hc:gB c=true)(zc rs qc qd:Nat)(a:Str)(p:List PS)(hlp:lP p=y.sets)(hl:p.length<=90000)(FD : ∀x∈p,x.2.set.data.length<=8/\jT dZ x.2.set.data) :
  ∃f aD rest,([.v .nilFunc,.fn (.func 165) [] [.mptr qc 0 0],.fn (.func 170) [] [.mptr qc 0 0,.mptr qd 0 0],.fn (.func 174) [] [.mptr qc 0 0,.mptr qd 0 0],.fn (.func 175) [] [.mptr qc 0 0]]:List D).drop c.kind.toNat = .fn (.func f) [] aD::rest /\ ∀h n,ZM 24 84 57 zc rs a p h->h qc=some ⟨183,[[.mptr zc 0 0]]⟩->h qd=some ⟨138,[[.fn (.func 163) [] [.mptr qc 0 0]]]⟩->bU prog f ([]++[.agg c.set.d]++aD) h n (λd h' n'=>d = .tuple []/\ku 24 84 57 zc a (kJ y.sets c) h h' n n'):=by
 rcases Xi hc with k|k|k|k
 .
  have hso:=OA hc (.inl k);refine⟨165,[.mptr qc 0 0],_,by rw[k];rfl,λh n h1 h2 h3=>?_⟩
  have q:=Zbp c.set zc rs qc a p h n h1 h2 hl (λx hx=>by have:=(FD x hx).1;omega) (λx hx=>(FD x hx).2) hso.1.sorted (by have:=hso.1.len;omega) (by have:=hso.1.len;omega)
  rwa [hlp,ZkN hpy.zo (Cj hc) k]at q
 .
  have hso:=OA hc (.inr k);refine⟨170,[.mptr qc 0 0,.mptr qd 0 0],_,by rw[k];rfl,λh n h1 h2 h3=>?_⟩
  have q:=ZaJ c.set zc rs qc qd a p h n h1 h2 h3 (by omega) (λx hx=>by have:=(FD x hx).1;omega) (by have:=hso.1.len;omega)
  rwa [hlp,ZbM hpy.zo (Cj hc) k]at q
 .
  refine⟨174,[.mptr qc 0 0,.mptr qd 0 0],_,by rw[k];rfl,λh n h1 h2 h3=>?_⟩
  have q:=ZaL c.set zc rs qc qd a p h n h1 h2 h3 (by omega)
  rwa [hlp,ZcT hpy.zo (Cj hc) k]at q
 refine⟨175,[.mptr qc 0 0],_,by rw[k];rfl,λh n h1 h2 h3=>?_⟩
 have q:=ZaY c.set zc rs qc a p h n h1 h2 (by omega)
 rwa [Zgu (q:=λx=>!dU c.set.name x),hlp,ZfH k]at q
def bo50:dY prog 50=true:=by kernel_rfl
theorem PU(z:Zon)(l:List Chg)(h:H)(n:Nat)(hz:dO z)(hcs : ∀c∈l,gB c=true)(hll:l.length<=1000):bU prog 50 [.agg z.d,.list false (l.map Chg.d)] h n (λd h' n'=>((yM z l=none/\d = .tuple [.agg [.v (.string (bs [])),.list true []],.i 6]) \/ ∃y zc rs p,yM z l=some y/\d = .tuple [.agg [.v (.string (bs z.apex)),.mrow rs 0 p.length],.i 0]/\ZM 24 84 57 zc rs z.apex p h'/\lP p=y.sets/\zc<n'/\rs<n' /\ ∀x∈p,x.1<n') /\ ∀q b,q<n->h q=some b->b.ty≠84->b.ty≠57->h' q=some b):=by
 have ff:=True.intro
 refine Iy (C:=Tp) 1 func50 rfl bo50 (by simp[f50]) (by intro o ho;simp only[Ym,YZ,or_false]at ho;rcases ho with rfl|rfl|rfl<;>rfl) o5i o4l (dR rfl) rfl rfl o2x o4u o4l o3n o5i (λhnone=>?_)
 unfold f50
 refine aP Tp ?_
 try simp only[aI]
 show DW _ _ _ _ _
 have zlen:=hz.zo.len
 have ff:=qD (nH n (n+1)) (nH n (n+2)) (nH (n+1) (n+2)) ff
 refine ae (bJ Tp 1 (hct:=by exact Zbh z (by omega) (λs hs=>by have:=(hz.zo.ok s hs).len;omega) _ _) (hk:=?_))
 rintro res h2 n2 ⟨rs0,p0,rfl,d1,d2,d3,d4,d5,d6,d7,d8⟩
 try dsimp only at d5 d6 d7 d8
 have e1:h2 n=some ⟨24,[z.d]⟩:=by rw[d8 _ (by omega)];simp only[go_sem,ff]
 have e2:h2 (n+1)=some ⟨24,[[.v (.string (bs [])),.list true []]]⟩:=by rw[d8 _ (by omega)];simp only[go_sem,ff]
 have e3:h2 (n+2)=some ⟨35,[[.i 0]]⟩:=by rw[d8 _ (by omega)];simp only[go_sem,ff]
 have ff:=qD @e1 @e2 @e3 ff
 refine bI Tp ?_
 show DW _ _ _ _ _
 refine ae (bJ Tp 0 (hct:=by exact Za0 (n+1) _ _ o6b) (hk:=?_))
 rintro res hb nb ⟨rfl,g1,g2,g3,g4⟩
 try dsimp only at g1 g2 g3 g4
 refine bI Tp ?_
 show DW _ _ _ _ _
 refine ae ?_
 refine aa Tp ?_
 refine aj ?_
 refine ZiC λhq0 BM=>?_
 dsimp only at BM
 obtain⟨qc,hqc⟩:∃q,q=n2+3:=⟨_,rfl⟩
 obtain⟨qd,hqd⟩:∃q,q=n2+6:=⟨_,rfl⟩
 obtain⟨qa,hqa⟩:∃q,q=nb+1:=⟨_,rfl⟩
 simp only[Nat.add_assoc,Nat.reduceAdd]at BM g1 g2
 simp only[<-hqc,<-hqd,<-hqa]at BM g1 g2
 simp only[<-hqa]
 have w0 : ∀q,q<n2+3->hq0 q=upd h2 (n+1) (some ⟨24,[[.v (.string (bs z.apex)),.mrow rs0 0 p0.length]]⟩) q:=λq hq=>by rw[BM];simp only[upd];rw[XV (by omega),XV (by omega)];have:=g3 q (by omega);simpa[upd]using this
 have i0:hq0 n=some ⟨24,[z.d]⟩:=by rw[w0 n (by omega)];simp only[upd];rw[XV (by omega)];exact e1
 have i1:hq0 (n+1)=some ⟨24,[[.v (.string (bs z.apex)),.mrow rs0 0 p0.length]]⟩:=by rw[w0 (n+1) (by omega)];simp only[upd,Zn]
 have i2:hq0 (n+2)=some ⟨35,[[.i 0]]⟩:=by rw[w0 (n+2) (by omega)];simp only[upd];rw[XV (by omega)];exact e3
 have ic:hq0 qc=some ⟨183,[[.mptr (n+1) 0 0]]⟩:=by rw[BM];simp only[upd];rw[XV (by omega),XV (by omega)];exact g1
 have id9:hq0 qd=some ⟨138,[[.fn (.func 163) [] [.mptr qc 0 0]]]⟩:=by rw[BM];simp only[upd];rw[XV (by omega),XV (by omega)];exact g2
 have ia:hq0 qa=some ⟨181,[[.v .nilFunc,.fn (.func 165) [] [.mptr qc 0 0],.fn (.func 170) [] [.mptr qc 0 0,.mptr qd 0 0],.fn (.func 174) [] [.mptr qc 0 0,.mptr qd 0 0],.fn (.func 175) [] [.mptr qc 0 0]]]⟩:=by rw[BM];simp only[upd,Zn]
 have izm:ZM 24 84 57 (n+1) rs0 z.apex p0 hq0:=⟨i1,by rw[w0 rs0 (by omega)];simp only[upd];rw[XV (by omega)];exact d2,λx hx=>by have:=d5 x hx;rw[w0 x.1 (by omega)];simp only[upd];rw[XV (by omega)];exact d3 x hx,by omega,λx hx=>by have:=d5 x hx;exact⟨by omega,this.1⟩,d4,λx hx=>by have h9:x.2∈lP p0:=Yt.2 ⟨x,hx,rfl⟩;rw[d1]at h9;obtain⟨s9,_,e9⟩:=Yt.1 h9;rw[<-e9];rfl⟩
 have ilp:lP p0=z.sets:=by rw[d1,Zkp hz]
 have ifr : ∀q b,q<n->h q=some b->b.ty≠84->b.ty≠57->hq0 q=some b:=λq b q1 q2 _ _=>by rw[w0 q (by omega)];simp only[upd];rw[XV (by omega),d8 q (by omega)];simp only[upd];repeat (first|exact q2|rw[XV (by omega)])
 refine jm (α:=(Nat)×(Zon)×(Nat)×(List PS)×(H)×Nat) [2,4,5,13,14] (λ⟨k,y,rs,p,hq,nx⟩=>(k<=l.length)/\(tZ z l k=some y)/\(dO y)/\(y.apex=z.apex)/\(ZM 24 84 57 (n+1) rs z.apex p hq)/\(lP p=y.sets)/\(hq n=some ⟨24,[z.d]⟩)/\(hq (n+2)=some ⟨35,[[.i 0]]⟩)/\(hq qc=some ⟨183,[[.mptr (n+1) 0 0]]⟩)/\(hq qd=some ⟨138,[[.fn (.func 163) [] [.mptr qc 0 0]]]⟩)/\(hq qa=some ⟨181,[[.v .nilFunc,.fn (.func 165) [] [.mptr qc 0 0],.fn (.func 170) [] [.mptr qc 0 0,.mptr qd 0 0],.fn (.func 174) [] [.mptr qc 0 0,.mptr qd 0 0],.fn (.func 175) [] [.mptr qc 0 0]]]⟩)/\(∀q b,q<n->h q=some b->b.ty≠84->b.ty≠57->hq q=some b)/\(n+2<nx/\qc<nx/\qd<nx/\qa<nx)/\True) (λ⟨k,y,rs,p,hq,nx⟩=>l.length-k) (λ⟨k,y,rs,p,hq,nx⟩=>[(6,.mptr qa 0 0),(15,.i k)]) (λ⟨k,y,rs,p,hq,nx⟩=>hq) (λ⟨k,y,rs,p,hq,nx⟩=>nx) (0,z,rs0,p0,hq0,_) (hA:=⟨iv,rfl,hz,rfl,izm,ilp,i0,i2,ic,id9,ia,ifr,oW,trivial⟩) (round:=?_)
 rintro⟨k,y,rs,p,hq,nx⟩ ⟨hk,hs,hpy,Dy,uE,hlp,b0,b2,bc,bd,ba,hfr,hnx, -⟩
 show DW _ _ _ _ { n:=_,t:=tab _,h:=_,nx:=_,e:=_ }
 simp only[XY,X0]
 refine Zix λhno=>?_
 dsimp only at hno
 have zlt:=uE.lt hno
 have eU:=uE.r
 have hzz:=uE.z
 have hlen:p.length=y.sets.length:=by rw[<-hlp,mU]
 have ylen:=hpy.zo.len
 have hrz:=uE.zr
 have hr0:rs≠n:=λe=>by rw[e,b0]at eU;cases eU
 have hr2:rs≠n+2:=λe=>by rw[e,b2]at eU;cases eU
 have hrc:rs≠qc:=λe=>by rw[e,bc]at eU;cases eU
 have hrd:rs≠qd:=λe=>by rw[e,bd]at eU;cases eU
 have hra:rs≠qa:=λe=>by rw[e,ba]at eU;cases eU
 have hq1:qc≠n+1:=λe=>by rw[e,hzz]at bc;cases bc
 have hq2:qd≠n+1:=λe=>by rw[e,hzz]at bd;cases bd
 have hq3:qa≠n+1:=λe=>by rw[e,hzz]at ba;cases ba
 have FD : ∀x∈p,x.2.set.data.length<=8/\jT dZ x.2.set.data:=λx hx=>by have h9:x.2∈y.sets:=(by rw[<-hlp];exact Yt.2 ⟨x,hx,rfl⟩);have h8:=hpy.zo.ok _ h9;exact⟨h8.len.2,h8.sorted⟩
 have ff:=qE @b0 @b2 @bc @bd (qI @ba @eU @hzz (nH n (nx+3)) (nH (n+1) (nx+3)) (nH (n+2) (nx+3)) (nH (nx+3) qc) (nH (nx+3) qd) (qI (nH (nx+3) qa) (nH (nx+3) rs) (nH n rs) (nH (n+1) rs) (nH (n+2) rs) (nH qc rs) (nH qd rs) (nH qa rs) ff))
 refine aa Tp ?_
 refine ae ?_
 refine cd ?_ ?_ (hp:=rfl) (hq:=rfl)<;>intro c1
 .
  have hk2:k<l.length:=by simpa using c1
  have hc:gB l[k]! = true:=hcs _ (kV.2 ⟨k,hk2,rfl⟩);have ff:=qA (DI hk2) ff;refine ah ?_
  show DW _ _ _ _ _
  refine ae ?_;refine aj ?_;refine aa Tp ?_;refine ae ?_;refine aa Tp ?_;refine cd ?_ ?_<;>intro c2
  .
   refine sV ?_;refine Q5 (C:=Tp) 1 (by omega) (dR rfl) rfl rfl (by kernel_rfl) o2s o4l (by rfl) (by simp only[go_sem,ff];first|done|exact rfl) ?_
   refine DD Tp 2 (d:=.iface 178 (.agg [.i 6])) (t:=178) (v:=.agg #[.int .i64 6]) ?_ (λw g q hrq=>?_)
   .
    have Nc:=GK (by rw[GJ hs];exact Qh hpy hc (.inl (by rw[Dy];grind))) l.length (by omega)
    refine⟨_,_,_,rfl,rfl,PV (n+1) (n+2) _ _ _ _ (.i 0) o5i o5v 6 (by omega) o6b o6b,λh1 n1⟨w1,w2,w3,w4⟩=>?_⟩
    have ff:=qB w1 w2 ff;exact⟨by simp only[go_sem,ff],h1,n1,λ_=>.inl rfl,Nat.le_refl _,.inl ⟨Nc,by simp only[go_sem,ff]⟩,λq b q1 q2 q3 q4=>by rw[w4 q o6b (by omega) (by omega)];simp only[upd];repeat (first|exact hfr q b q1 q2 q3 q4|rw[if_neg (by omega)])⟩
   .
    cases hrq with|iface _ _ x hx =>
    cases hx with|agg _ vs BI yB =>
    obtain⟨vs⟩:=vs
    match vs,BI with
    | [y9],_ =>
     have:=yB 0 (.i 6) y9 rfl rfl
     cases this
     rfl
  .
   have c2 : ¬(l[k]!.kind=4/\l[k]!.set.name=y.apex):=by rw[Dy];grind
   refine ah ?_
   show DW _ _ _ _ _
   obtain⟨f9,cp9,rs9,hdr,hct9⟩:=Za1 hpy hc (n+1) rs qc qd z.apex p hlp (by omega) FD
   have hkd9:=Xi hc;rw[<-Nat.mul_one l[k]!.kind.toNat]at hdr;have ff:=qA @hdr ff;refine ae ?_;refine dr1 Tp 6 7 [] (hct:=by exact hct9 _ _ (uE.keep (λq hq9=>by have hqn:q<nx:=(by rcases hq9 with rfl|rfl|⟨x,hx,rfl⟩;omega;exact zlt.2.1;exact zlt.2.2 x hx);simp only[upd];repeat (first|rfl|rw[XV (by omega)]))) o5v o5v) (hkeep:=?_) (hk:=?_)
   . intro res h2 n2 _ q hq;cases hq
   rintro res h2 n2 ⟨rfl,hst⟩
   try dsimp only at hst
   obtain⟨rs2,p2,hz2,hl3,hkeep,hn2⟩:=hst;have g0:=hkeep n _ o5i o5z o5z (by omega)
   have g2:=hkeep (n+2) _ o5i o5z o5z (by omega)
   have gc:=hkeep qc _ o5i o5z o5z (by omega)
   have gd:=hkeep qd _ o5i o5z o5z (by omega)
   have ga:=hkeep qa _ o5i o5z o5z (by omega)
   have gt:=hkeep (nx+3) _ o5i o5z o5z (by omega)
   have hfr2 : ∀q b,q<n->h q=some b->b.ty≠84->b.ty≠57->h2 q=some b:=λq b q1 q2 q3 q4=>hkeep q b (by simp only[upd];repeat (first|exact hfr q b q1 q2 q3 q4|rw[XV (by omega)])) q3 q4 (by omega)
   have gz:=hz2.z;have gr:=hz2.r;have ff:=qH g0 g2 gc gd ga gz gr ff;refine aP Tp ?_
   try simp only[aI]
   have hsw:=hz2.snap;have yt:ji h2 (.agg [.v (.string (bs z.apex)),.mrow rs2 0 p2.length]) = .agg [.v (.string (bs z.apex)),.list false ((lP p2).map Sgd.d)]:=hsw.1;have ff:=qA @yt ff;refine aa uX ?_ (hok:=by(try simp only[go_sem,ff]);all_goals (first|done|((repeat' (with_reducible apply And.intro))<;>first|(intros;exact xE ⟨z.apex,lP p2⟩)|(intros;exact hsw.2)|exact(λrow hrow c hc=>by obtain⟨x,hx,rfl⟩:=Yt.1 hrow;exact(lQ (hz2.data x hx) 1).2 c hc)|rfl|skip)))
   refine cd ?_ ?_<;>intro c3
   .
    refine sV ?_;refine Q5 (C:=Tp) 1 (by omega) (dR rfl) rfl rfl (by kernel_rfl) o2s o4l (by rfl) (by simp only[go_sem,ff];first|done|exact rfl) ?_
    refine DD Tp 2 (d:=.iface 178 (.agg [.i 6])) (t:=178) (v:=.agg #[.int .i64 6]) ?_ (λw g q hrq=>?_)
    .
     have Nc:=GK (by rw[GJ hs];exact Qh hpy hc (.inr (by rw[<-hl3,Dy];exact c3))) l.length (by omega)
     refine⟨_,_,_,rfl,rfl,PV (n+1) (n+2) _ _ _ _ (.i 0) o5i o5v 6 (by omega) o6b o6b,λh1 n1⟨w1,w2,w3,w4⟩=>?_⟩
     have ff:=qB w1 w2 ff;exact⟨by simp only[go_sem,ff],h1,n1,λ_=>.inl rfl,Nat.le_refl _,.inl ⟨Nc,by simp only[go_sem,ff]⟩,λq b q1 q2 q3 q4=>by rw[w4 q o6b (by omega) (by omega)];exact hfr2 q b q1 q2 q3 q4⟩
    .
     cases hrq with|iface _ _ x hx =>
     cases hx with|agg _ vs BI yB =>
     obtain⟨vs⟩:=vs
     match vs,BI with
     | [y9],_ =>
      have:=yB 0 (.i 6) y9 rfl rfl
      cases this
      rfl
   .
    refine ah ?_
    show DW _ _ _ _ _
    have hzk:aJ ⟨y.apex,kJ y.sets l[k]!⟩=true:=by rw[<-hl3,Dy];exact c3
    have hstep:=ZbS hpy hc c2 hzk;have hpn:=(Lb hpy hc hstep).1;refine ai Tp ?_
    show ∃_,_
    exact ay (k+1,⟨y.apex,kJ y.sets l[k]!⟩,rs2,p2,h2,_) (h1:=⟨iv,(by(try dsimp only);rw[GJ hs];exact hstep),hpn,Dy,hz2,hl3,g0,g2,gc,gd,ga,hfr2,oW,trivial⟩)
 .
  have hk3:k=l.length:=by have : ¬k<l.length:=(by simpa using c1);omega
  subst hk3;refine aH ?_
  show DW _ _ _ _ _
  refine aa Tp ?_;refine aL ?_;refine⟨.returning,.returning,_,rfl,rfl,Zbl (n+1) (n+2) _ _,λh1 n1⟨w1,w2⟩=>?_⟩
  have v1:h1 (n+1)=some ⟨24,[[.v (.string (bs z.apex)),.mrow rs 0 p.length]]⟩:=by rw[w1 _ o6b];simp only[go_sem,ff]
  have v2:h1 (n+2)=some ⟨35,[[.i 0]]⟩:=by rw[w1 _ o6b];simp only[go_sem,ff]
  have ff:=qB v1 v2 ff;refine⟨by simp only[go_sem,ff],h1,n1,λ_=>.inl rfl,Nat.le_refl _,.inr ⟨y,n+1,rs,p,hs,by simp only[go_sem,ff],uE.keep (λq hq=>?_),hlp,by dsimp only at w2;omega,by dsimp only at w2;omega,λx hx=>by have:=zlt.2.2 x hx;dsimp only at w2;omega⟩,λq b q1 q2 q3 q4=>by rw[w1 q o6b];simp only[upd];repeat (first|exact hfr q b q1 q2 q3 q4|rw[if_neg (by omega)])⟩
  have hqn:q<nx:=by rcases hq with rfl|rfl|⟨x,hx,rfl⟩;omega;exact zlt.2.1;exact zlt.2.2 x hx
  have hq5:q≠n+2:=by rcases hq with rfl|rfl|⟨x,hx,rfl⟩;omega;exact hr2;intro e;have:=uE.d x hx;rw[e,b2]at this;cases this
  rw[w1 q o6b]
  simp only[upd];rw[XV hq5]
  by_cases e9:q=n+1
  . subst e9;simp only[Zn];rw[hzz]
  . simp only[XV e9]
def Zcv{td ts:TypeId}{h:H}{rs:Nat}{p:List PS}(hr:h rs=some ⟨ts,p.map rowP⟩)(hp : ∀x∈p,Ao td h x):ji h (.mrow rs 0 p.length) = .list false ((lP p).map Sgd.d)/\dP h 5 (.mrow rs 0 p.length):=by
 have hrw:aC (.mrow rs 0 p.length) h=p.map rowP:=by simp only[aC,hr,X6];exact Yl (by simp)
 refine⟨?_,?_⟩
 .
  show wk (snap h 5 (.mrow rs 0 p.length))=_
  rw[Go.Zon.snap_mrow,hrw];simp only[wk,Qw hp]
 refine⟨⟨by rw[hr];rfl,by rw[hrw];simp⟩,?_⟩
 rw[hrw]
 intro row hrow c hc
 obtain⟨x,hx,rfl⟩:=Yt.1 hrow
 exact(lQ (hp x hx) 2).2 c hc
def Zcw{td:TypeId}{h:H}{x:PS}(hx:Ao td h x):ji h (.agg (rowP x)) = .agg x.2.d/\dP h 5 (.agg (rowP x)):=by
 refine⟨?_,(lQ hx 2).2⟩
 have:=(lQ hx 3).1
 show wk (snap h 5 (.agg (rowP x)))=_
 rw[Go.Zon.snap_agg]
 simp only[wk,u6]
 rw[this]
def Zk4{h:H}{f:Fn}:ji h (.fn f [] []) = .fn f [] []:=rfl
def Zk3{h:H}{b:Bool}{l:List (List D)}:ji h (.list b l)=wk (.list b l):=rfl
attribute[go_sem]Zk4 Zk3
theorem VQ{y z:Zon}(hz:dO z)(hy:dO y)(ha:y.apex=z.apex):Ad z.sets y.sets=mG y z:=by
 unfold Ad mG
 rw[YL,XU,XW,XW,eF]
 constructor
 .
  rintro⟨h1,h2⟩;have hs:y.sets=z.sets:=by
   refine Di! h1.symm λi hi=>?_
   have h3:z.sets[i]!.set=y.sets[i]!.set:=YN (h2 i (Yi _) om);have h4:=hz.sig _ (eT (show i<z.sets.length by omega))
   have h5:=hy.sig _ (eT hi);exact Ls h3.symm (by rw[h4,h5])
  cases y;cases z
  simp only at ha hs;rw[ha,hs]
 rintro rfl
 exact⟨rfl,λi _ _=>YE rfl⟩
theorem Zdp{a b:Sgd}(ha:a.sigs=[])(hb:b.sigs=[]):decide (a.set=b.set)=lw b a:=by
 unfold lw
 rw[YL,XW,XW]
 exact⟨λh=>Ls h.symm (by rw[ha,hb]),λh=>by rw[h]⟩
theorem Qm{z:Zon}(h:dO z):dB z.sets ⟨z.apex,4⟩=true/\bz z.sets ⟨z.apex,4⟩<z.sets.length/\z.sets[bz z.sets ⟨z.apex,4⟩]! = gG z:=by
 have h1:=Ql h.ok
 have h2:=Gd h.zo.ord h.zo.nms (q:=⟨z.apex,4⟩) h.zo.apex
 have h3:fC z.sets ⟨z.apex,4⟩=some (gG z):=h1
 rw[h3]at h2
 cases hf:dB z.sets ⟨z.apex,4⟩with
 | false=>rw[hf]at h2;cases h2
 | true =>
  rw[hf,X3 rfl]at h2;exact⟨rfl,(JX h.zo.nms (q:=⟨z.apex,4⟩) h.zo.apex hf).1,(Zt h2).symm⟩
def Zj6{p:List PS}{a:Str}(hy:dO ⟨a,lP p⟩){ix:Nat}(hix:ix=bz (lP p) ⟨a,4⟩):ix<p.length/\p[ix]!.2=gG ⟨a,lP p⟩ /\ ∀r,lP (p.set ix (r,p[ix]!.2.withD [⟨[],wR p[ix]!.2.set.data[0]!.n,p[ix]!.2.set.data[0]!.m⟩]))=(OH ⟨a,lP p⟩).sets:=by
 obtain⟨h1,h2,h3⟩:=Qm hy
 simp only at h1 h2 h3
 rw[<-hix]at h2 h3
 rw[mU]at h2
 rw[Dl h2]at h3
 refine⟨h2,h3,λr=>?_⟩
 rw[Jc,Xq hy.ok]
 show(lP p).set ix _=jY (lP p) (sS _ _)
 have e:(p[ix]!.2.withD [⟨[],wR p[ix]!.2.set.data[0]!.n,p[ix]!.2.set.data[0]!.m⟩])=sS ⟨a,lP p⟩ (wR (dz ⟨a,lP p⟩)):=by
  rw[h3];rfl
 show(lP p).set ix (p[ix]!.2.withD [⟨[],wR p[ix]!.2.set.data[0]!.n,p[ix]!.2.set.data[0]!.m⟩])=_
 rw[e]
 refine Lv hy.ord (by rw[mU];exact h2) ?_
 rw[Dl h2,h3,Qn hy.ok]
 exact(xM hy.ok).2
theorem ZdN{p:List PS}{i:Nat}(hi:i<p.length){d:List Dat}(hd:p[i]!.2.set.data.length=d.length):(p.map rowP).set i (rowP (p[i]!.1,p[i]!.2.withD d))=p.map rowP:=by
 have e:rowP (p[i]!.1,p[i]!.2.withD d)=(p.map rowP)[i]'(by simpa using hi):=by
  rw[List.getElem_map,getElem!_pos p i hi];rw[getElem!_pos p i hi]at hd;simp only[rowP,Sgd.withD,hd]
 rw[e,List.set_getElem_self]
def Zbd(z:Zon)(zc rs:Nat)(p:List PS)(h:H)(n:Nat)(hz:dO z)(hy:dO (⟨z.apex,lP p⟩:Zon))(hm:ZM 24 84 57 zc rs z.apex p h):bU prog 51 [.agg z.d,.agg [.v (.string (bs z.apex)),.mrow rs 0 p.length]] h n (λd h' n'=>d = .tuple [] /\ ∃p',ZM 24 84 57 zc rs z.apex p' h'/\p'.length=p.length/\lP p'=(vX z (⟨z.apex,lP p⟩:Zon)).sets/\(∀q,q<n->q≠zc->q≠rs->(∀x∈p,q≠x.1)->h' q=h q)):=by
 refine oP func51 λhnone ff=>?_
 unfold f51
 have zlt:=hm.lt hnone
 have hzz:=hm.z
 have eU:=hm.r
 have zlen:=hz.zo.len
 have plen:p.length<=20000:=by have:(lP p).length<=20000:=hy.zo.len;rwa [mU]at this
 have hm2:ZM 24 84 57 zc rs z.apex p (upd (upd h n (some ⟨24,[[.v (.string (bs z.apex)),.list false (z.sets.map Sgd.d)]]⟩)) (n+1) (some ⟨24,[[.v (.string (bs z.apex)),.mrow rs 0 p.length]]⟩)):=(hm.fresh (hnone n (XX _))).fresh (by rw[aK _ _ _ _ (by omega)];exact hnone _ (by omega))
 obtain⟨iz,hiz⟩:∃q,q=bz z.sets ⟨z.apex,4⟩:=⟨_,rfl⟩
 obtain⟨ix,hix⟩:∃q,q=bz (lP p) ⟨z.apex,4⟩:=⟨_,rfl⟩
 obtain⟨s1,s2,s3⟩:=Qm hz
 rw[<-hiz]at s2 s3
 obtain⟨b1,b2,b3⟩:=Zj6 hy hix
 have hiz2:=hiz.symm
 have FM:=hix.symm
 have hrow:(p.map rowP).getD ix []=[.v (.string (bs p[ix]!.2.set.name)),.i p[ix]!.2.set.ty,.i p[ix]!.2.set.life,.mrow p[ix]!.1 0 p[ix]!.2.set.data.length,.list true []]:=LF b1
 have hxd:=hm.d p[ix]! (kS b1)
 have hxe:=hm.ne p[ix]! (kS b1)
 have hlr:(p.map rowP).length=p.length:=by simp
 have hxn:=zlt.2.2 p[ix]! (kS b1)
 obtain⟨sd1,sd2,sd3,_,_⟩:=Hy hy.ok
 rw[<-b2]at sd1
 have hdl:p[ix]!.2.set.data.length=1:=by rw[sd1];rfl
 have hd0:(p[ix]!.2.set.data.map Dat.d).getD 0 []=[.v (.string (bs [])),.i p[ix]!.2.set.data[0]!.n,.i p[ix]!.2.set.data[0]!.m]:=by rw[pG (by omega)];rw[sd1];rfl
 have hdn:p[ix]!.2.set.data[0]!.n=dz (⟨z.apex,lP p⟩:Zon):=by rw[sd1];rfl
 have hdn2:=hdn
 have hsw:=hm2.snap
 have yt:ji (upd (upd h n (some ⟨24,[[.v (.string (bs z.apex)),.list false (z.sets.map Sgd.d)]]⟩)) (n+1) (some ⟨24,[[.v (.string (bs z.apex)),.mrow rs 0 p.length]]⟩)) (.agg [.v (.string (bs z.apex)),.mrow rs 0 p.length]) = .agg [.v (.string (bs z.apex)),.list false ((lP p).map Sgd.d)]:=hsw.1
 have Dv:=Zcv hm2.r hm2.data
 have hsr1:=Dv.1
 have hso:=Zcw (hm2.data _ (kS b1))
 have hso1:ji (upd (upd h n (some ⟨24,[[.v (.string (bs z.apex)),.list false (z.sets.map Sgd.d)]]⟩)) (n+1) (some ⟨24,[[.v (.string (bs z.apex)),.mrow rs 0 p.length]]⟩)) (.agg [.v (.string (bs p[ix]!.2.set.name)),.i p[ix]!.2.set.ty,.i p[ix]!.2.set.life,.mrow p[ix]!.1 0 p[ix]!.2.set.data.length,.list true []]) = .agg [.v (.string (bs p[ix]!.2.set.name)),.i p[ix]!.2.set.ty,.i p[ix]!.2.set.life,.list false (p[ix]!.2.set.data.map Dat.d),.list false (p[ix]!.2.sigs.map RSig.d)]:=hso.1
 have hx5:(p[ix]!.1=rs)=False:=YO hxe.2
 have hx6:(rs=p[ix]!.1)=False:=YO (λe=>hxe.2 e.symm)
 have hgz:=dF s2
 have hss:ji (upd (upd h n (some ⟨24,[[.v (.string (bs z.apex)),.list false (z.sets.map Sgd.d)]]⟩)) (n+1) (some ⟨24,[[.v (.string (bs z.apex)),.mrow rs 0 p.length]]⟩)) (.agg [.v (.string (bs z.sets[iz]!.set.name)),.i z.sets[iz]!.set.ty,.i z.sets[iz]!.set.life,.list false (z.sets[iz]!.set.data.map Dat.d),.list false (z.sets[iz]!.sigs.map RSig.d)]) = .agg [.v (.string (bs z.sets[iz]!.set.name)),.i z.sets[iz]!.set.ty,.i z.sets[iz]!.set.life,.list false (z.sets[iz]!.set.data.map Dat.d),.list false (z.sets[iz]!.sigs.map RSig.d)]:=by simp only[ji,Go.Zon.snap_agg,X8,Yz,Go.Zon.snap_v,Go.Zon.snap_list,wk,eB,ui,En]
 have ff:=qG @hzz @eU @hiz2 @FM @hrow @hxd (qI @hlr @hd0 @yt @hss @hsr1 @hso1 (nH n (p[ix]!.1)) (nH (n+1) (p[ix]!.1)) (qI @hx5 @hx6 @hgz @s1 (nH n rs) (nH n zc) (nH (n+1) rs) (nH (n+1) zc) ff))
 refine aa Tp ?_
 refine oK uX (λc1=>?_) (λc1=>?_) (hok:=by(try simp only[go_sem,ff]);all_goals (first|done|((repeat' (with_reducible apply And.intro))<;>first|(intros;exact PQ z.sets (lP p) om (λs hs=>by have:=(hz.zo.ok s hs).len;omega))|exact(λrow hrow c hc=>by obtain⟨x,hx,rfl⟩:=Yt.1 hrow;exact(lQ (hm2.data x hx) 2).2 c hc)|(intros;exact Dv.2)|rfl|skip))) (hp:=rfl) (hq:=rfl)
 .
  refine aL ?_;refine cK (_) (hh:=λ_=>.inl rfl) (hr:=?_)
  try simp only[go_sem,ff]
  refine⟨p,hm2,rfl,?_,λq q1 q2 q3 q4=>?_⟩
  . unfold vX;rw[XV (by rw[<-VQ hz hy rfl,c1];simp)]
  simp only[upd];rw[XV (by omega),XV (by omega)]
 refine aa Tp ?_ (hok:=oH (by have h9:=sP z z.apex 4 (by omega);rw[<-hiz,s1]at h9;exact h9))
 refine aa uX ?_ (hok:=by(try simp only[go_sem,ff]);all_goals (first|done|((repeat' (with_reducible apply And.intro))<;>first|(intros;exact(by have h9:=sP ⟨z.apex,lP p⟩ z.apex 4 (by rw[mU];omega);rw[<-hix]at h9;exact h9))|exact(λrow hrow c hc=>by obtain⟨x,hx,rfl⟩:=Yt.1 hrow;exact(lQ (hm2.data x hx) 1).2 c hc)|(intros;exact hsw.2)|rfl|skip)))
 refine aa uX ?_ (hok:=by(try simp only[go_sem,ff]);all_goals (first|done|((repeat' (with_reducible apply And.intro))<;>first|(intros;exact KU z.sets[iz]! p[ix]!.2 (by have:=(hz.zo.ok _ (eT s2)).len;omega))|(intros;exact hso.2)|exact(λrow hrow c hc=>by obtain⟨x,hx,rfl⟩:=Yt.1 hrow;simp only[Dat.d,Ym,YZ,or_false]at hc;rcases hc with rfl|rfl|rfl<;>rfl)|(intros;exact(λrow hrow c hc=>by obtain⟨x,hx,rfl⟩:=Yt.1 hrow;simp only[Dat.d,Ym,YZ,or_false]at hc;rcases hc with rfl|rfl|rfl<;>rfl))|omega|(intros;omega)|rfl|skip)))
 refine cd ?_ ?_ (hp:=rfl) (hq:=rfl)<;>intro c2
 .
  refine aa Tp ?_;refine ai Tp ?_;refine cK (_) (hh:=λ_=>.inl rfl) (hr:=?_)
  try simp only[go_sem,ff]
  have hD:p[ix]!.2.set.data.map Dat.d=[[.v (.string (bs [])),.i p[ix]!.2.set.data[0]!.n,.i p[ix]!.2.set.data[0]!.m]]:=by rw[sd1];rfl
  refine⟨p.set ix (p[ix]!.1,p[ix]!.2.withD [⟨[],wR p[ix]!.2.set.data[0]!.n,p[ix]!.2.set.data[0]!.m⟩]),hm2.setD b1 _ ?_ ?_ ?_ (λx hx hne=>?_),by simp,?_,λq q1 q2 q3 q4=>?_⟩
  . exact aK _ _ _ _ (λe=>hxe.1 e.symm)
  . rw[aK _ _ _ _ (λe=>hxe.2 e.symm),ZdN b1 (by rw[hdl];rfl)];exact hm2.r
  . rw[bN,hD];rfl
  . exact aK _ _ _ _ hne
  .
   have k2:lw (gG (⟨z.apex,lP p⟩:Zon)) (gG z)=true:=(by rw[<-b2,<-s3,<-Zdp (hz.sig _ (eT s2)) (hm.sig _ (kS b1))];exact c2)
   rw[b3];unfold vX;rw[X3 ⟨(VQ hz hy rfl).symm.trans (by simpa using c1),k2⟩]
  have:=q4 p[ix]! (kS b1);simp only[upd];rw[XV this,XV (by omega),XV (by omega)]
 refine ah ?_
 refine cK (_) (hh:=λ_=>.inl rfl) (hr:=?_)
 try simp only[go_sem,ff]
 refine⟨p,hm2,rfl,?_,λq q1 q2 q3 q4=>?_⟩
 . unfold vX;rw[XV];rintro⟨k1,k2⟩;have k3:z.sets[iz]!.set=p[ix]!.2.set:=(by rw[s3,b2];rw[YN k2]);rw[YE k3]at c2;cases c2
 simp only[upd];rw[XV (by omega),XV (by omega)]
def Zbk{z:Zon}{l:List Chg}(hz:dO z)(hcs : ∀c∈l,gB c=true)(hll:l.length<=1000)(hn:yM z l=none)(h:H)(n:Nat):bU prog 50 [.agg z.d,.list false (l.map Chg.d)] h n (λd h' n'=>d = .tuple [.agg [.v (.string (bs [])),.list true []],.i 6] /\ ∀q b,q<n->h q=some b->b.ty≠84->b.ty≠57->h' q=some b) :=
 (PU z l h n hz hcs hll).mono λd h' n'⟨h1,h2⟩=>by
  rcases h1 with⟨_,e⟩|⟨y,zc,rs,p,hs,_⟩
  . exact⟨e,h2⟩
  rw[hn]at hs;cases hs
def Zbj{z y:Zon}{l:List Chg}(hz:dO z)(hcs : ∀c∈l,gB c=true)(hll:l.length<=1000)(hy:yM z l=some y)(h:H)(n:Nat):bU prog 50 [.agg z.d,.list false (l.map Chg.d)] h n (λd h' n'=>∃zc rs p,d = .tuple [.agg [.v (.string (bs z.apex)),.mrow rs 0 p.length],.i 0]/\ZM 24 84 57 zc rs z.apex p h'/\lP p=y.sets/\zc<n'/\rs<n'/\(∀x∈p,x.1<n') /\ ∀q b,q<n->h q=some b->b.ty≠84->b.ty≠57->h' q=some b) :=
 (PU z l h n hz hcs hll).mono λd h' n'⟨h1,h2⟩=>by
  rcases h1 with⟨hs,_⟩|⟨y',zc,rs,p,hs,e,k1,k2,k3,k4,k5⟩
  . rw[hy]at hs;cases hs
  rw[hy]at hs
  cases hs
  exact⟨zc,rs,p,e,k1,k2,k3,k4,k5,h2⟩
def PK{n a:Str}(hn:az n=true)(ha:az a=true):kC n a=iq n a:=ZaV hn ha
theorem upz_1{z:Zon}{u:Upd}(h:aJ z=false\/jU u=false):fJ z u=(dH,1):=by unfold fJ;rw[X3 h]
theorem upz_2{z:Zon}{u:Upd}(h1:aJ z=true)(h2:jU u=true)(h:jG z=false):fJ z u=(dH,12):=by
 unfold fJ;rw[XV (by rw[h1,h2];simp),X3 h]
theorem PE{z:Zon}{u:Upd}(h1:aJ z=true)(h2:jU u=true)(h3:jG z=true)(h:kP z u.needs=true\/kP z u.chgs=true):fJ z u=(dH,20):=by
 unfold fJ;rw[XV (by rw[h1,h2];simp),XV (by rw[h3];simp),X3 h]
theorem upz_4{z:Zon}{u:Upd}(h1:aJ z=true)(h2:jU u=true)(h3:jG z=true)(h4 : ¬(kP z u.needs=true\/kP z u.chgs=true))(h:wS z u.needs=false):fJ z u=(dH,24):=by
 unfold fJ;rw[XV (by rw[h1,h2];simp),XV (by rw[h3];simp),XV h4,X3 h]
def upz_5{z:Zon}{u:Upd}(h1:aJ z=true)(h2:jU u=true)(h3:jG z=true)(h4 : ¬(kP z u.needs=true\/kP z u.chgs=true))(h5:wS z u.needs=true)(h:yM z u.chgs=none):fJ z u=(dH,6):=by
 unfold fJ;rw[XV (by rw[h1,h2];simp),XV (by rw[h3];simp),XV h4,XV (by rw[h5];simp),h]
def upz_6{z y:Zon}{u:Upd}(h1:aJ z=true)(h2:jU u=true)(h3:jG z=true)(h4 : ¬(kP z u.needs=true\/kP z u.chgs=true))(h5:wS z u.needs=true)(h:yM z u.chgs=some y):fJ z u=(vX z y,0):=by
 unfold fJ;rw[XV (by rw[h1,h2];simp),XV (by rw[h3];simp),XV h4,XV (by rw[h5];simp),h]
def Zhq{z:Zon}(h:aJ z=true)(hz:oh z){n:Chg}(hn:az n.set.name=true):qM z n=holdB z n:=by
 have key:dB z.sets n.q=decide (0<=dQ z.sets n.q):=JY hz (by exact hn)
 have key2:0<=dQ z.sets n.q->z.sets[bz z.sets n.q]! = z.sets[(dQ z.sets n.q).toNat]! := VI hz (by exact hn)
 unfold qM holdB
 by_cases h1:n.kind=1
 . simp[h1,TB]
 by_cases h2:n.kind=2
 . simp[h2,TB]
 rw[XV (by omega),XV h1,XV h2]
 by_cases h3:n.kind=3
 . simp[h3,key]
 rw[XV h3]
 by_cases h4:n.kind=4
 . rw[X3 h4,X3 h4,key,YL];simp
 rw[XV h4,XV h4,key]
 by_cases h0:0<=dQ z.sets n.q
 . simp[h0,h3,key2 h0]
 simp[h0]
def Tx{n:Chg}(h:jf n=true):az n.set.name=true:=by
 unfold jf at h
 rw[XU]at h
 exact h.1
theorem WS{z:Zon}{l:List Chg}{k:Nat}(hk:k<l.length)(h:iq l[k]!.set.name z.apex=false):kP z l=true:=by
 unfold kP
 rw[Yb,Bool.eq_false_iff,Ne,eF]
 intro q
 have:iq l[k]!.set.name z.apex=true:=q k (Yi _) hk
 rw[h]at this;cases this
def WR{z:Zon}{l:List Chg}(h:aA l.length (λi=>iq l[i]!.set.name z.apex) 0=true):kP z l=false:=by
 unfold kP;rw[h];rfl
theorem ZjL{z y:Zon}(hz:dO y)(ha:y.apex=z.apex):vX z y=⟨z.apex,(vX z y).sets⟩:=by
 obtain⟨m,_,_,e⟩:=WY (z:=z) hz
 rw[e]
 show sM y m=⟨z.apex,(sM y m).sets⟩
 rw[<-ha]
 rfl
def Zbo(z:Zon)(u:Upd):PureCt prog 16 [.agg z.d,.agg u.d] (.tuple [.agg (fJ z u).1.d,.i (fJ z u).2]):=by
 refine oO func16 λff=>?_
 unfold f16
 refine aa Tp ?_
 refine oK Tp ?_ ?_ (hok:=oI (ZaI u) (xE z))<;>intro c1
 . refine aa Tp ?_;exact fo 6 (k:=by rw[upz_1 (by grind)];rfl)
 have hz:aJ z=true:=by grind
 have hu:jU u=true:=by grind
 have zo:=lM hz
 have zlen:=zo.len
 have hnl:=ZaP hu
 have hcl:=KV hu
 have Dt:u.needs.length<=20/\u.chgs.length<=20:=by have h9:=hu;simp only[jU,XU,XW]at h9;exact h9.1.1
 refine oK Tp ?_ ?_ (hok:=oH (ZaN z om))<;>intro c2
 . refine aa Tp ?_;exact fo 6 (k:=by rw[upz_2 hz hu c2];rfl)
 have hpl:jG z=true:=by grind
 have hpz:=dO.mk' hz hpl
 refine ae ?_
 refine aa Tp ?_
 refine aj ?_
 refine lp (α:=(Nat)×Nat) [2,3,4,28,29] (λ⟨k,nx⟩=>(k<=u.needs.length)/\(aA u.needs.length ((λi=>iq u.needs[i]!.set.name z.apex)) 0=aA u.needs.length ((λi=>iq u.needs[i]!.set.name z.apex)) k)/\(2<nx)/\True) (λ⟨k,nx⟩=>u.needs.length-k) (λ⟨k,nx⟩=>[(30,.i k)]) (λ⟨k,nx⟩=>[(0,⟨24,[z.d]⟩),(1,⟨68,[u.d]⟩),(2,⟨24,[[.v (.string (bs [])),.list true []]]⟩)]) (λ⟨k,nx⟩=>nx) (0,_) (hA:=⟨iv,rfl,iv,trivial⟩) (round:=?_)
 rintro⟨k,nx⟩ ⟨hk,hv1,hx, -⟩
 simp only[XY,X0]
 have ff:=qA @hx ff
 refine aa Tp ?_
 refine ae ?_
 refine cd ?_ ?_ (hp:=rfl)<;>intro c3
 .
  have hk2:k<u.needs.length:=by simpa using c3
  have Fz:=PK (Tx (hnl _ (eT hk2))) zo.apex;have ff:=qB (DI hk2) @Fz ff;refine ah ?_;refine ae ?_;refine aj ?_;refine aa Tp ?_;refine aa Tp ?_ (hok:=oH (by have h9:=Pz u.needs[k]!.set.name z.apex;rw[Fz]at h9;exact h9))
  refine cd ?_ ?_<;>intro c4
  . refine aa Tp ?_;exact fo 6 (k:=by rw[PE hz hu hpl (.inl (WS hk2 c4))];rfl)
  refine ah ?_;refine ai Tp ?_
  show ∃_,_
  have h8:((λi=>iq u.needs[i]!.set.name z.apex)) k=true:=by simpa using c4
  exact ay (k+1,_) (h1:=⟨iv,o4y,iv,trivial⟩)
 have hk3:k=u.needs.length:=by omega
 subst hk3
 have hcut1:kP z u.needs=false:=WR (by rw[hv1,ib (by omega)])
 refine aH ?_
 refine ae ?_
 refine aa Tp ?_
 refine aj ?_
 refine lp (α:=(Nat)×Nat) [2,3,4,44,45] (λ⟨k,nx⟩=>(k<=u.chgs.length)/\(aA u.chgs.length ((λi=>iq u.chgs[i]!.set.name z.apex)) 0=aA u.chgs.length ((λi=>iq u.chgs[i]!.set.name z.apex)) k)/\(2<nx)/\True) (λ⟨k,nx⟩=>u.chgs.length-k) (λ⟨k,nx⟩=>[(46,.i k)]) (λ⟨k,nx⟩=>[(0,⟨24,[z.d]⟩),(1,⟨68,[u.d]⟩),(2,⟨24,[[.v (.string (bs [])),.list true []]]⟩)]) (λ⟨k,nx⟩=>nx) (0,_) (hA:=⟨iv,rfl,iv,trivial⟩) (round:=?_)
 rintro⟨k,nx⟩ ⟨hk,hv2,hx, -⟩
 simp only[XY,X0]
 have ff:=qA @hx ff
 refine aa Tp ?_
 refine ae ?_
 refine cd ?_ ?_ (hp:=rfl)<;>intro c5
 .
  have hk2:k<u.chgs.length:=by simpa using c5
  have Fz:=PK (Cj (hcl _ (eT hk2))) zo.apex;have ff:=qB (DI hk2) @Fz ff;refine ah ?_;refine ae ?_;refine aj ?_;refine aa Tp ?_;refine aa Tp ?_ (hok:=oH (by have h9:=Pz u.chgs[k]!.set.name z.apex;rw[Fz]at h9;exact h9))
  refine cd ?_ ?_<;>intro c6
  . refine aa Tp ?_;exact fo 6 (k:=by rw[PE hz hu hpl (.inr (WS hk2 c6))];rfl)
  refine ah ?_;refine ai Tp ?_
  show ∃_,_
  have h8:((λi=>iq u.chgs[i]!.set.name z.apex)) k=true:=by simpa using c6
  exact ay (k+1,_) (h1:=⟨iv,(by(try dsimp only);rw[hv2,bG hk2 h8]),iv,trivial⟩)
 have hk3:k=u.chgs.length:=by omega
 subst hk3
 have hcut2:kP z u.chgs=false:=WR (by rw[hv2,ib (by omega)])
 have hcut : ¬(kP z u.needs=true\/kP z u.chgs=true):=by rw[hcut1,hcut2];simp
 refine aH ?_
 refine ae ?_
 refine aa Tp ?_
 refine aj ?_
 refine lp (α:=(Nat)×Nat) [2,3,4,60,61] (λ⟨k,nx⟩=>(k<=u.needs.length)/\(aA u.needs.length ((λi=>holdB z u.needs[i]!)) 0=aA u.needs.length ((λi=>holdB z u.needs[i]!)) k)/\(2<nx)/\True) (λ⟨k,nx⟩=>u.needs.length-k) (λ⟨k,nx⟩=>[(62,.i k)]) (λ⟨k,nx⟩=>[(0,⟨24,[z.d]⟩),(1,⟨68,[u.d]⟩),(2,⟨24,[[.v (.string (bs [])),.list true []]]⟩)]) (λ⟨k,nx⟩=>nx) (0,_) (hA:=⟨iv,rfl,iv,trivial⟩) (round:=?_)
 rintro⟨k,nx⟩ ⟨hk,hv3,hx, -⟩
 simp only[XY,X0]
 have ff:=qA @hx ff
 refine aa Tp ?_
 refine ae ?_
 refine cd ?_ ?_ (hp:=rfl)<;>intro c7
 .
  have hk2:k<u.needs.length:=by simpa using c7
  have hhp:=Zhq hz zo (Tx (hnl _ (eT hk2)));have ff:=qB (DI hk2) @hhp ff;refine ah ?_;refine ae ?_;refine aj ?_;refine aa Tp ?_;refine aa Tp ?_ (hok:=oH (by have h9:=Za7 z u.needs[k]! (by omega) (λs hs=>by have:=(zo.ok s hs).len;omega);rw[hhp]at h9;exact h9))
  refine cd ?_ ?_<;>intro c8
  . refine aa Tp ?_;exact fo 6 (k:=by rw[upz_4 hz hu hpl hcut (by unfold wS;rw[hv3];exact eO (p:=(λi=>holdB z u.needs[i]!)) hk2 c8)];rfl)
  refine ah ?_;refine ai Tp ?_
  show ∃_,_
  have h8:((λi=>holdB z u.needs[i]!)) k=true:=by simpa using c8
  exact ay (k+1,_) (h1:=⟨iv,(by(try dsimp only);rw[hv3,bG hk2 h8]),iv,trivial⟩)
 have hk3:k=u.needs.length:=by omega
 subst hk3
 have U9:wS z u.needs=true:=by unfold wS;rw[hv3,ib (by omega)]
 refine aH ?_
 rcases hcr:yM z u.chgs with _|y
 .
  have hfin:=upz_5 hz hu hpl hcut U9 hcr;refine ae (bJ Tp 3 (hct:=by exact Zbk hpz hcl om hcr _ _) (hk:=?_))
  rintro res h2 n2 ⟨rfl,hfr⟩
  try dsimp only at hfr
  have k0:=hfr 0 _ (by omega) ev o5z o5z
  have k2:=hfr 2 _ (by omega) ev o5z o5z
  have ff:=qB @k0 @k2 ff;refine bI Tp ?_;refine ae ?_;refine aa Tp ?_;refine cd ?_ ?_ (hp:=rfl) (hq:=rfl)<;>intro c9
  . refine aa Tp ?_;exact fo 6 (k:=by rw[hfin];rfl)
  exfalso;simp at c9
 have hfin:=upz_6 hz hu hpl hcut U9 hcr
 have hp0:=Ku hpz hcl _ _ (XX _) hcr
 refine ae (bJ Tp 3 (hct:=by exact Zbj hpz hcl om hcr _ _) (hk:=?_))
 rintro res h2 n2 ⟨zc,rs,p,rfl,uE,hlp,z1,z2,z3,hfr⟩
 try dsimp only at hfr
 have k0:=hfr 0 _ (by omega) ev o5z o5z
 have k2:=hfr 2 _ (by omega) ev o5z o5z
 have ff:=qB @k0 @k2 ff
 refine bI Tp ?_
 refine oK Tp ?_ ?_ (hp:=rfl) (hq:=rfl)<;>intro c9
 . exfalso;simp at c9
 have hy9:(⟨z.apex,lP p⟩:Zon)=y:=by rw[hlp,<-hp0.2]
 have hyp:dO ⟨z.apex,lP p⟩:=by rw[hy9];exact hp0.1
 refine ae (bJ Tp 2 (hct:=by exact Zbd z zc rs p _ _ hpz hyp (uE.keep (λq hq9=>by have hqn:q<n2:=(by rcases hq9 with rfl|rfl|⟨x,hx,rfl⟩;exact z1;exact z2;exact z3 x hx);simp only[upd];repeat (first|rfl|rw[XV (by omega)])))) (hk:=?_))
 rintro res h3 n3 ⟨rfl,p2,hm2,hl2,hc2,hf2⟩
 try dsimp only at hf2
 have n2a:zc≠2:=λe=>by have h9:=uE.z;rw[e,k2]at h9;simp at h9
 have n2b:rs≠2:=λe=>by have h9:=uE.r;rw[e,k2]at h9;simp at h9
 have n2c : ∀x∈p,x.1≠2:=λx hx e=>by have h9:=uE.d x hx;rw[e,k2]at h9;simp at h9
 have m2:h3 2=some ⟨24,[[.v (.string (bs [])),.list true []]]⟩:=by rw[hf2 2 (by omega) n2a.symm n2b.symm (λx hx e=>n2c x hx e.symm)];simp only[upd];repeat (first|exact k2|rw[XV (by omega)])
 have m7:h3 (n2+7)=some ⟨24,[[.v (.string (bs z.apex)),.mrow rs 0 p.length]]⟩:=by rw[hf2 (n2+7) (by omega) (by omega) (by omega) (λx hx e=>by have:=z3 x hx;omega)];simp only[upd];repeat (first|rfl|rw[XV (by omega)]|rw[X3 rfl])
 have U5 : ∀(H9:H)(d:D),(∀q,q≠2->H9 q=h3 q)->d = .tuple [.agg [.v (.string (bs z.apex)),.mrow rs 0 p.length],.i 0]->wk (Go.DL.snap H9 6 d) = .tuple [.agg (fJ z u).1.d,.i (fJ z u).2]/\dP H9 6 d:=by
  rintro H9 d hH rfl;have tO:ZM 24 84 57 zc rs z.apex p2 H9:=hm2.keep (λq hq=>hH q (by rcases hq with rfl|rfl|⟨x,hx,rfl⟩;exact n2a;exact n2b;exact λe=>by have h9:=hm2.d x hx;rw[e,m2]at h9;simp at h9))
  have hs:=tO.snap;rw[hl2]at hs;rw[hfin,ZjL hp0.1 hp0.2];refine⟨?_,?_⟩
  .
   show D.tuple [wk (Go.DL.snap H9 5 (.agg [.v (.string (bs z.apex)),.mrow rs 0 p.length])),_]=_
   rw[hs.1,hc2,hy9];rfl
  intro c hc;simp only[Ym,YZ,or_false]at hc
  rcases hc with rfl|rfl
  . exact hs.2
  rfl
 have ff:=qB @m2 @m7 ff
 refine bI Tp ?_
 refine aa Tp ?_
 refine aL ?_
 refine fin 6 (hr:=?_) (hk:=?_)
 . exact(U5 _ _ (λq hq=>aK _ _ _ _ hq) o5v).1
 exact(U5 _ _ (λq hq=>aK _ _ _ _ hq) o5v).2
def Rh(z:Zon)(hl:z.sets.length<=1000000):PureCt prog 20 [.agg z.d] (.b (jG z)):=by
 refine oO func20 λff=>?_
 unfold f20
 refine aa Tp ?_
 refine ae ?_
 refine aa Tp ?_
 refine aj ?_
 refine lp (α:=(Nat)×Nat) [1] (λ⟨k,nx⟩=>(k<=z.sets.length)/\(aA z.sets.length ((xR z.sets)) 0=aA z.sets.length ((xR z.sets)) k)/\(0<nx)/\True) (λ⟨k,nx⟩=>z.sets.length-k) (λ⟨k,nx⟩=>[(3,.i k)]) (λ⟨k,nx⟩=>[(0,⟨24,[z.d]⟩)]) (λ⟨k,nx⟩=>nx) (0,_) (hA:=⟨iv,rfl,iv,trivial⟩) (round:=?_)
 rintro⟨k,nx⟩ ⟨hk,hv,hx, -⟩
 simp only[XY,X0]
 have ff:=qA @hx ff
 refine oL Tp ?_ ?_ (hp:=rfl)<;>intro c1
 .
  have hk2:k<z.sets.length:=by simpa using c1
  have ff:=qA (dF hk2) ff;refine ae ?_;refine aj ?_;refine aa Tp ?_;refine cd ?_ ?_<;>intro c2
  . refine aa Tp ?_;exact fo 0 (k:=by have hF:(xR z.sets) k=false:=(by simp only[xR];grind);simp only[jG];rw[hv,eO hk2 hF])
  refine ah ?_;refine ai Tp ?_
  show ∃_,_
  have h8:((xR z.sets)) k=true:=by simp only[xR];grind
  exact ay (k+1,_) (h1:=⟨iv,o5b,iv,trivial⟩)
 refine aH ?_
 refine aa Tp ?_
 exact fo 0 (k:=by simp only[jG];rw[hv,ib (by omega)])
open Go.Jn
def bo6:dY prog 6=true:=by kernel_rfl
def Rn(z:Zon)(l:List Upd):PureCt prog 6 [.agg z.d,.list false (l.map Upd.d)] (.b (xn z l)):=by
 refine xP func6 rfl bo6 o5r (by simp[Tryz.f6]) ?_
 unfold Tryz.f6
 simp only[zS]
 have ff:=True.intro
 refine aa Tp ?_
 refine ae ?_
 refine aa Tp ?_ (hok:=by(try simp only[go_sem,ff]);all_goals (first|done|((repeat' (with_reducible apply And.intro))<;>first|(intros;exact RQ z)|exact(λ_=>IA z)|exact(λh=>Rh z (VK (by grind)).1)|omega|(intro h;simp only[Bool.and_eq_true,decide_eq_true_eq]at h;omega)|(intros;omega)|(intros;simp_all;done)|skip)))
 refine cd ?_ ?_<;>intro c1
 . refine aa Tp ?_;refine aL ?_;exact fin 0 (hr:=by(try simp only[go_sem,ff]);all_goals (rw[Zif (by grind)]))
 .
  have hf1:vU z=true:=by grind
  have hf2:jl z=true:=by grind
  have hf3:jG z=true:=by grind
  have hf4:l.length<=6:=by omega
  refine ah ?_
  show DW _ _ _ _ _
  refine ae ?_;refine aa Tp ?_;refine aj ?_;refine lp (α:=(Nat)×Nat) [25,26] (λ⟨k,nx⟩=>(k<=l.length)/\(aA l.length ((λi=>decide (l[i]!.needs.length<=10)&&decide (l[i]!.chgs.length<=10))) 0=aA l.length ((λi=>decide (l[i]!.needs.length<=10)&&decide (l[i]!.chgs.length<=10))) k)/\(0<nx)/\True) (λ⟨k,nx⟩=>l.length-k) (λ⟨k,nx⟩=>[(27,.i k)]) (λ⟨k,nx⟩=>[(0,⟨24,[z.d]⟩)]) (λ⟨k,nx⟩=>nx) (0,_) (hA:=⟨iv,rfl,iv,trivial⟩) (round:=?_)
  rintro⟨k,nx⟩ ⟨hk,hv,hx, -⟩
  show DW _ _ _ _ { n:=_,t:=tab _,h:=_,nx:=_,e:=_ }
  simp only[XY,X0];have ff:=qA @hx ff;refine aa Tp ?_;refine ae ?_;refine cd ?_ ?_ (hp:=rfl)<;>intro c2
  .
   have hk2:k<l.length:=by simpa using c2
   have ff:=qA (getD_upd hk2) ff;refine ah ?_
   show DW _ _ _ _ _
   refine ae ?_;refine aj ?_;refine aa Tp ?_;refine aa Tp ?_;refine cd ?_ ?_<;>intro c3
   . refine aa Tp ?_;refine aL ?_;exact fin 0 (hr:=by(try simp only[go_sem,ff]);all_goals (have hF:(λi=>decide (l[i]!.needs.length<=10)&&decide (l[i]!.chgs.length<=10)) k=false:=(by simp only[Yy,X4];omega);unfold xn;rw[hf1,hf2,hf3,YE hf4,hv,eO hk2 hF];rfl))
   .
    refine ah ?_
    show DW _ _ _ _ _
    refine ai Tp ?_
    show ∃_,_
    have h8:((λi=>decide (l[i]!.needs.length<=10)&&decide (l[i]!.chgs.length<=10))) k=true:=by simp only[XU,XW];omega
    exact ay (k+1,_) (h1:=⟨iv,o5b,iv,trivial⟩)
  .
   have e8:k=l.length:=by omega
   subst e8;refine aH ?_
   show DW _ _ _ _ _
   refine aa Tp ?_;refine aL ?_;exact fin 0 (hr:=by(try simp only[go_sem,ff]);all_goals (unfold xn;rw[hf1,hf2,hf3,YE hf4,hv,ib (by omega)];rfl))
@[go_sem]theorem all_zon9{l:List Zon}:(∀r∈l.map Zon.d,r.length=2)=True:=by
 apply eq_true
 intro r hr
 obtain⟨x,_,rfl⟩:=Yt.1 hr
 rfl
def dw_nh{ro:Option Nat}{c:Code}{Q:Exit->S->Prop}{s:S}(k : ∀hz,hz=s.h->DW prog ro c Q { n:=s.n,t:=s.t,h:=hz,nx:=s.nx,ok:=s.ok,e:=s.e }):DW prog ro c Q s:=k s.h rfl
@[go_sem]theorem keysOk_I{m:List Int}:kL prog 3 (yg m)=true:=by
 induction m with
 | nil=>rfl
 | cons a m ih=>rw[Jd];simp only[kL,ih,ko3,ZH]
def EL{z:Zon}(h:aJ z=true):PureCt prog 21 [.agg z.d] (.i (dz z)):=by
 have hr:jl z=true:=by rw[<-sK];exact h
 exact Zee z (by have:=Rx hr;omega) (EP hr) (Ry hr)
def Hg{z y:Zon}{u:Upd}{e:Int}(h:fJ z u=(y,e)):PureCt prog 16 [.agg z.d,.agg u.d] (.tuple [.agg y.d,.i e]):=by
 have:=Zbo z u
 rwa [h]at this
def Uc{a b:Int}(ha:iB a=true)(hb:iB b=true):PureCt prog 22 [.i a,.i b] (.tuple [.b (gZ a b),.i 0]):=by
 have:=Wn a b
 unfold mO at this
 rwa [ha,hb]at this
theorem zf{z:Zon}(h:aJ z=true):iB (dz z)=true:=by rw[<-AU h];exact ze h
def PH{z y:Zon}{u:Upd}{e:Int}(h:fJ z u=(y,e)):fO y.sets:=by
 by_cases he:e=0
 . subst he;obtain⟨y0,m⟩:=Ep h;exact sJ m.plain.1.ok
 rw[ZaR h he]
 exact⟨by decide,λk hk=>absurd hk (Nat.not_lt_zero k)⟩
def bo7:dY prog 7=true:=by kernel_rfl
set_option maxHeartbeats 1000000 in
def Zdy(z:Zon)(l:List Upd)(hz:dO z)(hl:z.sets.length<=100)(Dx:l.length<=6)(hc : ∀i,i<l.length->l[i]!.chgs.length<=10):PureCt prog 7 [.agg z.d,.list false (l.map Upd.d)] (.tuple [.list false ((nz z l).1.map Zon.d),.b (nz z l).2]):=by
 refine xP func7 rfl bo7 o5r (by simp[Tryz.f7]) ?_
 unfold Tryz.f7
 simp only[zS]
 have ff:=True.intro
 refine aa Tp ?_
 refine aa Tp ?_
 have h1:=EL hz.ok
 simp only[go_sem]at h1
 refine aa Tp ?_ (hok:=by(try simp only[go_sem,ff]);all_goals (first|done|((repeat' (with_reducible apply And.intro))<;>first|(intros;exact h1)|rfl|skip)))
 refine ae ?_
 refine aa Tp ?_
 refine aj ?_
 refine dw_nh (λhw9 hwe=>?_)
 dsimp only at hwe ⊢
 have h0m:hw9 6=some ⟨71,iY (yg ([z].map dz))⟩:=by rw[hwe];simp only[go_sem,ff];first|done|exact rfl
 refine jm (α:=(Nat)×(List Zon)×(D)×(H)×Nat) [7,23,24] (λ⟨k,o,x9,hq,nx⟩=>(k<=l.length)/\(mD z l k=some o)/\(IsV 6 24 hq x9 o nx)/\(hq 6=some ⟨71,iY (yg (o.map dz))⟩)/\(6<nx)/\True) (λ⟨k,o,x9,hq,nx⟩=>l.length-k) (λ⟨k,o,x9,hq,nx⟩=>[(6,x9),(25,.i k)]) (λ⟨k,o,x9,hq,nx⟩=>hq) (λ⟨k,o,x9,hq,nx⟩=>nx) (0,[z],.list true [[.v (.string (bs z.apex)),.list false (z.sets.map Sgd.d)]],hw9,_) (hA:=⟨iv,rfl,(.inl rfl),h0m,oW,trivial⟩) (round:=?_)
 rintro⟨k,o,x9,hq,nx⟩ ⟨hk,hv,hI,hm,BJ, -⟩
 show DW _ _ _ _ { n:=_,t:=tab _,h:=_,nx:=_,e:=_ }
 simp only[XY,X0]
 obtain⟨hP,hol⟩:=KR hz hl hc k o hk hv
 have hlast:o.length-1<o.length:=by have:=hP.ne;omega
 have hLz:=(hP.pl _ hlast).ok
 have e1:((o.length:Int)-1).toNat=o.length-1:=by omega
 have ff:=qE @hm @e1 (rY hlast) (nG 6 nx) ff
 refine aa Tp ?_
 refine ae ?_
 refine cd ?_ ?_ (hp:=rfl)<;>intro c1
 .
  have hk2:k<l.length:=by simpa using c1
  have ff:=qA (getD_upd hk2) ff;refine ah ?_
  show DW _ _ _ _ _
  refine ae ?_;refine aj ?_;have hk2:k<l.length:=by simpa using c1
  refine aa Tp ?_
  rcases hI with rfl|⟨r,rfl,hr,hr0,hrx⟩
  .
   refine aa Tp ?_
   rcases hy:fJ o[o.length-1]! l[k]! with⟨y,e⟩
   have FQ:=PH hy;have ff:=qA @hy ff;refine aa Tp ?_ (hok:=by(try simp only[go_sem,ff]);all_goals (exact Hg hy))
   refine ae ?_;refine aa Tp ?_ (hok:=o0h)
   refine cd ?_ ?_<;>intro c2
   .
    have hvs:mD z l (k+1)=some o:=by rw[Az hv];unfold wy;rw[hy];exact X3 (c2.elim .inl λq=>.inr (YN q))
    refine aH ?_
    show DW _ _ _ _ _
    refine ai Tp ?_
    show ∃_,_
    exact ay (k+1,o,.list true (o.map Zon.d),_,_) (h1:=⟨iv,hvs,(.inl rfl),o3x,oW,trivial⟩) (h5:=λ_=>.inl rfl)
   .
    obtain rfl:e=0:=by grind
    have hne:y≠o[o.length-1]! := λq=>by have h9:=c2;rw[show mG y o[o.length-1]! = true from YE q]at h9;simp at h9
    obtain⟨y0,m⟩:=Ep hy;have hyp:=m.plain.1;have nM:jl y=true:=by rw[<-sK];exact hyp.ok
    have ff:=qA @nM ff;refine ah ?_
    show DW _ _ _ _ _
    refine ae ?_;refine aa Tp ?_ (hok:=o2y)
    refine cd ?_ ?_ (hp:=rfl) (hq:=rfl)<;>intro c3
    . simp at c3
    .
     refine ah ?_
     show DW _ _ _ _ _
     have h2:=EL hLz;have h3:=EL hyp.ok;simp only[go_sem]at h2 h3;refine aa Tp ?_ (hok:=o1h)
     have h4:=Uc (zf hLz) (zf hyp.ok);have h5:mO (dz o[o.length-1]!) (dz y)=(gZ (dz o[o.length-1]!) (dz y),0):=by unfold mO;rw[zf hLz,zf hyp.ok];rfl
     have ff:=qA @h5 ff;refine aa Tp ?_ (hok:=by(try simp only[go_sem,ff]);all_goals (exact h4))
     refine ae ?_;refine aa Tp ?_;refine cd ?_ ?_ (hq:=rfl)<;>intro c4
     .
      have hvn:mD z l (k+1)=none:=by rw[Az hv];unfold wy;rw[hy,XV o4w];exact X3 (c4.elim (λq=>.inr (.inl q)) λq=>.inr (.inr (YN q)))
      have nL:nz z l=([],false):=by unfold nz;rw[KS hvn l.length (by omega)]
      have ff:=qA @nL ff;refine aa Tp ?_;refine aL ?_;exact fin 2 (hr:=o3v)
     .
      have c5:=c4
      try simp only[XW,X4,Yc,XU,Yd,Yb,Yr,Yy,YB,Zi,ZC,Zo,ne_eq]at c4
      have hvs:mD z l (k+1)=some (o++[y]):=by rw[Az hv];unfold wy;rw[hy,XV o4w];exact XV o1q
      refine ah ?_
      show DW _ _ _ _ _
      have hset:=MU (n:=dz y) (o.map dz) (λq=>by rw[show yc (o.map dz) (dz y)=true from YE q]at c4;simp at c4)
      have ff:=qA @hset ff;refine aa Tp ?_;refine ai Tp ?_
      show DW _ _ _ _ _
      refine ai Tp ?_
      show ∃_,_
      exact ay (k+1,o++[y],.mrow (nx+63) 0 (o.length+1),_,_) (h1:=⟨iv,hvs,o1g,o2q,oW,trivial⟩) (h5:=λ_=>.inl rfl)
  .
   have ff:=qD @hr (nH 6 r) (nG r nx) ff;refine aa Tp ?_
   rcases hy:fJ o[o.length-1]! l[k]! with⟨y,e⟩
   have FQ:=PH hy;have ff:=qA @hy ff;refine aa Tp ?_ (hok:=by(try simp only[go_sem,ff]);all_goals (exact Hg hy))
   refine ae ?_;refine aa Tp ?_ (hok:=o0h)
   refine cd ?_ ?_<;>intro c2
   .
    have hvs:mD z l (k+1)=some o:=by rw[Az hv];unfold wy;rw[hy];exact X3 (c2.elim .inl λq=>.inr (YN q))
    refine aH ?_
    show DW _ _ _ _ _
    refine ai Tp ?_
    show ∃_,_
    exact ay (k+1,o,.mrow r 0 o.length,_,_) (h1:=⟨iv,hvs,(by(try dsimp only);exact .inr ⟨r,rfl,by simp only[go_sem,ff];first|done|exact rfl,by omega,by omega⟩),o3x,oW,trivial⟩) (h5:=λ_=>.inl rfl)
   .
    obtain rfl:e=0:=by grind
    have hne:y≠o[o.length-1]! := λq=>by have h9:=c2;rw[show mG y o[o.length-1]! = true from YE q]at h9;simp at h9
    obtain⟨y0,m⟩:=Ep hy;have hyp:=m.plain.1;have nM:jl y=true:=by rw[<-sK];exact hyp.ok
    have ff:=qA @nM ff;refine ah ?_
    show DW _ _ _ _ _
    refine ae ?_;refine aa Tp ?_ (hok:=o2y)
    refine cd ?_ ?_ (hp:=rfl) (hq:=rfl)<;>intro c3
    . simp at c3
    .
     refine ah ?_
     show DW _ _ _ _ _
     have h2:=EL hLz;have h3:=EL hyp.ok;simp only[go_sem]at h2 h3;refine aa Tp ?_ (hok:=o1h)
     have h4:=Uc (zf hLz) (zf hyp.ok);have h5:mO (dz o[o.length-1]!) (dz y)=(gZ (dz o[o.length-1]!) (dz y),0):=by unfold mO;rw[zf hLz,zf hyp.ok];rfl
     have ff:=qA @h5 ff;refine aa Tp ?_ (hok:=by(try simp only[go_sem,ff]);all_goals (exact h4))
     refine ae ?_;refine aa Tp ?_;refine cd ?_ ?_ (hq:=rfl)<;>intro c4
     .
      have hvn:mD z l (k+1)=none:=by rw[Az hv];unfold wy;rw[hy,XV o4w];exact X3 (c4.elim (λq=>.inr (.inl q)) λq=>.inr (.inr (YN q)))
      have nL:nz z l=([],false):=by unfold nz;rw[KS hvn l.length (by omega)]
      have ff:=qA @nL ff;refine aa Tp ?_;refine aL ?_;exact fin 2 (hr:=o3v)
     .
      have c5:=c4
      try simp only[XW,X4,Yc,XU,Yd,Yb,Yr,Yy,YB,Zi,ZC,Zo,ne_eq]at c4
      have hvs:mD z l (k+1)=some (o++[y]):=by rw[Az hv];unfold wy;rw[hy,XV o4w];exact XV o1q
      refine ah ?_
      show DW _ _ _ _ _
      have hset:=MU (n:=dz y) (o.map dz) (λq=>by rw[show yc (o.map dz) (dz y)=true from YE q]at c4;simp at c4)
      have ff:=qA @hset ff;refine aa Tp ?_;refine ai Tp ?_
      show DW _ _ _ _ _
      refine ai Tp ?_
      show ∃_,_
      exact ay (k+1,o++[y],.mrow (nx+63) 0 (o.length+1),_,_) (h1:=⟨iv,hvs,o1g,o2q,oW,trivial⟩) (h5:=λ_=>.inl rfl)
 .
  have e8:k=l.length:=by omega
  subst e8;have nL:nz z l=(o,true):=by unfold nz;rw[hv]
  have ff:=qA @nL ff;refine aH ?_
  show DW _ _ _ _ _
  rcases hI with rfl|⟨r,rfl,hr,hr0,hrx⟩
  . refine aa Tp ?_;refine aL ?_;exact fin 2 (hr:=o3v)
  . have ff:=qD @hr (nH 6 r) (nG r nx) ff;refine aa Tp ?_;refine aL ?_;exact fin 2 (hr:=o3v)
def bo17:dY prog 17=true:=by kernel_rfl
def wK(n:Int)(l:List Int)(hl:l.length<=1000):PureCt prog 17 [.i n,.list false (l.map iR)] (.agg (gV n l).d):=by
 refine xP func17 rfl bo17 o5r (by simp[f17]) ?_
 unfold f17
 simp only[zS]
 have ff:=True.intro
 refine aa Tp ?_
 refine aa Tp ?_
 refine ae ?_
 refine yG 2 1 24 84 o5i (by rfl) o5v ?_
 simp only[YW,YP]
 refine aa Tp ?_
 refine aj ?_
 refine lp (α:=(Nat)×(Nat)×Nat) [1,4,5,19,20] (λ⟨k,r,nx⟩=>(k<=2)/\(r<nx)/\(2<r)/\True) (λ⟨k,r,nx⟩=>2-k) (λ⟨k,r,nx⟩=>[(21,.i k)]) (λ⟨k,r,nx⟩=>[(0,⟨24,[[.v (.string (bs [])),.list true []]]⟩),(2,⟨24,[[.v (.string (bs [120])),.mrow r 0 k]]⟩),(r,⟨84,([[.v (.string (bs [120])),.i 2,.i 0,.list true [[.v (.string (bs [97,46,110,115])),.i 0,.i 0]],.list true []],[.v (.string (bs [120])),.i 4,.i 0,.list true [[.v (.string (bs [])),.i n,.i 0]],.list true []]]).take k⟩)]) (λ⟨k,r,nx⟩=>nx) (0,4,_) (hA:=⟨iv,iv,iv,trivial⟩) (round:=?_)
 rintro⟨k,r,nx⟩ ⟨hk,hr,hr0, -⟩
 show DW _ _ _ _ { n:=_,t:=tab _,h:=_,nx:=_,e:=_ }
 simp only[XY,X0]
 have n0:2<nx:=by omega
 have ff:=qF @hr @n0 (nH 0 2) (nH 0 r) (nH 2 r) ff
 refine aa Tp ?_
 refine ae ?_
 refine cd ?_ ?_ (hp:=rfl)<;>intro c1
 .
  have h01:k=0\/k=1:=by have h9:(k:Int)<2:=(by simpa using c1);omega
  refine ah ?_
  show DW _ _ _ _ _
  refine ae ?_;refine aj ?_
  rcases h01 with e0|e0
  .
   have ff:=qA @e0 ff;refine aa Tp ?_;refine ai Tp ?_
   show DW _ _ _ _ _
   refine ai Tp ?_
   show ∃_,_
   exact ay (k+1,(nx+10),_) (h1:=⟨iv,iv,iv,trivial⟩) (h3:=o1y) (h4:=o1y) (h5:=o1y)
  .
   have ff:=qA @e0 ff;refine aa Tp ?_;refine ai Tp ?_
   show DW _ _ _ _ _
   refine ai Tp ?_
   show ∃_,_
   exact ay (k+1,(nx+10),_) (h1:=⟨iv,iv,iv,trivial⟩) (h3:=o1y) (h4:=o1y) (h5:=o1y)
 .
  refine aH ?_
  show DW _ _ _ _ _
  refine ae ?_;have e9:k=2:=by have h9 : ¬(k:Int)<2:=(by simpa using c1);omega
  subst e9;refine aa Tp ?_;refine cd ?_ ?_ (hp:=rfl) (hq:=rfl)<;>intro c2
  .
   have hl0:0<l.length:=by simpa using c2
   refine aa Tp ?_;refine ae ?_;refine yG (nx+5) 3 60 57 o5i (by rfl) o5v ?_
   simp only[YW,YP];refine aa Tp ?_;refine aj ?_;refine lp (α:=(Nat)×(Nat)×(Nat)×Nat) [4,5,37,38] (λ⟨k2,r2,s9,nx⟩=>(k2<=l.length)/\(r<s9)/\(s9<r2)/\(r2<nx)/\True) (λ⟨k2,r2,s9,nx⟩=>l.length-k2) (λ⟨k2,r2,s9,nx⟩=>[(8,.mptr s9 0 0),(39,.i k2)]) (λ⟨k2,r2,s9,nx⟩=>[(0,⟨24,[[.v (.string (bs [])),.list true []]]⟩),(2,⟨24,[[.v (.string (bs [120])),.mrow r 0 2]]⟩),(r,⟨84,[[.v (.string (bs [120])),.i 2,.i 0,.list true [[.v (.string (bs [97,46,110,115])),.i 0,.i 0]],.list true []],[.v (.string (bs [120])),.i 4,.i 0,.list true [[.v (.string (bs [])),.i n,.i 0]],.list true []]]⟩),(s9,⟨60,[[.v (.string (bs [119,46,120])),.i 1,.i 0,.mrow r2 0 k2]]⟩),(r2,⟨57,(l.take k2).map dI⟩)]) (λ⟨k2,r2,s9,nx⟩=>nx) (0,(nx+7),(nx+5),_) (hA:=⟨iv,iv,iv,iv,trivial⟩) (round:=?_)
   rintro⟨k2,r2,s9,nx⟩ ⟨hk2,hrs,Dv,hr2, -⟩
   show DW _ _ _ _ { n:=_,t:=tab _,h:=_,nx:=_,e:=_ }
   simp only[XY,X0];have n1:s9<nx:=by omega
   have n2:r<nx:=by omega
   have n3:2<nx:=by omega
   have hlk:(l.take k2).length=k2:=by simp;omega
   have ff:=qH @hr2 @n1 @n2 @n3 @hlk (nH 0 2) (nH 0 r) (qI (nH 0 s9) (nH 0 r2) (nH 2 r) (nH 2 s9) (nH 2 r2) (nH r s9) (nH r r2) (nH r2 s9) ff);refine aa Tp ?_;refine ae ?_;refine cd ?_ ?_ (hp:=rfl)<;>intro c3
   .
    have hk3:k2<l.length:=by simpa using c3
    have ff:=qA (Vg hk3) ff;refine ah ?_
    show DW _ _ _ _ _
    refine ae ?_;refine aj ?_;refine aa Tp ?_;refine ai Tp ?_
    show DW _ _ _ _ _
    refine ai Tp ?_
    show ∃_,_
    have e5:(l.take (k2+1)).map dI=(l.take k2).map dI++[dI l[k2]!]:=by rw[rE! hk3,YT];rfl
    have ff:=qA e5 ff;exact ay (k2+1,(nx+9),s9,_) (h1:=⟨iv,iv,iv,iv,trivial⟩) (h3:=o1y) (h4:=o1y) (h5:=o1y)
   .
    have e8:k2=l.length:=by omega
    subst e8;refine aH ?_
    show DW _ _ _ _ _
    refine yI s9 3 r2 (rows:=l.map dI) (off:=0) (len:=l.length) ev rfl ev (by omega) (by simp) Zfs ?_
    simp only[X6,y8,YW,YP];refine ai Tp ?_
    show DW _ _ _ _ _
    refine aa Tp ?_;refine aL ?_;exact fin 5 (hr:=by(try simp only[go_sem,ff]);all_goals (exact congrArg D.agg (rz_1 hl0).symm))
  .
   have hl0 : ¬0<l.length:=by simpa using c2
   refine ah ?_
   show DW _ _ _ _ _
   refine aa Tp ?_;refine aL ?_;exact fin 5 (hr:=by(try simp only[go_sem,ff]);all_goals (exact congrArg D.agg (rz_0 hl0).symm))
noncomputable def zg:aG:=dD (gV 1 []) (gV 2 [7])
noncomputable def LC:bV:=⟨[],[bZ 1 (dL (gV 1 []))]⟩
noncomputable def LB:bV:=⟨[],[bZ 1 (dL (gV 1 [])),bZ 2 (dG zg)]⟩
noncomputable def LA:bV:=⟨bZ 1 (dL (gV 1 []))++bZ 2 (dG zg),[]⟩
def rz1:fJ (gV 1 []) ⟨[],[rzC]⟩=(gV 2 [7],0):=by kernel_rfl
def rz2:lh (gV 1 []) (gV 2 [7])=(zg,0):=by kernel_rfl
def rz3:sD (gV 1 [])=(LC,0):=by kernel_rfl
def rz4:nk LC zg=(LB,0):=by kernel_rfl
def rz5:rF LB=(LA,0):=by kernel_rfl
def rz6:lZ LA=(gV 2 [7],0):=by kernel_rfl
def rz7:lW ⟨true,gV 1 [],0⟩ [gV 1 [],gV 2 [7]] 5=(⟨true,gV 2 [7],5⟩,0):=by kernel_rfl
def rzl:(bZ 1 (dL (gV 1 []))).length<=1000/\(bZ 2 (dG zg)).length<=1000:=⟨YN (show decide ((bZ 1 (dL (gV 1 []))).length<=1000)=true by kernel_rfl),YN (show decide ((bZ 2 (dG zg)).length<=1000)=true by kernel_rfl)⟩
def rzs0:kw LC:=⟨λp hp=>(by have:=rzl;rw[Yo.1 hp];omega),by decide,by decide⟩
def rzs1:kw LB:=⟨λp hp=>(by have:=rzl;rcases Ym.1 hp with e|e;rw[e];omega;rw[Yo.1 e];omega),by decide,by decide⟩
def rzs2:kw LA:=⟨λp hp=>(by cases hp),by(have:=rzl;show(_++_:Str).length<=_;rw[XZ];omega),by decide⟩
def rzp:dO (gV 1 []):=.mk' (by kernel_rfl) (by kernel_rfl)
def rzq:dO (gV 2 [7]):=.mk' (by kernel_rfl) (by kernel_rfl)
def rzf:fO (gV 2 [7]).sets:=sJ rzq.ok
def rzfx:fO zg.put:=LZ rzf
def rzsx:Cs zg:=λs hs g hg=>by(rw[rzq.sig s ((put_mem rzp.ord).1 hs).1]at hg;cases hg)
def rzg:PureCt prog 13 [.agg (gV 2 [7]).d,.agg (gV 2 [7]).d] (.b true):=by have:=CQ (gV 2 [7]) (gV 2 [7]) rzf;rwa [Ii]at this
def Ka{a b:Zon}{x:aG}{e:Int}(h:lh a b=(x,e)):PureCt prog 9 [.agg a.d,.agg b.d] (.tuple [.agg x.d,.i e]):=by have:=Ww a b;rwa [h]at this
def Kz{z:Zon}{x:bV}{e:Int}(hu:GV z)(h:sD z=(x,e)):PureCt prog 8 [.agg z.d] (.tuple [.agg x.d,.i e]):=by have:=Zg2 z hu;rwa [h]at this
def OV{d y:bV}{x:aG}{e:Int}(h1:kw d)(h2:fO x.put)(h3:Cs x)(h:nk d x=(y,e)):PureCt prog 10 [.agg d.d,.agg x.d] (.tuple [.agg y.d,.i e]):=by have:=Zg3 d x h1 h2 h3;rwa [h]at this
def Qd{d y:bV}{e:Int}(h1:kw d)(h:rF d=(y,e)):PureCt prog 11 [.agg d.d] (.tuple [.agg y.d,.i e]):=by have:=ZgN d h1;rwa [h]at this
def Bq{d:bV}{y:Zon}{e:Int}(h1:kw d)(h:lZ d=(y,e)):PureCt prog 12 [.agg d.d] (.tuple [.agg y.d,.i e]):=by have:=ZgW d h1;rwa [h]at this
def D7{d y:bV}{n c e:Int}(h1:kw d)(h:lm d n c=(y,e)):PureCt prog 15 [.agg d.d,.i n,.i c] (.tuple [.agg y.d,.i e]):=by have:=Zg1 d n c h1;rwa [h]at this
def zq{s x:gU}{l:List Zon}{t e:Int}(h:lW s l t=(x,e)):PureCt prog 14 [.agg s.d,.list false (l.map Zon.d),.i t] (.tuple [.agg x.d,.i e]):=by have:=Zbv s l t;rwa [h]at this
def Ra{z:Zon}{l:List Upd}{o:List Zon}{b:Bool}(hz:dO z)(hl:z.sets.length<=100)(Dx:l.length<=6)(hc : ∀i,i<l.length->l[i]!.chgs.length<=10)(h:nz z l=(o,b)):PureCt prog 7 [.agg z.d,.list false (l.map Upd.d)] (.tuple [.list false (o.map Zon.d),.b b]):=by have:=Zdy z l hz hl Dx hc;rwa [h]at this
def mF{x:Zon}(h:aJ x=true):PureCt prog 13 [.agg x.d,.agg x.d] (.b true):=by have:=CQ x x (sJ h);rwa [Ii]at this
@[go_sem]theorem i00a:((0:Int)==0)=true:=rfl
def Zdx  : PureCt prog 5 [] (.b true):=by
 refine oO func5 λff=>?_
 unfold Tryz.f5
 have ff:=qI @rz1 @rz2 @rz3 @rz4 @rz5 @rz6 @rz7 @Ii ff
 refine oC Tp ?_
 refine aa lq ?_ (hok:=by(try simp only[go_sem,ff]);all_goals (first|done|((repeat' (with_reducible apply And.intro))<;>first|(intros;exact wK 1 [] (by decide))|(intros;exact Hg rz1)|skip)))
 refine aa lq ?_ (hok:=by(try simp only[go_sem,ff]);all_goals (first|done|((repeat' (with_reducible apply And.intro))<;>first|(intros;exact wK 1 [] (by decide))|(intros;exact Ka rz2)|skip)))
 refine aa Tp ?_ (hok:=by(try simp only[go_sem,ff]);all_goals (first|done|((repeat' (with_reducible apply And.intro))<;>first|(intros;exact wK 1 [] (by decide))|(intros;exact Kz (EW rzp) rz3)|skip)))
 refine aa Tp ?_ (hok:=iE (OV rzs0 rzfx rzsx rz4))
 refine aa Tp ?_ (hok:=iE (Qd rzs1 rz5))
 refine aa Tp ?_ (hok:=iE (Bq rzs2 rz6))
 refine aa lq ?_ (hok:=by(try simp only[go_sem,ff]);all_goals (first|done|((repeat' (with_reducible apply And.intro))<;>first|(intros;exact wK 1 [] (by decide))|(intros;exact zq rz7)|skip)))
 refine aa Tp ?_
 refine aa Tp ?_ (hok:=by(try simp only[go_sem,ff]);all_goals (first|done|((repeat' (with_reducible apply And.intro))<;>first|(intros;exact wK 2 [7] (by decide))|(intros;exact rzg)|skip)))
 exact oN (fin 0 (hr:=o3v))
def bo4:dY prog 4=true:=by kernel_rfl
set_option maxHeartbeats 2000000 in
theorem lawCS_ct(z:Zon)(l:List Upd)(a:Int)(c:Int)(ha:0<=a/\a<256)(hc:0<=c/\c<65536):PureCt prog 4 [.agg z.d,.list false (l.map Upd.d),.v (.int .u8 a),.v (.int .u16 c)] (.b true):=by
 refine xP func4 rfl bo4 o5r (by simp[Tryz.f4]) ?_
 unfold Tryz.f4
 simp only[zS]
 have ff:=True.intro
 have w1:IntKind.i64.wrap a=a:=by rw[IntKind.wrap_i64];omega
 have w2:IntKind.i64.wrap c=c:=by rw[IntKind.wrap_i64];omega
 have ff:=qD @w1 @w2 @Ii ff
 refine aa Tp ?_
 refine aa Tp ?_ (hok:=by(try simp only[go_sem,ff]);all_goals (exact Zdx))
 refine ae ?_
 refine aa Tp ?_ (hok:=by(try simp only[go_sem,ff]);all_goals (first|done|((repeat' (with_reducible apply And.intro))<;>first|(intros;exact Rn z l)|skip)))
 refine cd ?_ ?_ (hp:=rfl)<;>intro c1
 . refine aa Tp ?_;refine aL ?_;exact fin 0 (hr:=o3v)
 .
  have hq:xn z l=true:=by grind
  obtain⟨hpz,hsz,Dx,hcc⟩:=Zig hq;refine ah ?_
  show DW _ _ _ _ _
  rcases hv:mD z l l.length with _|o
  .
   have nL:nz z l=([],false):=by unfold nz;rw[hv]
   have ff:=qA @nL ff;refine aa Tp ?_ (hok:=o3p)
   refine ae ?_;refine aa Tp ?_;refine cd ?_ ?_ (hp:=rfl) (hq:=rfl)<;>intro c2
   . refine aa Tp ?_;refine aL ?_;exact fin 0 (hr:=o3v)
   . simp at c2
  .
   have nL:nz z l=(o,true):=by unfold nz;rw[hv]
   obtain⟨hP,hol⟩:=KR hpz hsz hcc _ o (XX _) hv;have h7:o.length<=7:=by omega
   have hne:=hP.ne;have hn0:((o.length:Int)==0)=false:=by rw[Zi];omega
   have hlast:o.length-1<o.length:=by omega
   have e1:((o.length:Int)-1).toNat=o.length-1:=by omega
   obtain⟨hb1,oA,hbA,_⟩:=XD hpz hsz;obtain⟨hc1,o0,hbg,_⟩:=Zkl hpz hsz;have hc2:=hc1;rw[<-Ki (dC z) o]at hc2;have hfst:=hP.fst;have hplN:(d9 (dC z) o (o.length-1)).pend.length=o.length-1:=by rw[Gw];simp[dC]
   have hpl:(((d9 (dC z) o (o.length-1)).pend.length:Int) != ((o.length:Int)-1))=false:=by rw[Zo];omega
   have ff:=qA @nL (qI @hn0 @hfst (rY hne) (rY hlast) @e1 @hb1 @hc2 @hpl ff);refine aa Tp ?_ (hok:=o3p)
   refine ae ?_;refine aa Tp ?_;refine cd ?_ ?_ (hp:=rfl) (hq:=rfl)<;>intro c2
   . simp at c2
   .
    refine ah ?_
    show DW _ _ _ _ _
    refine aa Tp ?_ (hok:=by(try simp only[go_sem,ff]);all_goals (first|done|((repeat' (with_reducible apply And.intro))<;>first|(intros;exact Kz (EW hpz) hb1)|omega|skip)))
    refine aa Tp ?_ (hok:=by(try simp only[go_sem,ff]);all_goals (exact Qd (SL hbA.op (by have:=hbA.sz;omega)) hc2))
    refine ae ?_;refine aa Tp ?_;refine cd ?_ ?_ (hp:=rfl) (hq:=rfl)<;>intro c3
    . simp at c3
    .
     refine ah ?_
     show DW _ _ _ _ _
     refine ae ?_;refine aa Tp ?_;refine aj ?_;refine lp (α:=(Nat)×Nat) [2,3,9,10,12,68] (λ⟨k,nx⟩=>(k<=o.length)/\(30<nx)/\True) (λ⟨k,nx⟩=>o.length-k) (λ⟨k,nx⟩=>[(69,.i k)]) (λ⟨k,nx⟩=>[(0,⟨24,[z.d]⟩),(30,⟨34,[(d9 (dC z) o (k-1)).d]⟩)]) (λ⟨k,nx⟩=>nx) (0,_) (hA:=⟨iv,iv,trivial⟩) (round:=?_)
     rintro⟨k,nx⟩ ⟨hk,hx, -⟩
     show DW _ _ _ _ { n:=_,t:=tab _,h:=_,nx:=_,e:=_ }
     simp only[XY,X0];have ff:=qA @hx ff;refine aa Tp ?_;refine ae ?_;refine cd ?_ ?_ (hp:=rfl)<;>intro c4
     .
      have hk2:k<o.length:=by simpa using c4
      have ff:=qA (rY hk2) ff;refine ah ?_
      show DW _ _ _ _ _
      refine ae ?_;refine aj ?_;refine aa Tp ?_;refine ae ?_;refine aa Tp ?_;refine cd ?_ ?_<;>intro c5
      .
       have hk0:k=0:=by omega
       have hkn:k+1-1=k-1:=by omega
       have ff:=qA @hkn ff;refine aH ?_
       show DW _ _ _ _ _
       refine ai Tp ?_
       show ∃_,_
       exact ay (k+1,_) (h1:=⟨iv,iv,trivial⟩)
      .
       have hk1:k-1+1=k:=by omega
       have FK:k+1-1=k:=by omega
       have e2:((k:Int)-1).toNat=k-1:=by omega
       have hdv:=hP.vers.difv (i:=k-1) (by omega)
       rw[hk1]at hdv;obtain⟨p9,_,_,_,_,_,hap⟩:=Kh hP h7 hbg (k-1) (by omega)
       have hap:=hap (by omega)
       rw[hk1]at hap;have hds:=Ch hP h7 hbg (k:=k-1) (by omega)
       have hdf:fO (jR o (k-1)).put:=by rw[(hP.vers.dok (i:=k-1) (by omega)).1];exact LZ (sJ (hP.pl _ (by omega)).ok)
       have hdu:=(Oh hP (i:=k-1) (by omega)).2
       have hki:k-1<o.length:=by omega
       have ff:=qF @FK @e2 @hdv @hap (rY hki) ff;refine ah ?_
       show DW _ _ _ _ _
       refine aa lq ?_ (hok:=by(try simp only[go_sem,ff]);all_goals (first|done|((repeat' (with_reducible apply And.intro))<;>first|(intros;exact Ka hdv)|omega|skip)))
       refine aa Tp ?_ (hok:=by(try simp only[go_sem,ff]);all_goals (first|done|((repeat' (with_reducible apply And.intro))<;>first|(intros;exact OV hds hdf hdu hap)|skip)))
       refine ae ?_;refine aa Tp ?_;refine cd ?_ ?_ (hp:=rfl) (hq:=rfl)<;>intro c6
       . simp at c6
       .
        refine ah ?_
        show DW _ _ _ _ _
        refine ai Tp ?_
        show DW _ _ _ _ _
        refine ai Tp ?_
        show ∃_,_
        exact ay (k+1,_) (h1:=⟨iv,iv,trivial⟩)
     .
      have e8:k=o.length:=by omega
      subst e8;refine aH ?_
      show DW _ _ _ _ _
      refine ae ?_;refine aa Tp ?_;refine cd ?_ ?_ (hp:=rfl) (hq:=rfl)<;>intro c7
      . simp at c7
      .
       refine ah ?_
       show DW _ _ _ _ _
       obtain⟨n,hn⟩:∃n:Nat,a % (o.length:Int)=n:=⟨(a % (o.length:Int)).toNat,(Int.toNat_of_nonneg (Int.emod_nonneg _ (by omega))).symm⟩
       have hnl:n<o.length:=by have:=Int.emod_lt_of_pos a (show(0:Int)<o.length by omega);omega
       obtain⟨m,hm⟩:∃m:Nat,c % (((jP o n).length:Int)+1)=m:=⟨(c % (((jP o n).length:Int)+1)).toNat,(Int.toNat_of_nonneg (Int.emod_nonneg _ (by omega))).symm⟩
       have BK:m<=(jP o n).length:=by have:=Int.emod_lt_of_pos c (show(0:Int)<((jP o n).length:Int)+1 by omega);omega
       rcases ZjK hP h7 hbg hnl BK with⟨q1,q2,s,k1,k2,k3⟩|⟨q1,q2,s,k1,k2,k3⟩|⟨q1,s,k1,k2,k3⟩
       .
        have hpn:n<(d9 (dC z) o (o.length-1)).pend.length:=by omega
        have hlt:decide ((n:Int)<((d9 (dC z) o (o.length-1)).pend.length:Int))=true:=YE (by omega)
        have hF:((m:Int)==((jP o n).length:Int))=true:=by rw[q2];exact beq_self_eq_true _
        have hdat:=WJ (z:=z) q1;have hfb:=Kb hP q1;have e4:((n:Int)+1).toNat=n+1:=by omega
        have hwl:n+1<o.length:=q1;have vM:lW ⟨true,o[n+1]!,0⟩ o 5=(⟨true,o[o.length-1]!,5⟩,0):=hP.pull h7 hwl (by omega) (by omega)
        have ff:=qD @hn @hm @hlt (qI @hF (rY hwl) (z8 hpn) @hdat @k1 @k3 @vM @e4 ff);refine aa Tp ?_;refine aa Tp ?_;refine ae ?_;refine aa Tp ?_;refine cd ?_ ?_ (hp:=rfl) (hq:=rfl)<;>intro c8
        .
         refine aa Tp ?_;refine aa Tp ?_;refine cd ?_ ?_ (hp:=rfl) (hq:=rfl)<;>intro c9
         .
          refine ai Tp ?_
          show DW _ _ _ _ _
          refine aa Tp ?_ (hok:=o1d)
          refine aa Tp ?_ (hok:=o1m)
          refine ae ?_;refine aa Tp ?_ (hok:=o0e)
          refine cd ?_ ?_ (hp:=rfl) (hq:=rfl)<;>intro d1
          . simp at d1
          .
           refine ah ?_
           show DW _ _ _ _ _
           refine aa Tp ?_ (hok:=o1o)
           refine aa Tp ?_ (hok:=o0g)
           refine aL ?_;exact fin 0 (hr:=o3v)
         . simp at c9
        . simp at c8
       .
        have hpn:n<(d9 (dC z) o (o.length-1)).pend.length:=by omega
        have hlt:decide ((n:Int)<((d9 (dC z) o (o.length-1)).pend.length:Int))=true:=YE (by omega)
        have hF:((m:Int)==((jP o n).length:Int))=false:=by rw[Zi];omega
        have hdat:=WJ (z:=z) q1;have hfb:=Kb hP q1;have hwl:=hnl;have vM:lW ⟨true,o[n]!,0⟩ o 5=(⟨true,o[o.length-1]!,5⟩,0):=hP.pull h7 hwl (by omega) (by omega)
        have ff:=qB @hn @hm (qI @hlt @hF (rY hwl) (z8 hpn) @hdat @k1 @k3 @vM ff);refine aa Tp ?_;refine aa Tp ?_;refine ae ?_;refine aa Tp ?_;refine cd ?_ ?_ (hp:=rfl) (hq:=rfl)<;>intro c8
        .
         refine aa Tp ?_;refine aa Tp ?_;refine cd ?_ ?_ (hp:=rfl) (hq:=rfl)<;>intro c9
         . simp at c9
         .
          refine ah ?_
          show DW _ _ _ _ _
          refine aa Tp ?_ (hok:=o1d)
          refine aa Tp ?_ (hok:=o1m)
          refine ae ?_;refine aa Tp ?_ (hok:=o0e)
          refine cd ?_ ?_ (hp:=rfl) (hq:=rfl)<;>intro d1
          . simp at d1
          .
           refine ah ?_
           show DW _ _ _ _ _
           refine aa Tp ?_ (hok:=o1o)
           refine aa Tp ?_ (hok:=o0g)
           refine aL ?_;exact fin 0 (hr:=o3v)
        . simp at c8
       .
        have hlt:decide ((n:Int)<((d9 (dC z) o (o.length-1)).pend.length:Int))=false:=Y8 (by omega)
        have vM:lW ⟨true,o[n]!,0⟩ o 5=(⟨true,o[o.length-1]!,5⟩,0):=hP.pull h7 hnl (by omega) (by omega)
        have ff:=qG @hn @hlt (rY hnl) @k1 @k3 @vM ff;refine aa Tp ?_;refine aa Tp ?_;refine ae ?_;refine aa Tp ?_;refine cd ?_ ?_ (hp:=rfl) (hq:=rfl)<;>intro c8
        . simp at c8
        .
         refine ah ?_
         show DW _ _ _ _ _
         refine aa Tp ?_ (hok:=o1d)
         refine aa Tp ?_ (hok:=o1m)
         refine ae ?_;refine aa Tp ?_ (hok:=o0e)
         refine cd ?_ ?_ (hp:=rfl) (hq:=rfl)<;>intro d1
         . simp at d1
         .
          refine ah ?_
          show DW _ _ _ _ _
          refine aa Tp ?_ (hok:=o1o)
          refine aa Tp ?_ (hok:=o0g)
          refine aL ?_;exact fin 0 (hr:=o3v)
end Go.Proofs.YtidphdaoejibcaaGreatDoor
