/-
  MANY TEXTS OF MINE IN ONE (a claim has a limit of files): UpW15, UpW16, UrW1, TpW1, TpW2, TpW3, TpW4. Conditions: none.
-/
import Derived.Test.YtidphdaoejibcaaGreatDoorMZA5
set_option linter.unusedVariables false
set_option linter.unusedSimpArgs false
set_option linter.unusedSectionVars false
set_option linter.defProp false
set_option linter.unnecessarySimpa false
namespace Go.Proofs.YtidphdaoejibcaaGreatDoor
open Go.Proofs.Tryz
open Go.DL Go.Str Go.Rec Go.Cmp Go.Zon
set_option maxRecDepth 10000
theorem _root_.o4n{p:Prop}(h:p:=by rintro (q|q);exact q rfl;exact hne q):p:=h
theorem _root_.o3n{p:Prop}(h:p:=by(try simp only[go_sem,ff]);all_goals (first|rfl|(simp;done))):p:=h
theorem _root_.o2r{p:Prop}(h:p:=by(try simp only[go_sem,ff]);all_goals (have q9:=H6 y;rw[nC]at q9;exact q9)):p:=h
theorem _root_.o2j{p:Prop}(h:p:=by(try dsimp only);rw[List.map_append];simp only[go_sem,ff];first|done|exact rfl):p:=h
theorem _root_.o1s{p:Prop}(h:p:=by(try simp only[go_sem,ff]);all_goals (first|done|rfl|(simp;done)|(left;simp;done)|(right;simp;done))):p:=h
theorem _root_.o1k{p:Prop}(h:p:=by rintro (q|q|q);rw[hyp.ok]at q;cases q;rw[q]at c4;simp at c4;rw[show xP (o.map cZ) (cZ y)=true from YG q]at c4;simp at c4):p:=h
theorem _root_.o1e{p:Prop}(h:p:=by(try simp only[go_sem,ff]);all_goals (first|done|((repeat' (with_reducible apply And.intro))<;>first|(intros;exact h2)|(intros;exact h3)|skip))):p:=h
theorem _root_.o1d{p:Prop}(h:p:=by(try dsimp only);exact .inr ⟨_,by rw[List.length_append];rfl,by rw[List.map_append];simp only[go_sem,ff];first|done|exact rfl,by omega,by omega⟩):p:=h
theorem _root_.o0g{p:Prop}(h:p:=by(try simp only[go_sem,ff]);all_goals (first|done|((repeat' (with_reducible apply And.intro))<;>first|exact(λ_=>Co y o[o.length-1]! Fj)|omega|(intro h;simp only[XU,XX]at h;omega)|(intros;omega)|(intros;simp_all;done)|skip))):p:=h
theorem _root_.o0f{p:Prop}(h:p:=by(try simp only[go_sem,ff]);all_goals (first|done|((repeat' (with_reducible apply And.intro))<;>first|(intros;exact Hl (hP.pl _ hlast).ok)|omega|(intro h;simp only[XU,XX]at h;omega)|(intros;omega)|(intros;simp_all;done)|skip))):p:=h
variable [Glob prog] [Told]
def Zb5{td ts:TypeId}{h:H}{rs:Nat}{p:List PS}(hr:h rs=some ⟨ts,p.map rowP⟩)(hp : ∀x∈p,zZ td h x):je h (.mrow rs 0 p.length) = .list false ((lP p).map Sgd.d)/\dL h 5 (.mrow rs 0 p.length):=by
 have hrw:aC (.mrow rs 0 p.length) h=p.map rowP:=by simp only[aC,hr,X6];exact Ym (by simp)
 refine⟨?_,?_⟩
 .
  show wk (snap h 5 (.mrow rs 0 p.length))=_
  rw[Go.Zon.snap_mrow,hrw];simp only[wk,P6 hp]
 refine⟨⟨by rw[hr];rfl,by rw[hrw];simp⟩,?_⟩
 rw[hrw]
 intro row hrow c hc
 obtain⟨x,hx,rfl⟩:=Yr.1 hrow
 exact(lH (hp x hx) 2).2 c hc
def Zb6{td:TypeId}{h:H}{x:PS}(hx:zZ td h x):je h (.agg (rowP x)) = .agg x.2.d/\dL h 5 (.agg (rowP x)):=by
 refine⟨?_,(lH hx 2).2⟩
 have:=(lH hx 3).1
 show wk (snap h 5 (.agg (rowP x)))=_
 rw[Go.Zon.snap_agg]
 simp only[wk,uT]
 rw[this]
def ZkD{h:H}{f:Fn}:je h (.fn f [] []) = .fn f [] []:=rfl
def ZkC{h:H}{b:Bool}{l:List (List D)}:je h (.list b l)=wk (.list b l):=rfl
attribute[go_sem]ZkD ZkC
theorem Vr{y z:Zon}(hz:dO z)(hy:dO y)(ha:y.apex=z.apex):zP z.sets y.sets=mh y z:=by
 unfold zP mh
 rw[YK,XU,XX,XX,eu]
 constructor
 .
  rintro⟨h1,h2⟩;have hs:y.sets=z.sets:=by
   refine CP! h1.symm λi hi=>?_
   have h3:z.sets[i]!.set=y.sets[i]!.set:=YM (h2 i (Yi _) om);have h4:=hz.sig _ (eO (show i<z.sets.length by omega))
   have h5:=hy.sig _ (eO hi);exact KV h3.symm (by rw[h4,h5])
  cases y;cases z
  simp only at ha hs;rw[ha,hs]
 rintro rfl
 exact⟨rfl,λi _ _=>YG rfl⟩
theorem ZcY{a b:Sgd}(ha:a.sigs=[])(hb:b.sigs=[]):decide (a.set=b.set)=lg b a:=by
 unfold lg
 rw[YK,XX,XX]
 exact⟨λh=>KV h.symm (by rw[ha,hb]),λh=>by rw[h]⟩
theorem PP{z:Zon}(h:dO z):di z.sets ⟨z.apex,4⟩=true/\bg z.sets ⟨z.apex,4⟩<z.sets.length/\z.sets[bg z.sets ⟨z.apex,4⟩]! = gq z:=by
 have h1:=PO h.ok
 have h2:=FL h.zo.ord h.zo.nms (q:=⟨z.apex,4⟩) h.zo.apex
 have h3:fu z.sets ⟨z.apex,4⟩=some (gq z):=h1
 rw[h3]at h2
 cases hf:di z.sets ⟨z.apex,4⟩with
 | false=>rw[hf]at h2;cases h2
 | true =>
  rw[hf,X3 rfl]at h2;exact⟨rfl,(JE h.zo.nms (q:=⟨z.apex,4⟩) h.zo.apex hf).1,(Zu h2).symm⟩
def ZjF{p:List PS}{a:Str}(hy:dO ⟨a,lP p⟩){ix:Nat}(hix:ix=bg (lP p) ⟨a,4⟩):ix<p.length/\p[ix]!.2=gq ⟨a,lP p⟩ /\ ∀r,lP (p.set ix (r,p[ix]!.2.withD [⟨[],wJ p[ix]!.2.set.data[0]!.n,p[ix]!.2.set.data[0]!.m⟩]))=(Ob ⟨a,lP p⟩).sets:=by
 obtain⟨h1,h2,h3⟩:=PP hy
 simp only at h1 h2 h3
 rw[<-hix]at h2 h3
 rw[mH]at h2
 rw[CR h2]at h3
 refine⟨h2,h3,λr=>?_⟩
 rw[IP,WU hy.ok]
 show(lP p).set ix _=jU (lP p) (sH _ _)
 have e:(p[ix]!.2.withD [⟨[],wJ p[ix]!.2.set.data[0]!.n,p[ix]!.2.set.data[0]!.m⟩])=sH ⟨a,lP p⟩ (wJ (cZ ⟨a,lP p⟩)):=by
  rw[h3];rfl
 show(lP p).set ix (p[ix]!.2.withD [⟨[],wJ p[ix]!.2.set.data[0]!.n,p[ix]!.2.set.data[0]!.m⟩])=_
 rw[e]
 refine KY hy.ord (by rw[mH];exact h2) ?_
 rw[CR h2,h3,PQ hy.ok]
 exact(xD hy.ok).2
theorem Zdm{p:List PS}{i:Nat}(hi:i<p.length){d:List Dat}(hd:p[i]!.2.set.data.length=d.length):(p.map rowP).set i (rowP (p[i]!.1,p[i]!.2.withD d))=p.map rowP:=by
 have e:rowP (p[i]!.1,p[i]!.2.withD d)=(p.map rowP)[i]'(by simpa using hi):=by
  rw[List.getElem_map,getElem!_pos p i hi];rw[getElem!_pos p i hi]at hd;simp only[rowP,Sgd.withD,hd]
 rw[e,List.set_getElem_self]
def ZaR(z:Zon)(zc rs:Nat)(p:List PS)(h:H)(n:Nat)(hz:dO z)(hy:dO (⟨z.apex,lP p⟩:Zon))(hm:ZM 24 84 57 zc rs z.apex p h):bT prog 51 [.agg z.d,.agg [.v (.string (bs z.apex)),.mrow rs 0 p.length]] h n (λd h' n'=>d = .tuple [] /\ ∃p',ZM 24 84 57 zc rs z.apex p' h'/\p'.length=p.length/\lP p'=(vQ z (⟨z.apex,lP p⟩:Zon)).sets/\(∀q,q<n->q≠zc->q≠rs->(∀x∈p,q≠x.1)->h' q=h q)):=by
 refine oP func51 λhnone ff=>?_
 unfold f51
 have zlt:=hm.lt hnone
 have hzz:=hm.z
 have eP:=hm.r
 have zlen:=hz.zo.len
 have plen:p.length<=20000:=by have:(lP p).length<=20000:=hy.zo.len;rwa [mH]at this
 have hm2:ZM 24 84 57 zc rs z.apex p (upd (upd h n (some ⟨24,[[.v (.string (bs z.apex)),.list false (z.sets.map Sgd.d)]]⟩)) (n+1) (some ⟨24,[[.v (.string (bs z.apex)),.mrow rs 0 p.length]]⟩)):=(hm.fresh (hnone n (XW _))).fresh (by rw[aJ _ _ _ _ (by omega)];exact hnone _ (by omega))
 obtain⟨iz,hiz⟩:∃q,q=bg z.sets ⟨z.apex,4⟩:=⟨_,rfl⟩
 obtain⟨ix,hix⟩:∃q,q=bg (lP p) ⟨z.apex,4⟩:=⟨_,rfl⟩
 obtain⟨s1,s2,s3⟩:=PP hz
 rw[<-hiz]at s2 s3
 obtain⟨b1,b2,b3⟩:=ZjF hy hix
 have hiz2:=hiz.symm
 have Fe:=hix.symm
 have hrow:(p.map rowP).getD ix []=[.v (.string (bs p[ix]!.2.set.name)),.i p[ix]!.2.set.ty,.i p[ix]!.2.set.life,.mrow p[ix]!.1 0 p[ix]!.2.set.data.length,.list true []]:=K8 b1
 have hxd:=hm.d p[ix]! (kM b1)
 have hxe:=hm.ne p[ix]! (kM b1)
 have hlr:(p.map rowP).length=p.length:=by simp
 have hxn:=zlt.2.2 p[ix]! (kM b1)
 obtain⟨sd1,sd2,sd3,_,_⟩:=GU hy.ok
 rw[<-b2]at sd1
 have hdl:p[ix]!.2.set.data.length=1:=by rw[sd1];rfl
 have hd0:(p[ix]!.2.set.data.map Dat.d).getD 0 []=[.v (.string (bs [])),.i p[ix]!.2.set.data[0]!.n,.i p[ix]!.2.set.data[0]!.m]:=by rw[o9 (by omega)];rw[sd1];rfl
 have hdn:p[ix]!.2.set.data[0]!.n=cZ (⟨z.apex,lP p⟩:Zon):=by rw[sd1];rfl
 have hdn2:=hdn
 have hsw:=hm2.snap
 have xZ:je (upd (upd h n (some ⟨24,[[.v (.string (bs z.apex)),.list false (z.sets.map Sgd.d)]]⟩)) (n+1) (some ⟨24,[[.v (.string (bs z.apex)),.mrow rs 0 p.length]]⟩)) (.agg [.v (.string (bs z.apex)),.mrow rs 0 p.length]) = .agg [.v (.string (bs z.apex)),.list false ((lP p).map Sgd.d)]:=hsw.1
 have Db:=Zb5 hm2.r hm2.data
 have hsr1:=Db.1
 have hso:=Zb6 (hm2.data _ (kM b1))
 have hso1:je (upd (upd h n (some ⟨24,[[.v (.string (bs z.apex)),.list false (z.sets.map Sgd.d)]]⟩)) (n+1) (some ⟨24,[[.v (.string (bs z.apex)),.mrow rs 0 p.length]]⟩)) (.agg [.v (.string (bs p[ix]!.2.set.name)),.i p[ix]!.2.set.ty,.i p[ix]!.2.set.life,.mrow p[ix]!.1 0 p[ix]!.2.set.data.length,.list true []]) = .agg [.v (.string (bs p[ix]!.2.set.name)),.i p[ix]!.2.set.ty,.i p[ix]!.2.set.life,.list false (p[ix]!.2.set.data.map Dat.d),.list false (p[ix]!.2.sigs.map RSig.d)]:=hso.1
 have hx5:(p[ix]!.1=rs)=False:=YN hxe.2
 have hx6:(rs=p[ix]!.1)=False:=YN (λe=>hxe.2 e.symm)
 have hgz:=dB s2
 have hss:je (upd (upd h n (some ⟨24,[[.v (.string (bs z.apex)),.list false (z.sets.map Sgd.d)]]⟩)) (n+1) (some ⟨24,[[.v (.string (bs z.apex)),.mrow rs 0 p.length]]⟩)) (.agg [.v (.string (bs z.sets[iz]!.set.name)),.i z.sets[iz]!.set.ty,.i z.sets[iz]!.set.life,.list false (z.sets[iz]!.set.data.map Dat.d),.list false (z.sets[iz]!.sigs.map RSig.d)]) = .agg [.v (.string (bs z.sets[iz]!.set.name)),.i z.sets[iz]!.set.ty,.i z.sets[iz]!.set.life,.list false (z.sets[iz]!.set.data.map Dat.d),.list false (z.sets[iz]!.sigs.map RSig.d)]:=by simp only[je,Go.Zon.snap_agg,X8,Yz,Go.Zon.snap_v,Go.Zon.snap_list,wk,dZ,tV,D5]
 have ff:=qG @hzz @eP @hiz2 @Fe @hrow @hxd (qI @hlr @hd0 @xZ @hss @hsr1 @hso1 (nH n (p[ix]!.1)) (nH (n+1) (p[ix]!.1)) (qI @hx5 @hx6 @hgz @s1 (nH n rs) (nH n zc) (nH (n+1) rs) (nH (n+1) zc) ff))
 refine aa Tp ?_
 refine oK uQ (λc1=>?_) (λc1=>?_) (hok:=by(try simp only[go_sem,ff]);all_goals (first|done|((repeat' (with_reducible apply And.intro))<;>first|(intros;exact Ph z.sets (lP p) om (λs hs=>by have:=(hz.zo.ok s hs).len;omega))|exact(λrow hrow c hc=>by obtain⟨x,hx,rfl⟩:=Yr.1 hrow;exact(lH (hm2.data x hx) 2).2 c hc)|(intros;exact Db.2)|rfl|skip))) (hp:=rfl) (hq:=rfl)
 .
  refine aN ?_;refine bZ (_) (hh:=λ_=>.inl rfl) (hr:=?_)
  try simp only[go_sem,ff]
  refine⟨p,hm2,rfl,?_,λq q1 q2 q3 q4=>?_⟩
  . unfold vQ;rw[XV (by rw[<-Vr hz hy rfl,c1];simp)]
  simp only[upd];rw[XV (by omega),XV (by omega)]
 refine aa Tp ?_ (hok:=oH (by have h9:=sF z z.apex 4 (by omega);rw[<-hiz,s1]at h9;exact h9))
 refine aa uQ ?_ (hok:=by(try simp only[go_sem,ff]);all_goals (first|done|((repeat' (with_reducible apply And.intro))<;>first|(intros;exact(by have h9:=sF ⟨z.apex,lP p⟩ z.apex 4 (by rw[mH];omega);rw[<-hix]at h9;exact h9))|exact(λrow hrow c hc=>by obtain⟨x,hx,rfl⟩:=Yr.1 hrow;exact(lH (hm2.data x hx) 1).2 c hc)|(intros;exact hsw.2)|rfl|skip)))
 refine aa uQ ?_ (hok:=by(try simp only[go_sem,ff]);all_goals (first|done|((repeat' (with_reducible apply And.intro))<;>first|(intros;exact Kq z.sets[iz]! p[ix]!.2 (by have:=(hz.zo.ok _ (eO s2)).len;omega))|(intros;exact hso.2)|exact(λrow hrow c hc=>by obtain⟨x,hx,rfl⟩:=Yr.1 hrow;simp only[Dat.d,Yl,YZ,or_false]at hc;rcases hc with rfl|rfl|rfl<;>rfl)|(intros;exact(λrow hrow c hc=>by obtain⟨x,hx,rfl⟩:=Yr.1 hrow;simp only[Dat.d,Yl,YZ,or_false]at hc;rcases hc with rfl|rfl|rfl<;>rfl))|omega|(intros;omega)|rfl|skip)))
 refine cd ?_ ?_ (hp:=rfl) (hq:=rfl)<;>intro c2
 .
  refine aa Tp ?_;refine ai Tp ?_;refine bZ (_) (hh:=λ_=>.inl rfl) (hr:=?_)
  try simp only[go_sem,ff]
  have hD:p[ix]!.2.set.data.map Dat.d=[[.v (.string (bs [])),.i p[ix]!.2.set.data[0]!.n,.i p[ix]!.2.set.data[0]!.m]]:=by rw[sd1];rfl
  refine⟨p.set ix (p[ix]!.1,p[ix]!.2.withD [⟨[],wJ p[ix]!.2.set.data[0]!.n,p[ix]!.2.set.data[0]!.m⟩]),hm2.setD b1 _ ?_ ?_ ?_ (λx hx hne=>?_),by simp,?_,λq q1 q2 q3 q4=>?_⟩
  . exact aJ _ _ _ _ (λe=>hxe.1 e.symm)
  . rw[aJ _ _ _ _ (λe=>hxe.2 e.symm),Zdm b1 (by rw[hdl];rfl)];exact hm2.r
  . rw[bL,hD];rfl
  . exact aJ _ _ _ _ hne
  .
   have k2:lg (gq (⟨z.apex,lP p⟩:Zon)) (gq z)=true:=(by rw[<-b2,<-s3,<-ZcY (hz.sig _ (eO s2)) (hm.sig _ (kM b1))];exact c2)
   rw[b3];unfold vQ;rw[X3 ⟨(Vr hz hy rfl).symm.trans (by simpa using c1),k2⟩]
  have:=q4 p[ix]! (kM b1);simp only[upd];rw[XV this,XV (by omega),XV (by omega)]
 refine aj ?_
 refine bZ (_) (hh:=λ_=>.inl rfl) (hr:=?_)
 try simp only[go_sem,ff]
 refine⟨p,hm2,rfl,?_,λq q1 q2 q3 q4=>?_⟩
 . unfold vQ;rw[XV];rintro⟨k1,k2⟩;have k3:z.sets[iz]!.set=p[ix]!.2.set:=(by rw[s3,b2];rw[YM k2]);rw[YG k3]at c2;cases c2
 simp only[upd];rw[XV (by omega),XV (by omega)]
def ZaY{z:Zon}{l:List Chg}(hz:dO z)(hcs : ∀c∈l,fZ c=true)(hll:l.length<=1000)(hn:yB z l=none)(h:H)(n:Nat):bT prog 50 [.agg z.d,.list false (l.map Chg.d)] h n (λd h' n'=>d = .tuple [.agg [.v (.string (bs [])),.list true []],.i 6] /\ ∀q b,q<n->h q=some b->b.ty≠84->b.ty≠57->h' q=some b) :=
 (Pk z l h n hz hcs hll).mono λd h' n'⟨h1,h2⟩=>by
  rcases h1 with⟨_,e⟩|⟨y,zc,rs,p,hs,_⟩
  . exact⟨e,h2⟩
  rw[hn]at hs;cases hs
def ZaX{z y:Zon}{l:List Chg}(hz:dO z)(hcs : ∀c∈l,fZ c=true)(hll:l.length<=1000)(hy:yB z l=some y)(h:H)(n:Nat):bT prog 50 [.agg z.d,.list false (l.map Chg.d)] h n (λd h' n'=>∃zc rs p,d = .tuple [.agg [.v (.string (bs z.apex)),.mrow rs 0 p.length],.i 0]/\ZM 24 84 57 zc rs z.apex p h'/\lP p=y.sets/\zc<n'/\rs<n'/\(∀x∈p,x.1<n') /\ ∀q b,q<n->h q=some b->b.ty≠84->b.ty≠57->h' q=some b) :=
 (Pk z l h n hz hcs hll).mono λd h' n'⟨h1,h2⟩=>by
  rcases h1 with⟨hs,_⟩|⟨y',zc,rs,p,hs,e,k1,k2,k3,k4,k5⟩
  . rw[hy]at hs;cases hs
  rw[hy]at hs
  cases hs
  exact⟨zc,rs,p,e,k1,k2,k3,k4,k5,h2⟩
def Pb{n a:Str}(hn:az n=true)(ha:az a=true):kr n a=ik n a:=Zaz hn ha
theorem upz_1{z:Zon}{u:Upd}(h:aI z=false\/jS u=false):fF z u=(dE,1):=by unfold fF;rw[X3 h]
theorem upz_2{z:Zon}{u:Upd}(h1:aI z=true)(h2:jS u=true)(h:jE z=false):fF z u=(dE,12):=by
 unfold fF;rw[XV (by rw[h1,h2];simp),X3 h]
theorem O6{z:Zon}{u:Upd}(h1:aI z=true)(h2:jS u=true)(h3:jE z=true)(h:kJ z u.needs=true\/kJ z u.chgs=true):fF z u=(dE,20):=by
 unfold fF;rw[XV (by rw[h1,h2];simp),XV (by rw[h3];simp),X3 h]
theorem upz_4{z:Zon}{u:Upd}(h1:aI z=true)(h2:jS u=true)(h3:jE z=true)(h4 : ¬(kJ z u.needs=true\/kJ z u.chgs=true))(h:wK z u.needs=false):fF z u=(dE,24):=by
 unfold fF;rw[XV (by rw[h1,h2];simp),XV (by rw[h3];simp),XV h4,X3 h]
def upz_5{z:Zon}{u:Upd}(h1:aI z=true)(h2:jS u=true)(h3:jE z=true)(h4 : ¬(kJ z u.needs=true\/kJ z u.chgs=true))(h5:wK z u.needs=true)(h:yB z u.chgs=none):fF z u=(dE,6):=by
 unfold fF;rw[XV (by rw[h1,h2];simp),XV (by rw[h3];simp),XV h4,XV (by rw[h5];simp),h]
def upz_6{z y:Zon}{u:Upd}(h1:aI z=true)(h2:jS u=true)(h3:jE z=true)(h4 : ¬(kJ z u.needs=true\/kJ z u.chgs=true))(h5:wK z u.needs=true)(h:yB z u.chgs=some y):fF z u=(vQ z y,0):=by
 unfold fF;rw[XV (by rw[h1,h2];simp),XV (by rw[h3];simp),XV h4,XV (by rw[h5];simp),h]
def ZgZ{z:Zon}(h:aI z=true)(hz:nS z){n:Chg}(hn:az n.set.name=true):qx z n=holdB z n:=by
 have key:di z.sets n.q=decide (0<=dM z.sets n.q):=JF hz (by exact hn)
 have key2:0<=dM z.sets n.q->z.sets[bg z.sets n.q]! = z.sets[(dM z.sets n.q).toNat]! := Vj hz (by exact hn)
 unfold qx holdB
 by_cases h1:n.kind=1
 . simp[h1,SQ]
 by_cases h2:n.kind=2
 . simp[h2,SQ]
 rw[XV (by omega),XV h1,XV h2]
 by_cases h3:n.kind=3
 . simp[h3,key]
 rw[XV h3]
 by_cases h4:n.kind=4
 . rw[X3 h4,X3 h4,key,YK];simp
 rw[XV h4,XV h4,key]
 by_cases h0:0<=dM z.sets n.q
 . simp[h0,h3,key2 h0]
 simp[h0]
def SI{n:Chg}(h:ja n=true):az n.set.name=true:=by
 unfold ja at h
 rw[XU]at h
 exact h.1
theorem Wu{z:Zon}{l:List Chg}{k:Nat}(hk:k<l.length)(h:ik l[k]!.set.name z.apex=false):kJ z l=true:=by
 unfold kJ
 rw[Ya,Bool.eq_false_iff,Ne,eu]
 intro q
 have:ik l[k]!.set.name z.apex=true:=q k (Yi _) hk
 rw[h]at this;cases this
def Wt{z:Zon}{l:List Chg}(h:aA l.length (λi=>ik l[i]!.set.name z.apex) 0=true):kJ z l=false:=by
 unfold kJ;rw[h];rfl
theorem Zji{z y:Zon}(hz:dO y)(ha:y.apex=z.apex):vQ z y=⟨z.apex,(vQ z y).sets⟩:=by
 obtain⟨m,_,_,e⟩:=Wz (z:=z) hz
 rw[e]
 show sw y m=⟨z.apex,(sw y m).sets⟩
 rw[<-ha]
 rfl
def Za2(z:Zon)(u:Upd):PureCt prog 16 [.agg z.d,.agg u.d] (.tuple [.agg (fF z u).1.d,.i (fF z u).2]):=by
 refine oO func16 λff=>?_
 unfold f16
 refine aa Tp ?_
 refine oK Tp ?_ ?_ (hok:=oI (Zam u) (xw z))<;>intro c1
 . refine aa Tp ?_;exact fo 6 (k:=by rw[upz_1 (by grind)];rfl)
 have hz:aI z=true:=by grind
 have hu:jS u=true:=by grind
 have zo:=lF hz
 have zlen:=zo.len
 have hnl:=Zat hu
 have hcl:=Kr hu
 have C9:u.needs.length<=20/\u.chgs.length<=20:=by have h9:=hu;simp only[jS,XU,XX]at h9;exact h9.1.1
 refine oK Tp ?_ ?_ (hok:=oH (Zar z om))<;>intro c2
 . refine aa Tp ?_;exact fo 6 (k:=by rw[upz_2 hz hu c2];rfl)
 have hpl:jE z=true:=by grind
 have hpz:=dO.mk' hz hpl
 refine ae ?_
 refine aa Tp ?_
 refine ah ?_
 refine lp (α:=(Nat)×Nat) [2,3,4,28,29] (λ⟨k,nx⟩=>(k<=u.needs.length)/\(aA u.needs.length ((λi=>ik u.needs[i]!.set.name z.apex)) 0=aA u.needs.length ((λi=>ik u.needs[i]!.set.name z.apex)) k)/\(2<nx)/\True) (λ⟨k,nx⟩=>u.needs.length-k) (λ⟨k,nx⟩=>[(30,.i k)]) (λ⟨k,nx⟩=>[(0,⟨24,[z.d]⟩),(1,⟨68,[u.d]⟩),(2,⟨24,[[.v (.string (bs [])),.list true []]]⟩)]) (λ⟨k,nx⟩=>nx) (0,_) (hA:=⟨iv,rfl,iv,trivial⟩) (round:=?_)
 rintro⟨k,nx⟩ ⟨hk,hv1,hx, -⟩
 simp only[XY,XZ]
 have ff:=qA @hx ff
 refine aa Tp ?_
 refine ae ?_
 refine cd ?_ ?_ (hp:=rfl)<;>intro c3
 .
  have hk2:k<u.needs.length:=by simpa using c3
  have ET:=Pb (SI (hnl _ (eO hk2))) zo.apex;have ff:=qB (Dm hk2) @ET ff;refine aj ?_;refine ae ?_;refine ah ?_;refine aa Tp ?_;refine aa Tp ?_ (hok:=oH (by have h9:=O4 u.needs[k]!.set.name z.apex;rw[ET]at h9;exact h9))
  refine cd ?_ ?_<;>intro c4
  . refine aa Tp ?_;exact fo 6 (k:=by rw[O6 hz hu hpl (.inl (Wu hk2 c4))];rfl)
  refine aj ?_;refine ai Tp ?_
  show ∃_,_
  have h8:((λi=>ik u.needs[i]!.set.name z.apex)) k=true:=by simpa using c4
  exact ay (k+1,_) (h1:=⟨iv,o4p,iv,trivial⟩)
 have hk3:k=u.needs.length:=by omega
 subst hk3
 have hcut1:kJ z u.needs=false:=Wt (by rw[hv1,gW (by omega)])
 refine aK ?_
 refine ae ?_
 refine aa Tp ?_
 refine ah ?_
 refine lp (α:=(Nat)×Nat) [2,3,4,44,45] (λ⟨k,nx⟩=>(k<=u.chgs.length)/\(aA u.chgs.length ((λi=>ik u.chgs[i]!.set.name z.apex)) 0=aA u.chgs.length ((λi=>ik u.chgs[i]!.set.name z.apex)) k)/\(2<nx)/\True) (λ⟨k,nx⟩=>u.chgs.length-k) (λ⟨k,nx⟩=>[(46,.i k)]) (λ⟨k,nx⟩=>[(0,⟨24,[z.d]⟩),(1,⟨68,[u.d]⟩),(2,⟨24,[[.v (.string (bs [])),.list true []]]⟩)]) (λ⟨k,nx⟩=>nx) (0,_) (hA:=⟨iv,rfl,iv,trivial⟩) (round:=?_)
 rintro⟨k,nx⟩ ⟨hk,hv2,hx, -⟩
 simp only[XY,XZ]
 have ff:=qA @hx ff
 refine aa Tp ?_
 refine ae ?_
 refine cd ?_ ?_ (hp:=rfl)<;>intro c5
 .
  have hk2:k<u.chgs.length:=by simpa using c5
  have ET:=Pb (BM (hcl _ (eO hk2))) zo.apex;have ff:=qB (Dm hk2) @ET ff;refine aj ?_;refine ae ?_;refine ah ?_;refine aa Tp ?_;refine aa Tp ?_ (hok:=oH (by have h9:=O4 u.chgs[k]!.set.name z.apex;rw[ET]at h9;exact h9))
  refine cd ?_ ?_<;>intro c6
  . refine aa Tp ?_;exact fo 6 (k:=by rw[O6 hz hu hpl (.inr (Wu hk2 c6))];rfl)
  refine aj ?_;refine ai Tp ?_
  show ∃_,_
  have h8:((λi=>ik u.chgs[i]!.set.name z.apex)) k=true:=by simpa using c6
  exact ay (k+1,_) (h1:=⟨iv,(by(try dsimp only);rw[hv2,bF hk2 h8]),iv,trivial⟩)
 have hk3:k=u.chgs.length:=by omega
 subst hk3
 have hcut2:kJ z u.chgs=false:=Wt (by rw[hv2,gW (by omega)])
 have hcut : ¬(kJ z u.needs=true\/kJ z u.chgs=true):=by rw[hcut1,hcut2];simp
 refine aK ?_
 refine ae ?_
 refine aa Tp ?_
 refine ah ?_
 refine lp (α:=(Nat)×Nat) [2,3,4,60,61] (λ⟨k,nx⟩=>(k<=u.needs.length)/\(aA u.needs.length ((λi=>holdB z u.needs[i]!)) 0=aA u.needs.length ((λi=>holdB z u.needs[i]!)) k)/\(2<nx)/\True) (λ⟨k,nx⟩=>u.needs.length-k) (λ⟨k,nx⟩=>[(62,.i k)]) (λ⟨k,nx⟩=>[(0,⟨24,[z.d]⟩),(1,⟨68,[u.d]⟩),(2,⟨24,[[.v (.string (bs [])),.list true []]]⟩)]) (λ⟨k,nx⟩=>nx) (0,_) (hA:=⟨iv,rfl,iv,trivial⟩) (round:=?_)
 rintro⟨k,nx⟩ ⟨hk,hv3,hx, -⟩
 simp only[XY,XZ]
 have ff:=qA @hx ff
 refine aa Tp ?_
 refine ae ?_
 refine cd ?_ ?_ (hp:=rfl)<;>intro c7
 .
  have hk2:k<u.needs.length:=by simpa using c7
  have hhp:=ZgZ hz zo (SI (hnl _ (eO hk2)));have ff:=qB (Dm hk2) @hhp ff;refine aj ?_;refine ae ?_;refine ah ?_;refine aa Tp ?_;refine aa Tp ?_ (hok:=oH (by have h9:=ZaL z u.needs[k]! (by omega) (λs hs=>by have:=(zo.ok s hs).len;omega);rw[hhp]at h9;exact h9))
  refine cd ?_ ?_<;>intro c8
  . refine aa Tp ?_;exact fo 6 (k:=by rw[upz_4 hz hu hpl hcut (by unfold wK;rw[hv3];exact eF (p:=(λi=>holdB z u.needs[i]!)) hk2 c8)];rfl)
  refine aj ?_;refine ai Tp ?_
  show ∃_,_
  have h8:((λi=>holdB z u.needs[i]!)) k=true:=by simpa using c8
  exact ay (k+1,_) (h1:=⟨iv,(by(try dsimp only);rw[hv3,bF hk2 h8]),iv,trivial⟩)
 have hk3:k=u.needs.length:=by omega
 subst hk3
 have UI:wK z u.needs=true:=by unfold wK;rw[hv3,gW (by omega)]
 refine aK ?_
 rcases hcr:yB z u.chgs with _|y
 .
  have hfin:=upz_5 hz hu hpl hcut UI hcr;refine ae (bI Tp 3 (hct:=by exact ZaY hpz hcl om hcr _ _) (hk:=?_))
  rintro res h2 n2 ⟨rfl,hfr⟩
  try dsimp only at hfr
  have k0:=hfr 0 _ (by omega) ev o5p o5p
  have k2:=hfr 2 _ (by omega) ev o5p o5p
  have ff:=qB @k0 @k2 ff;refine bH Tp ?_;refine ae ?_;refine aa Tp ?_;refine cd ?_ ?_ (hp:=rfl) (hq:=rfl)<;>intro c9
  . refine aa Tp ?_;exact fo 6 (k:=by rw[hfin];rfl)
  exfalso;simp at c9
 have hfin:=upz_6 hz hu hpl hcut UI hcr
 have hp0:=J5 hpz hcl _ _ (XW _) hcr
 refine ae (bI Tp 3 (hct:=by exact ZaX hpz hcl om hcr _ _) (hk:=?_))
 rintro res h2 n2 ⟨zc,rs,p,rfl,uu,hlp,z1,z2,z3,hfr⟩
 try dsimp only at hfr
 have k0:=hfr 0 _ (by omega) ev o5p o5p
 have k2:=hfr 2 _ (by omega) ev o5p o5p
 have ff:=qB @k0 @k2 ff
 refine bH Tp ?_
 refine oK Tp ?_ ?_ (hp:=rfl) (hq:=rfl)<;>intro c9
 . exfalso;simp at c9
 have hy9:(⟨z.apex,lP p⟩:Zon)=y:=by rw[hlp,<-hp0.2]
 have hyp:dO ⟨z.apex,lP p⟩:=by rw[hy9];exact hp0.1
 refine ae (bI Tp 2 (hct:=by exact ZaR z zc rs p _ _ hpz hyp (uu.keep (λq hq9=>by have hqn:q<n2:=(by rcases hq9 with rfl|rfl|⟨x,hx,rfl⟩;exact z1;exact z2;exact z3 x hx);simp only[upd];repeat (first|rfl|rw[XV (by omega)])))) (hk:=?_))
 rintro res h3 n3 ⟨rfl,p2,hm2,hl2,hc2,hf2⟩
 try dsimp only at hf2
 have n2a:zc≠2:=λe=>by have h9:=uu.z;rw[e,k2]at h9;simp at h9
 have n2b:rs≠2:=λe=>by have h9:=uu.r;rw[e,k2]at h9;simp at h9
 have n2c : ∀x∈p,x.1≠2:=λx hx e=>by have h9:=uu.d x hx;rw[e,k2]at h9;simp at h9
 have m2:h3 2=some ⟨24,[[.v (.string (bs [])),.list true []]]⟩:=by rw[hf2 2 (by omega) n2a.symm n2b.symm (λx hx e=>n2c x hx e.symm)];simp only[upd];repeat (first|exact k2|rw[XV (by omega)])
 have m7:h3 (n2+7)=some ⟨24,[[.v (.string (bs z.apex)),.mrow rs 0 p.length]]⟩:=by rw[hf2 (n2+7) (by omega) (by omega) (by omega) (λx hx e=>by have:=z3 x hx;omega)];simp only[upd];repeat (first|rfl|rw[XV (by omega)]|rw[X3 rfl])
 have UE : ∀(H9:H)(d:D),(∀q,q≠2->H9 q=h3 q)->d = .tuple [.agg [.v (.string (bs z.apex)),.mrow rs 0 p.length],.i 0]->wk (Go.DL.snap H9 6 d) = .tuple [.agg (fF z u).1.d,.i (fF z u).2]/\dL H9 6 d:=by
  rintro H9 d hH rfl;have tu:ZM 24 84 57 zc rs z.apex p2 H9:=hm2.keep (λq hq=>hH q (by rcases hq with rfl|rfl|⟨x,hx,rfl⟩;exact n2a;exact n2b;exact λe=>by have h9:=hm2.d x hx;rw[e,m2]at h9;simp at h9))
  have hs:=tu.snap;rw[hl2]at hs;rw[hfin,Zji hp0.1 hp0.2];refine⟨?_,?_⟩
  .
   show D.tuple [wk (Go.DL.snap H9 5 (.agg [.v (.string (bs z.apex)),.mrow rs 0 p.length])),_]=_
   rw[hs.1,hc2,hy9];rfl
  intro c hc;simp only[Yl,YZ,or_false]at hc
  rcases hc with rfl|rfl
  . exact hs.2
  rfl
 have ff:=qB @m2 @m7 ff
 refine bH Tp ?_
 refine aa Tp ?_
 refine aN ?_
 refine fin 6 (hr:=?_) (hk:=?_)
 . exact(UE _ _ (λq hq=>aJ _ _ _ _ hq) o5l).1
 exact(UE _ _ (λq hq=>aJ _ _ _ _ hq) o5l).2
def QN(z:Zon)(hl:z.sets.length<=1000000):PureCt prog 20 [.agg z.d] (.b (jE z)):=by
 refine oO func20 λff=>?_
 unfold f20
 refine aa Tp ?_
 refine ae ?_
 refine aa Tp ?_
 refine ah ?_
 refine lp (α:=(Nat)×Nat) [1] (λ⟨k,nx⟩=>(k<=z.sets.length)/\(aA z.sets.length ((xH z.sets)) 0=aA z.sets.length ((xH z.sets)) k)/\(0<nx)/\True) (λ⟨k,nx⟩=>z.sets.length-k) (λ⟨k,nx⟩=>[(3,.i k)]) (λ⟨k,nx⟩=>[(0,⟨24,[z.d]⟩)]) (λ⟨k,nx⟩=>nx) (0,_) (hA:=⟨iv,rfl,iv,trivial⟩) (round:=?_)
 rintro⟨k,nx⟩ ⟨hk,hv,hx, -⟩
 simp only[XY,XZ]
 have ff:=qA @hx ff
 refine oL Tp ?_ ?_ (hp:=rfl)<;>intro c1
 .
  have hk2:k<z.sets.length:=by simpa using c1
  have ff:=qA (dB hk2) ff;refine ae ?_;refine ah ?_;refine aa Tp ?_;refine cd ?_ ?_<;>intro c2
  . refine aa Tp ?_;exact fo 0 (k:=by have hF:(xH z.sets) k=false:=(by simp only[xH];grind);simp only[jE];rw[hv,eF hk2 hF])
  refine aj ?_;refine ai Tp ?_
  show ∃_,_
  have h8:((xH z.sets)) k=true:=by simp only[xH];grind
  exact ay (k+1,_) (h1:=⟨iv,o4r,iv,trivial⟩)
 refine aK ?_
 refine aa Tp ?_
 exact fo 0 (k:=by simp only[jE];rw[hv,gW (by omega)])
open Go.Jn
def bo6:d9 prog 6=true:=by kernel_rfl
def ZdA(z:Zon)(l:List Upd):PureCt prog 6 [.agg z.d,.list false (l.map Upd.d)] (.b (wZ z l)):=by
 refine za func6 rfl bo6 o5h (by simp[Tryz.f6]) ?_
 unfold Tryz.f6
 simp only[Bf]
 have ff:=True.intro
 refine aa Tp ?_
 refine ae ?_
 refine aa Tp ?_ (hok:=by(try simp only[go_sem,ff]);all_goals (first|done|((repeat' (with_reducible apply And.intro))<;>first|(intros;exact Rj z)|exact(λ_=>H6 z)|exact(λh=>QN z (Vl (by grind)).1)|omega|(intro h;simp only[Bool.and_eq_true,decide_eq_true_eq]at h;omega)|(intros;omega)|(intros;simp_all;done)|skip)))
 refine cd ?_ ?_<;>intro c1
 . refine aa Tp ?_;refine aN ?_;exact fin 0 (hr:=by(try simp only[go_sem,ff]);all_goals (rw[ZhO (by grind)]))
 .
  have hf1:vN z=true:=by grind
  have hf2:jh z=true:=by grind
  have hf3:jE z=true:=by grind
  have hf4:l.length<=6:=by omega
  refine aj ?_
  show DW _ _ _ _ _
  refine ae ?_;refine aa Tp ?_;refine ah ?_;refine lp (α:=(Nat)×Nat) [25,26] (λ⟨k,nx⟩=>(k<=l.length)/\(aA l.length ((λi=>decide (l[i]!.needs.length<=10)&&decide (l[i]!.chgs.length<=10))) 0=aA l.length ((λi=>decide (l[i]!.needs.length<=10)&&decide (l[i]!.chgs.length<=10))) k)/\(0<nx)/\True) (λ⟨k,nx⟩=>l.length-k) (λ⟨k,nx⟩=>[(27,.i k)]) (λ⟨k,nx⟩=>[(0,⟨24,[z.d]⟩)]) (λ⟨k,nx⟩=>nx) (0,_) (hA:=⟨iv,rfl,iv,trivial⟩) (round:=?_)
  rintro⟨k,nx⟩ ⟨hk,hv,hx, -⟩
  show DW _ _ _ _ { n:=_,t:=tab _,h:=_,nx:=_,e:=_ }
  simp only[XY,XZ];have ff:=qA @hx ff;refine aa Tp ?_;refine ae ?_;refine cd ?_ ?_ (hp:=rfl)<;>intro c2
  .
   have hk2:k<l.length:=by simpa using c2
   have ff:=qA (getD_upd hk2) ff;refine aj ?_
   show DW _ _ _ _ _
   refine ae ?_;refine ah ?_;refine aa Tp ?_;refine aa Tp ?_;refine cd ?_ ?_<;>intro c3
   . refine aa Tp ?_;refine aN ?_;exact fin 0 (hr:=by(try simp only[go_sem,ff]);all_goals (have hF:(λi=>decide (l[i]!.needs.length<=10)&&decide (l[i]!.chgs.length<=10)) k=false:=(by simp only[Yy,X4];omega);unfold wZ;rw[hf1,hf2,hf3,YG hf4,hv,eF hk2 hF];rfl))
   .
    refine aj ?_
    show DW _ _ _ _ _
    refine ai Tp ?_
    show ∃_,_
    have h8:((λi=>decide (l[i]!.needs.length<=10)&&decide (l[i]!.chgs.length<=10))) k=true:=by simp only[XU,XX];omega
    exact ay (k+1,_) (h1:=⟨iv,o4r,iv,trivial⟩)
  .
   have e8:k=l.length:=by omega
   subst e8;refine aK ?_
   show DW _ _ _ _ _
   refine aa Tp ?_;refine aN ?_;exact fin 0 (hr:=by(try simp only[go_sem,ff]);all_goals (unfold wZ;rw[hf1,hf2,hf3,YG hf4,hv,gW (by omega)];rfl))
@[go_sem]theorem all_zon9{l:List Zon}:(∀r∈l.map Zon.d,r.length=2)=True:=by
 apply eq_true
 intro r hr
 obtain⟨x,_,rfl⟩:=Yr.1 hr
 rfl
def dw_nh{ro:Option Nat}{c:Code}{Q:Exit->S->Prop}{s:S}(k : ∀hz,hz=s.h->DW prog ro c Q { n:=s.n,t:=s.t,h:=hz,nx:=s.nx,ok:=s.ok,e:=s.e }):DW prog ro c Q s:=k s.h rfl
@[go_sem]theorem keysOk_I{m:List Int}:kG prog 3 (xR m)=true:=by
 induction m with
 | nil=>rfl
 | cons a m ih=>rw[IQ];simp only[kG,ih,ko3,ZG]
def Er{z:Zon}(h:aI z=true):PureCt prog 21 [.agg z.d] (.i (cZ z)):=by
 have hr:jh z=true:=by rw[<-su];exact h
 exact ZdO z (by have:=Q0 hr;omega) (Ew hr) (Q3 hr)
def GD{z y:Zon}{u:Upd}{e:Int}(h:fF z u=(y,e)):PureCt prog 16 [.agg z.d,.agg u.d] (.tuple [.agg y.d,.i e]):=by
 have:=Za2 z u
 rwa [h]at this
def TC{a b:Int}(ha:iy a=true)(hb:iy b=true):PureCt prog 22 [.i a,.i b] (.tuple [.b (gV a b),.i 0]):=by
 have:=VP a b
 unfold mE at this
 rwa [ha,hb]at this
theorem yU{z:Zon}(h:aI z=true):iy (cZ z)=true:=by rw[<-Ar h];exact yT h
def O8{z y:Zon}{u:Upd}{e:Int}(h:fF z u=(y,e)):fH y.sets:=by
 by_cases he:e=0
 . subst he;obtain⟨y0,m⟩:=D7 h;exact sj m.plain.1.ok
 rw[Zav h he]
 exact⟨by decide,λk hk=>absurd hk (Nat.not_lt_zero k)⟩
def bo7:d9 prog 7=true:=by kernel_rfl
set_option maxHeartbeats 1000000 in
def Zc7(z:Zon)(l:List Upd)(hz:dO z)(hl:z.sets.length<=100)(Df:l.length<=6)(hc : ∀i,i<l.length->l[i]!.chgs.length<=10):PureCt prog 7 [.agg z.d,.list false (l.map Upd.d)] (.tuple [.list false ((mV z l).1.map Zon.d),.b (mV z l).2]):=by
 refine za func7 rfl bo7 o5h (by simp[Tryz.f7]) ?_
 unfold Tryz.f7
 simp only[Bf]
 have ff:=True.intro
 refine aa Tp ?_
 refine aa Tp ?_
 have h1:=Er hz.ok
 simp only[go_sem]at h1
 refine aa Tp ?_ (hok:=by(try simp only[go_sem,ff]);all_goals (first|done|((repeat' (with_reducible apply And.intro))<;>first|(intros;exact h1)|rfl|skip)))
 refine ae ?_
 refine aa Tp ?_
 refine ah ?_
 refine dw_nh (λhw9 hwe=>?_)
 dsimp only at hwe ⊢
 have h0m:hw9 6=some ⟨71,iU (xR ([z].map cZ))⟩:=by rw[hwe];simp only[go_sem,ff];first|done|exact rfl
 refine jk (α:=(Nat)×(List Zon)×(D)×(H)×Nat) [7,23,24] (λ⟨k,o,x9,hq,nx⟩=>(k<=l.length)/\(mf z l k=some o)/\(IsV 6 24 hq x9 o nx)/\(hq 6=some ⟨71,iU (xR (o.map cZ))⟩)/\(6<nx)/\True) (λ⟨k,o,x9,hq,nx⟩=>l.length-k) (λ⟨k,o,x9,hq,nx⟩=>[(6,x9),(25,.i k)]) (λ⟨k,o,x9,hq,nx⟩=>hq) (λ⟨k,o,x9,hq,nx⟩=>nx) (0,[z],.list true [[.v (.string (bs z.apex)),.list false (z.sets.map Sgd.d)]],hw9,_) (hA:=⟨iv,rfl,(.inl rfl),h0m,oW,trivial⟩) (round:=?_)
 rintro⟨k,o,x9,hq,nx⟩ ⟨hk,hv,hI,hm,Bn, -⟩
 show DW _ _ _ _ { n:=_,t:=tab _,h:=_,nx:=_,e:=_ }
 simp only[XY,XZ]
 obtain⟨hP,hol⟩:=Km hz hl hc k o hk hv
 have hlast:o.length-1<o.length:=by have:=hP.ne;omega
 have hLz:=(hP.pl _ hlast).ok
 have e1:((o.length:Int)-1).toNat=o.length-1:=by omega
 have ff:=qE @hm @e1 (uE hlast) (nG 6 nx) ff
 refine aa Tp ?_
 refine ae ?_
 refine cd ?_ ?_ (hp:=rfl)<;>intro c1
 .
  have hk2:k<l.length:=by simpa using c1
  have ff:=qA (getD_upd hk2) ff;refine aj ?_
  show DW _ _ _ _ _
  refine ae ?_;refine ah ?_;have hk2:k<l.length:=by simpa using c1
  refine aa Tp ?_
  rcases hI with rfl|⟨r,rfl,hr,hr0,hrx⟩
  .
   refine aa Tp ?_
   rcases hy:fF o[o.length-1]! l[k]! with⟨y,e⟩
   have Fj:=O8 hy;have ff:=qA @hy ff;refine aa Tp ?_ (hok:=by(try simp only[go_sem,ff]);all_goals (exact GD hy))
   refine ae ?_;refine aa Tp ?_ (hok:=o0g)
   refine cd ?_ ?_<;>intro c2
   .
    have hvs:mf z l (k+1)=some o:=by rw[Ag hv];unfold vU;rw[hy];exact X3 (c2.elim .inl λq=>.inr (YM q))
    refine aK ?_
    show DW _ _ _ _ _
    refine ai Tp ?_
    show ∃_,_
    exact ay (k+1,o,.list true (o.map Zon.d),_,_) (h1:=⟨iv,hvs,(.inl rfl),o3p,oW,trivial⟩) (h5:=λ_=>.inl rfl)
   .
    obtain rfl:e=0:=by grind
    have hne:y≠o[o.length-1]! := λq=>by have h9:=c2;rw[show mh y o[o.length-1]! = true from YG q]at h9;simp at h9
    obtain⟨y0,m⟩:=D7 hy;have hyp:=m.plain.1;have nC:jh y=true:=by rw[<-su];exact hyp.ok
    have ff:=qA @nC ff;refine aj ?_
    show DW _ _ _ _ _
    refine ae ?_;refine aa Tp ?_ (hok:=o2r)
    refine cd ?_ ?_ (hp:=rfl) (hq:=rfl)<;>intro c3
    . simp at c3
    .
     refine aj ?_
     show DW _ _ _ _ _
     have h2:=Er hLz;have h3:=Er hyp.ok;simp only[go_sem]at h2 h3;refine aa Tp ?_ (hok:=o1e)
     have h4:=TC (yU hLz) (yU hyp.ok);have h5:mE (cZ o[o.length-1]!) (cZ y)=(gV (cZ o[o.length-1]!) (cZ y),0):=by unfold mE;rw[yU hLz,yU hyp.ok];rfl
     have ff:=qA @h5 ff;refine aa Tp ?_ (hok:=by(try simp only[go_sem,ff]);all_goals (exact h4))
     refine ae ?_;refine aa Tp ?_;refine cd ?_ ?_ (hq:=rfl)<;>intro c4
     .
      have hvn:mf z l (k+1)=none:=by rw[Ag hv];unfold vU;rw[hy,XV o4n];exact X3 (c4.elim (λq=>.inr (.inl q)) λq=>.inr (.inr (YM q)))
      have nA:mV z l=([],false):=by unfold mV;rw[Kn hvn l.length (by omega)]
      have ff:=qA @nA ff;refine aa Tp ?_;refine aN ?_;exact fin 2 (hr:=o3n)
     .
      have c5:=c4
      try simp only[XX,X4,Yc,XU,Yd,Ya,Yq,Yy,YA,Zm,ZC,Zr,ne_eq]at c4
      have hvs:mf z l (k+1)=some (o++[y]):=by rw[Ag hv];unfold vU;rw[hy,XV o4n];exact XV o1k
      refine aj ?_
      show DW _ _ _ _ _
      have hset:=Mm (n:=cZ y) (o.map cZ) (λq=>by rw[show xP (o.map cZ) (cZ y)=true from YG q]at c4;simp at c4)
      have ff:=qA @hset ff;refine aa Tp ?_;refine ai Tp ?_
      show DW _ _ _ _ _
      refine ai Tp ?_
      show ∃_,_
      exact ay (k+1,o++[y],.mrow (nx+63) 0 (o.length+1),_,_) (h1:=⟨iv,hvs,o1d,o2j,oW,trivial⟩) (h5:=λ_=>.inl rfl)
  .
   have ff:=qD @hr (nH 6 r) (nG r nx) ff;refine aa Tp ?_
   rcases hy:fF o[o.length-1]! l[k]! with⟨y,e⟩
   have Fj:=O8 hy;have ff:=qA @hy ff;refine aa Tp ?_ (hok:=by(try simp only[go_sem,ff]);all_goals (exact GD hy))
   refine ae ?_;refine aa Tp ?_ (hok:=o0g)
   refine cd ?_ ?_<;>intro c2
   .
    have hvs:mf z l (k+1)=some o:=by rw[Ag hv];unfold vU;rw[hy];exact X3 (c2.elim .inl λq=>.inr (YM q))
    refine aK ?_
    show DW _ _ _ _ _
    refine ai Tp ?_
    show ∃_,_
    exact ay (k+1,o,.mrow r 0 o.length,_,_) (h1:=⟨iv,hvs,(by(try dsimp only);exact .inr ⟨r,rfl,by simp only[go_sem,ff];first|done|exact rfl,by omega,by omega⟩),o3p,oW,trivial⟩) (h5:=λ_=>.inl rfl)
   .
    obtain rfl:e=0:=by grind
    have hne:y≠o[o.length-1]! := λq=>by have h9:=c2;rw[show mh y o[o.length-1]! = true from YG q]at h9;simp at h9
    obtain⟨y0,m⟩:=D7 hy;have hyp:=m.plain.1;have nC:jh y=true:=by rw[<-su];exact hyp.ok
    have ff:=qA @nC ff;refine aj ?_
    show DW _ _ _ _ _
    refine ae ?_;refine aa Tp ?_ (hok:=o2r)
    refine cd ?_ ?_ (hp:=rfl) (hq:=rfl)<;>intro c3
    . simp at c3
    .
     refine aj ?_
     show DW _ _ _ _ _
     have h2:=Er hLz;have h3:=Er hyp.ok;simp only[go_sem]at h2 h3;refine aa Tp ?_ (hok:=o1e)
     have h4:=TC (yU hLz) (yU hyp.ok);have h5:mE (cZ o[o.length-1]!) (cZ y)=(gV (cZ o[o.length-1]!) (cZ y),0):=by unfold mE;rw[yU hLz,yU hyp.ok];rfl
     have ff:=qA @h5 ff;refine aa Tp ?_ (hok:=by(try simp only[go_sem,ff]);all_goals (exact h4))
     refine ae ?_;refine aa Tp ?_;refine cd ?_ ?_ (hq:=rfl)<;>intro c4
     .
      have hvn:mf z l (k+1)=none:=by rw[Ag hv];unfold vU;rw[hy,XV o4n];exact X3 (c4.elim (λq=>.inr (.inl q)) λq=>.inr (.inr (YM q)))
      have nA:mV z l=([],false):=by unfold mV;rw[Kn hvn l.length (by omega)]
      have ff:=qA @nA ff;refine aa Tp ?_;refine aN ?_;exact fin 2 (hr:=o3n)
     .
      have c5:=c4
      try simp only[XX,X4,Yc,XU,Yd,Ya,Yq,Yy,YA,Zm,ZC,Zr,ne_eq]at c4
      have hvs:mf z l (k+1)=some (o++[y]):=by rw[Ag hv];unfold vU;rw[hy,XV o4n];exact XV o1k
      refine aj ?_
      show DW _ _ _ _ _
      have hset:=Mm (n:=cZ y) (o.map cZ) (λq=>by rw[show xP (o.map cZ) (cZ y)=true from YG q]at c4;simp at c4)
      have ff:=qA @hset ff;refine aa Tp ?_;refine ai Tp ?_
      show DW _ _ _ _ _
      refine ai Tp ?_
      show ∃_,_
      exact ay (k+1,o++[y],.mrow (nx+63) 0 (o.length+1),_,_) (h1:=⟨iv,hvs,o1d,o2j,oW,trivial⟩) (h5:=λ_=>.inl rfl)
 .
  have e8:k=l.length:=by omega
  subst e8;have nA:mV z l=(o,true):=by unfold mV;rw[hv]
  have ff:=qA @nA ff;refine aK ?_
  show DW _ _ _ _ _
  rcases hI with rfl|⟨r,rfl,hr,hr0,hrx⟩
  . refine aa Tp ?_;refine aN ?_;exact fin 2 (hr:=o3n)
  . have ff:=qD @hr (nH 6 r) (nG r nx) ff;refine aa Tp ?_;refine aN ?_;exact fin 2 (hr:=o3n)
def bo17:d9 prog 17=true:=by kernel_rfl
def wC(n:Int)(l:List Int)(hl:l.length<=1000):PureCt prog 17 [.i n,.list false (l.map iR)] (.agg (gP n l).d):=by
 refine za func17 rfl bo17 o5h (by simp[f17]) ?_
 unfold f17
 simp only[Bf]
 have ff:=True.intro
 refine aa Tp ?_
 refine aa Tp ?_
 refine ae ?_
 refine yt 2 1 24 84 o4y (by rfl) o5l ?_
 simp only[YW,YO]
 refine aa Tp ?_
 refine ah ?_
 refine lp (α:=(Nat)×(Nat)×Nat) [1,4,5,19,20] (λ⟨k,r,nx⟩=>(k<=2)/\(r<nx)/\(2<r)/\True) (λ⟨k,r,nx⟩=>2-k) (λ⟨k,r,nx⟩=>[(21,.i k)]) (λ⟨k,r,nx⟩=>[(0,⟨24,[[.v (.string (bs [])),.list true []]]⟩),(2,⟨24,[[.v (.string (bs [120])),.mrow r 0 k]]⟩),(r,⟨84,([[.v (.string (bs [120])),.i 2,.i 0,.list true [[.v (.string (bs [97,46,110,115])),.i 0,.i 0]],.list true []],[.v (.string (bs [120])),.i 4,.i 0,.list true [[.v (.string (bs [])),.i n,.i 0]],.list true []]]).take k⟩)]) (λ⟨k,r,nx⟩=>nx) (0,4,_) (hA:=⟨iv,iv,iv,trivial⟩) (round:=?_)
 rintro⟨k,r,nx⟩ ⟨hk,hr,hr0, -⟩
 show DW _ _ _ _ { n:=_,t:=tab _,h:=_,nx:=_,e:=_ }
 simp only[XY,XZ]
 have n0:2<nx:=by omega
 have ff:=qF @hr @n0 (nH 0 2) (nH 0 r) (nH 2 r) ff
 refine aa Tp ?_
 refine ae ?_
 refine cd ?_ ?_ (hp:=rfl)<;>intro c1
 .
  have h01:k=0\/k=1:=by have h9:(k:Int)<2:=(by simpa using c1);omega
  refine aj ?_
  show DW _ _ _ _ _
  refine ae ?_;refine ah ?_
  rcases h01 with e0|e0
  .
   have ff:=qA @e0 ff;refine aa Tp ?_;refine ai Tp ?_
   show DW _ _ _ _ _
   refine ai Tp ?_
   show ∃_,_
   exact ay (k+1,(nx+10),_) (h1:=⟨iv,iv,iv,trivial⟩) (h3:=o1s) (h4:=o1s) (h5:=o1s)
  .
   have ff:=qA @e0 ff;refine aa Tp ?_;refine ai Tp ?_
   show DW _ _ _ _ _
   refine ai Tp ?_
   show ∃_,_
   exact ay (k+1,(nx+10),_) (h1:=⟨iv,iv,iv,trivial⟩) (h3:=o1s) (h4:=o1s) (h5:=o1s)
 .
  refine aK ?_
  show DW _ _ _ _ _
  refine ae ?_;have e9:k=2:=by have h9 : ¬(k:Int)<2:=(by simpa using c1);omega
  subst e9;refine aa Tp ?_;refine cd ?_ ?_ (hp:=rfl) (hq:=rfl)<;>intro c2
  .
   have hl0:0<l.length:=by simpa using c2
   refine aa Tp ?_;refine ae ?_;refine yt (nx+5) 3 60 57 o4y (by rfl) o5l ?_
   simp only[YW,YO];refine aa Tp ?_;refine ah ?_;refine lp (α:=(Nat)×(Nat)×(Nat)×Nat) [4,5,37,38] (λ⟨k2,r2,s9,nx⟩=>(k2<=l.length)/\(r<s9)/\(s9<r2)/\(r2<nx)/\True) (λ⟨k2,r2,s9,nx⟩=>l.length-k2) (λ⟨k2,r2,s9,nx⟩=>[(8,.mptr s9 0 0),(39,.i k2)]) (λ⟨k2,r2,s9,nx⟩=>[(0,⟨24,[[.v (.string (bs [])),.list true []]]⟩),(2,⟨24,[[.v (.string (bs [120])),.mrow r 0 2]]⟩),(r,⟨84,[[.v (.string (bs [120])),.i 2,.i 0,.list true [[.v (.string (bs [97,46,110,115])),.i 0,.i 0]],.list true []],[.v (.string (bs [120])),.i 4,.i 0,.list true [[.v (.string (bs [])),.i n,.i 0]],.list true []]]⟩),(s9,⟨60,[[.v (.string (bs [119,46,120])),.i 1,.i 0,.mrow r2 0 k2]]⟩),(r2,⟨57,(l.take k2).map dI⟩)]) (λ⟨k2,r2,s9,nx⟩=>nx) (0,(nx+7),(nx+5),_) (hA:=⟨iv,iv,iv,iv,trivial⟩) (round:=?_)
   rintro⟨k2,r2,s9,nx⟩ ⟨hk2,hrs,Db,hr2, -⟩
   show DW _ _ _ _ { n:=_,t:=tab _,h:=_,nx:=_,e:=_ }
   simp only[XY,XZ];have n1:s9<nx:=by omega
   have n2:r<nx:=by omega
   have n3:2<nx:=by omega
   have hlk:(l.take k2).length=k2:=by simp;omega
   have ff:=qH @hr2 @n1 @n2 @n3 @hlk (nH 0 2) (nH 0 r) (qI (nH 0 s9) (nH 0 r2) (nH 2 r) (nH 2 s9) (nH 2 r2) (nH r s9) (nH r r2) (nH r2 s9) ff);refine aa Tp ?_;refine ae ?_;refine cd ?_ ?_ (hp:=rfl)<;>intro c3
   .
    have hk3:k2<l.length:=by simpa using c3
    have ff:=qA (UO hk3) ff;refine aj ?_
    show DW _ _ _ _ _
    refine ae ?_;refine ah ?_;refine aa Tp ?_;refine ai Tp ?_
    show DW _ _ _ _ _
    refine ai Tp ?_
    show ∃_,_
    have e5:(l.take (k2+1)).map dI=(l.take k2).map dI++[dI l[k2]!]:=by rw[qY! hk3,YT];rfl
    have ff:=qA e5 ff;exact ay (k2+1,(nx+9),s9,_) (h1:=⟨iv,iv,iv,iv,trivial⟩) (h3:=o1s) (h4:=o1s) (h5:=o1s)
   .
    have e8:k2=l.length:=by omega
    subst e8;refine aK ?_
    show DW _ _ _ _ _
    refine yw s9 3 r2 (rows:=l.map dI) (off:=0) (len:=l.length) ev rfl ev (by omega) (by simp) ZeZ ?_
    simp only[X6,yQ,YW,YO];refine ai Tp ?_
    show DW _ _ _ _ _
    refine aa Tp ?_;refine aN ?_;exact fin 5 (hr:=by(try simp only[go_sem,ff]);all_goals (exact congrArg D.agg (rz_1 hl0).symm))
  .
   have hl0 : ¬0<l.length:=by simpa using c2
   refine aj ?_
   show DW _ _ _ _ _
   refine aa Tp ?_;refine aN ?_;exact fin 5 (hr:=by(try simp only[go_sem,ff]);all_goals (exact congrArg D.agg (rz_0 hl0).symm))
noncomputable def yV:aG:=dD (gP 1 []) (gP 2 [7])
noncomputable def K6:dn:=⟨[],[cO 1 (dY (gP 1 []))]⟩
noncomputable def K5:dn:=⟨[],[cO 1 (dY (gP 1 [])),cO 2 (dC yV)]⟩
noncomputable def K4:dn:=⟨cO 1 (dY (gP 1 []))++cO 2 (dC yV),[]⟩
def rz1:fF (gP 1 []) ⟨[],[rzC]⟩=(gP 2 [7],0):=by kernel_rfl
def rz2:kW (gP 1 []) (gP 2 [7])=(yV,0):=by kernel_rfl
def rz3:rW (gP 1 [])=(K6,0):=by kernel_rfl
def rz4:mP K6 yV=(K5,0):=by kernel_rfl
def rz5:qZ K5=(K4,0):=by kernel_rfl
def rz6:oQ K4=(gP 2 [7],0):=by kernel_rfl
def rz7:kL ⟨true,gP 1 [],0⟩ [gP 1 [],gP 2 [7]] 5=(⟨true,gP 2 [7],5⟩,0):=by kernel_rfl
def rzl:(cO 1 (dY (gP 1 []))).length<=1000/\(cO 2 (dC yV)).length<=1000:=⟨YM (show decide ((cO 1 (dY (gP 1 []))).length<=1000)=true by kernel_rfl),YM (show decide ((cO 2 (dC yV)).length<=1000)=true by kernel_rfl)⟩
def rzs0:mU K6:=⟨λp hp=>(by have:=rzl;rw[Yn.1 hp];omega),by decide,by decide⟩
def rzs1:mU K5:=⟨λp hp=>(by have:=rzl;rcases Yl.1 hp with e|e;rw[e];omega;rw[Yn.1 e];omega),by decide,by decide⟩
def rzs2:mU K4:=⟨λp hp=>(by cases hp),by(have:=rzl;show(_++_:Str).length<=_;rw[X0];omega),by decide⟩
def rzp:dO (gP 1 []):=.mk' (by kernel_rfl) (by kernel_rfl)
def rzq:dO (gP 2 [7]):=.mk' (by kernel_rfl) (by kernel_rfl)
def rzf:fH (gP 2 [7]).sets:=sj rzq.ok
def rzfx:fH yV.put:=Lm rzf
def rzsx:BS yV:=λs hs g hg=>by(rw[rzq.sig s ((put_mem rzp.ord).1 hs).1]at hg;cases hg)
def rzg:PureCt prog 13 [.agg (gP 2 [7]).d,.agg (gP 2 [7]).d] (.b true):=by have:=Co (gP 2 [7]) (gP 2 [7]) rzf;rwa [Hm]at this
def NG{a b:Zon}{x:aG}{e:Int}(h:kW a b=(x,e)):PureCt prog 9 [.agg a.d,.agg b.d] (.tuple [.agg x.d,.i e]):=by have:=VY a b;rwa [h]at this
def Oi{z:Zon}{x:dn}{e:Int}(hu:Gl z)(h:rW z=(x,e)):PureCt prog 8 [.agg z.d] (.tuple [.agg x.d,.i e]):=by have:=ZgB z hu;rwa [h]at this
def Xo{d y:dn}{x:aG}{e:Int}(h1:mU d)(h2:fH x.put)(h3:BS x)(h:mP d x=(y,e)):PureCt prog 10 [.agg d.d,.agg x.d] (.tuple [.agg y.d,.i e]):=by have:=ZgC d x h1 h2 h3;rwa [h]at this
def PD{d y:dn}{e:Int}(h1:mU d)(h:qZ d=(y,e)):PureCt prog 11 [.agg d.d] (.tuple [.agg y.d,.i e]):=by have:=Zgn d h1;rwa [h]at this
def Tq{d:dn}{y:Zon}{e:Int}(h1:mU d)(h:oQ d=(y,e)):PureCt prog 12 [.agg d.d] (.tuple [.agg y.d,.i e]):=by have:=Zgw d h1;rwa [h]at this
def Ib{s x:gN}{l:List Zon}{t e:Int}(h:kL s l t=(x,e)):PureCt prog 14 [.agg s.d,.list false (l.map Zon.d),.i t] (.tuple [.agg x.d,.i e]):=by have:=Za9 s l t;rwa [h]at this
def QI{z:Zon}{l:List Upd}{o:List Zon}{b:Bool}(hz:dO z)(hl:z.sets.length<=100)(Df:l.length<=6)(hc : ∀i,i<l.length->l[i]!.chgs.length<=10)(h:mV z l=(o,b)):PureCt prog 7 [.agg z.d,.list false (l.map Upd.d)] (.tuple [.list false (o.map Zon.d),.b b]):=by have:=Zc7 z l hz hl Df hc;rwa [h]at this
def Hl{x:Zon}(h:aI x=true):PureCt prog 13 [.agg x.d,.agg x.d] (.b true):=by have:=Co x x (sj h);rwa [Hm]at this
@[go_sem]theorem i00a:((0:Int)==0)=true:=rfl
def Zc6  : PureCt prog 5 [] (.b true):=by
 refine oO func5 λff=>?_
 unfold Tryz.f5
 have ff:=qI @rz1 @rz2 @rz3 @rz4 @rz5 @rz6 @rz7 @Hm ff
 refine oC Tp ?_
 refine aa lZ ?_ (hok:=by(try simp only[go_sem,ff]);all_goals (first|done|((repeat' (with_reducible apply And.intro))<;>first|(intros;exact wC 1 [] (by decide))|(intros;exact GD rz1)|skip)))
 refine aa lZ ?_ (hok:=by(try simp only[go_sem,ff]);all_goals (first|done|((repeat' (with_reducible apply And.intro))<;>first|(intros;exact wC 1 [] (by decide))|(intros;exact NG rz2)|skip)))
 refine aa Tp ?_ (hok:=by(try simp only[go_sem,ff]);all_goals (first|done|((repeat' (with_reducible apply And.intro))<;>first|(intros;exact wC 1 [] (by decide))|(intros;exact Oi (Ic rzp) rz3)|skip)))
 refine aa Tp ?_ (hok:=ig (Xo rzs0 rzfx rzsx rz4))
 refine aa Tp ?_ (hok:=ig (PD rzs1 rz5))
 refine aa Tp ?_ (hok:=ig (Tq rzs2 rz6))
 refine aa lZ ?_ (hok:=by(try simp only[go_sem,ff]);all_goals (first|done|((repeat' (with_reducible apply And.intro))<;>first|(intros;exact wC 1 [] (by decide))|(intros;exact Ib rz7)|skip)))
 refine aa Tp ?_
 refine aa Tp ?_ (hok:=by(try simp only[go_sem,ff]);all_goals (first|done|((repeat' (with_reducible apply And.intro))<;>first|(intros;exact wC 2 [7] (by decide))|(intros;exact rzg)|skip)))
 exact oN (fin 0 (hr:=o3n))
set_option maxHeartbeats 2000000 in
theorem lawZA_ct(z:Zon)(l:List Upd)(w:Int)(hw:0<=w/\w<256):PureCt prog 3 [.agg z.d,.list false (l.map Upd.d),.v (.int .u8 w)] (.b true):=by
 refine oO func3 λff=>?_
 unfold Tryz.f3
 have w1:IntKind.i64.wrap w=w:=by rw[IntKind.wrap_i64];omega
 have ff:=qB @w1 @Hm ff
 refine aa Tp ?_
 refine aa Tp ?_ (hok:=oF Zc6)
 refine oK Tp ?_ ?_ (hok:=oH (ZdA z l)) (hp:=rfl)<;>intro c1
 . refine aa Tp ?_;exact fp 0
 have hq:wZ z l=true:=by grind
 obtain⟨hpz,hsz,Df,hcc⟩:=ZhP hq
 rcases hv:mf z l l.length with _|o
 .
  have nA:mV z l=([],false):=by unfold mV;rw[hv]
  have ff:=qA @nA ff;refine aa Tp ?_ (hok:=oF (QI hpz hsz Df hcc nA));refine ae ?_;refine aa Tp ?_;refine cd ?_ ?_ (hp:=rfl) (hq:=rfl)<;>intro c2
  . refine aa Tp ?_;exact fp 0
  simp at c2
 have nA:mV z l=(o,true):=by unfold mV;rw[hv]
 obtain⟨hP,hol⟩:=Km hpz hsz hcc _ o (XW _) hv
 have h7:o.length<=7:=by omega
 have hne:=hP.ne
 have hn0:((o.length:Int)==0)=false:=by rw[Zm];omega
 have hlast:o.length-1<o.length:=by omega
 have e1:((o.length:Int)-1).toNat=o.length-1:=by omega
 obtain⟨hb1,o0,hbg,_⟩:=ZjU hpz hsz
 have hb2:=hb1
 rw[<-JS (dA z) o]at hb2
 have hfst:=hP.fst
 have ff:=qH @nA @hn0 @hfst (uE hne) (uE hlast) @e1 @hb2 ff
 refine aa Tp ?_ (hok:=oF (QI hpz hsz Df hcc nA))
 refine oK Tp ?_ ?_ (hp:=rfl) (hq:=rfl)<;>intro c2
 . simp at c2
 refine aa Tp ?_ (hok:=ig (Oi (Ic hpz) hb2))
 refine ae ?_
 refine aa Tp ?_
 refine ah ?_
 refine lp (α:=(Nat)×Nat) [2,7,8,10,51] (λ⟨k,nx⟩=>(k<=o.length)/\(30<nx)/\True) (λ⟨k,nx⟩=>o.length-k) (λ⟨k,nx⟩=>[(11,.i 0),(52,.i k)]) (λ⟨k,nx⟩=>[(0,⟨24,[z.d]⟩),(30,⟨34,[(mM (dA z) o (k-1)).d]⟩)]) (λ⟨k,nx⟩=>nx) (0,_) (hA:=⟨iv,iv,trivial⟩) (round:=?_)
 rintro⟨k,nx⟩ ⟨hk,hx, -⟩
 simp only[XY,XZ]
 have ff:=qA @hx ff
 refine aa Tp ?_
 refine ae ?_
 refine cd ?_ ?_ (hp:=rfl)<;>intro c3
 .
  have hk2:k<o.length:=by simpa using c3
  have ff:=qA (uE hk2) ff;refine aj ?_;refine ae ?_;refine ah ?_;refine aa Tp ?_;refine oK Tp ?_ ?_<;>intro c4
  .
   have hk0:k=0:=by omega
   have hkn:k+1-1=k-1:=by omega
   have ff:=qA @hkn ff;refine aK ?_;refine ai Tp ?_
   show ∃_,_
   exact ay (k+1,_) (h1:=⟨iv,iv,trivial⟩)
  have hk1:k-1+1=k:=by omega
  have Fa:k+1-1=k:=by omega
  have e2:((k:Int)-1).toNat=k-1:=by omega
  have hdv:=hP.vers.difv (i:=k-1) (by omega)
  rw[hk1]at hdv;obtain⟨p9,_,_,_,_,_,hap⟩:=NN hP h7 hbg (k-1) om;have hap:=hap (by omega)
  rw[hk1]at hap;have hds:=Wh hP h7 hbg (k:=k-1) (by omega)
  have hdf:fH (jP o (k-1)).put:=by rw[(hP.vers.dok (i:=k-1) (by omega)).1];exact Lm (sj (hP.pl _ (by omega)).ok)
  have hdu:=(NH hP (i:=k-1) (by omega)).2
  have hki:k-1<o.length:=by omega
  have ff:=qF @Fa @e2 (uE hki) @hdv @hap ff;refine aa lZ ?_ (hok:=oH (NG hdv));refine oK Tp ?_ ?_ (hp:=rfl) (hq:=rfl)<;>intro c5
  . simp at c5
  refine ai Tp ?_ (hok:=oF (Xo hds hdf hdu hap));refine ai Tp ?_
  show ∃_,_
  exact ay (k+1,_) (h1:=⟨iv,iv,trivial⟩)
 have e8:k=o.length:=by omega
 subst e8
 obtain⟨s,hs1,hs2,hs3⟩:=agree_end hP h7 hbg
 obtain⟨j,hj⟩:∃j:Nat,w % (o.length:Int)=j:=⟨(w % (o.length:Int)).toNat,(Int.toNat_of_nonneg (Int.emod_nonneg _ om)).symm⟩
 have hjl:j<o.length:=by have:=Int.emod_lt_of_pos w (show(0:Int)<o.length by omega);omega
 have hp0:kL ⟨false,⟨[],[]⟩,0⟩ o 9=(⟨true,o[o.length-1]!,9⟩,0):=hP.pull0 h7 om om
 have hp1:kL ⟨true,o[j]!,0⟩ o 9=(⟨true,o[o.length-1]!,9⟩,0):=hP.pull h7 hjl om om
 have ff:=qG @hs1 @hs3 @hj (uE hjl) @hp0 @hp1 ff
 refine aK ?_
 refine aa Tp ?_ (hok:=oF (PD (Wh hP h7 hbg hlast) hs1))
 refine aa Tp ?_ (hok:=oF (Tq hs2 hs3))
 refine aa Tp ?_
 refine oK Tp (λc6=>?_) (λc6=>?_) (hok:=o0f) (hp:=rfl) (hq:=rfl)
 . simp at c6
 refine aa Tp ?_ (hok:=oF (Ib hp0))
 refine aa Tp ?_ (hok:=oH (Ib hp1))
 refine aa Tp ?_ (hok:=o0f)
 exact fp 0
end Go.Proofs.YtidphdaoejibcaaGreatDoor
