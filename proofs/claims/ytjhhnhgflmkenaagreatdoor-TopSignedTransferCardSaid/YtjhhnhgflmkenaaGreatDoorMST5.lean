/-
  MANY TEXTS OF MINE IN ONE (a claim has a limit of files): JbW4, JbW5, JbW6, JkW1, JkW2, JkW3, JkW4, JkW5, Jis, ZoW1, ZoW2, ZoW3, ZoW4, ZoW5, ReW1, ReW2, ReW3, DlW1, DlW6, DlW8, DlW9, DlW10, DlW11, DlW12, TrW1, JmW1, JmW2, JmW3, JmW4, JbW7, JbW8, JmW5, JmW6, TrW2, TrW3, UpW1, UpW2, UpW3, UpW4, UpW5, UpW6. Conditions: none.
-/
import Derived.WalkKit
import Derived.LaidEql
import Derived.Stop.Asserts
import Derived.RowKitTokens
import Derived.Test.YtjhhnhgflmkenaaGreatDoorMST4
set_option linter.unusedVariables false
set_option linter.unusedSimpArgs false
set_option linter.unusedSectionVars false
set_option linter.defProp false
set_option linter.unnecessarySimpa false
namespace Go.Proofs.YtjhhnhgflmkenaaGreatDoor
open Go.Proofs.Tryz
open Go.DL Go.Str Go.Rec Go.Cmp Go.Zon Go.Jn
set_option maxRecDepth 10000
theorem _root_.o3s{p:Prop}(h:p:=by simp_all [fits]):p:=h
theorem _root_.o3o{p:Prop}(h:p:=by simp[aX,D.nr,mM]):p:=h
theorem _root_.o3m{p:Prop}(h:p:=by dsimp only;omega):p:=h
theorem _root_.o3i{p:Prop}(h:p:=by rw[u,IZ (by omega)]):p:=h
theorem _root_.o3b{p:Prop}(h:p:=by simp[uP,dZ];rw[YD];simp):p:=h
theorem _root_.o3a{p:Prop}(h:p:=by simp[go_sem,aX,D.nr,aQ]):p:=h
theorem _root_.o2Z{p:Prop}(h:p:=by simp[go_sem,D.nr,aX,aQ]):p:=h
theorem _root_.o2Y{p:Prop}(h:p:=by exact Jg _ (Yd hs.2 om)):p:=h
theorem _root_.o2X{p:Prop}(h:p:=by exact Gb _ (Yd hs.1 om)):p:=h
theorem _root_.o2T{p:Prop}(h:p:=by simp only[gp];grind [aP]):p:=h
theorem _root_.o2S{p:Prop}(h:p:=by simp only[jg];grind [aP]):p:=h
theorem _root_.o2N{p:Prop}(h:p:=by rw[f];first|rfl|(simp;done)):p:=h
theorem _root_.o2M{p:Prop}(h:p:=by rw[lJ,X0 (by simp_all)];rfl):p:=h
theorem _root_.o2L{p:Prop}(h:p:=by first|exact p9 p|exact vz p):p:=h
theorem _root_.o2K{p:Prop}(h:p:=by first|exact p9 m|exact vz m):p:=h
theorem _root_.o2J{p:Prop}(h:p:=by first|exact I|simpa using I):p:=h
theorem _root_.o2H{p:Prop}(h:p:=by simp only[bV];rw[c];simp[a]):p:=h
theorem _root_.o2E{p:Prop}(h:p:=by(try dsimp only);rw[f,bC U T]):p:=h
theorem _root_.o2D{p:Prop}(h:p:=by(try dsimp only);rw[u,bC U T]):p:=h
theorem _root_.o2C{p:Prop}(h:p:=by exact zY mo _ _ R ⟨b7,ev⟩ uS):p:=h
theorem _root_.o2A{p:Prop}(h:p:=by first|done|grind|(simp;grind)):p:=h
theorem _root_.o2z{p:Prop}(h:p:=by rw[xu,f];first|rfl|(simp;done)):p:=h
theorem _root_.o2y{p:Prop}(h:p:=by rw[I];exact Bool.false_ne_true):p:=h
theorem _root_.o2w{p:Prop}(h:p:=by first|exact FI m t|exact FH m t):p:=h
theorem _root_.o2v{p:Prop}(h:p:=by simp only[X3,jd,j4,tu,Zw];omega):p:=h
theorem _root_.o2t{p:Prop}(h:p:=by simp only[go_sem,ff];first|done|rfl):p:=h
theorem _root_.o2p{p:Prop}(h:p:=by intro q K;obtain⟨b,_,rfl⟩:=Yp.1 K;rfl):p:=h
theorem _root_.o2l{p:Prop}(h:p:=by first|rfl|(simp;done)|exact J5 _|exact J6 _):p:=h
theorem _root_.o2i{p:Prop}(h:p:=by(try dsimp only);rw[List.length_append];omega):p:=h
theorem _root_.o2h{p:Prop}(h:p:=by show u<=(w.drop (1+4+8)).length;rw[Yw];omega):p:=h
theorem _root_.o2g{p:Prop}(h:p:=by(try simp only[go_sem,ff]);all_goals (rw[Yt])):p:=h
theorem _root_.o2f{p:Prop}(h:p:=by simp only[kg];rw[u,gB (by omega)];simp;omega):p:=h
theorem _root_.o2d{p:Prop}(h:p:=by(try dsimp only);rw[u,IY U (by simpa using I)]):p:=h
theorem _root_.o2c{p:Prop}(h:p:=by rw[<-Cn];simp only[yZ];(try rw[wU]at *);grind):p:=h
theorem _root_.o2a{p:Prop}(h:p:=by(try dsimp only);exact(g.trans (L.down om)).up om):p:=h
theorem _root_.o1X{p:Prop}(h:p:=by(try dsimp only);rw[<-t,I4 U jv,List.append_assoc]):p:=h
theorem _root_.o1P{p:Prop}(h:p:=by(try simp only[go_sem,ff]);all_goals (exact⟨rfl,rfl⟩)):p:=h
theorem _root_.o1K{p:Prop}(h:p:=by(try dsimp only);exact(rv xG (bE.refl (Nat.le_refl _)))):p:=h
theorem _root_.o1H{p:Prop}(h:p:=by first|(intro i J Y;omega)|(dsimp only;intro i J Y;omega)):p:=h
theorem _root_.o1G{p:Prop}(h:p:=by first|exact .inl (List.eq_nil_of_length_eq_zero p)|grind):p:=h
theorem _root_.o1D{p:Prop}(h:p:=by(try dsimp only);simp only[go_sem,ff];first|done|exact rfl):p:=h
theorem _root_.o1C{p:Prop}(h:p:=by simp only[sG,kX,show n.q=⟨n.set.name,n.set.ty⟩from rfl];grind):p:=h
theorem _root_.o1z{p:Prop}(h:p:=by(try dsimp only);exact⟨f8,by rw[aI _ _ _ _ (by omega)];exact sH⟩):p:=h
theorem _root_.o1x{p:Prop}(h:p:=by exact Gh 219 (a++fG l++b) _ _ 1 (c.mono oW) (by rw[X3,X3];omega)):p:=h
theorem _root_.o1v{p:Prop}(h:p:=by first|(simp_all [fT,under];done)|(simp;simp only[fT,under];grind)):p:=h
theorem _root_.o1u{p:Prop}(h:p:=by rw[ko,XV g,XV (by rw[j];exact Bool.noConfusion),XV (by omega)];rfl):p:=h
theorem _root_.o1q{p:Prop}(h:p:=by intro o k;simp only[Yl,Y2,or_false]at k;rcases k with rfl|rfl<;>rfl):p:=h
theorem _root_.o1p{p:Prop}(h:p:=by exact PU T l p.length _ _ W ((J.2.1).mono (by dsimp only;omega)) hl):p:=h
theorem _root_.o1n{p:Prop}(h:p:=by first|(exact f.mono (by omega))|(dsimp only;exact f.mono (by omega))):p:=h
theorem _root_.o1m{p:Prop}(h:p:=by first|(exact j.mono (by omega))|(dsimp only;exact j.mono (by omega))):p:=h
theorem _root_.o1l{p:Prop}(h:p:=by intro o k;simp only[X5,Yf,Yl,Y2,or_false]at k;rcases k with rfl<;>rfl):p:=h
theorem _root_.o1j{p:Prop}(h:p:=by first|(simp only[uR,t,a];done)|(simp only[uR,t,a];first|rfl|(simp;done))):p:=h
theorem _root_.o1i{p:Prop}(h:p:=by(try dsimp only);simp only[List.length_append,jd,tu,List.length_nil];omega):p:=h
theorem _root_.o1h{p:Prop}(h:p:=by exact wQ.rct (JL T l p.length _ _ W (E.last G _ (by dsimp only;omega)) hl)):p:=h
theorem _root_.o1f{p:Prop}(h:p:=by rw[o9,if_neg (by rw[N];exact Bool.noConfusion),c,if_neg (by grind)];try rfl):p:=h
theorem _root_.o1e{p:Prop}(h:p:=by rw[o9,if_neg (by rw[N];exact Bool.noConfusion),c,if_pos (by grind)];try rfl):p:=h
theorem _root_.o1c{p:Prop}(h:p:=by simp only[X9,X4,X5,Yf,S.put,Yq,Nat.reduceSub,go_sem,ff];first|done|exact rfl):p:=h
theorem _root_.o0W{p:Prop}(h:p:=by have j:(ng z) k=false:=(by simpa[ng,f]using I);simp only[ru];rw[g,ed U j];try simp):p:=h
theorem _root_.o0V{p:Prop}(h:p:=by first|rfl|(rw[Yt];done)|(simp only[Yt,go_sem];done)|(simp only[Yt];exact V9)|(simp;done)):p:=h
theorem _root_.o0U{p:Prop}(h:p:=by have g:(lu a l) k=false:=(by simp only[lu,aP];grind);simp only[kg];rw[u,ed U g];try simp):p:=h
theorem _root_.o0T{p:Prop}(h:p:=by have f:(lu a l) k=false:=(by simp only[lu,aP];grind);simp only[kg];rw[u,ed U f];try simp):p:=h
theorem _root_.o0S{p:Prop}(h:p:=by have g:(yE o) k=false:=(by simp only[yE];grind);simp only[kR];rw[u,ed U g];simp;try grind):p:=h
theorem _root_.o0R{p:Prop}(h:p:=by have f:(cutAt x) k=false:=(by simp only[cutAt];grind);simp only[mg];rw[u,ed U f];try simp):p:=h
theorem _root_.o0P{p:Prop}(h:p:=by have g:(lc x.z.sets) k=false:=(by simp only[lc];grind);simp only[sU];rw[u,ed U g];try simp):p:=h
theorem _root_.o0O{p:Prop}(h:p:=by rw[<-Cn];have j:(vH d) k=false:=(by simp only[vH];grind);simp only[yZ];rw[u,ed U j];try simp):p:=h
theorem _root_.o0N{p:Prop}(h:p:=by have g:(kL z.sets) k=false:=(by simp only[kL,lC,iT];grind);simp only[oZ];rw[u,ed U g];try simp):p:=h
theorem _root_.o0L{p:Prop}(h:p:=by have f:(cutAt ⟨z,gK z⟩) k=false:=(by simp only[cutAt];grind);simp only[uo,mg];rw[u,ed U f];try simp):p:=h
theorem _root_.o0K{p:Prop}(h:p:=by(try dsimp only);simp only[go_sem,ff,List.map_append,List.map_cons,List.map_nil];first|done|exact rfl):p:=h
theorem _root_.o0I{p:Prop}(h:p:=by rw[<-Cn];have j:(wy d.drop) k=false:=(by simp only[wy,ku,aP];grind);simp only[yZ];rw[f,ed U j];try simp):p:=h
theorem _root_.o0H{p:Prop}(h:p:=by first|exact p9 (z:=(⟨z.apex,iU (gF z d++d.put)⟩:Zon)) p|exact vz (z:=(⟨z.apex,iU (gF z d++d.put)⟩:Zon)) p):p:=h
theorem _root_.o0G{p:Prop}(h:p:=by have f:(lW z.apex z.sets) k=false:=(by simp only[lW];grind [Sgd.q]);simp only[ordered];rw[u,ed U f];try simp):p:=h
theorem _root_.o0D{p:Prop}(h:p:=by(try dsimp only);exact(jU.trans (W.down oW)).via (λp p1 p2=>aI _ _ _ _ (by omega)) (bE.refl (Nat.le_refl _)) (by omega)):p:=h
theorem _root_.o0C{p:Prop}(h:p:=by first|trivial|(repeat' with_reducible apply And.intro)<;>first|(intros;exact Gv _ _ (m _ (CW f)))|omega|(intro h;cases h)):p:=h
theorem _root_.o0B{p:Prop}(h:p:=by first|trivial|(repeat' with_reducible apply And.intro)<;>first|exact(λ_=>Oc _ _ (FQ hn o) (hn.2 _ U))|omega|(intros;omega)):p:=h
theorem _root_.o0A{p:Prop}(h:p:=by exact⟨rfl,by rw[ac,L];exact EU (GH qK hN A (by omega)) (by omega),(bE.via aq (λ_ _ _=>rfl) (jU.trans (G.down oW)) (XW _))⟩):p:=h
theorem _root_.o0z{p:Prop}(h:p:=by first|trivial|(repeat' with_reducible apply And.intro)<;>first|exact(λ_=>QC _ _ (Yd m.1 om))|exact(λ_=>ZaX _ _ (Yd m.2 om))):p:=h
theorem _root_.o0y{p:Prop}(h:p:=by first|trivial|(repeat' with_reducible apply And.intro)<;>first|(intros;exact M0 l[i]! q)|omega|(intro h;have h:=YP h;omega)):p:=h
theorem _root_.o0x{p:Prop}(h:p:=by first|trivial|(repeat' with_reducible apply And.intro)<;>first|(intros;exact Nh l[i]! n t)|omega|(intro h;have h:=YP h;omega)):p:=h
theorem _root_.o0v{p:Prop}(h:p:=by(try simp only[go_sem,ff]);all_goals (first|done|exact congrArg (λq=>some (dE.mk 4 q)) (rO U (by simp only[iW];grind))|(simp;done))):p:=h
theorem _root_.o0s{p:Prop}(h:p:=by(try dsimp only);rw[show k+(c+1)=k+c+1 from by omega];first|(rw[Ev B,List.length_append,List.length_singleton];omega)|(rw[Ew B];omega)):p:=h
theorem _root_.o0r{p:Prop}(h:p:=by first|trivial|(repeat' with_reducible apply And.intro)<;>first|(have a:=F7 d;rw[m]at a;exact a)|(intros;have a:=F7 d;rw[m]at a;exact a)):p:=h
theorem _root_.o0q{p:Prop}(h:p:=by first|trivial|(repeat' with_reducible apply And.intro)<;>first|(intros;exact JK s x t g)|(have V:=JK s x t g;simp only[go_sem,p]at V;exact V)):p:=h
theorem _root_.o0p{p:Prop}(h:p:=by first|trivial|(repeat' with_reducible apply And.intro)<;>first|exact(λ_=>Df _ _ (hn.2 _ U) (FQ hn g))|omega|(intros;omega)|(intro h;simp at h;done)):p:=h
theorem _root_.o0n{p:Prop}(h:p:=by first|trivial|(repeat' with_reducible apply And.intro)<;>first|exact(λ_=>Df _ _ (ZbF hn U) (PO hn X V))|omega|(intros;omega)|(intro h;simp at h;done)):p:=h
theorem _root_.o0l{p:Prop}(h:p:=by rw[eY,if_neg g,if_neg n,if_neg (by omega),if_pos (by show ak (⟨z.apex,iU (gF z d++d.put)⟩:Zon)=false\/aL (⟨z.apex,iU (gF z d++d.put)⟩:Zon)≠d.too;rw[p];grind)];try rfl):p:=h
theorem _root_.o0f{p:Prop}(h:p:=by(try simp only[go_sem,ff]);all_goals (first|done|((repeat' (with_reducible apply And.intro))<;>first|(intros;exact Ja s hs)|(intros;exact Cj x s (v x F))|exact(λ_=>Cj x s (v x F))|skip))):p:=h
theorem _root_.o0e{p:Prop}(h:p:=by first|exact⟨rfl,w.up (by omega),(by first|exact f.mono (by omega)|(rw[YH];exact f.mono (by omega)))⟩|exact⟨w.up (by omega),(by first|exact f.mono (by omega)|(rw[YH];exact f.mono (by omega)))⟩):p:=h
theorem _root_.o0d{p:Prop}(h:p:=by first|trivial|(repeat' with_reducible apply And.intro)<;>first|(intros;exact ER (Ce l b n) l f F h (by have:=IU l b n;omega))|(intros;exact ER (-1) l f F h om)|(intros;exact ER (rX (λi=>decide (aL l[i]! = n)) l.length) l f F h om)):p:=h
theorem _root_.o0b{p:Prop}(h:p:=by first|exact⟨rfl,bO.row (T:=T) ev w (by omega) (λq B q2 q3=>by have lZ:q≠r:=λe=>q3 (by rw[e];exact kr c);simp only[upd];repeat (first|rfl|rw[XV lZ]|rw[XV (by omega)])) (.inl (kr c)),bH.wrote (r:=r) ev ev (by simp) (by simp) (by omega) j (by omega) (by omega)⟩|exact⟨bO.row (T:=T) ev w (by omega) (λq B q2 q3=>by have lZ:q≠r:=λe=>q3 (by rw[e];exact kr c);simp only[upd];repeat (first|rfl|rw[XV lZ]|rw[XV (by omega)])) (.inl (kr c)),bH.wrote (r:=r) ev ev (by simp) (by simp) (by omega) j (by omega) (by omega)⟩):p:=h
variable [Dr] [Glob prog] [Told]
def bH.has{T:TypeId}{h:H}{W nx m:Nat}{l:Str}(c:bH T h W nx l m)(h0:0<m):∃(r:Nat)(x:Int),r≠W/\r<nx/\h r=some ⟨5,l.map bD⟩/\h W=some ⟨T,[[.mrow r 0 (l.length+m),.i 0,.v (.int .i8 x)]]⟩:=by
 obtain⟨_,⟨e,x,a⟩|⟨e,r,x,J,Y,A,a⟩⟩:=c
 . omega
 exact⟨r,x,J,Y,A,a⟩
def bH.wrote{T:TypeId}{h:H}{W nx r k:Nat}{l p:Str}{x:Int}{rows:List (List D)}(a:h W=some ⟨T,[[.mrow r 0 k,.i 0,.v (.int .i8 x)]]⟩)(hr:h r=some ⟨5,rows⟩)(J:rows=(l++p).map bD)(hk:k=l.length+p.length)(h0:0<l.length+p.length)(h1:r≠W)(h2:r<nx)(h3:W<nx):bH T h W nx (l++p) 0:=by subst J;exact bH.mk a hr (by rw[hk,X3];rfl) (by rw[X3];omega) h1 h2 h3
theorem Sa(T:TypeId)(l:Str)(b:UInt8)(h:H)(n W:Nat)(m:bH T h W n l 0)(J:l.length+1<=1000000000000):yp 141 [.mptr W 0 0,.v (.int .u8 b.toNat)] h n (λd h' n'=>d = .v .nilIface/\bO h h' W n n'/\bH T h' W n' (l++[b]) 0):=by
 refine oP func141 λo ff=>?_;unfold f141;let⟨d0,x,p,t⟩:=m.cell;have BS:=m.1;have ff:=qD @t @p (nG W n) ff;refine xv ?_;refine aj (ya 1 (hct:=by exact wQ.rct (JL T l 1 _ _ W (m.last t _ o3m) J)) (hk:=?_));rintro R Y n2 ⟨E2,ok,a,rfl,f,L,M⟩;try dsimp only at f L M
 have u:=bO.last (n':=n) t 0 (XW n);replace f:=u.trans (f.down oW);refine yb ?_;refine jnh (α:=(H)×Nat) [0,1] (λ⟨K,Z⟩=>(bH T K W Z l (1))/\(bO h K W n Z)/\(n<=Z)/\True) (λ⟨K,Z⟩=>[(5,.i l.length)]) (λ⟨K,Z⟩=>K) (λ⟨K,Z⟩=>Z) ?_ ?_
 .
  refine xp ?_ ?_ (hq:=rfl)<;>intro N
  .
   have v:=M (by simpa using N);refine ya 1 (hct:=by exact PU T l 1 _ _ W ((v.2.1).mono o3m) J) (hk:=?_);rintro R A n3 ⟨rfl,w,g⟩;try dsimp only at w g
   refine yb ?_;exact Bc (A,_) (h1:=⟨(g.mono oW),(by(try dsimp only);exact(f.trans (w.down om)).up om),(by(try dsimp only);have:=w.1;have:=f.1;omega),trivial⟩)
  have U:=L (by simpa using N);have E:=U.1;subst E;refine bM ?_;exact Bc (Y,_) (h1:=⟨(U.2.mono oW),(f.up oW),(by(try dsimp only);have:=f.1;omega),trivial⟩)
 rintro⟨K,Z⟩ ⟨V,X,ac, -⟩;simp only[XX,XZ];let⟨r,y,j,am,O,c⟩:=V.has om;have ab:=V.1;have F:((l.length:Int)).toNat=l.length:=by omega
 have pM:(W=r)=False:=YS (λe=>j e.symm);have pJ:(r=W)=False:=YS j;have ff:=qA @c (qI @O @pM @pJ @Int.sub_zero @Int.zero_add (nG W Z) (nG r Z) @F ff);refine bX ?_;refine Zl6 De 7 (e:=5) (z:=.tmp 22) (r:=r) (off:=0) (len:=l.length+1) (n:=l.length) ?_;refine xF ?_;try simp only[aH]
 refine xa ?_;exact oN (bJ (_) (hh:=λ_=>.inl rfl) (hr:=oS (k:=by first|exact⟨rfl,bO.row (T:=T) ev X (by omega) (λq B q2 G=>by have I:q≠r:=λe=>G (by rw[e];exact kr c);simp only[upd];repeat (first|rfl|rw[XV I]|rw[XV (by omega)])) (.inl (kr c)),bH.wrote (r:=r) ev ev (by simp[bD]) (by simp) (by simp) j (by omega) (by omega)⟩|exact⟨bO.row (T:=T) ev X (by omega) (λq B q2 G=>by have I:q≠r:=λe=>G (by rw[e];exact kr c);simp only[upd];repeat (first|rfl|rw[XV I]|rw[XV (by omega)])) (.inl (kr c)),bH.wrote (r:=r) ev ev (by simp[bD]) (by simp) (by simp) j (by omega) (by omega)⟩)))
def Gn(T:TypeId)(l:Str)(p:Str)(h:H)(n W:Nat)(E:bH T h W n l 0)(hl:l.length+p.length<=1000000000000):yp 146 [.mptr W 0 0,.l (p.map bD)] h n (λd h' n'=>d = .tuple [.i p.length,.v .nilIface]/\bO h h' W n n'/\bH T h' W n' (l++p) 0):=by
 refine oP func146 λo ff=>?_;unfold f146;let⟨d0,x,F,G⟩:=E.cell;have BS:=E.1;have ff:=qD @G @F (nG W n) ff;refine xv ?_;refine aj (ya 3 (hct:=o1h) (hk:=?_));rintro R Y n2 ⟨E2,ok,a,rfl,g,hT,hF⟩;try dsimp only at g hT hF
 have I:=bO.last (n':=n) G 0 (XW n);replace g:=I.trans (g.down oW);refine yb ?_;refine jnh (α:=(H)×Nat) [0,1] (λ⟨K,Z⟩=>(bH T K W Z l (p.length))/\(bO h K W n Z)/\(n<=Z)/\True) (λ⟨K,Z⟩=>[(6,.i l.length)]) (λ⟨K,Z⟩=>K) (λ⟨K,Z⟩=>Z) ?_ ?_
 .
  refine xp ?_ ?_ (hq:=rfl)<;>intro c3
  .
   have J:=hF (by simpa using c3);refine ya 3 (hct:=o1p) (hk:=?_);rintro R A n3 ⟨rfl,L,z⟩;try dsimp only at L z
   refine yb ?_;exact Bc (A,_) (h1:=⟨(z.mono oW),o2a,(by(try dsimp only);have:=L.1;have:=g.1;omega),trivial⟩)
  have xK:=hT (by simpa using c3);have M:=xK.1;subst M;refine bM ?_;exact Bc (Y,_) (h1:=⟨(xK.2.mono oW),(g.up oW),(by(try dsimp only);have:=g.1;omega),trivial⟩)
 rintro⟨K,Z⟩ ⟨f,w,ac, -⟩;simp only[XX,XZ];have ab:=f.1;rcases f.cases3 with⟨N,U,y,c⟩|⟨N,U,r,y,j,V,O,c⟩|⟨N,r,y,j,V,O,c⟩
 .
  obtain rfl:=N;obtain rfl:p=[]:=Yb U;have ff:=qB @c (nG W Z) ff;refine bX ?_;refine IP De 7 (e:=5) ?_;refine xF ?_;try simp only[aH]
  exact oN (bJ (_) (hh:=λ_=>.inl rfl) (hr:=oS (k:=o0e)))
 .
  obtain rfl:p=[]:=Yb U;have t:((l.length:Int)).toNat=l.length:=by omega
  have u:(((l.length+0:Nat):Int)-(l.length:Int)).toNat=0:=by omega
  have v:((l.length:Int)-(l.length:Int)).toNat=0:=by omega
  have X:(W=r)=False:=YS (λe=>j e.symm);have pJ:(r=W)=False:=YS j;have ff:=qD @c @O @X (qI @pJ @Int.sub_zero @Int.zero_add (nG W Z) (nG r Z) @t @u @v ff);refine bX ?_;refine IP De 7 (e:=5) ?_;refine xF ?_;try simp only[aH]
  exact oN (bJ (_) (hh:=λ_=>.inl rfl) (hr:=oS (k:=o0e)))
 have t:((l.length:Int)).toNat=l.length:=by omega
 have u:(((l.length+p.length:Nat):Int)-(l.length:Int)).toNat=p.length:=by omega
 have v:((l.length:Int)+(p.length:Int)-(l.length:Int)).toNat=p.length:=by omega
 have X:(W=r)=False:=YS (λe=>j e.symm);have pJ:(r=W)=False:=YS j;have ff:=qD @c @O @X (qI @pJ @Int.sub_zero @Int.zero_add (nG W Z) (nG r Z) @t @u @v ff);refine bX ?_;refine Qa De 7 (e:=5) (r:=r) (off:=l.length) (m:=p.length) (news:=p.map bD) ?_ (hrl:=o2p);refine xF ?_;try simp only[aH]
 exact oN (bJ (_) (hh:=λ_=>.inl rfl) (hr:=oS (k:=o0b)))
def Zc1(T:TypeId)(l:Str)(p:Str)(h:H)(n W:Nat)(E:bH T h W n l 0)(hl:l.length+p.length<=1000000000000):yp 224 [.mptr W 0 0,.v (.string (bs p))] h n (λd h' n'=>d = .tuple [.i p.length,.v .nilIface]/\bO h h' W n n'/\bH T h' W n' (l++p) 0):=by
 refine oP func224 λo ff=>?_;unfold f224;let⟨d0,x,F,G⟩:=E.cell;have BS:=E.1;have ff:=qD @G @F (nG W n) ff;refine xv ?_;refine aj (ya 3 (hct:=o1h) (hk:=?_));rintro R Y n2 ⟨E2,ok,a,rfl,g,hT,hF⟩;try dsimp only at g hT hF
 have I:=bO.last (n':=n) G 0 (XW n);replace g:=I.trans (g.down oW);refine yb ?_;refine jnh (α:=(H)×Nat) [0,1] (λ⟨K,Z⟩=>(bH T K W Z l (p.length))/\(bO h K W n Z)/\(n<=Z)/\True) (λ⟨K,Z⟩=>[(6,.i l.length)]) (λ⟨K,Z⟩=>K) (λ⟨K,Z⟩=>Z) ?_ ?_
 .
  refine xp ?_ ?_ (hq:=rfl)<;>intro c3
  .
   have J:=hF (by simpa using c3);refine ya 3 (hct:=o1p) (hk:=?_);rintro R A n3 ⟨rfl,L,z⟩;try dsimp only at L z
   refine yb ?_;exact Bc (A,_) (h1:=⟨(z.mono oW),o2a,(by(try dsimp only);have:=L.1;have:=g.1;omega),trivial⟩)
  have xK:=hT (by simpa using c3);have M:=xK.1;subst M;refine bM ?_;exact Bc (Y,_) (h1:=⟨(xK.2.mono oW),(g.up oW),(by(try dsimp only);have:=g.1;omega),trivial⟩)
 rintro⟨K,Z⟩ ⟨f,w,ac, -⟩;simp only[XX,XZ];have ab:=f.1;rcases f.cases3 with⟨N,U,y,c⟩|⟨N,U,r,y,j,V,O,c⟩|⟨N,r,y,j,V,O,c⟩
 .
  obtain rfl:=N;obtain rfl:p=[]:=Yb U;have ff:=qB @c (nG W Z) ff;refine bX ?_;refine IP De 7 (e:=5) ?_;refine xF ?_;try simp only[aH]
  exact oN (bJ (_) (hh:=λ_=>.inl rfl) (hr:=oS (k:=o0e)))
 .
  obtain rfl:p=[]:=Yb U;have t:((l.length:Int)).toNat=l.length:=by omega
  have u:(((l.length+0:Nat):Int)-(l.length:Int)).toNat=0:=by omega
  have v:((l.length:Int)-(l.length:Int)).toNat=0:=by omega
  have X:(W=r)=False:=YS (λe=>j e.symm);have pJ:(r=W)=False:=YS j;have ff:=qD @c @O @X (qI @pJ @Int.sub_zero @Int.zero_add (nG W Z) (nG r Z) @t @u @v ff);refine bX ?_;refine IP De 7 (e:=5) ?_;refine xF ?_;try simp only[aH]
  exact oN (bJ (_) (hh:=λ_=>.inl rfl) (hr:=oS (k:=o0e)))
 have t:((l.length:Int)).toNat=l.length:=by omega
 have u:(((l.length+p.length:Nat):Int)-(l.length:Int)).toNat=p.length:=by omega
 have v:((l.length:Int)+(p.length:Int)-(l.length:Int)).toNat=p.length:=by omega
 have X:(W=r)=False:=YS (λe=>j e.symm);have pJ:(r=W)=False:=YS j;have ff:=qD @c @O @X (qI @pJ @Int.sub_zero @Int.zero_add (nG W Z) (nG r Z) @t @u @v ff);refine bX ?_;refine Qa De 7 (e:=5) (r:=r) (off:=l.length) (m:=p.length) (news:=p.map bD) ?_ (hrl:=o2p);refine xF ?_;try simp only[aH]
 exact oN (bJ (_) (hh:=λ_=>.inl rfl) (hr:=oS (k:=o0b)))
theorem Gh(T:TypeId)(l:Str)(h:H)(n W:Nat)(m:bH T h W n l 0)(w:l.length<=1000000000000):yp 145 [.mptr W 0 0] h n (λd h' n'=>((l=[]/\d = .e)\/(l≠[] /\ ∃r,d = .mrow r 0 l.length/\h' r=some ⟨5,l.map bD⟩/\kN h' W=some r))/\bO h h' W n n'/\bH T h' W n' l 0):=by
 refine oP func145 λo ff=>?_;unfold f145;refine xa ?_;have c:=m;obtain⟨y,⟨f,x,a⟩|⟨f,r,x,p,t,O,a⟩⟩:=m
 . obtain rfl:l=[]:=Yb om;have ff:=qB @a (nG W n) ff;refine xa ?_;exact oN (bJ (_) (hh:=λ_=>.inl rfl) (hr:=oS (k:=by first|exact⟨.inl rfl,bO.refl om,c.mono om⟩|exact⟨.inl ⟨rfl,rfl⟩,bO.refl om,c.mono om⟩)))
 rw[Zx]at a;have g:((l.length:Int)-0).toNat=l.length:=by omega
 have j:((l.length:Int)).toNat=l.length:=by omega
 have u:(W=r)=False:=YS (λe=>p e.symm);have v:(r=W)=False:=YS p;have ff:=qA @a (qI @O @u @v @g @j @Int.sub_zero (nG W n) (nG r n) ff);refine xa ?_;exact oN (bJ (_) (hh:=λ_=>.inl rfl) (hr:=oS (k:=by exact⟨.inr ⟨λe=>by subst e;simp at f,r,rfl,O,kr a⟩,bO.refl om,c.mono om⟩)))
def ZnG{d:Nat}{c:UInt8}(h:d<18446744073709551616):IntKind.u64.wrap (M4 .u64 (d:Int) (IntKind.u64.wrap (c.toNat:Int))*1099511628211)=((gP d c:Nat):Int):=by
 have j:=c.toNat_lt;have f:IntKind.u64.wrap (c.toNat:Int)=(c.toNat:Int):=by rw[IntKind.wrap_u64];omega
 have y:(BitVec.ofInt 64 (d:Int) ^^^ BitVec.ofInt 64 (c.toNat:Int)).toNat=d ^^^ c.toNat:=by rw[BitVec.toNat_xor,BitVec.ofInt_natCast,BitVec.ofInt_natCast,BitVec.toNat_ofNat,BitVec.toNat_ofNat,ZC (by omega),ZC (by omega)]
 have O:d ^^^ c.toNat<2^64:=Nat.xor_lt_two_pow om om;have a:M4 .u64 (d:Int) (c.toNat:Int)=IntKind.u64.wrap ((BitVec.ofInt 64 (d:Int) ^^^ BitVec.ofInt 64 (c.toNat:Int)).toNat:Int):=rfl;rw[f,a,y,IntKind.wrap_u64,IntKind.wrap_u64];unfold gP;omega
def F8(l:Str){d:Nat}(h:d<18446744073709551616):l.foldl gP d<18446744073709551616:=by
 rcases List.eq_nil_or_concat l with e|⟨p,z,e⟩
 . subst e;exact h
 rw[e,List.concat_eq_append,Za,YM,ZH];unfold gP;omega
def ZnK{b:Str}{d k:Nat}(h:k<b.length):(b.take (k+1)).foldl gP d=gP ((b.take k).foldl gP d) (b.getD k 0):=by
 have e:b[k]?.toList=[b.getD k 0]:=by simp[List.getD,Yi h]
 rw[Zp,Za,e,YM,ZH]
def Zpi(u s:Nat)(hs:s<=56):IntKind.u8.wrap ((u:Int).fdiv (2^(min s 64)))=((jZ u s).toNat:Int):=by
 rw[IntKind.wrap_u8,Z4 (by omega),Re];rw[Int.fdiv_eq_ediv_of_nonneg _ (by exact_mod_cast Yh _)]
 norm_cast
def JI(n:Int):IntKind.u64.wrap n=((uN n:Nat):Int):=by rw[IntKind.wrap_u64];unfold uN;omega
def AV{n:Nat}(h:n<18446744073709551616):IntKind.u64.wrap (n:Int)=(n:Int):=by rw[IntKind.wrap_u64];omega
theorem Jb(b:Str)(d:Nat)(h:H)(n W:Nat)(a:h W=some ⟨256,[[.v (.int .u64 ((d:Nat):Int))]]⟩)(m:d<18446744073709551616)(p:b.length<=1000000000000):yp 183 [.mptr W 0 0,.l (b.map bD)] h n (λx h' g=>h'=upd h W (some ⟨256,[[.v (.int .u64 ((b.foldl gP d:Nat):Int))]]⟩)/\n<=g):=by
 refine oP func183 λo ff=>?_;unfold f183;refine xa ?_;refine dK ?_;refine iF (Nat×Nat) [0,6,7] (λ⟨k,Z⟩=>(k<=b.length/\n<=Z/\W<Z,b.length-k,[(8,.i k)],upd h W (some ⟨256,[[.v (.int .u64 (((b.take k).foldl gP d:Nat):Int))]]⟩),Z)) (0,_) ?_ (hA:=⟨iv,iv,(by(try dsimp only);rcases Nat.lt_or_ge W n with q|q;omega;rw[o W q]at a;cases a)⟩) (um:=by intro q;left;show upd h W (some ⟨256,[[.v (.int .u64 ((d:Nat):Int))]]⟩) q=h q;by_cases e:q=W;subst e;rw[bI];exact a.symm;rw[aI _ _ _ _ e]);rintro⟨k,Z⟩ ⟨X,f,y⟩;simp only[XX,XZ];refine wF De ?_ ?_<;>intro w
 .
  have U:k<b.length:=by omega
  have B:=ZnK (d:=d) U;have t:=F8 (b.take k) m;have u:=ZnG (c:=b.getD k 0) t;have ff:=qA (IL U) ff;refine wB ?_;refine xa ?_;refine tF ?_;refine gmulu De 7 u ?_;refine gnilc De 8 (r:=W) (j:=0) (off:=0) ?_;refine gst1 De 9 ?_;refine gend De ?_;refine dw_to [(8,.i k),(0,.mptr W 0 0),(6,.l (b.map bD)),(7,.i b.length)] (upd h W (some ⟨256,[[.v (.int .u64 ((gP ((b.take k).foldl gP d) (b.getD k 0):Nat):Int))]]⟩)) _ (Z+14) .tt ?_ (hh:=by show upd (upd h W _) W _=_;rw[AR];rfl);refine xb ?_;refine ah (k+1,_) (h5:=?_);rw[B];exact BD _
 have v:k=b.length:=by omega
 subst v;refine aB ?_;exact bJ (upd h W (some ⟨256,[[.v (.int .u64 ((b.foldl gP d:Nat):Int))]]⟩)) (hr:=oS (k:=by first|omega|exact⟨rfl,om⟩)) (hh:=by rw[Yt];exact BD _)
def Lj(b:Str)(p:b.length<=1000000000000):yk 144 [.l (b.map bD)] (.v (.int .u64 ((dig b:Nat):Int))):=by refine oO func144 λff=>?_;unfold f144;refine xv ?_;refine aj (ya 1 (hct:=by exact Jb b Co _ _ _ o2t (by decide) p) (hk:=?_));rintro R Y r ⟨rfl,V⟩;refine yb ?_;exact yi
def bH.fresh{T:TypeId}{h:H}{W nx nx' q:Nat}{l:Str}{m:Nat}{x:Option dE}(a:bH T h W nx l m)(hq:nx<=q)(hn:nx<=nx'):bH T (upd h q x) W nx' l m:=by
 obtain⟨p,⟨e,y,J⟩|⟨e,r,y,J,c,A,Y⟩⟩:=a
 . exact⟨om,.inl ⟨e,y,by rw[aI _ _ _ _ (by omega)];exact J⟩⟩
 exact⟨om,.inr ⟨e,r,y,J,om,by rw[aI _ _ _ _ (by omega)];exact A,by rw[aI _ _ _ _ (by omega)];exact Y⟩⟩
def bO.fresh{h:H}{W n n' q:Nat}{x:Option dE}(a:W<n)(hq:n<=q)(hn:n<=n'):bO h (upd h q x) W n n':=by
 refine⟨hn,λp J _ _=>aI _ _ _ _ om,λp _ _ A=>?_⟩;have:kN (upd h q x) W=kN h W:=by unfold kN;rw[aI _ _ _ _ (by omega)]
 rw[this];exact A
theorem Zeo(l t:Str):l++iH t.length 1++t=l++dC t:=by simp[Ro,dC]
def Zi6{a b c d:Int}{j:Nat}(h:j<4):([[.i a],[.i b],[.i c],[.i d]]:List (List D)).getD j []=[.i ([a,b,c,d][j]!)]:=by
 have:j=0\/j=1\/j=2\/j=3:=by omega
 rcases this with e|e|e|e<;>subst e<;>rfl
theorem Zcm(n:Int):iH (uN n) 8=bZ n:=rfl
def uN_of{n:Int}(h:0<=n/\n<18446744073709551616):((uN n:Nat):Int)=n:=by unfold uN;omega
theorem I4{α:Type}[Inhabited α]{l:List α}{k:Nat}(h:k<l.length)(f:α->Str):(l.drop k).flatMap f=f l[k]! ++ (l.drop (k+1)).flatMap f:=by rw[YE h,ZU,getElem!_pos l k h]
def Gg(T:TypeId)(l:Str)(u k:Nat)(h:H)(n W:Nat)(v:bH T h W n l 0)(F:u<18446744073709551616)(hk:k<=8)(G:l.length<=900000000000):yp 157 [.mptr W 0 0,.v (.int .u64 ((u:Nat):Int)),.i k] h n (λd h' n'=>bO h h' W n n'/\bH T h' W n' (l++iH u k) 0):=by
 refine oP func157 λc ff=>?_;unfold f157;refine xa ?_;refine dK ?_;refine iF (Nat×Str×H×Nat) [0,1] (λ⟨j,o,K,Z⟩=>(j<=8/\o++iH u j=l++iH u k/\o.length+j=l.length+k/\bH T K W Z o 0/\bO h K W n Z,j,[(2,.i ((j:Int)-1))],K,Z)) (k,l,h,_) ?_ (hA:=⟨oW,rfl,rfl,(v.mono oW),(bO.refl oW)⟩);rintro⟨j,o,K,Z⟩ ⟨A,t,x,m,B⟩;simp only[XX,XZ];refine oL De ?_ ?_<;>intro w
 .
  obtain⟨i,rfl⟩:∃i,j=i+1:=⟨j-1,om⟩;have y:(((i+1:Nat):Int)-1)=(i:Int):=by omega
  have f:((i:Int)+1-1)=(i:Int):=by omega
  have O:(8*(i:Int)).toNat=8*i:=by omega
  have z:=Zpi u (8*i) (by omega);have ff:=qE @y @f @O @z ff;refine wD ?_;refine Ck De 8 ?_;refine C9 (C:=De) 8 (R:=_) om (dP rfl) rfl rfl o1c ?_ ?_ ev o3h ev (by exact Sa T o (jZ u (8*i)) _ _ W (m.mono oW) om) ?_
  . exact okU
  .
   try simp only[go_sem,ff]
   all_goals (first|done|rfl|decide|simp)
  rintro E Y r ⟨rfl,p,a⟩;try dsimp only at p
  refine xF ?_;try simp only[aH]
  refine xb ?_;exact ah (i,o++[jZ u (8*i)],Y,_) (h1:=⟨iv,(by(try dsimp only);rw[<-t,List.append_assoc];rfl),o2n,(by first|(exact a.mono (by omega))|(dsimp only;exact a.mono (by omega))),(by(try dsimp only);exact(B.trans (p.down oW)).up (by omega))⟩)
 obtain rfl:j=0:=by omega
 have g:o=l++iH u k:=by simpa[iH]using t
 refine aB ?_;exact bJ (_) (hh:=λ_=>.inl rfl) (hr:=oS (k:=by rw[<-g];exact⟨B.up (by omega),m.mono (by omega)⟩))
theorem EM(T:TypeId)(l:Str)(u:Nat)(h:H)(n W:Nat)(f:bH T h W n l 0)(g:u<18446744073709551616)(j:l.length<=900000000000):yp 143 [.mptr W 0 0,.v (.int .u64 ((u:Nat):Int))] h n (λd h' n'=>bO h h' W n n'/\bH T h' W n' (l++iH u 8) 0):=by
 refine oP func143 λo ff=>?_;unfold f143;refine ya 2 (hct:=by exact Gg T l u 8 _ _ W (f.mono oW) g om j) (hk:=?_);rintro R Y r ⟨c,a⟩;try dsimp only at c
 refine yb ?_;exact bJ (_) (hh:=λ_=>.inl rfl) (hr:=oS (k:=by exact⟨(c.down oW).up om,a.mono om⟩))
def JF(T:TypeId)(l:Str)(m:Nat)(h:H)(n W:Nat)(f:bH T h W n l 0)(v:m<4294967296)(g:l.length<=900000000000):yp 142 [.mptr W 0 0,.i m] h n (λd h' n'=>bO h h' W n n'/\bH T h' W n' (l++iH m 4) 0):=by
 refine oP func142 λo ff=>?_;unfold f142;have y:=AV (n:=m) (by omega);have ff:=qA @y ff;refine ya 3 (hct:=by exact Gg T l m 4 _ _ W (f.mono oW) om om g) (hk:=?_);rintro R Y r ⟨c,a⟩;try dsimp only at c
 refine yb ?_;exact bJ (_) (hh:=λ_=>.inl rfl) (hr:=oS (k:=by exact⟨(c.down oW).up om,a.mono om⟩))
def JA(T:TypeId)(l t:Str)(h:H)(n W:Nat)(j:bH T h W n l 0)(ht:t.length<=10000)(m:l.length<=800000000000):yp 147 [.mptr W 0 0,.v (.string (bs t))] h n (λd h' n'=>bO h h' W n n'/\bH T h' W n' (l++dC t) 0):=by
 refine oP func147 λo ff=>?_;unfold f147;have y:=AV (n:=t.length) (by omega);have ff:=qA @y ff;refine aj (ya 4 (hct:=by exact Gg T l t.length 1 _ _ W (j.mono oW) om om om) (hk:=?_));rintro R Y r ⟨f,a⟩;try dsimp only at f
 refine yb ?_;refine ya 4 (hct:=by exact Zc1 T _ t _ _ W (a.mono oW) (by rw[X3,jd];omega)) (hk:=?_);rintro R A p ⟨rfl,g,c⟩;try dsimp only at g
 refine yb ?_;exact bJ (_) (hh:=λ_=>.inl rfl) (hr:=oS (k:=by rw[<-Zeo];exact⟨((f.down oW).trans (g.down oW)).up (by omega),c.mono (by omega)⟩))
noncomputable def wO [Glob prog][Told]:List PanicEntry:=[{ v:=kE iQ,recovered:=false }]
def bE(h h':H)(R n n':Nat):Prop:=n<=n' /\ ∀q,q<n->q≠R->h' q=h q
theorem bE.trans{h h' c:H}{R n n' f:Nat}(a:bE h h' R n n')(b:bE h' c R n' f):bE h c R n f:=⟨Yd a.1 b.1,λq J Y=>(b.2 q (YG J a.1) Y).trans (a.2 q J Y)⟩
def bE.down{h h':H}{R n m n':Nat}(a:bE h h' R m n')(hn:n<=m):bE h h' R n n':=⟨Yd hn a.1,λq J=>a.2 q (YG J hn)⟩
def bE.up{h h':H}{R n n' r:Nat}(a:bE h h' R n n')(hn:n'<=r):bE h h' R n r:=⟨Yd a.1 hn,a.2⟩
def bE.refl{h:H}{R n n':Nat}(hn:n<=n'):bE h h R n n':=⟨hn,λ_ _ _=>rfl⟩
def jN(h:H)(R:Nat)(x:Str):Prop:=∃f:Bool,h R=some ⟨337,[[.list f (x.map bD)]]⟩
def Zeu{x:Str}{m:Nat}(h:m<=x.length):cB m (x,false)=(x.take m,(x.drop m,false)):=take_ok rfl h
def take_none{x:Str}{m:Nat}(h:x.length<m):(cB m (x,false)).2.2=true:=by rw[yj (.inr (by show(x.length:Int)<m;omega))]
theorem V3(l:Str)(k:Nat)(h:k<l.length):gU (l.take (k+1))=mE (gU (l.take k)) (l.getD k 0):=by
 have e:l[k]?.toList=[l.getD k 0]:=by simp[List.getD,Yi h]
 unfold gU;rw[Zp,Za,e,YM,ZH]
@[go_sem]theorem ldc_err(h:H):jG prog (.v (.pointer (some ⟨0,0,none⟩))) h=[.v (kE iQ)]:=by rw[Xf,globE];rfl
def bo280:fE prog 280=true:=by kernel_rfl
def Lf(x:Str)(m:Nat)(h:H)(n R:Nat)(p:jN h R x)(E:x.length<=1000000000)(L:m<=1000000000000):pW prog 280 [.mptr R 0 0,.i m] h n (λd h' a=>∃F:Str,(cB m (x,false)).2=(F,false)/\(∃G:Bool,d = .list G ((cB m (x,false)).1.map bD))/\jN h' R F/\bE h h' R n a) (λc h' a=>c=wO/\(cB m (x,false)).2.2=true/\bE h h' R n a):=by
 refine EL func280 rfl bo280 (by simp[f280]) (λo=>?_);unfold f280;have ff:=True.intro;let⟨f,j⟩:=p;have I:R<n:=by rcases YK R n with q|q;exact q;rw[o R q]at j;cases j
 have r:((m:Int)).toNat=m:=by omega
 have y:((0:Int)).toNat=0:=rfl;have ff:=qE @j @r @y (nG R n) ff;refine xa ?_;refine xf ?_ ?_<;>intro M
 .
  have K:x.length<m:=by omega
  refine tF ?_;refine FV De 1 (d:=.v (kE iQ)) (t:=401) (v:=.pointer (some iQ)) ?_ (λw g u J=>J.v_inv);try simp only[iq,iG]
  exact jJ _ (by exact⟨rfl,take_none K,bE.refl oW⟩) (hn:=XW _) (hh:=λ_=>.inl rfl)
 have z:m<=x.length:=by omega
 have A:=Zeu z;refine oD De ?_;exact oN (F3 (.inr rfl) (_) (hh:=λ_=>.inl rfl) (hr:=oS (k:=by rw[A];exact⟨_,rfl,⟨_,by rw[ZJ];try rfl⟩,⟨_,by simp only[upd,Zm];rw[List.map_drop];try rfl⟩,om,(λq B W=>by simp only[upd];repeat (first|rfl|rw[XV (by omega)]))⟩)))
theorem Zi7(l:Str):gU l<256^l.length:=by
 have O : ∀(l:Str)(a:Nat),l.foldl mE a<256^l.length*(a+1):=by
  intro l;induction l with
  | nil=>intro a;simp
  | cons c l k =>
   intro a;have J:=k (mE a c);have Y:mE a c+1<=256*(a+1):=by unfold mE;have:=c.toNat_lt;omega
   rw[YM,YI,Nat.pow_succ,Nat.mul_assoc];exact YG J (Nat.mul_le_mul_left _ Y)
 have:=O l 0;unfold gU;omega
def VE(k:Nat)(st:RS):(cB k st).1.length<=k:=by
 unfold cB;split
 . simp
 simp[YO];omega
def Bp(k:Int)(st:RS):(cB k st).2.1.length<=st.1.length:=by
 unfold cB;split
 . simp
 simp
def Dn(k:Nat)(st:RS):(au k st).1<256^k:=YG (Zi7 _) (Nat.pow_le_pow_right om (VE k st))
def EX(u:Nat):Nat:=u*256 % 18446744073709551616
def shl8(u:Nat):IntKind.u64.wrap ((u:Int)*2^(min (8:Int).toNat IntKind.u64.bits))=((EX u:Nat):Int):=by unfold EX;rw[IntKind.wrap_u64];simp[IntKind.bits]
def or8(u:Nat)(c:UInt8):IntKind.u64.wrap (BitVec.ofInt 64 ((EX u:Nat):Int) ||| BitVec.ofInt 64 (IntKind.u64.wrap (c.toNat:Int))).toNat=((mE u c:Nat):Int):=by
 have j:=c.toNat_lt;have f:IntKind.u64.wrap (c.toNat:Int)=(c.toNat:Int):=by rw[IntKind.wrap_u64];omega
 rw[f];unfold EX;rw[BitVec.ofInt_natCast,BitVec.ofInt_natCast,BitVec.toNat_or,BitVec.toNat_ofNat,BitVec.toNat_ofNat,ZC (show c.toNat<2^64 by omega),Nat.mod_mod_of_dvd _ (by decide:2^64 ∣ 18446744073709551616)];have O:u*256 % 18446744073709551616=2^8*(u % 72057594037927936):=by omega
 rw[O,<-Nat.two_pow_add_eq_or_of_lt (show c.toNat<2^8 by omega)];rw[IntKind.wrap_u64];unfold mE;omega
attribute [irreducible] EX
attribute [local irreducible] mE
def Px{u:Nat}(h:u<9223372036854775808):IntKind.i64.wrap (u:Int)=(u:Int):=by rw[IntKind.wrap_i64];omega
def bo279:fE prog 279=true:=by kernel_rfl
def Lg(x:Str)(m:Nat)(h:H)(n R:Nat)(p:jN h R x)(E:x.length<=1000000000)(K:m<=8):pW prog 279 [.mptr R 0 0,.i m] h n (λd h' g=>∃B:Str,(au m (x,false)).2=(B,false)/\d = .v (.int .u64 (((au m (x,false)).1:Nat):Int))/\jN h' R B/\bE h h' R n g) (λc h' g=>c=wO/\(au m (x,false)).2.2=true/\bE h h' R n g):=by
 refine EL func279 rfl bo279 (by simp[f279]) (λo=>?_);unfold f279;have ff:=True.intro;refine xv ?_;refine aj ?_;refine bX ?_;refine je 2 (C:=De) (hct:=by exact Lf x m _ _ R p E om) (hp:=?_) (hk:=?_)
 .
  rintro L V M ⟨rfl,A,F⟩;try simp only[iq,iG]
  exact jJ _ (by exact⟨rfl,A,((F.down oW).up oW)⟩) (hn:=XW _) (hh:=λ_=>.inl rfl)
 rintro G Y r ⟨I,j,⟨N,rfl⟩,t,J⟩;have y:=VE m (x,false);obtain⟨b,a⟩:∃b,b=(cB m (x,false)).1:=⟨_,rfl⟩;rw[<-a]at y;try rw[<-a]
 refine xF ?_;try simp only[aH]
 refine dK ?_;refine iF (Nat×Nat×Nat) [10,11] (λ⟨k,u,Z⟩=>(k<=b.length/\u=gU (b.take k)/\r<=Z,b.length-k,[(5,.v (.int .u64 ((u:Nat):Int))),(12,.i k)],Y,Z)) (0,0,_) ?_;rintro⟨k,u,Z⟩ ⟨X,z,f⟩;simp only[XX,XZ];refine wF De ?_ ?_<;>intro w
 .
  have U:k<b.length:=by omega
  have ff:=qA (IL U) ff;refine wB ?_;refine xa ?_;refine tF ?_;refine gbin De 1 (.int .u64 ((EX u:Nat):Int)) ?_ (hv:=by exact congrArg (Value.int .u64) (shl8 u)) (hp:=by exact(by decide:(0:Int)<=8));refine gbin De 4 (.int .u64 ((mE u (b.getD k 0):Nat):Int)) ?_ (hv:=by exact congrArg (Value.int .u64) (or8 u (b.getD k 0))) (hp:=by exact rfl);refine xF ?_;try simp only[aH]
  refine xb ?_;exact ah (k+1,mE u (b.getD k 0),_) (h1:=⟨iv,(by(try dsimp only);rw[V3 b k U,<-z]),iv⟩)
 have v:k=b.length:=by omega
 subst v;rw[Yt]at z;subst z;subst a;refine aB ?_;refine xa ?_;exact oN (F3 (.inr rfl) (_) (hh:=λ_=>.inl rfl) (hr:=oS (k:=by exact⟨I,j,rfl,t,(J.down oW).up oW⟩)))
def Pv(x:Str)(h:H)(n R:Nat)(p:jN h R x)(E:x.length<=1000000000):pW prog 279 [.mptr R 0 0,.i 1] h n (λd h' g=>∃a:Str,(au 1 (x,false)).2=(a,false)/\d = .v (.int .u64 (((au 1 (x,false)).1:Nat):Int))/\jN h' R a/\bE h h' R n g) (λc h' g=>c=wO/\(au 1 (x,false)).2.2=true/\bE h h' R n g):=Lg x 1 h n R p E om
def Zlj(x:Str)(h:H)(n R:Nat)(p:jN h R x)(E:x.length<=1000000000):pW prog 279 [.mptr R 0 0,.i 2] h n (λd h' g=>∃a:Str,(au 2 (x,false)).2=(a,false)/\d = .v (.int .u64 (((au 2 (x,false)).1:Nat):Int))/\jN h' R a/\bE h h' R n g) (λc h' g=>c=wO/\(au 2 (x,false)).2.2=true/\bE h h' R n g):=Lg x 2 h n R p E om
def Lh(x:Str)(h:H)(n R:Nat)(p:jN h R x)(E:x.length<=1000000000):pW prog 279 [.mptr R 0 0,.i 4] h n (λd h' g=>∃a:Str,(au 4 (x,false)).2=(a,false)/\d = .v (.int .u64 (((au 4 (x,false)).1:Nat):Int))/\jN h' R a/\bE h h' R n g) (λc h' g=>c=wO/\(au 4 (x,false)).2.2=true/\bE h h' R n g):=Lg x 4 h n R p E om
def zY(x:Str)(h:H)(n R:Nat)(p:jN h R x)(E:x.length<=1000000000):pW prog 279 [.mptr R 0 0,.i 8] h n (λd h' g=>∃a:Str,(au 8 (x,false)).2=(a,false)/\d = .v (.int .u64 (((au 8 (x,false)).1:Nat):Int))/\jN h' R a/\bE h h' R n g) (λc h' g=>c=wO/\(au 8 (x,false)).2.2=true/\bE h h' R n g):=Lg x 8 h n R p E om
def bo282:fE prog 282=true:=by kernel_rfl
def Le(x:Str)(h:H)(n R:Nat)(p:jN h R x)(E:x.length<=1000000000):pW prog 282 [.mptr R 0 0] h n (λd h' g=>∃F:Str,(bY (x,false)).2=(F,false)/\d = .v (.string (bs (bY (x,false)).1))/\jN h' R F/\bE h h' R n g) (λc h' g=>c=wO/\(bY (x,false)).2.2=true/\bE h h' R n g):=by
 refine EL func282 rfl bo282 (by simp[f282]) (λo=>?_);unfold f282;have ff:=True.intro;refine xa ?_;refine bX ?_;refine je 1 (C:=De) (hct:=by exact Pv x _ _ R p E) (hp:=?_) (hk:=?_)
 .
  rintro I V J ⟨rfl,A,m⟩;try simp only[iq,iG]
  exact jJ _ (by exact⟨rfl,by unfold bY;rw[yj (.inl A)],((m.down oW).up oW)⟩) (hn:=XW _) (hh:=λ_=>.inl rfl)
 rintro t Y r ⟨j,f,rfl,v,G⟩;have K:(au 1 (x,false)).1<256^1:=Dn 1 (x,false);obtain⟨u,a⟩:∃u,u=(au 1 (x,false)).1:=⟨_,rfl⟩;try rw[<-a]
 rw[<-a]at K;have y:=Px (u:=u) (by omega);have ff:=qA y ff;have w:j.length<=1000000000:=by have:=Bp 1 (x,false);rw[show cB 1 (x,false)=((cB 1 (x,false)).1,(j,false))from Prod.ext rfl f]at this;exact Yd this E
 refine xF ?_;try simp only[aH]
 refine bX ?_;refine je 2 (C:=De) (hct:=by exact Lf j u _ _ R v w om) (hp:=?_) (hk:=?_)
 .
  rintro I V J ⟨rfl,A,m⟩;try simp only[iq,iG]
  exact jJ _ (by exact⟨rfl,by unfold bY;rw[f,<-a];exact A,((G.down oW).trans (m.down oW)).up oW⟩) (hn:=XW _) (hh:=λ_=>.inl rfl)
 rintro t O T ⟨L,z,⟨U,rfl⟩,B,M⟩;refine xF ?_;try simp only[aH]
 exact oN (F3 (.inr rfl) (_) (hh:=λ_=>.inl rfl) (hr:=oS (k:=by have N:bY (x,false)=cB u (j,false):=(by unfold bY;rw[f,<-a]);rw[N];exact⟨L,z,rfl,B,((G.down oW).trans (M.down oW)).up oW⟩)))
def Zcn{k:Int}{st:RS}(h:st.2=true):(cB k st).2.2=true:=by rw[yj (.inl h)]
theorem wP{k:Int}{st:RS}(h:st.2=true):(au k st).2.2=true:=Zcn h
def nN:Nat->RS->RS
 | 0,n=>n
 | k+1,n=>(au 8 (nN k n)).2
def nV(k:Nat)(st:RS):Int:=sN (au 8 (nN k st)).1
def BA{k:Nat}{st:RS}{x a:Str}(h:nN k st=(x,false))(h2:(au 8 (x,false)).2=(a,false)):nN (k+1) st=(a,false):=by show(au 8 (nN k st)).2=_;rw[h,h2]
theorem O3{st:RS}{k:Nat}(h:(nN k st).2=true):∀j,(nN (k+j) st).2=true
 | 0=>h
 | j+1=>wP (O3 h j)
def ZjM{st:RS}{k m:Nat}{x:Str}(h:nN k st=(x,false))(h2:(au 8 (x,false)).2.2=true)(hk:k<m):(nN m st).2=true:=by
 have A:(nN (k+1) st).2=true:=by show(au 8 (nN k st)).2.2=true;rw[h];exact h2
 have:=O3 A (m-(k+1));rwa [show k+1+(m-(k+1))=m by omega]at this
def KW{k:Nat}{st:RS}{x:Str}(h:nN k st=(x,false)):IntKind.i64.wrap (((au 8 (x,false)).1:Nat):Int)=nV k st:=by unfold nV;rw[h];rfl
theorem KI(st:RS):nO st=(⟨(bY st).1,nV 0 (bY st).2,nV 1 (bY st).2,nV 2 (bY st).2,nV 3 (bY st).2,(au 8 (nN 4 (bY st).2)).1⟩,nN 5 (bY st).2):=rfl
def ZfL{st:RS}(h:(bY st).2.2=true):(nO st).2.2=true:=by rw[KI];exact O3 (k:=0) h 5
def GH{st:RS}{k:Nat}{a x:Str}(h:(bY st).2=(a,false))(h1:nN k (a,false)=(x,false))(h2:(au 8 (x,false)).2.2=true)(hk:k<5):(nO st).2.2=true:=by rw[KI,h];exact ZjM h1 h2 hk
def ZfI{st:RS}{a x c:Str}(h:(bY st).2=(a,false))(h1:nN 4 (a,false)=(x,false))(h2:(au 8 (x,false)).2=(c,false)):nO st=(⟨(bY st).1,nV 0 (a,false),nV 1 (a,false),nV 2 (a,false),nV 3 (a,false),(((au 8 (x,false)).1:Nat):Int)⟩,(c,false)):=by rw[KI,h,h1];show(_,(au 8 (nN 4 (a,false))).2)=_;rw[h1,h2]
theorem NI{st:RS}(h:st.2=true)(o:List RSig):∀k,lV k o st=(o,st)
 | 0=>rfl
 | k+1=>by unfold lV;rw[X0 h]
theorem TT{x:Str}{o:List RSig}{k:Nat}:lV (k+1) o (x,false)=lV k (o++[(nO (x,false)).1]) (nO (x,false)).2:=rfl
def EU{x:Str}{o:List RSig}{k:Nat}(h:(nO (x,false)).2.2=true)(hk:0<k):(lV k o (x,false)).2.2=true:=by obtain⟨j,rfl⟩:∃j,k=j+1:=⟨k-1,om⟩;rw[TT,NI h];exact h
def Ff(z:Str)(st:RS)(j:Nat):List D:=[.v (.string (bs z)),.i (if 0<j then nV 0 st else 0),.i (if 1<j then nV 1 st else 0),.i (if 2<j then nV 2 st else 0),.i (if 3<j then nV 3 st else 0),.v (.int .u64 0)]
def bE.via{h h1 c h':H}{R n f m n':Nat}(a:bE h h1 R n f)(k : ∀q,q<n->q≠R->c q=h1 q)(b:bE c h' R m n')(v:f<=m):bE h h' R n n' :=
 ⟨by have:=a.1;have:=b.1;omega,λq B W=>(b.2 q (by have:=a.1;omega) W).trans ((k q B W).trans (a.2 q B W))⟩
def rv{h h1 c h':H}{R n f m n':Nat}(a:bE h h1 R n f)(b:bE c h' R m n')(k : ∀q,q<n->q≠R->c q=h1 q:=by intro q B W;first|rfl|((try dsimp only);simp only[upd];repeat (first|rfl|rw[if_neg (by omega)])))(v:f<=m:=by first|omega|(dsimp only;omega)):bE h h' R n n':=a.via k b v
def kp{h1 h2:H}{R n n' c:Nat}{v:Option dE}(st:bE h1 h2 R n n')(e:h1 c=v:=by simp only[go_sem,ff];first|done|exact rfl)(a:c<n:=by first|omega|(dsimp only;omega))(f:c≠R:=by omega):h2 c=v:=(st.2 c a f).trans e
def sZ{k:Int}{x a:Str}(h:(au k (x,false)).2=(a,false)):a.length<=x.length:=by have:=Bp k (x,false);rw[show(cB k (x,false)).2=(a,false)from h]at this;exact this
def Zew{k:Int}{x a:Str}(h:(cB k (x,false)).2=(a,false)):a.length<=x.length:=sZ h
def JJ{x a:Str}(h:(bY (x,false)).2=(a,false)):a.length<=x.length:=by have J:=Bp (au 1 (x,false)).1 (au 1 (x,false)).2;have Y:=Bp 1 (x,false);rw[show cB (au 1 (x,false)).1 (au 1 (x,false)).2=bY (x,false)from rfl,h]at J;exact Yd J Y
def ZiH{x a c:Str}(h:(au 2 (x,false)).2=(a,false))(h3:(cB ((au 2 (x,false)).1:Nat) (a,false)).2=(c,false)):lF (x,false)=((cB ((au 2 (x,false)).1:Nat) (a,false)).1,(c,false)):=by unfold lF;rw[h];exact Prod.ext rfl h3
def Uq{st:RS}(h:(lF st).2.2=true):(iV st).2.2=true:=by
 unfold iV;split
 . exact h
 rfl
def Zgf{st:RS}(h:(jB (lF st).1).2≠0):(iV st).2.2=true:=by unfold iV;rw[XV h]
def Zge{st:RS}{b a:Str}(h:lF st=(b,(a,false)))(h2:(jB b).2=0):iV st=((jB b).1,(a,false)):=by unfold iV;rw[h,X0 h2]
def NQ{st:RS}(h:(iV st).2.2=true):(jD st).2.2=true:=by show(lV _ _ _).2.2=true;rw[NI (wP h)];exact wP h
def Zf4{x a:Str}{s:RSet}(h:iV (x,false)=(s,(a,false)))(h2:(au 1 (a,false)).2.2=true):(jD (x,false)).2.2=true:=by show(lV _ _ _).2.2=true;rw[h,NI h2];exact h2
def Zf3{x a c:Str}{s:RSet}(h:iV (x,false)=(s,(a,false)))(h2:(au 1 (a,false)).2=(c,false)):jD (x,false)=(⟨s,(lV (au 1 (a,false)).1 [] (c,false)).1⟩,(lV (au 1 (a,false)).1 [] (c,false)).2):=by unfold jD;simp only[h,h2]
set_option maxHeartbeats 2000000
def bo283:fE prog 283=true:=by kernel_rfl
def XE(x:Str)(h:H)(n R:Nat)(hb:jN h R x)(E:x.length<=1000000000):pW prog 283 [.mptr R 0 0] h n (λd h' n'=>∃x':Str,(jD (x,false)).2=(x',false)/\d = .agg (jD (x,false)).1.d/\jN h' R x'/\bE h h' R n n') (λc h' n'=>c=wO/\(jD (x,false)).2.2=true/\bE h h' R n n'):=by
 refine EL func283 rfl bo283 (by simp[f283]) (λbb=>?_);unfold f283;have ff:=True.intro;let⟨f,hR⟩:=hb;have cN:R<n:=by rcases YK R n with q|q;exact q;rw[bb R q]at hR;cases hR
 have ff:=qD @hR (nG R n) (nH R n) ff;refine xa ?_;refine bX ?_;refine je 1 (C:=De) (hct:=by exact Zlj x _ _ R ⟨f,ev⟩ E) (hp:=?_) (hk:=?_)
 .
  rintro c9 V n9 ⟨rfl,A,G⟩;try simp only[iq,iG]
  exact jJ _ (by exact⟨rfl,NQ (Uq (by unfold lF;exact Zcn A)),(rv (bE.refl (h:=h) (R:=R) (XW n)) G)⟩) (hn:=XW _) (hh:=λ_=>.inl rfl)
 rintro ab h2 n2 ⟨x2,be,rfl,cq,aS⟩;try dsimp only at aS
 have cP:=aS.1;let⟨f2,br⟩:=cq;have bw:h2 n=some ⟨56,[[.v (.string (bs [])),.i 0,.i 0,.e,.e]]⟩:=kp aS;have bx:bE h h2 R n n2:=(rv (bE.refl (h:=h) (R:=R) (XW n)) aS);have FM:(au 2 (x,false)).1<256^2:=Dn 2 (x,false);obtain⟨u,ar⟩:∃u,u=(au 2 (x,false)).1:=⟨_,rfl⟩;try rw[<-ar]
 rw[<-ar]at FM;have y:=Px (u:=u) (by omega);have ff:=qF br bw y (nG R n2) (nG n n2) ff;have ff:=qG br bw y (nH R n) (nG R n2) (nG n n2) ff;have ca:=Yd (sZ be) E;refine xF ?_;try simp only[aH]
 refine bX ?_;refine je 2 (C:=De) (hct:=by exact Lf x2 u _ _ R ⟨f2,ev⟩ ca om) (hp:=?_) (hk:=?_)
 .
  rintro c9 V n9 ⟨rfl,A,G⟩;try simp only[iq,iG]
  exact jJ _ (by exact⟨rfl,NQ (Uq (by unfold lF;rw[be,<-ar];exact A)),(rv bx G)⟩) (hn:=XW _) (hh:=λ_=>.inl rfl)
 rintro ab h3 n3 ⟨x3,bh,⟨f1,rfl⟩,cr,eX⟩;try dsimp only at eX
 have cQ:=eX.1;let⟨f3,cw⟩:=cr;have FP:h3 n=some ⟨56,[[.v (.string (bs [])),.i 0,.i 0,.e,.e]]⟩:=kp eX;have bm:bE h h3 R n n3:=(rv bx eX);rw[ar]at bh;have am:=ZiH be bh;rw[<-ar]at am;obtain⟨b,cb⟩:∃b,b=(cB u (x2,false)).1:=⟨_,rfl⟩;rw[<-cb]at am;try rw[<-cb]
 have ff:=qE cw FP (nG R n3) (nG n n3) ff;refine xF ?_ (hok:=oF (Zhg b));try simp only[aH]
 refine xf ?_ ?_<;>intro c1
 .
  refine tF ?_;refine FV De 1 (d:=.v (kE iQ)) (t:=401) (v:=.pointer (some iQ)) ?_ (λw g u hu=>hu.v_inv);try simp only[iq,iG]
  exact jJ _ (by exact⟨rfl,NQ (Zgf (by rw[am];exact c1)),(rv bm (bE.refl (XW _)))⟩) (hn:=XW _) (hh:=λ_=>.inl rfl)
 have aw:=Zge am c1;obtain⟨rs,cg⟩:∃rs,rs=(jB b).1:=⟨_,rfl⟩;try rw[<-cg]
 rw[<-cg]at aw;have ch:=Yd (Zew bh) ca;refine xa ?_;refine aj ?_;refine xR (n3+14) 4 56 59 ev (by rfl) o3h ?_;simp only[YC,Yx];obtain⟨C,IC⟩:∃C,C=n3+14:=⟨_,rfl⟩;rw[<-IC];obtain⟨O,cA⟩:∃O,O=n3+16:=⟨_,rfl⟩;rw[<-cA];have ff:=qG (nH R n) (nH C R) (nH O R) (nH C n) (nH O n) (nH C O) ff;refine bX ?_;refine je 1 (C:=De) (hct:=by exact Pv x3 _ _ R ⟨f3,ev⟩ ch) (hp:=?_) (hk:=?_)
 .
  rintro c9 V n9 ⟨rfl,A,G⟩;try simp only[iq,iG]
  exact jJ _ (by exact⟨rfl,Zf4 aw A,(rv bm G)⟩) (hn:=XW _) (hh:=λ_=>.inl rfl)
 rintro ab Y n4 ⟨x4,vS,rfl,cC,iO⟩;try dsimp only at iO
 have cR:=iO.1;let⟨f4,vU⟩:=cC;have nZ:Y n=some ⟨56,[[.v (.string (bs [])),.i 0,.i 0,.e,.e]]⟩:=kp iO;have Ei:Y C=some ⟨56,[[.v (.string (bs rs.name)),.i rs.ty,.i rs.life,.l (rs.data.map Dat.d),.mrow O 0 0]]⟩:=kp iO;have ci:Y O=some ⟨59,[]⟩:=kp iO;have cD:bE h Y R n n4:=(rv bm iO);have Iy:(au 1 (x3,false)).1<256^1:=Dn 1 (x3,false);have ac:=Zf3 aw vS;obtain⟨N,Iz⟩:∃N,N=(au 1 (x3,false)).1:=⟨_,rfl⟩;try rw[<-Iz]
 rw[<-Iz]at Iy ac;have ff:=qI vU nZ Ei ci (nG R n4) (nG n n4) (nG C n4) (nG O n4) ff;have cS:=Yd (sZ vS) ch;refine xF ?_;try simp only[aH]
 refine dK ?_;refine iF (Nat×(List RSig)×Str×Nat×H×Nat) [0,2,6,26] (λ⟨k,o,xs,r,K,Z⟩=>(k<=N/\lV N [] (x4,false)=lV (N-k) o (xs,false)/\o.length=k/\jN K R xs/\K C=some ⟨56,[[.v (.string (bs rs.name)),.i rs.ty,.i rs.life,.l (rs.data.map Dat.d),.mrow r 0 k]]⟩/\K r=some ⟨59,(o).map RSig.d⟩/\K n=some ⟨56,[[.v (.string (bs [])),.i 0,.i 0,.e,.e]]⟩/\bE h K R n Z/\C<r/\r<Z/\xs.length<=1000000000,N-k,[(27,.v (.int .u64 ((k:Nat):Int)))],K,Z)) (0,[],x4,O,Y,_) ?_ (hA:=⟨iv,rfl,rfl,⟨f4,vU⟩,Ei,ci,nZ,(cD.up oW),oW,oW,iv⟩);rintro⟨k,o,xs,r,K,Z⟩ ⟨X,L,bp,xJ,hC,hr,hn,B,cU,cV,cj⟩;simp only[XX,XZ];let⟨fs,vT⟩:=xJ;have e7:=AV (n:=k+1) (by omega);have cE:((k+1:Nat):Int)=(k:Int)+1:=by omega
 rw[cE]at e7;have ff:=qH @vT @hC @hr @hn @e7 (nG R Z) (nG n Z) (qI (nG C Z) (nG r Z) (nH R n) (nH C R) (nH R r) (nH C n) (nH n r) (nH C r) ff);refine wF De ?_ ?_<;>intro I
 .
  have cW:k<N:=by omega
  obtain⟨M,hM⟩:∃M,N-k=M+1:=⟨N-k-1,om⟩;refine wB ?_;refine bX ?_;refine je 1 (C:=De) (hct:=by exact Le xs _ _ R ⟨fs,ev⟩ cj) (hp:=?_) (hk:=?_)
  .
   rintro c9 V n9 ⟨rfl,A,G⟩;try simp only[iq,iG]
   exact jJ _ (by exact⟨rfl,by rw[ac,L];exact EU (ZfL A) (by omega),(rv B G)⟩) (hn:=XW _) (hh:=λ_=>.inl rfl)
  rintro ab U n5 ⟨m,qK,rfl,cF,fM⟩;try dsimp only at fM
  have cX:=fM.1;let⟨f5,xL⟩:=cF;have BP:U n=some ⟨56,[[.v (.string (bs [])),.i 0,.i 0,.e,.e]]⟩:=kp fM;have cl:U C=some ⟨56,[[.v (.string (bs rs.name)),.i rs.ty,.i rs.life,.l (rs.data.map Dat.d),.mrow r 0 k]]⟩:=kp fM;have cm:U r=some ⟨59,(o).map RSig.d⟩:=kp fM;have aq:bE h U R n n5:=(rv B fM);obtain⟨zt,H5⟩:∃z,z=(bY (xs,false)).1:=⟨_,rfl⟩;try rw[<-H5]
  have ff:=qI xL BP cl cm (nG R n5) (nG n n5) (nG C n5) (nG r n5) ff;have cY:=Yd (JJ qK) cj;refine xF ?_;try simp only[aH]
  refine aj ?_;obtain⟨q,cG⟩:∃q,q=n5+3:=⟨_,rfl⟩;rw[<-cG];simp only[AR];have ff:=qB (nH R n) (nH C R) (qI (nH R r) (nH R q) (nH C n) (nH n r) (nH n q) (nH C r) (nH C q) (nH q r) ff);refine xa ?_;refine dK ?_;refine iF (Nat×Str×H×Nat) [0,2,6,7,26,27,36,37] (λ⟨j,mo,J,Z⟩=>(j<=4/\nN j (m,false)=(mo,false)/\jN J R mo/\J q=some ⟨59,[Ff zt (m,false) j]⟩/\bE U J R n5 Z/\q<Z/\mo.length<=1000000000,4-j,[(38,.i j)],J,Z)) (0,m,upd U q (some ⟨59,[Ff zt (m,false) 0]⟩),_) ?_ (hA:=⟨iv,rfl,(by(try dsimp only);exact⟨f5,by rw[aI _ _ _ _ (by omega)];exact xL⟩),(bI _ _ _),(by(try dsimp only);exact⟨om,λp p1 p2=>aI _ _ _ _ (by omega)⟩),iv,oW⟩);rintro⟨j,mo,J,Z⟩ ⟨hj,hN,co,hQ,jU,da,uS⟩;simp only[XX,XZ];let⟨b7,cp⟩:=co;have ff:=qH @cp @hQ (nG q Z) (nG R Z) (nG n Z) (nG C Z) (nG r Z) ff;refine wF De ?_ ?_<;>intro a
  .
   have db:j<4:=by omega
   refine wB ?_;rcases(by omega:j=0\/j=1\/j=2\/j=3)with rfl|rfl|rfl|rfl
   .
    have hQ:J q=some ⟨59,[[.v (.string (bs zt)),.i 0,.i 0,.i 0,.i 0,.v (.int .u64 0)]]⟩:=hQ;have ff:=qA @hQ ff;refine xa ?_;refine tF ?_;refine je 2 (C:=De) (hct:=o2C) (hp:=?_) (hk:=?_)
    .
     rintro c9 V n9 ⟨rfl,A,G⟩;try simp only[iq,iG]
     exact jJ _ o0A (hn:=XW _) (hh:=λ_=>.inl rfl)
    rintro ab T F ⟨x8,mQ,rfl,yO,W⟩;try dsimp only at W
    have Ec:=W.1;let⟨f8,sH⟩:=yO;have Eg:T q=some ⟨59,[[.v (.string (bs zt)),.i 0,.i 0,.i 0,.i 0,.v (.int .u64 0)]]⟩:=kp W;have hv:=KW hN;have ff:=qI sH Eg hv (nG R F) (nG n F) (nG C F) (nG r F) (nG q F) ff;have FL:=Yd (sZ mQ) uS;refine xF ?_;try simp only[aH]
    refine xb ?_;exact ah (1,x8,upd T q (some ⟨59,[Ff zt (m,false) 1]⟩),_) (h1:=⟨iv,(BA hN mQ),o1z,(bI _ _ _),o0D,iv,iv⟩)
   .
    have hQ:J q=some ⟨59,[[.v (.string (bs zt)),.i (nV 0 (m,false)),.i 0,.i 0,.i 0,.v (.int .u64 0)]]⟩:=hQ;have ff:=qA @hQ ff;refine xa ?_;refine tF ?_;refine je 2 (C:=De) (hct:=o2C) (hp:=?_) (hk:=?_)
    .
     rintro c9 V n9 ⟨rfl,A,G⟩;try simp only[iq,iG]
     exact jJ _ o0A (hn:=XW _) (hh:=λ_=>.inl rfl)
    rintro ab T F ⟨x8,mQ,rfl,yO,W⟩;try dsimp only at W
    have Ec:=W.1;let⟨f8,sH⟩:=yO;have Eg:T q=some ⟨59,[[.v (.string (bs zt)),.i (nV 0 (m,false)),.i 0,.i 0,.i 0,.v (.int .u64 0)]]⟩:=kp W;have hv:=KW hN;have ff:=qI sH Eg hv (nG R F) (nG n F) (nG C F) (nG r F) (nG q F) ff;have FL:=Yd (sZ mQ) uS;refine xF ?_;try simp only[aH]
    refine xb ?_;exact ah (2,x8,upd T q (some ⟨59,[Ff zt (m,false) 2]⟩),_) (h1:=⟨iv,(BA hN mQ),o1z,(bI _ _ _),o0D,iv,iv⟩)
   .
    have hQ:J q=some ⟨59,[[.v (.string (bs zt)),.i (nV 0 (m,false)),.i (nV 1 (m,false)),.i 0,.i 0,.v (.int .u64 0)]]⟩:=hQ;have ff:=qA @hQ ff;refine xa ?_;refine tF ?_;refine je 2 (C:=De) (hct:=o2C) (hp:=?_) (hk:=?_)
    .
     rintro c9 V n9 ⟨rfl,A,G⟩;try simp only[iq,iG]
     exact jJ _ o0A (hn:=XW _) (hh:=λ_=>.inl rfl)
    rintro ab T F ⟨x8,mQ,rfl,yO,W⟩;try dsimp only at W
    have Ec:=W.1;let⟨f8,sH⟩:=yO;have Eg:T q=some ⟨59,[[.v (.string (bs zt)),.i (nV 0 (m,false)),.i (nV 1 (m,false)),.i 0,.i 0,.v (.int .u64 0)]]⟩:=kp W;have hv:=KW hN;have ff:=qI sH Eg hv (nG R F) (nG n F) (nG C F) (nG r F) (nG q F) ff;have FL:=Yd (sZ mQ) uS;refine xF ?_;try simp only[aH]
    refine xb ?_;exact ah (3,x8,upd T q (some ⟨59,[Ff zt (m,false) 3]⟩),_) (h1:=⟨iv,(BA hN mQ),o1z,(bI _ _ _),o0D,iv,iv⟩)
   have hQ:J q=some ⟨59,[[.v (.string (bs zt)),.i (nV 0 (m,false)),.i (nV 1 (m,false)),.i (nV 2 (m,false)),.i 0,.v (.int .u64 0)]]⟩:=hQ;have ff:=qA @hQ ff;refine xa ?_;refine tF ?_;refine je 2 (C:=De) (hct:=o2C) (hp:=?_) (hk:=?_)
   .
    rintro c9 V n9 ⟨rfl,A,G⟩;try simp only[iq,iG]
    exact jJ _ o0A (hn:=XW _) (hh:=λ_=>.inl rfl)
   rintro ab T F ⟨x8,mQ,rfl,yO,W⟩;try dsimp only at W
   have Ec:=W.1;let⟨f8,sH⟩:=yO;have Eg:T q=some ⟨59,[[.v (.string (bs zt)),.i (nV 0 (m,false)),.i (nV 1 (m,false)),.i (nV 2 (m,false)),.i 0,.v (.int .u64 0)]]⟩:=kp W;have hv:=KW hN;have ff:=qI sH Eg hv (nG R F) (nG n F) (nG C F) (nG r F) (nG q F) ff;have FL:=Yd (sZ mQ) uS;refine xF ?_;try simp only[aH]
   refine xb ?_;exact ah (4,x8,upd T q (some ⟨59,[Ff zt (m,false) 4]⟩),_) (h1:=⟨iv,(BA hN mQ),o1z,(bI _ _ _),o0D,iv,iv⟩)
  obtain rfl:j=4:=by omega
  have hQ:J q=some ⟨59,[[.v (.string (bs zt)),.i (nV 0 (m,false)),.i (nV 1 (m,false)),.i (nV 2 (m,false)),.i (nV 3 (m,false)),.v (.int .u64 0)]]⟩:=hQ;refine aB ?_;refine bX ?_;refine je 1 (C:=De) (hct:=o2C) (hp:=?_) (hk:=?_)
  .
   rintro c9 V n9 ⟨rfl,A,G⟩;try simp only[iq,iG]
   exact jJ _ o0A (hn:=XW _) (hh:=λ_=>.inl rfl)
  rintro ab V n9 ⟨x9,xH,rfl,BR,G⟩;try dsimp only at G
  have uV:=G.1;let⟨f9,cH⟩:=BR;have cI:V q=some ⟨59,[[.v (.string (bs zt)),.i (nV 0 (m,false)),.i (nV 1 (m,false)),.i (nV 2 (m,false)),.i (nV 3 (m,false)),.v (.int .u64 0)]]⟩:=kp G;have b9:=jU.trans (G.down oW);have Af:=(b9.2 n (by omega) (by omega)).trans BP;have cJ:=(b9.2 C (by omega) (by omega)).trans cl;have cL:=(b9.2 r (by omega) (by omega)).trans cm;have xG:=bE.via aq (λ_ _ _=>rfl) b9 (XW _);have b8:=ZfI qK hN xH;rw[<-H5]at b8;have ff:=qE cH cI Af cJ (qI cL (nG R n9) (nG n n9) (nG C n9) (nG r n9) (nG q n9) (nH R n) (nH C R) (qI (nH R r) (nH R q) (nH C n) (nH n r) (nH n q) (nH C r) (nH C q) (nH q r) ff));have nY:=Yd (sZ xH) uS;refine xF ?_;try simp only[aH]
  refine xb ?_;refine xb ?_;exact ah (k+1,o++[(nO (xs,false)).1],x9,(n9+8),_,_) (h1:=⟨iv,(by(try dsimp only);rw[L,hM,TT,b8,show N-(k+1)=M by omega]),(by(try dsimp only);rw[List.length_append,bp];rfl),(by(try dsimp only);exact⟨f9,ev⟩),o1D,(by(try dsimp only);rw[b8];simp only[go_sem,ff,List.map_append,List.map_cons,List.map_nil];first|done|exact rfl),o1D,o1K,oW,oW,iv⟩) (h5:=λ_=>.inl rfl)
 have cM:N-k=0:=by omega
 rw[cM]at L;refine aB ?_;refine sP C 4 r (rows:=o.map RSig.d) (off:=0) (len:=k) ev rfl ev om (by simp[bp]) Bu ?_;simp only[X4,zq,YC,Yx];refine xa ?_;exact oN (F3 (.inr rfl) (_) (hh:=λ_=>.inl rfl) (hr:=oS (k:=by rw[ac,L,Ye (by simp[bp])];exact⟨xs,rfl,rfl,⟨fs,ev⟩,(rv B (bE.refl (XW _)))⟩)))
theorem NN{st:RS}(h:st.2=true)(o:List Sgd):∀k,mK k o st=(o,st)
 | 0=>rfl
 | k+1=>by unfold mK;rw[X0 h]
theorem NM{x:Str}{o:List Sgd}{k:Nat}:mK (k+1) o (x,false)=mK k (o++[(jD (x,false)).1]) (jD (x,false)).2:=rfl
def Ue{x:Str}{o:List Sgd}{k:Nat}(h:(jD (x,false)).2.2=true)(hk:0<k):(mK k o (x,false)).2.2=true:=by obtain⟨j,rfl⟩:∃j,k=j+1:=⟨k-1,om⟩;rw[NM,NN h];exact h
theorem TU : ∀(k:Nat)(o:List RSig)(st:RS),(lV k o st).2.1.length<=st.1.length
 | 0,_,_=>XW _
 | k+1,o,st=>by
  have h : ∀st:RS,(nO st).2.1.length<=st.1.length:=by
   intro st;have t : ∀k(st:RS),(au k st).2.1.length<=st.1.length:=λk st=>Bp k st;have a:=Bp (au 1 st).1 (au 1 st).2;have b:=t 1 st;rw[KI];have e : ∀k(st:RS),(nN k st).1.length<=st.1.length:=by
    intro k;induction k with
    | zero=>exact λ_=>XW _
    | succ k c=>exact λst=>Yd (t 8 _) (c st)
   exact Yd (e 5 _) (Yd a b)
  unfold lV;split
  . exact XW _
  exact Yd (TU k _ _) (h st)
def Ug{x f:Str}(h:(jD (x,false)).2=(f,false)):f.length<=x.length:=by
 have J:(jD (x,false)).2.1.length<=x.length:=by
  have t : ∀k(n:RS),(au k n).2.1.length<=n.1.length:=λk n=>Bp k n;have a:=Bp (au 2 (x,false)).1 (au 2 (x,false)).2;have b:=t 2 (x,false);have c:(iV (x,false)).2.1.length<=(lF (x,false)).2.1.length:=by unfold iV;split<;>exact XW _
  exact Yd (TU _ _ _) (Yd (t 1 _) (Yd c (Yd a b)))
 rw[h]at J;exact J
def CX{st:RS}(h:st.2=true):(nP st).2.2=true:=by show(mK _ _ _).2.2=true;rw[NN (wP h)];exact wP h
def Ul{st:RS}(h:(au 4 st).2.2=true):(nP st).2.2=true:=by show(mK _ _ _).2.2=true;rw[NN h];exact h
theorem Uk{x a:Str}(h:(au 4 (x,false)).2=(a,false)):nP (x,false)=mK (au 4 (x,false)).1 [] (a,false):=by unfold nP;rw[h]
def ZcR{st:RS}(h:(bY st).2.2=true):(lD st).2.2=true:=CX h
def RQ{x a:Str}(h:(bY (x,false)).2=(a,false))(h2:(nP (a,false)).2.2=true):(lD (x,false)).2.2=true:=by show(nP _).2.2=true;rw[h];exact h2
def ZcQ{x a:Str}(h:(bY (x,false)).2=(a,false)):lD (x,false)=(⟨(bY (x,false)).1,(nP (a,false)).1⟩,(nP (a,false)).2):=by unfold lD;rw[h]
theorem G5{st:RS}(h:st.2=true)(o:List Qst):∀k,qj k o st=(o,st)
 | 0=>rfl
 | k+1=>by unfold qj;rw[X0 h]
theorem U9{x:Str}{o:List Qst}{k:Nat}:qj (k+1) o (x,false)=qj k (o++[(tV (x,false)).1]) (tV (x,false)).2:=rfl
def Va{x:Str}{o:List Qst}{k:Nat}(h:(tV (x,false)).2.2=true)(hk:0<k):(qj k o (x,false)).2.2=true:=by obtain⟨j,rfl⟩:∃j,k=j+1:=⟨k-1,om⟩;rw[U9,G5 h];exact h
def Zh5{st:RS}(h:(bY st).2.2=true):(tV st).2.2=true:=wP h
def Zh4{x a:Str}(h:(bY (x,false)).2=(a,false))(h2:(au 1 (a,false)).2.2=true):(tV (x,false)).2.2=true:=by show(au 1 (bY (x,false)).2).2.2=true;rw[h];exact h2
def Zh2{x a c:Str}(h:(bY (x,false)).2=(a,false))(h2:(au 1 (a,false)).2=(c,false)):tV (x,false)=(⟨(bY (x,false)).1,IntKind.i64.wrap (((au 1 (a,false)).1:Nat):Int)⟩,(c,false)):=by unfold tV;rw[h,h2];rfl
def ZnE{st:RS}(h:(bY st).2.2=true):(fU st).2.2=true:=by unfold fU;simp only;have J:=wP (k:=8) h;have Y:=wP (k:=8) J;have A:=wP (k:=4) Y;rw[G5 A];exact CX A
def ZnD{x a:Str}(h:(bY (x,false)).2=(a,false))(h2:(au 8 (a,false)).2.2=true):(fU (x,false)).2.2=true:=by unfold fU;simp only[h];have A:=wP (k:=8) h2;have Y:=wP (k:=4) A;rw[G5 Y];exact CX Y
def ZnC{x a c:Str}(h:(bY (x,false)).2=(a,false))(h2:(au 8 (a,false)).2=(c,false))(h3:(au 8 (c,false)).2.2=true):(fU (x,false)).2.2=true:=by unfold fU;simp only[h,h2];have Y:=wP (k:=4) h3;rw[G5 Y];exact CX Y
def ZnB{x a c f:Str}(h:(bY (x,false)).2=(a,false))(h2:(au 8 (a,false)).2=(c,false))(h3:(au 8 (c,false)).2=(f,false))(h4:(au 4 (f,false)).2.2=true):(fU (x,false)).2.2=true:=by unfold fU;simp only[h,h2,h3];rw[G5 h4];exact CX h4
def ZnA{x f g a c:Str}(h:(bY (x,false)).2=(f,false))(h2:(au 8 (f,false)).2=(g,false))(h3:(au 8 (g,false)).2=(a,false))(h4:(au 4 (a,false)).2=(c,false)) :
  fU (x,false)=(⟨(bY (x,false)).1,IntKind.i64.wrap (((au 8 (f,false)).1:Nat):Int),IntKind.i64.wrap (((au 8 (g,false)).1:Nat):Int),(qj (au 4 (a,false)).1 [] (c,false)).1,(nP (qj (au 4 (a,false)).1 [] (c,false)).2).1⟩,(nP (qj (au 4 (a,false)).1 [] (c,false)).2).2):=by
 unfold fU;simp only[h,h2,h3,h4];rfl
set_option maxHeartbeats 2000000
def bo227:fE prog 227=true:=by kernel_rfl
def Zk4(x:Str)(h:H)(n R:Nat)(hb:jN h R x)(E:x.length<=1000000000):pW prog 227 [.mptr R 0 0] h n (λd h' g=>∃x':Str,(lD (x,false)).2=(x',false)/\d = .agg (lD (x,false)).1.d/\jN h' R x'/\bE h h' R n g) (λc h' g=>c=wO/\(lD (x,false)).2.2=true/\bE h h' R n g):=by
 refine EL func227 rfl bo227 (by simp[f227]) (λy=>?_);unfold f227;have ff:=True.intro;let⟨f,hR⟩:=hb;have cb:R<n:=by rcases YK R n with q|q;exact q;rw[y R q]at hR;cases hR
 have ff:=qD @hR (nG R n) (nH R n) ff;refine xa ?_;refine bX ?_;refine je 1 (C:=De) (hct:=by exact Le x _ _ R ⟨f,ev⟩ E) (hp:=?_) (hk:=?_)
 .
  rintro c9 V n9 ⟨rfl,A,G⟩;try simp only[iq,iG]
  exact jJ _ (by exact⟨rfl,ZcR A,(rv (bE.refl (h:=h) (R:=R) (XW n)) G)⟩) (hn:=XW _) (hh:=λ_=>.inl rfl)
 rintro a h2 u ⟨x2,j,rfl,b8,aS⟩;try dsimp only at aS
 have cg:=aS.1;let⟨f2,b9⟩:=b8;have bb:h2 n=some ⟨24,[[.v (.string (bs [])),.e]]⟩:=kp aS;have ab:bE h h2 R n u:=(rv (bE.refl (h:=h) (R:=R) (XW n)) aS);have ac:=ZcQ j;obtain⟨zt,H5⟩:∃z,z=(bY (x,false)).1:=⟨_,rfl⟩;try rw[<-H5]
 rw[<-H5]at ac;have ff:=qE b9 bb (nG R u) (nG n u) ff;have am:=Yd (JJ j) E;refine xF ?_;try simp only[aH]
 refine aj ?_;refine xR (u+3) 1 24 56 ev (by rfl) o3h ?_;simp only[YC,Yx];obtain⟨C,IC⟩:∃C,C=u+3:=⟨_,rfl⟩;rw[<-IC];obtain⟨O,be⟩:∃O,O=u+5:=⟨_,rfl⟩;rw[<-be];have ff:=qG (nH R n) (nH C R) (nH O R) (nH C n) (nH O n) (nH C O) ff;refine bX ?_;refine je 1 (C:=De) (hct:=by exact Lh x2 _ _ R ⟨f2,ev⟩ am) (hp:=?_) (hk:=?_)
 .
  rintro c9 V n9 ⟨rfl,A,G⟩;try simp only[iq,iG]
  exact jJ _ (by exact⟨rfl,RQ j (Ul A),(rv ab G)⟩) (hn:=XW _) (hh:=λ_=>.inl rfl)
 rintro a Y n4 ⟨x4,vS,rfl,bh,L⟩;try dsimp only at L
 have ch:=L.1;let⟨f4,vU⟩:=bh;have nZ:Y n=some ⟨24,[[.v (.string (bs [])),.e]]⟩:=kp L;have Ei:Y C=some ⟨24,[[.v (.string (bs zt)),.mrow O 0 0]]⟩:=kp L;have aq:Y O=some ⟨56,[]⟩:=kp L;have bm:bE h Y R n n4:=(rv ab L);have Iy:(au 4 (x2,false)).1<256^4:=Dn 4 (x2,false);have I:=Uk vS;obtain⟨N,Iz⟩:∃N,N=(au 4 (x2,false)).1:=⟨_,rfl⟩;try rw[<-Iz]
 rw[<-Iz]at Iy I;have ff:=qI vU nZ Ei aq (nG R n4) (nG n n4) (nG C n4) (nG O n4) ff;have ci:=Yd (sZ vS) am;refine xF ?_;try simp only[aH]
 refine dK ?_;refine iF (Nat×(List Sgd)×Str×Nat×H×Nat) [0,2,3,8] (λ⟨k,o,m,r,K,Z⟩=>(k<=N/\mK N [] (x4,false)=mK (N-k) o (m,false)/\o.length=k/\jN K R m/\K C=some ⟨24,[[.v (.string (bs zt)),.mrow r 0 k]]⟩/\K r=some ⟨56,(o).map Sgd.d⟩/\K n=some ⟨24,[[.v (.string (bs [])),.e]]⟩/\bE h K R n Z/\C<r/\r<Z/\m.length<=1000000000,N-k,[(9,.v (.int .u64 ((k:Nat):Int)))],K,Z)) (0,[],x4,O,Y,_) ?_ (hA:=⟨iv,rfl,rfl,⟨f4,vU⟩,Ei,aq,nZ,(bm.up oW),oW,oW,iv⟩);rintro⟨k,o,m,r,K,Z⟩ ⟨hk,t,J,xJ,hC,hr,hn,B,cj,cl,ar⟩;simp only[XX,XZ];let⟨fs,vT⟩:=xJ;have e7:=AV (n:=k+1) (by omega);have bp:((k+1:Nat):Int)=(k:Int)+1:=by omega
 rw[bp]at e7;have ff:=qH @vT @hC @hr @hn @e7 (nG R Z) (nG n Z) (qI (nG C Z) (nG r Z) (nH R n) (nH C R) (nH R r) (nH C n) (nH n r) (nH C r) ff);refine wF De ?_ ?_<;>intro w
 .
  have cm:k<N:=by omega
  obtain⟨M,hM⟩:∃M,N-k=M+1:=⟨N-k-1,om⟩;refine wB ?_;refine dr1L De 3 4 5 [(1,11)] (R:=_) (X:=_) (hct:=by exact XE m _ _ R ⟨fs,ev⟩ ar) (hkeep:=?kp15) (BX:=?fo15) (hk:=?kk15) (hp:=?pp15)
  case kp15 =>
   rintro a h2 u ⟨_,_,_,_,G⟩ p F r9 aw;simp only[Yk]at F;subst F;simp only[go_sem,ff,sd,named,YF]at aw ⊢;subst aw;exact G.2 _ oW om
  case fo15 =>
   rintro a h2 u ⟨_,_,rfl,_,_⟩
   (try simp only[X9,X4,X5,Yf,S.put,Yq,Nat.reduceSub,Nat.reduceAdd,go_sem,ff]);all_goals exact ok0
  case pp15 =>
   rintro c9 V n9 ⟨rfl,A,G⟩ t9;try simp only[iq,iG]
   exact jJ _ (by exact⟨rfl,RQ j (by rw[I,t];exact Ue A (by omega)),(rv B G)⟩) (hn:=XW _) (hh:=λ_=>.inl rfl)
  rintro a U T ⟨x5,qK,rfl,br,W⟩;try dsimp only at W
  have co:=W.1;let⟨f5,xL⟩:=br;have BP:U n=some ⟨24,[[.v (.string (bs [])),.e]]⟩:=kp W;have bw:U C=some ⟨24,[[.v (.string (bs zt)),.mrow r 0 k]]⟩:=kp W;have bx:U r=some ⟨56,(o).map Sgd.d⟩:=kp W;have ca:bE h U R n T:=(rv B W);have ff:=qI xL BP bw bx (nG R T) (nG n T) (nG C T) (nG r T) ff;have cp:=Yd (Ug qK) ar;have b7:jD (m,false)=((jD (m,false)).1,(x5,false)):=Prod.ext rfl qK;refine gto ?_;refine xF ?_;try simp only[aH]
  refine xb ?_;exact ah (k+1,o++[(jD (m,false)).1],x5,(T+5),_,_) (h1:=⟨iv,(by(try dsimp only);rw[t,hM,NM,b7,show N-(k+1)=M by omega]),(by(try dsimp only);rw[List.length_append,J];rfl),(by(try dsimp only);exact⟨f5,ev⟩),o1D,o0K,o1D,(by(try dsimp only);exact(rv ca (bE.refl (Nat.le_refl _)))),oW,oW,iv⟩) (h5:=λ_=>.inl rfl)
 have v:N-k=0:=by omega
 rw[v]at t;refine aB ?_;refine sP C 1 r (rows:=o.map Sgd.d) (off:=0) (len:=k) ev rfl ev om (by simp[J]) Dy ?_;simp only[X4,zq,YC,Yx];refine xa ?_;exact oN (F3 (.inr rfl) (_) (hh:=λ_=>.inl rfl) (hr:=oS (k:=by rw[ac,I,t,Ye (by simp[J])];exact⟨m,rfl,rfl,⟨fs,ev⟩,(rv B (bE.refl (XW _)))⟩)))
set_option maxHeartbeats 2000000
def bo230:fE prog 230=true:=by kernel_rfl
def Zlp(x:Str)(h:H)(n R:Nat)(hb:jN h R x)(E:x.length<=1000000000):pW prog 230 [.mptr R 0 0] h n (λd h' g=>∃x':Str,(fU (x,false)).2=(x',false)/\d = .agg (fU (x,false)).1.d/\jN h' R x'/\bE h h' R n g) (λc h' g=>c=wO/\(fU (x,false)).2.2=true/\bE h h' R n g):=by
 refine EL func230 rfl bo230 (by simp[f230]) (λam=>?_);unfold f230;have ff:=True.intro;let⟨f,hR⟩:=hb;have ec:R<n:=by rcases YK R n with q|q;exact q;rw[am R q]at hR;cases hR
 have ff:=qD @hR (nG R n) (nH R n) ff;refine xa ?_;refine bX ?_;refine je 1 (C:=De) (hct:=by exact Le x _ _ R ⟨f,ev⟩ E) (hp:=?_) (hk:=?_)
 .
  rintro c9 V y ⟨rfl,A,a⟩;try simp only[iq,iG]
  exact jJ _ (by exact⟨rfl,ZnE A,(rv (bE.refl (h:=h) (R:=R) (XW n)) a)⟩) (hn:=XW _) (hh:=λ_=>.inl rfl)
 rintro j Y n2 ⟨x2,J,rfl,cC,aS⟩;try dsimp only at aS
 have ee:=aS.1;let⟨f2,cD⟩:=cC;have cE:Y n=some ⟨77,[[.v (.string (bs [])),.i 0,.i 0,.e,.e]]⟩:=kp aS;have b9:bE h Y R n n2:=(rv (bE.refl (h:=h) (R:=R) (XW n)) aS);have bb:=Yd (JJ J) E;obtain⟨zt,be⟩:∃v,v=(bY (x,false)).1:=⟨_,rfl⟩;try rw[<-be]
 have ff:=qE cD cE (nG R n2) (nG n n2) ff;refine xF ?_;try simp only[aH]
 obtain⟨C,IC⟩:∃C,C=n2+3:=⟨_,rfl⟩;rw[<-IC];have ff:=qD (nH R n) (nH C R) (nH C n) ff;refine bX ?_;refine je 1 (C:=De) (hct:=by exact zY x2 _ _ R ⟨f2,ev⟩ bb) (hp:=?_) (hk:=?_)
 .
  rintro c9 V y ⟨rfl,A,a⟩;try simp only[iq,iG]
  exact jJ _ (by exact⟨rfl,ZnD J A,(rv b9 a)⟩) (hn:=XW _) (hh:=λ_=>.inl rfl)
 rintro j h3 n3 ⟨x3,ab,rfl,cF,eX⟩;try dsimp only at eX
 have ef:=eX.1;let⟨f3,cG⟩:=cF;have cH:h3 n=some ⟨77,[[.v (.string (bs [])),.i 0,.i 0,.e,.e]]⟩:=kp eX;have cI:h3 C=some ⟨77,[[.v (.string (bs zt)),.i 0,.i 0,.e,.e]]⟩:=kp eX;have bh:bE h h3 R n n3:=(rv b9 eX);have bm:=Yd (sZ ab) bb;obtain⟨v2,bp⟩:∃v,v=(au 8 (x2,false)).1:=⟨_,rfl⟩;try rw[<-bp]
 have ff:=qG cG cH cI (nG R n3) (nG n n3) (nG C n3) ff;refine xF ?_;try simp only[aH]
 refine bX ?_;refine je 1 (C:=De) (hct:=by exact zY x3 _ _ R ⟨f3,ev⟩ bm) (hp:=?_) (hk:=?_)
 .
  rintro c9 V y ⟨rfl,A,a⟩;try simp only[iq,iG]
  exact jJ _ (by exact⟨rfl,ZnC J ab A,(rv bh a)⟩) (hn:=XW _) (hh:=λ_=>.inl rfl)
 rintro j h4 n4 ⟨x4,vS,rfl,cJ,iO⟩;try dsimp only at iO
 have eg:=iO.1;let⟨f4,vU⟩:=cJ;have cL:h4 n=some ⟨77,[[.v (.string (bs [])),.i 0,.i 0,.e,.e]]⟩:=kp iO;have cM:h4 C=some ⟨77,[[.v (.string (bs zt)),.i (IntKind.i64.wrap ((v2:Nat):Int)),.i 0,.e,.e]]⟩:=kp iO;have br:bE h h4 R n n4:=(rv bh iO);have bw:=Yd (sZ vS) bm;obtain⟨v3,bx⟩:∃v,v=(au 8 (x3,false)).1:=⟨_,rfl⟩;try rw[<-bx]
 have ff:=qG vU cL cM (nG R n4) (nG n n4) (nG C n4) ff;refine xF ?_;try simp only[aH]
 refine aj ?_;refine xR C 3 77 31 ev (by rfl) o3h ?_;simp only[YC,Yx];obtain⟨r,cN⟩:∃r,r=n4+5:=⟨_,rfl⟩;rw[<-cN];have ff:=qG (nH R n) (nH C R) (nH R r) (nH C n) (nH n r) (nH C r) ff;refine bX ?_;refine je 1 (C:=De) (hct:=by exact Lh x4 _ _ R ⟨f4,ev⟩ bw) (hp:=?_) (hk:=?_)
 .
  rintro c9 V y ⟨rfl,A,a⟩;try simp only[iq,iG]
  exact jJ _ (by exact⟨rfl,ZnB J ab vS A,(rv br a)⟩) (hn:=XW _) (hh:=λ_=>.inl rfl)
 rintro j U n5 ⟨x5,qK,rfl,cP,fM⟩;try dsimp only at fM
 have eh:=fM.1;let⟨f5,xL⟩:=cP;have ca:U n=some ⟨77,[[.v (.string (bs [])),.i 0,.i 0,.e,.e]]⟩:=kp fM;have cb:U C=some ⟨77,[[.v (.string (bs zt)),.i (IntKind.i64.wrap ((v2:Nat):Int)),.i (IntKind.i64.wrap ((v3:Nat):Int)),.mrow r 0 0,.e]]⟩:=kp fM;have cg:U r=some ⟨31,[]⟩:=kp fM;have cQ:bE h U R n n5:=(rv br fM);have ei:=Yd (sZ qK) bw;have m:=ZnA J ab vS qK;have Iy:(au 4 (x4,false)).1<256^4:=Dn 4 (x4,false);obtain⟨N,eN⟩:∃v,v=(au 4 (x4,false)).1:=⟨_,rfl⟩;try rw[<-eN]
 rw[<-eN]at Iy m;rw[<-be,<-bp,<-bx]at m;have ff:=qI xL ca cb cg (nG R n5) (nG n n5) (nG C n5) (nG r n5) ff;refine xF ?_;try simp only[aH]
 refine dK ?_;refine iF (Nat×(List Qst)×Str×Nat×H×Nat) [0,2,3,17] (λ⟨k,o,z,r,K,Z⟩=>(k<=N/\qj N [] (x5,false)=qj (N-k) o (z,false)/\o.length=k/\jN K R z/\(K C=some ⟨77,[[.v (.string (bs zt)),.i (IntKind.i64.wrap ((v2:Nat):Int)),.i (IntKind.i64.wrap ((v3:Nat):Int)),.mrow r 0 k,.e]]⟩)/\K r=some ⟨31,(o).map Qst.d⟩/\K n=some ⟨77,[[.v (.string (bs [])),.i 0,.i 0,.e,.e]]⟩/\bE h K R n Z/\C<r/\r<Z/\z.length<=1000000000,N-k,[(18,.v (.int .u64 ((k:Nat):Int)))],K,Z)) (0,[],x5,r,U,_) ?_ (hA:=⟨iv,rfl,rfl,⟨f5,xL⟩,cb,cg,ca,(cQ.up oW),oW,oW,iv⟩);rintro⟨k,o,z,r,K,Z⟩ ⟨hk,t,aq,xJ,hC,O,G,B,cR,cS,ac⟩;simp only[XX,XZ];let⟨fs,vT⟩:=xJ;have e7:=AV (n:=k+1) (by omega);have ar:((k+1:Nat):Int)=(k:Int)+1:=by omega
 rw[ar]at e7;have ff:=qH @vT @hC @O @G @e7 (nG R Z) (nG n Z) (qI (nG C Z) (nG r Z) (nH R n) (nH C R) (nH R r) (nH C n) (nH n r) (nH C r) ff);refine wF De ?_ ?_<;>intro w
 .
  have cU:k<N:=by omega
  obtain⟨M,hM⟩:∃M,N-k=M+1:=⟨N-k-1,om⟩;refine wB ?_;refine bX ?_;refine je 1 (C:=De) (hct:=by exact Le z _ _ R ⟨fs,ev⟩ ac) (hp:=?_) (hk:=?_)
  .
   rintro c9 V y ⟨rfl,A,a⟩;try simp only[iq,iG]
   exact jJ _ (by exact⟨rfl,by rw[m,t];exact CX (Va (Zh5 A) (by omega)),(rv B a)⟩) (hn:=XW _) (hh:=λ_=>.inl rfl)
  rintro j W n6 ⟨x6,aw,rfl,cV,FN⟩;try dsimp only at FN
  have Ed:=FN.1;let⟨f6,cW⟩:=cV;have cX:W n=some ⟨77,[[.v (.string (bs [])),.i 0,.i 0,.e,.e]]⟩:=kp FN;have cY:W C=some ⟨77,[[.v (.string (bs zt)),.i (IntKind.i64.wrap ((v2:Nat):Int)),.i (IntKind.i64.wrap ((v3:Nat):Int)),.mrow r 0 k,.e]]⟩:=kp FN;have da:W r=some ⟨31,(o).map Qst.d⟩:=kp FN;have ch:bE h W R n n6:=(rv B FN);have ci:=Yd (JJ aw) ac;obtain⟨qt,cj⟩:∃v,v=(bY (z,false)).1:=⟨_,rfl⟩;try rw[<-cj]
  have ff:=qI cW cX cY da (nG R n6) (nG n n6) (nG C n6) (nG r n6) ff;refine xF ?_;try simp only[aH]
  obtain⟨q,db⟩:∃q,q=n6+3:=⟨_,rfl⟩;rw[<-db];simp only[AR];have ff:=qB (nH R n) (nH C R) (qI (nH R r) (nH R q) (nH C n) (nH n r) (nH n q) (nH C r) (nH C q) (nH q r) ff);refine bX ?_;refine je 1 (C:=De) (hct:=by exact Pv x6 _ _ R ⟨f6,ev⟩ ci) (hp:=?_) (hk:=?_)
  .
   rintro c9 V y ⟨rfl,A,a⟩;try simp only[iq,iG]
   exact jJ _ (by exact⟨rfl,by rw[m,t];exact CX (Va (Zh4 aw A) (by omega)),(rv ch a)⟩) (hn:=XW _) (hh:=λ_=>.inl rfl)
  rintro j h7 n7 ⟨x7,Ii,rfl,xJ,jU⟩;try dsimp only at jU
  have el:=jU.1;let⟨f7,vT⟩:=xJ;have de:h7 n=some ⟨77,[[.v (.string (bs [])),.i 0,.i 0,.e,.e]]⟩:=kp jU;have dg:h7 C=some ⟨77,[[.v (.string (bs zt)),.i (IntKind.i64.wrap ((v2:Nat):Int)),.i (IntKind.i64.wrap ((v3:Nat):Int)),.mrow r 0 k,.e]]⟩:=kp jU;have dj:h7 r=some ⟨31,(o).map Qst.d⟩:=kp jU;have dl:h7 q=some ⟨31,[[.v (.string (bs qt)),.i 0]]⟩:=kp jU;have dq:bE h h7 R n n7:=(rv ch jU);have eo:=Yd (sZ Ii) ci;have b7:=Zh2 aw Ii;rw[<-cj]at b7;have ff:=qB vT de (qI dg dj dl (nG R n7) (nG n n7) (nG C n7) (nG r n7) (nG q n7) ff);refine xF ?_;try simp only[aH]
  refine xb ?_;refine xb ?_;exact ah (k+1,o++[(tV (z,false)).1],x7,(n7+9),_,_) (h1:=⟨iv,(by(try dsimp only);rw[t,hM,U9,b7,show N-(k+1)=M by omega]),(by(try dsimp only);rw[List.length_append,aq];rfl),(by(try dsimp only);exact⟨f7,ev⟩),o1D,(by(try dsimp only);rw[b7];simp only[go_sem,ff,List.map_append,List.map_cons,List.map_nil];first|done|exact rfl),o1D,(by(try dsimp only);exact(rv dq (bE.refl (Nat.le_refl _)))),oW,oW,iv⟩) (h5:=λ_=>.inl rfl)
 have b8:N-k=0:=by omega
 rw[b8]at t;have t:qj N [] (x5,false)=(o,(z,false)):=t;obtain⟨DQ,cl⟩:∃l,l=o:=⟨_,rfl⟩;refine aB ?_;refine aj ?_;refine sP C 3 r (rows:=o.map Qst.d) (off:=0) (len:=k) ev rfl ev om (by simp[aq]) We ?_;simp only[X4,zq,YC,Yx];rw[Ye (by simp[aq]),<-cl];refine xR C 4 77 56 ev (by rfl) o3h ?_;simp only[YC,Yx];obtain⟨p,dt⟩:∃p,p=Z+1:=⟨_,rfl⟩;rw[<-dt];have ff:=qH (nH R n) (nH C R) (nH R p) (nH C n) (nH n p) (nH C p) (nH p r) ff;refine bX ?_;refine je 1 (C:=De) (hct:=by exact Lh z _ _ R ⟨fs,ev⟩ ac) (hp:=?_) (hk:=?_)
 .
  rintro c9 V y ⟨rfl,A,a⟩;try simp only[iq,iG]
  exact jJ _ (by exact⟨rfl,by rw[m,t];exact Ul A,(rv B a)⟩) (hn:=XW _) (hh:=λ_=>.inl rfl)
 rintro j T n8 ⟨x8,mQ,rfl,yO,ik⟩;try dsimp only at ik
 have Ec:=ik.1;let⟨f8,sH⟩:=yO;have cm:T n=some ⟨77,[[.v (.string (bs [])),.i 0,.i 0,.e,.e]]⟩:=kp ik;have co:T C=some ⟨77,[[.v (.string (bs zt)),.i (IntKind.i64.wrap ((v2:Nat):Int)),.i (IntKind.i64.wrap ((v3:Nat):Int)),.l (DQ.map Qst.d),.mrow p 0 0]]⟩:=kp ik;have cp:T p=some ⟨56,[]⟩:=kp ik;have du:bE h T R n n8:=(rv B ik);have FL:=Yd (sZ mQ) ac;rw[t,Uk mQ,<-cl]at m;have dv:(au 4 (z,false)).1<256^4:=Dn 4 (z,false);obtain⟨M,eM⟩:∃v,v=(au 4 (z,false)).1:=⟨_,rfl⟩;try rw[<-eM]
 rw[<-eM]at dv m;have ff:=qI sH cm co cp (nG R n8) (nG n n8) (nG C n8) (nG p n8) ff;refine xF ?_;try simp only[aH]
 refine dK ?_;refine iF (Nat×(List Sgd)×Str×Nat×H×Nat) [0,2,3,35] (λ⟨k,o,mo,p,u,Z⟩=>(k<=M/\mK M [] (x8,false)=mK (M-k) o (mo,false)/\o.length=k/\jN u R mo/\(u C=some ⟨77,[[.v (.string (bs zt)),.i (IntKind.i64.wrap ((v2:Nat):Int)),.i (IntKind.i64.wrap ((v3:Nat):Int)),.l (DQ.map Qst.d),.mrow p 0 k]]⟩)/\u p=some ⟨56,(o).map Sgd.d⟩/\u n=some ⟨77,[[.v (.string (bs [])),.i 0,.i 0,.e,.e]]⟩/\bE h u R n Z/\C<p/\p<Z/\mo.length<=1000000000,M-k,[(36,.v (.int .u64 ((k:Nat):Int)))],u,Z)) (0,[],x8,p,T,_) ?_ (hA:=⟨iv,rfl,rfl,⟨f8,sH⟩,co,cp,cm,(du.up oW),oW,oW,iv⟩);rintro⟨k,o,mo,p,u,Z⟩ ⟨hk,Lp,Ij,xJ,hC,O,G,aS,cR,cS,uS⟩;simp only[XX,XZ];let⟨cq,vT⟩:=xJ;have e7:=AV (n:=k+1) (by omega);have ar:((k+1:Nat):Int)=(k:Int)+1:=by omega
 rw[ar]at e7;have ff:=qH @vT @hC @O @G @e7 (nG R Z) (nG n Z) (qI (nG C Z) (nG p Z) (nH R n) (nH C R) (nH R p) (nH C n) (nH n p) (nH C p) ff);refine wF De ?_ ?_<;>intro I
 .
  have cU:k<M:=by omega
  obtain⟨L,hL⟩:∃L,M-k=L+1:=⟨M-k-1,om⟩;refine wB ?_;refine dr1L De 3 4 5 [(1,38)] (R:=_) (X:=_) (hct:=by exact XE mo _ _ R ⟨cq,ev⟩ uS) (hkeep:=?kp23) (BX:=?fo23) (hk:=?kk23) (hp:=?pp23)
  case kp23 =>
   rintro j Y n2 ⟨_,_,_,_,a⟩ p F r9 cr;simp only[Yk]at F;subst F;simp only[go_sem,ff,sd,named,YF]at cr ⊢;subst cr;exact a.2 _ oW om
  case fo23 =>
   rintro j Y n2 ⟨_,_,rfl,_,_⟩
   (try simp only[X9,X4,X5,Yf,S.put,Yq,Nat.reduceSub,Nat.reduceAdd,go_sem,ff]);all_goals exact ok0
  case pp23 =>
   rintro c9 V y ⟨rfl,A,a⟩ t9;try simp only[iq,iG]
   exact jJ _ (by exact⟨rfl,by rw[m,Lp];exact Ue A (by omega),(rv aS a)⟩) (hn:=XW _) (hh:=λ_=>.inl rfl)
  rintro j V y ⟨x9,xH,rfl,BR,a⟩;try dsimp only at a
  have uV:=a.1;let⟨f9,dT⟩:=BR;have Af:V n=some ⟨77,[[.v (.string (bs [])),.i 0,.i 0,.e,.e]]⟩:=kp a;have eb:V C=some ⟨77,[[.v (.string (bs zt)),.i (IntKind.i64.wrap ((v2:Nat):Int)),.i (IntKind.i64.wrap ((v3:Nat):Int)),.l (DQ.map Qst.d),.mrow p 0 k]]⟩:=kp a;have cw:V p=some ⟨56,(o).map Sgd.d⟩:=kp a;have xG:bE h V R n y:=(rv aS a);have ff:=qI dT Af eb cw (nG R y) (nG n y) (nG C y) (nG p y) ff;have nY:=Yd (Ug xH) uS;have cA:jD (mo,false)=((jD (mo,false)).1,(x9,false)):=Prod.ext rfl xH;refine gto ?_;refine xF ?_;try simp only[aH]
  refine xb ?_;exact ah (k+1,o++[(jD (mo,false)).1],x9,(y+5),_,_) (h1:=⟨iv,(by(try dsimp only);rw[Lp,hL,NM,cA,show M-(k+1)=L by omega]),(by(try dsimp only);rw[List.length_append,Ij];rfl),(by(try dsimp only);exact⟨f9,ev⟩),o1D,o0K,o1D,o1K,oW,oW,iv⟩) (h5:=λ_=>.inl rfl)
 have b8:M-k=0:=by omega
 rw[b8]at Lp;refine aB ?_;refine sP C 4 p (rows:=o.map Sgd.d) (off:=0) (len:=k) ev rfl ev om (by simp[Ij]) Dy ?_;simp only[X4,zq,YC,Yx];refine xa ?_;exact oN (F3 (.inr rfl) (_) (hh:=λ_=>.inl rfl) (hr:=oS (k:=by rw[m,Lp,Ye (by simp[Ij])];exact⟨mo,rfl,rfl,⟨cq,ev⟩,(rv aS (bE.refl (XW _)))⟩)))
end Go.Proofs.YtjhhnhgflmkenaaGreatDoor
namespace Go.Proofs.YtjhhnhgflmkenaaGreatDoor
open Go.Proofs.Tryz
open Go.RowKit Go.Extern.Stop Go.Stop Go.Extern Go.DL
def Zlx(v:Value)(w:World):(Extern.ReflectliteType.typeOf #[.iface 401 v]).run prog w = .ok (.iface 369 (.agg #[.pointer (some ⟨4,401,none⟩)])) w:=by kernel_rfl
def cmpX : Array Value -> Sem Value := Extern.ReflectliteType.method fun t => do Go.Extern.Rtype.noPackHeld "Comparable" t; pure (.bool (<- typeInfo t).comparable)
def ZlC(w:World):(cmpX #[.agg #[.pointer (some ⟨4,401,none⟩)]]).run prog w = .ok (.bool true) w:=by kernel_rfl
def ZlB (v : Value) (w : World) : (Go.method 534 369 v "Comparable").run prog w = .ok (372, v) w := by kernel_rfl
def ZlD:(prog.info? 401).map (·.comparable)=some true:=by kernel_rfl
def Zlz:(prog.info? 423).map (·.size)=some 1:=by kernel_rfl
def Zlv(a:Addr)(w:World) :
  Calls prog 228 #[.iface 401 (.pointer (some a)),.iface 401 (.pointer (some a))] w λe T=>e = .returned (.bool true)/\T=w:=by
 let⟨i,hi,c⟩:=Option.map_eq_some_iff.1 ZlD;let⟨j,A,f⟩:=Option.map_eq_some_iff.1 Zlz;have k:=@run_callFunc_extern prog 284 _ Extern.ReflectliteType.typeOf func284 (by kernel_rfl) (by kernel_rfl) (by kernel_rfl) (by kernel_rfl);have g:=@run_callFunc_extern prog 372 _ cmpX func372 (by kernel_rfl) (by kernel_rfl) (by kernel_rfl) (by kernel_rfl);have m:=Zlx;have n:=ZlC;have o:=ZlB;have h:=run_eql_iface_ptr_same (P:=prog) w a underlying221 underlying401 hi c A
 go_enter func228,ntmps228
 go_wp2
 refine wp_loop_rounds 1 ?_;rw[rounds_succ]
 go_wp2
 go_ret
 exact⟨rfl,rfl⟩
def Zlw(b:Addr)(w:World) :
  Calls prog 228 #[.nilIface,.iface 401 (.pointer (some b))] w λe T=>e = .returned (.bool false)/\T=w:=by
 have f:=run_eql_iface_nil_left (P:=prog) w 401 (.pointer (some b)) underlying221
 go_enter func228,ntmps228
 go_wp2
 go_ret
 exact⟨rfl,rfl⟩
variable [Dr] [Glob prog] [Told]
noncomputable def F5(b:Bool):Value:=if b then kE iQ else .nilIface
def Vm{x y z:Value}(h : ∀w,Calls prog 228 #[x,y] w λe T=>e = .returned z/\T=w):yk 228 [.v x,.v y] (.v z):=by refine⟨by kernel_rfl,rfl,λw I j k c O=>?_⟩;obtain⟨a,l,rfl,J,Y⟩:=O.of_cons;obtain⟨b,f,rfl,A,g⟩:=Y.of_cons;obtain rfl:=J.v_inv;obtain rfl:=A.v_inv;have p:f=[]:=Yb g.1.symm;subst p;refine(callsIn_wide.2 (h w)).mono ?_;rintro e T ⟨rfl,rfl⟩;exact⟨z,rfl,⟨rfl,rfl,rfl,XW _,λ_=>XW _,λ_ _=>rfl⟩,.v _⟩
@[go_sem]theorem Zrc(b:Bool):Go.Jn.isE (F5 b)=b:=by cases b<;>rfl
def XL(b:Bool):yk 228 [.v (F5 b),.v (kE iQ)] (.b b):=by
 cases b
 . exact Vm λw=>Zlw iQ w
 exact Vm λw=>Zlv iQ w
end Go.Proofs.YtjhhnhgflmkenaaGreatDoor
namespace Go.Proofs.YtjhhnhgflmkenaaGreatDoor
open Go.Proofs.Tryz
open Go.DL Go.Str Go.Rec Go.Cmp Go.Zon
set_option maxRecDepth 10000
variable [Dr] [Glob prog] [Told]
def Zl0(s:Str)(p:Str)(hs:s.length<=1000000):yk 260 [.v (.string (bs s)),.v (.string (bs p))] (.b (yP s p)):=by
 refine oO func260 λff=>?_;unfold f260;have y:((s.length:Int)-p.length).toNat=s.length-p.length:=by omega
 have ff:=qA @y ff;refine xa ?_;exact ye (k:=by simp[yP])
def ZlZ(s:Str)(p:Str)(hs:s.length<=1000000):yk 178 [.v (.string (bs s)),.v (.string (bs p))] (.b (yP s p)):=by refine oO func178 λff=>?_;unfold f178;refine xa ?_;exact yi (hok:=oF (Zl0 _ _ hs))
def Dw(s:Str)(z:Str):yk 103 [.v (.string (bs s)),.v (.string (bs z))] (.tuple [.b (fT s z),.i (if ai s&&ai z then 0 else 11)]):=by
 refine oO func103 λff=>?_;unfold f103;refine xa ?_;refine xf ?_ ?_ (hok:=oH CQ)<;>intro w
 . exact ye (K:=1) (k:=o1v)
 refine xf ?_ ?_<;>intro I
 . exact ye (K:=1) (k:=o1v)
 have f:=iE w.1;have v:=iE w.2;have y:((s.length:Int)-z.length-1).toNat=s.length-z.length-1:=by omega
 have ff:=qA @y ff;exact ye (K:=1) (hok:=gI @ZlZ) (k:=o1v)
def UB(s:Str)(hs:s.length<=1000):yk 158 [.v (.string (bs s))] (.b (AQ s)):=by
 refine oO func158 λff=>?_;unfold f158;refine xa ?_;refine xa ?_ (hok:=gI @GR);rcases a:bA s with _|⟨p0,g⟩
 . have ff:=qA @a ff;exact ye (k:=by simp[AQ,a])
 have ff:=qA @a ff;exact ye (k:=by simp[AQ,a])
def RX(a:Str)(s:Int)(b:Str)(t:Int):yk 164 [.v (.string (bs a)),.i s,.v (.string (bs b)),.i t] (.i (qC ⟨a,s⟩ ⟨b,t⟩)):=by
 refine oO func164 λff=>?_;unfold f164;refine xa ?_;refine xf ?_ ?_<;>intro w
 . refine xa ?_ (hok:=oF (KT _ _));exact ye (k:=by simp[qC, *])
 exact ye (hok:=gI @Ga) (k:=by simp[qC, *])
def QP(a:Qst)(b:Qst):yk 240 [.agg a.d,.agg b.d] (.i (qC a b)):=by
 refine oO func240 λff=>?_;unfold f240;refine xa ?_;refine xf ?_ ?_<;>intro w
 . refine xa ?_ (hok:=oF (KT _ _));exact ye (k:=by simp[qC, *])
 exact ye (hok:=gI @Ga) (k:=by simp[qC, *])
def Zmx(t:Int)(a:Bool):yk 165 [.i t,.b a] (.b (fits t a)):=by
 refine oO func165 λff=>?_;unfold f165;refine xa ?_;refine xj ?_;refine oL De ?_ ?_<;>intro w
 .
  refine cd ?_ ?_<;>intro I
  . exact ye (k:=o3s)
  refine oL De ?_ ?_<;>intro f
  .
   refine cd ?_ ?_<;>intro c
   . exact ye (k:=o3s)
   refine bM ?_;exact ye (k:=o3s)
  refine xb ?_;refine cd ?_ ?_<;>intro g
  . exact ye (k:=o3s)
  refine bM ?_;exact ye (k:=o3s)
 refine xb ?_;refine cd ?_ ?_<;>intro h
 . exact ye (k:=o3s)
 refine oL De ?_ ?_<;>intro j
 .
  refine cd ?_ ?_<;>intro m
  . exact ye (k:=o3s)
  refine bM ?_;exact ye (k:=o3s)
 refine xb ?_;refine cd ?_ ?_<;>intro n
 . exact ye (k:=o3s)
 refine bM ?_;exact ye (k:=o3s)
def Zhj(t:Int)(a:Bool):yk 161 [.i t,.b a] (.b (fits t a)):=by
 refine oO func161 λff=>?_;unfold f161;refine xa ?_;refine xf ?_ ?_<;>intro w
 . exact ye (k:=by simp;simp only[fits];grind)
 exact ye (k:=by simp;simp only[fits];grind)
def Zhh(q:Qst):yk 6 [.agg q.d] (.b (ku q)):=by refine oO func6 λff=>?_;unfold Tryz.f6;refine xa ?_;exact ye (hok:=oH vF) (k:=by simp[ku,aP,ZI])
def Df(s:Str)(z:Str)(hs:s.length<=1000)(hz:z.length<=1000):yk 119 [.v (.string (bs s)),.v (.string (bs z))] (.b (ig s z)):=by
 refine oO func119 λff=>?_;unfold f119;refine xa ?_;refine xa ?_ (hok:=oF (GR _ hs));refine xa ?_ (hok:=oF (GR _ hz));refine xf ?_ ?_<;>intro w
 . exact ye (k:=by simp[ig];omega)
 have F:=VC s;have K:=VC z;refine xj ?_;refine lq (Nat×Nat) [5,6] (λ⟨k,Z⟩=>(k<=(bA z).length/\ax (bA z).length (Aa (bA s) (bA z)) 0=ax (bA z).length (Aa (bA s) (bA z)) k,(bA z).length-k,[(7,.i k)],[],Z)) (0,_) ?_;rintro⟨k,Z⟩ ⟨X,u⟩;simp only[XX,XZ];refine xt ?_ ?_<;>intro I
 .
  have U:k<(bA z).length:=by simpa using I
  have v:(bA s).length-(bA z).length+k<(bA s).length:=by omega
  have y:(((bA s).length:Int)-(bA z).length+k).toNat=(bA s).length-(bA z).length+k:=by omega
  have ff:=qD @y (kC U) (kC v) ff;refine wD ?_;refine xi ?_ ?_<;>intro a
  . exact ye (k:=by have c:(Aa (bA s) (bA z)) k=false:=(by simp only[Aa];grind);simp only[ig];rw[u,ed U c];try simp)
  refine xl ?_;have T:(Aa (bA s) (bA z)) k=true:=by simp only[Aa];grind
  exact ah (k+1,_) (h1:=⟨iv,o2D⟩)
 refine aB ?_;exact ye (k:=by simp only[ig];rw[u,gB (by omega)];simp;omega)
def ZcT(l:List RSig)(a:Str):yk 166 [.l (l.map RSig.d),.v (.string (bs a))] (.b (kg l a)):=by
 refine oO func166 λff=>?_;unfold f166;refine xa ?_;refine xf ?_ ?_<;>intro w
 . exact ye (k:=by simp[kg];omega)
 refine xj ?_;refine lq (Nat×Nat) [0,1,10,11] (λ⟨k,Z⟩=>(k<=l.length/\ax l.length (lu a l) 0=ax l.length (lu a l) k,l.length-k,[(12,.i k)],[],Z)) (0,_) ?_;rintro⟨k,Z⟩ ⟨X,u⟩;simp only[XX,XZ];refine xo ?_ ?_<;>intro I
 .
  have U:k<l.length:=by simpa using I
  have p:0<l.length:=by omega
  have g:k-1<l.length:=by omega
  have y:((k:Int)-1).toNat=k-1:=by omega
  have ff:=qE (vY U) (vY p) (vY g) @y ff;refine wB ?_;refine xa ?_;refine xf ?_ ?_<;>intro h
  . exact ye (k:=o0T)
  refine xf ?_ ?_<;>intro c
  . exact ye (k:=o0T)
  refine xi ?_ ?_<;>intro j
  . exact ye (k:=o0T)
  refine xl ?_;have T:(lu a l) k=true:=by simp only[lu,aP];grind
  exact ah (k+1,_) (h1:=⟨iv,o2D⟩)
 refine aB ?_;exact ye (k:=o2f)
def Zhb(l:List RSig)(a:Str):yk 162 [.l (l.map RSig.d),.v (.string (bs a))] (.b (kg l a)):=by
 refine oO func162 λff=>?_;unfold f162;refine xa ?_;refine xf ?_ ?_<;>intro w
 . exact ye (k:=by simp[kg];omega)
 refine xj ?_;refine lq (Nat×Nat) [0,1] (λ⟨k,Z⟩=>(k<=l.length/\ax l.length (lu a l) 0=ax l.length (lu a l) k,l.length-k,[(5,.i k)],[],Z)) (0,_) ?_;rintro⟨k,Z⟩ ⟨X,u⟩;simp only[XX,XZ];refine xt ?_ ?_<;>intro I
 .
  have U:k<l.length:=by simpa using I
  have p:0<l.length:=by omega
  have f:k-1<l.length:=by omega
  have y:((k:Int)-1).toNat=k-1:=by omega
  have ff:=qE (vY U) (vY p) (vY f) @y ff;refine wD ?_;refine xa ?_;refine xf ?_ ?_<;>intro h
  . exact ye (k:=o0U)
  refine xi ?_ ?_<;>intro c
  . exact ye (k:=o0U)
  refine xl ?_;have T:(lu a l) k=true:=by simp only[lu,aP];grind
  exact ah (k+1,_) (h1:=⟨iv,o2D⟩)
 refine aB ?_;exact ye (k:=o2f)
def F4{l:List Sgd}{q:Qst}{i j:Nat}(hv:aV l q=kG (λk=>qC l[k]!.q q) i j)(h:i<j):(qC l[(i+j) / 2]!.q q<0->aV l q=kG (λk=>qC l[k]!.q q) ((i+j) / 2+1) j)/\(¬qC l[(i+j) / 2]!.q q<0->aV l q=kG (λk=>qC l[k]!.q q) i ((i+j) / 2)):=by rw[wN,X0 h]at hv;exact⟨λY=>by rw[X0 Y]at hv;exact hv,λY=>by rw[XV Y]at hv;exact hv⟩
def M0(s:Sgd)(q:Qst):yk 185 [.agg s.d,.agg q.d] (.i (qC s.q q)):=by refine oO func185 λff=>?_;unfold f185;refine xa ?_;exact yi (hok:=oF (RX _ _ _ _))
def ZcY(l:List Sgd)(q:Qst)(n:l.length<=1000000):yk 184 [.l (l.map Sgd.d),.agg q.d,.fn (.func 185) [] []] (.tuple [.i (aV l q),.b (bV l q)]):=by
 refine oO func184 λff=>?_;unfold f184;refine oD De ?_;refine wD ?_;refine lq (Nat×Nat×Nat) [0,2,4,8] (λ⟨i,j,Z⟩=>(i<=j/\j<=l.length/\0<Z/\(aV l q=kG (λk=>qC l[k]!.q q) i j),j-i,[(9,.i i),(10,.i j)],[(0,⟨31,[q.d]⟩)],Z)) (0,l.length,_) ?_;rintro⟨i,j,Z⟩ ⟨m,A,E,u⟩;simp only[XX,XZ];have ff:=qA @E ff;refine xt ?_ ?_<;>intro w
 .
  have U:i<j:=by simpa using w
  have v:(i+j) / 2<l.length:=by omega
  have ff:=qB (KY (i:=i) (j:=j) (by omega)) (bN v) ff;refine dK ?_;refine xa ?_;refine xi ?_ ?_ (hok:=oH (M0 l[(i+j) / 2]! q))<;>intro I
  . refine xb ?_;exact ah ((i+j) / 2+1,j,_) (h1:=⟨iv,iv,iv,((F4 u U).1 I)⟩)
  refine xb ?_;exact ah (i,(i+j) / 2,_) (h1:=⟨iv,iv,iv,(by(try dsimp only);exact(F4 u U).2 om)⟩)
 refine aB ?_;have g:i=j:=by have V : ¬i<j:=(by simpa using w);omega
 have c:aV l q=i:=by rw[u,wN,XV (by omega)]
 by_cases a:i<l.length
 . have ff:=qA (bN a) ff;exact ye (K:=1) (hok:=oS (k:=o0y)) (k:=o2H)
 have ff:=qA (P8 (f:=Sgd.d) (Nat.le_of_not_lt a)) ff;exact ye (K:=1) (hok:=oS (k:=o0y)) (k:=o2H)
def EK(z:Zon)(q:Qst)(h:z.sets.length<=1000000):yk 109 [.agg z.d,.agg q.d] (.tuple [.i (aV z.sets q),.b (bV z.sets q)]):=by refine oO func109 λff=>?_;unfold f109;refine xa ?_;exact yi (K:=1) (hok:=oH (ZcY _ _ h))
def ZcK(z:Zon):yk 92 [.agg z.d] (.b (ordered z)):=by
 refine oO func92 λff=>?_;unfold f92;refine xa ?_;refine xf ?_ ?_ (hok:=oI yF LA)<;>intro w
 . exact ye (k:=by simp only[ordered];rw[wU]at *;grind)
 refine xj ?_;refine lq (Nat×Nat) [1,28,29] (λ⟨k,Z⟩=>(k<=z.sets.length/\ax z.sets.length (lW z.apex z.sets) 0=ax z.sets.length (lW z.apex z.sets) k/\0<Z,z.sets.length-k,[(30,.i k)],[(0,⟨166,[z.d]⟩)],Z)) (0,_) ?_;rintro⟨k,Z⟩ ⟨X,u,E⟩;simp only[XX,XZ];have ff:=qA @E ff;refine xo ?_ ?_<;>intro I
 .
  have U:k<z.sets.length:=by simpa using I
  have p:0<z.sets.length:=by omega
  have g:k-1<z.sets.length:=by omega
  have y:((k:Int)-1).toNat=k-1:=by omega
  have ff:=qE (bN U) (bN p) (bN g) @y ff;refine wB ?_;refine xa ?_;refine xf ?_ ?_ (hok:=oF (xe _))<;>intro a
  . exact ye (k:=o0G)
  refine aj ?_;refine xa ?_ (hok:=oF (Dw _ _));refine xi ?_ ?_<;>intro c
  . exact ye (k:=o0G)
  refine bM ?_;refine xf ?_ ?_<;>intro h
  .
   refine aB ?_;refine xb ?_;have T:(lW z.apex z.sets) k=true:=by simp only[lW];grind [Sgd.q]
   exact ah (k+1,_) (h1:=⟨iv,o2D,iv⟩)
  refine xa ?_;refine xi ?_ ?_ (hok:=oF (RX _ _ _ _))<;>intro j
  . exact ye (k:=o0G)
  refine xl ?_;have T:(lW z.apex z.sets) k=true:=by simp only[lW];grind [Sgd.q]
  exact ah (k+1,_) (h1:=⟨iv,o2D,iv⟩)
 refine aB ?_;exact ye (k:=by simp only[ordered];rw[wU]at *;rw[u,gB (by omega)];grind)
def ZcZ(z:Zon)(h:z.sets.length<=1000000):yk 93 [.agg z.d] (.b (ru z)):=by
 refine oO func93 λff=>?_;unfold f93;refine xa ?_;refine xj ?_;refine lq (Nat×Nat) [1,9,10] (λ⟨k,Z⟩=>(k<=2/\ax 2 (ng z) 0=ax 2 (ng z) k/\0<Z,2-k,[(11,.i k)],[(0,⟨166,[z.d]⟩)],Z)) (0,_) ?_;rintro⟨k,Z⟩ ⟨X,g,E⟩;simp only[XX,XZ];have ff:=qA @E ff;refine xo ?_ ?_<;>intro w
 .
  have U:k<2:=by have V:(k:Int)<2:=(by simpa using w);omega
  refine wB ?_;have m:k=0\/k=1:=by omega
  rcases m with f|f
  .
   have ff:=qA @f ff;refine xa ?_;refine xa ?_ (hok:=oI (EK z ⟨z.apex,4⟩ h) (EK z ⟨z.apex,2⟩ h));refine xi ?_ ?_<;>intro I
   . exact ye (k:=o0W)
   refine xl ?_;have T:(ng z) k=true:=by simpa[ng,f]using I
   exact ah (k+1,_) (h1:=⟨iv,(by(try dsimp only);rw[g,bC U T]),iv⟩)
  have ff:=qA @f ff;refine xa ?_;refine xa ?_ (hok:=oI (EK z ⟨z.apex,4⟩ h) (EK z ⟨z.apex,2⟩ h));refine xi ?_ ?_<;>intro I
  . exact ye (k:=o0W)
  refine xl ?_;have T:(ng z) k=true:=by simpa[ng,f]using I
  exact ah (k+1,_) (h1:=⟨iv,(by(try dsimp only);rw[g,bC U T]),iv⟩)
 refine aB ?_;refine xj ?_;refine lq (Nat×Nat) [1,30,31] (λ⟨k,Z⟩=>(k<=z.sets.length/\ax z.sets.length (oq z.apex z.sets) 0=ax z.sets.length (oq z.apex z.sets) k/\0<Z,z.sets.length-k,[(32,.i k)],[(0,⟨166,[z.d]⟩)],Z)) (0,_) ?_;rintro⟨k,Z⟩ ⟨X,u,E⟩;simp only[XX,XZ];have ff:=qA @E ff;refine xo ?_ ?_<;>intro a
 .
  have U:k<z.sets.length:=by simpa using a
  have ff:=qA (bN U) ff;refine wB ?_;refine xa ?_;refine xi ?_ ?_ (hok:=oF (Zmx _ _))<;>intro c
  . exact ye (k:=by have j:(oq z.apex z.sets) k=false:=(by simp only[oq];grind);simp only[ru];rw[u,ed U j];try simp)
  refine xl ?_;have T:(oq z.apex z.sets) k=true:=by simp only[oq];grind
  exact ah (k+1,_) (h1:=⟨iv,o2D,iv⟩)
 refine aB ?_;exact ye (k:=by simp only[ru];rw[g,u,gB (n:=2) (by omega),gB (by omega)];rfl)
@[go_sem]theorem keysOk_T{m:List Str}:jl prog 9 (vP m)=true:=by
 induction m with
 | nil=>rfl
 | cons s m k=>rw[DR];simp only[jl,k,ko9,Zt]
def Zc0(x:Lay)(h:x.z.sets.length<=1000000):yk 95 [.agg x.d] (.b (sU x)):=by
 refine oO func95 λff=>?_;unfold f95;refine xa ?_;refine xj ?_;refine lq (Nat×Nat) [1,8,9] (λ⟨k,Z⟩=>(k<=x.z.sets.length/\ax x.z.sets.length (lc x.z.sets) 0=ax x.z.sets.length (lc x.z.sets) k/\0<Z,x.z.sets.length-k,[(10,.i k)],[(0,⟨168,[x.d]⟩)],Z)) (0,_) ?_;rintro⟨k,Z⟩ ⟨X,u,E⟩;simp only[XX,XZ];have ff:=qA @E ff;refine xo ?_ ?_<;>intro w
 .
  have U:k<x.z.sets.length:=by simpa using w
  have m:k-1<x.z.sets.length:=by omega
  have y:((k:Int)-1).toNat=k-1:=by omega
  have O:((k:Int)+1).toNat=k+1:=by omega
  have ff:=qE (bN U) (bN m) @y @O ff;refine wB ?_;refine xa ?_;refine xf ?_ ?_<;>intro I
  .
   refine aB ?_;refine xb ?_;have T:(lc x.z.sets) k=true:=by simp only[lc];grind
   exact ah (k+1,_) (h1:=⟨iv,o2D,iv⟩)
  refine xf ?_ ?_<;>intro a
  . exact ye (k:=o0P)
  by_cases j:k+1<x.z.sets.length
  .
   have ff:=qA (bN j) ff;refine xi ?_ ?_<;>intro c
   . exact ye (k:=o0P)
   refine xl ?_;have T:(lc x.z.sets) k=true:=by simp only[lc];grind
   exact ah (k+1,_) (h1:=⟨iv,o2D,iv⟩)
  have n:decide (((k+1:Nat):Int)<x.z.sets.length)=false:=YY om;have ff:=qA (P8 (f:=Sgd.d) (Nat.le_of_not_lt j)) ff;refine xi ?_ ?_<;>intro o
  . exact ye (k:=o0P)
  refine xl ?_;have T:(lc x.z.sets) k=true:=by simp only[lc];grind
  exact ah (k+1,_) (h1:=⟨iv,o2D,iv⟩)
 refine aB ?_;exact ye (k:=by simp only[sU];rw[u,gB (by omega)])
def ZcW(x:Lay)(h:x.z.sets.length<=1000000)(p:x.b.length=x.z.sets.length):yk 96 [.agg x.d] (.b (mg x)):=by
 refine oO func96 λff=>?_;unfold f96;refine xa ?_;refine xj ?_;refine lq (Nat×Nat) [1,9,10] (λ⟨k,Z⟩=>(k<=x.z.sets.length/\ax x.z.sets.length (cutAt x) 0=ax x.z.sets.length (cutAt x) k/\0<Z,x.z.sets.length-k,[(11,.i k)],[(0,⟨168,[x.d]⟩)],Z)) (0,_) ?_;rintro⟨k,Z⟩ ⟨X,u,E⟩;simp only[XX,XZ];have ff:=qA @E ff;refine xo ?_ ?_<;>intro w
 .
  have U:k<x.z.sets.length:=by simpa using w
  have v:k<x.b.length:=by omega
  have ff:=qB (bN U) (kC v) ff;refine wB ?_;refine oD De ?_;refine dK ?_;refine xi ?_ ?_<;>intro I
  .
   refine xi ?_ ?_<;>intro a
   . exact ye (k:=o0R)
   refine xl ?_;have T:(cutAt x) k=true:=by simp only[cutAt];grind
   exact ah (k+1,_) (h1:=⟨iv,o2D,iv⟩)
  refine xi ?_ ?_<;>intro c
  .
   refine xi ?_ ?_<;>intro g
   . exact ye (k:=o0R)
   refine xl ?_;have T:(cutAt x) k=true:=by simp only[cutAt];grind
   exact ah (k+1,_) (h1:=⟨iv,o2D,iv⟩)
  refine xi ?_ ?_<;>intro j
  . exact ye (k:=o0R)
  refine xl ?_;have T:(cutAt x) k=true:=by simp only[cutAt];grind
  exact ah (k+1,_) (h1:=⟨iv,o2D,iv⟩)
 refine aB ?_;exact ye (k:=by simp only[mg];rw[u,gB (by omega)])
def ZcU(x:Lay)(h:x.z.sets.length<=1000000)(p:x.b.length=x.z.sets.length):yk 97 [.agg x.d] (.b (Ca x)):=by
 refine oO func97 λff=>?_;unfold f97;refine xa ?_;refine xj ?_;refine lq (Nat×Nat) [1,9,10] (λ⟨k,Z⟩=>(k<=x.z.sets.length/\ax x.z.sets.length (vX x) 0=ax x.z.sets.length (vX x) k/\0<Z,x.z.sets.length-k,[(11,.i k)],[(0,⟨168,[x.d]⟩)],Z)) (0,_) ?_;rintro⟨k,Z⟩ ⟨X,u,E⟩;simp only[XX,XZ];have ff:=qA @E ff;refine xo ?_ ?_<;>intro w
 .
  have U:k<x.z.sets.length:=by simpa using w
  have v:k<x.b.length:=by omega
  have ff:=qB (bN U) (kC v) ff;refine wB ?_;refine xv ?_;refine xi ?_ ?_<;>intro I
  . exact ye (k:=by have a:(vX x) k=false:=(by simp only[vX];grind);simp only[Ca];rw[u,ed U a];try simp)
  refine xl ?_;have T:(vX x) k=true:=by simp only[vX];grind
  exact ah (k+1,_) (h1:=⟨iv,o2D,iv⟩)
 refine aB ?_;exact ye (k:=by simp only[Ca];rw[u,gB (by omega)])
def ZcV(x:Lay)(h:x.z.sets.length<=1000000):yk 98 [.agg x.d] (.b (Cb x)):=by
 refine oO func98 λff=>?_;unfold f98;refine xa ?_;refine xj ?_;refine lq (Nat×Nat) [1,8,9] (λ⟨k,Z⟩=>(k<=x.z.sets.length/\ax x.z.sets.length (sI x.z) 0=ax x.z.sets.length (sI x.z) k/\0<Z,x.z.sets.length-k,[(10,.i k)],[(0,⟨168,[x.d]⟩)],Z)) (0,_) ?_;rintro⟨k,Z⟩ ⟨X,u,E⟩;simp only[XX,XZ];have ff:=qA @E ff;refine xo ?_ ?_<;>intro w
 .
  have U:k<x.z.sets.length:=by simpa using w
  have ff:=qA (bN U) ff;refine wB ?_;refine xa ?_;refine xi ?_ ?_ (hok:=oF (ZcT _ _))<;>intro I
  . exact ye (k:=by have a:(sI x.z) k=false:=(by simpa only[sI]using I);simp only[Cb];rw[u,ed U a];try simp)
  refine xl ?_;have T:(sI x.z) k=true:=by simpa only[sI]using I
  exact ah (k+1,_) (h1:=⟨iv,o2D,iv⟩)
 refine aB ?_;exact ye (k:=by simp only[Cb];rw[u,gB (by omega)])
def RV(z:Zon)(h:z.sets.length<=1000000):yk 94 [.agg z.d] (.agg (bB z).d):=by
 refine oO func94 λff=>?_;unfold f94;refine xv ?_;refine xj ?_;refine lq (Nat×Nat) [1,2,3,16,17] (λ⟨k,Z⟩=>(k<=z.sets.length/\2<Z,z.sets.length-k,[(18,.i k)],[(0,⟨166,[z.d]⟩),(1,⟨168,[[.v (.string (bs [])),.e,.e]]⟩),(2,⟨175,gZ (vP (dO z (k)))⟩)],Z)) (0,_) ?_;rintro⟨k,Z⟩ ⟨X,E⟩;simp only[XX,XZ];have o:0<Z:=by omega
 have p:1<Z:=by omega
 have ff:=qD @E @o @p ff;refine xo ?_ ?_<;>intro w
 .
  have U:k<z.sets.length:=by simpa using w
  have ff:=qA (bN U) ff;refine wB ?_;refine xa ?_;refine xi ?_ ?_<;>intro I
  . refine xb ?_;refine xb ?_;have ff:=qA (QT (z:=z) (k:=k) (by grind)) ff;exact ah (k+1,_)
  refine xl ?_;have ff:=qA (QU (z:=z) (k:=k) (by grind)) ff;exact ah (k+1,_)
 refine aB ?_;refine Ml 3 2 ev ev rfl V6 ?_;refine xv ?_;refine xj ?_;refine lq (Nat×Str×Nat×Nat×Nat) [2,3,49,50] (λ⟨k,cut,g,f,Z⟩=>(k<=z.sets.length/\f<Z/\g<Z/\(2<f/\f<g)/\cut=(dL (dO z z.sets.length) z.sets k).2,z.sets.length-k,[(6,.mptr g 0 0),(7,.v (.string (bs cut))),(51,.i k)],[(0,⟨166,[z.d]⟩),(1,⟨168,[[.v (.string (bs [])),.e,.e]]⟩),(g,⟨168,[[.v (.string (bs z.apex)),.l (z.sets.map Sgd.d),.mrow f 0 z.sets.length]]⟩),(f,⟨9,(tJ (dO z z.sets.length) z.sets z.sets.length (k)).map sR⟩)],Z)) (0,[],(Z+8),(Z+6),_) ?_;rintro⟨k,cut,g,f,Z⟩ ⟨X,E,r,u,j⟩;simp only[XX,XZ];have o:0<Z:=by omega
 have p:1<Z:=by omega
 have ff:=qA @E (qI @r @o @p (nH g f) (nH 0 f) (nH 1 f) (nH 0 g) (nH 1 g) ff);refine xo ?_ ?_<;>intro a
 .
  have U:k<z.sets.length:=by simpa using a
  have ff:=qD (bN U) (Ob (m:=(dO z z.sets.length)) (l:=z.sets) X) (kC (l:=tJ (dO z z.sets.length) z.sets z.sets.length k) (n:=k) (by rw[Ob X];exact U)) ff;refine wB ?_;refine xv ?_;refine xf ?_ ?_<;>intro c
  .
   refine xa ?_ (hok:=oF (Dw _ _));refine xi ?_ ?_<;>intro y
   .
    refine xb ?_;refine xf ?_ ?_<;>intro t
    .
     refine xb ?_;refine xb ?_;refine xb ?_;have J:(dL (dO z z.sets.length) z.sets (k+1)).2=z.sets[k]!.set.name:=by show stepC _ (dL _ _ k).2 _=_;rw[<-j];simp only[stepC];grind
     have ff:=qB (Fe U J) J ff;exact ah (k+1,(dL (dO z z.sets.length) z.sets (k+1)).2,g,f,_)
    refine xb ?_;refine xb ?_;have J:(dL (dO z z.sets.length) z.sets (k+1)).2=[]:=by show stepC _ (dL _ _ k).2 _=_;rw[<-j];simp only[stepC];grind
    have ff:=qB (Fe U J) J ff;exact ah (k+1,(dL (dO z z.sets.length) z.sets (k+1)).2,g,f,_)
   refine bM ?_;refine xf ?_ ?_<;>intro t
   .
    refine xb ?_;refine xb ?_;refine xb ?_;have J:(dL (dO z z.sets.length) z.sets (k+1)).2=z.sets[k]!.set.name:=by show stepC _ (dL _ _ k).2 _=_;rw[<-j];simp only[stepC];grind
    have ff:=qB (Fe U J) J ff;exact ah (k+1,(dL (dO z z.sets.length) z.sets (k+1)).2,g,f,_)
   refine xb ?_;refine xb ?_;have J:(dL (dO z z.sets.length) z.sets (k+1)).2=cut:=by show stepC _ (dL _ _ k).2 _=_;rw[<-j];simp only[stepC];grind
   have ff:=qB (Fe U J) J ff;exact ah (k+1,(dL (dO z z.sets.length) z.sets (k+1)).2,g,f,_)
  refine xf ?_ ?_<;>intro t
  .
   refine xb ?_;refine xb ?_;refine xb ?_;have J:(dL (dO z z.sets.length) z.sets (k+1)).2=z.sets[k]!.set.name:=by show stepC _ (dL _ _ k).2 _=_;rw[<-j];simp only[stepC];grind
   have ff:=qB (Fe U J) J ff;exact ah (k+1,(dL (dO z z.sets.length) z.sets (k+1)).2,g,f,_)
  refine xb ?_;refine xb ?_;have J:(dL (dO z z.sets.length) z.sets (k+1)).2=cut:=by show stepC _ (dL _ _ k).2 _=_;rw[<-j];simp only[stepC];grind
  have ff:=qB (Fe U J) J ff;exact ah (k+1,(dL (dO z z.sets.length) z.sets (k+1)).2,g,f,_)
 refine aB ?_;have v:k=z.sets.length:=by omega
 subst v;have x:List.take z.sets.length ((tJ (dO z z.sets.length) z.sets z.sets.length z.sets.length).map sR)=(kH z).map sR:=by rw[Zhu];exact Ye (by rw[YX,Cx];exact XW _)
 have ff:=qB @x (Ob (m:=(dO z z.sets.length)) (l:=z.sets) (XW z.sets.length)) ff;refine xa ?_;exact oN (fin 2 (hr:=oR) (hk:=by(try simp only[go_sem,ff]);all_goals (exact MO z)))
def vw(z:Zon):yk 30 [.agg z.d] (.b (ak z)):=by
 refine oO func30 λff=>?_;unfold f30;refine xv ?_;refine xf (λw=>?_) (λw=>?_) (hok:=oS (k:=by first|trivial|(repeat' with_reducible apply And.intro)<;>first|(intros;exact ZcK z)|(intro h;exact ZcZ z (OG h))|(intros;simp_all;done)))
 . exact ye (k:=by simp only[ak];grind)
 have t:=OG w.1;refine xa ?_ (hok:=oF (RV z t));exact ye (hok:=oa4 (Zc0 (bB z) t) (ZcW (bB z) t (MO z)) (ZcU (bB z) t (MO z)) (ZcV (bB z) t)) (k:=by simp only[ak];rw[w.1,w.2];simp[ZI];rfl)
def RN(z:Zon):yk 45 [.agg z.d] (.tuple [.i (if ak z then aL z else 0),.i (if ak z then 0 else 1)]):=by
 refine oO func45 λff=>?_;unfold f45;refine xa ?_;refine xf ?_ ?_ (hok:=oF (vw z))<;>intro w
 . exact ye (K:=1) (k:=by simp[w])
 refine xa ?_ (hok:=oF (EK z ⟨z.apex,4⟩ (zM w)));let⟨a,c⟩:=ZeT w;have ff:=qB (bN a) (oh c) ff;exact ye (K:=1) (k:=by simp[w,aL])
def TW{x y:RSig}(h:x.zone=y.zone/\x.key=y.key/\x.alg=y.alg/\x.frm=y.frm/\x.unt=y.unt/\x.sum=y.sum):x=y:=by let⟨a,b,c,d,e,f⟩:=x;let⟨g,i,j,k,l,m⟩:=y;simp at h;simp[h]
theorem ZfJ{x y:RSig}(h : ¬x.zone=y.zone \/ ¬x.key=y.key \/ ¬x.alg=y.alg \/ ¬x.frm=y.frm \/ ¬x.unt=y.unt \/ ¬x.sum=y.sum):x≠y:=by rintro rfl;simp at h
def Zhc(a:Sgd)(b:Sgd)(m:sK a):yk 116 [.agg a.d,.agg b.d] (.b (lT a b)):=by
 refine oO func116 λff=>?_;unfold f116;have f:=m.2;refine xa ?_;refine xf ?_ ?_ (hok:=oH (Zhe _ _ m.1))<;>intro w
 . exact ye (k:=by rw[Zf1 (by grind [xc])])
 refine xj ?_;refine lq (Nat×Nat) [2,3] (λ⟨k,Z⟩=>(k<=a.sigs.length/\1<Z/\(∀i,i<k->a.sigs[i]! = b.sigs[i]!),a.sigs.length-k,[(5,.i k)],[(0,⟨56,[a.d]⟩),(1,⟨56,[b.d]⟩)],Z)) (0,_) ?_ (hA:=⟨iv,iv,o1J⟩);rintro⟨k,Z⟩ ⟨X,E,u⟩;simp only[XX,XZ];have g:0<Z:=by omega
 have ff:=qB @E @g ff;refine xt ?_ ?_<;>intro I
 .
  have U:k<a.sigs.length:=by simpa using I
  have v:k<b.sigs.length:=by grind
  have ff:=qB (vY U) (vY v) ff;refine wD ?_;refine xi ?_ ?_<;>intro c
  . exact ye (k:=by rw[Zf0 (ZfJ c)])
  refine xl ?_;exact ah (k+1,_) (h1:=⟨iv,iv,(by(try dsimp only);intro i hi;by_cases e:i=k;subst e;exact TW c;exact u i om)⟩)
 refine aB ?_;exact ye (k:=by rw[ZfZ (by grind [xc]) (by grind) λi hi=>u i (by omega)])
def UE(a:List Sgd)(b:List Sgd)(m:cZ a):yk 48 [.l (a.map Sgd.d),.l (b.map Sgd.d)] (.b (rJ a b)):=by
 refine oO func48 λff=>?_;unfold f48;have c:=m.1;refine xa ?_;refine xf ?_ ?_<;>intro w
 . exact ye (k:=by rw[Ud (by grind)])
 refine xj ?_;refine lq (Nat×Nat) [0,1] (λ⟨k,Z⟩=>(k<=a.length/\(∀i,i<k->lT a[i]! b[i]! = true),a.length-k,[(5,.i k)],[],Z)) (0,_) ?_ (hA:=⟨iv,o1J⟩);rintro⟨k,Z⟩ ⟨X,u⟩;simp only[XX,XZ];refine xt ?_ ?_<;>intro I
 .
  have U:k<a.length:=by simpa using I
  have v:k<b.length:=by grind
  have ff:=qB (bN U) (bN v) ff;refine wD ?_;refine xi ?_ ?_ (hok:=oH (Zhc _ _ (m.2 k U)))<;>intro f
  . exact ye (k:=by rw[Uh (k:=k) (by grind)])
  refine xl ?_;exact ah (k+1,_) (h1:=⟨iv,(by(try dsimp only);intro i hi;by_cases e:i=k;subst e;grind;exact u i om)⟩)
 refine aB ?_;exact ye (k:=by rw[Uc (by grind) λi hi=>u i (by omega)])
def Kl(a:Zon)(b:Zon)(m:cZ a.sets):yk 11 [.agg a.d,.agg b.d] (.b (nJ a b)):=by refine oO func11 λff=>?_;unfold f11;refine xa ?_;exact ye (hok:=oH (UE _ _ m)) (k:=by simp[ZgU])
def Og(z:Zon)(q:Qst)(h:z.sets.length<=1000000):yk 90 [.agg z.d,.agg q.d] (.i (dV z.sets q)):=by
 refine oO func90 λff=>?_;unfold f90;refine xa ?_;refine xj ?_;refine lq (Nat×Nat) [2,3] (λ⟨k,Z⟩=>(k<=z.sets.length/\1<Z/\dV z.sets q=uk z.sets q k,z.sets.length-k,[(5,.i k)],[(0,⟨24,[z.d]⟩),(1,⟨31,[q.d]⟩)],Z)) (0,_) ?_;rintro⟨k,Z⟩ ⟨X,E,u⟩;simp only[XX,XZ];have a:0<Z:=by omega
 have ff:=qB @E @a ff;refine xt ?_ ?_<;>intro w
 .
  have U:k<z.sets.length:=by simpa using w
  have ff:=qA (bN U) ff;refine wD ?_;refine xi ?_ ?_<;>intro I
  . exact ye (k:=by rw[u,xE,X0 U,X0 (by cases q;simp_all [Sgd.q])])
  refine xl ?_;exact ah (k+1,_) (h1:=⟨iv,iv,(by(try dsimp only);rw[u,xE,if_pos U,if_neg (by intro e;rw[<-e]at I;simp[Sgd.q]at I)])⟩)
 refine aB ?_;exact ye (k:=by rw[u,xE,XV (by omega)])
def ZhS(z:Zon)(h:z.sets.length<=1000000):yk 84 [.agg z.d] (.b (tq z)):=by
 refine oO func84 λff=>?_;unfold f84;refine xa ?_;refine xf ?_ ?_ (hok:=oI (Og z ⟨z.apex,4⟩ h) (Og z ⟨z.apex,2⟩ h))<;>intro w
 . exact ye (k:=by simp only[tq];grind)
 refine xj ?_;refine lq (Nat×Nat) [1] (λ⟨k,Z⟩=>(k<=z.sets.length/\ax z.sets.length (oq z.apex z.sets) 0=ax z.sets.length (oq z.apex z.sets) k/\0<Z,z.sets.length-k,[(3,.i k)],[(0,⟨24,[z.d]⟩)],Z)) (0,_) ?_;rintro⟨k,Z⟩ ⟨X,u,E⟩;simp only[XX,XZ];have ff:=qA @E ff;refine xt ?_ ?_<;>intro I
 .
  have U:k<z.sets.length:=by simpa using I
  have ff:=qA (bN U) ff;refine wD ?_;refine xi ?_ ?_ (hok:=oH Zhj)<;>intro a
  . exact ye (k:=by have c:(oq z.apex z.sets) k=false:=(by simp only[oq];grind);simp only[tq];rw[u,ed U c];try simp)
  refine xl ?_;have T:(oq z.apex z.sets) k=true:=by simp only[oq];grind
  exact ah (k+1,_) (h1:=⟨iv,o2D,iv⟩)
 refine aB ?_;exact ye (k:=by simp only[tq];rw[u,gB (by omega)];grind)
def ZhV(z:Zon):yk 83 [.agg z.d] (.b (nQ z)):=by
 refine oO func83 λff=>?_;unfold f83;refine xa ?_;refine xf (λw=>?_) (λw=>?_) (hok:=oS (k:=by first|trivial|(repeat' with_reducible apply And.intro)<;>first|(intros;exact vF _)|exact(λ_=>UB _ (by have:=iE (by assumption);omega))|exact(λh=>UB _ (by have:=iE (by simpa using h);omega))))
 . exact ye (k:=by simp only[nQ];grind)
 refine xj ?_;refine lq (Nat×Nat) [1] (λ⟨k,Z⟩=>(k<=z.sets.length/\ax z.sets.length (vL z.apex z.sets) 0=ax z.sets.length (vL z.apex z.sets) k/\0<Z,z.sets.length-k,[(3,.i k)],[(0,⟨24,[z.d]⟩)],Z)) (0,_) ?_;rintro⟨k,Z⟩ ⟨X,u,E⟩;simp only[XX,XZ];have ff:=qA @E ff;refine xt ?_ ?_<;>intro I
 .
  have U:k<z.sets.length:=by simpa using I
  have c:k-1<z.sets.length:=by omega
  have y:((k:Int)-1).toNat=k-1:=by omega
  have ff:=qD (bN U) (bN c) @y ff;refine wD ?_;refine xa ?_;refine xi (λa=>?_) (λa=>?_) (hok:=oS (k:=by first|trivial|(repeat' with_reducible apply And.intro)<;>first|(intros;exact Zhf _)|(intros;exact ZhA _ _)|exact(λh=>Df _ _ (Zgb (by simpa using h)) (by have:=iE w.1.1;omega))|omega|(intro h;simp only[XU,XY]at h;omega)|(intros;simp_all;done)))
  . exact ye (k:=by have f:(vL z.apex z.sets) k=false:=(by simp only[vL];grind);simp only[nQ];rw[u,ed U f];try simp)
  refine xl ?_;have T:(vL z.apex z.sets) k=true:=by simp only[vL];grind
  exact ah (k+1,_) (h1:=⟨iv,o2D,iv⟩)
 refine aB ?_;exact ye (k:=by simp only[nQ];rw[u,gB (by omega)];grind)
def ZhU(z:Zon)(h:z.sets.length<=1000000)(h0:0<=dV z.sets ⟨z.apex,4⟩)(h1:0<z.sets[(dV z.sets ⟨z.apex,4⟩).toNat]!.set.data.length):yk 28 [.agg z.d] (.i (dF z)):=by
 refine oO func28 λff=>?_;unfold f28;have Y:=Rq z.sets ⟨z.apex,4⟩;have A:(dV z.sets ⟨z.apex,4⟩).toNat<z.sets.length:=by omega
 refine xa ?_
 skip
 have ff:=qB (bN A) (oh h1) ff;exact yi (hok:=oH (Og z ⟨z.apex,4⟩ h))
def ZhZ(z:Zon):yk 24 [.agg z.d] (.b (xO z)):=by
 refine oO func24 λff=>?_;unfold f24;refine xa ?_;refine xj ?_;refine lq (Nat×Nat) [1] (λ⟨k,Z⟩=>(k<=z.sets.length/\(ax z.sets.length (λi=>decide (z.sets[i]!.set.data.length<=20)&&decide (z.sets[i]!.sigs.length<=20)) 0=ax z.sets.length (λi=>decide (z.sets[i]!.set.data.length<=20)&&decide (z.sets[i]!.sigs.length<=20)) k)/\0<Z/\k<=101,z.sets.length-k,[(3,.i k)],[(0,⟨24,[z.d]⟩)],Z)) (0,_) ?_;rintro⟨k,Z⟩ ⟨X,u,E,g⟩;simp only[XX,XZ];have ff:=qA @E ff;refine oL De ?_ ?_<;>intro w
 .
  have U:k<z.sets.length:=by grind
  have c:k<=100:=by grind
  have ff:=qA (bN U) ff;refine wD ?_;refine xi ?_ ?_<;>intro I
  . exact ye (k:=by have f:(λi=>decide (z.sets[i]!.set.data.length<=20)&&decide (z.sets[i]!.sigs.length<=20)) k=false:=(by grind);simp only[xO];rw[u,ed U f];try simp)
  refine xl ?_;have T:(λi=>decide (z.sets[i]!.set.data.length<=20)&&decide (z.sets[i]!.sigs.length<=20)) k=true:=by grind
  exact ah (k+1,_) (h1:=⟨iv,o2D,iv,iv⟩)
 refine aB ?_;exact ye (k:=by simp only[xO];by_cases a:z.sets.length<=100;rw[u,gB (by grind)];simp;omega;simp[a];omega)
def ZhT(z:Zon)(h:z.sets.length<=1000000):yk 85 [.agg z.d] (.b (oZ z)):=by
 refine oO func85 λff=>?_;unfold f85;refine xv ?_;refine xj ?_;refine lq (Nat×Str×Nat) [1] (λ⟨k,j,Z⟩=>(k<=z.sets.length/\0<Z/\j=iT z.sets k/\ax z.sets.length (kL z.sets) 0=ax z.sets.length (kL z.sets) k,z.sets.length-k,[(3,.v (.string (bs j))),(4,.i k)],[(0,⟨24,[z.d]⟩)],Z)) (0,[],_) ?_;rintro⟨k,j,Z⟩ ⟨X,E,m,u⟩;simp only[XX,XZ];have ff:=qA @E ff;refine xt ?_ ?_<;>intro w
 .
  have U:k<z.sets.length:=by simpa using w
  have n:k-1<z.sets.length:=by omega
  have y:((k:Int)-1).toNat=k-1:=by omega
  have ff:=qD (bN U) (bN n) @y ff;refine wD ?_;refine xf ?_ ?_<;>intro I
  .
   refine xb ?_;refine xv ?_;refine xf ?_ ?_<;>intro a
   .
    refine xb ?_;refine xi (λc=>?_) (λc=>?_) (hok:=oS (k:=o2A))
    . exact ye (k:=o0N)
    refine xl ?_;have f:iT z.sets (k+1)=z.sets[k]!.set.name:=by simp only[iT];grind
    have ff:=qA f ff;have T:kL z.sets k=true:=by simp only[kL,lC,f];grind
    exact ah (k+1,iT z.sets (k+1),_) (h1:=⟨iv,iv,rfl,o2D⟩)
   refine xi (λc=>?_) (λc=>?_) (hok:=oS (k:=o2A))
   . exact ye (k:=o0N)
   refine xl ?_;have f:iT z.sets (k+1)=z.sets[k]!.set.name:=by simp only[iT];grind
   have ff:=qA f ff;have T:kL z.sets k=true:=by simp only[kL,lC,f];grind
   exact ah (k+1,iT z.sets (k+1),_) (h1:=⟨iv,iv,rfl,o2D⟩)
  refine xv ?_;refine xf ?_ ?_<;>intro a
  .
   refine xb ?_;refine xi (λc=>?_) (λc=>?_) (hok:=oS (k:=o2A))
   . exact ye (k:=o0N)
   refine xl ?_;have f:iT z.sets (k+1)=j:=by simp only[iT];grind
   have ff:=qA f ff;have T:kL z.sets k=true:=by simp only[kL,lC,f];grind
   exact ah (k+1,iT z.sets (k+1),_) (h1:=⟨iv,iv,rfl,o2D⟩)
  refine xi (λc=>?_) (λc=>?_) (hok:=oS (k:=o2A))
  . exact ye (k:=o0N)
  refine xl ?_;have f:iT z.sets (k+1)=j:=by simp only[iT];grind
  have ff:=qA f ff;have T:kL z.sets k=true:=by simp only[kL,lC,f];grind
  exact ah (k+1,iT z.sets (k+1),_) (h1:=⟨iv,iv,rfl,o2D⟩)
 refine aB ?_;exact ye (k:=by simp only[oZ];rw[u,gB (by omega)])
def cutsR_0{z:Zon}:mf z 0=[]:=rfl
def highTo_0{cs:List Str}:eu cs 0=[]:=rfl
attribute[go_sem]cutsR_0 highTo_0
@[go_sem]theorem sR_snoc{l:List Str}{x:Str}:(l++[x]).map sR=l.map sR++[[.v (.string (bs x))]]:=by simp[sR]
theorem QV{z:Zon}{k:Nat}(h:z.sets[k]!.set.ty=2 /\ ¬z.sets[k]!.set.name=z.apex):mf z (k+1)=mf z k++[z.sets[k]!.set.name]:=X0 h
theorem QW{z:Zon}{k:Nat}(h : ¬(z.sets[k]!.set.ty=2 /\ ¬z.sets[k]!.set.name=z.apex)):mf z (k+1)=mf z k:=XV h
theorem QX(z:Zon):∀k,(mf z k).length<=k
 | 0=>XW _
 | k+1=>by
  have:=QX z k;by_cases h:z.sets[k]!.set.ty=2 /\ ¬z.sets[k]!.set.name=z.apex
  . rw[QV h,X3];simp;omega
  rw[QW h];omega
theorem MC{z:Zon}(hn:uQ z):∀k,k<=z.sets.length -> ∀x∈mf z k,x.length<=1000
 | 0,_,x,E=>by cases E
 | k+1,h,x,E=>by
  by_cases h2:z.sets[k]!.set.ty=2 /\ ¬z.sets[k]!.set.name=z.apex
  .
   rw[QV h2,Yu,Yk]at E;rcases E with E|E
   . exact MC hn k om x E
   subst E;exact hn.2 k om
  rw[QW h2]at E;exact MC hn k (by omega) x E
def ZbG{z:Zon}(hn:uQ z):(gW z).length<=1000000:=Yd (QX z _) hn.1
def ZbF{z:Zon}(hn:uQ z){k:Nat}(h:k<(gW z).length):(gW z)[k]!.length<=1000:=by refine MC hn _ (XW _) _ ?_;show(gW z)[k]! ∈ gW z;rw[getElem!_pos (gW z) k h];exact Yz h
theorem PN{cs:List Str}{k:Nat}(h:eu cs k=[]\/ig cs[k]! (eu cs k)[(eu cs k).length-1]! = false):eu cs (k+1)=eu cs k++[cs[k]!]:=X0 h
theorem Zao{cs:List Str}{k:Nat}(h : ¬(eu cs k=[]\/ig cs[k]! (eu cs k)[(eu cs k).length-1]! = false)):eu cs (k+1)=eu cs k:=XV h
theorem Lv(cs:List Str):∀k,k<=cs.length->(eu cs k).length<=k /\ ∀x∈eu cs k,x∈cs
 | 0,_=>⟨XW _,λx E=>by cases E⟩
 | k+1,h=>by
  have a:=Lv cs k (by omega);by_cases Y:eu cs k=[]\/ig cs[k]! (eu cs k)[(eu cs k).length-1]! = false
  .
   rw[PN Y];refine⟨by rw[X3];simp;omega,λx E=>?_⟩;rcases Yu.1 E with E|E
   . exact a.2 x E
   rw[Yk]at E;subst E;rw[getElem!_pos _ _ (by omega)];exact Yz _
  rw[Zao Y];exact⟨om,a.2⟩
def PO{z:Zon}(hn:uQ z){k i:Nat}(hk:k<=(gW z).length)(h:i<(eu (gW z) k).length):(eu (gW z) k)[i]!.length<=1000:=by refine MC hn _ (XW _) _ ((Lv _ k hk).2 _ ?_);rw[getElem!_pos (eu (gW z) k) i h];exact Yz h
def ZlX{z:Zon}(hn:uQ z):(cO z).length<=1000000:=Yd (Lv _ _ (XW _)).1 (ZbG hn)
def FQ{z:Zon}(hn:uQ z){i:Nat}(h:i<(cO z).length):(cO z)[i]!.length<=1000:=PO hn (XW _) h
def Zh0(z:Zon)(h:z.sets.length<=1000000):yk 193 [.agg z.d] (.l ((gW z).map sR)):=by
 refine oO func193 λff=>?_;unfold f193;refine xv ?_;refine aj ?_;refine wu 3 9 o3h o3h ?_;refine xa ?_;refine dK ?_;refine lq (Nat×Nat×Nat) [1] (λ⟨k,r,Z⟩=>(k<=z.sets.length/\r<Z/\0<r,z.sets.length-k,[(3,.mrow r 0 (mf z k).length),(4,.i k)],[(0,⟨24,[z.d]⟩),(r,⟨9,(mf z k).map sR⟩)],Z)) (0,3,_) ?_;rintro⟨k,r,Z⟩ ⟨X,O,a⟩;simp only[XX,XZ];have c:=QX z k;have f:0<Z:=by omega
 have ff:=qD @O @f (nH 0 r) ff;refine xt ?_ ?_<;>intro w
 .
  have U:k<z.sets.length:=by simpa using w
  have ff:=qA (bN U) ff;refine wD ?_;refine xa ?_;refine xi ?_ ?_<;>intro I
  . refine xb ?_;refine xb ?_;have ff:=qA (QV (z:=z) (k:=k) (by grind)) ff;exact ah (k+1,(Z+27),_)
  refine xl ?_;have ff:=qA (QW (z:=z) (k:=k) (by grind)) ff;exact ah (k+1,r,_)
 refine aB ?_;have g:k=z.sets.length:=by omega
 subst g;exact yi (K:=1)
def ZhW(z:Zon)(hn:uQ z):yk 117 [.agg z.d] (.l ((cO z).map sR)):=by
 refine oO func117 λff=>?_;unfold f117;have c:=hn.1;have f:=ZbG hn;refine xa ?_;refine xa ?_ (hok:=oF (Zh0 z c));refine xa ?_;refine aj ?_;refine wu 4 9 o3h o3h ?_;refine xa ?_;refine dK ?_;refine lq (Nat×Nat×Nat) [3] (λ⟨k,r,Z⟩=>(k<=(gW z).length/\r<Z,(gW z).length-k,[(4,.mrow r 0 (eu (gW z) k).length),(5,.i k)],[(r,⟨9,(eu (gW z) k).map sR⟩)],Z)) (0,6,_) ?_;rintro⟨k,r,Z⟩ ⟨X,O⟩;simp only[XX,XZ];have g:=(Lv (gW z) k X).1;have ff:=qA @O ff;refine xt ?_ ?_<;>intro w
 .
  have U:k<(gW z).length:=by simpa using w
  have y:(((eu (gW z) k).length:Int)-1).toNat=(eu (gW z) k).length-1:=by omega
  have ff:=qB (kC U) @y ff;refine wD ?_;by_cases p:(eu (gW z) k).length=0
  .
   have a:=Yb p;have ff:=qB @p @a ff;refine xi (λI=>?_) (λI=>?_) (hok:=oS (k:=o0n)) (hq:=rfl)
   . refine xb ?_;refine xb ?_;have ff:=qA (PN (cs:=gW z) (k:=k) o1G) ff;exact ah (k+1,(Z+27),_)
   grind
  have V:(eu (gW z) k).length-1<(eu (gW z) k).length:=by omega
  have ff:=qA (kC V) ff;refine xi (λI=>?_) (λI=>?_) (hok:=oS (k:=o0n))
  . refine xb ?_;refine xb ?_;have ff:=qA (PN (cs:=gW z) (k:=k) o1G) ff;exact ah (k+1,(Z+27),_)
  refine xl ?_;have ff:=qA (Zao (cs:=gW z) (k:=k) (by grind)) ff;exact ah (k+1,r,_)
 refine aB ?_;have j:k=(gW z).length:=by omega
 subst j;exact yi (K:=1)
def U7(z:Zon)(hn:uQ z):yk 49 [.agg z.d] (.l ((gK z).map sR)):=by
 refine oO func49 λff=>?_;unfold f49;have F:=hn.1;have u:=ZlX hn;refine xa ?_;refine xa ?_ (hok:=oF (ZhW z hn));refine xv ?_;refine xj ?_;refine lq (Nat×Nat×Nat×Nat) [1,3] (λ⟨k,j,c,Z⟩=>(k<=z.sets.length/\c<Z/\0<c/\j=iJ (cO z) z.sets k/\j<=(cO z).length,z.sets.length-k,[(4,.mrow c 0 z.sets.length),(5,.i j),(6,.i k)],[(0,⟨24,[z.d]⟩),(c,⟨9,(nK (cO z) z.sets z.sets.length (k)).map sR⟩)],Z)) (0,0,8,_) ?_;rintro⟨k,j,c,Z⟩ ⟨X,E,v,A,x⟩;simp only[XX,XZ];have r:0<Z:=by omega
 have ff:=qD @E @r (nH 0 c) ff;refine xt ?_ ?_<;>intro w
 .
  have U:k<z.sets.length:=by simpa using w
  have ff:=qD (bN U) (Oa (hs:=cO z) (l:=z.sets) X) (kC (l:=nK (cO z) z.sets z.sets.length k) (n:=k) (by rw[Oa X];exact U)) ff;refine wD ?_;refine xa ?_;refine wD ?_;refine lq (Nat×Nat) [1,3,4,6,7] (λ⟨i,Z⟩=>(i<=(cO z).length/\c<Z/\uw (cO z) z.sets[k]!.set.name j=uw (cO z) z.sets[k]!.set.name i,(cO z).length-i,[(5,.i i)],[(0,⟨24,[z.d]⟩),(c,⟨9,(nK (cO z) z.sets z.sets.length (k)).map sR⟩)],Z)) (j,_) ?_;rintro⟨i,Z⟩ ⟨hi,E,m⟩;simp only[XX,XZ];have r:0<Z:=by omega
  have ff:=qD @E @r (nH 0 c) ff;refine aj ?_;by_cases o:i<(cO z).length
  .
   have ff:=qA (kC o) ff;refine xi (λI=>?_) (λI=>?_) (hok:=oS (k:=o0B)) (hq:=rfl)
   . refine bM ?_;refine dK ?_;refine xb ?_;exact ah (i+1,_) (h1:=⟨iv,iv,(by first|(rw[m,Cz];grind)|(dsimp only;rw[m,Cz];grind))⟩)
   have f:iJ (cO z) z.sets (k+1)=i:=by show uw _ _ _=_;rw[<-A,m,Cz];grind
   refine aB ?_;by_cases p:i=0
   .
    have ff:=qA @p ff;refine xi (λa=>?_) (λa=>?_) (hok:=oS (k:=o0p))
    .
     refine xb ?_;refine xb ?_;have J:jM (cO z) z.sets[k]!.set.name (iJ (cO z) z.sets (k+1))=(cO z)[i-1]! := by rw[f];simp only[jM];grind
     have ff:=qA (Km U J) ff;exact ah (k+1,i,c,_) (h1:=⟨iv,iv,iv,f.symm,iv⟩)
    refine xl ?_;have J:jM (cO z) z.sets[k]!.set.name (iJ (cO z) z.sets (k+1))=[]:=by rw[f];simp only[jM];grind
    have ff:=qA (Kn U J) ff;exact ah (k+1,i,c,_) (h1:=⟨iv,iv,iv,f.symm,iv⟩)
   have g:i-1<(cO z).length:=by omega
   have y:((i:Int)-1).toNat=i-1:=by omega
   have ff:=qB @y (kC g) ff;refine xi (λa=>?_) (λa=>?_) (hok:=oS (k:=o0p))
   .
    refine xb ?_;refine xb ?_;have J:jM (cO z) z.sets[k]!.set.name (iJ (cO z) z.sets (k+1))=(cO z)[i-1]! := by rw[f];simp only[jM];grind
    have ff:=qA (Km U J) ff;exact ah (k+1,i,c,_) (h1:=⟨iv,iv,iv,f.symm,iv⟩)
   refine xl ?_;have J:jM (cO z) z.sets[k]!.set.name (iJ (cO z) z.sets (k+1))=[]:=by rw[f];simp only[jM];grind
   have ff:=qA (Kn U J) ff;exact ah (k+1,i,c,_) (h1:=⟨iv,iv,iv,f.symm,iv⟩)
  have t:decide ((i:Int)<((cO z).length:Int))=false:=YY om;have ff:=qA @t ff;refine xp (λI=>?_) (λI=>?_) (hok:=oS (k:=o0B)) (hq:=rfl)
  . grind
  have f:iJ (cO z) z.sets (k+1)=i:=by show uw _ _ _=_;rw[<-A,m,Cz];grind
  refine aB ?_;by_cases p:i=0
  .
   have ff:=qA @p ff;refine xi (λa=>?_) (λa=>?_) (hok:=oS (k:=o0p))
   .
    refine xb ?_;refine xb ?_;have J:jM (cO z) z.sets[k]!.set.name (iJ (cO z) z.sets (k+1))=(cO z)[i-1]! := by rw[f];simp only[jM];grind
    have ff:=qA (Km U J) ff;exact ah (k+1,i,c,_) (h1:=⟨iv,iv,iv,f.symm,iv⟩)
   refine xl ?_;have J:jM (cO z) z.sets[k]!.set.name (iJ (cO z) z.sets (k+1))=[]:=by rw[f];simp only[jM];grind
   have ff:=qA (Kn U J) ff;exact ah (k+1,i,c,_) (h1:=⟨iv,iv,iv,f.symm,iv⟩)
  have g:i-1<(cO z).length:=by omega
  have y:((i:Int)-1).toNat=i-1:=by omega
  have ff:=qB @y (kC g) ff;refine xi (λa=>?_) (λa=>?_) (hok:=oS (k:=o0p))
  .
   refine xb ?_;refine xb ?_;have J:jM (cO z) z.sets[k]!.set.name (iJ (cO z) z.sets (k+1))=(cO z)[i-1]! := by rw[f];simp only[jM];grind
   have ff:=qA (Km U J) ff;exact ah (k+1,i,c,_) (h1:=⟨iv,iv,iv,f.symm,iv⟩)
  refine xl ?_;have J:jM (cO z) z.sets[k]!.set.name (iJ (cO z) z.sets (k+1))=[]:=by rw[f];simp only[jM];grind
  have ff:=qA (Kn U J) ff;exact ah (k+1,i,c,_) (h1:=⟨iv,iv,iv,f.symm,iv⟩)
 refine aB ?_;have t:k=z.sets.length:=by omega
 subst t;have B:List.take z.sets.length ((nK (cO z) z.sets z.sets.length z.sets.length).map sR)=(gK z).map sR:=by rw[Zhr];exact Ye (by rw[YX,AJ];exact XW _)
 have ff:=qB @B (Oa (hs:=cO z) (l:=z.sets) (XW z.sets.length)) ff;refine xa ?_;exact oN (fin 1 (hr:=oR) (hk:=by(try simp only[go_sem,ff]);all_goals (exact AJ _ _ _)))
def Rk(z:Zon):(gK z).length=z.sets.length:=AJ _ _ _
theorem KJ(z:Zon):(uL z).length=z.sets.length:=xm _ _
def ZhX(z:Zon)(hn:uQ z):yk 86 [.agg z.d] (.b (uo z)):=by
 refine oO func86 λff=>?_;unfold f86;have h:=hn.1;have g:=Rk z;refine xa ?_;refine xa ?_ (hok:=oF (U7 z hn));refine xj ?_;refine lq (Nat×Nat) [1,3] (λ⟨k,Z⟩=>(k<=z.sets.length/\ax z.sets.length (cutAt ⟨z,gK z⟩) 0=ax z.sets.length (cutAt ⟨z,gK z⟩) k/\0<Z,z.sets.length-k,[(4,.i k)],[(0,⟨24,[z.d]⟩)],Z)) (0,_) ?_;rintro⟨k,Z⟩ ⟨X,u,E⟩;simp only[XX,XZ];have ff:=qA @E ff;refine xt ?_ ?_<;>intro w
 .
  have U:k<z.sets.length:=by simpa using w
  have v:k<(gK z).length:=by omega
  have ff:=qB (bN U) (kC v) ff;refine wD ?_;refine xv ?_;refine xf ?_ ?_<;>intro I
  . exact ye (k:=o0L)
  refine xf ?_ ?_<;>intro a
  . exact ye (k:=o0L)
  refine xi ?_ ?_<;>intro c
  . exact ye (k:=o0L)
  refine xl ?_;have T:(cutAt ⟨z,gK z⟩) k=true:=by simp only[cutAt];grind
  exact ah (k+1,_) (h1:=⟨iv,o2D,iv⟩)
 refine aB ?_;exact ye (k:=by simp only[uo,mg];rw[u,gB (by omega)])
def U6(z:Zon)(hn:uQ z):yk 12 [.agg z.d] (.l ((uL z).map bR)):=by
 refine oO func12 λff=>?_;unfold f12;have h:=hn.1;have c:=Rk z;refine xa ?_;refine xa ?_ (hok:=oF (U7 z hn));refine xa ?_;refine xj ?_;refine lq (Nat×Nat×Nat) [1,3] (λ⟨k,a,Z⟩=>(k<=z.sets.length/\a<Z/\0<a,z.sets.length-k,[(4,.mrow a 0 z.sets.length),(5,.i k)],[(0,⟨24,[z.d]⟩),(a,⟨4,(o8 ⟨z,gK z⟩ z.sets.length (k)).map bR⟩)],Z)) (0,8,_) ?_;rintro⟨k,a,Z⟩ ⟨X,E,f⟩;simp only[XX,XZ];have g:0<Z:=by omega
 have ff:=qD @E @g (nH 0 a) ff;refine xt ?_ ?_<;>intro w
 .
  have U:k<z.sets.length:=by simpa using w
  have v:k<(gK z).length:=by omega
  have ff:=qE (bN U) (kC v) (Fb (x:=⟨z,gK z⟩) X) (IK (l:=o8 ⟨z,gK z⟩ z.sets.length k) (n:=k) (by rw[Fb X];exact U)) ff;refine wD ?_;refine xa ?_;refine xb ?_;refine xb ?_;exact ah (k+1,a,_) (h3:=o0v) (h4:=o0v) (h5:=o0v)
 refine aB ?_;have j:k=z.sets.length:=by omega
 subst j;have m:List.take z.sets.length ((o8 ⟨z,gK z⟩ z.sets.length (z.sets.length)).map bR)=(uL z).map bR:=by rw[UI];exact Ye (by rw[YX,xm];exact XW _)
 have ff:=qB @m (Fb (x:=⟨z,gK z⟩) (XW z.sets.length)) ff;refine xa ?_;exact oN (fin 1 (hr:=oR) (hk:=by(try simp only[go_sem,ff]);all_goals (exact KJ z)))
def ZhY(z:Zon)(hn:uQ z):yk 87 [.agg z.d] (.b (uX z)):=by
 refine oO func87 λff=>?_;unfold f87;have h:=hn.1;have a:=Rk z;have c:=KJ z;refine xa ?_;refine xa ?_ (hok:=oF (U6 z hn));refine xj ?_;refine lq (Nat×Nat) [1,3] (λ⟨k,Z⟩=>(k<=z.sets.length/\ax z.sets.length (yT ⟨z,gK z⟩) 0=ax z.sets.length (yT ⟨z,gK z⟩) k/\0<Z,z.sets.length-k,[(4,.i k)],[(0,⟨24,[z.d]⟩)],Z)) (0,_) ?_;rintro⟨k,Z⟩ ⟨X,u,E⟩;simp only[XX,XZ];have ff:=qA @E ff;refine xt ?_ ?_<;>intro w
 .
  have U:k<z.sets.length:=by simpa using w
  have v:k<(uL z).length:=by omega
  have t:(uL z)[k]! = iW ⟨z,gK z⟩ k:=OB _ _ _ U;have ff:=qB (bN U) (IK v) ff;refine wD ?_;refine xi ?_ ?_ (hok:=gI @Zhb)<;>intro I
  . exact ye (k:=by have f:(yT ⟨z,gK z⟩) k=false:=(by simp only[yT,sI,vX,iW]at *;grind);simp only[uX];rw[u,ed U f];try simp)
  refine xl ?_;have T:(yT ⟨z,gK z⟩) k=true:=by simp only[yT,sI,vX,iW]at *;grind
  exact ah (k+1,_) (h1:=⟨iv,o2D,iv⟩)
 refine aB ?_;exact ye (k:=by simp only[uX];rw[u,gB (by omega)])
def Oh(z:Zon):yk 25 [.agg z.d] (.b (jA z)):=by refine oO func25 λff=>?_;unfold f25;refine xa ?_;exact ye (hok:=oS (k:=by first|trivial|(repeat' with_reducible apply And.intro)<;>first|(intros;exact ZhV z)|exact(λh=>ZhS z (G8 (by simp_all)).1)|exact(λh=>ZhT z (G8 (by simp_all)).1)|exact(λh=>ZhX z (G8 (by simp_all)))|exact(λh=>ZhY z (G8 (by simp_all)))|(intros;simp_all;done))) (k:=by simp[jA,ZI])
def QK(x:Int):yk 91 [.i x] (.b (iB x)):=by refine oO func91 λff=>?_;unfold f91;refine xa ?_;exact ye (k:=by simp[iB])
def QQ(a:Int)(b:Int)(m:iB a=true)(p:iB b=true):yk 66 [.i a,.i b] (.b (gX a b)):=by refine oO func66 λff=>?_;unfold f66;simp only[iB,XU,XY]at m p;refine xv ?_;exact ye (k:=by simp[gX])
def Zbj(a:Int)(b:Int):yk 29 [.i a,.i b] (.tuple [.b (nT a b).1,.i (nT a b).2]):=by
 refine oO func29 λff=>?_;unfold f29;refine xa ?_;refine xf ?_ ?_ (hok:=oH QK)<;>intro w
 . exact ye (K:=1) (k:=by simp only[nT];grind)
 exact ye (K:=1) (hok:=oF (QQ _ _ w.1 w.2)) (k:=by simp[nT,w])
def wz(s:Sgd):yk 70 [.agg s.d] (.agg s.q.d):=by refine oO func70 λff=>?_;unfold f70;refine xa ?_;exact yi (K:=1)
@[go_sem]theorem all_dat6{l:List Dat}:(∀r∈l.map Dat.d,r.length=3)=True:=by apply eq_true;intro r O;obtain⟨x,_,rfl⟩:=Yp.1 O;rfl
def Gb(l:List Dat)(h:l.length<=1000000):yk 42 [.l (l.map Dat.d)] (.l (l.map Dat.d)):=by
 refine oO func42 λff=>?_;unfold f42;refine xa ?_;refine aj ?_;refine aj (yY ?_);refine GJ (C:=De) 1 (e:=70) om (dP rfl) rfl rfl (by kernel_rfl) o1T ?_ (by rfl) ev (λy o=>?_)
 . exact okU
 refine yw (C:=De) o3j o1T ?_ rfl ?_
 . exact okU
 try simp only[aH]
 refine ce ?_ ?_ (hq:=rfl)<;>intro w
 . have f:l=[]:=List.map_eq_nil_iff.1 (o w);subst f;exact yi (K:=1)
 refine bM ?_;exact yi (K:=1)
def Jg(l:List RSig)(h:l.length<=1000000):yk 99 [.l (l.map RSig.d)] (.l (l.map RSig.d)):=by
 refine oO func99 λff=>?_;unfold f99;refine xa ?_;refine aj ?_;refine aj (yY ?_);refine GJ (C:=De) 1 (e:=59) om (dP rfl) rfl rfl (by kernel_rfl) o1T ?_ (by rfl) ev (λy o=>?_)
 . exact okU
 refine yw (C:=De) o3j o1T ?_ rfl ?_
 . exact okU
 try simp only[aH]
 refine ce ?_ ?_ (hq:=rfl)<;>intro w
 . have f:l=[]:=List.map_eq_nil_iff.1 (o w);subst f;exact yi (K:=1)
 refine bM ?_;exact yi (K:=1)
def Ja(s:Sgd)(hs:sK s):yk 73 [.agg s.d] (.agg s.d):=by refine oO func73 λff=>?_;unfold f73;refine xa ?_;refine xa ?_ (hok:=oS (k:=o2X));refine xa ?_ (hok:=oS (k:=o2Y));exact yi (K:=2)
@[go_sem]theorem ofV_map{o:Option Nat}:qm (.map o) = .v (.map o):=by cases o<;>rfl
@[go_sem]theorem keysOk_Q{m:List Sgd}:jl prog 31 (nX m)=true:=by
 induction m with
 | nil=>rfl
 | cons s m k=>rw[BG];simp only[jl,k,Qst.d,Hz,Zt]
@[go_sem]theorem mapTo_0{l:List Sgd}:vO l 0=[]:=rfl
attribute [go_sem] ZkS
def Xp{l:List Sgd}{k:Nat}:ib (nX (vO l k)) (.agg [.v (.string (bs l[k]!.q.name)),.i l[k]!.q.ty]) (.agg [.v (.string (bs l[k]!.set.name)),.i l[k]!.set.ty,.i l[k]!.set.life,.l (l[k]!.set.data.map Dat.d),.l (l[k]!.sigs.map RSig.d)])=nX (vO l (k+1)):=ZkQ
def Zbs(l:List Sgd)(h:l.length<=1000000):yk 67 [.l (l.map Sgd.d)] (.fmap (jk (lH l))):=by
 refine oO func67 λff=>?_;unfold f67;refine xv ?_;refine xj ?_;refine lq (Nat×Nat) [3,9,10] (λ⟨k,Z⟩=>(k<=l.length/\3<Z,l.length-k,[(11,.i k)],[(3,⟨140,gZ (nX (vO l k))⟩)],Z)) (0,_) ?_;rintro⟨k,Z⟩ ⟨X,E⟩;simp only[XX,XZ];have ff:=qA @E ff;refine xo ?_ ?_<;>intro w
 .
  have U:k<l.length:=by simpa using w
  have ff:=qB (bN U) (Xp (l:=l) (k:=k)) ff;refine wB ?_;refine xa ?_;refine xb ?_ (hok:=oH (wz l[k]!));refine xb ?_;exact ah (k+1,_)
 refine aB ?_;have a:k=l.length:=by have V : ¬(k:Int)<l.length:=(by simpa using w);omega
 subst a;refine Ml 3 3 ev ev rfl Zi9 ?_;exact ye (K:=1) (k:=by show(D.fmap (nX (DJ l)))=_;rw[ZkU])
@[go_sem]theorem keysOk_P{m:PM}:jl prog 31 (jk m)=true:=by
 induction m with
 | nil=>rfl
 | cons p m k=>rw[DT];simp only[jl,k,Qst.d,Hz,Zt]
def QC(a:List Dat)(b:List Dat)(h:a.length<=1000000):yk 134 [.l (a.map Dat.d),.l (b.map Dat.d)] (.b (kX a b)):=by
 refine oO func134 λff=>?_;unfold f134;refine xa ?_;refine xf ?_ ?_<;>intro w
 . exact ye (k:=by rw[show kX a b=false from YY (ZaY (by omega))])
 have c:a.length=b.length:=by omega
 refine xj ?_;refine lq (Nat×Nat) [0,1,12] (λ⟨k,Z⟩=>(k<=a.length/\(∀i,i<k->a[i]! = b[i]!),a.length-k,[(13,.i k)],[],Z)) (0,_) ?_ (hA:=⟨iv,o1J⟩);rintro⟨k,Z⟩ ⟨X,u⟩;simp only[XX,XZ];refine xo ?_ ?_<;>intro I
 .
  have U:k<a.length:=by simpa using I
  have v:k<b.length:=by omega
  have ff:=qB (oh U) (oh v) ff;refine wB ?_;refine xa ?_;refine xi ?_ ?_<;>intro f
  . exact ye (k:=by rw[show kX a b=false from YY λe=>by subst e;simp at f])
  refine xl ?_;exact ah (k+1,_) (h1:=⟨iv,(by(try dsimp only);intro i hi;by_cases e:i=k;subst e;exact Mx f;exact u i om)⟩)
 refine aB ?_;exact ye (k:=by rw[show kX a b=true from YB (FC! c λi hi=>u i (by omega))])
def ZaX(a:List RSig)(b:List RSig)(h:a.length<=1000000):yk 140 [.l (a.map RSig.d),.l (b.map RSig.d)] (.b (yV a b)):=by
 refine oO func140 λff=>?_;unfold f140;refine xa ?_;refine xf ?_ ?_<;>intro w
 . exact ye (k:=by rw[show yV a b=false from YY (ZaY (by omega))])
 have c:a.length=b.length:=by omega
 refine xj ?_;refine lq (Nat×Nat) [0,1,12] (λ⟨k,Z⟩=>(k<=a.length/\(∀i,i<k->a[i]! = b[i]!),a.length-k,[(13,.i k)],[],Z)) (0,_) ?_ (hA:=⟨iv,o1J⟩);rintro⟨k,Z⟩ ⟨X,u⟩;simp only[XX,XZ];refine xo ?_ ?_<;>intro I
 .
  have U:k<a.length:=by simpa using I
  have v:k<b.length:=by omega
  have ff:=qB (vY U) (vY v) ff;refine wB ?_;refine xa ?_;refine xi ?_ ?_<;>intro f
  . exact ye (k:=by rw[show yV a b=false from YY λe=>by subst e;simp at f])
  refine xl ?_;exact ah (k+1,_) (h1:=⟨iv,(by(try dsimp only);intro i hi;by_cases e:i=k;subst e;exact TW f;exact u i om)⟩)
 refine aB ?_;exact ye (k:=by rw[show yV a b=true from YB (FC! c λi hi=>u i (by omega))])
def Cj(a:Sgd)(b:Sgd)(m:sK a):yk 74 [.agg a.d,.agg b.d] (.b (yz a b)):=by refine oO func74 λff=>?_;unfold f74;refine xa ?_;exact ye (hok:=oS (k:=o0z)) (k:=by rw[ZgV,ZI])
def ZnT(s:Sgd)(m:PM):yk 69 [.agg s.d,.eptr [.fmap (jk m)]] (.tuple [.agg s.q.d,.b (qo m s.q)]):=by
 refine oO func69 λff=>?_;unfold f69;refine xa ?_;refine xa ?_ (hok:=oH (wz s));rcases F:fq m s.q with _|x
 . have ff:=qA @F ff;refine xa ?_;exact ye (K:=3) (k:=by simp[qo,F])
 have ff:=qA @F ff;refine xa ?_;exact ye (K:=3) (k:=by simp[qo,F])
def Zof(s:Sgd)(m:PM):yk 153 [.agg s.d,.eptr [.fmap (jk m)]] (.tuple [.agg s.d,.b (qo m s.q)]):=by
 refine oO func153 λff=>?_;unfold f153;refine xa ?_;rcases F:fq m s.q with _|x
 . have ff:=qA @F ff;refine aa nC ?_ (hok:=oH (wz s));exact ye (K:=3) (k:=by simp[qo,F])
 have ff:=qA @F ff;refine aa nC ?_ (hok:=oH (wz s));exact ye (K:=3) (k:=by simp[qo,F])
def ZnS(s:Sgd)(m:PM)(hs:sK s)(v : ∀x,fq m s.q=some x->sK x):yk 72 [.agg s.d,.eptr [.fmap (jk m)]] (.tuple [.agg s.d,.b (Aq (fq m s.q) s)]):=by
 refine oO func72 λff=>?_;unfold f72;refine xa ?_;rcases F:fq m s.q with _|x
 . have ff:=qA @F ff;refine aa nC ?_ (hok:=oH (wz s));exact ye (K:=3) (hok:=o0f) (k:=by simp[Aq,F])
 have ff:=qA @F ff;refine aa nC ?_ (hok:=oH (wz s));exact ye (K:=3) (hok:=o0f) (k:=by simp[Aq,F])
def Zoe(s:Sgd)(hs:sK s):yk 156 [.agg s.d] (.tuple [.agg s.d,.b true]):=by refine oO func156 λff=>?_;unfold f156;refine xa ?_;exact yi (K:=2) (hok:=oF (Ja s hs))
def ZnU  : yk 155 [.fn (.func 70) [] []] (.fn (.func 242) [] [.eptr [.fn (.func 70) [] []]]):=by refine oO func155 λff=>?_;unfold f155;refine xv ?_;exact oN (fin 2 (hr:=oR) (hk:=by(try simp only[go_sem,ff]);all_goals (first|done|rfl|(simp;done))))
def ZnZ(a:Sgd)(b:Sgd):yk 242 [.agg a.d,.agg b.d,.eptr [.fn (.func 70) [] []]] (.i (qC a.q b.q)):=by refine oO func242 λff=>?_;unfold f242;refine xa ?_;exact yi (hok:=oJ (wz a) (wz b) (QP a.q b.q))
def ZnY(l:List Sgd)(m:PM)(h:cZ l):yk 68 [.l (l.map Sgd.d),.fn (.func 69) [] [.eptr [.fmap (jk m)]]] (.l ((l.filterMap (mW m)).map Qst.d)):=by
 refine oO func68 λff=>?_;unfold f68;have g:=h.1;refine xv ?_;refine aj ?_;refine wu 5 31 o3h o3h ?_;refine xa ?_;refine dK ?_;refine lq (Nat×Nat×Nat) [1,10,11] (λ⟨k,r,Z⟩=>(k<=l.length/\r<Z,l.length-k,[(5,.mrow r 0 ((l.take k).filterMap (mW m)).length),(12,.i k)],[(r,⟨31,((l.take k).filterMap (mW m)).map Qst.d⟩)],Z)) (0,2,_) ?_;rintro⟨k,r,Z⟩ ⟨X,O⟩;simp only[XX,XZ];have j:=LZ (mW m) l k;have ff:=qA @O ff;refine xo ?_ ?_<;>intro w
 .
  have U:k<l.length:=by simpa using w
  have ff:=qA (bN U) ff;refine wB ?_;refine xa ?_;refine xa ?_ (hok:=oH (ZnT l[k]! m));refine xi ?_ ?_<;>intro I
  .
   refine xb ?_;refine xb ?_;have B:=LX (f:=mW m) U (by simp only[mW];rw[X0 o2J]);have a:((l.take (k+1)).filterMap (mW m)).map Qst.d=((l.take k).filterMap (mW m)).map Qst.d++[[.v (.string (bs l[k]!.q.name)),.i l[k]!.q.ty]]:=by rw[B,Yv];rfl
   have c:((l.take (k+1)).filterMap (mW m)).length=((l.take k).filterMap (mW m)).length+1:=by rw[B,X3];rfl
   have ff:=qB a c ff;exact ah (k+1,(Z+18),_)
  refine xl ?_;have ff:=qA (LY (f:=mW m) U (by simp only[mW];rw[XV o2y])) ff;exact ah (k+1,r,_)
 refine aB ?_;have n:k=l.length:=by have V : ¬(k:Int)<l.length:=(by simpa using w);omega
 subst n;rw[Yt]at *
 refine xa ?_;exact oN (fin 1 (hr:=o2g))
def ZnW(l:List Sgd)  (h:cZ l):yk 71 [.l (l.map Sgd.d),.fn (.func 156) [] []] (.l ((l.filterMap (some)).map Sgd.d)):=by
 refine oO func71 λff=>?_;unfold f71;have g:=h.1;refine xv ?_;refine aj ?_;refine wu 5 56 o3h o3h ?_;refine xa ?_;refine dK ?_;refine lq (Nat×Nat×Nat) [1,10,11] (λ⟨k,r,Z⟩=>(k<=l.length/\r<Z,l.length-k,[(5,.mrow r 0 ((l.take k).filterMap (some)).length),(12,.i k)],[(r,⟨56,((l.take k).filterMap (some)).map Sgd.d⟩)],Z)) (0,2,_) ?_;rintro⟨k,r,Z⟩ ⟨X,O⟩;simp only[XX,XZ];have j:=LZ (some) l k;have ff:=qA @O ff;refine xo ?_ ?_<;>intro w
 .
  have U:k<l.length:=by simpa using w
  have ff:=qA (bN U) ff;refine wB ?_;refine xa ?_;refine xa ?_ (hok:=oH (Zoe l[k]! (h.2 k U)));refine xi ?_ ?_<;>intro I
  .
   refine xb ?_;refine xb ?_;have B:=LX (f:=some) U (rfl);have a:((l.take (k+1)).filterMap (some)).map Sgd.d=((l.take k).filterMap (some)).map Sgd.d++[[.v (.string (bs l[k]!.set.name)),.i l[k]!.set.ty,.i l[k]!.set.life,.l (l[k]!.set.data.map Dat.d),.l (l[k]!.sigs.map RSig.d)]]:=by rw[B,Yv];rfl
   have c:((l.take (k+1)).filterMap (some)).length=((l.take k).filterMap (some)).length+1:=by rw[B,X3];rfl
   have ff:=qB a c ff;exact ah (k+1,(Z+18),_)
  refine xl ?_;have ff:=qA (LY (f:=some) U (by cases I)) ff;exact ah (k+1,r,_)
 refine aB ?_;have m:k=l.length:=by have V : ¬(k:Int)<l.length:=(by simpa using w);omega
 subst m;rw[Yt]at *
 refine xa ?_;exact oN (fin 1 (hr:=o2g))
def ZnV(l:List Sgd)(m:PM)(h:cZ l)(v : ∀k,k<l.length -> ∀x,fq m l[k]!.q=some x->sK x):yk 71 [.l (l.map Sgd.d),.fn (.func 72) [] [.eptr [.fmap (jk m)]]] (.l ((l.filterMap (lK m)).map Sgd.d)):=by
 refine oO func71 λff=>?_;unfold f71;have g:=h.1;refine xv ?_;refine aj ?_;refine wu 5 56 o3h o3h ?_;refine xa ?_;refine dK ?_;refine lq (Nat×Nat×Nat) [1,10,11] (λ⟨k,r,Z⟩=>(k<=l.length/\r<Z,l.length-k,[(5,.mrow r 0 ((l.take k).filterMap (lK m)).length),(12,.i k)],[(r,⟨56,((l.take k).filterMap (lK m)).map Sgd.d⟩)],Z)) (0,2,_) ?_;rintro⟨k,r,Z⟩ ⟨X,O⟩;simp only[XX,XZ];have j:=LZ (lK m) l k;have ff:=qA @O ff;refine xo ?_ ?_<;>intro w
 .
  have U:k<l.length:=by simpa using w
  have ff:=qA (bN U) ff;refine wB ?_;refine xa ?_;refine xa ?_ (hok:=oH (ZnS l[k]! m (h.2 k U) (v k U)));refine xi ?_ ?_<;>intro I
  .
   refine xb ?_;refine xb ?_;have B:=LX (f:=lK m) U (by simp only[lK];rw[X0 o2J]);have a:((l.take (k+1)).filterMap (lK m)).map Sgd.d=((l.take k).filterMap (lK m)).map Sgd.d++[[.v (.string (bs l[k]!.set.name)),.i l[k]!.set.ty,.i l[k]!.set.life,.l (l[k]!.set.data.map Dat.d),.l (l[k]!.sigs.map RSig.d)]]:=by rw[B,Yv];rfl
   have c:((l.take (k+1)).filterMap (lK m)).length=((l.take k).filterMap (lK m)).length+1:=by rw[B,X3];rfl
   have ff:=qB a c ff;exact ah (k+1,(Z+18),_)
  refine xl ?_;have ff:=qA (LY (f:=lK m) U (by simp only[lK];rw[XV o2y])) ff;exact ah (k+1,r,_)
 refine aB ?_;have n:k=l.length:=by have V : ¬(k:Int)<l.length:=(by simpa using w);omega
 subst n;rw[Yt]at *
 refine xa ?_;exact oN (fin 1 (hr:=o2g))
def ZnX(l:List Sgd)(m:PM)(j:cZ l)(h:H)(n:Nat):yp 71 [.l (l.map Sgd.d),.fn (.func 153) [] [.eptr [.fmap (jk m)]]] h n (λd h' g=>∃r,d = .mrow r 0 (l.filterMap (l8 m)).length/\h'=upd h r (some ⟨56,(l.filterMap (l8 m)).map Sgd.d⟩)/\n<=r/\r<g):=by
 refine oP func71 λo ff=>?_;unfold f71;have p:=j.1;refine xv ?_;refine aj ?_;refine wu 5 56 o3h o3h ?_;refine xa ?_;refine dK ?_;refine iF (Nat×Nat×Nat) [1,10,11] (λ⟨k,r,Z⟩=>(k<=l.length/\r<Z/\n<=r,l.length-k,[(5,.mrow r 0 ((l.take k).filterMap (l8 m)).length),(12,.i k)],upd h r (some ⟨56,((l.take k).filterMap (l8 m)).map Sgd.d⟩),Z)) (0,(n+2),_) ?_;rintro⟨k,r,Z⟩ ⟨X,O,t⟩;simp only[XX,XZ];have u:=LZ (l8 m) l k;have ff:=qA @O ff;refine xo ?_ ?_<;>intro w
 .
  have U:k<l.length:=by simpa using w
  have ff:=qA (bN U) ff;refine wB ?_;refine xa ?_;refine xa ?_ (hok:=oH (Zof l[k]! m));refine xi ?_ ?_<;>intro I
  .
   refine xb ?_;refine xb ?_;have B:=LX (f:=l8 m) U (by simp only[l8];rw[X0 o2J]);have a:((l.take (k+1)).filterMap (l8 m)).map Sgd.d=((l.take k).filterMap (l8 m)).map Sgd.d++[[.v (.string (bs l[k]!.set.name)),.i l[k]!.set.ty,.i l[k]!.set.life,.l (l[k]!.set.data.map Dat.d),.l (l[k]!.sigs.map RSig.d)]]:=by rw[B,Yv];rfl
   have c:((l.take (k+1)).filterMap (l8 m)).length=((l.take k).filterMap (l8 m)).length+1:=by rw[B,X3];rfl
   have ff:=qB a c ff;refine ah (k+1,(Z+18),_) (h5:=?_);refine Pj o o3h (λq K=>?_);simp only[upd];repeat rw[XV (by omega)]
  refine xl ?_;have ff:=qA (LY (f:=l8 m) U (by simp only[l8];rw[XV o2y])) ff;refine ah (k+1,r,_) (h5:=?_);refine Pj o o3h (λq K=>?_);simp only[upd];repeat rw[XV (by omega)]
 refine aB ?_;have v:k=l.length:=by have V : ¬(k:Int)<l.length:=(by simpa using w);omega
 subst v;rw[Yt]at *
 refine xa ?_;exact oN (bJ (upd h r (some ⟨56,(l.filterMap (l8 m)).map Sgd.d⟩)) (hr:=oS (k:=by exact⟨r,rfl,rfl,om,om⟩)))
def Zn2(l:List Sgd)(c:l.length<=1000000)(h:H)(n:Nat):yp 67 [.l (l.map Sgd.d)] h n (λd h' g=>∃r,d = .mp r/\h'=upd h r (some ⟨140,gZ (rY (yK l))⟩)/\n<=r/\r<g):=by
 refine oP func67 λo ff=>?_;unfold f67;refine xv ?_;refine xj ?_;refine iF (Nat×Nat) [3,9,10] (λ⟨k,Z⟩=>(k<=l.length/\n+3<Z,l.length-k,[(11,.i k)],upd h (n+3) (some ⟨140,gZ (nX (vO l k))⟩),Z)) (0,_) ?_ (um:=by exact λ_=>.inl rfl);rintro⟨k,Z⟩ ⟨X,E⟩;simp only[XX,XZ];have ff:=qA @E ff;refine xo ?_ ?_<;>intro w
 .
  have U:k<l.length:=by simpa using w
  have ff:=qB (bN U) (Xp (l:=l) (k:=k)) ff;refine wB ?_;refine xa ?_;refine xb ?_ (hok:=oH (wz l[k]!));refine xb ?_;refine ah (k+1,_) (h5:=?_);refine Pj o o3h (λq K=>?_);simp only[upd];repeat rw[XV (by omega)]
 refine aB ?_;have a:k=l.length:=by have V : ¬(k:Int)<l.length:=(by simpa using w);omega
 subst a;refine xa ?_;exact oN (bJ (upd h (n+3) (some ⟨140,gZ (rY (yK l))⟩)) (hr:=oS (k:=by exact⟨n+3,rfl,rfl,om,om⟩)) (hh:=by rw[<-ZkT];exact BD _))
def p9{z:Zon}(h:ak z=true):yk 45 [.agg z.d] (.tuple [.i (aL z),.i 0]):=by have:=RN z;rwa [X0 h,X0 h]at this
def vz{z:Zon}(h:ak z=false):yk 45 [.agg z.d] (.tuple [.i 0,.i 1]):=by have:=RN z;rwa [XV (by simp[h]),XV (by simp[h])]at this
@[go_sem]theorem keysOk_S{m:List Qst}:jl prog 31 (vQ m)=true:=by
 induction m with
 | nil=>rfl
 | cons p m k=>rw[Hw];simp only[jl,k,Qst.d,Hz,Zt]
@[go_sem]theorem keysOk_Z{m:PZ}:jl prog 31 (rY m)=true:=by
 induction m with
 | nil=>rfl
 | cons p m k=>rw[DN];simp only[jl,k,Qst.d,Hz,Zt]
def F7(d:aM):yk 152 [.agg d.d] (.b (fO d)):=by
 refine oO func152 λff=>?_;unfold f152;refine xa ?_;refine xf ?_ ?_ (hok:=oI yF LA)<;>intro w
 . exact ye (k:=o2c)
 refine xf (λI=>?_) (λI=>?_) (hok:=oS (k:=by first|trivial|(repeat' with_reducible apply And.intro)<;>first|(intros;exact QK _)|exact(λ_=>QK _)|exact(λh=>QQ _ _ (by simp_all) (by simp_all))|(intros;simp_all;done)))
 . exact ye (k:=o2c)
 refine xf ?_ ?_<;>intro a
 . exact ye (k:=o2c)
 refine xa ?_;refine xj ?_;refine lq (Nat×Nat) [1,3,50,51] (λ⟨k,Z⟩=>(k<=d.drop.length/\ax d.drop.length (wy d.drop) 0=ax d.drop.length (wy d.drop) k/\42<Z,d.drop.length-k,[(52,.i k)],[(0,⟨77,[d.d]⟩),(42,⟨310,gZ (vQ (zH d.drop (k)))⟩)],Z)) (0,_) ?_;rintro⟨k,Z⟩ ⟨X,f,E⟩;simp only[XX,XZ];have m:0<Z:=by omega
 have ff:=qB @E @m ff;refine xo ?_ ?_<;>intro c
 .
  have U:k<d.drop.length:=by simpa using c
  have g:k-1<d.drop.length:=by omega
  have y:((k:Int)-1).toNat=k-1:=by omega
  have ff:=qD (LG U) (LG g) @y ff;refine wB ?_;refine xa ?_;refine xf ?_ ?_ (hok:=gI @yF)<;>intro r
  . exact ye (k:=o0I)
  refine xf ?_ ?_ (hok:=gI (QP d.drop[k-1]! d.drop[k]!))<;>intro t
  . exact ye (k:=o0I)
  refine xb ?_;refine xb ?_;have T:(wy d.drop) k=true:=by simp only[wy,ku,aP];grind
  have ff:=qA (show vG (zH d.drop k) d.drop[k]! = zH d.drop (k+1)from rfl) ff;exact ah (k+1,_) (h1:=⟨iv,o2E,iv⟩)
 have o:k=d.drop.length:=by omega
 subst o;refine aB ?_;refine xj ?_;refine lq (Nat×Nat) [1,3,88,89] (λ⟨k,Z⟩=>(k<=d.put.length/\ax d.put.length (vH d) 0=ax d.put.length (vH d) k/\42<Z,d.put.length-k,[(90,.i k)],[(0,⟨77,[d.d]⟩),(42,⟨310,gZ (vQ (zH d.drop (d.drop.length)))⟩)],Z)) (0,_) ?_;rintro⟨k,Z⟩ ⟨X,u,E⟩;simp only[XX,XZ];have m:0<Z:=by omega
 have ff:=qB @E @m ff;refine xo ?_ ?_<;>intro p
 .
  have U:k<d.put.length:=by simpa using p
  have g:k-1<d.put.length:=by omega
  have y:((k:Int)-1).toNat=k-1:=by omega
  have ff:=qD (bN U) (bN g) @y ff;refine wB ?_;refine xa ?_;refine xf ?_ ?_ (hok:=Hd @xe (wz d.put[k]!))<;>intro v
  . exact ye (k:=o0O)
  refine xi ?_ ?_ (hok:=oa3 (wz d.put[k]!) (wz d.put[k-1]!) (QP d.put[k-1]!.q d.put[k]!.q))<;>intro x
  . exact ye (k:=o0O)
  refine xl ?_;have T:(vH d) k=true:=by simp only[vH];grind
  exact ah (k+1,_) (h1:=⟨iv,o2D,iv⟩)
 refine aB ?_;exact ye (k:=by rw[<-Cn];simp only[yZ];(try rw[wU]at *);rw[f,u,gB (n:=d.drop.length) (by omega),gB (by omega)];grind)
def Zbr(a:Zon)(b:Zon):yk 19 [.agg a.d,.agg b.d] (.tuple [.agg (lJ a b).1.d,.i (lJ a b).2]):=by
 refine oO func19 λff=>?_;unfold f19;refine xa ?_;rcases m:ak a with _|_<;>rcases p:ak b with _|_
 .
  have ff:=qB @m @p ff;refine xa ?_ (hok:=oS (k:=o2K));refine xa ?_ (hok:=oS (k:=o2L));refine aj ?_;refine xi ?_ ?_ (hq:=rfl)<;>intro w
  . exact ye (K:=3) (k:=o2M)
  first|exact w.elim|(simp at w;done)
 .
  have ff:=qB @m @p ff;refine xa ?_ (hok:=oS (k:=o2K));refine xa ?_ (hok:=oS (k:=o2L));refine aj ?_;refine xi ?_ ?_ (hq:=rfl)<;>intro w
  . exact ye (K:=3) (k:=o2M)
  first|exact w.elim|(simp at w;done)
 .
  have ff:=qB @m @p ff;refine xa ?_ (hok:=oS (k:=o2K));refine xa ?_ (hok:=oS (k:=o2L));refine aj ?_;refine xi ?_ ?_ (hq:=rfl)<;>intro w
  . exact ye (K:=3) (k:=o2M)
  first|exact w.elim|(simp at w;done)
 have c:=rA m;have f:=rA p;have g:iB (aL a)=true:=by rw[C8 m];exact Ku (by rw[<-uy];exact m)
 have h:iB (aL b)=true:=by rw[C8 p];exact Ku (by rw[<-uy];exact p)
 have ff:=qB @m @p ff;refine xa ?_ (hok:=oS (k:=o2K));refine xa ?_ (hok:=oS (k:=o2L));refine xf ?_ ?_<;>intro w
 . exact ye (K:=3) (k:=o2M)
 refine xf ?_ ?_ (hok:=oF (QQ _ _ g h))<;>intro I
 . exact ye (K:=3) (k:=by rw[lJ,XV (by simp_all),X0 (by simp_all)];rfl)
 refine aa nC ?_ (hok:=oI (Zbs a.sets c.1) (Zbs b.sets f.1));refine xa ?_;refine sO 11 42 ev ev V7 ?_;refine xa ?_ (hok:=oH (ZnY a.sets (lH b.sets) c));refine sO 10 41 ev ev V7 ?_;refine xa ?_ (hok:=oH (ZnV b.sets (lH a.sets) f (λk X x E=>Ma c (WM E).1)));exact ye (K:=3) (k:=by rw[lJ,XV (by simp_all),XV (by simp_all)];try rfl)
def Zfa:Go.Shelf.Ren:={ f:=λx=>match x with|6=>154|15=>101|14=>241|28=>175|29=>176|20=>290|21=>291|22=>292|23=>293|24=>294|25=>295|26=>296|27=>297|46=>328|47=>254|48=>255|49=>329|50=>330|57=>346|n=>n,t:=λx=>match x with|22=>22|24=>56|25=>235|3=>3|39=>174|0=>0|53=>251|55=>57|4=>4|46=>245|45=>244|50=>180|5=>5|9=>9|66=>319|70=>323|76=>354|77=>355|n=>n,g:=λn=>n }
def srtS:Go.Proofs.SlLaysF0.n6 prog Zfa:={
 mixed:=by kernel_rfl
 f6:=⟨f154.name,by decide,func154.trans (by kernel_rfl)⟩
 f14:=⟨f241.name,by decide,func241.trans (by kernel_rfl)⟩
 f15:=func101.trans (by kernel_rfl)
 f20:=⟨f290.name,by decide,func290.trans (by kernel_rfl)⟩
 f21:=⟨f291.name,by decide,func291.trans (by kernel_rfl)⟩
 f22:=⟨f292.name,by decide,func292.trans (by kernel_rfl)⟩
 f23:=⟨f293.name,by decide,func293.trans (by kernel_rfl)⟩
 f24:=⟨f294.name,by decide,func294.trans (by kernel_rfl)⟩
 f25:=⟨f295.name,by decide,func295.trans (by kernel_rfl)⟩
 f26:=⟨f296.name,by decide,func296.trans (by kernel_rfl)⟩
 f27:=⟨f297.name,by decide,func297.trans (by kernel_rfl)⟩
 f28:=func175.trans (by kernel_rfl)
 f29:=func176.trans (by kernel_rfl)
 f46:=⟨f328.name,by decide,func328.trans (by kernel_rfl)⟩
 f47:=func254.trans (by kernel_rfl)
 f48:=func255.trans (by kernel_rfl)
 f49:=⟨f329.name,by decide,func329.trans (by kernel_rfl)⟩
 f50:=⟨f330.name,by decide,func330.trans (by kernel_rfl)⟩
 f57:=⟨f346.name,by decide,func346.trans (by kernel_rfl)⟩
 t0:=underlying0
 a0:=Tryz.isAgg0
 z0:=Tryz.sizeOf0
 v0:=Tryz.zeroValue0
 t3:=underlying3
 a3:=Tryz.isAgg3
 z3:=Tryz.sizeOf3
 v3:=Tryz.zeroValue3
 t4:=underlying4
 a4:=Tryz.isAgg4
 z4:=Tryz.sizeOf4
 v4:=Tryz.zeroValue4
 t5:=underlying5
 a5:=Tryz.isAgg5
 z5:=Tryz.sizeOf5
 v5:=Tryz.zeroValue5
 t9:=underlying9
 a9:=Tryz.isAgg9
 z9:=Tryz.sizeOf9
 v9:=Tryz.zeroValue9
 t22:=underlying22
 a22:=Tryz.isAgg22
 z22:=Tryz.sizeOf22
 v22:=Tryz.zeroValue22
 t25:=underlying235
 a25:=Tryz.isAgg235
 z25:=Tryz.sizeOf235
 v25:=Tryz.zeroValue235
 t39:=underlying174
 a39:=Tryz.isAgg174
 z39:=Tryz.sizeOf174
 v39:=Tryz.zeroValue174
 t45:=underlying244
 a45:=Tryz.isAgg244
 z45:=Tryz.sizeOf244
 v45:=Tryz.zeroValue244
 t46:=underlying245
 a46:=Tryz.isAgg245
 z46:=Tryz.sizeOf245
 v46:=Tryz.zeroValue245
 t50:=underlying180
 a50:=Tryz.isAgg180
 z50:=Tryz.sizeOf180
 v50:=Tryz.zeroValue180
 t53:=underlying251
 a53:=Tryz.isAgg251
 z53:=Tryz.sizeOf251
 v53:=Tryz.zeroValue251
 t55:=underlying57
 a55:=Tryz.isAgg57
 z55:=Tryz.sizeOf57
 v55:=Tryz.zeroValue57
 t66:=underlying319
 a66:=Tryz.isAgg319
 z66:=Tryz.sizeOf319
 v66:=Tryz.zeroValue319
 t70:=underlying323
 a70:=Tryz.isAgg323
 z70:=Tryz.sizeOf323
 v70:=Tryz.zeroValue323
 t76:=underlying354
 a76:=Tryz.isAgg354
 z76:=Tryz.sizeOf354
 v76:=Tryz.zeroValue354
 t77:=underlying355
 a77:=Tryz.isAgg355
 z77:=Tryz.sizeOf355
 v77:=Tryz.zeroValue355 }
def sortG(l:List Sgd)(m:Nat)(h:H)(n r:Nat)(v:m=l.length)(o:l.length<=1000000)(hn : ∀s∈l,ai (s.q).name=true)(t:Once l)(hr:h r=some ⟨56,l.map Sgd.d⟩) :
  yp 154 [.mrow r 0 m,.fn (.func 242) [] [.eptr [.fn (.func 70) [] []]]] h n (λd h' g=>d = .tuple []/\g=n/\h'=upd h r (some ⟨56,(iU l).map Sgd.d⟩)):=by
 have e:m=(l.map Sgd.d).length:=by simp[v]
 rw[e];have E : ∀x∈l.map Sgd.d,Sgd.d (Sgd.of x)=x/\ai ((λs:Sgd=>s.q) (Sgd.of x)).name=true:=λx E=>by obtain⟨s,N,rfl⟩:=Yp.1 E;rw[Fu];exact⟨rfl,hn s N⟩
 have j : ∀x∈l.map Sgd.d,∀y∈l.map Sgd.d,qC (Sgd.of x).q (Sgd.of y).q=sp (Sgd.of x) (Sgd.of y):=λx J y Y=>Fj (E x J).2 (E y Y).2;refine(ND (ty:=56) srtS rfl rfl Tryz.isAgg56 Tryz.sizeOf56 (λx y=>qC (Sgd.of x).q (Sgd.of y).q) (by kernel_rfl) hr Dy rfl (by simp;omega) (λx J y Y=>?_) ⟨λx J=>?_,λx J y Y z A=>?_,λx J y Y z A=>?_⟩).mono ?_
 .
  letI iD:Dr:=I8
  have:=ZnZ (Sgd.of x) (Sgd.of y);rw[(E x J).1,(E y Y).1]at this;exact this
 . rw[j x J x J,mY.self];omega
 . rw[j x J y Y,j y Y z A,j x J z A];intro a b;exact mY.lt_le a om
 . rw[j x J y Y,j y Y z A,j x J z A];intro a b;have J:=mY.anti (Sgd.of x) (Sgd.of y);have Y:=mY.anti (Sgd.of y) (Sgd.of z);have A:=mY.anti (Sgd.of x) (Sgd.of z);have:=mY.tr (Sgd.of z) (Sgd.of y) (Sgd.of x) om om;omega
 rintro d h' g ⟨rfl,rfl,c,F,N,rfl⟩;let⟨B,W⟩:=UF Fu F;refine⟨rfl,rfl,?_⟩;have f:(c.map Sgd.of).Pairwise λa b=>sp a b<=0:=by rw[List.pairwise_map];refine N.imp_of_mem λ{a b}J Y A=>?_;have A : ¬(λx y=>qC (Sgd.of x).q (Sgd.of y).q) b a<0:=A;dsimp only at A;have k:=j b (F.mem_iff.1 Y) a (F.mem_iff.1 J);rw[k]at A;have:=mY.anti (Sgd.of a) (Sgd.of b);omega
 rw[<-Zfp t W f,B]
def Zm8{P:Program}[Glob P]{ro:Option Nat}{Q:Exit->S->Prop}{c:Code}{s:S}(i r:Nat){ty:TypeId}{row:List D}(hi:s.t i = .mptr r 0 0)(hr:s.h r=some ⟨ty,[row]⟩)(hn:aX row=true)(h:DW P ro c Q { n:=s.n,t:=upd s.t i (.eptr (dA row)),h:=upd s.h r none,nx:=s.nx,e:=s.e }):DW P ro c Q s :=
 QJ i r hi (λ_ _ _ v u=>(Qh v hr hn u).wk) h
def Zng(z:Zon)(d:aM)(a:cZ z.sets)(h:H)(n:Nat):yp 71 [.l (z.sets.map Sgd.d),.fn (.func 153) [] [.eptr [.fmap (jk (zp (yR (yK d.put) d.drop d.drop.length)))]]] h n (λx h' g=>∃r,x = .mrow r 0 (gF z d).length/\h'=upd h r (some ⟨56,(gF z d).map Sgd.d⟩)/\n<=r/\r<g):=ZnX z.sets _ a h n
def ZeQ{z:Zon}{d:aM}(hz:mi z)(m:DOk d):∀s∈gF z d++d.put,ai s.q.name=true:=λs N=>(Yu.1 N).elim (λk=>hz.nms s (Gy.1 k).1) λk=>(m.pok s k).name
def ZjG{z:Zon}{d:aM}(hz:cZ z.sets)(hp:cZ d.put)(m:d.put.length<=20000)(h:(gF z d).length<=20000):cZ (iU (gF z d++d.put)):=Qs (by rw[JZ,X3];omega) λs N=>(Yu.1 (NF.1 N)).elim (λk=>Ma hz (Gy.1 k).1) λk=>Ma hp k
def QS(z:Zon)(d:aM)(hp:cZ d.put):yk 79 [.agg z.d,.agg d.d] (.tuple [.agg (eY z d).1.d,.i (eY z d).2]):=by
 refine oO func79 λff=>?_;unfold f79;refine xa ?_;rcases m:ak z with _|_
 .
  have ff:=qA @m ff;refine xa ?_ (hok:=oS (k:=o2K));refine aj ?_;refine xi ?_ ?_ (hok:=oH (F7 d)) (hq:=rfl)<;>intro w
  . exact ye (K:=3) (k:=by rw[eY,if_pos (by grind)];try rfl)
  first|exact w.elim|(simp at w;done)
 have o:=rA m;have j:=lL m;have M:=j.len;have ff:=qA @m ff;refine xa ?_ (hok:=oS (k:=o2K));refine xf ?_ ?_ (hok:=oH (F7 d))<;>intro w
 . exact ye (K:=3) (k:=by rw[eY,if_pos (by grind)];try rfl)
 have G:fO d=true:=by grind
 have y:z.apex=d.apex:=by grind
 have g : ¬(ak z=false\/fO d=false\/z.apex≠d.apex):=by rintro (q|q|q);rw[m]at q;cases q;rw[G]at q;cases q;exact q y
 have f:=Ap.1 G;have O:=f.dlen;have A:=f.plen;have T:=ZeR z d;refine xf ?_ ?_<;>intro I
 .
  have n:aL z≠d.frm:=by grind
  exact ye (K:=3) (k:=by rw[eY,XV g,X0 n];try rfl)
 have n : ¬(aL z≠d.frm):=λq=>q (by grind);refine aj (ya 2 (hct:=by exact Zn2 d.put hp.1 _ _) (hk:=?_));rintro R Y h ⟨r,rfl,rfl,N,J⟩;try dsimp only at N J
 have ff:=qD @J (nH 0 1) (nH 0 2) (qI (nH 0 r) (nH 0 (h+3)) (nH 1 2) (nH 1 r) (nH 1 (h+3)) (nH 2 r) (nH 2 (h+3)) (nH (h+3) r) ff);refine yb ?_;refine xj ?_;refine lq (Nat×Nat×Nat) [2,3,4,43,44] (λ⟨k,q,Z⟩=>(k<=d.drop.length/\q<Z/\r<q/\2<r,d.drop.length-k,[(8,.mptr q 0 0),(45,.i k)],[(0,⟨24,[z.d]⟩),(1,⟨77,[d.d]⟩),(2,⟨24,[[.v (.string (bs [])),.e]]⟩),(q,⟨140,[[.mp r]]⟩),(r,⟨140,gZ (rY (yR (yK d.put) d.drop (k)))⟩)],Z)) (0,h+3,_) ?_;rintro⟨k,q,Z⟩ ⟨X,x,lZ,V⟩;simp only[XX,XZ];have W:0<Z:=by omega
 have B:r<Z:=by omega
 have ff:=qF @x @W @B (nH 0 1) (nH 0 2) (qI (nH 0 q) (nH 0 r) (nH 1 2) (nH 1 q) (nH 1 r) (nH 2 q) (nH 2 r) (nH q r) ff);refine xo ?_ ?_<;>intro a
 .
  have U:k<d.drop.length:=by simpa using a
  have ff:=qA (LG U) ff;refine wB ?_;refine xa ?_;refine xb ?_;refine xb ?_;have ff:=qA (show zg (yR (yK d.put) d.drop (k)) d.drop[k]! none=yR (yK d.put) d.drop (k+1)from rfl) ff;exact ah (k+1,q,_)
 have e8:k=d.drop.length:=by omega
 subst e8;refine aB ?_;refine Za8 q 0 r ev rfl ev rfl om V5 ?_;simp only[Yx];refine Zm8 8 q ev ev Zjd ?_;refine aj (ya 3 (hct:=by exact Zng z d o _ _) (hk:=?_));rintro R Y h ⟨t,rfl,rfl,a2,L⟩;try dsimp only at a2 L
 have ff:=qH @L (nH 0 1) (nH 0 2) (nH 0 t) (nH 1 2) (nH 1 t) (nH 2 t) ff;refine yb ?_;refine xf ?_ ?_<;>intro c
 . exact ye (K:=3) (k:=by rw[eY,XV g,XV n,X0 (by omega)];try rfl)
 refine xa ?_;obtain⟨u,E⟩:∃q,q=h+15:=⟨_,rfl⟩;rw[<-E];have v:u<h+16:=by omega
 have ff:=qH @v (nH 0 1) (nH 0 2) (nH 0 u) (nH 1 2) (nH 1 u) (nH 2 u) ff;refine aj (ya 2 (hok:=oH ZnU) (hct:=by exact sortG (gF z d++d.put) _ _ _ _ (by simp) (by rw[X3];omega) (ZeQ j f) (Wv j.ord f.pord) (by simp only[go_sem,ff,Yv])) (hk:=?_));rintro R Y h ⟨rfl,rfl,rfl⟩;refine yb ?_;refine Mk 12 u (rows:=(iU (gF z d++d.put)).map Sgd.d) (off:=0) (len:=(gF z d).length+d.put.length) ev ev (by simp[JZ]) Dy ?_;rw[X4,Ye (by simp[JZ])];refine aa nC ?_ (hok:=oS (k:=by first|trivial|(repeat' with_reducible apply And.intro)<;>first|(intros;exact ZnW _ (ZjG o hp A om))|omega));refine aj ?_;rcases p:ak (⟨z.apex,iU (gF z d++d.put)⟩:Zon)with _|_
 .
  have ff:=qA @p ff;have ff:=qA (ZaM (iU (gF z d++d.put))) ff;refine xa ?_ (hok:=oS (k:=o0H));refine xi ?_ ?_ (hq:=rfl)<;>intro F
  . exact ye (K:=3) (k:=o0l)
  first|exact F.elim|(simp at F;done)
 have ff:=qA @p ff;have ff:=qA (ZaM (iU (gF z d++d.put))) ff;refine xa ?_ (hok:=oS (k:=o0H));refine xi ?_ ?_<;>intro F
 . exact ye (K:=3) (k:=o0l)
 refine bM ?_;exact ye (K:=3) (k:=by rw[eY,if_neg g,if_neg n,if_neg (by omega),if_neg (by show ¬(ak (⟨z.apex,iU (gF z d++d.put)⟩:Zon)=false\/aL (⟨z.apex,iU (gF z d++d.put)⟩:Zon)≠d.too);rw[p];grind)];try rfl)
def Zbi{a b:Int}{x:Bool}{e:Int}(h:nT a b=(x,e)):yk 29 [.i a,.i b] (.tuple [.b x,.i e]):=by have:=Zbj a b;rwa [h]at this
def ZnR{a b:Zon}{x:aM}{e:Int}(h:lJ a b=(x,e)):yk 19 [.agg a.d,.agg b.d] (.tuple [.agg x.d,.i e]):=by have:=Zbr a b;rwa [h]at this
def Zod{z:Zon}{d:aM}{x:Zon}{e:Int}(hp:cZ d.put)(h:eY z d=(x,e)):yk 79 [.agg z.d,.agg d.d] (.tuple [.agg x.d,.i e]):=by have:=QS z d hp;rwa [h]at this
@[go_sem]theorem ZfY{l:List Sgd}{x:Sgd}:(l++[x]).map Sgd.d=l.map Sgd.d++[[.v (.string (bs x.set.name)),.i x.set.ty,.i x.set.life,.l (x.set.data.map Dat.d),.l (x.sigs.map RSig.d)]]:=by simp[Sgd.d]
@[go_sem]theorem ZlG{l:List Int}{x:Int}:(l++[x]).map kK=l.map kK++[[.i x]]:=by simp[kK]
@[go_sem]theorem Zny{l:List aM}{x:aM}:(l++[x]).map aM.d=l.map aM.d++[[.v (.string (bs x.apex)),.i x.frm,.i x.too,.l (x.drop.map Qst.d),.l (x.put.map Sgd.d)]]:=by simp[aM.d]
def Mv(d:aM):yk 151 [.agg d.d,.agg d.d] (.tuple [.agg (uj d d).1.d,.i (uj d d).2]):=by
 refine oO func151 λff=>?_;unfold f151;refine xa ?_;refine aj ?_;rcases m:fO d with _|_
 .
  have A:=XH m;have ff:=qB @A @m ff;refine xp (λw=>?_) (λw=>?_) (hok:=oS (k:=o0r)) (hq:=rfl)
  . exact yi (K:=3)
  simp at w
 have A:=XG m;have c:=Ap.1 m;have N:(d.too != d.frm)=true:=by simpa using Rn c.bef c.too
 have ff:=qD @A @m @N ff;refine xp (λw=>?_) (λw=>?_) (hok:=oS (k:=o0r)) (hq:=rfl)
 . simp at w
 refine bM ?_;refine aj ?_;refine xp (λI=>?_) (λI=>?_) (hok:=oS (k:=by first|done|(simp;done)|(repeat' (with_reducible apply And.intro))<;>first|(intro h;simp at h;done)|(simp;done))) (hq:=rfl)
 . exact yi (K:=3)
 simp at I
def SY(z:Zon):yk 108 [.agg z.d] (.b (DC z)):=by refine oO func108 λff=>?_;unfold f108;refine xa ?_;exact ye (k:=by rw[Zjp])
def Zek(d:aM)(hp:cZ d.put):yk 190 [.agg d.d] (.b (fO d)):=by
 refine oO func190 λff=>?_;unfold f190;refine xa ?_;rcases m:fO d with _|_
 . have A:=XH m;have ff:=qB @A @m ff;refine xa ?_ (hok:=oV (Mv d));exact yi
 have A:=XG m;have ff:=qB @A @m ff;refine xa ?_ (hok:=oV (Mv d));exact yi
def SH(s:gD):yk 44 [.agg s.d] (.b (mG s)):=by
 refine oO func44 λff=>?_;unfold f44;refine xa ?_;refine xf ?_ ?_<;>intro w
 . exact ye (k:=by simp only[mG];grind)
 refine xf ?_ ?_<;>intro I
 . exact ye (hok:=oF (vw _)) (k:=by simp only[mG];grind)
 exact ye (hok:=oF (SY _)) (k:=by simp only[mG];grind)
def Zea(o:Off)(a : ∀i,i<o.deltas.length->cZ o.deltas[i]!.put):yk 113 [.agg o.d] (.b (kR o)):=by
 refine oO func113 λff=>?_;unfold f113;refine xa ?_;refine xf ?_ ?_<;>intro w
 . exact ye (hok:=oH vw) (k:=by rw[kR,if_pos (by grind),intq])
 refine xf ?_ ?_ (hok:=oH SY)<;>intro I
 . exact ye (k:=by simp only[kR];grind)
 have h:o.full=false:=by grind
 have j:o.deltas.length<=20000:=by grind
 refine xj ?_;refine lq (Nat×Nat) [1,27,28] (λ⟨k,Z⟩=>(k<=o.deltas.length/\ax o.deltas.length (yE o) 0=ax o.deltas.length (yE o) k/\0<Z,o.deltas.length-k,[(29,.i k)],[(0,⟨116,[o.d]⟩)],Z)) (0,_) ?_;rintro⟨k,Z⟩ ⟨X,u,E⟩;simp only[XX,XZ];have ff:=qA @E ff;refine xo ?_ ?_<;>intro m
 .
  have U:k<o.deltas.length:=by simpa using m
  have f:k-1<o.deltas.length:=by omega
  have y:((k:Int)-1).toNat=k-1:=by omega
  have ff:=qD (LH U) (LH f) @y ff;refine wB ?_;refine xa ?_;refine xf ?_ ?_ (hok:=oH (Zek o.deltas[k]! (a k U)))<;>intro c
  . exact ye (k:=o0S)
  refine xi ?_ ?_ (hok:=oS (k:=by exact ok0))<;>intro n
  . exact ye (k:=o0S)
  refine xl ?_;have T:(yE o) k=true:=by simp only[yE];grind
  exact ah (k+1,_) (h1:=⟨iv,o2D,iv⟩)
 refine aB ?_;exact ye (k:=by simp only[kR];rw[u,gB (by omega)];grind)
def Zei(o:Off):yk 114 [.agg o.d] (.tuple [.v (.string (bs (ql o).1)),.b (ql o).2]):=by
 refine oO func114 λff=>?_;unfold f114;refine xa ?_;refine xf ?_ ?_<;>intro w
 . exact ye (K:=1) (k:=by simp only[ql];rw[if_pos (by grind)];try rfl)
 refine xf ?_ ?_<;>intro I
 .
  have p:0<o.deltas.length:=by omega
  have ff:=qA (LH p) ff;exact ye (K:=1) (k:=by simp only[ql];rw[if_neg (by grind),if_pos (by omega)];try rfl)
 exact ye (K:=1) (k:=by simp only[ql];rw[if_neg (by grind),if_neg (by omega)];try rfl)
def Zef(a:Sgd)(b:Sgd)(m:sK a):yk 261 [.agg a.d,.agg b.d] (.b (lT a b)):=by refine oO func261 λff=>?_;unfold f261;refine xa ?_;exact ye (hok:=oS (k:=o0z)) (k:=by rw[<-ZgS])
def Zeq(a:List Sgd)(b:List Sgd)(h:cZ a):yk 138 [.l (a.map Sgd.d),.l (b.map Sgd.d),.fn (.func 261) [] []] (.b (rJ a b)):=by
 refine oO func138 λff=>?_;unfold f138;have f:=h.1;refine xa ?_;refine xf ?_ ?_<;>intro w
 . exact ye (k:=by rw[Ud (by omega)])
 have c:a.length=b.length:=by omega
 refine xj ?_;refine lq (Nat×Nat) [1,2,15,16] (λ⟨k,Z⟩=>(k<=a.length/\(∀i,i<k->lT a[i]! b[i]! = true),a.length-k,[(17,.i k)],[],Z)) (0,_) ?_ (hA:=⟨iv,o1J⟩);rintro⟨k,Z⟩ ⟨X,u⟩;simp only[XX,XZ];refine xo ?_ ?_<;>intro I
 .
  have U:k<a.length:=by simpa using I
  have v:k<b.length:=by omega
  have ff:=qB (bN U) (bN v) ff;refine wB ?_;refine xv ?_;refine xi ?_ ?_ (hok:=oH (Zef a[k]! b[k]! (h.2 k U)))<;>intro g
  . exact ye (k:=by rw[Uh (k:=k) (by grind)])
  have N:lT a[k]! b[k]! = true:=by grind
  refine xl ?_;exact ah (k+1,_) (h1:=⟨iv,(by(try dsimp only);intro i hi;by_cases e:i=k;subst e;exact N;exact u i om)⟩)
 refine aB ?_;exact ye (k:=by rw[Uc c λi hi=>u i (by omega)])
def Zee(a:Zon)(b:Zon)(c:cZ a.sets):yk 191 [.agg a.d,.agg b.d] (.b (nJ a b)):=by refine oO func191 λff=>?_;unfold f191;refine xa ?_;exact ye (hok:=oH (Zeq a.sets b.sets c)) (k:=by rw[<-ZcP])
def Zem(s:gD)(z:Zon)(hs:s.has=true->ak s.zone=true)(hz:ak z=true):yk 115 [.agg s.d,.agg z.d] (.i (sJ s z)):=by
 refine oO func115 λff=>?_;unfold f115;refine xa ?_;refine xf ?_ ?_<;>intro w
 . exact ye (k:=by simp[sJ,w])
 have p:s.has=true:=by grind
 have E:=hs p;have f:nT (aL s.zone) (aL z)=(gX (aL s.zone) (aL z),0):=by unfold nT;rw[A7 E,A7 hz];rfl
 have ff:=qD @E @hz @f ff;refine xa ?_ (hok:=oF (p9 E));refine xa ?_ (hok:=oF (p9 hz));refine xf ?_ ?_<;>intro I
 .
  refine xf ?_ ?_ (hok:=oF (Zee s.zone z (rA E)))<;>intro a
  . exact ye (k:=by rw[ZmB p (by grind) (by simp only[nJ]at a;grind)])
  exact ye (k:=by rw[Zmy p (by simp only[nJ]at a;grind)])
 refine aj ?_;refine xa ?_ (hok:=oF (Zbi f));refine xi ?_ ?_<;>intro c
 . exact ye (k:=by rw[Zmz p (by grind) (by grind)])
 refine bM ?_;exact ye (k:=by rw[ZmA p (by grind)])
def Zet(s:Sgd)(hs:sK s):yk 189 [.agg s.d] (.agg s.d):=by refine oO func189 λff=>?_;unfold f189;refine xa ?_;refine xa ?_ (hok:=oS (k:=o2X));refine xa ?_ (hok:=oS (k:=o2Y));exact yi (K:=2)
def Zer(l:List Sgd)(h:cZ l):yk 188 [.l (l.map Sgd.d),.fn (.func 189) [] []] (.l (l.map Sgd.d)):=by
 refine oO func188 λff=>?_;unfold f188;have f:=h.1;refine xv ?_;refine aj ?_;refine wu 5 56 o3h o3h ?_;refine xa ?_;refine dK ?_;refine lq (Nat×Nat×Nat) [1,8,9] (λ⟨k,r,Z⟩=>(k<=l.length/\r<Z,l.length-k,[(5,.mrow r 0 (l.take k).length),(10,.i k)],[(r,⟨56,(l.take k).map Sgd.d⟩)],Z)) (0,2,_) ?_;rintro⟨k,r,Z⟩ ⟨X,O⟩;simp only[XX,XZ];have a:(l.take k).length=k:=by rw[YO];omega
 have ff:=qA a ff;have ff:=qA @O ff;refine xo ?_ ?_<;>intro w
 .
  have U:k<l.length:=by simpa using w
  have ff:=qA (bN U) ff;refine wB ?_;refine xa ?_;refine xb ?_ (hok:=oS (k:=by first|trivial|(repeat' with_reducible apply And.intro)<;>first|(intros;exact Zet l[k]! (h.2 k U))|omega|(simp;omega)));refine xb ?_;have B:(l.take (k+1)).map Sgd.d=(l.take k).map Sgd.d++[[.v (.string (bs l[k]!.set.name)),.i l[k]!.set.ty,.i l[k]!.set.life,.l (l[k]!.set.data.map Dat.d),.l (l[k]!.sigs.map RSig.d)]]:=by rw[nE! U,ZfY]
  have c:(l.take (k+1)).length=k+1:=by rw[YO];omega
  have ff:=qB B c ff;exact ah (k+1,(Z+10),_)
 refine aB ?_;have g:k=l.length:=by have V : ¬(k:Int)<l.length:=(by simpa using w);omega
 subst g;exact ye (K:=1) (k:=o0V)
def Nl(z:Zon)(a:cZ z.sets):yk 112 [.agg z.d] (.agg z.d):=by refine oO func112 λff=>?_;unfold f112;refine xa ?_;exact ft nC (K:=2) (hok:=oH (Zer z.sets a))
def Zec(z:Zon)(hz:ak z=true):yk 187 [.agg z.d] (.i (aL z)):=by refine oO func187 λff=>?_;unfold f187;have ff:=qA @hz ff;refine xa ?_;refine xa ?_ (hok:=oF (p9 hz));exact yi
def Zes(l:List Zon)(h:l.length<=1000000)(hz : ∀i,i<l.length->ak l[i]! = true):yk 186 [.l (l.map Zon.d),.fn (.func 187) [] []] (.l ((l.map aL).map kK)):=by
 refine oO func186 λff=>?_;unfold f186;refine xv ?_;refine aj ?_;refine wu 5 3 o3h o3h ?_;refine xa ?_;refine dK ?_;refine lq (Nat×Nat×Nat) [1,8,9] (λ⟨k,r,Z⟩=>(k<=l.length/\r<Z,l.length-k,[(5,.mrow r 0 (l.take k).length),(10,.i k)],[(r,⟨3,((l.take k).map aL).map kK⟩)],Z)) (0,2,_) ?_;rintro⟨k,r,Z⟩ ⟨X,O⟩;simp only[XX,XZ];have a:(l.take k).length=k:=by rw[YO];omega
 have ff:=qA a ff;have ff:=qA @O ff;refine xo ?_ ?_<;>intro w
 .
  have U:k<l.length:=by simpa using w
  have ff:=qA (yS U) ff;refine wB ?_;refine xa ?_;refine xb ?_ (hok:=oS (k:=by first|trivial|(repeat' with_reducible apply And.intro)<;>first|(intros;exact Zec l[k]! (hz k U))|omega|(simp;omega)));refine xb ?_;have B:((l.take (k+1)).map aL).map kK=((l.take k).map aL).map kK++[[.i (aL l[k]!)]]:=by rw[nE! U,Yv];exact ZlG
  have c:(l.take (k+1)).length=k+1:=by rw[YO];omega
  have ff:=qB B c ff;exact ah (k+1,(Z+10),_)
 refine aB ?_;have f:k=l.length:=by have V : ¬(k:Int)<l.length:=(by simpa using w);omega
 subst f;have ff:=qA (show(List.map kK (List.map aL l)).take l.length=List.map kK (List.map aL l)from Ye (by simp)) ff;exact ye (K:=1) (k:=o0V)
open Go.Jn
def Zcf:fE prog 281=true:=by kernel_rfl
theorem Zix(ce:Nat)(h:H)(n:Nat):AP prog 281 [.mptr ce 0 0] h n .returning .returning (λI a=>(∀q,q<n->I q=h q)/\n<=a):=by
 refine Ey (d:=.v .nilIface) (v:=.nilIface) func281 rfl Zcf (by simp[f281]) (dP rfl) rfl rfl (by decide) (.inl ⟨rfl,rfl,rfl⟩) (λ_ _=>.v _) (λo=>?_);have ff:=True.intro;refine Kh (C:=De) 1 (d:=.v .nilIface) (r:=.tuple [.v .nilIface,.b false]) (λw=>Zcp underlying221 rfl rfl w) (λw g q K=>by cases K;rfl) (λw g=>?_) om (dP rfl) rfl rfl o1c trivial (by rfl) o3h ?_
 .
  exact .tuple _ _ rfl (λi d x J Y=>by
   match i with
   | 0=>cases J;cases Y;exact .v _
   | 1=>cases J;cases Y;exact .v _
   | i+2=>simp at J)
 refine xF ?_;try simp only[aH]
 refine xi ?_ ?_<;>intro c
 . simp at c
 refine bM ?_;refine⟨(by trivial),h,_,?_,Nat.le_refl _,λq K=>rfl,by dsimp only;omega⟩;intro r;dsimp only;first
 | exact .inl rfl
 | exact(Decidable.em (r<n)).elim (λe=>by left;simp only[upd];repeat (first|rfl|rw[XV (by omega)])) λe=>by right;exact o r (by omega)
theorem Vv(ce:Nat)(h:H)(n:Nat)(c:D)(f:h ce=some ⟨221,[[c]]⟩)(j:ce<n):AP prog 281 [.mptr ce 0 0] h n (.panicking wO) (.panicking [{ v:=kE iQ,recovered:=true }]) (λI m=>I ce=some ⟨221,[[.v (kE iQ)]]⟩/\n<=m /\ ∀q,q<n->q≠ce->I q=h q):=by
 refine Ey (d:=.v (kE iQ)) (v:=kE iQ) func281 rfl Zcf (by simp[f281]) (dP rfl) rfl rfl (by decide) (.inr ⟨rfl,rfl⟩) (λw g=>.v _) (λo=>?_);have a : ∀k,(ce=n+k)=False:=λk=>YS om;have p : ∀k,(n+k=ce)=False:=λk=>YS om;have ff:=qB f a p;refine Kh (C:=De) 1 (d:=.v (kE iQ)) (r:=.tuple [.v (kE iQ),.b true]) (λw=>Go.run_typeAssert_hasB underlying221 (by kernel_rfl) _ _ w) (λw g q K=>by cases K;rfl) (λw g=>?_) om (dP rfl) rfl rfl o1c trivial (by rfl) o3h ?_
 .
  exact .tuple _ _ rfl (λi d x J Y=>by
   match i with
   | 0=>cases J;cases Y;exact .v _
   | 1=>cases J;cases Y;exact .v _
   | i+2=>simp at J)
 refine xF ?_;try simp only[aH]
 refine xi ?_ ?_<;>intro t
 .
  refine xb ?_ (hok:=o1P);refine⟨(by trivial),_,_,λ_=>.inl rfl,Nat.le_refl _,?_,by dsimp only;omega,λq B W=>?_⟩
  . dsimp only;simp only[upd];repeat (first|rfl|rw[if_neg (by omega)]|rw[if_pos rfl])
  dsimp only;simp only[upd];repeat (first|rfl|rw[if_neg W]|rw[if_neg (by omega)])
 simp at t
def Zce:fE prog 286=true:=by kernel_rfl
theorem Ziy(ce:Nat)(h:H)(n:Nat):AP prog 286 [.mptr ce 0 0] h n .returning .returning (λI a=>(∀q,q<n->I q=h q)/\n<=a):=by
 refine Ey (d:=.v .nilIface) (v:=.nilIface) func286 rfl Zce (by simp[f286]) (dP rfl) rfl rfl (by decide) (.inl ⟨rfl,rfl,rfl⟩) (λ_ _=>.v _) (λo=>?_);have ff:=True.intro;refine Kh (C:=De) 1 (d:=.v .nilIface) (r:=.tuple [.v .nilIface,.b false]) (λw=>Zcp underlying221 rfl rfl w) (λw g q K=>by cases K;rfl) (λw g=>?_) om (dP rfl) rfl rfl o1c trivial (by rfl) o3h ?_
 .
  exact .tuple _ _ rfl (λi d x J Y=>by
   match i with
   | 0=>cases J;cases Y;exact .v _
   | 1=>cases J;cases Y;exact .v _
   | i+2=>simp at J)
 refine xF ?_;try simp only[aH]
 refine xi ?_ ?_<;>intro c
 . simp at c
 refine bM ?_;refine⟨(by trivial),h,_,?_,Nat.le_refl _,λq K=>rfl,by dsimp only;omega⟩;intro r;dsimp only;first
 | exact .inl rfl
 | exact(Decidable.em (r<n)).elim (λe=>by left;simp only[upd];repeat (first|rfl|rw[XV (by omega)])) λe=>by right;exact o r (by omega)
theorem Vx(ce:Nat)(h:H)(n:Nat)(c:D)(f:h ce=some ⟨221,[[c]]⟩)(j:ce<n):AP prog 286 [.mptr ce 0 0] h n (.panicking wO) (.panicking [{ v:=kE iQ,recovered:=true }]) (λI m=>I ce=some ⟨221,[[.v (kE iQ)]]⟩/\n<=m /\ ∀q,q<n->q≠ce->I q=h q):=by
 refine Ey (d:=.v (kE iQ)) (v:=kE iQ) func286 rfl Zce (by simp[f286]) (dP rfl) rfl rfl (by decide) (.inr ⟨rfl,rfl⟩) (λw g=>.v _) (λo=>?_);have a : ∀k,(ce=n+k)=False:=λk=>YS om;have p : ∀k,(n+k=ce)=False:=λk=>YS om;have ff:=qB f a p;refine Kh (C:=De) 1 (d:=.v (kE iQ)) (r:=.tuple [.v (kE iQ),.b true]) (λw=>Go.run_typeAssert_hasB underlying221 (by kernel_rfl) _ _ w) (λw g q K=>by cases K;rfl) (λw g=>?_) om (dP rfl) rfl rfl o1c trivial (by rfl) o3h ?_
 .
  exact .tuple _ _ rfl (λi d x J Y=>by
   match i with
   | 0=>cases J;cases Y;exact .v _
   | 1=>cases J;cases Y;exact .v _
   | i+2=>simp at J)
 refine xF ?_;try simp only[aH]
 refine xi ?_ ?_<;>intro t
 .
  refine xb ?_ (hok:=o1P);refine⟨(by trivial),_,_,λ_=>.inl rfl,Nat.le_refl _,?_,by dsimp only;omega,λq B W=>?_⟩
  . dsimp only;simp only[upd];repeat (first|rfl|rw[if_neg (by omega)]|rw[if_pos rfl])
  dsimp only;simp only[upd];repeat (first|rfl|rw[if_neg W]|rw[if_neg (by omega)])
 simp at t
def bo226:fE prog 226=true:=by kernel_rfl
def Zlb(w:Str)(h:H)(n:Nat)(N:w.length<=1000000000):yp 226 [.l (w.map bD),.fn (.func 227) [] []] h n (λd h' X=>d.nr=true/\wk d = .tuple [.agg (yC w).d,.v (F5 (iM (lD (w,false)).2))]):=by
 have ff:=True.intro;refine Ky (C:=De) 1 func226 rfl bo226 (by simp[f226]) o1q ev o2b (dP rfl) rfl rfl o1l o2q o2b o1w ev (λE=>?_);unfold f226;refine xF ?_;try simp only[aH]
 have ff:=qA (nH n (n+1)) ff;refine xa ?_;refine bX ?_;refine je 2 (C:=De) (hct:=by exact Zk4 w _ _ (n+6) ⟨false,ev⟩ N) (hp:=?_) (hk:=?_)
 .
  rintro Z V n9 ⟨rfl,A,z⟩;try dsimp only at z
  have uV:=z.1;have O:V n=some ⟨24,[[.v (.string (bs [])),.e]]⟩:=(z.2 n om om).trans ev;have F:V (n+1)=some ⟨221,[[.v .nilIface]]⟩:=(z.2 (n+1) om om).trans ev;try simp only[iq,iG]
  refine⟨_,_,_,rfl,rfl,Vv (n+1) V _ _ F oW,λJ m⟨c,p,j⟩=>?_⟩;try dsimp only at c p j
  have a:=(j n (by omega) (by omega)).trans O;have ff:=qB a c ff;exact⟨by simp only[go_sem,ff],J,m,λ_=>.inl rfl,XW _,by(try simp only[go_sem,ff]);all_goals (refine⟨by simp[go_sem,D.nr,aX,aQ],?_⟩;(try simp only[go_sem]);rw[yC,X0 A,show iM (lD (w,false)).2=true from by simp[iM,A]];rfl)⟩
 rintro R Y r ⟨T,f,rfl,G,B⟩;try dsimp only at B
 have U:=B.1;let⟨f2,I⟩:=G;have K:Y n=some ⟨24,[[.v (.string (bs [])),.e]]⟩:=(B.2 n om om).trans ev;have L:Y (n+1)=some ⟨221,[[.v .nilIface]]⟩:=(B.2 (n+1) om om).trans ev;have x:(lD (w,false)).2.2=false:=by rw[f]
 have ff:=qH I K L (nH n (n+6)) (nG n r) (nG (n+1) r) (nG (n+6) r) ff;refine xF ?_;try simp only[aH]
 refine xf ?_ ?_<;>intro c1
 .
  refine tF ?_;refine FV De 1 (d:=.v (kE iQ)) (t:=401) (v:=.pointer (some iQ)) ?_ (λw g u W=>W.v_inv);try simp only[iq,iG]
  refine⟨_,_,_,rfl,rfl,Vv (n+1) _ _ (.v .nilIface) ev oW,λJ m⟨c,p,j⟩=>?_⟩;try dsimp only at c p j
  have a:=(j n oW (by omega));simp only[go_sem,ff]at a;have ff:=qB a c ff;exact⟨by simp only[go_sem,ff],J,m,λ_=>.inl rfl,XW _,by(try simp only[go_sem,ff]);all_goals (refine⟨by simp[go_sem,D.nr,aX,aQ],?_⟩;(try simp only[go_sem]);rw[yC,XV (by rw[x];simp),show iM (lD (w,false)).2=true from by rw[f];simp[iM];omega];rfl)⟩
 have M:T=[]:=Yb om;refine xa ?_;refine jb ?_;refine⟨_,_,_,rfl,rfl,Zix (n+1) _ _,λJ m⟨c,p⟩=>?_⟩;try dsimp only at c p j
 have a:=c n oW;have y:=c (n+1) oW;simp only[go_sem,ff]at a y;have ff:=qB a y ff;exact⟨by simp only[go_sem,ff],J,m,λ_=>.inl rfl,XW _,by(try simp only[go_sem,ff]);all_goals (refine⟨by simp[go_sem,D.nr,aX,aQ],?_⟩;(try simp only[go_sem]);rw[yC,XV (by rw[x];simp),show iM (lD (w,false)).2=false from by rw[f,M];rfl];rfl)⟩
def bo229:fE prog 229=true:=by kernel_rfl
def Zld(w:Str)(h:H)(n:Nat)(N:w.length<=1000000000):yp 229 [.l (w.map bD),.fn (.func 230) [] []] h n (λd h' X=>d.nr=true/\wk d = .tuple [.agg (tL w).d,.v (F5 (iM (fU (w,false)).2))]):=by
 have ff:=True.intro;refine Ky (C:=De) 1 func229 rfl bo229 (by simp[f229]) o1q ev o2b (dP rfl) rfl rfl o1l o2q o2b o1w ev (λE=>?_);unfold f229;refine xF ?_;try simp only[aH]
 have ff:=qA (nH n (n+1)) ff;refine xa ?_;refine bX ?_;refine je 2 (C:=De) (hct:=by exact Zlp w _ _ (n+6) ⟨false,ev⟩ N) (hp:=?_) (hk:=?_)
 .
  rintro Z V n9 ⟨rfl,A,z⟩;try dsimp only at z
  have uV:=z.1;have O:V n=some ⟨77,[[.v (.string (bs [])),.i 0,.i 0,.e,.e]]⟩:=(z.2 n om om).trans ev;have F:V (n+1)=some ⟨221,[[.v .nilIface]]⟩:=(z.2 (n+1) om om).trans ev;try simp only[iq,iG]
  refine⟨_,_,_,rfl,rfl,Vx (n+1) V _ _ F oW,λJ m⟨c,p,j⟩=>?_⟩;try dsimp only at c p j
  have a:=(j n (by omega) (by omega)).trans O;have ff:=qB a c ff;exact⟨by simp only[go_sem,ff],J,m,λ_=>.inl rfl,XW _,by(try simp only[go_sem,ff]);all_goals (refine⟨by simp[go_sem,D.nr,aX,aQ],?_⟩;(try simp only[go_sem]);rw[tL,X0 A,show iM (fU (w,false)).2=true from by simp[iM,A]];rfl)⟩
 rintro R Y r ⟨T,f,rfl,G,B⟩;try dsimp only at B
 have U:=B.1;let⟨f2,I⟩:=G;have K:Y n=some ⟨77,[[.v (.string (bs [])),.i 0,.i 0,.e,.e]]⟩:=(B.2 n om om).trans ev;have L:Y (n+1)=some ⟨221,[[.v .nilIface]]⟩:=(B.2 (n+1) om om).trans ev;have x:(fU (w,false)).2.2=false:=by rw[f]
 have ff:=qH I K L (nH n (n+6)) (nG n r) (nG (n+1) r) (nG (n+6) r) ff;refine xF ?_;try simp only[aH]
 refine xf ?_ ?_<;>intro c1
 .
  refine tF ?_;refine FV De 1 (d:=.v (kE iQ)) (t:=401) (v:=.pointer (some iQ)) ?_ (λw g u W=>W.v_inv);try simp only[iq,iG]
  refine⟨_,_,_,rfl,rfl,Vx (n+1) _ _ (.v .nilIface) ev oW,λJ m⟨c,p,j⟩=>?_⟩;try dsimp only at c p j
  have a:=(j n oW (by omega));simp only[go_sem,ff]at a;have ff:=qB a c ff;exact⟨by simp only[go_sem,ff],J,m,λ_=>.inl rfl,XW _,by(try simp only[go_sem,ff]);all_goals (refine⟨by simp[go_sem,D.nr,aX,aQ],?_⟩;(try simp only[go_sem]);rw[tL,XV (by rw[x];simp),show iM (fU (w,false)).2=true from by rw[f];simp[iM];omega];rfl)⟩
 have M:T=[]:=Yb om;refine xa ?_;refine jb ?_;refine⟨_,_,_,rfl,rfl,Ziy (n+1) _ _,λJ m⟨c,p⟩=>?_⟩;try dsimp only at c p j
 have a:=c n oW;have y:=c (n+1) oW;simp only[go_sem,ff]at a y;have ff:=qB a y ff;exact⟨by simp only[go_sem,ff],J,m,λ_=>.inl rfl,XW _,by(try simp only[go_sem,ff]);all_goals (refine⟨by simp[go_sem,D.nr,aX,aQ],?_⟩;(try simp only[go_sem]);rw[tL,XV (by rw[x];simp),show iM (fU (w,false)).2=false from by rw[f,M];rfl];rfl)⟩
def Zlc(w:Str)(a:w.length<=1000000000):yk 226 [.l (w.map bD),.fn (.func 227) [] []] (.tuple [.agg (yC w).d,.v (F5 (iM (lD (w,false)).2))]) :=
 Vl o2Z ((Zlb w _ 0 a).mono λd I g⟨y,O⟩=>⟨0,y,O⟩)
def Zle(w:Str)(a:w.length<=1000000000):yk 229 [.l (w.map bD),.fn (.func 230) [] []] (.tuple [.agg (tL w).d,.v (F5 (iM (fU (w,false)).2))]) :=
 Vl o2Z ((Zld w _ 0 a).mono λd I g⟨y,O⟩=>⟨0,y,O⟩)
theorem EQ{k:Nat}{x:Str}(h:k<=x.length):au k (x,false)=(gU (x.take k),(x.drop k,false)):=by unfold au;rw[take_ok rfl h]
def LM{k:Nat}{b:Str}(h : ∀m,21+m<=b.length -> ¬isF k m b):bU k b=(0,[]):=by
 rcases Qf k b with e|⟨m,J,Y,_⟩
 . exact e
 exact absurd Y (h m J)
attribute [local irreducible] dig gU
def GG:Code->Code
 | .seq _ b=>b
 | c=>c
def Qe:Code->Code
 | .seq a _=>a
 | c=>c
def VN:Code->Array Oper
 | .region _ ops _=>ops
 | _=>#[]
noncomputable def CO:Array Oper:=VN (Qe (Qe (GG (GG (GG (GG (f225.body.getD .skip)))))))
def SA(w:Str)(t:Nat->D)(h:H)(a u r nx:Nat)(g:Bool)(e:Env)(j:21<=w.length)(v:w.length<=1000000000)
  (h1:t 1 = .l (w.map bD))(k:t 7 = .i u)(f:t 27 = .v (.int .u64 a))(m:t 28 = .l (w.map bD))(o:t 29 = .list g ((w.take 5).map bD)) :
  ∃(c:Nat->D)(p:Prop),bu prog (words prog) De CO.toList r 4 ((CO.toList.drop 4).take (11-4)) { n:=50,t:=t,h:=h,nx:=nx,ok:=True,e:=e }={ n:=50,t:=c,h:=h,nx:=nx,ok:=p,e:=e }/\p /\
   c 32 = .b (((a:Nat):Int) != ((dig (w.take 5):Nat):Int))/\c 33 = .cond (!(((a:Nat):Int) != ((dig (w.take 5):Nat):Int))) (.i u)/\c 36 = .cond (!(((a:Nat):Int) != ((dig (w.take 5):Nat):Int))) (.i ((w.length:Int)-21)) /\ ∀i,i<28->c i=t i:=by
 have ff:=qE h1 k f m o;unfold CO f225;simp only[YV,GG,Qe,VN];refine⟨_,_,by simp only[X9,X4,X5,Yf,Yq,Nat.reduceSub,Nat.reduceAdd,go_sem,ff];exact rfl,?_,?_,?_,?_,λi hi=>?_⟩
 .
  (try simp only[go_sem,ff])
  exact⟨Lj _ (by rw[YO];omega),λ_=>by omega⟩
 . simp only[go_sem,ff]
 . simp only[go_sem,ff]
 . simp only[go_sem,ff]
 simp only[upd];repeat rw[XV (by omega)]
def ZdS(w:Str)(t:Nat->D)(h:H)(a u r nx:Nat)(g:Bool)(e:Env)(c:21<=w.length)(j:w.length<=1000000000)
  (h1:t 1 = .l (w.map bD))(k:t 7 = .i u)(f:t 27 = .v (.int .u64 a))(m:t 28 = .l (w.map bD))(o:t 29 = .list g ((w.take 5).map bD)) :
  (bu prog (words prog) De CO.toList r 4 ((CO.toList.drop 4).take (11-4)) { n:=50,t:=t,h:=h,nx:=nx,ok:=True,e:=e }).ok:=by
 let⟨v,p,J,F,_⟩:=SA w t h a u r nx g e c j h1 k f m o;rw[J];exact F
def ZdR{ro:Option Nat}{ops:Array Oper}{k b:Nat}{Q:Exit->S->Prop}(w:Str)(t:Nat->D)(h:H)(a u r nx:Nat)(j:Bool)(e:Env)(f:21<=w.length)(m:w.length<=1000000000)
  (h1:t 1 = .l (w.map bD))(o:t 7 = .i u)(g:t 27 = .v (.int .u64 a))(v:t 28 = .l (w.map bD))(x:t 29 = .list j ((w.take 5).map bD))
  (hk : ∀c:Nat->D,c 32 = .b (((a:Nat):Int) != ((dig (w.take 5):Nat):Int))->c 33 = .cond (!(((a:Nat):Int) != ((dig (w.take 5):Nat):Int))) (.i u)->c 36 = .cond (!(((a:Nat):Int) != ((dig (w.take 5):Nat):Int))) (.i ((w.length:Int)-21))->(∀i,i<28->c i=t i) ->
   aA prog ro ops k b { n:=50,t:=c,h:=h,nx:=nx,ok:=True,e:=e } Q) :
  aA prog ro ops k b (bu prog (words prog) De CO.toList r 4 ((CO.toList.drop 4).take (11-4)) { n:=50,t:=t,h:=h,nx:=nx,ok:=True,e:=e }) Q:=by
 let⟨c,p,J,F,Y,A,y,U⟩:=SA w t h a u r nx j e f m h1 o g v x;rw[J];exact Ut (hk c Y A y U)
def XC(k:UInt8)(w:Str)(hw:w.length<=1000000000):yk 225 [.v (.int .u8 ((k).toNat:Int)),.l (w.map bD)] (.tuple [.l ((bU k.toNat w).2.map bD),.i (bU k.toNat w).1]):=by
 refine oO func225 λff=>?_;unfold f225;have b8:=k.toNat_lt;refine xa ?_;refine aj ?_;by_cases j:21<=w.length
 .
  have h0:0<w.length:=by omega
  have B:(w.map bD).drop 1=(w.drop 1).map bD:=List.map_drop.symm;have E:(w.map bD).take 5=(w.take 5).map bD:=ZJ.symm;have G:((1:Int)).toNat=1:=rfl;have IB:((5:Int)).toNat=5:=rfl;have L:(w.drop 1).length<=1000000000:=by rw[Yw];omega
  have ff:=qF (IL (n:=0) h0) @B @E @G @IB ff;refine xi ?_ ?_<;>intro c1
  .
   have g:bU k.toNat w=(0,[]):=LM λm v a=>by have:=a.1;omega
   exact ye (K:=1) (k:=by rw[g];rfl)
  have M:(w.getD 0 0).toNat=k.toNat:=by omega
  refine bM ?_;refine xa ?_;refine bX ?_;refine je 1 (C:=De) (hct:=by exact Lh (w.drop 1) _ _ 15 ⟨_,ev⟩ L) (hp:=?_) (hk:=?_)
  . rintro N V O ⟨rfl,A,W⟩;exfalso;have A:(au ((4:Nat):Int) (w.drop 1,false)).2.2=true:=A;rw[EQ o3v]at A;cases A
  rintro f h4 n4 ⟨x4,vS,rfl,Z,iO⟩;try dsimp only at iO
  have b9:=iO.1;let⟨f4,vU⟩:=Z;have h:au 4 (w.drop 1,false)=(gU ((w.drop 1).take 4),((w.drop 1).drop 4,false)):=EQ (k:=4) o3v;rw[h]at vS;obtain rfl:(w.drop 1).drop 4=x4:=congrArg Prod.fst vS;rw[ZO]at vU;have FM:gU ((w.drop 1).take 4)<256^4:=by have:=Dn 4 (w.drop 1,false);rw[show au ((4:Nat):Int) (w.drop 1,false)=_ from h]at this;exact this
  rw[h];obtain⟨u,o⟩:∃u,u=gU ((w.drop 1).take 4):=⟨_,rfl⟩;try rw[<-o]
  rw[<-o]at FM;have y:=Px (u:=u) (by omega);have ff:=qD vU y (nG 15 n4) ff;have ab:(w.drop (1+4)).length<=1000000000:=by rw[Yw];omega
  refine xF ?_;try simp only[aH]
  refine aj ?_;refine aj ?_;refine dr1M De 1 4 11 [(3,28)] (R:=_) (X:=_) (hct:=by exact zY (w.drop (1+4)) _ _ 15 ⟨_,ev⟩ ab) (hkeep:=?kp26) (BX:=?fo26) (hk:=?kk26) (hp:=?pp26)
  case kp26 =>
   intro f Y r _ p F r9 t;simp only[Yk]at F;subst F;simp only[go_sem,ff,sd,named]at t;first|cases t|skip
  case fo26 =>
   rintro f Y r ⟨_,_,rfl,_,_⟩;exact ZdS w _ Y _ u r _ _ _ j hw rfl rfl rfl rfl rfl
  case pp26 =>
   rintro N V O ⟨rfl,A,W⟩ t9;exfalso;have A:(au ((8:Nat):Int) (w.drop (1+4),false)).2.2=true:=A;rw[EQ o3v]at A;cases A
  rintro f U n5 ⟨x5,qK,rfl,ac,fM⟩;try dsimp only at fM
  have bb:=fM.1;let⟨f5,xL⟩:=ac;have x:au 8 (w.drop (1+4),false)=(gU ((w.drop (1+4)).take 8),((w.drop (1+4)).drop 8,false)):=EQ (k:=8) o3v;rw[x]at qK;obtain rfl:(w.drop (1+4)).drop 8=x5:=congrArg Prod.fst qK;rw[ZO]at xL;rw[x];refine ZdR w _ U _ u n5 _ _ _ j hw rfl rfl rfl rfl rfl ?_;intro t9 am aq ar c;have l1:=(c 1 (by omega)).trans rfl;have l6:t9 6 = .mptr 15 0 0:=(c 6 om).trans rfl;have l7:t9 7 = .i u:=(c 7 om).trans rfl;have l1:t9 1 = .l (w.map bD):=(c 1 om).trans rfl;have ff:=qI xL am aq ar l1 l6 l7 (nG 15 n5) ff;refine xF ?_;try simp only[aH]
  refine ce ?_ ?_ (hq:=rfl)<;>intro I
  .
   have g:bU k.toNat w=(0,[]):=LM λm v a=>by have J:=a.2.1;have Y:=a.2.2.1;simp at I;omega
   exact ye (K:=1) (k:=by rw[g];rfl)
  have aw:gU ((w.drop 5).take 8)=dig (w.take 5)/\u+21<=w.length:=by simp at I;omega
  refine bM ?_;refine bX ?_;refine je 2 (C:=De) (hct:=by exact Lf (w.drop (1+4+8)) u _ _ 15 ⟨_,ev⟩ o3v (by omega)) (hp:=?_) (hk:=?_)
  . rintro N V O ⟨rfl,A,W⟩;exfalso;rw[take_ok rfl o2h]at A;cases A
  rintro f h7 n7 ⟨x7,Ii,⟨f7,rfl⟩,xJ,jU⟩;try dsimp only at jU
  have be:=jU.1;let⟨g7,vT⟩:=xJ;have z:cB u (w.drop (1+4+8),false)=((w.drop (1+4+8)).take u,((w.drop (1+4+8)).drop u,false)):=take_ok rfl o2h;rw[z]at Ii;obtain rfl:(w.drop (1+4+8)).drop u=x7:=congrArg Prod.fst Ii;rw[ZO]at vT;rw[z];have ff:=qB vT (nG 15 n7) ff;refine xF ?_;try simp only[aH]
  refine aj ?_;refine bX ?_;refine je 1 (C:=De) (hct:=by exact zY (w.drop (1+4+8+u)) _ _ 15 ⟨_,ev⟩ o3v) (hp:=?_) (hk:=?_)
  . rintro N V O ⟨rfl,A,W⟩;exfalso;have A:(au ((8:Nat):Int) (w.drop (1+4+8+u),false)).2.2=true:=A;rw[EQ o3v]at A;cases A
  rintro f T n8 ⟨x8,mQ,rfl,yO,ik⟩;have b7:au 8 (w.drop (1+4+8+u),false)=(gU ((w.drop (1+4+8+u)).take 8),((w.drop (1+4+8+u)).drop 8,false)):=EQ (k:=8) o3v;rw[b7];refine xF ?_ (hok:=oS (k:=by exact Lj _ (by rw[YO,Yw];omega)));try simp only[aH]
  refine cd ?_ ?_<;>intro c3
  .
   have g:bU k.toNat w=(0,[]):=LM λm v a=>by have J:=a.2.1;have Y:=a.2.2.2;rw[show m=u by omega]at Y;omega
   exact ye (K:=1) (k:=by rw[g];rfl)
  have hF:bU k.toNat w=(21+u,(w.drop 13).take u):=ZaB.2 ⟨om,⟨M,om,aw.1,om⟩,rfl⟩;refine bM ?_;exact ye (K:=1) (k:=by rw[hF];rfl)
 refine xp ?_ ?_ (hq:=rfl)<;>intro c1
 .
  have g:bU k.toNat w=(0,[]):=LM λm v _=>by omega
  exact ye (K:=1) (k:=by rw[g];rfl)
 exfalso;simp at c1;omega
def Zk9(w:Str)(a:w.length<=1000000000):yk 225 [.v (.int .u8 1),.l (w.map bD)] (.tuple [.l ((bU 1 w).2.map bD),.i (bU 1 w).1]):=XC 1 w a
def Zk8(w:Str)(a:w.length<=1000000000):yk 225 [.v (.int .u8 2),.l (w.map bD)] (.tuple [.l ((bU 2 w).2.map bD),.i (bU 2 w).1]):=XC 2 w a
def Zlk(c:eT)(w:Str)(u:w.length<=1000000):yk 150 [.agg c.d,.l (w.map bD)] (.tuple [.agg (nextF c w).1.d,.i (nextF c w).2]):=by
 refine oO func150 λff=>?_;unfold f150;have o:=Zay 1 w;have p:=Zay 2 w;have ff:=qE (show(UInt8.ofNat 1).toNat=1 from rfl) (show(UInt8.ofNat 2).toNat=2 from rfl) (show dQ.apex=[]from rfl) (show dQ.sets=[]from rfl) ff;rcases c with _|z0
 .
  refine xa ?_;refine aj ?_;refine xi ?_ ?_ (hq:=rfl)<;>intro h
  .
   refine xa ?_ (hok:=oF (Zk9 w om));refine aj (ya 1 (hct:=by exact(Zlc (bU 1 w).2 om).rct _ _) (hk:=?_));rintro R Y r ⟨rfl,rfl,j⟩;refine yb ?_;refine xf ?_ ?_ (hok:=oI XL vw)<;>intro I
   . have f:=Zjx (w:=w) (by grind);exact ye (K:=2) (k:=o2N)
   have m:=Zjw (w:=w) (by grind) (by grind) (by grind);exact ye (K:=2) (k:=by rw[m];first|rfl|(simp;done))
  simp at h
 refine xa ?_;refine xr ?_ ?_<;>intro h
 . simp at h
 refine xa ?_ (hok:=oF (Zk8 w om));refine xf ?_ ?_<;>intro a
 . have f:=ZjC (z:=z0) (w:=w) (by grind);exact ye (K:=2) (k:=o2N)
 refine aj (ya 1 (hct:=by exact(Zle (bU 2 w).2 om).rct _ _) (hk:=?_));rintro R Y r ⟨rfl,rfl,j⟩;refine yb ?_;refine xf ?_ ?_ (hok:=oF (XL _))<;>intro g
 . have f:=ZjA (z:=z0) (w:=w) g;exact ye (K:=2) (k:=o2N)
 have t:=Zij (w:=(bU 2 w).2) (by omega) g;refine xa ?_ (hok:=oF (QS z0 (tL (bU 2 w).2) t));refine xf ?_ ?_<;>intro n
 . have f:=ZjB (z:=z0) g n;exact ye (K:=2) (k:=o2N)
 have m:=Zjz (z:=z0) (by omega) g n;exact ye (K:=2) (k:=by rw[m];first|rfl|(simp;done))
def Li{c a:eT}{w:Str}{n:Nat}(f:w.length<=1000000)(h:nextF c w=(a,n)):yk 150 [.agg c.d,.l (w.map bD)] (.tuple [.agg a.d,.i n]):=by have:=Zlk c w f;rwa [h]at this
def Zk7(w:Str)(x:w.length<=1000000):yk 149 [.l (w.map bD)] (.tuple [.agg (mq w).d,.i (rD (qP w))]):=by
 refine oO func149 λff=>?_;unfold f149;have o:(none:eT).isSome=false:=rfl;have p:((none:eT).getD dQ).apex=[]:=rfl;have z3:((none:eT).getD dQ).sets=[]:=rfl;have ff:=qF @o @p @z3 (show dQ.apex=[]from rfl) (show dQ.sets=[]from rfl) ff;refine oD De ?_;refine dK ?_;refine lq (Nat×eT×Bool×Nat) [0,2,4] (λ⟨a,c,f,Z⟩=>(Jw w a c/\2<Z,w.length-a,[(5,.i a)],[(0,⟨152,[[.v (.bool false),.v (.string (bs [])),.e]]⟩),(2,⟨152,[[.v (.bool (c).isSome),.v (.string (bs ((c).getD dQ).apex)),.list f (((c).getD dQ).sets.map Sgd.d)]]⟩)],Z)) (0,none,true,_) ?_ (hA:=⟨(Zbg w),oW⟩);rintro⟨a,c,f,Z⟩ ⟨m,E⟩;simp only[XX,XZ];have z:=m.1;have r:0<Z:=by omega
 have g:(w.map bD).drop a=(w.drop a).map bD:=List.map_drop.symm;have ff:=qD @g @E @r ff;refine dK ?_;rcases Wt c (w.drop a)with⟨T,V⟩|⟨y,n,T,V,t,h⟩
 .
  have ff:=qA @V ff;refine aa nC ?_ (hok:=oH (Li o3v V));refine aj ?_;refine xp ?_ ?_ (hq:=rfl)<;>intro j
  . exact ye (K:=2) (k:=by let⟨B,W⟩:=Znu m T;rw[B,W])
  simp at j
 have u:a+n<=w.length:=by rw[Yw]at h;omega
 have ff:=qA @V ff;refine aa nC ?_ (hok:=oH (Li o3v V));refine xr ?_ ?_ (hq:=rfl)<;>intro j
 . exfalso;simp at j;omega
 refine xb ?_;have v:((a+n:Nat):Int)=(a:Int)+(n:Int):=by omega
 have ff:=qA v ff;exact ah (a+n,some y,false,_) (h1:=⟨(Zbf m T),oW⟩) (h2:=by show(_:Nat)<_;(try dsimp only);omega)
def XF(d:eQ)(m:sV d):yk 77 [.agg d.d] (.tuple [.agg (xu d).d,.b (iX d).isSome]):=by
 refine oO func77 λff=>?_;unfold f77;refine xa ?_;refine xf ?_ ?_<;>intro w
 . have f:=ZiU (d:=d) (by omega);exact ye (K:=2) (k:=o2z)
 have F:d.safe.length<=1000000:=by omega
 have g:d.pend.length<=200:=by omega
 have r:rD (qP d.safe)<=d.safe.length:=ZaD _ none d.safe (XW _);have p:(d.safe.map bD).take (rD (qP d.safe))=(uK d.safe).map bD:=ZJ.symm;have t:=OA d.safe;have ff:=qA @p ff;refine xa ?_ (hok:=oF (Zk7 d.safe F));refine xa ?_;refine xj ?_;refine lq (Nat×eT×Int×Nat) [2,6,37,38] (λ⟨k,c,s,Z⟩=>(k<=d.pend.length/\Dm (mq d.safe) d.pend k=some c/\(s=(((uK d.safe).length:Nat):Int)+(((fG (d.pend.take k)).length:Nat):Int))/\30<Z,d.pend.length-k,[(39,.i k)],[(0,⟨83,[d.d]⟩),(1,⟨154,[[.e,.i 0,.v (.bool false),.v (.string (bs [])),.e,.v (.bool false),.v (.string (bs [])),.e]]⟩),(30,⟨154,[[.l ((uK d.safe).map bD),.i s,.v (.bool (mq d.safe).isSome),.v (.string (bs ((mq d.safe).getD dQ).apex)),.l (((mq d.safe).getD dQ).sets.map Sgd.d),.v (.bool (c).isSome),.v (.string (bs ((c).getD dQ).apex)),.l (((c).getD dQ).sets.map Sgd.d)]]⟩)],Z)) (0,mq d.safe,(rD (qP d.safe):Int),_) ?_ (hA:=⟨iv,rfl,(by first|(rw[OA];simp[fG])|(dsimp only;rw[OA];simp[fG])),iv⟩);rintro⟨k,c,s,Z⟩ ⟨X,o,N,E⟩;simp only[XX,XZ];have u:0<Z:=by omega
 have v:1<Z:=by omega
 have ff:=qD @E @u @v ff;refine xo ?_ ?_<;>intro I
 .
  have U:k<d.pend.length:=by simpa using I
  have h:=m.at U;have j:=Zb6 U;have x:=Ra m (k+1) g;have ff:=qA (P9 U) ff;refine wB ?_;refine xa ?_;rcases Wt c (d.pend[k]!)with⟨T,V⟩|⟨y,n,T,V,z,A⟩
  .
   have ff:=qA @V ff;refine xa ?_ (hok:=oF (Li h V));refine aj ?_;refine xp ?_ ?_ (hq:=rfl)<;>intro a
   . have B:=Oy o U;rw[V,XV (by simp)]at B;have f:=VO (VB B);exact ye (K:=2) (k:=o2z)
   simp at a
  have ff:=qA @V ff;refine xa ?_ (hok:=oF (Li h V));refine xf ?_ ?_<;>intro a
  . have B:=Oy o U;rw[V,if_neg o3m]at B;have f:=VO (VB B);exact ye (K:=2) (k:=o2z)
  have G:n=d.pend[k]!.length:=by omega
  have B:=Oy o U;rw[V,if_pos o3m]at B;refine xa ?_;refine xb ?_;refine xb ?_;exact ah (k+1,some y,s+n,_) (h1:=⟨iv,B,(by first|(rw[N,j];omega)|(dsimp only;rw[N,j];omega)),iv⟩)
 have J:k=d.pend.length:=by omega
 subst J;have L:=ZiT F g (ZiB▸o);refine aB ?_;exact ye (K:=2) (k:=by rw[xu,L,N,Yt];first|rfl|(simp;done))
def TV{g:RSig}(h:ZcE g):(o7 g).length<=300:=by have:=h.zone;simp[o7,dC,j4];omega
def Ui{s:Sgd}(h:Ju s):(jv s).length<=80000:=by have J:=Kc h.set;have Y:=Ep (f:=o7) (n:=300) (l:=s.sigs) λg M=>TV (h.sig g M);have A:=h.len;simp[jv,jd]at Y ⊢;omega
def drop4{a b c d:Int}{j:Nat}(h:j<4):([a,b,c,d].drop j).flatMap bZ=bZ ([a,b,c,d][j]!)++([a,b,c,d].drop (j+1)).flatMap bZ:=I4 (by simpa using h) bZ
def RY(T:TypeId)(l:Str)(s:Sgd)(h:H)(n W:Nat)(hB:bH T h W n l 0)(hs:Ju s)(hl:l.length<=700000000000):yp 148 [.mptr W 0 0,.agg s.d] h n (λd h' n'=>bO h h' W n n'/\bH T h' W n' (l++jv s) 0):=by
 refine oP func148 λN ff=>?_;unfold f148;have BS:=hB.1;have ab:qW s.set=(lv s.set,0):=by unfold qW;rw[(iA s.set).2 hs.set];rfl
 have ar:=Kc hs.set;have aw:=hs.len;have y:=AV (n:=(lv s.set).length) (by omega);have O:=AV (n:=s.sigs.length) (by omega);have ff:=qE @ab @y @O (nG W n) ff;refine xa ?_;refine sO 3 n ev ev o3a ?_;simp only[AR];refine xa ?_ (hok:=oV (U3 s.set));refine aj (ya 4 (hct:=by exact Gg T l (lv s.set).length 2 _ _ W (hB.fresh (show n<=n from XW _) oW) om om om) (hk:=?_));rintro R h2 r ⟨J,ac⟩;try dsimp only at J
 replace J:=(bO.fresh (x:=none) BS (XW n) (XW n)).trans (J.down oW);refine yb ?_;refine aj (ya 4 (hct:=by exact Gn T _ (lv s.set) _ _ W (ac.mono oW) (by rw[X3,jd];omega)) (hk:=?_));rintro R A n3 ⟨rfl,L,am⟩;try dsimp only at L
 replace L:=J.trans (L.down oW);refine yb ?_;refine aj (ya 5 (hct:=by exact Gg T _ s.sigs.length 1 _ _ W (am.mono oW) (by omega) (by omega) (by rw[X3,X3,jd];omega)) (hk:=?_));rintro R Y n4 ⟨p,u⟩;try dsimp only at p
 replace p:=L.trans (p.down oW);refine yb ?_;refine xa ?_;refine dK ?_;refine iF (Nat×Str×H×Nat) [0,33,34] (λ⟨k,o,K,Z⟩=>(k<=s.sigs.length/\o++(s.sigs.drop k).flatMap o7=l++jv s/\o.length<=l.length+1100+k*300/\bH T K W Z o 0/\bO h K W n Z,s.sigs.length-k,[(35,.i k)],K,Z)) (0,l++iH (lv s.set).length 2++lv s.set++iH s.sigs.length 1,Y,_) ?_ (hA:=⟨iv,(by first|(rw[Ro];simp[jv])|(dsimp only;rw[Ro];simp[jv])),(by first|(simp[jd];omega)|(dsimp only;simp[jd];omega)),(by first|(exact u.mono (by omega))|(dsimp only;exact u.mono (by omega))),(by first|(exact p.up (by omega))|(dsimp only;exact p.up (by omega)))⟩);rintro⟨k,o,K,Z⟩ ⟨X,t,b7,hG,B⟩;simp only[XX,XZ];refine wF De ?_ ?_<;>intro w
 .
  have U:k<s.sigs.length:=by omega
  have m:=hs.sig _ (by rw[getElem!_pos s.sigs k U];exact Yz U:s.sigs[k]! ∈ s.sigs);have b8:=m.zone;have aq:=m.sum;have e3:=uN_of aq;have e4:=TV m;have ff:=qA (vY U) ff;refine wB ?_;refine xa ?_;refine sO 7 (Z+3) ev ev o3a ?_;simp only[AR];refine aj (ya 3 (hct:=by exact JA T o s.sigs[k]!.zone _ _ W (hG.fresh (show Z<=Z+3 by omega) oW) om om) (hk:=?_));rintro R h5 n5 ⟨M,qN⟩;try dsimp only at M
  replace M:=(bO.fresh (x:=none) hG.1 (show Z<=Z+3 by omega) (XW Z)).trans (M.down oW);refine yb ?_;refine xj ?_;refine iF (Nat×Str×H×Nat) [0,7,33,34,35,51,52] (λ⟨j,f,g,Z⟩=>(j<=4/\f++([s.sigs[k]!.key,s.sigs[k]!.alg,s.sigs[k]!.frm,s.sigs[k]!.unt].drop j).flatMap bZ=o++dC s.sigs[k]!.zone++[s.sigs[k]!.key,s.sigs[k]!.alg,s.sigs[k]!.frm,s.sigs[k]!.unt].flatMap bZ/\f.length=(o++dC s.sigs[k]!.zone).length+8*j/\bH T g W Z f 0/\bO h5 g W n5 Z,4-j,[(53,.i j)],g,Z)) (0,o++dC s.sigs[k]!.zone,h5,_) ?_ (hA:=⟨iv,rfl,rfl,(qN.mono oW),(bO.refl oW)⟩);rintro⟨j,f,g,Z⟩ ⟨hj,z,Ij,Aj,jU⟩;simp only[XX,XZ];have b9:(o++dC s.sigs[k]!.zone).length<=o.length+300:=by rw[X3,tu];omega
  refine wF De ?_ ?_<;>intro I
  .
   have E:j<4:=by omega
   have e6:=Zi6 (a:=s.sigs[k]!.key) (b:=s.sigs[k]!.alg) (c:=s.sigs[k]!.frm) (d:=s.sigs[k]!.unt) E;have e7:=JI ([s.sigs[k]!.key,s.sigs[k]!.alg,s.sigs[k]!.frm,s.sigs[k]!.unt][j]!);have e8:=drop4 (a:=s.sigs[k]!.key) (b:=s.sigs[k]!.alg) (c:=s.sigs[k]!.frm) (d:=s.sigs[k]!.unt) E;have ff:=qB @e6 @e7 ff;refine wB ?_;refine xa ?_;refine ya 3 (hct:=by exact EM T f (uN ([s.sigs[k]!.key,s.sigs[k]!.alg,s.sigs[k]!.frm,s.sigs[k]!.unt][j]!)) _ _ W (Aj.mono oW) (Gw _) om) (hk:=?_);rintro R h8 n8 ⟨ik,IA⟩;try dsimp only at ik
   refine yb ?_;refine xb ?_;exact ah (j+1,f++bZ ([s.sigs[k]!.key,s.sigs[k]!.alg,s.sigs[k]!.frm,s.sigs[k]!.unt][j]!),h8,_) (h1:=⟨iv,(by(try dsimp only);rw[<-z,e8,List.append_assoc]),(by(try dsimp only);rw[List.length_append,j4,Ij];omega),(by first|(exact IA.mono (by omega))|(dsimp only;exact IA.mono (by omega))),(by(try dsimp only);exact(jU.trans (ik.down oW)).up (by omega))⟩)
  obtain rfl:j=4:=by omega
  have F:f=o++dC s.sigs[k]!.zone++[s.sigs[k]!.key,s.sigs[k]!.alg,s.sigs[k]!.frm,s.sigs[k]!.unt].flatMap bZ:=by simpa using z
  refine aB ?_;refine ya 3 (hct:=by exact(by have q9:=λH9 n9(IE:bH T H9 W n9 f 0)=>EM T f (uN s.sigs[k]!.sum) H9 n9 W IE (Gw _) (by omega);simp only[e3]at q9;exact q9 _ _ (Aj.mono oW))) (hk:=?_);rintro R V n9 ⟨aR,G⟩;try dsimp only at aR
  refine yb ?_;refine xb ?_;exact ah (k+1,f++bZ s.sigs[k]!.sum,V,_) (h1:=⟨iv,(by(try dsimp only);rw[<-t,I4 U o7,F];simp[o7]),(by(try dsimp only);rw[F];simp[o7]at e4 ⊢;omega),(by first|(exact G.mono (by omega))|(dsimp only;exact G.mono (by omega))),(by(try dsimp only);exact((B.trans M).trans (jU.trans (aR.down oW))).up (by omega))⟩)
 have v:k=s.sigs.length:=by omega
 subst v;refine aB ?_;exact bJ (_) (hh:=λ_=>.inl rfl) (hr:=oS (k:=by rw[ZL,List.flatMap_nil,YH]at t;rw[<-t];exact⟨B.up (by omega),hG.mono (by omega)⟩))
def bH.new{T:TypeId}{h:H}{W nx:Nat}(a:h W=some ⟨T,[[.e,.i 0,.v (.int .i8 0)]]⟩)(hn:W<nx):bH T h W nx [] 0:=⟨hn,.inl ⟨rfl,0,a⟩⟩
theorem J5{h:H}(l:Str):dB (l.map ((λrow=>row.map (snap h 0))∘bD))=l.map bD:=by
 induction l with
 | nil=>rfl
 | cons a l k =>
  rw[X7,X7];show _::dB _=_;rw[k];rfl
def J6{h:H}(l:Str):∀a∈l,∀c∈bD a,dU h 0 c:=by intro a _ c j;unfold bD at j;simp only[Yk]at j;subst j;rfl
def ZcS(z:Zon):0<(lg z).length:=by simp[lg,dC]
def ZnF(d:aM):0<(il d).length:=by simp[il,dC]
def II{res:D}{l:Str}{h:H}{W:Nat}(m:(l=[]/\res = .e)\/(l≠[] /\ ∃r,res = .mrow r 0 l.length/\h r=some ⟨5,l.map bD⟩/\kN h W=some r))(a:0<l.length):∃r,res = .mrow r 0 l.length/\h r=some ⟨5,l.map bD⟩/\kN h W=some r:=by
 rcases m with⟨e,_⟩|⟨_,q⟩
 . subst e;simp at a
 exact q
def Zh3{q:Qst}(h:RI q):(xh q).length<=300:=by have:=h.name;simp[xh,dC];omega
def Zk3(z:Zon)(hz:ZcD z)(p:z.sets.length<=20000):yk 76 [.agg z.d] (.l ((lg z).map bD)):=by
 refine oO func76 λff=>?_;unfold f76;have u:=hz.apex;refine xa ?_;refine sO 1 0 ev ev o3a ?_;refine xa ?_;refine aj (ya 2 (hct:=by exact JA 219 [] z.apex _ _ 2 (bH.new o2t oW) om (by simp)) (hk:=?_));rintro R Y F ⟨_,c⟩;refine yb ?_;refine aj (ya 3 (hct:=by exact JF 219 _ z.sets.length _ _ 2 (c.mono oW) om o2v) (hk:=?_));rintro R A G ⟨_,f⟩;refine yb ?_;refine xj ?_;refine iF (Nat×Str×H×Nat) [3,14,15] (λ⟨k,o,K,Z⟩=>(k<=z.sets.length/\o++(z.sets.drop k).flatMap jv=lg z/\o.length<=1000+k*80000/\bH 219 K 2 Z o 0,z.sets.length-k,[(16,.i k)],K,Z)) (0,[]++dC z.apex++iH z.sets.length 4,A,_) ?_ (hA:=⟨iv,(by first|(simp[lg,mF])|(dsimp only;simp[lg,mF])),o1i,(f.mono oW)⟩);rintro⟨k,o,K,Z⟩ ⟨X,t,y,g⟩;simp only[XX,XZ];refine wF De ?_ ?_<;>intro w
 .
  have U:k<z.sets.length:=by omega
  have a:=hz.sets _ (by rw[getElem!_pos z.sets k U];exact Yz U:z.sets[k]! ∈ z.sets);have B:=Ui a;have ff:=qA (bN U) ff;refine wB ?_;refine xa ?_;refine sO 5 (Z+3) ev ev o3a ?_;simp only[AR];refine ya 1 (hct:=by exact RY 219 o z.sets[k]! _ _ 2 (g.fresh (show Z<=Z+3 by omega) oW) a om) (hk:=?_);rintro R E I ⟨h,j⟩;try dsimp only at h
  replace h:=(bO.fresh (x:=none) g.1 (show Z<=Z+3 by omega) (XW Z)).trans (h.down oW);refine yb ?_;refine xb ?_;exact ah (k+1,o++jv z.sets[k]!,E,_) (h1:=⟨iv,o1X,o2i,o1m⟩)
 have v:k=z.sets.length:=by omega
 subst v;have n:o=lg z:=by rw[ZL,List.flatMap_nil,YH]at t;exact t
 refine aB ?_;refine aj (ya 1 (hct:=by exact Gh 219 (lg z) _ _ 2 ((show bH 219 K 2 Z (lg z) 0 by rw[<-n];exact g).mono oW) (by rw[<-n];omega)) (hk:=?_));rintro R V J ⟨m,_,_⟩;obtain⟨r,rfl,O,_⟩:=II m (by exact ZcS z);have ff:=qA @O ff;refine yb ?_;exact fo 1 (k:=o2l)
def Zlo(d:aM)(hz:ZcH d)(G:d.put.length<=20000)(hz3:d.drop.length<=20000):yk 80 [.agg d.d] (.l ((il d).map bD)):=by
 refine oO func80 λff=>?_;unfold f80;have J:=hz.apex;have y:=JI d.frm;have O:=JI d.too;have ff:=qB @y @O ff;refine xa ?_;refine sO 1 0 ev ev o3a ?_;refine xa ?_;refine aj (ya 2 (hct:=by exact JA 219 [] d.apex _ _ 2 (bH.new o2t oW) om (by simp)) (hk:=?_));rintro R Y n2 ⟨_,h⟩;refine yb ?_;refine aj (ya 3 (hct:=by exact EM 219 _ (uN d.frm) _ _ 2 (h.mono oW) (Gw _) o2v) (hk:=?_));rintro R A n3 ⟨_,j⟩;refine yb ?_;refine aj (ya 3 (hct:=by exact EM 219 _ (uN d.too) _ _ 2 (j.mono oW) (Gw _) o2v) (hk:=?_));rintro R h4 n4 ⟨_,n⟩;refine yb ?_;refine aj (ya 3 (hct:=by exact JF 219 _ d.drop.length _ _ 2 (n.mono oW) om o2v) (hk:=?_));rintro R p L ⟨_,f⟩;refine yb ?_;refine xj ?_;refine iF (Nat×Str×H×Nat) [1,3,24,25] (λ⟨k,o,K,Z⟩=>(k<=d.drop.length/\o++(d.drop.drop k).flatMap xh++mF d.put=il d/\o.length<=1000+k*300/\bH 219 K 2 Z o 0,d.drop.length-k,[(26,.i k)],K,Z)) (0,[]++dC d.apex++iH (uN d.frm) 8++iH (uN d.too) 8++iH d.drop.length 4,p,_) ?_ (hA:=⟨iv,(by(try dsimp only);rw[Zcm,Zcm];simp[il]),o1i,o1n⟩);rintro⟨k,o,K,Z⟩ ⟨X,t,u,c⟩;simp only[XX,XZ];refine wF De ?_ ?_<;>intro w
 .
  have U:k<d.drop.length:=by omega
  have a:=hz.dropq _ (by rw[getElem!_pos d.drop k U];exact Yz U:d.drop[k]! ∈ d.drop);have M:=a.name;have g:=Zh3 a;have N:=JI d.drop[k]!.ty;have ff:=qB (LG U) @N ff;refine wB ?_;refine xa ?_;refine sO 5 (Z+3) ev ev o3a ?_;simp only[AR];refine aj (ya 2 (hct:=by exact JA 219 o d.drop[k]!.name _ _ 2 (c.fresh (show Z<=Z+3 by omega) oW) om om) (hk:=?_));rintro R W n6 ⟨_,BV⟩;refine yb ?_;refine ya 3 (hct:=by exact Gg 219 _ (uN d.drop[k]!.ty) 1 _ _ 2 (BV.mono oW) (Gw _) (by omega) (by rw[X3,tu];omega)) (hk:=?_);rintro R h7 n7 ⟨_,B⟩;refine yb ?_;refine xb ?_;exact ah (k+1,o++dC d.drop[k]!.name++iH (uN d.drop[k]!.ty) 1,h7,_) (h1:=⟨iv,(by(try dsimp only);rw[<-t,I4 U xh];simp[xh,iH]),(by(try dsimp only);simp[xh,jd,dC]at g ⊢;omega),(by first|(exact B.mono (by omega))|(dsimp only;exact B.mono (by omega)))⟩)
 have v:k=d.drop.length:=by omega
 subst v;refine aB ?_;refine aj (ya 3 (hct:=by exact JF 219 o d.put.length _ _ 2 (c.mono oW) om om) (hk:=?_));rintro R T n8 ⟨_,E⟩;refine yb ?_;refine xj ?_;refine iF (Nat×Str×H×Nat) [3,43,44] (λ⟨k,o,K,Z⟩=>(k<=d.put.length/\o++(d.put.drop k).flatMap jv=il d/\o.length<=10000000+k*80000/\bH 219 K 2 Z o 0,d.put.length-k,[(45,.i k)],K,Z)) (0,o++iH d.put.length 4,T,_) ?_ (hA:=⟨iv,(by(try dsimp only);rw[List.drop_length,List.flatMap_nil,List.append_nil]at t;rw[<-t];simp[mF]),(by(try dsimp only);rw[List.length_append,jd];omega),(by first|(exact E.mono (by omega))|(dsimp only;exact E.mono (by omega)))⟩);rintro⟨k,o,K,Z⟩ ⟨X,t,u,c⟩;simp only[XX,XZ];refine wF De ?_ ?_<;>intro I
 .
  have U:k<d.put.length:=by omega
  have a:=hz.puts _ (by rw[getElem!_pos d.put k U];exact Yz U:d.put[k]! ∈ d.put);have g:=Ui a;have ff:=qA (bN U) ff;refine wB ?_;refine xa ?_;refine sO 7 (Z+3) ev ev o3a ?_;simp only[AR];refine ya 1 (hct:=by exact RY 219 o d.put[k]! _ _ 2 (c.fresh (show Z<=Z+3 by omega) oW) a om) (hk:=?_);rintro R p L ⟨z,f⟩;try dsimp only at z
  replace z:=(bO.fresh (x:=none) c.1 (show Z<=Z+3 by omega) (XW Z)).trans (z.down oW);refine yb ?_;refine xb ?_;exact ah (k+1,o++jv d.put[k]!,p,_) (h1:=⟨iv,o1X,o2i,o1n⟩)
 have v:k=d.put.length:=by omega
 subst v;have F:o=il d:=by rw[ZL,List.flatMap_nil,YH]at t;exact t
 refine aB ?_;refine aj (ya 1 (hct:=by exact Gh 219 (il d) _ _ 2 ((show bH 219 K 2 Z (il d) 0 by rw[<-F];exact c).mono oW) (by rw[<-F];omega)) (hk:=?_));rintro R V n9 ⟨m,_,_⟩;obtain⟨r,rfl,hr,_⟩:=II m (by exact ZnF d);have ff:=qA @hr ff;refine yb ?_;exact fo 1 (k:=o2l)
def XN(k:UInt8)(w:Str)(x:w.length<=4000000000):yk 75 [.v (.int .u8 ((k).toNat:Int)),.l (w.map bD)] (.l ((jI k w).map bD)):=by
 refine oO func75 λff=>?_;unfold f75;refine xv ?_;refine aj (ya 2 (hct:=by exact Sa 219 [] k _ _ 1 (bH.new o2t oW) (by simp)) (hk:=?_));rintro a Y y ⟨rfl,_,f⟩;refine yb ?_;refine aj (ya 2 (hct:=by exact JF 219 _ w.length _ _ 1 (f.mono oW) om (by simp)) (hk:=?_));rintro a A n ⟨_,c⟩;have c:bH 219 A 1 n (BQ k w.length) 0:=c;have o:(BQ k w.length).length=5:=by simp[BQ,jd]
 refine yb ?_;refine bX ?_;refine C9 (C:=De) 1 (R:=_) om (dP rfl) rfl rfl o1c ?_ ?_ ev o3h ev (by exact Gh 219 (BQ k w.length) _ _ 1 (c.mono oW) om) ?_
 . exact okU
 .
  try simp only[go_sem,ff]
  all_goals (first|done|rfl|decide|simp)
 rintro a z B ⟨m,_,g⟩;obtain⟨E,rfl,h,_⟩:=II m om;have ff:=qA h ff;refine C9 (C:=De) 3 (R:=_) om (dP rfl) rfl rfl o1c ?_ ?_ ev o3h ev (by exact EM 219 _ (dig (BQ k w.length)) _ _ 1 (g.mono oW) (Zbk _) om) ?_
 .
  try simp only[go_sem,ff]
  all_goals (first|exact ok0|exact Lj _ om)
 .
  try simp only[go_sem,ff]
  all_goals (first|done|rfl|decide|simp)
 rintro a U F ⟨_,p⟩;refine xF ?_;try simp only[aH]
 refine aj (ya 2 (hct:=by exact Gn 219 _ w _ _ 1 (p.mono oW) (by rw[X3,jd];omega)) (hk:=?_));rintro a W G ⟨rfl,_,t⟩;refine yb ?_;refine aj (ya 2 (hok:=gI @Lj) (hct:=by exact EM 219 _ (dig w) _ _ 1 (t.mono oW) (Zbk _) (by rw[X3,X3,jd];omega)) (hk:=?_));rintro a u v ⟨_,j⟩;have j:bH 219 u 1 v (jI k w) 0:=j;refine yb ?_;refine aj (ya 1 (hct:=by exact Gh 219 (jI k w) _ _ 1 (j.mono oW) (by rw[Qj];omega)) (hk:=?_));rintro a V I ⟨m,_,_⟩;obtain⟨r,rfl,O,_⟩:=II m (by rw[Qj];omega);have ff:=qA @O ff;refine yb ?_;exact fo 1 (k:=o2l)
theorem Ow{l:List Str}{p:Str}:(l++[p]).map jL=l.map jL++[[.l (p.map bD)]]:=by simp[jL]
theorem KN{d:eQ}{o:vg}(h:iX d=some o):xu d=o:=by unfold xu;rw[h];rfl
theorem KO{d:eQ}(h:iX d=none):xu d=OJ:=by unfold xu;rw[h];rfl
def FH{d:eQ}{o:vg}(m:sV d)(h:iX d=some o):yk 77 [.agg d.d] (.tuple [.agg o.d,.b true]):=by have:=XF d m;rwa [KN h,h]at this
def FI{d:eQ}(m:sV d)(h:iX d=none):yk 77 [.agg d.d] (.tuple [.agg OJ.d,.b false]):=by have:=XF d m;rwa [KO h,h]at this
def Zln(w:Str)(a:w.length<=4000000000):yk 75 [.v (.int .u8 1),.l (w.map bD)] (.l ((jI 1 w).map bD)):=XN 1 w a
def Zlm(w:Str)(a:w.length<=4000000000):yk 75 [.v (.int .u8 2),.l (w.map bD)] (.l ((jI 2 w).map bD)):=XN 2 w a
def Zoc{z:Zon}{d:aM}{x:Zon}{e:Int}(hp:cZ d.put)(h:eY z d=(x,e)):yk 79 [.agg z.d,.agg d.d] (.tuple [.agg x.d,.i e]):=by have:=QS z d hp;rwa [h]at this
def XM(d:aM)(hp:cZ d.put):yk 78 [.agg d.d] (.b (fO d)):=by
 refine oO func78 λff=>?_;unfold f78;refine xa ?_;rcases m:fO d with _|_
 . have A:=Zlg m;have ff:=qB @A @m ff;refine xa ?_ (hok:=oV (Mv d));exact yi
 have A:=Zlf m;have ff:=qB @A @m ff;refine xa ?_ (hok:=oV (Mv d));exact yi
def XO(w:Str)(c:w.length<=1000000000):yk 81 [.l (w.map bD)] (.l (w.map bD)):=by
 refine oO func81 λff=>?_;unfold f81;refine xa ?_;refine aj ?_;refine aj (yY ?_);refine GJ (C:=De) 1 (e:=5) om (dP rfl) rfl rfl (by kernel_rfl) o1T ?_ (by rfl) ev (λy o=>?_)
 . exact okU
 refine yw (C:=De) o3j o1T ?_ rfl ?_
 . exact okU
 try simp only[aH]
 refine ce ?_ ?_ (hq:=rfl)<;>intro a
 . have f:w=[]:=List.map_eq_nil_iff.1 (o a);subst f;exact yi (K:=1)
 refine bM ?_;exact yi (K:=1)
def Zk5(a:Str)(l:List Str)(b:Str)(F:a.length<=1000000000)(p:b.length<=1000000000)(h:(fG l).length<=1000000000)(n:l.length<=1000000):yk 82 [.l (a.map bD),.l (l.map jL),.l (b.map bD)] (.l ((a++fG l++b).map bD)):=by
 refine oO func82 λff=>?_;unfold f82;refine xv ?_;refine aj (ya 2 (hct:=by exact Gn 219 [] a _ _ 1 (bH.new o2t oW) (by simp;omega)) (hk:=?_));rintro R Y G ⟨rfl,_,f⟩;refine yb ?_;refine xj ?_;refine iF (Nat×Str×H×Nat) [2,7,13,14] (λ⟨k,o,K,Z⟩=>(k<=l.length/\o=a++fG (l.take k)/\o.length<=2000000000/\bH 219 K 1 Z o 0,l.length-k,[(15,.i k)],K,Z)) (0,a,Y,_) ?_ (hA:=⟨iv,(by first|(simp[fG])|(dsimp only;simp[fG])),oW,(f.mono oW)⟩);rintro⟨k,o,K,Z⟩ ⟨X,t,u,g⟩;simp only[XX,XZ];refine wF De ?_ ?_<;>intro w
 .
  have U:k<l.length:=by omega
  have E:=Zb7 U;have x:=ZoU (l:=l) (k+1);have y:=Zb6 U;have ff:=qA (P9 U) ff;refine wB ?_;refine xa ?_;refine ya 2 (hct:=by exact Gn 219 o l[k]! _ _ 1 (g.mono oW) om) (hk:=?_);rintro R z I ⟨rfl,_,j⟩;refine yb ?_;refine xb ?_;exact ah (k+1,o++l[k]!,z,_) (h1:=⟨iv,(by(try dsimp only);rw[t,E,List.append_assoc]),(by(try dsimp only);rw[t,List.append_assoc,<-E,List.length_append];omega),o1m⟩)
 have v:k=l.length:=by omega
 subst v;rw[Yt]at t;refine aB ?_;refine aj (ya 2 (hct:=by exact Gn 219 o b _ _ 1 (g.mono oW) om) (hk:=?_));rintro R W A ⟨rfl,_,c⟩;have c:bH 219 W 1 A (a++fG l++b) 0:=by rw[<-t];exact c
 refine yb ?_;by_cases N:a++fG l++b=[]
 .
  refine aj (ya 1 (hct:=o1x) (hk:=?_));rintro R V B ⟨m,_,_⟩;obtain rfl:R = .e:=by rcases m with⟨_,e⟩|⟨e,_⟩;exact e;exact absurd N e
  refine yb ?_;exact fo 1 (k:=by first|(rw[N];rfl)|rfl|(simp;done))
 refine aj (ya 1 (hct:=o1x) (hk:=?_));rintro R V B ⟨m,_,_⟩;obtain⟨r,rfl,O,_⟩:=II m (Zl.2 N);have ff:=qA @O ff;refine yb ?_;exact fo 1 (k:=o2l)
def Zk6{a:Str}{l:List Str}(m:a.length<=1000000000)(h:(fG l).length<=1000000000)(c:l.length<=1000000):yk 82 [.l (a.map bD),.l (l.map jL),.l []] (.l ((a++fG l).map bD)):=by have q:=Zk5 a l [] m (by simp) h c;rw[YH]at q;exact q
def Zlq(z:Zon)(u:MX z):yk 20 [.agg z.d] (.tuple [.agg (xY z).1.d,.i (xY z).2]):=by
 refine oO func20 λff=>?_;unfold f20;have ff:=qA (show UInt8.ofNat 1=1 from rfl) ff;refine xa ?_;refine xf ?_ ?_ (hok:=oF (vw z))<;>intro w
 . exact ye (K:=4) (k:=by rw[xY,if_pos (by grind)];first|rfl|(simp;done))
 have V:ak z=true:=by grind
 have a:=(lL V).len;have c:=ZcN V;refine xa ?_ (hok:=oI (Zk3 z (ZcM V u) om) (Zln (lg z) om));refine xf ?_ ?_<;>intro I
 . exact ye (K:=4) (k:=by rw[xY,if_neg (by grind),if_pos (by omega)];first|rfl|(simp;done))
 exact ye (K:=4) (k:=by rw[xY,if_neg (by grind),if_neg (by omega)];first|rfl|(simp;done))
def Zll(d:eQ)(m:sV d):yk 23 [.agg d.d] (.tuple [.agg (uR d).1.d,.i (uR d).2]):=by
 refine oO func23 λff=>?_;unfold f23;refine xa ?_;rcases t:iX d with _|o
 .
  have c:=KO t;have ff:=qB @t @c ff;refine xa ?_ (hok:=oS (k:=o2w));refine aj ?_;refine xp ?_ ?_ (hq:=rfl)<;>intro w
  . exact ye (K:=3) (k:=by simp only[uR,t];first|rfl|(simp;done))
  simp at w
 have c:=KN t;have ff:=qB @t @c ff;refine xa ?_ (hok:=oS (k:=o2w));refine xr ?_ ?_ (hq:=rfl)<;>intro w
 . simp at w
 refine aj ?_;rcases a:o.saved with _|y
 .
  have ff:=qA @a ff;refine xp ?_ ?_ (hq:=rfl)<;>intro I
  . exact ye (K:=3) (k:=o1j)
  simp at I
 have ff:=qA @a ff;refine xp ?_ ?_ (hq:=rfl)<;>intro I
 . simp at I
 refine bM ?_;exact ye (K:=3) (k:=o1j)
def Zla(d:eQ)(m:sV d):yk 22 [.agg d.d] (.tuple [.agg (wX d).1.d,.i (wX d).2]):=by
 refine oO func22 λff=>?_;unfold f22;refine xa ?_;rcases t:iX d with _|o
 .
  have c:=KO t;have ff:=qB @t @c ff;refine xa ?_ (hok:=oS (k:=o2w));refine aj ?_;refine xp ?_ ?_ (hq:=rfl)<;>intro w
  . exact ye (K:=3) (k:=by simp only[wX,t];first|rfl|(simp;done))
  simp at w
 have c:=KN t;have ff:=qB @t @c ff;refine xa ?_ (hok:=oS (k:=o2w));refine xr ?_ ?_ (hq:=rfl)<;>intro w
 . simp at w
 have a:=VP t;have j:=Ra m d.pend.length a.2.1;rw[Yt]at j;have g:=VD d.safe;have h:=a.2.2.2.1;have f:=a.2.2.1;refine xf ?_ ?_<;>intro I
 . exact ye (K:=3) (k:=by simp only[wX,t];rw[X0 (by omega)];first|rfl|(simp;done))
 exact ye (K:=3) (hok:=oS (k:=by exact Zk6 (by rw[f];omega) (by omega) (by omega))) (k:=by simp only[wX,t];rw[XV (by omega)];first|rfl|(simp;done))
def Zlr(d:eQ)(x:aM)(m:sV d)(hp:cZ x.put)(u:Gi x):yk 21 [.agg d.d,.agg x.d] (.tuple [.agg (rf d x).1.d,.i (rf d x).2]):=by
 refine oO func21 λff=>?_;unfold f21;have ff:=qA (show UInt8.ofNat 2=2 from rfl) ff;refine xa ?_;rcases t:iX d with _|o
 .
  have p:=KO t;have ff:=qB @t @p ff;refine xa ?_ (hok:=oS (k:=o2w));refine aj ?_;refine xi ?_ ?_ (hok:=oH (XM x hp)) (hq:=rfl)<;>intro w
  . exact ye (K:=4) (k:=by simp only[rf,t];first|rfl|(simp;done))
  simp at w
 have p:=KN t;have ff:=qB @t @p ff;refine xa ?_ (hok:=oS (k:=o2w));refine xf ?_ ?_ (hok:=oH (XM x hp))<;>intro w
 .
  have v:fO x=false:=by simpa using w
  exact ye (K:=4) (k:=by simp only[rf,t];rw[X0 v];first|rfl|(simp;done))
 have j:fO x=true:=by simpa using w
 have g:=Ap.1 j;have n:=VP t;have N:=Ra m d.pend.length n.2.1;rw[Yt]at N;have G:=VD d.safe;have J:=n.2.2.2.1;have A:=n.2.2.1;have R:o.whole.length<=1000000:=by rw[A];omega
 refine aj ?_;rcases f:o.all with _|y
 .
  have ff:=qA @f ff;refine xp ?_ ?_ (hq:=rfl)<;>intro I
  . exact ye (K:=4) (k:=by rw[Zpv t f,j];first|rfl|(simp;done))
  simp at I
 have ff:=qA @f ff;refine xp ?_ ?_ (hq:=rfl)<;>intro I
 . simp at I
 refine bM ?_;refine aj ?_;rcases h:eY y x with⟨z,e⟩
 have ff:=qA @h ff;refine xa ?_ (hok:=oF (Zoc hp h));refine xi ?_ ?_<;>intro a
 . exact ye (K:=4) (k:=by rw[Zpr t f (by rw[h];exact a),h,j];first|rfl|(simp;done))
 obtain rfl:e=0:=by omega
 have E:=Znx h u;have T:=Znz h;have L:=g.plen;have M:=g.dlen;have V:=Qj 2 (il x);refine bM ?_;refine xf ?_ ?_<;>intro c
 . exact ye (K:=4) (k:=by rw[Rv t f h,X0 (by omega)];first|rfl|(simp;done))
 refine xa ?_ (hok:=oI (Zlo x E g.plen g.dlen) (Zlm (il x) om));refine xf ?_ ?_<;>intro c5
 . exact ye (K:=4) (k:=by rw[Rv t f h,XV (by omega),X0 (by omega)];first|rfl|(simp;done))
 refine xa ?_ (hok:=oH (XO o.whole om));refine aj ?_;refine xR 54 1 83 80 ev (by rfl) o3h ?_;simp only[YC,Yx];refine xa ?_;refine dK ?_;refine lq (Nat×Nat×Nat) [4,10,11,64,65] (λ⟨k,r,Z⟩=>(k<=d.pend.length/\r<Z/\54<r,d.pend.length-k,[(66,.i k)],[(0,⟨83,[d.d]⟩),(1,⟨77,[x.d]⟩),(2,⟨83,[[.e,.e]]⟩),(54,⟨83,[[.l (o.whole.map bD),.mrow r 0 k]]⟩),(r,⟨80,(d.pend.take k).map jL⟩)],Z)) (0,56,_) ?_;rintro⟨k,r,Z⟩ ⟨X,O,W⟩;simp only[XX,XZ];have Y:0<Z:=by omega
 have n1:1<Z:=by omega
 have n2:2<Z:=by omega
 have F:54<Z:=by omega
 have ff:=qH @O @Y @n1 @n2 @F (nH 0 1) (nH 0 2) (qI (nH 0 54) (nH 0 r) (nH 1 2) (nH 1 54) (nH 1 r) (nH 2 54) (nH 2 r) (nH 54 r) ff);refine xo ?_ ?_<;>intro c6
 .
  have U:k<d.pend.length:=by simpa using c6
  have ab:=m.at U;have ff:=qA (P9 U) ff;refine wB ?_;refine xa ?_;refine ag nC ?_ (hok:=oS (k:=by first|trivial|(repeat' with_reducible apply And.intro)<;>first|(intros;exact XO d.pend[k]! (by omega))|omega|(rw[YO];omega)));refine xb ?_;have B:(d.pend.take (k+1)).map jL=(d.pend.take k).map jL++[[.l (d.pend[k]!.map bD)]]:=by rw[nE! U,Ow]
  have ff:=qA B ff;exact ah (k+1,(Z+9),_)
 have e8:k=d.pend.length:=by omega
 subst e8;refine aB ?_;refine xa ?_;refine sP 54 1 (Z+5) (rows:=d.pend.map jL++[[.l ((jI 2 (il x)).map bD)]]) (off:=0) (len:=d.pend.length+1) ev rfl ev (by omega) (by simp) (by rw[<-Ow];exact Zjk) ?_;simp only[X4,YC,Yx];exact ye (K:=4) (k:=by rw[Rv t f h,XV (by omega),XV (by omega)];(try simp only[go_sem,Ow]);first|done|rfl|(simp;done))
def Zeb(l:List Zon)(h:l.length<=20000):yk 110 [.l (l.map Zon.d)] (.tuple [.l ((vB l).1.map kK),.b (vB l).2]):=by
 refine oO func110 λff=>?_;unfold f110;refine xa ?_;refine xj ?_;refine lq (Nat×Nat) [0,10,11] (λ⟨k,Z⟩=>(k<=l.length/\ax l.length (vC l) 0=ax l.length (vC l) k,l.length-k,[(12,.i k)],[],Z)) (0,_) ?_;rintro⟨k,Z⟩ ⟨X,f⟩;simp only[XX,XZ];refine xo ?_ ?_<;>intro w
 .
  have U:k<l.length:=by simpa using w
  have j:0<l.length:=by omega
  have ff:=qB (yS U) (yS j) ff;refine wB ?_;refine xa ?_;refine xi ?_ ?_ (hok:=gI (vw l[k]!))<;>intro I
  . exact ye (K:=2) (k:=by rw[Sj (.inl (by rw[f];exact ed U (by simp only[vC];grind)))];rfl)
  refine xl ?_;have T:(vC l) k=true:=by simp only[vC];grind
  exact ah (k+1,_) (h1:=⟨iv,o2E⟩)
 have p:k=l.length:=by omega
 subst p;have m:ax l.length (vC l) 0=true:=by rw[f,gB (by omega)]
 have g : ∀i,i<l.length->ak l[i]! = true:=λi hi=>by have:=(dG _ _ _).1 m i (Yh _) hi;simp only[vC,XU]at this;exact this.1
 refine aB ?_;refine xa ?_ (hok:=oH (Zes l om g));refine xj ?_;refine lq (Nat×Nat) [6] (λ⟨k,Z⟩=>((k<=l.length\/l.length=0)/\1<=k/\ax l.length (w9 l) 0=ax l.length (w9 l) k,l.length-k,[(7,.i k)],[],Z)) (1,_) ?_ (hA:=⟨oW,oW,(by(try dsimp only);by_cases e:l.length=0;rw[gB (k:=0) (by omega),gB (k:=1) (by omega)];rw[bC (n:=l.length) (by omega) (by simp[w9])])⟩);rintro⟨k,Z⟩ ⟨X,r,u⟩;simp only[XX,XZ];refine xt ?_ ?_<;>intro a
 .
  have U:k<l.length:=by simpa using a
  have v:k-1<l.length:=by omega
  have y:((k:Int)-1).toNat=k-1:=by omega
  have o:nT (aL l[k-1]!) (aL l[k]!)=(gX (aL l[k-1]!) (aL l[k]!),0):=by unfold nT;rw[A7 (g _ v),A7 (g _ U)];rfl
  have ff:=qE (P7 U) (P7 v) @y @o ff;refine wD ?_;refine xa ?_ (hok:=gI (Zbi o));refine xi ?_ ?_<;>intro c
  . exact ye (K:=2) (k:=by rw[Sj (.inr (by rw[u];exact ed U (by simp only[w9];grind)))];rfl)
  refine xl ?_;have T:(w9 l) k=true:=by simp only[w9];grind
  exact ah (k+1,_) (h1:=⟨oW,oW,o2D⟩)
 refine aB ?_;exact ye (K:=2) (k:=by rw[Zdj m (by rw[u];exact gB (by omega))];try rfl)
def ER(f:Int)(l:List Zon)(u:l.length<=20000)(hp:0<l.length)(hv:pX l)(a:f<l.length):yk 111 [.i f,.eptr [.list false (l.map Zon.d)]] (.agg (Bt l f).d):=by
 refine oO func111 λff=>?_;unfold f111;refine xa ?_;refine xf ?_ ?_<;>intro w
 .
  have y:((l.length:Int)-1).toNat=l.length-1:=by omega
  have U:l.length-1<l.length:=by omega
  have ff:=qB @y (yS U) ff;exact ye (K:=3) (hok:=oS (k:=by first|trivial|(repeat' with_reducible apply And.intro)<;>first|(intros;exact Nl l[l.length-1]! (rA (hv.ok _ U)))|omega|(intro h;simp only[Bool.and_eq_true,decide_eq_true_eq]at h;omega)|(intros;omega)|(intros;simp_all;done))) (k:=by rw[Bt,if_pos (by grind)];rfl)
 refine xa ?_;refine aj ?_;refine xR 3 3 116 77 ev (by rfl) o3h ?_;simp only[YC,Yx];refine xa ?_;refine dK ?_;refine lq (Nat×Nat×Nat) [1,3,4] (λ⟨k,r,Z⟩=>(k<=l.length-1-f.toNat/\r<Z/\3<r,l.length-1-f.toNat-k,[(5,.i (f+k))],[(0,⟨116,[[.b false,.v (.string (bs [])),.e,.e]]⟩),(3,⟨116,[[.b false,.v (.string (bs [])),.e,.mrow r 0 (jW l f.toNat k).length]]⟩),(r,⟨77,(jW l f.toNat k).map aM.d⟩)],Z)) (0,4,_) ?_;rintro⟨k,r,Z⟩ ⟨X,O,j⟩;simp only[XX,XZ];have m:0<Z:=by omega
 have n:3<Z:=by omega
 have o:=Cq l f.toNat k;have ff:=qG @O @m @n (nH 0 3) (nH 0 r) (nH 3 r) ff;refine xt ?_ ?_<;>intro I
 .
  have U:f.toNat+k<l.length:=by have V:(f+k+1:Int)<l.length:=(by simpa using I);omega
  have v:f.toNat+(k+1)<l.length:=by have V:(f+k+1:Int)<l.length:=(by simpa using I);omega
  have y:(f+(k:Int)).toNat=f.toNat+k:=by omega
  have p:(f+(k:Int)+1).toNat=f.toNat+(k+1):=by omega
  have c:lJ l[f.toNat+k]! l[f.toNat+(k+1)]! = (qU l (f.toNat+k),0):=hv.difv v;have ff:=qF (yS U) (yS v) @y @p @c ff;refine wD ?_;refine aa nC ?_ (hok:=gI (ZnR c));refine xb ?_;refine xb ?_;have B:(jW l f.toNat (k+1)).map aM.d=(jW l f.toNat k).map aM.d++[[.v (.string (bs (qU l (f.toNat+k)).apex)),.i (qU l (f.toNat+k)).frm,.i (qU l (f.toNat+k)).too,.l ((qU l (f.toNat+k)).drop.map Qst.d),.l ((qU l (f.toNat+k)).put.map Sgd.d)]]:=by rw[ZnJ,Zny]
  have g:(jW l f.toNat (k+1)).length=(jW l f.toNat k).length+1:=by rw[Cq,Cq]
  have ff:=qB B g ff;exact ah (k+1,(Z+25),_)
 refine aB ?_;refine sP 3 3 r (rows:=(jW l f.toNat k).map aM.d) (off:=0) (len:=(jW l f.toNat k).length) ev rfl ev om (by simp) Zjh ?_;simp only[X4,zq,YC,Yx];have t:k=l.length-1-f.toNat:=by have V : ¬(f+k+1:Int)<l.length:=(by simpa using I);omega
 subst t;exact ye (K:=3) (k:=by rw[Bt,XV (by omega)];rfl)
def Zed(l:List Zon)(b:Bool)(n:Int):yk 46 [.l (l.map Zon.d),.b b,.i n] (.tuple [.agg (ko l b n).1.d,.i (ko l b n).2]):=by
 refine oO func46 λff=>?_;unfold f46;refine xa ?_;refine xf ?_ ?_<;>intro w
 . exact ye (K:=3) (k:=by rw[ko,if_pos (by grind)];rfl)
 have f:l.length<=20000:=by omega
 have g : ¬(20000<l.length\/(b=true/\(n<0\/65536<=n))):=by rintro (q|⟨B,W⟩);omega;grind
 refine xa ?_ (hok:=oF (Zeb l f));refine xf ?_ ?_<;>intro I
 .
  have j:uA l=false:=by cases q:uA l with|false=>rfl|true=>(rw[M7 q]at I;cases I)
  exact ye (K:=3) (k:=by rw[ko,XV g,X0 j];rfl)
 have j:uA l=true:=by cases q:uA l with|true=>rfl|false=>(rw[Sk q]at I;cases I)
 have h:=M6.1 j;have r:=M7 j;have ff:=qA @r ff;refine xf ?_ ?_<;>intro a
 . exact ye (K:=3) (k:=by rw[ko,XV g,XV (by rw[j];exact Bool.noConfusion),X0 (by omega)];rfl)
 have F:0<l.length:=by omega
 refine sO 3 0 ev ev (by simp only[aX,D.nr,V8];rfl) ?_;refine xv ?_;refine aj ?_;rcases b with _|_
 .
  have m:Ce l false n = -1:=rfl;have o:=IU l false n;refine xp ?_ ?_<;>intro c
  . cases c
  refine bM ?_;exact ye (K:=3) (hok:=oS (k:=o0d)) (k:=o1u)
 refine xi ?_ ?_ (hq:=rfl)<;>intro c
 .
  refine xa ?_;refine dK ?_;refine lq (Nat×Nat) [2,6,10,43,44] (λ⟨k,Z⟩=>(k<=l.length/\1<Z,l.length-k,[(11,.i (rX (λi=>decide (aL l[i]! = n)) k)),(45,.i k)],[(1,⟨116,[[.b false,.v (.string (bs [])),.e,.e]]⟩)],Z)) (0,_) ?_;rintro⟨k,Z⟩ ⟨X,E⟩;simp only[XX,XZ];have ff:=qA @E ff;refine xo ?_ ?_<;>intro t
  .
   have U:k<l.length:=by simpa using t
   have ff:=qA (P7 U) ff;refine wB ?_;refine xa ?_;refine xi ?_ ?_<;>intro v
   . refine xb ?_;refine xb ?_;have ff:=qA (WP (p:=λi=>decide (aL l[i]! = n)) (k:=k) (by grind)) ff;exact ah (k+1,_)
   refine xl ?_;have ff:=qA (WQ (p:=λi=>decide (aL l[i]! = n)) (k:=k) (by grind)) ff;exact ah (k+1,_)
  have u:k=l.length:=by omega
  subst u;have m:Ce l true n=rX (λi=>decide (aL l[i]! = n)) l.length:=rfl;have o:=IU l true n;refine aB ?_;exact ye (K:=3) (hok:=oS (k:=o0d)) (k:=o1u)
 cases c
def SI{l:List Zon}{b:Bool}{n:Int}{x:Off}{e:Int}(h:ko l b n=(x,e)):yk 46 [.l (l.map Zon.d),.b b,.i n] (.tuple [.agg x.d,.i e]):=by have:=Zed l b n;rwa [h]at this
def JK(s:gD)(o:Off)(t:Int)(a : ∀i,i<o.deltas.length->cZ o.deltas[i]!.put):yk 47 [.agg s.d,.agg o.d,.i t] (.tuple [.agg (lm s o t).1.d,.i (lm s o t).2]):=by
 refine oO func47 λff=>?_;unfold f47;refine xa ?_;refine xf ?_ ?_ (hok:=Hd (SH s) (Zea o a))<;>intro T
 . exact ye (K:=3) (k:=by rw[lm,if_pos (by grind)];try rfl)
 have N:mG s=true:=by grind
 have v:kR o=true:=by grind
 have g : ¬(mG s=false\/kR o=false\/t<s.seen\/10000000<t):=by rintro (q|q|q|q);rw[N]at q;cases q;rw[v]at q;cases q;omega;omega
 refine aj ?_;refine xa ?_ (hok:=oF (Zei o));refine xi ?_ ?_<;>intro I
 . exact ye (K:=3) (k:=by rw[lm,if_neg g,if_pos (by grind)];try rfl)
 have j : ¬(s.has=true/\(ql o).2=true/\(ql o).1≠s.zone.apex):=by grind
 refine bM ?_;refine xf ?_ ?_<;>intro V
 . exact ye (K:=3) (k:=by rw[lm,if_neg g,if_neg j,if_pos (by grind)];try rfl)
 have n : ¬(s.has=false/\o.full=false):=by grind
 refine xf ?_ ?_<;>intro c
 .
  have f:o.full=true:=by grind
  have G:=ZiY v f;refine aj ?_;refine xa ?_ (hok:=oF (Zem s o.zone (NU N) G));refine xi ?_ ?_<;>intro W
  . exact ye (K:=3) (k:=by rw[lm,if_neg g,if_neg j,if_neg n,if_pos f,if_pos (by grind)];try rfl)
  refine bM ?_;exact ye (K:=3) (hok:=oF (Nl o.zone (rA G))) (k:=by rw[lm,if_neg g,if_neg j,if_neg n,if_pos f,if_neg (by grind)];try rfl)
 have f:o.full=false:=by grind
 have p:s.has=true:=by cases q:s.has with|true=>rfl|false=>exact absurd ⟨q,f⟩ n
 have A:=NU N p;have J:=ZiZ v;refine xa ?_ (hok:=oF (Nl s.zone (rA A)));refine xj ?_;refine lq (Nat×Zon×Nat) [2,6,11,81,82] (λ⟨k,w,Z⟩=>(k<=o.deltas.length/\54<Z/\oG s.zone o.deltas k=(w,0),o.deltas.length-k,[(83,.i k)],[(0,⟨44,[s.d]⟩),(1,⟨116,[o.d]⟩),(2,⟨44,[[.b false,.v (.string (bs [])),.e,.i 0]]⟩),(54,⟨24,[w.d]⟩)],Z)) (0,s.zone,_) ?_;rintro⟨k,w,Z⟩ ⟨X,E,m⟩;simp only[XX,XZ];have L:0<Z:=by omega
 have M:1<Z:=by omega
 have r:2<Z:=by omega
 have ff:=qE @E @L @M @r ff;refine xo ?_ ?_<;>intro O
 .
  have U:k<o.deltas.length:=by simpa using O
  have ff:=qA (LH U) ff;refine wB ?_;refine xa ?_;rcases h:eY w o.deltas[k]! with⟨x,y⟩
  have ff:=qA @h ff;refine xa ?_ (hok:=oF (Zod (a k U) h));refine xf ?_ ?_<;>intro Y
  .
   have u:y≠0:=by grind
   have B:oG s.zone o.deltas (k+1)=(x,y):=by rw[Rw (by rw[m]),m];exact h
   have F:=Zcu (z:=s.zone) (l:=o.deltas) (k:=k+1) (by rw[B];exact u) o.deltas.length (by omega);exact ye (K:=3) (k:=by rw[lm,XV g,XV j,XV n,XV (by rw[f];exact Bool.noConfusion),F,B,X0 u];try rfl)
  obtain rfl:y=0:=by grind
  refine xb ?_;refine xb ?_;exact ah (k+1,x,_) (h1:=⟨iv,iv,(by(try dsimp only);rw[Rw (by rw[m]),m];exact h)⟩)
 have R:k=o.deltas.length:=by omega
 subst R;refine aB ?_;exact ye (K:=3) (k:=by rw[lm,XV g,XV j,XV n,XV (by rw[f];exact Bool.noConfusion),m,XV (λq=>q rfl)];try rfl)
def Zeh(s:gD)(l:List Zon)(t:Int):yk 10 [.agg s.d,.l (l.map Zon.d),.i t] (.tuple [.agg (o9 s l t).1.d,.i (o9 s l t).2]):=by
 refine oO func10 λff=>?_;unfold f10;refine xa ?_;refine xf ?_ ?_ (hok:=oH (SH s))<;>intro w
 . exact ye (K:=3) (k:=by rw[o9,if_pos (by grind)];try rfl)
 have N:mG s=true:=by grind
 refine xa ?_;refine aj ?_;rcases c:ko l s.has (zG s)with⟨x,f⟩
 have g:=Zgg c;rcases fOrT s.has with p|p
 .
  have h:zG s=0:=by unfold zG;rw[p];try rfl
  have j:ko l s.has 0=(x,f):=by rw[h]at c;exact c
  have ff:=qA @j ff;refine xp ?_ ?_<;>intro I
  . exfalso;rw[p]at I;cases I
  refine bM ?_;refine xa ?_ (hok:=oF (SI j));refine xf ?_ ?_<;>intro a
  . exact ye (K:=3) (k:=o1e)
  exact ye (K:=3) (hok:=oS (k:=o0q)) (k:=o1f)
 have h:zG s=aL s.zone:=by unfold zG;rw[p];try rfl
 have E:=NU N p;have j:ko l s.has (aL s.zone)=(x,f):=by rw[h]at c;exact c
 have ff:=qB @E @j ff;refine xi ?_ ?_ (hq:=rfl)<;>intro I
 .
  refine xb ?_ (hok:=oF (p9 E));refine xa ?_ (hok:=oF (SI j));refine xf ?_ ?_<;>intro a
  . exact ye (K:=3) (k:=o1e)
  exact ye (K:=3) (hok:=oS (k:=o0q)) (k:=o1f)
 exfalso;rw[p]at I;cases I
def ZmR{α:Type}(l:List α)(i:Nat)(h:i<l.length):(l.take (0+i)++(l.drop (i+1)).take (l.length-(i+1))++l.drop (0+i+(l.length-(i+1)))).take (l.length-1)=l.eraseIdx i:=by have y:(l.drop (i+1)).take (l.length-(i+1))=l.drop (i+1):=Ye (by simp);rw[y,Nat.zero_add,List.eraseIdx_eq_take_drop_succ,List.take_append_of_le_length (by simp;omega),Ye (by simp;omega)]
def ZmS{α:Type}(l:List α)(i:Nat)(h:i<l.length):(l.take (0+i)++(l.drop (i+1)).take (l.length-(i+1))++l.drop (0+i+(l.length-(i+1)))).length=l.length:=by simp;omega
def ins_a{α:Type}(l:List α)(x:α)(i:Nat)(h:i<l.length):(l.take (i+1)++((l.drop i).take (l.length-i)++l.drop (i+(1+(l.length-i))))).take i++x::(l.take (i+1)++((l.drop i).take (l.length-i)++l.drop (i+(1+(l.length-i))))).drop (i+1)=l.take i++x::l.drop i:=by have y:(l.drop i).take (l.length-i)=l.drop i:=Ye (by simp);have O:l.drop (i+(1+(l.length-i)))=[]:=List.drop_of_length_le om;rw[y,O,YH,List.take_append_of_le_length (by simp;omega),List.take_take,List.drop_append_of_le_length (by simp;omega),List.drop_of_length_le (l:=l.take (i+1)) (by simp;omega)];rw[show min i (i+1)=i from by omega];simp
def ins_c{α:Type}(l z:List α)(x:α)(i:Nat)(h:i<l.length)(hz:z.length=l.length+1-i):(((l.take i++z).take i++x::(l.take i++z).drop (i+1)).take (i+1))++((l.drop i).take (l.length-i)++((l.take i++z).take i++x::(l.take i++z).drop (i+1)).drop (i+1+(l.length-i)))=l.take i++x::l.drop i:=by
 have y:(l.drop i).take (l.length-i)=l.drop i:=Ye (by simp);have f:(l.take i).length=i:=by simp;omega
 have O:((l.take i++z).take i)=l.take i:=by rw[List.take_append_of_le_length (by omega),Ye (by omega)]
 have a:l.take i++x::(l.take i++z).drop (i+1)=l.take i++[x]++(l.take i++z).drop (i+1):=by simp
 simp only[y,O,a];have c:(l.take i++[x]).length=i+1:=by simp;omega
 rw[List.take_append_of_le_length (by omega),Ye (by omega)];have g:(l.take i++[x]++(l.take i++z).drop (i+1)).length=l.length+1:=by simp[hz];omega
 rw[List.drop_of_length_le (l:=l.take i++[x]++(l.take i++z).drop (i+1)) (by omega)];simp
def ZnO(l:List (List D))(i m u:Nat)(h:H)(n r:Nat)(v:m=l.length)(hi:i<l.length)(a:u=i+1)(z:l.length<=1000000)(hr:h r=some ⟨56,l⟩)(j : ∀q∈l,q.length=5):yp 208 [.mrow r 0 m,.i i,.i u] h n (λd h' g=>d = .mrow r 0 (l.length-1)/\h'=upd h r (some ⟨56,l.eraseIdx i⟩)/\n<=g):=by
 refine oP func208 λo ff=>?_;unfold f208;subst v;subst a;have c:((l.length:Int)-((i+1:Nat):Int)).toNat=l.length-(i+1):=by omega
 have f:((i:Int)-((0:Nat):Int)).toNat=i:=by omega
 have p:(List.take (l.length-(i+1)) (List.drop (i+1) l)).length=l.length-(i+1):=by simp
 have t:i+(l.length-(i+1))=l.length-1:=by omega
 have x:=ZmR l i hi;have y:=ZmS l i hi;have ff:=qF @hr @c @f @p @t ff;refine xa ?_;refine bX ?_;refine Zl7 De 5 ?_;refine xF ?_;try simp only[aH]
 refine xr ?_ ?_<;>intro w
 . exfalso;simp at w;omega
 refine xa ?_;refine aj ?_;refine Ck De 6 ?_;refine Zmr De 6 (news:=(l.drop (i+1)).take (l.length-(i+1))) (hrl:=by intro q K;rw[j q (List.mem_of_mem_drop (List.mem_of_mem_take K))];rfl) ?_;refine xF ?_;try simp only[aH]
 refine bX ?_;refine Zma De 4 (l.length-1) l.length ?_;refine Zmp De 5 ?_;refine xF ?_;try simp only[aH]
 refine xa ?_;exact oN (bJ (upd h r (some ⟨56,l.eraseIdx i⟩)) (hr:=oS (k:=by first|omega|exact⟨rfl,rfl,om⟩|exact⟨rfl,om⟩)) (hh:=by rw[<-x];intro q;left;simp only[upd];split<;>simp_all))
def ZlH(l:List (List D))(x:List D)(i m:Nat)(h:H)(n r r2:Nat)(v:m=l.length)(hi:i<=l.length)(hl:l.length<=1000000)(hr:h r=some ⟨56,l⟩)(p:h r2=some ⟨56,[x]⟩)(N:r≠r2)(E:x.length=5)(j : ∀q∈l,q.length=5):yp 210 [.mrow r 0 m,.i i,.mrow r2 0 1] h n (λd h' g=>∃z,d = .mrow z 0 (l.length+1)/\h' z=some ⟨56,(l.take i++x::l.drop i)⟩/\(z=r\/n<=z/\z<g)/\(∀q,q≠r->q<n->h' q=h q)/\n<=g):=by
 refine oP func210 λo ff=>?_;unfold f210;subst v;have W:r<n:=by rcases YK r n with q|q;exact q;rw[o r q]at hr;cases hr
 have V:r2<n:=by rcases YK r2 n with q|q;exact q;rw[o r2 q]at p;cases p
 have B : ∀k,r≠n+k:=λk=>by omega
 have F : ∀k,r2≠n+k:=λk=>by omega
 have A:r2≠r:=λq=>N q.symm;have y:((1:Nat):Int)=1:=rfl;have G:((l.length:Int)-(i:Int)).toNat=l.length-i:=by omega
 have L:((i:Int)-((0:Nat):Int)).toNat=i:=by omega
 have M:((l.length:Int)+1-(i:Int))=((l.length+1-i:Nat):Int):=by omega
 have X:((i:Int)+1).toNat=i+1:=by omega
 have Z:i+(l.length+1-i)=l.length+1:=by omega
 have O:((l.length:Int)+1)=((l.length+1:Nat):Int):=by omega
 have R:((i:Int)+1)=((i+1:Nat):Int):=by omega
 have T:(((l.length+1:Nat):Int)-((i+1:Nat):Int)).toNat=l.length-i:=by omega
 have U:(((l.length+1:Nat):Int)-(i:Int)).toNat=l.length+1-i:=by omega
 have ff:=qI @hr @p @N @A @B @F @G @L ff;refine oD De ?_;refine xr ?_ ?_<;>intro w
 . exfalso;simp at w
 refine xa ?_;refine xr ?_ ?_ (hq:=rfl)<;>intro I
 .
  have f:i=l.length:=by have:(i:Int)=(l.length:Int):=(by simpa using I);omega
  refine bX ?_;refine Zaw De 2 (r:=r) o3m (hrl:=by intro q K;simp at K;subst K;exact E) (hby:=by rw[show(prog).bytesOf 56=80 from rfl];simp;omega) (h63:=by simp;omega) ?_;refine xF ?_;try simp only[aH]
  exact oN (bJ (_) (hh:=λ_=>.inl rfl) (hr:=oS (k:=by exact⟨_,rfl,by rw[f];simp[upd],.inr (by omega),λq J Y=>by simp only[upd];repeat rw[XV (by omega)],om⟩)))
 have f:i<l.length:=by have : ¬(i:Int)=(l.length:Int):=(by simpa using I);omega
 refine aj ?_;refine bX ?_;refine Qc De 4 (λc ab ac=>?_);refine xF ?_;try simp only[aH]
 refine cd ?_ ?_<;>intro a
 .
  have ff:=qB @y @M ff;refine bX ?_;refine Zmq De 8 (r:=r) (off:=0) (n:=i) (c:=c) (kk:=.i64) (l.length+1-i) rfl (by omega) (by rw[show(prog).bytesOf 56=80 from rfl];omega) (by omega) ?_;refine xF ?_;try simp only[aH]
  refine bX ?_;refine En De 4 1 ?_;refine xF ?_;try simp only[aH]
  have ff:=qA @y ff;refine aj ?_;refine Ck De 8 ?_;refine En De 8 (l.length-i) ?_;refine xF ?_;try simp only[aH]
  refine xa ?_;exact oN (bJ (_) (hh:=λ_=>.inl rfl) (hr:=oS (k:=by exact⟨n+29,by simp[Z],by simp[upd];exact ins_c l _ x i f (by simp),.inr (by omega),λq J Y=>by simp only[upd];repeat rw[XV (by omega)],om⟩)))
 refine bM ?_;have ff:=qA @O ff;refine bX ?_;refine PV De 4 (r:=r) (off:=0) (c:=c) (l.length+1) rfl (by have:(l.length:Int)+1<=(c:Int):=(by simpa using a);omega) ?_;refine xF ?_;try simp only[aH]
 refine aj ?_;have ff:=qD @y @R @T ff;refine bX ?_;refine Zms De 6 (aY:=269) (t:=22) (u:=4) (r:=r2) (r2:=r) (λq=>N q.symm) ?_;refine xF ?_;try simp only[aH]
 refine cd ?_ ?_ (hq:=rfl)<;>intro c4
 .
  have ff:=qA @U ff;refine aj ?_;refine Ck De 8 ?_;refine En De 8 (l.length-i) ?_;refine xF ?_;try simp only[aH]
  refine bX ?_;refine En De 4 1 ?_;refine xF ?_;try simp only[aH]
  refine xa ?_;exact oN (bJ (_) (hh:=λ_=>.inl rfl) (hr:=oS (k:=by exact⟨r,rfl,by simp[upd];exact ins_a l x i f,.inl rfl,λq J Y=>by simp only[upd];repeat rw[XV (by omega)],om⟩)))
 exfalso;simp at c4
def Zdx(s:Sgd):yk 131 [.agg s.d] (.b (uP s)):=by refine oO func131 λff=>?_;unfold f131;refine xa ?_;exact ye (K:=2) (k:=o3b)
def ZdQ(s:Sgd)(n:Chg):yk 132 [.agg s.d,.eptr n.d] (.b (dZ n.set.name s)):=by refine oO func132 λff=>?_;unfold f132;refine xa ?_;exact ye (K:=2) (k:=o3b)
def Sz(s:Sgd)(t:RSet):yk 221 [.agg s.d,.eptr t.d] (.b (dZ t.name s)):=by refine oO func221 λff=>?_;unfold f221;refine xa ?_;exact ye (K:=2) (k:=o3b)
def ZdL(l:List Sgd)(h:l.length<=1000000):yk 203 [.l (l.map Sgd.d),.fn (.func 131) [] []] (.i (d9 (uP) l 0)):=by
 refine oO func203 λff=>?_;unfold f203;refine xa ?_;refine xj ?_;refine lq (Nat×Nat) [0,1,7] (λ⟨k,Z⟩=>(k<=l.length/\d9 (uP) l 0=d9 (uP) l k,l.length-k,[(8,.i k)],[],Z)) (0,_) ?_;rintro⟨k,Z⟩ ⟨X,u⟩;simp only[XX,XZ];refine xo ?_ ?_<;>intro w
 .
  have U:k<l.length:=by simpa using w
  have ff:=qA (bN U) ff;refine wB ?_;refine xa ?_;refine xi ?_ ?_ (hok:=oH (Zdx l[k]!))<;>intro I
  . exact ye (k:=by rw[u,IX U I])
  refine xl ?_;exact ah (k+1,_) (h1:=⟨iv,o2d⟩)
 refine aB ?_;exact ye (k:=o3i)
def ZdN(l:List Sgd)(h:l.length<=1000000)(n:Chg):yk 203 [.l (l.map Sgd.d),.fn (.func 132) [] [.eptr n.d]] (.i (d9 (dZ n.set.name) l 0)):=by
 refine oO func203 λff=>?_;unfold f203;refine xa ?_;refine xj ?_;refine lq (Nat×Nat) [0,1,7] (λ⟨k,Z⟩=>(k<=l.length/\d9 (dZ n.set.name) l 0=d9 (dZ n.set.name) l k,l.length-k,[(8,.i k)],[],Z)) (0,_) ?_;rintro⟨k,Z⟩ ⟨X,u⟩;simp only[XX,XZ];refine xo ?_ ?_<;>intro w
 .
  have U:k<l.length:=by simpa using w
  have ff:=qA (bN U) ff;refine wB ?_;refine xa ?_;refine xi ?_ ?_ (hok:=oH (ZdQ l[k]! n))<;>intro I
  . exact ye (k:=by rw[u,IX U I])
  refine xl ?_;exact ah (k+1,_) (h1:=⟨iv,o2d⟩)
 refine aB ?_;exact ye (k:=o3i)
def ZdM(l:List Sgd)(h:l.length<=1000000)(t:RSet):yk 203 [.l (l.map Sgd.d),.fn (.func 221) [] [.eptr t.d]] (.i (d9 (dZ t.name) l 0)):=by
 refine oO func203 λff=>?_;unfold f203;refine xa ?_;refine xj ?_;refine lq (Nat×Nat) [0,1,7] (λ⟨k,Z⟩=>(k<=l.length/\d9 (dZ t.name) l 0=d9 (dZ t.name) l k,l.length-k,[(8,.i k)],[],Z)) (0,_) ?_;rintro⟨k,Z⟩ ⟨X,u⟩;simp only[XX,XZ];refine xo ?_ ?_<;>intro w
 .
  have U:k<l.length:=by simpa using w
  have ff:=qA (bN U) ff;refine wB ?_;refine xa ?_;refine xi ?_ ?_ (hok:=oH (Sz l[k]! t))<;>intro I
  . exact ye (k:=by rw[u,IX U I])
  refine xl ?_;exact ah (k+1,_) (h1:=⟨iv,o2d⟩)
 refine aB ?_;exact ye (k:=o3i)
def Zd5(l:List Sgd)(h:l.length<=1000000):yk 130 [.l (l.map Sgd.d),.fn (.func 131) [] []] (.b (decide (0<=d9 (uP) l 0))):=by refine oO func130 λff=>?_;unfold f130;refine xa ?_;exact yi (hok:=oH (ZdL l h))
def SG(l:List Sgd)(h:l.length<=1000000)(n:Chg):yk 130 [.l (l.map Sgd.d),.fn (.func 132) [] [.eptr n.d]] (.b (decide (0<=d9 (dZ n.set.name) l 0))):=by refine oO func130 λff=>?_;unfold f130;refine xa ?_;exact yi (hok:=oH (ZdN l h n))
def Zdw(z:Zon)(h:z.sets.length<=1000000):yk 61 [.agg z.d] (.b (jQ z)):=by refine oO func61 λff=>?_;unfold f61;refine xa ?_;exact ye (hok:=oH (Zd5 _ h)) (k:=by rw[Zip])
def ZdB(n:Chg):yk 128 [.agg n.d] (.b (jg n)):=by
 refine oO func128 λff=>?_;unfold f128;refine xa ?_;refine xf ?_ ?_ (hok:=oH yF)<;>intro w
 . exact ye (k:=o2S)
 refine xj ?_;refine oL De ?_ ?_<;>intro I
 .
  refine cd ?_ ?_<;>intro a
  . exact ye (k:=o2S)
  refine oL De ?_ ?_<;>intro c
  .
   refine cd ?_ ?_<;>intro o
   . exact ye (k:=o2S)
   refine xi ?_ ?_<;>intro p
   . exact ye (hok:=gI @xe) (k:=o2S)
   refine bM ?_;exact ye (k:=o2S)
  refine xb ?_;refine cd ?_ ?_<;>intro r
  . exact ye (k:=o2S)
  refine xi ?_ ?_<;>intro t
  . exact ye (hok:=gI @xe) (k:=o2S)
  refine bM ?_;exact ye (k:=o2S)
 refine xb ?_;refine cd ?_ ?_<;>intro u
 . exact ye (k:=o2S)
 refine oL De (λf=>?_) (λf=>?_)
 .
  refine cd (λg=>?_) (λg=>?_)
  . exact ye (k:=o2S)
  refine xi (λh=>?_) (λh=>?_)
  . exact ye (hok:=gI @xe) (k:=o2S)
  refine bM ?_;exact ye (k:=o2S)
 refine xb ?_;refine cd (λj=>?_) (λj=>?_)
 . exact ye (k:=o2S)
 refine xi (λm=>?_) (λm=>?_)
 . exact ye (hok:=gI @xe) (k:=o2S)
 refine bM ?_;exact ye (k:=o2S)
def Zd1(c:Chg):yk 129 [.agg c.d] (.b (gp c)):=by
 refine oO func129 λff=>?_;unfold f129;refine xa ?_;refine xf ?_ ?_ (hok:=oH yF)<;>intro w
 . exact ye (k:=o2T)
 refine xj ?_;refine oL De ?_ ?_<;>intro I
 .
  refine cd ?_ ?_<;>intro a
  . exact ye (hok:=oH xe) (k:=o2T)
  refine xi ?_ ?_<;>intro f
  . exact ye (k:=o2T)
  refine xi ?_ ?_<;>intro g
  . exact ye (k:=o2T)
  refine bM ?_;exact ye (k:=o2T)
 refine xb ?_;refine cd ?_ ?_<;>intro h
 . exact ye (hok:=oH xe) (k:=o2T)
 refine xi ?_ ?_<;>intro j
 . exact ye (k:=o2T)
 refine xi ?_ ?_<;>intro m
 . exact ye (k:=o2T)
 refine bM ?_;exact ye (k:=o2T)
def Sl(n:Str)(a:Str):yk 62 [.v (.string (bs n)),.v (.string (bs a))] (.b (fT n a)):=by refine oO func62 λff=>?_;unfold f62;refine xa ?_;refine xa ?_ (hok:=oH Dw);exact yi (K:=1)
def Nh(s:Sgd)(n:Str)(t:Int):yk 205 [.agg s.d,.v (.string (bs n)),.eptr [.i t]] (.i (qC s.q ⟨n,t⟩)):=by
 refine oO func205 λff=>?_;unfold f205;refine xa ?_;refine xf ?_ ?_<;>intro w
 . refine xa ?_ (hok:=oH KT);exact ye (K:=2) (k:=by simp[qC,Sgd.q];grind)
 exact ye (K:=2) (hok:=oH Ga) (k:=by simp[qC,Sgd.q];grind)
def Gv(a b:List Dat)(h:a.length<=1000000):yk 134 [.l (a.map Dat.d),.l (b.map Dat.d)] (.b (kX a b)):=QC a b h
def Zd6(l:List Sgd)(n:Str)(t:Int)(o:l.length<=1000000):yk 204 [.l (l.map Sgd.d),.v (.string (bs n)),.fn (.func 205) [] [.eptr [.i t]]] (.tuple [.i (aV l ⟨n,t⟩),.b (bV l ⟨n,t⟩)]):=by
 refine oO func204 λff=>?_;unfold f204;refine oD De ?_;refine wD ?_;refine lq (Nat×Nat×Nat) [0,1,2,8] (λ⟨i,j,Z⟩=>(i<=j/\j<=l.length/\(aV l ⟨n,t⟩=kG (λk=>qC l[k]!.q ⟨n,t⟩) i j),j-i,[(9,.i i),(10,.i j)],[],Z)) (0,l.length,_) ?_;rintro⟨i,j,Z⟩ ⟨m,A,u⟩;simp only[XX,XZ];refine xt ?_ ?_<;>intro w
 .
  have U:i<j:=by simpa using w
  have v:(i+j) / 2<l.length:=by omega
  have ff:=qB (KY (i:=i) (j:=j) (by omega)) (bN v) ff;refine dK ?_;refine xa ?_;refine xi ?_ ?_ (hok:=oH (Nh l[(i+j) / 2]! n t))<;>intro I
  . refine xb ?_;exact ah ((i+j) / 2+1,j,_) (h1:=⟨iv,iv,((F4 u U).1 I)⟩)
  refine xb ?_;exact ah (i,(i+j) / 2,_) (h1:=⟨iv,iv,(by(try dsimp only);exact(F4 u U).2 om)⟩)
 refine aB ?_;have g:i=j:=by have V : ¬i<j:=(by simpa using w);omega
 have c:aV l ⟨n,t⟩=i:=by rw[u,wN,XV (by omega)]
 by_cases a:i<l.length
 . have ff:=qA (bN a) ff;exact ye (K:=2) (hok:=oS (k:=o0x)) (k:=o2H)
 have ff:=qA (P8 (f:=Sgd.d) (Nat.le_of_not_lt a)) ff;exact ye (K:=2) (hok:=oS (k:=o0x)) (k:=o2H)
def CP(z:Zon)(n:Str)(t:Int)(h:z.sets.length<=1000000):yk 133 [.agg z.d,.v (.string (bs n)),.i t] (.tuple [.i (aV z.sets ⟨n,t⟩),.b (bV z.sets ⟨n,t⟩)]):=by refine oO func133 λff=>?_;unfold f133;refine xa ?_;refine sO 5 1 ev ev (by rfl) ?_;exact yi (K:=2) (hok:=oH (Zd6 _ n t h))
def Sn(a:Sgd)(b:Sgd)(m:a.set.data.length<=1000000):yk 139 [.agg a.d,.agg b.d] (.b (decide (a.set=b.set))):=by refine oO func139 λff=>?_;unfold f139;refine xa ?_;exact ye (hok:=oH (Gv _ _ m)) (k:=by unfold kX;rw[ZmU])
def ZdO(l:List Dat)(x:Dat)(h:l.length<=1000000):yk 275 [.l (l.map Dat.d),.agg x.d] (.i (d9 (λy=>decide (x=y)) l 0)):=by
 refine oO func275 λff=>?_;unfold f275;refine xa ?_;refine xj ?_;refine lq (Nat×Nat) [0,3,7] (λ⟨k,Z⟩=>(k<=l.length/\0<Z/\(d9 (λy=>decide (x=y)) l 0=d9 (λy=>decide (x=y)) l k),l.length-k,[(8,.i k)],[(0,⟨70,[x.d]⟩)],Z)) (0,_) ?_;rintro⟨k,Z⟩ ⟨X,E,u⟩;simp only[XX,XZ];have ff:=qA @E ff;refine xo ?_ ?_<;>intro w
 .
  have U:k<l.length:=by simpa using w
  have ff:=qA (oh U) ff;refine wB ?_;refine xa ?_;refine xi ?_ ?_<;>intro I
  . exact ye (k:=by rw[u,IX U (YB (Mx I))])
  refine xl ?_;exact ah (k+1,_) (h1:=⟨iv,iv,(by(try dsimp only);rw[u,IY U (by rw[decide_eq_false_iff_not];rintro rfl;simp at I)])⟩)
 refine aB ?_;exact ye (k:=o3i)
def ZdX(l:List Dat)(x:Dat)(h:l.length<=1000000):yk 217 [.l (l.map Dat.d),.agg x.d] (.b (eB l x)):=by refine oO func217 λff=>?_;unfold f217;refine xa ?_;exact ye (hok:=oH (ZdO l x h)) (k:=by rw[Zl4])
def Sm(x:Dat)(s:RSet)(h:s.data.length<=1000000):yk 216 [.agg x.d,.eptr s.d] (.b (eB s.data x)):=by refine oO func216 λff=>?_;unfold f216;refine xa ?_;exact yi (K:=2) (hok:=oH (ZdX s.data x h))
def ZdK(l:List Dat)(s:RSet)(h:l.length<=1000000)(hs:s.data.length<=1000000):yk 274 [.l (l.map Dat.d),.fn (.func 216) [] [.eptr s.d]] (.i (d9 (eB s.data) l 0)):=by
 refine oO func274 λff=>?_;unfold f274;refine xa ?_;refine xj ?_;refine lq (Nat×Nat) [0,1,7] (λ⟨k,Z⟩=>(k<=l.length/\d9 (eB s.data) l 0=d9 (eB s.data) l k,l.length-k,[(8,.i k)],[],Z)) (0,_) ?_;rintro⟨k,Z⟩ ⟨X,u⟩;simp only[XX,XZ];refine xo ?_ ?_<;>intro w
 .
  have U:k<l.length:=by simpa using w
  have ff:=qA (oh U) ff;refine wB ?_;refine xa ?_;refine xi ?_ ?_ (hok:=oH (Sm l[k]! s hs))<;>intro I
  . exact ye (K:=2) (k:=by rw[u,IX U I])
  refine xl ?_;exact ah (k+1,_) (h1:=⟨iv,o2d⟩)
 refine aB ?_;exact ye (K:=2) (k:=o3i)
def ZdZ(a:Dat)(b:Dat):yk 212 [.agg a.d,.agg b.d] (.i (eD a b)):=by refine oO func212 λff=>?_;unfold f212;refine xa ?_;exact ye (hok:=oJ ZbQ Ga (ZbR [_,_,_])) (k:=by rw[<-VM];try rfl)
def CW{l:List Sgd}{k:Nat}(h:k<l.length):l[k]! ∈ l:=jh.2 ⟨k,h,rfl⟩
def Zdr(u:Upd):yk 60 [.agg u.d] (.b (j6 u)):=by
 refine oO func60 λff=>?_;unfold f60;refine xa ?_;refine xf ?_ ?_<;>intro w
 . exact ye (k:=by simp only[j6];grind)
 refine xj ?_;refine lq (Nat×Nat) [1,18,19] (λ⟨k,Z⟩=>(k<=u.needs.length/\(ax u.needs.length ((λi=>jg u.needs[i]!)) 0=ax u.needs.length ((λi=>jg u.needs[i]!)) k)/\0<Z,u.needs.length-k,[(20,.i k)],[(0,⟨28,[u.d]⟩)],Z)) (0,_) ?_;rintro⟨k,Z⟩ ⟨X,f,E⟩;simp only[XX,XZ];have ff:=qA @E ff;refine xo ?_ ?_<;>intro I
 .
  have U:k<u.needs.length:=by simpa using I
  have ff:=qA (FX U) ff;refine wB ?_;refine xa ?_;refine xi ?_ ?_ (hok:=oH (ZdB u.needs[k]!))<;>intro a
  . exact ye (k:=by have g:((λi=>jg u.needs[i]!)) k=false:=(by simpa using a);simp only[j6];rw[f,ed U g];try simp)
  refine xl ?_;have T:((λi=>jg u.needs[i]!)) k=true:=by simpa using a
  exact ah (k+1,_) (h1:=⟨iv,o2E,iv⟩)
 refine aB ?_;refine xj ?_;refine lq (Nat×Nat) [29,30] (λ⟨k,Z⟩=>(k<=u.chgs.length/\(ax u.chgs.length ((λi=>gp u.chgs[i]!)) 0=ax u.chgs.length ((λi=>gp u.chgs[i]!)) k)/\0<Z,u.chgs.length-k,[(31,.i k)],[(0,⟨28,[u.d]⟩)],Z)) (0,_) ?_;rintro⟨k,Z⟩ ⟨X,h,E⟩;simp only[XX,XZ];have ff:=qA @E ff;refine xo ?_ ?_<;>intro c
 .
  have U:k<u.chgs.length:=by simpa using c
  have ff:=qA (FX U) ff;refine wB ?_;refine xa ?_;refine xi ?_ ?_ (hok:=oH (Zd1 u.chgs[k]!))<;>intro j
  . exact ye (k:=by have g:((λi=>gp u.chgs[i]!)) k=false:=(by simpa using j);simp only[j6];rw[h,ed U g];try simp)
  refine xl ?_;have T:((λi=>gp u.chgs[i]!)) k=true:=by simpa using j
  exact ah (k+1,_) (h1:=⟨iv,(by(try dsimp only);rw[h,bC U T]),iv⟩)
 refine aB ?_;exact ye (k:=by simp only[j6];rw[f,h,gB (n:=u.needs.length) (by omega),gB (by omega)];simp;grind)
def ZdP(z:Zon)(n:Chg)(g:z.sets.length<=1000000)(m : ∀s∈z.sets,s.set.data.length<=1000000):yk 63 [.agg z.d,.agg n.d] (.b (sG z n)):=by
 refine oO func63 λff=>?_;unfold f63;refine xa ?_;refine xj ?_;refine oL De ?_ ?_<;>intro w
 .
  refine cd ?_ ?_<;>intro I
  . refine sO 3 1 ev ev o3o ?_;refine xa ?_ (hok:=oH (SG _ g n));exact ye (K:=2) (k:=o1C)
  refine bM ?_;refine xa ?_ (hok:=oH (CP z n.set.name n.set.ty g));refine xj ?_;refine xi ?_ ?_<;>intro j
  . exact ye (K:=2) (k:=o1C)
  refine xi ?_ ?_<;>intro c
  . exact ye (K:=2) (k:=o1C)
  refine bM ?_;rcases a:bV z.sets ⟨n.set.name,n.set.ty⟩with _|_
  . have ff:=qA @a ff;exact ye (K:=2) (hok:=oS (k:=o0C)) (k:=o1C)
  have f:=Qv a;have ff:=qB @a (bN f) ff;exact ye (K:=2) (hok:=oS (k:=o0C)) (k:=o1C)
 refine xb ?_;refine cd ?_ ?_<;>intro o
 . refine sO 3 1 ev ev o3o ?_;refine xa ?_ (hok:=oH (SG _ g n));exact ye (K:=2) (k:=o1C)
 refine bM ?_;refine xa ?_ (hok:=oH (CP z n.set.name n.set.ty g));refine xj ?_;refine xi ?_ ?_<;>intro p
 . exact ye (K:=2) (k:=o1C)
 refine xi ?_ ?_<;>intro r
 . exact ye (K:=2) (k:=o1C)
 refine bM ?_;rcases a:bV z.sets ⟨n.set.name,n.set.ty⟩with _|_
 . have ff:=qA @a ff;exact ye (K:=2) (hok:=oS (k:=o0C)) (k:=o1C)
 have f:=Qv a;have ff:=qB @a (bN f) ff;exact ye (K:=2) (hok:=oS (k:=o0C)) (k:=o1C)
def ZdT(a:List Sgd)(b:List Sgd)(h:a.length<=1000000)(m : ∀s∈a,s.set.data.length<=1000000):yk 138 [.l (a.map Sgd.d),.l (b.map Sgd.d),.fn (.func 139) [] []] (.b (Ch a b)):=by
 refine oO func138 λff=>?_;unfold f138;refine xa ?_;refine xf ?_ ?_<;>intro w
 . exact ye (k:=by simp only[Ch];rw[YY (by omega)];rfl)
 have c:a.length=b.length:=by omega
 refine xj ?_;refine lq (Nat×Nat) [1,2,15,16] (λ⟨k,Z⟩=>(k<=a.length/\(ax a.length ((λi=>decide (a[i]!.set=b[i]!.set))) 0=ax a.length ((λi=>decide (a[i]!.set=b[i]!.set))) k),a.length-k,[(17,.i k)],[],Z)) (0,_) ?_;rintro⟨k,Z⟩ ⟨X,u⟩;simp only[XX,XZ];refine xo ?_ ?_<;>intro I
 .
  have U:k<a.length:=by simpa using I
  have v:k<b.length:=by omega
  have ff:=qB (bN U) (bN v) ff;refine wB ?_;refine xv ?_;refine xi ?_ ?_ (hok:=oH (Sn a[k]! b[k]! (m _ (CW U))))<;>intro f
  . exact ye (k:=by have g:(λi=>decide (a[i]!.set=b[i]!.set)) k=false:=(by simpa using f);simp only[Ch];rw[u,ed U g];simp)
  refine xl ?_;have T:((λi=>decide (a[i]!.set=b[i]!.set))) k=true:=by simpa using f
  exact ah (k+1,_) (h1:=⟨iv,o2D⟩)
 refine aB ?_;exact ye (k:=by simp only[Ch];rw[u,gB (by omega)];simp[c])
@[go_sem]theorem Zst{l:List Dat}:(∀r∈l.map Dat.d,r.length=3)=True:=by apply eq_true;intro r O;obtain⟨x,_,rfl⟩:=Yp.1 O;rfl
def SC(l:List Dat)(h0:0<l.length)(j:l.length<=100000)(h:H)(n:Nat):yp 42 [.l (l.map Dat.d)] h n (λd h' g=>∃c,d = .mrow c 0 l.length/\h'=upd h c (some ⟨70,(l).map Dat.d⟩)/\n<=c/\c<g):=by
 refine oP func42 λo ff=>?_;unfold f42;refine xa ?_;refine aj ?_;refine aj (yY ?_);refine GJ (C:=De) 1 (e:=70) om (dP rfl) rfl rfl (by kernel_rfl) o1T ?_ (by rfl) ev (λy f=>?_)
 . exact okU
 refine yw (C:=De) o3j o1T ?_ rfl ?_
 . exact okU
 try simp only[aH]
 refine ce ?_ ?_ (hq:=rfl)<;>intro w
 . exact absurd (f w) (by cases l with|nil=>simp at h0|cons a b=>simp)
 refine bM ?_;refine xa ?_;exact oN (bJ (upd h (n+5) (some ⟨70,(l).map Dat.d⟩)) (hr:=oS (k:=by exact⟨n+5,by simp,by simp,om,om⟩)))
def Zd0(z:Zon)(J:z.sets.length<=100000)(m : ∀s∈z.sets,0<s.set.data.length/\s.set.data.length<=100000)(h:H)(n:Nat):yp 136 [.agg z.d] h n (λd h' g=>∃t p,d = .agg [.v (.string (bs z.apex)),.mrow t 0 p.length]/\lP p=z.sets.map Sgd.bare/\h' t=some ⟨56,p.map rowP⟩/\(∀x∈p,h' x.1=some ⟨70,x.2.set.data.map Dat.d⟩)/\(p.map (·.1)).Nodup/\(∀x∈p,x.1≠t/\n<=x.1/\x.1<g)/\n<=t/\t<g/\(∀q,q<n->h' q=h q)):=by
 refine oP func136 λo ff=>?_;unfold f136;refine xv ?_;refine xj ?_;refine iF (Nat×(List PS)×Nat) [1,2,3,11,12] (λ⟨k,p,Z⟩=>(k<=z.sets.length/\n+5<Z/\lP p=(z.sets.take k).map Sgd.bare/\(p.map (·.1)).Nodup/\(∀x∈p,n+5<x.1/\x.1<Z),z.sets.length-k,[(13,.i k)],upd (upd (upd (BN 70 h p) n (some ⟨24,[z.d]⟩)) (n+1) (some ⟨24,[[.v (.string (bs [])),.e]]⟩)) (n+5) (some ⟨56,p.map rowP++List.replicate (z.sets.length-k) [.v (.string (bs [])),.i 0,.i 0,.e,.e]⟩),Z)) (0,[],_) ?_ (hA:=⟨iv,iv,rfl,List.nodup_nil,(by first|(intro x c;cases c)|(dsimp only;intro x c;cases c))⟩);rintro⟨k,p,Z⟩ ⟨X,E,F,j,a⟩;simp only[XX,XZ];have f:=ZkK F X;have ff:=qI @E @f (nH n (n+1)) (nH n (n+5)) (nH n (Z+4)) (nH (n+1) (n+5)) (nH (n+1) (Z+4)) (nH (n+5) (Z+4)) ff;refine xo ?_ ?_ (hq:=rfl)<;>intro w
 .
  have U:k<z.sets.length:=by simpa using w
  have ff:=qB (bN U) (Zhp (z:=[.v (.string (bs [])),.i 0,.i 0,.e,.e]) f U) ff;refine wB ?_;refine xa ?_;refine aj (ya 3 (hct:=by exact SC _ (m _ (CW U)).1 (m _ (CW U)).2 _ _) (hk:=?_));rintro R Y L ⟨r,rfl,rfl,N,A⟩;try dsimp only at N A
  have ff:=qD @A (nH n (n+1)) (nH n (n+5)) (qI (nH n (Z+4)) (nH n r) (nH (n+1) (n+5)) (nH (n+1) (Z+4)) (nH (n+1) r) (nH (n+5) (Z+4)) (nH (n+5) r) (nH (Z+4) r) ff);refine yb ?_;refine xa ?_;refine xb ?_;refine xb ?_;refine ah (k+1,p++[(r,z.sets[k]!.bare)],_) (h1:=⟨iv,iv,(by(try dsimp only);rw[Zpl U,<-F];simp[lP]),(by(try dsimp only);exact Zjl j λy I=>by have:=a y I;dsimp only;omega),(by(try dsimp only);intro x c;rcases List.mem_append.1 c with q|q;have:=a x q;omega;rw[List.mem_singleton]at q;subst q;dsimp only;omega)⟩) (h5:=?_);have B:=Zhl (x:=(r,z.sets[k]!.bare)) (z:=[.v (.string (bs [])),.i 0,.i 0,.e,.e]) f U;intro q;dsimp only;simp only[go_sem,ff,ZlT];by_cases u:q=Z+4
  .
   right;subst u;simp only[upd];repeat rw[XV (by omega)]
   rw[Ls (λx c=>by have:=a x c;omega)];exact o _ (by omega)
  left;by_cases G:q=n+5
  . subst G;simp only[upd,Zm,XV u];rw[<-B];first|rfl|simp[rowP,Sgd.bare]
  simp only[upd,XV u,XV G];repeat (first|rfl|(split;first|rfl|omega|skip))
 have v:k=z.sets.length:=by have : ¬k<z.sets.length:=(by simpa using w);omega
 refine aB ?_;subst v;refine xv ?_;exact oN (bJ (_) (hh:=λ_=>.inl rfl) (hr:=oS (k:=by refine⟨n+5,p,by rw[f],by rw[F,Yt],by simp[upd],λx c=>?_,j,λx c=>⟨?_,?_,?_⟩,?_,?_,λq K=>?_⟩;(have:=a x c;simp only[upd];repeat rw[XV (by omega)]);exact Zal j x c;(have:=a x c;omega);(have:=a x c;omega);(have:=a x c;omega);omega;omega;simp only[upd];(repeat rw[XV (by omega)]);exact Ls λx c=>by have:=a x c;omega)))
def Ze9:Go.Shelf.Ren:={ f:=λx=>match x with|6=>211|15=>101|14=>271|28=>175|29=>176|20=>309|21=>310|22=>311|23=>312|24=>313|25=>314|26=>315|27=>316|46=>337|47=>254|48=>255|49=>338|50=>339|57=>349|n=>n,t:=λx=>match x with|22=>51|24=>70|25=>280|3=>3|39=>174|0=>0|53=>251|55=>57|4=>4|46=>245|45=>244|50=>180|5=>5|9=>9|66=>319|70=>323|76=>354|77=>355|n=>n,g:=λn=>n }
def srtU:Go.Proofs.SlLaysF0.n6 prog Ze9:={
 mixed:=by kernel_rfl
 f6:=⟨f211.name,by decide,func211.trans (by kernel_rfl)⟩
 f14:=⟨f271.name,by decide,func271.trans (by kernel_rfl)⟩
 f15:=func101.trans (by kernel_rfl)
 f20:=⟨f309.name,by decide,func309.trans (by kernel_rfl)⟩
 f21:=⟨f310.name,by decide,func310.trans (by kernel_rfl)⟩
 f22:=⟨f311.name,by decide,func311.trans (by kernel_rfl)⟩
 f23:=⟨f312.name,by decide,func312.trans (by kernel_rfl)⟩
 f24:=⟨f313.name,by decide,func313.trans (by kernel_rfl)⟩
 f25:=⟨f314.name,by decide,func314.trans (by kernel_rfl)⟩
 f26:=⟨f315.name,by decide,func315.trans (by kernel_rfl)⟩
 f27:=⟨f316.name,by decide,func316.trans (by kernel_rfl)⟩
 f28:=func175.trans (by kernel_rfl)
 f29:=func176.trans (by kernel_rfl)
 f46:=⟨f337.name,by decide,func337.trans (by kernel_rfl)⟩
 f47:=func254.trans (by kernel_rfl)
 f48:=func255.trans (by kernel_rfl)
 f49:=⟨f338.name,by decide,func338.trans (by kernel_rfl)⟩
 f50:=⟨f339.name,by decide,func339.trans (by kernel_rfl)⟩
 f57:=⟨f349.name,by decide,func349.trans (by kernel_rfl)⟩
 t0:=underlying0
 a0:=Tryz.isAgg0
 z0:=Tryz.sizeOf0
 v0:=Tryz.zeroValue0
 t3:=underlying3
 a3:=Tryz.isAgg3
 z3:=Tryz.sizeOf3
 v3:=Tryz.zeroValue3
 t4:=underlying4
 a4:=Tryz.isAgg4
 z4:=Tryz.sizeOf4
 v4:=Tryz.zeroValue4
 t5:=underlying5
 a5:=Tryz.isAgg5
 z5:=Tryz.sizeOf5
 v5:=Tryz.zeroValue5
 t9:=underlying9
 a9:=Tryz.isAgg9
 z9:=Tryz.sizeOf9
 v9:=Tryz.zeroValue9
 t22:=underlying51
 a22:=Tryz.isAgg51
 z22:=Tryz.sizeOf51
 v22:=Tryz.zeroValue51
 t25:=underlying280
 a25:=Tryz.isAgg280
 z25:=Tryz.sizeOf280
 v25:=Tryz.zeroValue280
 t39:=underlying174
 a39:=Tryz.isAgg174
 z39:=Tryz.sizeOf174
 v39:=Tryz.zeroValue174
 t45:=underlying244
 a45:=Tryz.isAgg244
 z45:=Tryz.sizeOf244
 v45:=Tryz.zeroValue244
 t46:=underlying245
 a46:=Tryz.isAgg245
 z46:=Tryz.sizeOf245
 v46:=Tryz.zeroValue245
 t50:=underlying180
 a50:=Tryz.isAgg180
 z50:=Tryz.sizeOf180
 v50:=Tryz.zeroValue180
 t53:=underlying251
 a53:=Tryz.isAgg251
 z53:=Tryz.sizeOf251
 v53:=Tryz.zeroValue251
 t55:=underlying57
 a55:=Tryz.isAgg57
 z55:=Tryz.sizeOf57
 v55:=Tryz.zeroValue57
 t66:=underlying319
 a66:=Tryz.isAgg319
 z66:=Tryz.sizeOf319
 v66:=Tryz.zeroValue319
 t70:=underlying323
 a70:=Tryz.isAgg323
 z70:=Tryz.sizeOf323
 v70:=Tryz.zeroValue323
 t76:=underlying354
 a76:=Tryz.isAgg354
 z76:=Tryz.sizeOf354
 v76:=Tryz.zeroValue354
 t77:=underlying355
 a77:=Tryz.isAgg355
 z77:=Tryz.sizeOf355
 v77:=Tryz.zeroValue355 }
theorem QR{x:List D}{l:List Dat}(h:x∈l.map Dat.d):Dat.d (Dat.of x)=x:=by obtain⟨s,_,rfl⟩:=Yp.1 h;rw[G9]
def Zdt(l:List Dat)(m:Nat)(h:H)(n r:Nat)(v:m=l.length)(k:l.length<=100000)(hr:h r=some ⟨70,l.map Dat.d⟩) :
  yp 211 [.mrow r 0 m,.fn (.func 212) [] []] h n (λd h' g=>d = .tuple []/\g=n /\ ∃j:List Dat,j.Perm l/\Sorted eD j/\h'=upd h r (some ⟨70,j.map Dat.d⟩)):=by
 have e:m=(l.map Dat.d).length:=by simp[v]
 rw[e];refine(ND (ty:=70) srtU rfl rfl Tryz.isAgg70 Tryz.sizeOf70 (λx y=>eD (Dat.of x) (Dat.of y)) (by kernel_rfl) hr mM rfl (by simp;omega) (λx E y o=>?_) ⟨λx _=>?_,λx _ y _ z _=>?_,λx _ y _ z _=>?_⟩).mono ?_
 .
  letI iD:Dr:=I8
  have:=ZdZ (Dat.of x) (Dat.of y);rw[QR E,QR o]at this;exact this
 . have:=u6.self (Dat.of x);omega
 . intro a b;exact u6.lt_le a om
 . intro a b;have J:=u6.anti (Dat.of x) (Dat.of y);have Y:=u6.anti (Dat.of y) (Dat.of z);have A:=u6.anti (Dat.of x) (Dat.of z);have:=u6.tr (Dat.of z) (Dat.of y) (Dat.of x) om om;omega
 rintro d h' g ⟨rfl,rfl,c,F,N,rfl⟩;have f:(c.map Dat.of).map Dat.d=c:=by
  rw[List.map_map]
  conv=>rhs;rw[<-List.map_id c]
  exact Y3 λx E=>QR (F.mem_iff.1 E)
 refine⟨rfl,rfl,c.map Dat.of,?_,?_,by rw[f]⟩
 . have:=F.map Dat.of;rwa [lG G9]at this
 unfold Sorted;rw[List.pairwise_map];refine N.imp λ{x y}h=>?_;have h : ¬eD (Dat.of y) (Dat.of x)<0:=h;have:=u6.anti (Dat.of x) (Dat.of y);omega
def Zbx{x y:Dat}(h : ¬x.t=y.t \/ ¬x.n=y.n \/ ¬x.m=y.m):x≠y:=by rintro rfl;simp at h
def ZdY(l:List Dat)(m:Nat)(h:H)(n r:Nat)(N:m=l.length)(hl:l.length<=1000000)(hr:h r=some ⟨70,l.map Dat.d⟩):yp 213 [.mrow r 0 m] h n (λd h' g=>d = .mrow r 0 (sQ l).length/\h'=upd h r (some ⟨70,(sQ l).map Dat.d⟩)/\n<=g):=by
 refine oP func213 λo ff=>?_;unfold f213;subst N;have ff:=qA @hr ff;refine xa ?_;refine xf ?_ ?_<;>intro w
 . refine xa ?_;exact oN (bJ (upd h r (some ⟨70,(sQ l).map Dat.d⟩)) (hr:=oS (k:=by rw[Mt (by intro i J Y;omega)];first|exact⟨rfl,om⟩|exact⟨rfl,rfl,om⟩|omega)) (hh:=by rw[Mt (by intro i J Y;omega)];intro q;left;unfold upd;split;rename_i e;subst e;exact hr.symm;rfl))
 refine xj ?_;refine iF (Nat×Nat) [0] (λ⟨k,Z⟩=>(k<=l.length/\1<=k/\n<=Z/\(∀i,0<i->i<k->l[i]! ≠ l[i-1]!),l.length-k,[(3,.i k)],h,Z)) (1,_) ?_ (hA:=⟨oW,oW,iv,o1H⟩);rintro⟨k,Z⟩ ⟨X,R,hn,u⟩;simp only[XX,XZ];refine oL De ?_ ?_<;>intro I
 .
  have U:k<l.length:=by omega
  have v:k-1<l.length:=by omega
  have y:((k:Int)-1).toNat=k-1:=by omega
  have ff:=qD (oh U) (oh v) @y ff;refine wD ?_;refine xi ?_ ?_<;>intro a
  .
   have z : ¬(k=0\/l[k]! ≠ l[k-1]!):=by rintro (q|q);omega;exact q (Mx a)
   have p:gV l (k+1)=l.take k:=by rw[Ew z,Mr k (by omega) u]
   have E:ma l (k+1)=l.map Dat.d:=by rw[Zbe z,Znr (by omega) u]
   have j:(l.take k).length=k:=by rw[YO];omega
   refine xa ?_;refine xj ?_;have ff:=qD @p @E @j ff;refine iF (Nat×Nat) [0,4] (λ⟨c,Z⟩=>(k+c<=l.length/\1<=c/\n<=Z/\(gV l (k+c)).length<k+c,l.length-k-c,[(3,.i (gV l (k+c)).length),(5,.i c)],upd h r (some ⟨70,ma l (k+c)⟩),Z)) (1,_) ?_ (hA:=⟨oW,iv,iv,(by first|(rw[p,j];omega)|(dsimp only;rw[p,j];omega))⟩) (um:=by intro q;left;dsimp only;rw[E];unfold upd;split;rename_i e;subst e;exact hr.symm;rfl);rintro⟨c,Z⟩ ⟨K,L,T,M⟩;simp only[XX,XZ];refine oL De ?_ ?_<;>intro c4
   .
    have A:k+c<l.length:=by omega
    have j:=QM (l:=l) (k:=k+c) (by omega);have y:((c:Int)-1).toNat=c-1:=by omega
    have O:k+(c-1)=k+c-1:=by omega
    have V:=QN (l:=l) (k:=k+c) (i:=k+c) (by omega) A;have W:=QN (l:=l) (k:=k+c) (i:=k+c-1) (by omega) (by omega);have gc:=QN (l:=l) (k:=k+c) (i:=(gV l (k+c)).length) (XW _) (by omega);have ff:=qG @y @O @V @W @gc @j ff;refine wD ?_;refine xi ?_ ?_<;>intro c5
    .
     refine xa ?_;refine xb ?_;refine xb ?_;have B:k+c=0\/l[k+c]! ≠ l[k+c-1]! := .inr (Zbx c5);have F:=Znq B A;have f:gV l (k+(c+1))=gV l (k+c)++[l[k+c]!]:=Ev B;have t:ma l (k+(c+1))=ma l (k+c+1):=rfl;have x:(gV l (k+(c+1))).length=(gV l (k+c)).length+1:=by rw[f];simp
     have ff:=qD F t x ff;refine ah (c+1,_) (h1:=⟨iv,iv,iv,o0s⟩) (h5:=?_);intro q;left;simp only[upd];split<;>simp_all
    refine xl ?_;have B : ¬(k+c=0\/l[k+c]! ≠ l[k+c-1]!):=by rintro (q|q);omega;exact q (Mx (by grind))
    have t:ma l (k+(c+1))=ma l (k+c):=Zbe B;have x:gV l (k+(c+1))=gV l (k+c):=Ew B;have ff:=qB t x ff;refine ah (c+1,_) (h1:=⟨iv,iv,iv,o0s⟩) (h5:=?_);intro q;left;simp only[upd];split<;>simp_all
   have G:k+c=l.length:=by omega
   have j:=QM (l:=l) (k:=l.length) (XW _);have ab:=Ms l l.length;have ff:=qB @G @j ff;refine aB ?_;refine aj (yY ?_);refine Kg (C:=De) 3 (by omega) (dP rfl) rfl rfl (by kernel_rfl) (by kernel_rfl) (by kernel_rfl) o1T ?_ (by rfl) ev ev (by rw[QM (by omega)];omega) ?_
   . exact okU
   refine yw (C:=De) o3j o1T ?_ rfl ?_
   . exact okU
   try simp only[aH]
   refine xa ?_;exact oN (bJ (upd h r (some ⟨70,(sQ l).map Dat.d⟩)) (hr:=oS (k:=by first|omega|exact⟨by simp_all [sQ],om⟩|exact⟨by simp_all [sQ],rfl,om⟩)) (hh:=by intro q;left;simp only[upd];split<;>simp_all [Znp,sQ]))
  refine xl ?_;exact ah (k+1,_) (h1:=⟨iv,iv,iv,(by(try dsimp only);intro i J Y;by_cases e:i=k;subst e;exact Zbx (by grind);exact u i J om)⟩)
 have G:k=l.length:=by omega
 subst G;refine aB ?_;refine xa ?_;exact oN (bJ (upd h r (some ⟨70,(sQ l).map Dat.d⟩)) (hr:=oS (k:=by rw[Mt u];first|exact⟨rfl,om⟩|exact⟨rfl,rfl,om⟩|omega)) (hh:=by rw[Mt u];intro q;left;unfold upd;split;rename_i e;subst e;exact hr.symm;rfl))
end Go.Proofs.YtjhhnhgflmkenaaGreatDoor
