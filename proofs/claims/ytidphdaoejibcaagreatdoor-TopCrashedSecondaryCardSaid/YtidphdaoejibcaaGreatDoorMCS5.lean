/-
  MANY TEXTS OF MINE IN ONE (a claim has a limit of files): JkW2, JkW3, JkW4, JkW5, Jis, ZoW1, ZoW2, ZoW3, ZoW4, ZoW5, ReW1, ReW2, ReW3, DlW1, DlW6, DlW8, DlW9, DlW10, DlW11, DlW12, TrW1, JmW1, JmW2, JmW3, JmW4, JbW7, JbW8, JmW5, JmW6, TrW2, TrW3, UpW1, UpW2, UpW3, UpW4, UpW5. Conditions: none.
-/
import Derived.WalkKit
import Derived.LaidEql
import Derived.Stop.Asserts
import Derived.RowKitTokens
import Derived.Test.YtidphdaoejibcaaGreatDoorMCS4
set_option linter.unusedVariables false
set_option linter.unusedSimpArgs false
set_option linter.unusedSectionVars false
set_option linter.defProp false
set_option linter.unnecessarySimpa false
namespace Go.Proofs.YtidphdaoejibcaaGreatDoor
open Go.Proofs.Tryz
open Go.DL Go.Str Go.Rec Go.Cmp Go.Zon Go.Jn
set_option maxRecDepth 10000
theorem _root_.o6c{p:Prop}(h:p:=by simp_all [fits]):p:=h
theorem _root_.o5w{p:Prop}(h:p:=by rw[hv,Gi (by omega)]):p:=h
theorem _root_.o5s{p:Prop}(h:p:=by simp[go_sem,bC,D.nr,bq]):p:=h
theorem _root_.o5r{p:Prop}(h:p:=by simp[go_sem,D.nr,bC,bq]):p:=h
theorem _root_.o5p{p:Prop}(h:p:=by simp only[gB];grind [aW]):p:=h
theorem _root_.o5o{p:Prop}(h:p:=by simp only[jf];grind [aW]):p:=h
theorem _root_.o5m{p:Prop}(h:p:=by rw[lh,X3 (by simp_all)];rfl):p:=h
theorem _root_.o5l{p:Prop}(h:p:=by rw[hno];first|rfl|(simp;done)):p:=h
theorem _root_.o5k{p:Prop}(h:p:=by first|exact c2|simpa using c2):p:=h
theorem _root_.o5j{p:Prop}(h:p:=by first|omega|(dsimp only;omega)):p:=h
theorem _root_.o5i{p:Prop}(h:p:=by simp only[go_sem,ff];exact rfl):p:=h
theorem _root_.o5g{p:Prop}(h:p:=by simp only[XZ,fH,jb,rD,Y4];omega):p:=h
theorem _root_.o5f{p:Prop}(h:p:=by rw[c2];exact Bool.false_ne_true):p:=h
theorem _root_.o5e{p:Prop}(h:p:=by simp only[dB];rw[hv2];simp[hk4]):p:=h
theorem _root_.o5c{p:Prop}(h:p:=by rw[vB,hno];first|rfl|(simp;done)):p:=h
theorem _root_.o5b{p:Prop}(h:p:=by(try dsimp only);rw[hv,bG hk2 h8]):p:=h
theorem _root_.o4z{p:Prop}(h:p:=by rw[hbr];(try simp only[Y4]);omega):p:=h
theorem _root_.o4y{p:Prop}(h:p:=by(try dsimp only);rw[hv1,bG hk2 h8]):p:=h
theorem _root_.o4t{p:Prop}(h:p:=by first|(simp[aR])|(dsimp only;simp[aR])):p:=h
theorem _root_.o4p{p:Prop}(h:p:=by first|rfl|(simp;done)|exact H8 _|exact Ia _):p:=h
theorem _root_.o4n{p:Prop}(h:p:=by(try simp only[go_sem,ff]);all_goals (rw[Yn])):p:=h
theorem _root_.o4m{p:Prop}(h:p:=by rw[<-Aj];simp only[xx];(try rw[Ay]at *);grind):p:=h
theorem _root_.o4j{p:Prop}(h:p:=by(try dsimp only);rw[List.length_append,hol];rfl):p:=h
theorem _root_.o4i{p:Prop}(h:p:=by(try dsimp only);rw[hv,Gh hk2 (by simpa using c2)]):p:=h
theorem _root_.o4f{p:Prop}(h:p:=by(try simp only[go_sem,ff]);all_goals (exact⟨rfl,rfl⟩)):p:=h
theorem _root_.o4b{p:Prop}(h:p:=by(try dsimp only);exact(rv hs9 (bA.refl (Nat.le_refl _)))):p:=h
theorem _root_.o3y{p:Prop}(h:p:=by first|exact .inl (List.eq_nil_of_length_eq_zero h0)|grind):p:=h
theorem _root_.o3x{p:Prop}(h:p:=by(try dsimp only);simp only[go_sem,ff];first|done|exact rfl):p:=h
theorem _root_.o3t{p:Prop}(h:p:=by(try simp only[go_sem,ff]);all_goals (exact Xg _ (Yh hs.2 om))):p:=h
theorem _root_.o3s{p:Prop}(h:p:=by(try simp only[go_sem,ff]);all_goals (exact Xh _ (Yh hs.1 om))):p:=h
theorem _root_.o3q{p:Prop}(h:p:=by(try dsimp only);exact⟨f8,by rw[aK _ _ _ _ (by omega)];exact qN⟩):p:=h
theorem _root_.o3m{p:Prop}(h:p:=by exact Ec 134 (a++aR l++b) _ _ 1 (zX.mono oW) (by rw[XZ,XZ];omega)):p:=h
theorem _root_.o3l{p:Prop}(h:p:=by first|(simp_all [kC,under];done)|(simp;simp only[kC,under];grind)):p:=h
theorem _root_.o3h{p:Prop}(h:p:=by(try simp only[go_sem,ff]);all_goals (first|exact oq hb|exact uh hb)):p:=h
theorem _root_.o3g{p:Prop}(h:p:=by(try simp only[go_sem,ff]);all_goals (first|exact oq ha|exact uh ha)):p:=h
theorem _root_.o3f{p:Prop}(h:p:=by(try simp only[go_sem,ff]);all_goals (first|done|grind|(simp;grind))):p:=h
theorem _root_.o3d{p:Prop}(h:p:=by first|(exact pF.mono (by omega))|(dsimp only;exact pF.mono (by omega))):p:=h
theorem _root_.o3c{p:Prop}(h:p:=by first|(exact FX.mono (by omega))|(dsimp only;exact FX.mono (by omega))):p:=h
theorem _root_.o3b{p:Prop}(h:p:=by intro o ho;simp only[Ym,YZ,or_false]at ho;rcases ho with rfl|rfl<;>rfl):p:=h
theorem _root_.o2z{p:Prop}(h:p:=by exact yl iT _ _ R ⟨fs2,by simp only[go_sem,ff];first|done|exact rfl⟩ tL):p:=h
theorem _root_.o2x{p:Prop}(h:p:=by intro o ho;simp only[X5,Ye,Ym,YZ,or_false]at ho;rcases ho with rfl<;>rfl):p:=h
theorem _root_.o2w{p:Prop}(h:p:=by(try simp only[go_sem,ff]);all_goals (first|exact zO hd ho|exact zN hd ho)):p:=h
theorem _root_.o2v{p:Prop}(h:p:=by(try dsimp only);simp only[List.length_append,fH,rD,List.length_nil];omega):p:=h
theorem _root_.o2t{p:Prop}(h:p:=by(try dsimp only);intro i hi;by_cases e:i=k;subst e;exact QH c3;exact hv i om):p:=h
theorem _root_.o2p{p:Prop}(h:p:=by rw[lW,if_neg (by rw[hs];exact Bool.noConfusion),hsv,if_neg (by grind)];try rfl):p:=h
theorem _root_.o2o{p:Prop}(h:p:=by rw[lW,if_neg (by rw[hs];exact Bool.noConfusion),hsv,if_pos (by grind)];try rfl):p:=h
theorem _root_.o2n{p:Prop}(h:p:=by first|(simp only[lZ,ho,hsv];done)|(simp only[lZ,ho,hsv];first|rfl|(simp;done))):p:=h
theorem _root_.o2h{p:Prop}(h:p:=by first|rfl|(rw[Yn];done)|(simp only[Yn,go_sem];done)|(simp only[Yn];exact Tf)|(simp;done)):p:=h
theorem _root_.o2g{p:Prop}(h:p:=by have hF:(pM z) k=false:=(by simpa[pM,e0]using c2);simp only[wm];rw[hv1,eO hk2 hF];try simp):p:=h
theorem _root_.o2e{p:Prop}(h:p:=by have hF:(lv a l) k=false:=(by simp only[lv,aW];grind);simp only[mE];rw[hv,eO hk2 hF];try simp):p:=h
theorem _root_.o2d{p:Prop}(h:p:=by have hF:(wQ o) k=false:=(by simp only[wQ];grind);simp only[kI];rw[hv,eO hk2 hF];simp;try grind):p:=h
theorem _root_.o2c{p:Prop}(h:p:=by have hF:(cutAt x) k=false:=(by simp only[cutAt];grind);simp only[qY];rw[hv,eO hk2 hF];try simp):p:=h
theorem _root_.o2b{p:Prop}(h:p:=by have hF:(nZ x.z.sets) k=false:=(by simp only[nZ];grind);simp only[uW];rw[hv,eO hk2 hF];try simp):p:=h
theorem _root_.o2a{p:Prop}(h:p:=by rw[<-Aj];have hF:(ut d) k=false:=(by simp only[ut];grind);simp only[xx];rw[hv,eO hk2 hF];try simp):p:=h
theorem _root_.o1z{p:Prop}(h:p:=by simp only[lm,ho];rw[XV (by omega),X3 o4z];first|rfl|(simp;done)):p:=h
theorem _root_.o1x{p:Prop}(h:p:=by(try simp only[go_sem,ff]);all_goals (simp only[qM,kM,show n.q=⟨n.set.name,n.set.ty⟩from rfl];grind)):p:=h
theorem _root_.o1w{p:Prop}(h:p:=by have hF:(kD z.sets) k=false:=(by simp only[kD,kT,iQ];grind);simp only[nA];rw[hv,eO hk2 hF];try simp):p:=h
theorem _root_.o1v{p:Prop}(h:p:=by(try dsimp only);simp only[go_sem,ff,List.map_append,List.map_cons,List.map_nil];first|done|exact rfl):p:=h
theorem _root_.o1u{p:Prop}(h:p:=by have hF:(cutAt ⟨z,gI z⟩) k=false:=(by simp only[cutAt];grind);simp only[si,qY];rw[hv,eO hk2 hF];try simp):p:=h
theorem _root_.o1t{p:Prop}(h:p:=by(try simp only[go_sem,ff]);all_goals (rw[jW,XV p1,XV (by rw[BG];exact Bool.noConfusion),XV (by omega)];rfl)):p:=h
theorem _root_.o1s{p:Prop}(h:p:=by rw[<-Aj];have hF:(uP d.drop) k=false:=(by simp only[uP,qi,aW];grind);simp only[xx];rw[hv1,eO hk2 hF];try simp):p:=h
theorem _root_.o1r{p:Prop}(h:p:=by have hF:(oM z.apex z.sets) k=false:=(by simp only[oM];grind [Sgd.q]);simp only[ordered];rw[hv,eO hk2 hF];try simp):p:=h
theorem _root_.o1p{p:Prop}(h:p:=by simp only[lm,ho];rw[XV (by omega),XV o4z,X3 (by rw[htl];omega)];first|rfl|(simp;done)):p:=h
theorem _root_.o1l{p:Prop}(h:p:=by(try simp only[go_sem,ff]);all_goals (first|done|((repeat' (with_reducible apply And.intro))<;>first|(intros;exact Hf _ hl n)|skip))):p:=h
theorem _root_.o1k{p:Prop}(h:p:=by(try simp only[go_sem,ff]);all_goals (first|done|exact congrArg (λq=>some (eZ.mk 4 q)) (LH hk2 (by simp only[xU];grind))|(simp;done))):p:=h
theorem _root_.o1f{p:Prop}(h:p:=by simp only[lm,ho];rw[XV (by omega),XV o4z,XV (by rw[htl];omega)];simp only[rC,hbr,<-hL];first|rfl|(simp;done)):p:=h
theorem _root_.o1e{p:Prop}(h:p:=by(try simp only[go_sem,ff]);all_goals (first|exact oq (z:=(⟨z.apex,iU (gF z d++d.put)⟩:Zon)) hb|exact uh (z:=(⟨z.apex,iU (gF z d++d.put)⟩:Zon)) hb)):p:=h
theorem _root_.o1c{p:Prop}(h:p:=by(try simp only[go_sem,ff]);all_goals (first|done|((repeat' (with_reducible apply And.intro))<;>first|(intros;exact sP z n.set.name n.set.ty hl)|skip))):p:=h
theorem _root_.o1b{p:Prop}(h:p:=by(try dsimp only);exact(jN.trans (iw.down o5j)).via (λp p1 p2=>aK _ _ _ _ (by omega)) (bA.refl (Nat.le_refl _)) (by omega)):p:=h
theorem _root_.o0y{p:Prop}(h:p:=by(try simp only[go_sem,ff]);all_goals (first|done|((repeat' (with_reducible apply And.intro))<;>first|(intros;exact Ei l[i]! q)|omega|(intro h;have h:=YN h;omega)))):p:=h
theorem _root_.o0x{p:Prop}(h:p:=by(try simp only[go_sem,ff]);all_goals (first|done|((repeat' (with_reducible apply And.intro))<;>first|(intros;exact Eu l[i]! n t)|omega|(intro h;have h:=YN h;omega)))):p:=h
theorem _root_.o0w{p:Prop}(h:p:=by(try simp only[go_sem,ff]);all_goals (first|done|((repeat' (with_reducible apply And.intro))<;>first|exact(λ_=>Gl _ _ (Yh ha.1 om))|exact(λ_=>J4 _ _ (Yh ha.2 om))|skip))):p:=h
theorem _root_.o0v{p:Prop}(h:p:=by rw[eD,if_neg p1,if_neg p2,if_neg (by omega),if_pos (by show aJ (⟨z.apex,iU (gF z d++d.put)⟩:Zon)=false\/aM (⟨z.apex,iU (gF z d++d.put)⟩:Zon)≠d.too;rw[hb];grind)];try rfl):p:=h
theorem _root_.o0u{p:Prop}(h:p:=by(try simp only[go_sem,ff]);all_goals (first|done|((repeat' (with_reducible apply And.intro))<;>first|exact(λ_=>EN _ _ (uH hn hk4) (hn.2 _ hk2))|omega|(intros;omega)|skip))):p:=h
theorem _root_.o0t{p:Prop}(h:p:=by exact⟨rfl,by rw[hsg,hps];exact CK (EE pg hN hbad (by omega)) (by omega),(bA.via hs5 (λ_ _ _=>rfl) (jN.trans (aQ.down o5j)) (Nat.le_refl _))⟩):p:=h
theorem _root_.o0q{p:Prop}(h:p:=by(try simp only[go_sem,ff]);all_goals (first|done|((repeat' (with_reducible apply And.intro))<;>first|(have q9:=DX d;rw[hd]at q9;exact q9)|(intros;have q9:=DX d;rw[hd]at q9;exact q9)|skip))):p:=h
theorem _root_.o0p{p:Prop}(h:p:=by(try simp only[go_sem,ff]);all_goals (first|done|((repeat' (with_reducible apply And.intro))<;>first|(intros;exact Gv s hs)|(intros;exact Ag x s (hm x hp))|exact(λ_=>Ag x s (hm x hp))|skip))):p:=h
theorem _root_.o0o{p:Prop}(h:p:=by(try simp only[go_sem,ff]);all_goals (first|done|((repeat' (with_reducible apply And.intro))<;>first|(intros;exact CJ s x t Dq)|(have h9:=CJ s x t Dq;simp only[go_sem,hh]at h9;exact h9)|skip))):p:=h
theorem _root_.o0m{p:Prop}(h:p:=by(try simp only[go_sem,ff]);all_goals (first|done|((repeat' (with_reducible apply And.intro))<;>first|exact(λ_=>rM _ _ (hn.2 _ hk2) (uH hn hi9))|omega|(intros;omega)|(intro h;simp at h;done)|skip))):p:=h
theorem _root_.o0l{p:Prop}(h:p:=by(try simp only[go_sem,ff]);all_goals (first|done|((repeat' (with_reducible apply And.intro))<;>first|exact(λ_=>rM _ _ (Km hn hk2) (FO hn hk h9))|omega|(intros;omega)|(intro h;simp at h;done)|skip))):p:=h
theorem _root_.o0j{p:Prop}(h:p:=by(try simp only[go_sem,ff]);all_goals (first|done|((repeat' (with_reducible apply And.intro))<;>first|(intros;exact sQ _ _ (hd _ (pY hf2)))|(intros;exact sQ _ _ (hd _ (pY hf2)))|omega|(intro h;cases h)|skip))):p:=h
theorem _root_.o0c{p:Prop}(h:p:=by(try simp only[go_sem,ff]);all_goals (first|done|((repeat' (with_reducible apply And.intro))<;>first|(intros;exact um (xm l b n) l hl2 hp hvs (by have:=BZ l b n;omega))|(intros;exact um (-1) l hl2 hp hvs (by omega))|(intros;exact um (nJ (λi=>decide (aM l[i]! = n)) l.length) l hl2 hp hvs (by omega))|skip))):p:=h
variable [Glob prog] [Told]
theorem Zfh(l:Str):fV l<256^l.length:=by
 have key : ∀(l:Str)(a:Nat),l.foldl gK a<256^l.length*(a+1):=by
  intro l
  induction l with
  | nil=>intro a;simp
  | cons c l ih =>
   intro a;have h1:=ih (gK a c);have h2:gK a c+1<=256*(a+1):=by unfold gK;have:=c.toNat_lt;omega
   rw[YH,YS,Nat.pow_succ,Nat.mul_assoc];exact YD h1 (Nat.mul_le_mul_left _ h2)
 have:=key l 0
 unfold fV
 omega
def Sv(k:Nat)(st:RS):(bT k st).1.length<=k:=by
 unfold bT
 split
 . simp
 simp[YA];omega
def zz(k:Int)(st:RS):(bT k st).2.1.length<=st.1.length:=by
 unfold bT
 split
 . simp
 simp
def Ba(k:Nat)(st:RS):(au k st).1<256^k:=YD (Zfh _) (Nat.pow_le_pow_right om (Sv k st))
def CL(u:Nat):Nat:=u*256 % 18446744073709551616
def shl8(u:Nat):IntKind.u64.wrap ((u:Int)*2^(min (8:Int).toNat IntKind.u64.bits))=((CL u:Nat):Int):=by
 unfold CL
 rw[IntKind.wrap_u64]
 simp[IntKind.bits]
def or8(u:Nat)(c:UInt8):IntKind.u64.wrap (BitVec.ofInt 64 ((CL u:Nat):Int) ||| BitVec.ofInt 64 (IntKind.u64.wrap (c.toNat:Int))).toNat=((gK u c:Nat):Int):=by
 have hc:=c.toNat_lt
 have e0:IntKind.u64.wrap (c.toNat:Int)=(c.toNat:Int):=by rw[IntKind.wrap_u64];omega
 rw[e0]
 unfold CL
 rw[BitVec.ofInt_natCast,BitVec.ofInt_natCast,BitVec.toNat_or,BitVec.toNat_ofNat,BitVec.toNat_ofNat,ZB (show c.toNat<2^64 by omega),Nat.mod_mod_of_dvd _ (by decide:2^64 ∣ 18446744073709551616)]
 have e2:u*256 % 18446744073709551616=2^8*(u % 72057594037927936):=by omega
 rw[e2,<-Nat.two_pow_add_eq_or_of_lt (show c.toNat<2^8 by omega)]
 rw[IntKind.wrap_u64]
 unfold gK
 omega
attribute [irreducible] CL
attribute [local irreducible] gK
def M7{u:Nat}(h:u<9223372036854775808):IntKind.i64.wrap (u:Int)=(u:Int):=by rw[IntKind.wrap_i64];omega
def bo199:dY prog 199=true:=by kernel_rfl
def Jj(x:Str)(m:Nat)(h:H)(n R:Nat)(hb:jC h R x)(hx:x.length<=1000000000)(hm:m<=8):ol prog 199 [.mptr R 0 0,.i m] h n (λd h' n'=>∃x':Str,(au m (x,false)).2=(x',false)/\d = .v (.int .u64 (((au m (x,false)).1:Nat):Int))/\jC h' R x'/\bA h h' R n n') (λc h' n'=>c=uU/\(au m (x,false)).2.2=true/\bA h h' R n n'):=by
 refine Cz func199 rfl bo199 (by simp[f199]) (λhnone=>?_)
 unfold f199
 have ff:=True.intro
 refine oC Tp ?_
 refine ae ?_
 refine cB ?_
 refine jc 2 (C:=Tp) (hct:=by exact Ji x m _ _ R hb hx om) (hp:=?_) (hk:=?_)
 .
  rintro c9 h9 n9 ⟨rfl,hbad,aQ⟩
  try simp only[iy,iH]
  exact jy _ (by exact⟨rfl,hbad,((aQ.down oW).up oW)⟩) (hn:=XX _) (hh:=λ_=>.inl rfl)
 rintro res h2 n2 ⟨x2,hp2,⟨f1,rfl⟩,hb2,aU⟩
 have hbl:=Sv m (x,false)
 obtain⟨b,hbe⟩:∃b,b=(bT m (x,false)).1:=⟨_,rfl⟩
 rw[<-hbe]at hbl
 try rw[<-hbe]
 refine aP Tp ?_
 try simp only[aI]
 refine aj ?_
 refine jm (α:=(Nat)×(Nat)×Nat) [10,11] (λ⟨k,u,nx⟩=>(k<=b.length)/\(u=fV (b.take k))/\(n2<=nx)/\True) (λ⟨k,u,nx⟩=>b.length-k) (λ⟨k,u,nx⟩=>[(5,.v (.int .u64 ((u:Nat):Int))),(12,.i k)]) (λ⟨k,u,nx⟩=>h2) (λ⟨k,u,nx⟩=>nx) (0,0,_) (hA:=⟨iv,rfl,iv,trivial⟩) (round:=?_)
 rintro⟨k,u,nx⟩ ⟨hk,hu,hn, -⟩
 simp only[XY,X0]
 refine aa Tp ?_
 refine ae ?_
 refine cd ?_ ?_<;>intro c1
 .
  have hk2:k<b.length:=by omega
  have ff:=qA (F6 hk2) ff;refine ah ?_;refine ae ?_;refine aj ?_;refine aa Tp ?_;refine sV ?_;refine Vj Tp 1 (.int .u64 ((CL u:Nat):Int)) ?_ (hv:=by exact congrArg (Value.int .u64) (shl8 u)) (hp:=by exact(by decide:(0:Int)<=8))
  refine Vj Tp 4 (.int .u64 ((gK u (b.getD k 0):Nat):Int)) ?_ (hv:=by exact congrArg (Value.int .u64) (or8 u (b.getD k 0))) (hp:=by exact rfl)
  refine aP Tp ?_
  try simp only[aI]
  refine ai Tp ?_
  show ∃_,_
  exact ay (k+1,gK u (b.getD k 0),_) (h1:=⟨iv,(by(try dsimp only);rw[Ta b k hk2,<-hu]),iv,trivial⟩)
 have hk3:k=b.length:=by omega
 subst hk3
 rw[Yn]at hu
 subst hu
 subst hbe
 refine aH ?_
 refine aa Tp ?_
 refine aL ?_
 exact DN (.inr rfl) (_) (hh:=λ_=>.inl rfl) (hr:=oS (k:=by exact⟨x2,hp2,rfl,hb2,(aU.down oW).up oW⟩))
def M0(x:Str)(h:H)(n R:Nat)(hb:jC h R x)(hx:x.length<=1000000000):ol prog 199 [.mptr R 0 0,.i 1] h n (λd h' n'=>∃x':Str,(au 1 (x,false)).2=(x',false)/\d = .v (.int .u64 (((au 1 (x,false)).1:Nat):Int))/\jC h' R x'/\bA h h' R n n') (λc h' n'=>c=uU/\(au 1 (x,false)).2.2=true/\bA h h' R n n'):=Jj x 1 h n R hb hx om
def ZgU(x:Str)(h:H)(n R:Nat)(hb:jC h R x)(hx:x.length<=1000000000):ol prog 199 [.mptr R 0 0,.i 2] h n (λd h' n'=>∃x':Str,(au 2 (x,false)).2=(x',false)/\d = .v (.int .u64 (((au 2 (x,false)).1:Nat):Int))/\jC h' R x'/\bA h h' R n n') (λc h' n'=>c=uU/\(au 2 (x,false)).2.2=true/\bA h h' R n n'):=Jj x 2 h n R hb hx om
def Jk(x:Str)(h:H)(n R:Nat)(hb:jC h R x)(hx:x.length<=1000000000):ol prog 199 [.mptr R 0 0,.i 4] h n (λd h' n'=>∃x':Str,(au 4 (x,false)).2=(x',false)/\d = .v (.int .u64 (((au 4 (x,false)).1:Nat):Int))/\jC h' R x'/\bA h h' R n n') (λc h' n'=>c=uU/\(au 4 (x,false)).2.2=true/\bA h h' R n n'):=Jj x 4 h n R hb hx om
def yl(x:Str)(h:H)(n R:Nat)(hb:jC h R x)(hx:x.length<=1000000000):ol prog 199 [.mptr R 0 0,.i 8] h n (λd h' n'=>∃x':Str,(au 8 (x,false)).2=(x',false)/\d = .v (.int .u64 (((au 8 (x,false)).1:Nat):Int))/\jC h' R x'/\bA h h' R n n') (λc h' n'=>c=uU/\(au 8 (x,false)).2.2=true/\bA h h' R n n'):=Jj x 8 h n R hb hx om
def bo202:dY prog 202=true:=by kernel_rfl
def Jh(x:Str)(h:H)(n R:Nat)(hb:jC h R x)(hx:x.length<=1000000000):ol prog 202 [.mptr R 0 0] h n (λd h' n'=>∃x':Str,(bS (x,false)).2=(x',false)/\d = .v (.string (bs (bS (x,false)).1))/\jC h' R x'/\bA h h' R n n') (λc h' n'=>c=uU/\(bS (x,false)).2.2=true/\bA h h' R n n'):=by
 refine Cz func202 rfl bo202 (by simp[f202]) (λhnone=>?_)
 unfold f202
 have ff:=True.intro
 refine aa Tp ?_
 refine cB ?_
 refine jc 1 (C:=Tp) (hct:=by exact M0 x _ _ R hb hx) (hp:=?_) (hk:=?_)
 .
  rintro c9 h9 n9 ⟨rfl,hbad,aQ⟩
  try simp only[iy,iH]
  exact jy _ (by exact⟨rfl,by unfold bS;rw[wB (.inl hbad)],((aQ.down oW).up oW)⟩) (hn:=XX _) (hh:=λ_=>.inl rfl)
 rintro res h2 n2 ⟨x2,hp2,rfl,hb2,aU⟩
 have Dt:(au 1 (x,false)).1<256^1:=Ba 1 (x,false)
 obtain⟨u,hue⟩:∃u,u=(au 1 (x,false)).1:=⟨_,rfl⟩
 try rw[<-hue]
 rw[<-hue]at Dt
 have e1:=M7 (u:=u) (by omega)
 have ff:=qA e1 ff
 have hx2:x2.length<=1000000000:=by have:=zz 1 (x,false);rw[show bT 1 (x,false)=((bT 1 (x,false)).1,(x2,false))from Prod.ext rfl hp2]at this;exact Yh this hx
 refine aP Tp ?_
 try simp only[aI]
 refine cB ?_
 refine jc 2 (C:=Tp) (hct:=by exact Ji x2 u _ _ R hb2 hx2 om) (hp:=?_) (hk:=?_)
 .
  rintro c9 h9 n9 ⟨rfl,hbad,aQ⟩
  try simp only[iy,iH]
  exact jy _ (by exact⟨rfl,by unfold bS;rw[hp2,<-hue];exact hbad,((aU.down oW).trans (aQ.down oW)).up oW⟩) (hn:=XX _) (hh:=λ_=>.inl rfl)
 rintro res h3 n3 ⟨x3,hp3,⟨f1,rfl⟩,hb3,eX⟩
 refine aP Tp ?_
 try simp only[aI]
 refine aL ?_
 exact DN (.inr rfl) (_) (hh:=λ_=>.inl rfl) (hr:=oS (k:=by have e3:bS (x,false)=bT u (x2,false):=(by unfold bS;rw[hp2,<-hue]);rw[e3];exact⟨x3,hp3,rfl,hb3,((aU.down oW).trans (eX.down oW)).up oW⟩))
def XG{k:Int}{st:RS}(h:st.2=true):(bT k st).2.2=true:=by rw[wB (.inl h)]
theorem uV{k:Int}{st:RS}(h:st.2=true):(au k st).2.2=true:=XG h
def nN:Nat->RS->RS
 | 0,st=>st
 | k+1,st=>(au 8 (nN k st)).2
def nV(k:Nat)(st:RS):Int:=sN (au 8 (nN k st)).1
def zI{k:Nat}{st:RS}{x x':Str}(h:nN k st=(x,false))(h2:(au 8 (x,false)).2=(x',false)):nN (k+1) st=(x',false):=by
 show(au 8 (nN k st)).2=_
 rw[h,h2]
theorem MB{st:RS}{k:Nat}(h:(nN k st).2=true):∀j,(nN (k+j) st).2=true
 | 0=>h
 | j+1=>uV (MB h j)
def ZfI{st:RS}{k m:Nat}{x:Str}(h:nN k st=(x,false))(h2:(au 8 (x,false)).2.2=true)(hk:k<m):(nN m st).2=true:=by
 have h3:(nN (k+1) st).2=true:=by
  show(au 8 (nN k st)).2.2=true
  rw[h];exact h2
 have:=MB h3 (m-(k+1))
 rwa [show k+1+(m-(k+1))=m by omega]at this
def I6{k:Nat}{st:RS}{x:Str}(h:nN k st=(x,false)):IntKind.i64.wrap (((au 8 (x,false)).1:Nat):Int)=nV k st:=by
 unfold nV
 rw[h]
 rfl
theorem IP(st:RS):lD st=(⟨(bS st).1,nV 0 (bS st).2,nV 1 (bS st).2,nV 2 (bS st).2,nV 3 (bS st).2,(au 8 (nN 4 (bS st).2)).1⟩,nN 5 (bS st).2):=rfl
def ZcD{st:RS}(h:(bS st).2.2=true):(lD st).2.2=true:=by
 rw[IP]
 exact MB (k:=0) h 5
def EE{st:RS}{k:Nat}{x5 x:Str}(h:(bS st).2=(x5,false))(h1:nN k (x5,false)=(x,false))(h2:(au 8 (x,false)).2.2=true)(hk:k<5):(lD st).2.2=true:=by
 rw[IP,h]
 exact ZfI h1 h2 hk
def ZcA{st:RS}{x5 x x':Str}(h:(bS st).2=(x5,false))(h1:nN 4 (x5,false)=(x,false))(h2:(au 8 (x,false)).2=(x',false)):lD st=(⟨(bS st).1,nV 0 (x5,false),nV 1 (x5,false),nV 2 (x5,false),nV 3 (x5,false),(((au 8 (x,false)).1:Nat):Int)⟩,(x',false)):=by
 rw[IP,h,h1]
 show(_,(au 8 (nN 4 (x5,false))).2)=_
 rw[h1,h2]
theorem Lm{st:RS}(h:st.2=true)(o:List RSig):∀k,jH k o st=(o,st)
 | 0=>rfl
 | k+1=>by unfold jH;rw[X3 h]
theorem QD{x:Str}{o:List RSig}{k:Nat}:jH (k+1) o (x,false)=jH k (o++[(lD (x,false)).1]) (lD (x,false)).2:=rfl
def CK{x:Str}{o:List RSig}{k:Nat}(h:(lD (x,false)).2.2=true)(hk:0<k):(jH k o (x,false)).2.2=true:=by
 obtain⟨j,rfl⟩:∃j,k=j+1:=⟨k-1,om⟩
 rw[QD,Lm h]
 exact h
def CU(z:Str)(st:RS)(j:Nat):List D:=[.v (.string (bs z)),.i (if 0<j then nV 0 st else 0),.i (if 1<j then nV 1 st else 0),.i (if 2<j then nV 2 st else 0),.i (if 3<j then nV 3 st else 0),.v (.int .u64 0)]
def bA.via{h h1 H2 h':H}{R n n1 m n':Nat}(a:bA h h1 R n n1)(k : ∀q,q<n->q≠R->H2 q=h1 q)(b:bA H2 h' R m n')(hm:n1<=m):bA h h' R n n' :=
 ⟨by have:=a.1;have:=b.1;omega,λq q1 q2=>(b.2 q (by have:=a.1;omega) q2).trans ((k q q1 q2).trans (a.2 q q1 q2))⟩
def rv{h h1 H2 h':H}{R n n1 m n':Nat}(a:bA h h1 R n n1)(b:bA H2 h' R m n')(k : ∀q,q<n->q≠R->H2 q=h1 q:=by intro q q1 q2;first|rfl|((try dsimp only);simp only[upd];repeat (first|rfl|rw[if_neg (by omega)])))(hm:n1<=m:=by first|omega|(dsimp only;omega)):bA h h' R n n':=a.via k b hm
def kp{h1 h2:H}{R n n' c:Nat}{v:Option eZ}(st:bA h1 h2 R n n')(e:h1 c=v:=by simp only[go_sem,ff];first|done|exact rfl)(o1:c<n:=by first|omega|(dsimp only;omega))(o2:c≠R:=by omega):h2 c=v:=(st.2 c o1 o2).trans e
def rz{k:Int}{x x':Str}(h:(au k (x,false)).2=(x',false)):x'.length<=x.length:=by
 have:=zz k (x,false)
 rw[show(bT k (x,false)).2=(x',false)from h]at this
 exact this
def ZbJ{k:Int}{x x':Str}(h:(bT k (x,false)).2=(x',false)):x'.length<=x.length:=rz h
def Hm{x x':Str}(h:(bS (x,false)).2=(x',false)):x'.length<=x.length:=by
 have h1:=zz (au 1 (x,false)).1 (au 1 (x,false)).2
 have h2:=zz 1 (x,false)
 rw[show bT (au 1 (x,false)).1 (au 1 (x,false)).2=bS (x,false)from rfl,h]at h1
 exact Yh h1 h2
def ZeU{x x2 x3:Str}(h:(au 2 (x,false)).2=(x2,false))(h3:(bT ((au 2 (x,false)).1:Nat) (x2,false)).2=(x3,false)):j4 (x,false)=((bT ((au 2 (x,false)).1:Nat) (x2,false)).1,(x3,false)):=by
 unfold j4
 rw[h]
 exact Prod.ext rfl h3
def Q0{st:RS}(h:(j4 st).2.2=true):(iC st).2.2=true:=by
 unfold iC
 split
 . exact h
 rfl
def ZcV{st:RS}(h:(iV (j4 st).1).2≠0):(iC st).2.2=true:=by
 unfold iC
 rw[XV h]
def ZcU{st:RS}{b x3:Str}(h:j4 st=(b,(x3,false)))(h2:(iV b).2=0):iC st=((iV b).1,(x3,false)):=by
 unfold iC
 rw[h,X3 h2]
def Lt{st:RS}(h:(iC st).2.2=true):(iW st).2.2=true:=by
 show(jH _ _ _).2.2=true
 rw[Lm (uV h)]
 exact uV h
def ZcL{x x3:Str}{s:RSet}(h:iC (x,false)=(s,(x3,false)))(h2:(au 1 (x3,false)).2.2=true):(iW (x,false)).2.2=true:=by
 show(jH _ _ _).2.2=true
 rw[h,Lm h2]
 exact h2
def ZcK{x x3 x4:Str}{s:RSet}(h:iC (x,false)=(s,(x3,false)))(h2:(au 1 (x3,false)).2=(x4,false)):iW (x,false)=(⟨s,(jH (au 1 (x3,false)).1 [] (x4,false)).1⟩,(jH (au 1 (x3,false)).1 [] (x4,false)).2):=by
 unfold iW
 simp only[h,h2]
set_option maxHeartbeats 2000000
def bo203:dY prog 203=true:=by kernel_rfl
def UF(x:Str)(h:H)(n R:Nat)(hb:jC h R x)(hx:x.length<=1000000000):ol prog 203 [.mptr R 0 0] h n (λd h' n'=>∃x':Str,(iW (x,false)).2=(x',false)/\d = .agg (iW (x,false)).1.d/\jC h' R x'/\bA h h' R n n') (λc h' n'=>c=uU/\(iW (x,false)).2.2=true/\bA h h' R n n'):=by
 refine Cz func203 rfl bo203 (by simp[f203]) (λhnone=>?_)
 unfold f203
 have ff:=True.intro
 obtain⟨f,hR⟩:=hb
 have hRn:R<n:=by rcases YG R n with q|q;exact q;rw[hnone R q]at hR;cases hR
 have ff:=qD @hR (nG R n) (nH R n) ff
 refine aa Tp ?_
 refine cB ?_
 refine jc 1 (C:=Tp) (hct:=by exact ZgU x _ _ R ⟨f,by simp only[go_sem,ff];first|done|exact rfl⟩ hx) (hp:=?_) (hk:=?_)
 .
  rintro c9 h9 n9 ⟨rfl,hbad,aQ⟩
  try simp only[iy,iH]
  exact jy _ (by exact⟨rfl,Lt (Q0 (by unfold j4;exact XG hbad)),(rv (bA.refl (h:=h) (R:=R) (XX n)) aQ)⟩) (hn:=XX _) (hh:=λ_=>.inl rfl)
 rintro res h2 n2 ⟨x2,hp2,rfl,hb2,aU⟩
 try dsimp only at aU
 have hl2:=aU.1
 obtain⟨f2,hR2⟩:=hb2
 have hn2:h2 n=some ⟨84,[[.v (.string (bs [])),.i 0,.i 0,.list true [],.list true []]]⟩:=kp aU
 have hs2:bA h h2 R n n2:=(rv (bA.refl (h:=h) (R:=R) (XX n)) aU)
 have Dt:(au 2 (x,false)).1<256^2:=Ba 2 (x,false)
 obtain⟨u,hue⟩:∃u,u=(au 2 (x,false)).1:=⟨_,rfl⟩
 try rw[<-hue]
 rw[<-hue]at Dt
 have e1:=M7 (u:=u) (by omega)
 have ff:=qF hR2 hn2 e1 (nG R n2) (nG n n2) ff
 have ff:=qG hR2 hn2 e1 (nH R n) (nG R n2) (nG n n2) ff
 have hx2:=Yh (rz hp2) hx
 refine aP Tp ?_
 try simp only[aI]
 refine cB ?_
 refine jc 2 (C:=Tp) (hct:=by exact Ji x2 u _ _ R ⟨f2,by simp only[go_sem,ff];first|done|exact rfl⟩ hx2 (by omega)) (hp:=?_) (hk:=?_)
 .
  rintro c9 h9 n9 ⟨rfl,hbad,aQ⟩
  try simp only[iy,iH]
  exact jy _ (by exact⟨rfl,Lt (Q0 (by unfold j4;rw[hp2,<-hue];exact hbad)),(rv hs2 aQ)⟩) (hn:=XX _) (hh:=λ_=>.inl rfl)
 rintro res h3 n3 ⟨x3,hp3,⟨f1,rfl⟩,hb3,eX⟩
 try dsimp only at eX
 have hl3:=eX.1
 obtain⟨f3,hR3⟩:=hb3
 have hn3:h3 n=some ⟨84,[[.v (.string (bs [])),.i 0,.i 0,.list true [],.list true []]]⟩:=kp eX
 have hs3:bA h h3 R n n3:=(rv hs2 eX)
 rw[hue]at hp3
 have hraw:=ZeU hp2 hp3
 rw[<-hue]at hraw
 obtain⟨b,hbe⟩:∃b,b=(bT u (x2,false)).1:=⟨_,rfl⟩
 rw[<-hbe]at hraw
 try rw[<-hbe]
 have ff:=qE hR3 hn3 (nG R n3) (nG n n3) ff
 refine aP Tp ?_ (hok:=by(try simp only[go_sem,ff]);all_goals (exact ZdI b))
 try simp only[aI]
 refine ae ?_
 refine aa Tp ?_
 refine cd ?_ ?_<;>intro c1
 .
  refine sV ?_;refine DD Tp 1 (d:=.v (kg iP)) (t:=339) (v:=.pointer (some iP)) ?_ (λw g u hu=>hu.v_inv)
  try simp only[iy,iH]
  exact jy _ (by exact⟨rfl,Lt (ZcV (by rw[hraw];exact c1)),(rv hs3 (bA.refl (XX _)))⟩) (hn:=XX _) (hh:=λ_=>.inl rfl)
 .
  have hset:=ZcU hraw c1;obtain⟨rs,hrs⟩:∃rs,rs=(iV b).1:=⟨_,rfl⟩
  try rw[<-hrs]
  rw[<-hrs]at hset;have hx3:=Yh (ZbJ hp3) hx2;refine ah ?_
  show DW _ _ _ _ _
  refine aa Tp ?_;refine ae ?_;refine yG (n3+14) 4 84 153 o5i (by rfl) o5v ?_
  simp only[YW,YP];obtain⟨C,FZ⟩:∃C,C=n3+14:=⟨_,rfl⟩;rw[<-FZ];obtain⟨O,hOe⟩:∃O,O=n3+16:=⟨_,rfl⟩;rw[<-hOe];have ff:=qG (nH R n) (nH C R) (nH O R) (nH C n) (nH O n) (nH C O) ff;refine cB ?_;refine jc 1 (C:=Tp) (hct:=by exact M0 x3 _ _ R ⟨f3,by simp only[go_sem,ff];first|done|exact rfl⟩ hx3) (hp:=?_) (hk:=?_)
  .
   rintro c9 h9 n9 ⟨rfl,hbad,aQ⟩
   try simp only[iy,iH]
   exact jy _ (by exact⟨rfl,ZcL hset hbad,(rv hs3 aQ)⟩) (hn:=XX _) (hh:=λ_=>.inl rfl)
  rintro res h4 n4 ⟨x4,uG,rfl,hb4,iN⟩
  try dsimp only at iN
  have hl4:=iN.1;obtain⟨f4,uJ⟩:=hb4;have nP:h4 n=some ⟨84,[[.v (.string (bs [])),.i 0,.i 0,.list true [],.list true []]]⟩:=kp iN;have BU:h4 C=some ⟨84,[[.v (.string (bs rs.name)),.i rs.ty,.i rs.life,.list false (rs.data.map Dat.d),.mrow O 0 0]]⟩:=kp iN;have hO4:h4 O=some ⟨153,[]⟩:=kp iN;have hs4:bA h h4 R n n4:=(rv hs3 iN);have FV:(au 1 (x3,false)).1<256^1:=Ba 1 (x3,false);have hsg:=ZcK hset uG;obtain⟨N,FW⟩:∃N,N=(au 1 (x3,false)).1:=⟨_,rfl⟩
  try rw[<-FW]
  rw[<-FW]at FV hsg;have ff:=qI uJ nP BU hO4 (nG R n4) (nG n n4) (nG C n4) (nG O n4) ff;have hx4:=Yh (rz uG) hx3;refine aP Tp ?_
  try simp only[aI]
  refine aj ?_;refine jm (α:=(Nat)×(List RSig)×(Str)×(Nat)×(H)×Nat) [0,2,6,26] (λ⟨k,o,xs,r,hq,nx⟩=>(k<=N)/\(jH N [] (x4,false)=jH (N-k) o (xs,false))/\(o.length=k)/\(jC hq R xs)/\(hq C=some ⟨84,[[.v (.string (bs rs.name)),.i rs.ty,.i rs.life,.list false (rs.data.map Dat.d),.mrow r 0 k]]⟩)/\(hq r=some ⟨153,(o).map RSig.d⟩)/\(hq n=some ⟨84,[[.v (.string (bs [])),.i 0,.i 0,.list true [],.list true []]]⟩)/\(bA h hq R n nx)/\(C<r)/\(r<nx)/\(xs.length<=1000000000)/\True) (λ⟨k,o,xs,r,hq,nx⟩=>N-k) (λ⟨k,o,xs,r,hq,nx⟩=>[(27,.v (.int .u64 ((k:Nat):Int)))]) (λ⟨k,o,xs,r,hq,nx⟩=>hq) (λ⟨k,o,xs,r,hq,nx⟩=>nx) (0,[],x4,O,h4,_) (hA:=⟨iv,rfl,rfl,⟨f4,uJ⟩,BU,hO4,nP,(by first|(exact hs4.up (by omega))|(dsimp only;exact hs4.up (by omega))),oW,oW,iv,trivial⟩) (round:=?_)
  rintro⟨k,o,xs,r,hq,nx⟩ ⟨hk,hps,hol,vO,hC,hr,hn,hst,hCr,hrx,hxl, -⟩
  show DW _ _ _ _ { n:=_,t:=tab _,h:=_,nx:=_,e:=_ }
  simp only[XY,X0];obtain⟨fs,uI⟩:=vO;have e7:=y7 (n:=k+1) (by omega)
  have e7b:((k+1:Nat):Int)=(k:Int)+1:=by omega
  rw[e7b]at e7;have ff:=qH @uI @hC @hr @hn @e7 (nG R nx) (nG n nx) (qI (nG C nx) (nG r nx) (nH R n) (nH C R) (nH R r) (nH C n) (nH n r) (nH C r) ff);refine aa Tp ?_;refine ae ?_;refine cd ?_ ?_<;>intro c2
  .
   have hk2:k<N:=by omega
   obtain⟨M,hM⟩:∃M,N-k=M+1:=⟨N-k-1,by omega⟩
   refine ah ?_
   show DW _ _ _ _ _
   refine ae ?_;refine aj ?_;refine cB ?_;refine jc 1 (C:=Tp) (hct:=by exact Jh xs _ _ R ⟨fs,by simp only[go_sem,ff];first|done|exact rfl⟩ hxl) (hp:=?_) (hk:=?_)
   .
    rintro c9 h9 n9 ⟨rfl,hbad,aQ⟩
    try simp only[iy,iH]
    exact jy _ (by exact⟨rfl,by rw[hsg,hps];exact CK (ZcD hbad) (by omega),(rv hst aQ)⟩) (hn:=XX _) (hh:=λ_=>.inl rfl)
   rintro res h5 n5 ⟨x5,pg,rfl,hb5,fT⟩
   try dsimp only at fT
   have hl5:=fT.1;obtain⟨f5,vQ⟩:=hb5;have BJ:h5 n=some ⟨84,[[.v (.string (bs [])),.i 0,.i 0,.list true [],.list true []]]⟩:=kp fT;have hC5:h5 C=some ⟨84,[[.v (.string (bs rs.name)),.i rs.ty,.i rs.life,.list false (rs.data.map Dat.d),.mrow r 0 k]]⟩:=kp fT;have hr5:h5 r=some ⟨153,(o).map RSig.d⟩:=kp fT;have hs5:bA h h5 R n n5:=(rv hst fT);obtain⟨zt,Fv⟩:∃z,z=(bS (xs,false)).1:=⟨_,rfl⟩
   try rw[<-Fv]
   have ff:=qI vQ BJ hC5 hr5 (nG R n5) (nG n n5) (nG C n5) (nG r n5) ff;have hx5:=Yh (Hm pg) hxl;refine aP Tp ?_
   try simp only[aI]
   refine ae ?_;obtain⟨q,hqe⟩:∃q,q=n5+3:=⟨_,rfl⟩;rw[<-hqe];simp only[yZ];have ff:=qB (nH R n) (nH C R) (qI (nH R r) (nH R q) (nH C n) (nH n r) (nH n q) (nH C r) (nH C q) (nH q r) ff);refine aa Tp ?_;refine aj ?_;refine jm (α:=(Nat)×(Str)×(H)×Nat) [0,2,6,7,26,27,36,37] (λ⟨j,iT,hq2,nx⟩=>(j<=4)/\(nN j (x5,false)=(iT,false))/\(jC hq2 R iT)/\(hq2 q=some ⟨153,[CU zt (x5,false) j]⟩)/\(bA h5 hq2 R n5 nx)/\(q<nx)/\(iT.length<=1000000000)/\True) (λ⟨j,iT,hq2,nx⟩=>4-j) (λ⟨j,iT,hq2,nx⟩=>[(38,.i j)]) (λ⟨j,iT,hq2,nx⟩=>hq2) (λ⟨j,iT,hq2,nx⟩=>nx) (0,x5,upd h5 q (some ⟨153,[CU zt (x5,false) 0]⟩),_) (hA:=⟨iv,rfl,(by(try dsimp only);exact⟨f5,by rw[aK _ _ _ _ (by omega)];exact vQ⟩),(bN _ _ _),(by(try dsimp only);exact⟨by omega,λp p1 p2=>aK _ _ _ _ (by omega)⟩),iv,oW,trivial⟩) (round:=?_)
   rintro⟨j,iT,hq2,nx⟩ ⟨hj,hN,hb10,hQ,jN,hqx,tL, -⟩
   show DW _ _ _ _ { n:=_,t:=tab _,h:=_,nx:=_,e:=_ }
   simp only[XY,X0];obtain⟨fs2,hR10⟩:=hb10;have ff:=qH @hR10 @hQ (nG q nx) (nG R nx) (nG n nx) (nG C nx) (nG r nx) ff;refine aa Tp ?_;refine ae ?_;refine cd ?_ ?_<;>intro c3
   .
    have hj2:j<4:=by omega
    refine ah ?_
    show DW _ _ _ _ _
    refine ae ?_;refine aj ?_
    rcases(by omega:j=0\/j=1\/j=2\/j=3)with rfl|rfl|rfl|rfl
    .
     have hQ:hq2 q=some ⟨153,[[.v (.string (bs zt)),.i 0,.i 0,.i 0,.i 0,.v (.int .u64 0)]]⟩:=hQ;have ff:=qA @hQ ff;refine aa Tp ?_;refine sV ?_;refine jc 2 (C:=Tp) (hct:=o2z) (hp:=?_) (hk:=?_)
     .
      rintro c9 h9 n9 ⟨rfl,hbad,aQ⟩
      try simp only[iy,iH]
      exact jy _ o0t (hn:=Nat.le_refl _) (hh:=λ_=>.inl rfl)
     rintro res h8 n8 ⟨x8,l8,rfl,w9,iw⟩
     try dsimp only at iw
     have BL:=iw.1;obtain⟨f8,qN⟩:=w9;have BR:h8 q=some ⟨153,[[.v (.string (bs zt)),.i 0,.i 0,.i 0,.i 0,.v (.int .u64 0)]]⟩:=kp iw;have hv:=I6 hN;have ff:=qI qN BR hv (nG R n8) (nG n n8) (nG C n8) (nG r n8) (nG q n8) ff;have Dr:=Yh (rz l8) tL;refine aP Tp ?_
     try simp only[aI]
     show DW _ _ _ _ _
     refine ai Tp ?_
     show ∃_,_
     exact ay (1,x8,upd h8 q (some ⟨153,[CU zt (x5,false) 1]⟩),_) (h1:=⟨iv,(zI hN l8),o3q,(bN _ _ _),o1b,iv,iv,trivial⟩)
    .
     have hQ:hq2 q=some ⟨153,[[.v (.string (bs zt)),.i (nV 0 (x5,false)),.i 0,.i 0,.i 0,.v (.int .u64 0)]]⟩:=hQ;have ff:=qA @hQ ff;refine aa Tp ?_;refine sV ?_;refine jc 2 (C:=Tp) (hct:=o2z) (hp:=?_) (hk:=?_)
     .
      rintro c9 h9 n9 ⟨rfl,hbad,aQ⟩
      try simp only[iy,iH]
      exact jy _ o0t (hn:=Nat.le_refl _) (hh:=λ_=>.inl rfl)
     rintro res h8 n8 ⟨x8,l8,rfl,w9,iw⟩
     try dsimp only at iw
     have BL:=iw.1;obtain⟨f8,qN⟩:=w9;have BR:h8 q=some ⟨153,[[.v (.string (bs zt)),.i (nV 0 (x5,false)),.i 0,.i 0,.i 0,.v (.int .u64 0)]]⟩:=kp iw;have hv:=I6 hN;have ff:=qI qN BR hv (nG R n8) (nG n n8) (nG C n8) (nG r n8) (nG q n8) ff;have Dr:=Yh (rz l8) tL;refine aP Tp ?_
     try simp only[aI]
     show DW _ _ _ _ _
     refine ai Tp ?_
     show ∃_,_
     exact ay (2,x8,upd h8 q (some ⟨153,[CU zt (x5,false) 2]⟩),_) (h1:=⟨iv,(zI hN l8),o3q,(bN _ _ _),o1b,iv,iv,trivial⟩)
    .
     have hQ:hq2 q=some ⟨153,[[.v (.string (bs zt)),.i (nV 0 (x5,false)),.i (nV 1 (x5,false)),.i 0,.i 0,.v (.int .u64 0)]]⟩:=hQ;have ff:=qA @hQ ff;refine aa Tp ?_;refine sV ?_;refine jc 2 (C:=Tp) (hct:=o2z) (hp:=?_) (hk:=?_)
     .
      rintro c9 h9 n9 ⟨rfl,hbad,aQ⟩
      try simp only[iy,iH]
      exact jy _ o0t (hn:=Nat.le_refl _) (hh:=λ_=>.inl rfl)
     rintro res h8 n8 ⟨x8,l8,rfl,w9,iw⟩
     try dsimp only at iw
     have BL:=iw.1;obtain⟨f8,qN⟩:=w9;have BR:h8 q=some ⟨153,[[.v (.string (bs zt)),.i (nV 0 (x5,false)),.i (nV 1 (x5,false)),.i 0,.i 0,.v (.int .u64 0)]]⟩:=kp iw;have hv:=I6 hN;have ff:=qI qN BR hv (nG R n8) (nG n n8) (nG C n8) (nG r n8) (nG q n8) ff;have Dr:=Yh (rz l8) tL;refine aP Tp ?_
     try simp only[aI]
     show DW _ _ _ _ _
     refine ai Tp ?_
     show ∃_,_
     exact ay (3,x8,upd h8 q (some ⟨153,[CU zt (x5,false) 3]⟩),_) (h1:=⟨iv,(zI hN l8),o3q,(bN _ _ _),o1b,iv,iv,trivial⟩)
    .
     have hQ:hq2 q=some ⟨153,[[.v (.string (bs zt)),.i (nV 0 (x5,false)),.i (nV 1 (x5,false)),.i (nV 2 (x5,false)),.i 0,.v (.int .u64 0)]]⟩:=hQ;have ff:=qA @hQ ff;refine aa Tp ?_;refine sV ?_;refine jc 2 (C:=Tp) (hct:=o2z) (hp:=?_) (hk:=?_)
     .
      rintro c9 h9 n9 ⟨rfl,hbad,aQ⟩
      try simp only[iy,iH]
      exact jy _ o0t (hn:=Nat.le_refl _) (hh:=λ_=>.inl rfl)
     rintro res h8 n8 ⟨x8,l8,rfl,w9,iw⟩
     try dsimp only at iw
     have BL:=iw.1;obtain⟨f8,qN⟩:=w9;have BR:h8 q=some ⟨153,[[.v (.string (bs zt)),.i (nV 0 (x5,false)),.i (nV 1 (x5,false)),.i (nV 2 (x5,false)),.i 0,.v (.int .u64 0)]]⟩:=kp iw;have hv:=I6 hN;have ff:=qI qN BR hv (nG R n8) (nG n n8) (nG C n8) (nG r n8) (nG q n8) ff;have Dr:=Yh (rz l8) tL;refine aP Tp ?_
     try simp only[aI]
     show DW _ _ _ _ _
     refine ai Tp ?_
     show ∃_,_
     exact ay (4,x8,upd h8 q (some ⟨153,[CU zt (x5,false) 4]⟩),_) (h1:=⟨iv,(zI hN l8),o3q,(bN _ _ _),o1b,iv,iv,trivial⟩)
   .
    obtain rfl:j=4:=by omega
    have hQ:hq2 q=some ⟨153,[[.v (.string (bs zt)),.i (nV 0 (x5,false)),.i (nV 1 (x5,false)),.i (nV 2 (x5,false)),.i (nV 3 (x5,false)),.v (.int .u64 0)]]⟩:=hQ;refine aH ?_
    show DW _ _ _ _ _
    refine cB ?_;refine jc 1 (C:=Tp) (hct:=o2z) (hp:=?_) (hk:=?_)
    .
     rintro c9 h9 n9 ⟨rfl,hbad,aQ⟩
     try simp only[iy,iH]
     exact jy _ o0t (hn:=Nat.le_refl _) (hh:=λ_=>.inl rfl)
    rintro res h9 n9 ⟨x9,FE,rfl,hb9,aQ⟩
    try dsimp only at aQ
    have vN:=aQ.1;obtain⟨f9,hR9⟩:=hb9;have hQ9:h9 q=some ⟨153,[[.v (.string (bs zt)),.i (nV 0 (x5,false)),.i (nV 1 (x5,false)),.i (nV 2 (x5,false)),.i (nV 3 (x5,false)),.v (.int .u64 0)]]⟩:=kp aQ;have hs7:=jN.trans (aQ.down o5j)
    have BI:=(hs7.2 n (by omega) (by omega)).trans BJ
    have hC9:=(hs7.2 C (by omega) (by omega)).trans hC5
    have hr9:=(hs7.2 r (by omega) (by omega)).trans hr5
    have hs9:=bA.via hs5 (λ_ _ _=>rfl) hs7 (XX _)
    have hsig:=ZcA pg hN FE;rw[<-Fv]at hsig;have ff:=qE hR9 hQ9 BI hC9 (qI hr9 (nG R n9) (nG n n9) (nG C n9) (nG r n9) (nG q n9) (nH R n) (nH C R) (qI (nH R r) (nH R q) (nH C n) (nH n r) (nH n q) (nH C r) (nH C q) (nH q r) ff));have mY:=Yh (rz FE) tL;refine aP Tp ?_
    try simp only[aI]
    refine ai Tp ?_
    show DW _ _ _ _ _
    refine ai Tp ?_
    show ∃_,_
    exact ay (k+1,o++[(lD (xs,false)).1],x9,(n9+8),_,_) (h1:=⟨iv,(by(try dsimp only);rw[hps,hM,QD,hsig,show N-(k+1)=M by omega]),o4j,(by(try dsimp only);exact⟨f9,by simp only[go_sem,ff];first|done|exact rfl⟩),o3x,(by(try dsimp only);rw[hsig];simp only[go_sem,ff,List.map_append,List.map_cons,List.map_nil];first|done|exact rfl),o3x,o4b,oW,oW,iv,trivial⟩) (h5:=λ_=>.inl rfl)
  .
   have hk3:N-k=0:=by omega
   rw[hk3]at hps;refine aH ?_
   show DW _ _ _ _ _
   refine yI C 4 r (rows:=o.map RSig.d) (off:=0) (len:=k) ev rfl ev (by omega) (by simp[hol]) E9 ?_
   simp only[X6,y8,YW,YP];refine aa Tp ?_;refine aL ?_;exact DN (.inr rfl) (_) (hh:=λ_=>.inl rfl) (hr:=by(try simp only[go_sem,ff]);all_goals (rw[hsg,hps,Yl (by simp[hol])];exact⟨xs,rfl,rfl,⟨fs,by simp only[go_sem,ff];first|done|exact rfl⟩,(rv hst (bA.refl (XX _)))⟩))
theorem Lr{st:RS}(h:st.2=true)(o:List Sgd):∀k,jI k o st=(o,st)
 | 0=>rfl
 | k+1=>by unfold jI;rw[X3 h]
theorem Lp{x:Str}{o:List Sgd}{k:Nat}:jI (k+1) o (x,false)=jI k (o++[(iW (x,false)).1]) (iW (x,false)).2:=rfl
def QM{x:Str}{o:List Sgd}{k:Nat}(h:(iW (x,false)).2.2=true)(hk:0<k):(jI k o (x,false)).2.2=true:=by
 obtain⟨j,rfl⟩:∃j,k=j+1:=⟨k-1,om⟩
 rw[Lp,Lr h]
 exact h
theorem QE : ∀(k:Nat)(o:List RSig)(st:RS),(jH k o st).2.1.length<=st.1.length
 | 0,_,_=>XX _
 | k+1,o,st=>by
  have h : ∀st:RS,(lD st).2.1.length<=st.1.length:=by
   intro st;have t : ∀k(st:RS),(au k st).2.1.length<=st.1.length:=λk st=>zz k st
   have a:=zz (au 1 st).1 (au 1 st).2;have b:=t 1 st;rw[IP];have e : ∀k(st:RS),(nN k st).1.length<=st.1.length:=by
    intro k
    induction k with
    | zero=>exact λ_=>XX _
    | succ k ih=>exact λst=>Yh (t 8 _) (ih st)
   exact Yh (e 5 _) (Yh a b)
  unfold jH
  split
  . exact XX _
  exact Yh (QE k _ _) (h st)
def QO{x x':Str}(h:(iW (x,false)).2=(x',false)):x'.length<=x.length:=by
 have h1:(iW (x,false)).2.1.length<=x.length:=by
  have t : ∀k(st:RS),(au k st).2.1.length<=st.1.length:=λk st=>zz k st
  have a:=zz (au 2 (x,false)).1 (au 2 (x,false)).2;have b:=t 2 (x,false);have c:(iC (x,false)).2.1.length<=(j4 (x,false)).2.1.length:=by
   unfold iC
   split<;>exact XX _
  exact Yh (QE _ _ _) (Yh (t 1 _) (Yh c (Yh a b)))
 rw[h]at h1
 exact h1
def AP{st:RS}(h:st.2=true):(lF st).2.2=true:=by
 show(jI _ _ _).2.2=true
 rw[Lr (uV h)]
 exact uV h
def QU{st:RS}(h:(au 4 st).2.2=true):(lF st).2.2=true:=by
 show(jI _ _ _).2.2=true
 rw[Lr h]
 exact h
theorem QT{x x4:Str}(h:(au 4 (x,false)).2=(x4,false)):lF (x,false)=jI (au 4 (x,false)).1 [] (x4,false):=by
 unfold lF
 rw[h]
def Zal{st:RS}(h:(bS st).2.2=true):(jZ st).2.2=true:=AP h
def Pe{x x2:Str}(h:(bS (x,false)).2=(x2,false))(h2:(lF (x2,false)).2.2=true):(jZ (x,false)).2.2=true:=by
 show(lF _).2.2=true
 rw[h]
 exact h2
def Zak{x x2:Str}(h:(bS (x,false)).2=(x2,false)):jZ (x,false)=(⟨(bS (x,false)).1,(lF (x2,false)).1⟩,(lF (x2,false)).2):=by
 unfold jZ
 rw[h]
theorem ES{st:RS}(h:st.2=true)(o:List ak):∀k,lG k o st=(o,st)
 | 0=>rfl
 | k+1=>by unfold lG;rw[X3 h]
theorem RX{x:Str}{o:List ak}{k:Nat}:lG (k+1) o (x,false)=lG k (o++[(oG (x,false)).1]) (oG (x,false)).2:=rfl
def RZ{x:Str}{o:List ak}{k:Nat}(h:(oG (x,false)).2.2=true)(hk:0<k):(lG k o (x,false)).2.2=true:=by
 obtain⟨j,rfl⟩:∃j,k=j+1:=⟨k-1,om⟩
 rw[RX,ES h]
 exact h
def Zen{st:RS}(h:(bS st).2.2=true):(oG st).2.2=true:=uV h
def Zem{x x2:Str}(h:(bS (x,false)).2=(x2,false))(h2:(au 1 (x2,false)).2.2=true):(oG (x,false)).2.2=true:=by
 show(au 1 (bS (x,false)).2).2.2=true
 rw[h]
 exact h2
def Zej{x x2 x3:Str}(h:(bS (x,false)).2=(x2,false))(h2:(au 1 (x2,false)).2=(x3,false)):oG (x,false)=(⟨(bS (x,false)).1,IntKind.i64.wrap (((au 1 (x2,false)).1:Nat):Int)⟩,(x3,false)):=by
 unfold oG
 rw[h,h2]
 rfl
def Zi7{st:RS}(h:(bS st).2.2=true):(fP st).2.2=true:=by
 unfold fP
 simp only
 have h1:=uV (k:=8) h
 have h2:=uV (k:=8) h1
 have h3:=uV (k:=4) h2
 rw[ES h3]
 exact AP h3
def Zi6{x x2:Str}(h:(bS (x,false)).2=(x2,false))(h2:(au 8 (x2,false)).2.2=true):(fP (x,false)).2.2=true:=by
 unfold fP
 simp only[h]
 have h3:=uV (k:=8) h2
 have h4:=uV (k:=4) h3
 rw[ES h4]
 exact AP h4
def Zi5{x x2 x3:Str}(h:(bS (x,false)).2=(x2,false))(h2:(au 8 (x2,false)).2=(x3,false))(h3:(au 8 (x3,false)).2.2=true):(fP (x,false)).2.2=true:=by
 unfold fP
 simp only[h,h2]
 have h4:=uV (k:=4) h3
 rw[ES h4]
 exact AP h4
def Zi4{x x2 x3 x4:Str}(h:(bS (x,false)).2=(x2,false))(h2:(au 8 (x2,false)).2=(x3,false))(h3:(au 8 (x3,false)).2=(x4,false))(h4:(au 4 (x4,false)).2.2=true):(fP (x,false)).2.2=true:=by
 unfold fP
 simp only[h,h2,h3]
 rw[ES h4]
 exact AP h4
def Zi3{x x2 x3 x4 x5:Str}(h:(bS (x,false)).2=(x2,false))(h2:(au 8 (x2,false)).2=(x3,false))(h3:(au 8 (x3,false)).2=(x4,false))(h4:(au 4 (x4,false)).2=(x5,false)) :
  fP (x,false)=(⟨(bS (x,false)).1,IntKind.i64.wrap (((au 8 (x2,false)).1:Nat):Int),IntKind.i64.wrap (((au 8 (x3,false)).1:Nat):Int),(lG (au 4 (x4,false)).1 [] (x5,false)).1,(lF (lG (au 4 (x4,false)).1 [] (x5,false)).2).1⟩,(lF (lG (au 4 (x4,false)).1 [] (x5,false)).2).2):=by
 unfold fP
 simp only[h,h2,h3,h4]
 rfl
set_option maxHeartbeats 2000000
def bo132:dY prog 132=true:=by kernel_rfl
def ZgJ(x:Str)(h:H)(n R:Nat)(hb:jC h R x)(hx:x.length<=1000000000):ol prog 132 [.mptr R 0 0] h n (λd h' n'=>∃x':Str,(jZ (x,false)).2=(x',false)/\d = .agg (jZ (x,false)).1.d/\jC h' R x'/\bA h h' R n n') (λc h' n'=>c=uU/\(jZ (x,false)).2.2=true/\bA h h' R n n'):=by
 refine Cz func132 rfl bo132 (by simp[f132]) (λhnone=>?_)
 unfold f132
 have ff:=True.intro
 obtain⟨f,hR⟩:=hb
 have hRn:R<n:=by rcases YG R n with q|q;exact q;rw[hnone R q]at hR;cases hR
 have ff:=qD @hR (nG R n) (nH R n) ff
 refine aa Tp ?_
 refine cB ?_
 refine jc 1 (C:=Tp) (hct:=by exact Jh x _ _ R ⟨f,ev⟩ hx) (hp:=?_) (hk:=?_)
 .
  rintro c9 h9 n9 ⟨rfl,hbad,aQ⟩
  try simp only[iy,iH]
  exact jy _ (by exact⟨rfl,Zal hbad,(rv (bA.refl (h:=h) (R:=R) (XX n)) aQ)⟩) (hn:=XX _) (hh:=λ_=>.inl rfl)
 rintro res h2 n2 ⟨x2,hp2,rfl,hb2,aU⟩
 try dsimp only at aU
 have hl2:=aU.1
 obtain⟨f2,hR2⟩:=hb2
 have hn2:h2 n=some ⟨24,[[.v (.string (bs [])),.list true []]]⟩:=kp aU
 have hs2:bA h h2 R n n2:=(rv (bA.refl (h:=h) (R:=R) (XX n)) aU)
 have hze:=Zak hp2
 obtain⟨zt,Fv⟩:∃z,z=(bS (x,false)).1:=⟨_,rfl⟩
 try rw[<-Fv]
 rw[<-Fv]at hze
 have ff:=qE hR2 hn2 (nG R n2) (nG n n2) ff
 have hx2:=Yh (Hm hp2) hx
 refine aP Tp ?_
 try simp only[aI]
 refine ae ?_
 refine yG (n2+3) 1 24 84 ev (by rfl) o5v ?_
 simp only[YW,YP]
 obtain⟨C,FZ⟩:∃C,C=n2+3:=⟨_,rfl⟩
 rw[<-FZ]
 obtain⟨O,hOe⟩:∃O,O=n2+5:=⟨_,rfl⟩
 rw[<-hOe]
 have ff:=qG (nH R n) (nH C R) (nH O R) (nH C n) (nH O n) (nH C O) ff
 refine cB ?_
 refine jc 1 (C:=Tp) (hct:=by exact Jk x2 _ _ R ⟨f2,ev⟩ hx2) (hp:=?_) (hk:=?_)
 .
  rintro c9 h9 n9 ⟨rfl,hbad,aQ⟩
  try simp only[iy,iH]
  exact jy _ (by exact⟨rfl,Pe hp2 (QU hbad),(rv hs2 aQ)⟩) (hn:=XX _) (hh:=λ_=>.inl rfl)
 rintro res h4 n4 ⟨x4,uG,rfl,hb4,iN⟩
 try dsimp only at iN
 have hl4:=iN.1
 obtain⟨f4,uJ⟩:=hb4
 have nP:h4 n=some ⟨24,[[.v (.string (bs [])),.list true []]]⟩:=kp iN
 have BU:h4 C=some ⟨24,[[.v (.string (bs zt)),.mrow O 0 0]]⟩:=kp iN
 have hO4:h4 O=some ⟨84,[]⟩:=kp iN
 have hs4:bA h h4 R n n4:=(rv hs2 iN)
 have FV:(au 4 (x2,false)).1<256^4:=Ba 4 (x2,false)
 have hsg:=QT uG
 obtain⟨N,FW⟩:∃N,N=(au 4 (x2,false)).1:=⟨_,rfl⟩
 try rw[<-FW]
 rw[<-FW]at FV hsg
 have ff:=qI uJ nP BU hO4 (nG R n4) (nG n n4) (nG C n4) (nG O n4) ff
 have hx4:=Yh (rz uG) hx2
 refine aP Tp ?_
 try simp only[aI]
 refine aj ?_
 refine jm (α:=(Nat)×(List Sgd)×(Str)×(Nat)×(H)×Nat) [0,2,3,8] (λ⟨k,o,xs,r,hq,nx⟩=>(k<=N)/\(jI N [] (x4,false)=jI (N-k) o (xs,false))/\(o.length=k)/\(jC hq R xs)/\(hq C=some ⟨24,[[.v (.string (bs zt)),.mrow r 0 k]]⟩)/\(hq r=some ⟨84,(o).map Sgd.d⟩)/\(hq n=some ⟨24,[[.v (.string (bs [])),.list true []]]⟩)/\(bA h hq R n nx)/\(C<r)/\(r<nx)/\(xs.length<=1000000000)/\True) (λ⟨k,o,xs,r,hq,nx⟩=>N-k) (λ⟨k,o,xs,r,hq,nx⟩=>[(9,.v (.int .u64 ((k:Nat):Int)))]) (λ⟨k,o,xs,r,hq,nx⟩=>hq) (λ⟨k,o,xs,r,hq,nx⟩=>nx) (0,[],x4,O,h4,_) (hA:=⟨iv,rfl,rfl,⟨f4,uJ⟩,BU,hO4,nP,(hs4.up oW),oW,oW,iv,trivial⟩) (round:=?_)
 rintro⟨k,o,xs,r,hq,nx⟩ ⟨hk,hps,hol,vO,hC,hr,hn,hst,hCr,hrx,hxl, -⟩
 simp only[XY,X0]
 obtain⟨fs,uI⟩:=vO
 have e7:=y7 (n:=k+1) (by omega)
 have e7b:((k+1:Nat):Int)=(k:Int)+1:=by omega
 rw[e7b]at e7
 have ff:=qH @uI @hC @hr @hn @e7 (nG R nx) (nG n nx) (qI (nG C nx) (nG r nx) (nH R n) (nH C R) (nH R r) (nH C n) (nH n r) (nH C r) ff)
 refine aa Tp ?_
 refine ae ?_
 refine cd ?_ ?_<;>intro c1
 .
  have hk2:k<N:=by omega
  obtain⟨M,hM⟩:∃M,N-k=M+1:=⟨N-k-1,om⟩;refine ah ?_;refine ae ?_;refine aj ?_;refine V9 Tp 3 4 5 [(1,11)] (R:=_) (X:=_) (hct:=by exact UF xs _ _ R ⟨fs,ev⟩ hxl) (hkeep:=?kp15) (zY:=?fo15) (hk:=?kk15) (hp:=?pp15)
  case kp15 =>
   rintro res h2 n2 ⟨_,_,_,_,aQ⟩ p hp r9 hrr;simp only[Yo]at hp;subst hp;simp only[go_sem,ff,sd,named,YB]at hrr ⊢;subst hrr;exact aQ.2 _ oW om
  case fo15 =>
   rintro res h2 n2 ⟨_,_,rfl,_,_⟩
   (try simp only[X9,X6,X5,Ye,S.put,Yq,Nat.reduceSub,Nat.reduceAdd,go_sem,ff]);all_goals exact ok0
  case pp15 =>
   rintro c9 h9 n9 ⟨rfl,hbad,aQ⟩ t9
   try simp only[iy,iH]
   exact jy _ (by exact⟨rfl,Pe hp2 (by rw[hsg,hps];exact QM hbad (by omega)),(rv hst aQ)⟩) (hn:=XX _) (hh:=λ_=>.inl rfl)
  rintro res h5 n5 ⟨x5,pg,rfl,hb5,fT⟩
  try dsimp only at fT
  have hl5:=fT.1;obtain⟨f5,vQ⟩:=hb5;have BJ:h5 n=some ⟨24,[[.v (.string (bs [])),.list true []]]⟩:=kp fT;have hC5:h5 C=some ⟨24,[[.v (.string (bs zt)),.mrow r 0 k]]⟩:=kp fT;have hr5:h5 r=some ⟨84,(o).map Sgd.d⟩:=kp fT;have hs5:bA h h5 R n n5:=(rv hst fT);have ff:=qI vQ BJ hC5 hr5 (nG R n5) (nG n n5) (nG C n5) (nG r n5) ff;have hx5:=Yh (QO pg) hxl;have hsig:iW (xs,false)=((iW (xs,false)).1,(x5,false)):=Prod.ext rfl pg;refine gto ?_;refine aP Tp ?_
  try simp only[aI]
  refine ai Tp ?_
  show ∃_,_
  exact ay (k+1,o++[(iW (xs,false)).1],x5,(n5+5),_,_) (h1:=⟨iv,(by(try dsimp only);rw[hps,hM,Lp,hsig,show N-(k+1)=M by omega]),o4j,(by(try dsimp only);exact⟨f5,ev⟩),o3x,o1v,o3x,(by(try dsimp only);exact(rv hs5 (bA.refl (Nat.le_refl _)))),oW,oW,iv,trivial⟩) (h5:=λ_=>.inl rfl)
 have hk3:N-k=0:=by omega
 rw[hk3]at hps
 refine aH ?_
 refine yI C 1 r (rows:=o.map Sgd.d) (off:=0) (len:=k) ev rfl ev om (by simp[hol]) Db ?_
 simp only[X6,y8,YW,YP]
 refine aa Tp ?_
 refine aL ?_
 exact DN (.inr rfl) (_) (hh:=λ_=>.inl rfl) (hr:=oS (k:=by rw[hze,hsg,hps,Yl (by simp[hol])];exact⟨xs,rfl,rfl,⟨fs,ev⟩,(rv hst (bA.refl (XX _)))⟩))
set_option maxHeartbeats 2000000
def bo135:dY prog 135=true:=by kernel_rfl
def Zg0(x:Str)(h:H)(n R:Nat)(hb:jC h R x)(hx:x.length<=1000000000):ol prog 135 [.mptr R 0 0] h n (λd h' n'=>∃x':Str,(fP (x,false)).2=(x',false)/\d = .agg (fP (x,false)).1.d/\jC h' R x'/\bA h h' R n n') (λc h' n'=>c=uU/\(fP (x,false)).2.2=true/\bA h h' R n n'):=by
 refine Cz func135 rfl bo135 (by simp[f135]) (λhnone=>?_)
 unfold f135
 have ff:=True.intro
 obtain⟨f,hR⟩:=hb
 have hRn:R<n:=by rcases YG R n with q|q;exact q;rw[hnone R q]at hR;cases hR
 have ff:=qD @hR (nG R n) (nH R n) ff
 refine aa Tp ?_
 refine cB ?_
 refine jc 1 (C:=Tp) (hct:=by exact Jh x _ _ R ⟨f,ev⟩ hx) (hp:=?_) (hk:=?_)
 .
  rintro c9 h9 n9 ⟨rfl,hbad,aQ⟩
  try simp only[iy,iH]
  exact jy _ (by exact⟨rfl,Zi7 hbad,(rv (bA.refl (h:=h) (R:=R) (XX n)) aQ)⟩) (hn:=XX _) (hh:=λ_=>.inl rfl)
 rintro res h2 n2 ⟨x2,hp2,rfl,hb2,aU⟩
 try dsimp only at aU
 have hl2:=aU.1
 obtain⟨f2,hR2⟩:=hb2
 have kn2:h2 n=some ⟨40,[[.v (.string (bs [])),.i 0,.i 0,.list true [],.list true []]]⟩:=kp aU
 have hs2:bA h h2 R n n2:=(rv (bA.refl (h:=h) (R:=R) (XX n)) aU)
 have hx2:=Yh (Hm hp2) hx
 obtain⟨zt,ezt⟩:∃v,v=(bS (x,false)).1:=⟨_,rfl⟩
 try rw[<-ezt]
 have ff:=qE hR2 kn2 (nG R n2) (nG n n2) ff
 refine aP Tp ?_
 try simp only[aI]
 obtain⟨C,FZ⟩:∃C,C=n2+3:=⟨_,rfl⟩
 rw[<-FZ]
 have ff:=qD (nH R n) (nH C R) (nH C n) ff
 refine cB ?_
 refine jc 1 (C:=Tp) (hct:=by exact yl x2 _ _ R ⟨f2,ev⟩ hx2) (hp:=?_) (hk:=?_)
 .
  rintro c9 h9 n9 ⟨rfl,hbad,aQ⟩
  try simp only[iy,iH]
  exact jy _ (by exact⟨rfl,Zi6 hp2 hbad,(rv hs2 aQ)⟩) (hn:=XX _) (hh:=λ_=>.inl rfl)
 rintro res h3 n3 ⟨x3,hp3,rfl,hb3,eX⟩
 try dsimp only at eX
 have hl3:=eX.1
 obtain⟨f3,hR3⟩:=hb3
 have kn3:h3 n=some ⟨40,[[.v (.string (bs [])),.i 0,.i 0,.list true [],.list true []]]⟩:=kp eX
 have kC3:h3 C=some ⟨40,[[.v (.string (bs zt)),.i 0,.i 0,.list true [],.list true []]]⟩:=kp eX
 have hs3:bA h h3 R n n3:=(rv hs2 eX)
 have hx3:=Yh (rz hp3) hx2
 obtain⟨v2,ev2⟩:∃v,v=(au 8 (x2,false)).1:=⟨_,rfl⟩
 try rw[<-ev2]
 have ff:=qG hR3 kn3 kC3 (nG R n3) (nG n n3) (nG C n3) ff
 refine aP Tp ?_
 try simp only[aI]
 refine cB ?_
 refine jc 1 (C:=Tp) (hct:=by exact yl x3 _ _ R ⟨f3,ev⟩ hx3) (hp:=?_) (hk:=?_)
 .
  rintro c9 h9 n9 ⟨rfl,hbad,aQ⟩
  try simp only[iy,iH]
  exact jy _ (by exact⟨rfl,Zi5 hp2 hp3 hbad,(rv hs3 aQ)⟩) (hn:=XX _) (hh:=λ_=>.inl rfl)
 rintro res h4 n4 ⟨x4,uG,rfl,hb4,iN⟩
 try dsimp only at iN
 have hl4:=iN.1
 obtain⟨f4,uJ⟩:=hb4
 have kn4:h4 n=some ⟨40,[[.v (.string (bs [])),.i 0,.i 0,.list true [],.list true []]]⟩:=kp iN
 have kC4:h4 C=some ⟨40,[[.v (.string (bs zt)),.i (IntKind.i64.wrap ((v2:Nat):Int)),.i 0,.list true [],.list true []]]⟩:=kp iN
 have hs4:bA h h4 R n n4:=(rv hs3 iN)
 have hx4:=Yh (rz uG) hx3
 obtain⟨v3,ev3⟩:∃v,v=(au 8 (x3,false)).1:=⟨_,rfl⟩
 try rw[<-ev3]
 have ff:=qG uJ kn4 kC4 (nG R n4) (nG n n4) (nG C n4) ff
 refine aP Tp ?_
 try simp only[aI]
 refine ae ?_
 refine yG C 3 40 86 ev (by rfl) o5v ?_
 simp only[YW,YP]
 obtain⟨r,hre⟩:∃r,r=n4+5:=⟨_,rfl⟩
 rw[<-hre]
 have ff:=qG (nH R n) (nH C R) (nH R r) (nH C n) (nH n r) (nH C r) ff
 refine cB ?_
 refine jc 1 (C:=Tp) (hct:=by exact Jk x4 _ _ R ⟨f4,ev⟩ hx4) (hp:=?_) (hk:=?_)
 .
  rintro c9 h9 n9 ⟨rfl,hbad,aQ⟩
  try simp only[iy,iH]
  exact jy _ (by exact⟨rfl,Zi4 hp2 hp3 uG hbad,(rv hs4 aQ)⟩) (hn:=XX _) (hh:=λ_=>.inl rfl)
 rintro res h5 n5 ⟨x5,pg,rfl,hb5,fT⟩
 try dsimp only at fT
 have hl5:=fT.1
 obtain⟨f5,vQ⟩:=hb5
 have kn5:h5 n=some ⟨40,[[.v (.string (bs [])),.i 0,.i 0,.list true [],.list true []]]⟩:=kp fT
 have kC5:h5 C=some ⟨40,[[.v (.string (bs zt)),.i (IntKind.i64.wrap ((v2:Nat):Int)),.i (IntKind.i64.wrap ((v3:Nat):Int)),.mrow r 0 0,.list true []]]⟩:=kp fT
 have kr5:h5 r=some ⟨86,[]⟩:=kp fT
 have hs5:bA h h5 R n n5:=(rv hs4 fT)
 have hx5:=Yh (rz pg) hx4
 have hde:=Zi3 hp2 hp3 uG pg
 have FV:(au 4 (x4,false)).1<256^4:=Ba 4 (x4,false)
 obtain⟨N,eN⟩:∃v,v=(au 4 (x4,false)).1:=⟨_,rfl⟩
 try rw[<-eN]
 rw[<-eN]at FV hde
 rw[<-ezt,<-ev2,<-ev3]at hde
 have ff:=qI vQ kn5 kC5 kr5 (nG R n5) (nG n n5) (nG C n5) (nG r n5) ff
 refine aP Tp ?_
 try simp only[aI]
 refine aj ?_
 refine jm (α:=(Nat)×(List ak)×(Str)×(Nat)×(H)×Nat) [0,2,3,17] (λ⟨k,o,xs,r,hq,nx⟩=>(k<=N)/\(lG N [] (x5,false)=lG (N-k) o (xs,false))/\(o.length=k)/\(jC hq R xs)/\(hq C=some ⟨40,[[.v (.string (bs zt)),.i (IntKind.i64.wrap ((v2:Nat):Int)),.i (IntKind.i64.wrap ((v3:Nat):Int)),.mrow r 0 k,.list true []]]⟩)/\(hq r=some ⟨86,(o).map ak.d⟩)/\(hq n=some ⟨40,[[.v (.string (bs [])),.i 0,.i 0,.list true [],.list true []]]⟩)/\(bA h hq R n nx)/\(C<r)/\(r<nx)/\(xs.length<=1000000000)/\True) (λ⟨k,o,xs,r,hq,nx⟩=>N-k) (λ⟨k,o,xs,r,hq,nx⟩=>[(18,.v (.int .u64 ((k:Nat):Int)))]) (λ⟨k,o,xs,r,hq,nx⟩=>hq) (λ⟨k,o,xs,r,hq,nx⟩=>nx) (0,[],x5,r,h5,_) (hA:=⟨iv,rfl,rfl,⟨f5,vQ⟩,kC5,kr5,kn5,(hs5.up oW),oW,oW,iv,trivial⟩) (round:=?_)
 rintro⟨k,o,xs,r,hq,nx⟩ ⟨hk,hps,hol,vO,hC,hr,hn,hst,hCr,hrx,hxl, -⟩
 simp only[XY,X0]
 obtain⟨fs,uI⟩:=vO
 have e7:=y7 (n:=k+1) (by omega)
 have e7b:((k+1:Nat):Int)=(k:Int)+1:=by omega
 rw[e7b]at e7
 have ff:=qH @uI @hC @hr @hn @e7 (nG R nx) (nG n nx) (qI (nG C nx) (nG r nx) (nH R n) (nH C R) (nH R r) (nH C n) (nH n r) (nH C r) ff)
 refine aa Tp ?_
 refine ae ?_
 refine cd ?_ ?_<;>intro c1
 .
  have hk2:k<N:=by omega
  obtain⟨M,hM⟩:∃M,N-k=M+1:=⟨N-k-1,om⟩;refine ah ?_;refine ae ?_;refine aj ?_;refine cB ?_;refine jc 1 (C:=Tp) (hct:=by exact Jh xs _ _ R ⟨fs,ev⟩ hxl) (hp:=?_) (hk:=?_)
  .
   rintro c9 h9 n9 ⟨rfl,hbad,aQ⟩
   try simp only[iy,iH]
   exact jy _ (by exact⟨rfl,by rw[hde,hps];exact AP (RZ (Zen hbad) (by omega)),(rv hst aQ)⟩) (hn:=XX _) (hh:=λ_=>.inl rfl)
  rintro res h6 n6 ⟨x6,hp6,rfl,hb6,Du⟩
  try dsimp only at Du
  have Dx:=Du.1;obtain⟨f6,hR6⟩:=hb6;have kn6:h6 n=some ⟨40,[[.v (.string (bs [])),.i 0,.i 0,.list true [],.list true []]]⟩:=kp Du;have kC6:h6 C=some ⟨40,[[.v (.string (bs zt)),.i (IntKind.i64.wrap ((v2:Nat):Int)),.i (IntKind.i64.wrap ((v3:Nat):Int)),.mrow r 0 k,.list true []]]⟩:=kp Du;have kr6:h6 r=some ⟨86,(o).map ak.d⟩:=kp Du;have hs6:bA h h6 R n n6:=(rv hst Du);have hx6:=Yh (Hm hp6) hxl;obtain⟨qt,eqt⟩:∃v,v=(bS (xs,false)).1:=⟨_,rfl⟩
  try rw[<-eqt]
  have ff:=qI hR6 kn6 kC6 kr6 (nG R n6) (nG n n6) (nG C n6) (nG r n6) ff;refine aP Tp ?_
  try simp only[aI]
  obtain⟨q,hqe⟩:∃q,q=n6+3:=⟨_,rfl⟩;rw[<-hqe];simp only[yZ];have ff:=qB (nH R n) (nH C R) (qI (nH R r) (nH R q) (nH C n) (nH n r) (nH n q) (nH C r) (nH C q) (nH q r) ff);refine cB ?_;refine jc 1 (C:=Tp) (hct:=by exact M0 x6 _ _ R ⟨f6,ev⟩ hx6) (hp:=?_) (hk:=?_)
  .
   rintro c9 h9 n9 ⟨rfl,hbad,aQ⟩
   try simp only[iy,iH]
   exact jy _ (by exact⟨rfl,by rw[hde,hps];exact AP (RZ (Zem hp6 hbad) (by omega)),(rv hs6 aQ)⟩) (hn:=XX _) (hh:=λ_=>.inl rfl)
  rintro res h7 n7 ⟨x7,FH,rfl,vO,jN⟩
  try dsimp only at jN
  have hl7:=jN.1;obtain⟨f7,uI⟩:=vO;have kn7:h7 n=some ⟨40,[[.v (.string (bs [])),.i 0,.i 0,.list true [],.list true []]]⟩:=kp jN;have kC7:h7 C=some ⟨40,[[.v (.string (bs zt)),.i (IntKind.i64.wrap ((v2:Nat):Int)),.i (IntKind.i64.wrap ((v3:Nat):Int)),.mrow r 0 k,.list true []]]⟩:=kp jN;have kr7:h7 r=some ⟨86,(o).map ak.d⟩:=kp jN;have kq7:h7 q=some ⟨86,[[.v (.string (bs qt)),.i 0]]⟩:=kp jN;have hs7:bA h h7 R n n7:=(rv hs6 jN);have hx7:=Yh (rz FH) hx6;have hqo:=Zej hp6 FH;rw[<-eqt]at hqo;have ff:=qB uI kn7 (qI kC7 kr7 kq7 (nG R n7) (nG n n7) (nG C n7) (nG r n7) (nG q n7) ff);refine aP Tp ?_
  try simp only[aI]
  refine ai Tp ?_;refine ai Tp ?_
  show ∃_,_
  exact ay (k+1,o++[(oG (xs,false)).1],x7,(n7+9),_,_) (h1:=⟨iv,(by(try dsimp only);rw[hps,hM,RX,hqo,show N-(k+1)=M by omega]),o4j,(by(try dsimp only);exact⟨f7,ev⟩),o3x,(by(try dsimp only);rw[hqo];simp only[go_sem,ff,List.map_append,List.map_cons,List.map_nil];first|done|exact rfl),o3x,(by(try dsimp only);exact(rv hs7 (bA.refl (Nat.le_refl _)))),oW,oW,iv,trivial⟩) (h5:=λ_=>.inl rfl)
 have hk3:N-k=0:=by omega
 rw[hk3]at hps
 have hps:lG N [] (x5,false)=(o,(xs,false)):=hps
 obtain⟨DQ,hDQ⟩:∃l,l=o:=⟨_,rfl⟩
 refine aH ?_
 refine ae ?_
 refine yI C 3 r (rows:=o.map ak.d) (off:=0) (len:=k) ev rfl ev om (by simp[hol]) Tg ?_
 simp only[X6,y8,YW,YP]
 rw[Yl (by simp[hol]),<-hDQ]
 refine yG C 4 40 84 ev (by rfl) o5v ?_
 simp only[YW,YP]
 obtain⟨p,hpe⟩:∃p,p=nx+1:=⟨_,rfl⟩
 rw[<-hpe]
 have ff:=qH (nH R n) (nH C R) (nH R p) (nH C n) (nH n p) (nH C p) (nH p r) ff
 refine cB ?_
 refine jc 1 (C:=Tp) (hct:=by exact Jk xs _ _ R ⟨fs,ev⟩ hxl) (hp:=?_) (hk:=?_)
 .
  rintro c9 h9 n9 ⟨rfl,hbad,aQ⟩
  try simp only[iy,iH]
  exact jy _ (by exact⟨rfl,by rw[hde,hps];exact QU hbad,(rv hst aQ)⟩) (hn:=XX _) (hh:=λ_=>.inl rfl)
 rintro res h8 n8 ⟨x8,l8,rfl,w9,iw⟩
 try dsimp only at iw
 have BL:=iw.1
 obtain⟨f8,qN⟩:=w9
 have kn8:h8 n=some ⟨40,[[.v (.string (bs [])),.i 0,.i 0,.list true [],.list true []]]⟩:=kp iw
 have kC8:h8 C=some ⟨40,[[.v (.string (bs zt)),.i (IntKind.i64.wrap ((v2:Nat):Int)),.i (IntKind.i64.wrap ((v3:Nat):Int)),.list false (DQ.map ak.d),.mrow p 0 0]]⟩:=kp iw
 have kp8:h8 p=some ⟨84,[]⟩:=kp iw
 have hs8:bA h h8 R n n8:=(rv hst iw)
 have Dr:=Yh (rz l8) hxl
 rw[hps,QT l8,<-hDQ]at hde
 have hMl:(au 4 (xs,false)).1<256^4:=Ba 4 (xs,false)
 obtain⟨M,eM⟩:∃v,v=(au 4 (xs,false)).1:=⟨_,rfl⟩
 try rw[<-eM]
 rw[<-eM]at hMl hde
 have ff:=qI qN kn8 kC8 kp8 (nG R n8) (nG n n8) (nG C n8) (nG p n8) ff
 refine aP Tp ?_
 try simp only[aI]
 refine aj ?_
 refine jm (α:=(Nat)×(List Sgd)×(Str)×(Nat)×(H)×Nat) [0,2,3,35] (λ⟨k,o,iT,p,hq2,nx⟩=>(k<=M)/\(jI M [] (x8,false)=jI (M-k) o (iT,false))/\(o.length=k)/\(jC hq2 R iT)/\(hq2 C=some ⟨40,[[.v (.string (bs zt)),.i (IntKind.i64.wrap ((v2:Nat):Int)),.i (IntKind.i64.wrap ((v3:Nat):Int)),.list false (DQ.map ak.d),.mrow p 0 k]]⟩)/\(hq2 p=some ⟨84,(o).map Sgd.d⟩)/\(hq2 n=some ⟨40,[[.v (.string (bs [])),.i 0,.i 0,.list true [],.list true []]]⟩)/\(bA h hq2 R n nx)/\(C<p)/\(p<nx)/\(iT.length<=1000000000)/\True) (λ⟨k,o,iT,p,hq2,nx⟩=>M-k) (λ⟨k,o,iT,p,hq2,nx⟩=>[(36,.v (.int .u64 ((k:Nat):Int)))]) (λ⟨k,o,iT,p,hq2,nx⟩=>hq2) (λ⟨k,o,iT,p,hq2,nx⟩=>nx) (0,[],x8,p,h8,_) (hA:=⟨iv,rfl,rfl,⟨f8,qN⟩,kC8,kp8,kn8,(hs8.up oW),oW,oW,iv,trivial⟩) (round:=?_)
 rintro⟨k,o,iT,p,hq2,nx⟩ ⟨hk,Jq,FI,vO,hC,hr,hn,aU,hCr,hrx,tL, -⟩
 simp only[XY,X0]
 obtain⟨fs2,uI⟩:=vO
 have e7:=y7 (n:=k+1) (by omega)
 have e7b:((k+1:Nat):Int)=(k:Int)+1:=by omega
 rw[e7b]at e7
 have ff:=qH @uI @hC @hr @hn @e7 (nG R nx) (nG n nx) (qI (nG C nx) (nG p nx) (nH R n) (nH C R) (nH R p) (nH C n) (nH n p) (nH C p) ff)
 refine aa Tp ?_
 refine ae ?_
 refine cd ?_ ?_<;>intro c2
 .
  have hk2:k<M:=by omega
  obtain⟨L,hL⟩:∃L,M-k=L+1:=⟨M-k-1,om⟩;refine ah ?_;refine ae ?_;refine aj ?_;refine V9 Tp 3 4 5 [(1,38)] (R:=_) (X:=_) (hct:=by exact UF iT _ _ R ⟨fs2,ev⟩ tL) (hkeep:=?kp23) (zY:=?fo23) (hk:=?kk23) (hp:=?pp23)
  case kp23 =>
   rintro res h2 n2 ⟨_,_,_,_,aQ⟩ p hp r9 hrr;simp only[Yo]at hp;subst hp;simp only[go_sem,ff,sd,named,YB]at hrr ⊢;subst hrr;exact aQ.2 _ oW om
  case fo23 =>
   rintro res h2 n2 ⟨_,_,rfl,_,_⟩
   (try simp only[X9,X6,X5,Ye,S.put,Yq,Nat.reduceSub,Nat.reduceAdd,go_sem,ff]);all_goals exact ok0
  case pp23 =>
   rintro c9 h9 n9 ⟨rfl,hbad,aQ⟩ t9
   try simp only[iy,iH]
   exact jy _ (by exact⟨rfl,by rw[hde,Jq];exact QM hbad (by omega),(rv aU aQ)⟩) (hn:=XX _) (hh:=λ_=>.inl rfl)
  rintro res h9 n9 ⟨x9,FE,rfl,hb9,aQ⟩
  try dsimp only at aQ
  have vN:=aQ.1;obtain⟨f9,hR9⟩:=hb9;have BI:h9 n=some ⟨40,[[.v (.string (bs [])),.i 0,.i 0,.list true [],.list true []]]⟩:=kp aQ;have hC9:h9 C=some ⟨40,[[.v (.string (bs zt)),.i (IntKind.i64.wrap ((v2:Nat):Int)),.i (IntKind.i64.wrap ((v3:Nat):Int)),.list false (DQ.map ak.d),.mrow p 0 k]]⟩:=kp aQ;have hp9b:h9 p=some ⟨84,(o).map Sgd.d⟩:=kp aQ;have hs9:bA h h9 R n n9:=(rv aU aQ);have ff:=qI hR9 BI hC9 hp9b (nG R n9) (nG n n9) (nG C n9) (nG p n9) ff;have mY:=Yh (QO FE) tL;have hsig:iW (iT,false)=((iW (iT,false)).1,(x9,false)):=Prod.ext rfl FE;refine gto ?_;refine aP Tp ?_
  try simp only[aI]
  refine ai Tp ?_
  show ∃_,_
  exact ay (k+1,o++[(iW (iT,false)).1],x9,(n9+5),_,_) (h1:=⟨iv,(by(try dsimp only);rw[Jq,hL,Lp,hsig,show M-(k+1)=L by omega]),(by(try dsimp only);rw[List.length_append,FI];rfl),(by(try dsimp only);exact⟨f9,ev⟩),o3x,o1v,o3x,o4b,oW,oW,iv,trivial⟩) (h5:=λ_=>.inl rfl)
 have hk3:M-k=0:=by omega
 rw[hk3]at Jq
 refine aH ?_
 refine yI C 4 p (rows:=o.map Sgd.d) (off:=0) (len:=k) ev rfl ev om (by simp[FI]) Db ?_
 simp only[X6,y8,YW,YP]
 refine aa Tp ?_
 refine aL ?_
 exact DN (.inr rfl) (_) (hh:=λ_=>.inl rfl) (hr:=oS (k:=by rw[hde,Jq,Yl (by simp[FI])];exact⟨iT,rfl,rfl,⟨fs2,ev⟩,(rv aU (bA.refl (XX _)))⟩))
end Go.Proofs.YtidphdaoejibcaaGreatDoor
namespace Go.Proofs.YtidphdaoejibcaaGreatDoor
open Go.Proofs.Tryz
open Go.RowKit Go.Extern.Stop Go.Stop Go.Extern Go.DL
def Zg9(v:Value)(w:World):(Extern.ReflectliteType.typeOf #[.iface 339 v]).run prog w = .ok (.iface 299 (.agg #[.pointer (some ⟨4,339,none⟩)])) w:=by kernel_rfl
def Xc : Array Value -> Sem Value := Extern.ReflectliteType.method fun t => do Go.Extern.Rtype.noPackHeld "Comparable" t; pure (.bool (<- typeInfo t).comparable)
def Zhe(w:World):(Xc #[.agg #[.pointer (some ⟨4,339,none⟩)]]).run prog w = .ok (.bool true) w:=by kernel_rfl
def Zhd (v : Value) (w : World) : (Go.method 473 299 v "Comparable").run prog w = .ok (301, v) w := by kernel_rfl
def Zhf:(prog.info? 339).map (·.comparable)=some true:=by kernel_rfl
def Zhb:(prog.info? 362).map (·.size)=some 1:=by kernel_rfl
def Zg7(a:Addr)(w:World) :
  Calls prog 133 #[.iface 339 (.pointer (some a)),.iface 339 (.pointer (some a))] w λe w'=>e = .returned (.bool true)/\w'=w:=by
 obtain⟨i,hi,hcmp⟩:=Option.map_eq_some_iff.1 Zhf
 obtain⟨j,hj,hjs⟩:=Option.map_eq_some_iff.1 Zhb
 have h8:=@run_callFunc_extern prog 204 _ Extern.ReflectliteType.typeOf func204 (by kernel_rfl) (by kernel_rfl) (by kernel_rfl) (by kernel_rfl)
 have h32:=@run_callFunc_extern prog 301 _ Xc func301 (by kernel_rfl) (by kernel_rfl) (by kernel_rfl) (by kernel_rfl)
 have tT:=Zg9
 have cT:=Zhe
 have mR:=Zhd
 have heq:=run_eql_iface_ptr_same (P:=prog) w a underlying136 underlying339 hi hcmp hj
 go_enter func133,ntmps133
 go_wp2
 refine wp_loop_rounds 1 ?_
 rw[rounds_succ]
 go_wp2
 go_ret
 exact⟨rfl,rfl⟩
def Zg8(b:Addr)(w:World) :
  Calls prog 133 #[.nilIface,.iface 339 (.pointer (some b))] w λe w'=>e = .returned (.bool false)/\w'=w:=by
 have hn:=run_eql_iface_nil_left (P:=prog) w 339 (.pointer (some b)) underlying136
 go_enter func133,ntmps133
 go_wp2
 go_ret
 exact⟨rfl,rfl⟩
variable [Glob prog] [Told]
noncomputable def DT(b:Bool):Value:=if b then kg iP else .nilIface
def Sc{x y z:Value}(h : ∀w,Calls prog 133 #[x,y] w λe w'=>e = .returned z/\w'=w):PureCt prog 133 [.v x,.v y] (.v z):=by
 refine⟨by kernel_rfl,rfl,λw I vs hI hgr hr=>?_⟩
 obtain⟨a,l,rfl,h1,h2⟩:=hr.of_cons
 obtain⟨b,l2,rfl,h3,h4⟩:=h2.of_cons
 obtain rfl:=h1.v_inv
 obtain rfl:=h3.v_inv
 have h0:l2=[]:=Ya h4.1.symm
 subst h0
 refine(callsIn_wide.2 (h w)).mono ?_
 rintro e w' ⟨rfl,rfl⟩
 exact⟨z,rfl,⟨rfl,rfl,rfl,XX _,XX _,λ_ _=>rfl⟩,.v _⟩
@[go_sem]theorem ZlZ(b:Bool):Go.Jn.isE (DT b)=b:=by cases b<;>rfl
def UK(b:Bool):PureCt prog 133 [.v (DT b),.v (kg iP)] (.b b):=by
 cases b
 . exact Sc λw=>Zg8 iP w
 . exact Sc λw=>Zg7 iP w
end Go.Proofs.YtidphdaoejibcaaGreatDoor
namespace Go.Proofs.YtidphdaoejibcaaGreatDoor
open Go.Proofs.Tryz
open Go.DL Go.Str Go.Rec Go.Cmp Go.Zon
set_option maxRecDepth 10000
variable [Glob prog] [Told]
def Zhw(s:Str)(p:Str)(hs:s.length<=1000000):PureCt prog 223 [.v (.string (bs s)),.v (.string (bs p))] (.b (xc s p)):=by
 refine oO func223 λff=>?_
 unfold f223
 have e1:((s.length:Int)-p.length).toNat=s.length-p.length:=by omega
 have ff:=qA @e1 ff
 refine oC Tp ?_
 exact fo 0 (k:=by simp[xc])
def Zhv(s:Str)(p:Str)(hs:s.length<=1000000):PureCt prog 158 [.v (.string (bs s)),.v (.string (bs p))] (.b (xc s p)):=by
 refine oO func158 λff=>?_
 unfold f158
 refine aa Tp ?_
 refine aa Tp ?_ (hok:=oF (Zhw _ _ hs))
 exact fp 0
def Mo(s:Str)(z:Str):PureCt prog 100 [.v (.string (bs s)),.v (.string (bs z))] (.tuple [.b (kC s z),.i (if az s&&az z then 0 else 11)]):=by
 refine oO func100 λff=>?_
 unfold f100
 refine aa Tp ?_
 refine oK Tp ?_ ?_ (hok:=oH Ev)<;>intro c1
 . refine aa Tp ?_;exact fo 1 (k:=o3l)
 refine oK Tp ?_ ?_<;>intro c2
 . refine aa Tp ?_;exact fo 1 (k:=o3l)
 have hn:=gM c1.1
 have hm:=gM c1.2
 have e1:((s.length:Int)-z.length-1).toNat=s.length-z.length-1:=by omega
 have ff:=qA @e1 ff
 refine aa Tp ?_ (hok:=iE @Zhv)
 exact fo 1 (k:=o3l)
def Ij(s:Str)(hs:s.length<=1000):PureCt prog 109 [.v (.string (bs s))] (.b (yY s)):=by
 refine oO func109 λff=>?_
 unfold f109
 refine aa Tp ?_
 refine aa Tp ?_ (hok:=iE @EM)
 rcases hps:bF s with _|⟨p0,ps⟩
 . have ff:=qA @hps ff;refine aa Tp ?_;exact fo 0 (k:=by simp[yY,hps])
 have ff:=qA @hps ff
 refine aa Tp ?_
 exact fo 0 (k:=by simp[yY,hps])
def Pf(a:Str)(s:Int)(b:Str)(t:Int):PureCt prog 120 [.v (.string (bs a)),.i s,.v (.string (bs b)),.i t] (.i (qC ⟨a,s⟩ ⟨b,t⟩)):=by
 refine oO func120 λff=>?_
 unfold f120
 refine aa Tp ?_
 refine oK Tp ?_ ?_<;>intro c1
 . refine aa Tp ?_ (hok:=oF (Mv _ _));refine aa Tp ?_;exact fo 0 (k:=by simp[qC, *])
 refine aa Tp ?_ (hok:=iE @Gy)
 exact fo 0 (k:=by simp[qC, *])
def Oj(a:ak)(b:ak):PureCt prog 145 [.agg a.d,.agg b.d] (.i (qC a b)):=by
 refine oO func145 λff=>?_
 unfold f145
 refine aa Tp ?_
 refine oK Tp ?_ ?_<;>intro c1
 . refine aa Tp ?_ (hok:=oF (Mv _ _));refine aa Tp ?_;exact fo 0 (k:=by simp[qC, *])
 refine aa Tp ?_ (hok:=iE @Gy)
 exact fo 0 (k:=by simp[qC, *])
def ZhZ(t:Int)(a:Bool):PureCt prog 121 [.i t,.b a] (.b (fits t a)):=by
 refine oO func121 λff=>?_
 unfold f121
 refine aa Tp ?_
 refine ae ?_
 refine aa Tp ?_
 refine aj ?_
 refine oL Tp ?_ ?_<;>intro c1
 .
  refine cd ?_ ?_<;>intro c2
  . refine aa Tp ?_;exact fo 0 (k:=o6c)
  refine oL Tp ?_ ?_<;>intro c3
  .
   refine cd ?_ ?_<;>intro c4
   . refine aa Tp ?_;exact fo 0 (k:=o6c)
   refine ah ?_;refine aa Tp ?_;exact fo 0 (k:=o6c)
  refine ai Tp ?_;refine cd ?_ ?_<;>intro c5
  . refine aa Tp ?_;exact fo 0 (k:=o6c)
  refine ah ?_;refine aa Tp ?_;exact fo 0 (k:=o6c)
 refine ai Tp ?_
 refine cd ?_ ?_<;>intro c6
 . refine aa Tp ?_;exact fo 0 (k:=o6c)
 refine oL Tp ?_ ?_<;>intro c7
 .
  refine cd ?_ ?_<;>intro c8
  . refine aa Tp ?_;exact fo 0 (k:=o6c)
  refine ah ?_;refine aa Tp ?_;exact fo 0 (k:=o6c)
 refine ai Tp ?_
 refine cd ?_ ?_<;>intro c9
 . refine aa Tp ?_;exact fo 0 (k:=o6c)
 refine ah ?_
 refine aa Tp ?_
 exact fo 0 (k:=o6c)
def ZdJ(t:Int)(a:Bool):PureCt prog 113 [.i t,.b a] (.b (fits t a)):=by
 refine oO func113 λff=>?_
 unfold f113
 refine aa Tp ?_
 refine oK Tp ?_ ?_<;>intro c1
 . refine aa Tp ?_;exact fo 0 (k:=by simp;simp only[fits];grind)
 refine aa Tp ?_
 exact fo 0 (k:=by simp;simp only[fits];grind)
def rM(s:Str)(z:Str)(hs:s.length<=1000)(hz:z.length<=1000):PureCt prog 111 [.v (.string (bs s)),.v (.string (bs z))] (.b (iq s z)):=by
 refine oO func111 λff=>?_
 unfold f111
 refine aa Tp ?_
 refine aa Tp ?_ (hok:=oF (EM _ hs))
 refine aa Tp ?_ (hok:=oF (EM _ hz))
 refine oK Tp ?_ ?_<;>intro c1
 . refine aa Tp ?_;exact fo 0 (k:=by simp[iq];omega)
 have hp:=Sr s
 have hq:=Sr z
 refine ae ?_
 refine aa Tp ?_
 refine aj ?_
 refine lp (α:=(Nat)×Nat) [5,6] (λ⟨k,nx⟩=>(k<=(bF z).length)/\(aA (bF z).length (yo (bF s) (bF z)) 0=aA (bF z).length (yo (bF s) (bF z)) k)/\True) (λ⟨k,nx⟩=>(bF z).length-k) (λ⟨k,nx⟩=>[(7,.i k)]) (λ⟨k,nx⟩=>[]) (λ⟨k,nx⟩=>nx) (0,_) (hA:=⟨iv,rfl,trivial⟩) (round:=?_)
 rintro⟨k,nx⟩ ⟨hk,hv, -⟩
 simp only[XY,X0]
 refine oL Tp ?_ ?_ (hp:=rfl)<;>intro c2
 .
  have hk2:k<(bF z).length:=by simpa using c2
  have hk3:(bF s).length-(bF z).length+k<(bF s).length:=by omega
  have e1:(((bF s).length:Int)-(bF z).length+k).toNat=(bF s).length-(bF z).length+k:=by omega
  have ff:=qD @e1 (nS hk2) (nS hk3) ff;refine ae ?_;refine aj ?_;refine aa Tp ?_;refine cd ?_ ?_<;>intro c3
  . refine aa Tp ?_;exact fo 0 (k:=by have hF:(yo (bF s) (bF z)) k=false:=(by simp only[yo];grind);simp only[iq];rw[hv,eO hk2 hF];try simp)
  refine ah ?_;refine ai Tp ?_
  show ∃_,_
  have h8:(yo (bF s) (bF z)) k=true:=by simp only[yo];grind
  exact ay (k+1,_) (h1:=⟨iv,o5b,trivial⟩)
 refine aH ?_
 refine aa Tp ?_
 exact fo 0 (k:=by simp only[iq];rw[hv,ib (by omega)];simp;omega)
def Zao(l:List RSig)(a:Str):PureCt prog 122 [.list false (l.map RSig.d),.v (.string (bs a))] (.b (mE l a)):=by
 refine oO func122 λff=>?_
 unfold f122
 refine aa Tp ?_
 refine oK Tp ?_ ?_<;>intro c1
 . refine aa Tp ?_;exact fo 0 (k:=by simp[mE];omega)
 refine ae ?_
 refine aa Tp ?_
 refine aj ?_
 refine lp (α:=(Nat)×Nat) [0,1,10,11] (λ⟨k,nx⟩=>(k<=l.length)/\(aA l.length (lv a l) 0=aA l.length (lv a l) k)/\True) (λ⟨k,nx⟩=>l.length-k) (λ⟨k,nx⟩=>[(12,.i k)]) (λ⟨k,nx⟩=>[]) (λ⟨k,nx⟩=>nx) (0,_) (hA:=⟨iv,rfl,trivial⟩) (round:=?_)
 rintro⟨k,nx⟩ ⟨hk,hv, -⟩
 simp only[XY,X0]
 refine aa Tp ?_
 refine ae ?_
 refine cd ?_ ?_ (hp:=rfl)<;>intro c2
 .
  have hk2:k<l.length:=by simpa using c2
  have h0:0<l.length:=by omega
  have hk1:k-1<l.length:=by omega
  have e1:((k:Int)-1).toNat=k-1:=by omega
  have ff:=qE (vS hk2) (vS h0) (vS hk1) @e1 ff;refine ah ?_;refine ae ?_;refine aj ?_;refine aa Tp ?_;refine oK Tp ?_ ?_<;>intro c3
  . refine aa Tp ?_;exact fo 0 (k:=o2e)
  refine oK Tp ?_ ?_<;>intro c4
  . refine aa Tp ?_;exact fo 0 (k:=o2e)
  refine aa Tp ?_;refine cd ?_ ?_<;>intro c5
  . refine aa Tp ?_;exact fo 0 (k:=o2e)
  refine ah ?_;refine ai Tp ?_
  show ∃_,_
  have h8:(lv a l) k=true:=by simp only[lv,aW];grind
  exact ay (k+1,_) (h1:=⟨iv,o5b,trivial⟩)
 refine aH ?_
 refine aa Tp ?_
 exact fo 0 (k:=by simp only[mE];rw[hv,ib (by omega)];simp;omega)
def ZdE(l:List RSig)(a:Str):PureCt prog 116 [.list false (l.map RSig.d),.v (.string (bs a))] (.b (mE l a)):=by
 refine oO func116 λff=>?_
 unfold f116
 refine aa Tp ?_
 refine oK Tp ?_ ?_<;>intro c1
 . refine aa Tp ?_;exact fo 0 (k:=by simp[mE];omega)
 refine ae ?_
 refine aa Tp ?_
 refine aj ?_
 refine lp (α:=(Nat)×Nat) [0,1] (λ⟨k,nx⟩=>(k<=l.length)/\(aA l.length (lv a l) 0=aA l.length (lv a l) k)/\True) (λ⟨k,nx⟩=>l.length-k) (λ⟨k,nx⟩=>[(5,.i k)]) (λ⟨k,nx⟩=>[]) (λ⟨k,nx⟩=>nx) (0,_) (hA:=⟨iv,rfl,trivial⟩) (round:=?_)
 rintro⟨k,nx⟩ ⟨hk,hv, -⟩
 simp only[XY,X0]
 refine oL Tp ?_ ?_ (hp:=rfl)<;>intro c2
 .
  have hk2:k<l.length:=by simpa using c2
  have h0:0<l.length:=by omega
  have hk1:k-1<l.length:=by omega
  have e1:((k:Int)-1).toNat=k-1:=by omega
  have ff:=qE (vS hk2) (vS h0) (vS hk1) @e1 ff;refine ae ?_;refine aj ?_;refine aa Tp ?_;refine oK Tp ?_ ?_<;>intro c3
  . refine aa Tp ?_;exact fo 0 (k:=o2e)
  refine aa Tp ?_;refine cd ?_ ?_<;>intro c4
  . refine aa Tp ?_;exact fo 0 (k:=o2e)
  refine ah ?_;refine ai Tp ?_
  show ∃_,_
  have h8:(lv a l) k=true:=by simp only[lv,aW];grind
  exact ay (k+1,_) (h1:=⟨iv,o5b,trivial⟩)
 refine aH ?_
 refine aa Tp ?_
 exact fo 0 (k:=by simp only[mE];rw[hv,ib (by omega)];simp;omega)
def DR{l:List Sgd}{q:ak}{i j:Nat}(hv:bz l q=pJ (λk=>qC l[k]!.q q) i j)(h:i<j):(qC l[(i+j) / 2]!.q q<0->bz l q=pJ (λk=>qC l[k]!.q q) ((i+j) / 2+1) j)/\(¬qC l[(i+j) / 2]!.q q<0->bz l q=pJ (λk=>qC l[k]!.q q) i ((i+j) / 2)):=by
 rw[Co,X3 h]at hv
 exact⟨λh2=>by rw[X3 h2]at hv;exact hv,λh2=>by rw[XV h2]at hv;exact hv⟩
def Ei(s:Sgd)(q:ak):PureCt prog 129 [.agg s.d,.agg q.d] (.i (qC s.q q)):=by
 refine oO func129 λff=>?_
 unfold f129
 refine aa Tp ?_
 refine aa Tp ?_ (hok:=oF (Pf _ _ _ _))
 exact fp 0
def Zas(l:List Sgd)(q:ak)(hl:l.length<=1000000):PureCt prog 128 [.list false (l.map Sgd.d),.agg q.d,.fn (.func 129) [] []] (.tuple [.i (bz l q),.b (dB l q)]):=by
 refine oO func128 λff=>?_
 unfold f128
 refine oD Tp ?_
 refine ae ?_
 refine aj ?_
 refine lp (α:=(Nat)×(Nat)×Nat) [0,2,4,8] (λ⟨i,j,nx⟩=>(i<=j)/\(j<=l.length)/\(0<nx)/\(bz l q=pJ (λk=>qC l[k]!.q q) i j)/\True) (λ⟨i,j,nx⟩=>j-i) (λ⟨i,j,nx⟩=>[(9,.i i),(10,.i j)]) (λ⟨i,j,nx⟩=>[(0,⟨86,[q.d]⟩)]) (λ⟨i,j,nx⟩=>nx) (0,l.length,_) (hA:=⟨iv,iv,iv,rfl,trivial⟩) (round:=?_)
 rintro⟨i,j,nx⟩ ⟨hij,hj,hx,hv, -⟩
 simp only[XY,X0]
 have ff:=qA @hx ff
 refine oL Tp ?_ ?_ (hp:=rfl)<;>intro c1
 .
  have hk2:i<j:=by simpa using c1
  have hm:(i+j) / 2<l.length:=by omega
  have ff:=qB (TF (i:=i) (j:=j) (by omega)) (dF hm) ff
  refine aj ?_;refine aa Tp ?_;refine aa Tp ?_ (hok:=oH (Ei l[(i+j) / 2]! q));refine cd ?_ ?_<;>intro c2
  .
   refine ai Tp ?_
   show ∃_,_
   exact ay ((i+j) / 2+1,j,_) (h1:=⟨iv,iv,iv,((DR hv hk2).1 c2),trivial⟩)
  refine ai Tp ?_
  show ∃_,_
  exact ay (i,(i+j) / 2,_) (h1:=⟨iv,iv,iv,(by(try dsimp only);exact(DR hv hk2).2 om),trivial⟩)
 refine aH ?_
 have hij2:i=j:=by have h9 : ¬i<j:=(by simpa using c1);omega
 have hv2:bz l q=i:=by rw[hv,Co,XV (by omega)]
 by_cases hk4:i<l.length
 .
  have ff:=qA (dF hk4) ff;refine aa Tp ?_ (hok:=o0y)
  exact fo 1 (k:=o5e)
 have ff:=qA (Nz (f:=Sgd.d) (Nat.le_of_not_lt hk4)) ff
 refine aa Tp ?_ (hok:=o0y)
 exact fo 1 (k:=o5e)
def Eh(z:Zon)(q:ak)(hl:z.sets.length<=1000000):PureCt prog 74 [.agg z.d,.agg q.d] (.tuple [.i (bz z.sets q),.b (dB z.sets q)]):=by
 refine oO func74 λff=>?_
 unfold f74
 refine aa Tp ?_
 refine aa Tp ?_ (hok:=oH (Zas _ _ hl))
 exact fp 1
def O7(z:Zon):PureCt prog 59 [.agg z.d] (.b (ordered z)):=by
 refine oO func59 λff=>?_
 unfold f59
 refine aa Tp ?_
 refine oK Tp ?_ ?_ (hok:=oI zF Nn)<;>intro c1
 . refine aa Tp ?_;exact fo 0 (k:=by simp only[ordered];rw[Ay]at *;grind)
 refine ae ?_
 refine aa Tp ?_
 refine aj ?_
 refine lp (α:=(Nat)×Nat) [1,28,29] (λ⟨k,nx⟩=>(k<=z.sets.length)/\(aA z.sets.length (oM z.apex z.sets) 0=aA z.sets.length (oM z.apex z.sets) k)/\(0<nx)/\True) (λ⟨k,nx⟩=>z.sets.length-k) (λ⟨k,nx⟩=>[(30,.i k)]) (λ⟨k,nx⟩=>[(0,⟨124,[z.d]⟩)]) (λ⟨k,nx⟩=>nx) (0,_) (hA:=⟨iv,rfl,iv,trivial⟩) (round:=?_)
 rintro⟨k,nx⟩ ⟨hk,hv,hx, -⟩
 simp only[XY,X0]
 have ff:=qA @hx ff
 refine aa Tp ?_
 refine ae ?_
 refine cd ?_ ?_ (hp:=rfl)<;>intro c2
 .
  have hk2:k<z.sets.length:=by simpa using c2
  have h0:0<z.sets.length:=by omega
  have hk1:k-1<z.sets.length:=by omega
  have e1:((k:Int)-1).toNat=k-1:=by omega
  have ff:=qE (dF hk2) (dF h0) (dF hk1) @e1 ff;refine ah ?_;refine ae ?_;refine aj ?_;refine aa Tp ?_;refine oK Tp ?_ ?_ (hok:=oF (vg _))<;>intro c3
  . refine aa Tp ?_;exact fo 0 (k:=o1r)
  refine ae ?_;refine aa Tp ?_ (hok:=oF (Mo _ _));refine aa Tp ?_;refine cd ?_ ?_<;>intro c4
  . refine aa Tp ?_;exact fo 0 (k:=o1r)
  refine ah ?_;refine oK Tp ?_ ?_<;>intro c5
  .
   refine aH ?_;refine ai Tp ?_
   show ∃_,_
   have h8:(oM z.apex z.sets) k=true:=by simp only[oM];grind [Sgd.q]
   exact ay (k+1,_) (h1:=⟨iv,o5b,iv,trivial⟩)
  refine aa Tp ?_;refine aa Tp ?_ (hok:=oF (Pf _ _ _ _));refine cd ?_ ?_<;>intro c6
  . refine aa Tp ?_;exact fo 0 (k:=o1r)
  refine ah ?_;refine ai Tp ?_
  show ∃_,_
  have h8:(oM z.apex z.sets) k=true:=by simp only[oM];grind [Sgd.q]
  exact ay (k+1,_) (h1:=⟨iv,o5b,iv,trivial⟩)
 refine aH ?_
 refine aa Tp ?_
 exact fo 0 (k:=by simp only[ordered];rw[Ay]at *;rw[hv,ib (by omega)];grind)
def Zat(z:Zon)(hl:z.sets.length<=1000000):PureCt prog 60 [.agg z.d] (.b (wm z)):=by
 refine oO func60 λff=>?_
 unfold f60
 refine aa Tp ?_
 refine ae ?_
 refine aa Tp ?_
 refine aj ?_
 refine lp (α:=(Nat)×Nat) [1,9,10] (λ⟨k,nx⟩=>(k<=2)/\(aA 2 (pM z) 0=aA 2 (pM z) k)/\(0<nx)/\True) (λ⟨k,nx⟩=>2-k) (λ⟨k,nx⟩=>[(11,.i k)]) (λ⟨k,nx⟩=>[(0,⟨124,[z.d]⟩)]) (λ⟨k,nx⟩=>nx) (0,_) (hA:=⟨iv,rfl,iv,trivial⟩) (round:=?_)
 rintro⟨k,nx⟩ ⟨hk,hv1,hx, -⟩
 simp only[XY,X0]
 have ff:=qA @hx ff
 refine aa Tp ?_
 refine ae ?_
 refine cd ?_ ?_ (hp:=rfl)<;>intro c1
 .
  have hk2:k<2:=by have h9:(k:Int)<2:=(by simpa using c1);omega
  refine ah ?_;refine ae ?_;refine aj ?_;have h01:k=0\/k=1:=by omega
  rcases h01 with e0|e0
  .
   have ff:=qA @e0 ff;refine aa Tp ?_;refine aa Tp ?_ (hok:=oI (Eh z ⟨z.apex,4⟩ hl) (Eh z ⟨z.apex,2⟩ hl));refine aa Tp ?_;refine cd ?_ ?_<;>intro c2
   . refine aa Tp ?_;exact fo 0 (k:=o2g)
   refine ah ?_;refine ai Tp ?_
   show ∃_,_
   have h8:(pM z) k=true:=by simpa[pM,e0]using c2
   exact ay (k+1,_) (h1:=⟨iv,o4y,iv,trivial⟩)
  have ff:=qA @e0 ff;refine aa Tp ?_;refine aa Tp ?_ (hok:=oI (Eh z ⟨z.apex,4⟩ hl) (Eh z ⟨z.apex,2⟩ hl));refine aa Tp ?_;refine cd ?_ ?_<;>intro c2
  . refine aa Tp ?_;exact fo 0 (k:=o2g)
  refine ah ?_;refine ai Tp ?_
  show ∃_,_
  have h8:(pM z) k=true:=by simpa[pM,e0]using c2
  exact ay (k+1,_) (h1:=⟨iv,o4y,iv,trivial⟩)
 refine aH ?_
 refine ae ?_
 refine aa Tp ?_
 refine aj ?_
 refine lp (α:=(Nat)×Nat) [1,30,31] (λ⟨k,nx⟩=>(k<=z.sets.length)/\(aA z.sets.length (qQ z.apex z.sets) 0=aA z.sets.length (qQ z.apex z.sets) k)/\(0<nx)/\True) (λ⟨k,nx⟩=>z.sets.length-k) (λ⟨k,nx⟩=>[(32,.i k)]) (λ⟨k,nx⟩=>[(0,⟨124,[z.d]⟩)]) (λ⟨k,nx⟩=>nx) (0,_) (hA:=⟨iv,rfl,iv,trivial⟩) (round:=?_)
 rintro⟨k,nx⟩ ⟨hk,hv,hx, -⟩
 simp only[XY,X0]
 have ff:=qA @hx ff
 refine aa Tp ?_
 refine ae ?_
 refine cd ?_ ?_ (hp:=rfl)<;>intro c3
 .
  have hk2:k<z.sets.length:=by simpa using c3
  have ff:=qA (dF hk2) ff;refine ah ?_;refine ae ?_;refine aj ?_;refine aa Tp ?_;refine aa Tp ?_ (hok:=oF (ZhZ _ _));refine cd ?_ ?_<;>intro c4
  . refine aa Tp ?_;exact fo 0 (k:=by have hF:(qQ z.apex z.sets) k=false:=(by simp only[qQ];grind);simp only[wm];rw[hv,eO hk2 hF];try simp)
  refine ah ?_;refine ai Tp ?_
  show ∃_,_
  have h8:(qQ z.apex z.sets) k=true:=by simp only[qQ];grind
  exact ay (k+1,_) (h1:=⟨iv,o5b,iv,trivial⟩)
 refine aH ?_
 refine aa Tp ?_
 exact fo 0 (k:=by simp only[wm];rw[hv1,hv,ib (n:=2) (by omega),ib (by omega)];rfl)
@[go_sem]theorem keysOk_T{m:List Str}:kL prog 9 (vJ m)=true:=by
 induction m with
 | nil=>rfl
 | cons s m ih=>rw[Bu];simp only[kL,ih,ko9,ZH]
def Zau(x:Lay)(hl:x.z.sets.length<=1000000):PureCt prog 62 [.agg x.d] (.b (uW x)):=by
 refine oO func62 λff=>?_
 unfold f62
 refine aa Tp ?_
 refine ae ?_
 refine aa Tp ?_
 refine aj ?_
 refine lp (α:=(Nat)×Nat) [1,8,9] (λ⟨k,nx⟩=>(k<=x.z.sets.length)/\(aA x.z.sets.length (nZ x.z.sets) 0=aA x.z.sets.length (nZ x.z.sets) k)/\(0<nx)/\True) (λ⟨k,nx⟩=>x.z.sets.length-k) (λ⟨k,nx⟩=>[(10,.i k)]) (λ⟨k,nx⟩=>[(0,⟨127,[x.d]⟩)]) (λ⟨k,nx⟩=>nx) (0,_) (hA:=⟨iv,rfl,iv,trivial⟩) (round:=?_)
 rintro⟨k,nx⟩ ⟨hk,hv,hx, -⟩
 simp only[XY,X0]
 have ff:=qA @hx ff
 refine aa Tp ?_
 refine ae ?_
 refine cd ?_ ?_ (hp:=rfl)<;>intro c1
 .
  have hk2:k<x.z.sets.length:=by simpa using c1
  have hk1:k-1<x.z.sets.length:=by omega
  have e1:((k:Int)-1).toNat=k-1:=by omega
  have e2:((k:Int)+1).toNat=k+1:=by omega
  have ff:=qE (dF hk2) (dF hk1) @e1 @e2 ff;refine ah ?_;refine ae ?_;refine aj ?_;refine aa Tp ?_;refine oK Tp ?_ ?_<;>intro c2
  .
   refine aH ?_;refine ai Tp ?_
   show ∃_,_
   have h8:(nZ x.z.sets) k=true:=by simp only[nZ];grind
   exact ay (k+1,_) (h1:=⟨iv,o5b,iv,trivial⟩)
  refine oK Tp ?_ ?_<;>intro c3
  . refine aa Tp ?_;exact fo 0 (k:=o2b)
  by_cases hk4:k+1<x.z.sets.length
  .
   have ff:=qA (dF hk4) ff;refine aa Tp ?_;refine cd ?_ ?_<;>intro c4
   . refine aa Tp ?_;exact fo 0 (k:=o2b)
   refine ah ?_;refine ai Tp ?_
   show ∃_,_
   have h8:(nZ x.z.sets) k=true:=by simp only[nZ];grind
   exact ay (k+1,_) (h1:=⟨iv,o5b,iv,trivial⟩)
  have e9:decide (((k+1:Nat):Int)<x.z.sets.length)=false:=Y8 om;have ff:=qA (Nz (f:=Sgd.d) (Nat.le_of_not_lt hk4)) ff;refine aa Tp ?_;refine cd ?_ ?_<;>intro c5
  . refine aa Tp ?_;exact fo 0 (k:=o2b)
  refine ah ?_;refine ai Tp ?_
  show ∃_,_
  have h8:(nZ x.z.sets) k=true:=by simp only[nZ];grind
  exact ay (k+1,_) (h1:=⟨iv,o5b,iv,trivial⟩)
 refine aH ?_
 refine aa Tp ?_
 exact fo 0 (k:=by simp only[uW];rw[hv,ib (by omega)])
def Zar(x:Lay)(hl:x.z.sets.length<=1000000)(hb:x.b.length=x.z.sets.length):PureCt prog 63 [.agg x.d] (.b (qY x)):=by
 refine oO func63 λff=>?_
 unfold f63
 refine aa Tp ?_
 refine ae ?_
 refine aa Tp ?_
 refine aj ?_
 refine lp (α:=(Nat)×Nat) [1,9,10] (λ⟨k,nx⟩=>(k<=x.z.sets.length)/\(aA x.z.sets.length (cutAt x) 0=aA x.z.sets.length (cutAt x) k)/\(0<nx)/\True) (λ⟨k,nx⟩=>x.z.sets.length-k) (λ⟨k,nx⟩=>[(11,.i k)]) (λ⟨k,nx⟩=>[(0,⟨127,[x.d]⟩)]) (λ⟨k,nx⟩=>nx) (0,_) (hA:=⟨iv,rfl,iv,trivial⟩) (round:=?_)
 rintro⟨k,nx⟩ ⟨hk,hv,hx, -⟩
 simp only[XY,X0]
 have ff:=qA @hx ff
 refine aa Tp ?_
 refine ae ?_
 refine cd ?_ ?_ (hp:=rfl)<;>intro c1
 .
  have hk2:k<x.z.sets.length:=by simpa using c1
  have hk3:k<x.b.length:=by omega
  have ff:=qB (dF hk2) (nS hk3) ff;refine ah ?_;refine ae ?_;refine aj ?_;refine oD Tp ?_;refine aj ?_;refine aa Tp ?_;refine cd ?_ ?_<;>intro c2
  .
   refine aa Tp ?_;refine cd ?_ ?_<;>intro c3
   . refine aa Tp ?_;exact fo 0 (k:=o2c)
   refine ah ?_;refine ai Tp ?_
   show ∃_,_
   have h8:(cutAt x) k=true:=by simp only[cutAt];grind
   exact ay (k+1,_) (h1:=⟨iv,o5b,iv,trivial⟩)
  refine aa Tp ?_;refine cd ?_ ?_<;>intro c4
  .
   refine aa Tp ?_;refine cd ?_ ?_<;>intro c5
   . refine aa Tp ?_;exact fo 0 (k:=o2c)
   refine ah ?_;refine ai Tp ?_
   show ∃_,_
   have h8:(cutAt x) k=true:=by simp only[cutAt];grind
   exact ay (k+1,_) (h1:=⟨iv,o5b,iv,trivial⟩)
  refine aa Tp ?_;refine cd ?_ ?_<;>intro c6
  . refine aa Tp ?_;exact fo 0 (k:=o2c)
  refine ah ?_;refine ai Tp ?_
  show ∃_,_
  have h8:(cutAt x) k=true:=by simp only[cutAt];grind
  exact ay (k+1,_) (h1:=⟨iv,o5b,iv,trivial⟩)
 refine aH ?_
 refine aa Tp ?_
 exact fo 0 (k:=by simp only[qY];rw[hv,ib (by omega)])
def Zap(x:Lay)(hl:x.z.sets.length<=1000000)(hb:x.b.length=x.z.sets.length):PureCt prog 64 [.agg x.d] (.b (zZ x)):=by
 refine oO func64 λff=>?_
 unfold f64
 refine aa Tp ?_
 refine ae ?_
 refine aa Tp ?_
 refine aj ?_
 refine lp (α:=(Nat)×Nat) [1,9,10] (λ⟨k,nx⟩=>(k<=x.z.sets.length)/\(aA x.z.sets.length (vR x) 0=aA x.z.sets.length (vR x) k)/\(0<nx)/\True) (λ⟨k,nx⟩=>x.z.sets.length-k) (λ⟨k,nx⟩=>[(11,.i k)]) (λ⟨k,nx⟩=>[(0,⟨127,[x.d]⟩)]) (λ⟨k,nx⟩=>nx) (0,_) (hA:=⟨iv,rfl,iv,trivial⟩) (round:=?_)
 rintro⟨k,nx⟩ ⟨hk,hv,hx, -⟩
 simp only[XY,X0]
 have ff:=qA @hx ff
 refine aa Tp ?_
 refine ae ?_
 refine cd ?_ ?_ (hp:=rfl)<;>intro c1
 .
  have hk2:k<x.z.sets.length:=by simpa using c1
  have hk3:k<x.b.length:=by omega
  have ff:=qB (dF hk2) (nS hk3) ff;refine ah ?_;refine ae ?_;refine aj ?_;refine oD Tp ?_;refine cd ?_ ?_<;>intro c2
  . refine aa Tp ?_;exact fo 0 (k:=by have hF:(vR x) k=false:=(by simp only[vR];grind);simp only[zZ];rw[hv,eO hk2 hF];try simp)
  refine ah ?_;refine ai Tp ?_
  show ∃_,_
  have h8:(vR x) k=true:=by simp only[vR];grind
  exact ay (k+1,_) (h1:=⟨iv,o5b,iv,trivial⟩)
 refine aH ?_
 refine aa Tp ?_
 exact fo 0 (k:=by simp only[zZ];rw[hv,ib (by omega)])
def Zaq(x:Lay)(hl:x.z.sets.length<=1000000):PureCt prog 65 [.agg x.d] (.b (Ab x)):=by
 refine oO func65 λff=>?_
 unfold f65
 refine aa Tp ?_
 refine ae ?_
 refine aa Tp ?_
 refine aj ?_
 refine lp (α:=(Nat)×Nat) [1,8,9] (λ⟨k,nx⟩=>(k<=x.z.sets.length)/\(aA x.z.sets.length (sj x.z) 0=aA x.z.sets.length (sj x.z) k)/\(0<nx)/\True) (λ⟨k,nx⟩=>x.z.sets.length-k) (λ⟨k,nx⟩=>[(10,.i k)]) (λ⟨k,nx⟩=>[(0,⟨127,[x.d]⟩)]) (λ⟨k,nx⟩=>nx) (0,_) (hA:=⟨iv,rfl,iv,trivial⟩) (round:=?_)
 rintro⟨k,nx⟩ ⟨hk,hv,hx, -⟩
 simp only[XY,X0]
 have ff:=qA @hx ff
 refine aa Tp ?_
 refine ae ?_
 refine cd ?_ ?_ (hp:=rfl)<;>intro c1
 .
  have hk2:k<x.z.sets.length:=by simpa using c1
  have ff:=qA (dF hk2) ff;refine ah ?_;refine ae ?_;refine aj ?_;refine aa Tp ?_;refine aa Tp ?_ (hok:=oF (Zao _ _));refine cd ?_ ?_<;>intro c2
  . refine aa Tp ?_;exact fo 0 (k:=by have hF:(sj x.z) k=false:=(by simpa only[sj]using c2);simp only[Ab];rw[hv,eO hk2 hF];try simp)
  refine ah ?_;refine ai Tp ?_
  show ∃_,_
  have h8:(sj x.z) k=true:=by simpa only[sj]using c2
  exact ay (k+1,_) (h1:=⟨iv,o5b,iv,trivial⟩)
 refine aH ?_
 refine aa Tp ?_
 exact fo 0 (k:=by simp only[Ab];rw[hv,ib (by omega)])
def Zan(z:Zon)(hl:z.sets.length<=1000000):PureCt prog 61 [.agg z.d] (.agg (kZ z).d):=by
 refine oO func61 λff=>?_
 unfold f61
 refine oC Tp ?_
 refine ae ?_
 refine aa Tp ?_
 refine aj ?_
 refine lp (α:=(Nat)×Nat) [1,2,3,16,17] (λ⟨k,nx⟩=>(k<=z.sets.length)/\(2<nx)/\True) (λ⟨k,nx⟩=>z.sets.length-k) (λ⟨k,nx⟩=>[(18,.i k)]) (λ⟨k,nx⟩=>[(0,⟨124,[z.d]⟩),(1,⟨127,[[.v (.string (bs [])),.list true [],.list true []]]⟩),(2,⟨195,iY (vJ (fG z (k)))⟩)]) (λ⟨k,nx⟩=>nx) (0,_) (hA:=⟨iv,iv,trivial⟩) (round:=?_)
 rintro⟨k,nx⟩ ⟨hk,hx, -⟩
 simp only[XY,X0]
 have n0:0<nx:=by omega
 have n1:1<nx:=by omega
 have ff:=qD @hx @n0 @n1 ff
 refine aa Tp ?_
 refine ae ?_
 refine cd ?_ ?_ (hp:=rfl)<;>intro c1
 .
  have hk2:k<z.sets.length:=by simpa using c1
  have ff:=qA (dF hk2) ff;refine ah ?_;refine ae ?_;refine aj ?_;refine oC Tp ?_;refine cd ?_ ?_<;>intro c2
  .
   refine ai Tp ?_;refine ai Tp ?_
   show ∃_,_
   have ff:=qA (WM (z:=z) (k:=k) (by grind)) ff
   exact ay (k+1,_) (h1:=⟨iv,iv,trivial⟩)
  refine ah ?_;refine ai Tp ?_
  show ∃_,_
  have ff:=qA (WN (z:=z) (k:=k) (by grind)) ff
  exact ay (k+1,_) (h1:=⟨iv,iv,trivial⟩)
 refine aH ?_
 refine V3 3 2 ev ev rfl Zfl ?_
 refine oC Tp ?_
 refine ae ?_
 refine aa Tp ?_
 refine aj ?_
 refine lp (α:=(Nat)×(Str)×(Nat)×(Nat)×Nat) [2,3,49,50] (λ⟨k,cut,r6,rb,nx⟩=>(k<=z.sets.length)/\(rb<nx)/\(r6<nx)/\(2<rb/\rb<r6)/\(cut=(fD (fG z z.sets.length) z.sets k).2)/\True) (λ⟨k,cut,r6,rb,nx⟩=>z.sets.length-k) (λ⟨k,cut,r6,rb,nx⟩=>[(6,.mptr r6 0 0),(7,.v (.string (bs cut))),(51,.i k)]) (λ⟨k,cut,r6,rb,nx⟩=>[(0,⟨124,[z.d]⟩),(1,⟨127,[[.v (.string (bs [])),.list true [],.list true []]]⟩),(r6,⟨127,[[.v (.string (bs z.apex)),.list false (z.sets.map Sgd.d),.mrow rb 0 z.sets.length]]⟩),(rb,⟨9,(rJ (fG z z.sets.length) z.sets z.sets.length (k)).map sR⟩)]) (λ⟨k,cut,r6,rb,nx⟩=>nx) (0,[],(nx+8),(nx+6),_) (hA:=⟨iv,iv,iv,iv,iv,trivial⟩) (round:=?_)
 rintro⟨k,cut,r6,rb,nx⟩ ⟨hk,hx,hx6,hbr,hc, -⟩
 simp only[XY,X0]
 have n0:0<nx:=by omega
 have n1:1<nx:=by omega
 have ff:=qA @hx (qI @hx6 @n0 @n1 (nH r6 rb) (nH 0 rb) (nH 1 rb) (nH 0 r6) (nH 1 r6) ff)
 refine aa Tp ?_
 refine ae ?_
 refine cd ?_ ?_ (hp:=rfl)<;>intro c3
 .
  have hk2:k<z.sets.length:=by simpa using c3
  have ff:=qD (dF hk2) (LK (m:=(fG z z.sets.length)) (l:=z.sets) hk) (nS (l:=rJ (fG z z.sets.length) z.sets z.sets.length k) (n:=k) (by rw[LK hk];exact hk2)) ff
  refine ah ?_;refine ae ?_;refine aj ?_;refine oC Tp ?_;refine oK Tp ?_ ?_<;>intro c4
  .
   refine aa Tp ?_ (hok:=oF (Mo _ _));refine aa Tp ?_;refine cd ?_ ?_<;>intro c5
   .
    refine ai Tp ?_;refine oK Tp ?_ ?_<;>intro c6
    .
     refine ai Tp ?_;refine ai Tp ?_;refine ai Tp ?_
     show ∃_,_
     have hcc:(fD (fG z z.sets.length) z.sets (k+1)).2=z.sets[k]!.set.name:=by show stepC _ (fD _ _ k).2 _=_;rw[<-hc];simp only[stepC];grind
     have ff:=qB (CS hk2 hcc) hcc ff;exact ay (k+1,(fD (fG z z.sets.length) z.sets (k+1)).2,r6,rb,_) (h1:=⟨iv,iv,iv,iv,iv,trivial⟩)
    refine ai Tp ?_;refine ai Tp ?_
    show ∃_,_
    have hcc:(fD (fG z z.sets.length) z.sets (k+1)).2=[]:=by show stepC _ (fD _ _ k).2 _=_;rw[<-hc];simp only[stepC];grind
    have ff:=qB (CS hk2 hcc) hcc ff;exact ay (k+1,(fD (fG z z.sets.length) z.sets (k+1)).2,r6,rb,_) (h1:=⟨iv,iv,iv,iv,iv,trivial⟩)
   refine ah ?_;refine oK Tp ?_ ?_<;>intro c6
   .
    refine ai Tp ?_;refine ai Tp ?_;refine ai Tp ?_
    show ∃_,_
    have hcc:(fD (fG z z.sets.length) z.sets (k+1)).2=z.sets[k]!.set.name:=by show stepC _ (fD _ _ k).2 _=_;rw[<-hc];simp only[stepC];grind
    have ff:=qB (CS hk2 hcc) hcc ff;exact ay (k+1,(fD (fG z z.sets.length) z.sets (k+1)).2,r6,rb,_) (h1:=⟨iv,iv,iv,iv,iv,trivial⟩)
   refine ai Tp ?_;refine ai Tp ?_
   show ∃_,_
   have hcc:(fD (fG z z.sets.length) z.sets (k+1)).2=cut:=by show stepC _ (fD _ _ k).2 _=_;rw[<-hc];simp only[stepC];grind
   have ff:=qB (CS hk2 hcc) hcc ff;exact ay (k+1,(fD (fG z z.sets.length) z.sets (k+1)).2,r6,rb,_) (h1:=⟨iv,iv,iv,iv,iv,trivial⟩)
  refine oK Tp ?_ ?_<;>intro c6
  .
   refine ai Tp ?_;refine ai Tp ?_;refine ai Tp ?_
   show ∃_,_
   have hcc:(fD (fG z z.sets.length) z.sets (k+1)).2=z.sets[k]!.set.name:=by show stepC _ (fD _ _ k).2 _=_;rw[<-hc];simp only[stepC];grind
   have ff:=qB (CS hk2 hcc) hcc ff;exact ay (k+1,(fD (fG z z.sets.length) z.sets (k+1)).2,r6,rb,_) (h1:=⟨iv,iv,iv,iv,iv,trivial⟩)
  refine ai Tp ?_;refine ai Tp ?_
  show ∃_,_
  have hcc:(fD (fG z z.sets.length) z.sets (k+1)).2=cut:=by show stepC _ (fD _ _ k).2 _=_;rw[<-hc];simp only[stepC];grind
  have ff:=qB (CS hk2 hcc) hcc ff;exact ay (k+1,(fD (fG z z.sets.length) z.sets (k+1)).2,r6,rb,_) (h1:=⟨iv,iv,iv,iv,iv,trivial⟩)
 refine aH ?_
 have e9:k=z.sets.length:=by omega
 subst e9
 have tk:List.take z.sets.length ((rJ (fG z z.sets.length) z.sets z.sets.length z.sets.length).map sR)=(Eb z).map sR:=by rw[ZdW];exact Yl (by rw[Zm,Ap];exact XX _)
 have ff:=qB @tk (LK (m:=(fG z z.sets.length)) (l:=z.sets) (XX z.sets.length)) ff
 refine aa Tp ?_
 exact oN (fin 2 (hr:=oR) (hk:=by(try simp only[go_sem,ff]);all_goals (exact OO z)))
def xE(z:Zon):PureCt prog 23 [.agg z.d] (.b (aJ z)):=by
 refine oO func23 λff=>?_
 unfold f23
 refine oC Tp ?_
 refine oK Tp (λc1=>?_) (λc1=>?_) (hok:=by(try simp only[go_sem,ff]);all_goals (first|done|((repeat' (with_reducible apply And.intro))<;>first|(intros;exact O7 z)|(intro h;exact Zat z (Mg h))|(intros;simp_all;done)|skip)))
 . refine aa Tp ?_;exact fo 0 (k:=by simp only[aJ];grind)
 have ho:=Mg c1.1
 refine aa Tp ?_ (hok:=oF (Zan z ho))
 refine aa Tp ?_ (hok:=oa4 (Zau (kZ z) ho) (Zar (kZ z) ho (OO z)) (Zap (kZ z) ho (OO z)) (Zaq (kZ z) ho))
 exact fo 0 (k:=by simp only[aJ];rw[c1.1,c1.2];simp[ZZ])
def O6(z:Zon):PureCt prog 26 [.agg z.d] (.tuple [.i (if aJ z then aM z else 0),.i (if aJ z then 0 else 1)]):=by
 refine oO func26 λff=>?_
 unfold f26
 refine aa Tp ?_
 refine oK Tp ?_ ?_ (hok:=oF (xE z))<;>intro c1
 . refine aa Tp ?_;exact fo 1 (k:=by simp[c1])
 refine aa Tp ?_ (hok:=oF (Eh z ⟨z.apex,4⟩ (Ze9 c1)))
 obtain⟨hf1,hf2⟩:=Zb9 c1
 have ff:=qB (dF hf1) (pG hf2) ff
 refine aa Tp ?_
 exact fo 1 (k:=by simp[c1,aM])
def QH{x y:RSig}(h:x.zone=y.zone/\x.key=y.key/\x.alg=y.alg/\x.frm=y.frm/\x.unt=y.unt/\x.sum=y.sum):x=y:=by
 obtain⟨a,b,c,d,e,f⟩:=x
 obtain⟨g,i,j,k,l,m⟩:=y
 simp at h
 simp[h]
theorem ZcB{x y:RSig}(h : ¬x.zone=y.zone \/ ¬x.key=y.key \/ ¬x.alg=y.alg \/ ¬x.frm=y.frm \/ ¬x.unt=y.unt \/ ¬x.sum=y.sum):x≠y:=by
 rintro rfl
 simp at h
def ZdF(a:Sgd)(b:Sgd)(ha:tX a):PureCt prog 88 [.agg a.d,.agg b.d] (.b (lw a b)):=by
 refine oO func88 λff=>?_
 unfold f88
 have ha2:=ha.2
 refine aa Tp ?_
 refine oK Tp ?_ ?_ (hok:=oH (ZdH _ _ ha.1))<;>intro c1
 . refine aa Tp ?_;exact fo 0 (k:=by rw[ZcH (by grind [ve])])
 refine ae ?_
 refine aa Tp ?_
 refine aj ?_
 refine lp (α:=(Nat)×Nat) [2,3] (λ⟨k,nx⟩=>(k<=a.sigs.length)/\(1<nx)/\(∀i,i<k->a.sigs[i]! = b.sigs[i]!)/\True) (λ⟨k,nx⟩=>a.sigs.length-k) (λ⟨k,nx⟩=>[(5,.i k)]) (λ⟨k,nx⟩=>[(0,⟨84,[a.d]⟩),(1,⟨84,[b.d]⟩)]) (λ⟨k,nx⟩=>nx) (0,_) (hA:=⟨iv,iv,o4c,trivial⟩) (round:=?_)
 rintro⟨k,nx⟩ ⟨hk,hx,hv, -⟩
 simp only[XY,X0]
 have n0:0<nx:=by omega
 have ff:=qB @hx @n0 ff
 refine oL Tp ?_ ?_ (hp:=rfl)<;>intro c2
 .
  have hk2:k<a.sigs.length:=by simpa using c2
  have hk3:k<b.sigs.length:=by grind
  have ff:=qB (vS hk2) (vS hk3) ff;refine ae ?_;refine aj ?_;refine aa Tp ?_;refine cd ?_ ?_<;>intro c3
  . refine aa Tp ?_;exact fo 0 (k:=by rw[ZcG (ZcB c3)])
  refine ah ?_;refine ai Tp ?_
  show ∃_,_
  exact ay (k+1,_) (h1:=⟨iv,iv,o2t,trivial⟩)
 refine aH ?_
 refine aa Tp ?_
 exact fo 0 (k:=by rw[ZcF (by grind [ve]) (by grind) λi hi=>hv i (by omega)])
def ZdG(a:List Sgd)(b:List Sgd)(ha:fO a):PureCt prog 42 [.list false (a.map Sgd.d),.list false (b.map Sgd.d)] (.b (sZ a b)):=by
 refine oO func42 λff=>?_
 unfold f42
 have ha1:=ha.1
 refine aa Tp ?_
 refine oK Tp ?_ ?_<;>intro c1
 . refine aa Tp ?_;exact fo 0 (k:=by rw[QK (by grind)])
 refine ae ?_
 refine aa Tp ?_
 refine aj ?_
 refine lp (α:=(Nat)×Nat) [0,1] (λ⟨k,nx⟩=>(k<=a.length)/\(∀i,i<k->lw a[i]! b[i]! = true)/\True) (λ⟨k,nx⟩=>a.length-k) (λ⟨k,nx⟩=>[(5,.i k)]) (λ⟨k,nx⟩=>[]) (λ⟨k,nx⟩=>nx) (0,_) (hA:=⟨iv,o4c,trivial⟩) (round:=?_)
 rintro⟨k,nx⟩ ⟨hk,hv, -⟩
 simp only[XY,X0]
 refine oL Tp ?_ ?_ (hp:=rfl)<;>intro c2
 .
  have hk2:k<a.length:=by simpa using c2
  have hk3:k<b.length:=by grind
  have ff:=qB (dF hk2) (dF hk3) ff;refine ae ?_;refine aj ?_;refine aa Tp ?_ (hok:=oH (ZdF _ _ (ha.2 k hk2)));refine cd ?_ ?_<;>intro c3
  . refine aa Tp ?_;exact fo 0 (k:=by rw[QQ (k:=k) (by grind)])
  refine ah ?_;refine ai Tp ?_
  show ∃_,_
  exact ay (k+1,_) (h1:=⟨iv,(by(try dsimp only);intro i hi;by_cases e:i=k;subst e;grind;exact hv i om),trivial⟩)
 refine aH ?_
 refine aa Tp ?_
 exact fo 0 (k:=by rw[QJ (by grind) λi hi=>hv i (by omega)])
def CQ(a:Zon)(b:Zon)(ha:fO a.sets):PureCt prog 13 [.agg a.d,.agg b.d] (.b (mG a b)):=by
 refine oO func13 λff=>?_
 unfold f13
 refine aa Tp ?_
 refine aa Tp ?_ (hok:=oH (ZdG _ _ ha))
 exact fo 0 (k:=by simp[Zds])
def LV(z:Zon)(q:ak)(hl:z.sets.length<=1000000):PureCt prog 57 [.agg z.d,.agg q.d] (.i (dQ z.sets q)):=by
 refine oO func57 λff=>?_
 unfold f57
 refine aa Tp ?_
 refine ae ?_
 refine aa Tp ?_
 refine aj ?_
 refine lp (α:=(Nat)×Nat) [2,3] (λ⟨k,nx⟩=>(k<=z.sets.length)/\(1<nx)/\(dQ z.sets q=rW z.sets q k)/\True) (λ⟨k,nx⟩=>z.sets.length-k) (λ⟨k,nx⟩=>[(5,.i k)]) (λ⟨k,nx⟩=>[(0,⟨24,[z.d]⟩),(1,⟨86,[q.d]⟩)]) (λ⟨k,nx⟩=>nx) (0,_) (hA:=⟨iv,iv,rfl,trivial⟩) (round:=?_)
 rintro⟨k,nx⟩ ⟨hk,hx,hv, -⟩
 simp only[XY,X0]
 have n0:0<nx:=by omega
 have ff:=qB @hx @n0 ff
 refine oL Tp ?_ ?_ (hp:=rfl)<;>intro c1
 .
  have hk2:k<z.sets.length:=by simpa using c1
  have ff:=qA (dF hk2) ff;refine ae ?_;refine aj ?_;refine aa Tp ?_;refine cd ?_ ?_<;>intro c2
  . refine aa Tp ?_;exact fo 0 (k:=by rw[hv,vL,X3 hk2,X3 (by cases q;simp_all [Sgd.q])])
  refine ah ?_;refine ai Tp ?_
  show ∃_,_
  exact ay (k+1,_) (h1:=⟨iv,iv,(by(try dsimp only);rw[hv,vL,if_pos hk2,if_neg (by intro e;rw[<-e]at c2;simp[Sgd.q]at c2)]),trivial⟩)
 refine aH ?_
 refine aa Tp ?_
 exact fo 0 (k:=by rw[hv,vL,XV (by omega)])
def RJ(z:Zon)(hl:z.sets.length<=1000000):PureCt prog 53 [.agg z.d] (.b (rA z)):=by
 refine oO func53 λff=>?_
 unfold f53
 refine aa Tp ?_
 refine oK Tp ?_ ?_ (hok:=oI (LV z ⟨z.apex,4⟩ hl) (LV z ⟨z.apex,2⟩ hl))<;>intro c1
 . refine aa Tp ?_;exact fo 0 (k:=by simp only[rA];grind)
 refine ae ?_
 refine aa Tp ?_
 refine aj ?_
 refine lp (α:=(Nat)×Nat) [1] (λ⟨k,nx⟩=>(k<=z.sets.length)/\(aA z.sets.length (qQ z.apex z.sets) 0=aA z.sets.length (qQ z.apex z.sets) k)/\(0<nx)/\True) (λ⟨k,nx⟩=>z.sets.length-k) (λ⟨k,nx⟩=>[(3,.i k)]) (λ⟨k,nx⟩=>[(0,⟨24,[z.d]⟩)]) (λ⟨k,nx⟩=>nx) (0,_) (hA:=⟨iv,rfl,iv,trivial⟩) (round:=?_)
 rintro⟨k,nx⟩ ⟨hk,hv,hx, -⟩
 simp only[XY,X0]
 have ff:=qA @hx ff
 refine oL Tp ?_ ?_ (hp:=rfl)<;>intro c2
 .
  have hk2:k<z.sets.length:=by simpa using c2
  have ff:=qA (dF hk2) ff;refine ae ?_;refine aj ?_;refine aa Tp ?_ (hok:=oH ZdJ);refine cd ?_ ?_<;>intro c3
  . refine aa Tp ?_;exact fo 0 (k:=by have hF:(qQ z.apex z.sets) k=false:=(by simp only[qQ];grind);simp only[rA];rw[hv,eO hk2 hF];try simp)
  refine ah ?_;refine ai Tp ?_
  show ∃_,_
  have h8:(qQ z.apex z.sets) k=true:=by simp only[qQ];grind
  exact ay (k+1,_) (h1:=⟨iv,o5b,iv,trivial⟩)
 refine aH ?_
 refine aa Tp ?_
 exact fo 0 (k:=by simp only[rA];rw[hv,ib (by omega)];grind)
def RN(z:Zon):PureCt prog 52 [.agg z.d] (.b (mK z)):=by
 refine oO func52 λff=>?_
 unfold f52
 refine aa Tp ?_
 refine oK Tp (λc1=>?_) (λc1=>?_) (hok:=by(try simp only[go_sem,ff]);all_goals (first|done|((repeat' (with_reducible apply And.intro))<;>first|(intros;exact lT _)|exact(λ_=>Ij _ (by have:=gM (by assumption);omega))|exact(λh=>Ij _ (by have:=gM (by simpa using h);omega))|skip)))
 . refine aa Tp ?_;exact fo 0 (k:=by simp only[mK];grind)
 refine ae ?_
 refine aa Tp ?_
 refine aj ?_
 refine lp (α:=(Nat)×Nat) [1] (λ⟨k,nx⟩=>(k<=z.sets.length)/\(aA z.sets.length (uA z.apex z.sets) 0=aA z.sets.length (uA z.apex z.sets) k)/\(0<nx)/\True) (λ⟨k,nx⟩=>z.sets.length-k) (λ⟨k,nx⟩=>[(3,.i k)]) (λ⟨k,nx⟩=>[(0,⟨24,[z.d]⟩)]) (λ⟨k,nx⟩=>nx) (0,_) (hA:=⟨iv,rfl,iv,trivial⟩) (round:=?_)
 rintro⟨k,nx⟩ ⟨hk,hv,hx, -⟩
 simp only[XY,X0]
 have ff:=qA @hx ff
 refine oL Tp ?_ ?_ (hp:=rfl)<;>intro c2
 .
  have hk2:k<z.sets.length:=by simpa using c2
  have hk1:k-1<z.sets.length:=by omega
  have e1:((k:Int)-1).toNat=k-1:=by omega
  have ff:=qD (dF hk2) (dF hk1) @e1 ff;refine ae ?_;refine aj ?_;refine aa Tp ?_;refine aa Tp ?_ (hok:=by(try simp only[go_sem,ff]);all_goals (first|done|((repeat' (with_reducible apply And.intro))<;>first|(intros;exact Rf _)|(intros;exact Rl _ _)|exact(λh=>rM _ _ (QW (by simpa using h)) (by have:=gM c1.1.1;omega))|omega|(intro h;simp only[XU,XW]at h;omega)|(intros;simp_all;done)|skip)))
  refine cd ?_ ?_<;>intro c3
  . refine aa Tp ?_;exact fo 0 (k:=by have hF:(uA z.apex z.sets) k=false:=(by simp only[uA];grind);simp only[mK];rw[hv,eO hk2 hF];try simp)
  refine ah ?_;refine ai Tp ?_
  show ∃_,_
  have h8:(uA z.apex z.sets) k=true:=by simp only[uA];grind
  exact ay (k+1,_) (h1:=⟨iv,o5b,iv,trivial⟩)
 refine aH ?_
 refine aa Tp ?_
 exact fo 0 (k:=by simp only[mK];rw[hv,ib (by omega)];grind)
def Zee(z:Zon)(hl:z.sets.length<=1000000)(h0:0<=dQ z.sets ⟨z.apex,4⟩)(h1:0<z.sets[(dQ z.sets ⟨z.apex,4⟩).toNat]!.set.data.length):PureCt prog 21 [.agg z.d] (.i (dz z)):=by
 refine oO func21 λff=>?_
 unfold f21
 have h2:=OT z.sets ⟨z.apex,4⟩
 have h3:(dQ z.sets ⟨z.apex,4⟩).toNat<z.sets.length:=by omega
 refine aa Tp ?_
 skip
 have ff:=qB (dF h3) (pG h1) ff
 refine aa Tp ?_ (hok:=oH (LV z ⟨z.apex,4⟩ hl))
 exact fp 0
def RQ(z:Zon):PureCt prog 18 [.agg z.d] (.b (vU z)):=by
 refine oO func18 λff=>?_
 unfold f18
 refine aa Tp ?_
 refine ae ?_
 refine aa Tp ?_
 refine aj ?_
 refine lp (α:=(Nat)×Nat) [1] (λ⟨k,nx⟩=>(k<=z.sets.length)/\(aA z.sets.length (λi=>decide (z.sets[i]!.set.data.length<=20)&&decide (z.sets[i]!.sigs.length<=20)) 0=aA z.sets.length (λi=>decide (z.sets[i]!.set.data.length<=20)&&decide (z.sets[i]!.sigs.length<=20)) k)/\(0<nx)/\(k<=101)/\True) (λ⟨k,nx⟩=>z.sets.length-k) (λ⟨k,nx⟩=>[(3,.i k)]) (λ⟨k,nx⟩=>[(0,⟨24,[z.d]⟩)]) (λ⟨k,nx⟩=>nx) (0,_) (hA:=⟨iv,rfl,iv,iv,trivial⟩) (round:=?_)
 rintro⟨k,nx⟩ ⟨hk,hv,hx,hk7, -⟩
 simp only[XY,X0]
 have ff:=qA @hx ff
 refine oL Tp ?_ ?_<;>intro c1
 .
  have hk2:k<z.sets.length:=by grind
  have FK:k<=100:=by grind
  have ff:=qA (dF hk2) ff;refine ae ?_;refine aj ?_;refine aa Tp ?_;refine cd ?_ ?_<;>intro c2
  . refine aa Tp ?_;exact fo 0 (k:=by have hF:(λi=>decide (z.sets[i]!.set.data.length<=20)&&decide (z.sets[i]!.sigs.length<=20)) k=false:=(by grind);simp only[vU];rw[hv,eO hk2 hF];try simp)
  refine ah ?_;refine ai Tp ?_
  show ∃_,_
  have h8:(λi=>decide (z.sets[i]!.set.data.length<=20)&&decide (z.sets[i]!.sigs.length<=20)) k=true:=by grind
  exact ay (k+1,_) (h1:=⟨iv,o5b,iv,iv,trivial⟩)
 refine aH ?_
 refine aa Tp ?_
 exact fo 0 (k:=by simp only[vU];by_cases h100:z.sets.length<=100;rw[hv,ib (by grind)];simp;omega;simp[h100];omega)
def RL(z:Zon)(hl:z.sets.length<=1000000):PureCt prog 54 [.agg z.d] (.b (nA z)):=by
 refine oO func54 λff=>?_
 unfold f54
 refine oC Tp ?_
 refine ae ?_
 refine aa Tp ?_
 refine aj ?_
 refine lp (α:=(Nat)×(Str)×Nat) [1] (λ⟨k,al,nx⟩=>(k<=z.sets.length)/\(0<nx)/\(al=iQ z.sets k)/\(aA z.sets.length (kD z.sets) 0=aA z.sets.length (kD z.sets) k)/\True) (λ⟨k,al,nx⟩=>z.sets.length-k) (λ⟨k,al,nx⟩=>[(3,.v (.string (bs al))),(4,.i k)]) (λ⟨k,al,nx⟩=>[(0,⟨24,[z.d]⟩)]) (λ⟨k,al,nx⟩=>nx) (0,[],_) (hA:=⟨iv,iv,rfl,rfl,trivial⟩) (round:=?_)
 rintro⟨k,al,nx⟩ ⟨hk,hx,ha,hv, -⟩
 simp only[XY,X0]
 have ff:=qA @hx ff
 refine oL Tp ?_ ?_ (hp:=rfl)<;>intro c1
 .
  have hk2:k<z.sets.length:=by simpa using c1
  have hk1:k-1<z.sets.length:=by omega
  have e1:((k:Int)-1).toNat=k-1:=by omega
  have ff:=qD (dF hk2) (dF hk1) @e1 ff;refine ae ?_;refine aj ?_;refine oK Tp ?_ ?_<;>intro c2
  .
   refine ai Tp ?_;refine oC Tp ?_;refine oK Tp ?_ ?_<;>intro c3
   .
    refine ai Tp ?_;refine aa Tp ?_ (hok:=o3f)
    refine cd ?_ ?_<;>intro c4
    . refine aa Tp ?_;exact fo 0 (k:=o1w)
    refine ah ?_;refine ai Tp ?_
    show ∃_,_
    have hal:iQ z.sets (k+1)=z.sets[k]!.set.name:=by simp only[iQ];grind
    have ff:=qA hal ff;have h8:kD z.sets k=true:=by simp only[kD,kT,hal];grind
    exact ay (k+1,iQ z.sets (k+1),_) (h1:=⟨iv,iv,rfl,o5b,trivial⟩)
   refine aa Tp ?_ (hok:=o3f)
   refine cd ?_ ?_<;>intro c4
   . refine aa Tp ?_;exact fo 0 (k:=o1w)
   refine ah ?_;refine ai Tp ?_
   show ∃_,_
   have hal:iQ z.sets (k+1)=z.sets[k]!.set.name:=by simp only[iQ];grind
   have ff:=qA hal ff;have h8:kD z.sets k=true:=by simp only[kD,kT,hal];grind
   exact ay (k+1,iQ z.sets (k+1),_) (h1:=⟨iv,iv,rfl,o5b,trivial⟩)
  refine oC Tp ?_;refine oK Tp ?_ ?_<;>intro c3
  .
   refine ai Tp ?_;refine aa Tp ?_ (hok:=o3f)
   refine cd ?_ ?_<;>intro c4
   . refine aa Tp ?_;exact fo 0 (k:=o1w)
   refine ah ?_;refine ai Tp ?_
   show ∃_,_
   have hal:iQ z.sets (k+1)=al:=by simp only[iQ];grind
   have ff:=qA hal ff;have h8:kD z.sets k=true:=by simp only[kD,kT,hal];grind
   exact ay (k+1,iQ z.sets (k+1),_) (h1:=⟨iv,iv,rfl,o5b,trivial⟩)
  refine aa Tp ?_ (hok:=o3f)
  refine cd ?_ ?_<;>intro c4
  . refine aa Tp ?_;exact fo 0 (k:=o1w)
  refine ah ?_;refine ai Tp ?_
  show ∃_,_
  have hal:iQ z.sets (k+1)=al:=by simp only[iQ];grind
  have ff:=qA hal ff;have h8:kD z.sets k=true:=by simp only[kD,kT,hal];grind
  exact ay (k+1,iQ z.sets (k+1),_) (h1:=⟨iv,iv,rfl,o5b,trivial⟩)
 refine aH ?_
 refine aa Tp ?_
 exact fo 0 (k:=by simp only[nA];rw[hv,ib (by omega)])
def cutsR_0{z:Zon}:lL z 0=[]:=rfl
def highTo_0{cs:List Str}:dW cs 0=[]:=rfl
attribute[go_sem]cutsR_0 highTo_0
@[go_sem]theorem sR_snoc{l:List Str}{x:Str}:(l++[x]).map sR=l.map sR++[[.v (.string (bs x))]]:=by simp[sR]
theorem Oq{z:Zon}{k:Nat}(h:z.sets[k]!.set.ty=2 /\ ¬z.sets[k]!.set.name=z.apex):lL z (k+1)=lL z k++[z.sets[k]!.set.name]:=X3 h
theorem Ot{z:Zon}{k:Nat}(h : ¬(z.sets[k]!.set.ty=2 /\ ¬z.sets[k]!.set.name=z.apex)):lL z (k+1)=lL z k:=XV h
theorem Ou(z:Zon):∀k,(lL z k).length<=k
 | 0=>XX _
 | k+1=>by
  have:=Ou z k
  by_cases h:z.sets[k]!.set.ty=2 /\ ¬z.sets[k]!.set.name=z.apex
  . rw[Oq h,XZ];simp;omega
  rw[Ot h];omega
theorem Kk{z:Zon}(hn:uB z):∀k,k<=z.sets.length -> ∀x∈lL z k,x.length<=1000
 | 0,_,x,hx=>by cases hx
 | k+1,h,x,hx=>by
  by_cases h2:z.sets[k]!.set.ty=2 /\ ¬z.sets[k]!.set.name=z.apex
  .
   rw[Oq h2,Yx,Yo]at hx
   rcases hx with hx|hx
   . exact Kk hn k om x hx
   subst hx;exact hn.2 k om
  rw[Ot h2]at hx;exact Kk hn k (by omega) x hx
def WQ{z:Zon}(hn:uB z):(gX z).length<=1000000:=Yh (Ou z _) hn.1
def Km{z:Zon}(hn:uB z){k:Nat}(h:k<(gX z).length):(gX z)[k]!.length<=1000:=by
 refine Kk hn _ (XX _) _ ?_
 show(gX z)[k]! ∈ gX z
 rw[getElem!_pos (gX z) k h];exact YI h
theorem Nj{cs:List Str}{k:Nat}(h:dW cs k=[]\/iq cs[k]! (dW cs k)[(dW cs k).length-1]! = false):dW cs (k+1)=dW cs k++[cs[k]!]:=X3 h
theorem U4{cs:List Str}{k:Nat}(h : ¬(dW cs k=[]\/iq cs[k]! (dW cs k)[(dW cs k).length-1]! = false)):dW cs (k+1)=dW cs k:=XV h
theorem Jv(cs:List Str):∀k,k<=cs.length->(dW cs k).length<=k /\ ∀x∈dW cs k,x∈cs
 | 0,_=>⟨XX _,λx hx=>by cases hx⟩
 | k+1,h=>by
  have ih:=Jv cs k (by omega)
  by_cases h2:dW cs k=[]\/iq cs[k]! (dW cs k)[(dW cs k).length-1]! = false
  .
   rw[Nj h2];refine⟨by rw[XZ];simp;omega,λx hx=>?_⟩
   rcases Yx.1 hx with hx|hx
   . exact ih.2 x hx
   rw[Yo]at hx;subst hx;rw[getElem!_pos _ _ (by omega)];exact YI _
  rw[U4 h2];exact⟨om,ih.2⟩
def FO{z:Zon}(hn:uB z){k i:Nat}(hk:k<=(gX z).length)(h:i<(dW (gX z) k).length):(dW (gX z) k)[i]!.length<=1000:=by
 refine Kk hn _ (XX _) _ ((Jv _ k hk).2 _ ?_)
 rw[getElem!_pos (dW (gX z) k) i h];exact YI h
def Zht{z:Zon}(hn:uB z):(bY z).length<=1000000:=Yh (Jv _ _ (XX _)).1 (WQ hn)
def uH{z:Zon}(hn:uB z){i:Nat}(h:i<(bY z).length):(bY z)[i]!.length<=1000:=FO hn (XX _) h
def Zeh(z:Zon)(hl:z.sets.length<=1000000):PureCt prog 235 [.agg z.d] (.list false ((gX z).map sR)):=by
 refine oO func235 λff=>?_
 unfold f235
 refine oC Tp ?_
 refine ae ?_
 refine yH 3 9 o5v o5v ?_
 refine aa Tp ?_
 refine aj ?_
 refine lp (α:=(Nat)×(Nat)×Nat) [1] (λ⟨k,r,nx⟩=>(k<=z.sets.length)/\(r<nx)/\(0<r)/\True) (λ⟨k,r,nx⟩=>z.sets.length-k) (λ⟨k,r,nx⟩=>[(3,.mrow r 0 (lL z k).length),(4,.i k)]) (λ⟨k,r,nx⟩=>[(0,⟨24,[z.d]⟩),(r,⟨9,(lL z k).map sR⟩)]) (λ⟨k,r,nx⟩=>nx) (0,3,_) (hA:=⟨iv,iv,iv,trivial⟩) (round:=?_)
 rintro⟨k,r,nx⟩ ⟨hk,hr,hr0, -⟩
 simp only[XY,X0]
 have hcl:=Ou z k
 have n0:0<nx:=by omega
 have ff:=qD @hr @n0 (nH 0 r) ff
 refine oL Tp ?_ ?_ (hp:=rfl)<;>intro c1
 .
  have hk2:k<z.sets.length:=by simpa using c1
  have ff:=qA (dF hk2) ff;refine ae ?_;refine aj ?_;refine oC Tp ?_;refine cd ?_ ?_<;>intro c2
  .
   refine ai Tp ?_;refine ai Tp ?_
   show ∃_,_
   have ff:=qA (Oq (z:=z) (k:=k) (by grind)) ff
   exact ay (k+1,(nx+27),_) (h1:=⟨iv,iv,iv,trivial⟩)
  refine ah ?_;refine ai Tp ?_
  show ∃_,_
  have ff:=qA (Ot (z:=z) (k:=k) (by grind)) ff
  exact ay (k+1,r,_) (h1:=⟨iv,iv,iv,trivial⟩)
 refine aH ?_
 have e9:k=z.sets.length:=by omega
 subst e9
 refine aa Tp ?_
 exact fp 1
def Zeg(z:Zon)(hn:uB z):PureCt prog 187 [.agg z.d] (.list false ((bY z).map sR)):=by
 refine oO func187 λff=>?_
 unfold f187
 have hl:=hn.1
 have hcl:=WQ hn
 refine aa Tp ?_
 refine aa Tp ?_ (hok:=oF (Zeh z hl))
 refine aa Tp ?_
 refine ae ?_
 refine yH 4 9 o5v o5v ?_
 refine aa Tp ?_
 refine aj ?_
 refine lp (α:=(Nat)×(Nat)×Nat) [3] (λ⟨k,r,nx⟩=>(k<=(gX z).length)/\(r<nx)/\True) (λ⟨k,r,nx⟩=>(gX z).length-k) (λ⟨k,r,nx⟩=>[(4,.mrow r 0 (dW (gX z) k).length),(5,.i k)]) (λ⟨k,r,nx⟩=>[(r,⟨9,(dW (gX z) k).map sR⟩)]) (λ⟨k,r,nx⟩=>nx) (0,6,_) (hA:=⟨iv,iv,trivial⟩) (round:=?_)
 rintro⟨k,r,nx⟩ ⟨hk,hr, -⟩
 simp only[XY,X0]
 have hhl:=(Jv (gX z) k hk).1
 have ff:=qA @hr ff
 refine oL Tp ?_ ?_ (hp:=rfl)<;>intro c1
 .
  have hk2:k<(gX z).length:=by simpa using c1
  have e1:(((dW (gX z) k).length:Int)-1).toNat=(dW (gX z) k).length-1:=by omega
  have ff:=qB (nS hk2) @e1 ff;refine ae ?_;refine aj ?_
  by_cases h0:(dW (gX z) k).length=0
  .
   have hnil:=Ya h0;have ff:=qB @h0 @hnil ff;refine aa Tp ?_ (hok:=o0l)
   refine cd ?_ ?_ (hq:=rfl)<;>intro c2
   .
    refine ai Tp ?_;refine ai Tp ?_
    show ∃_,_
    have ff:=qA (Nj (cs:=gX z) (k:=k) o3y) ff
    exact ay (k+1,(nx+27),_) (h1:=⟨iv,iv,trivial⟩)
   grind
  have h9:(dW (gX z) k).length-1<(dW (gX z) k).length:=by omega
  have ff:=qA (nS h9) ff;refine aa Tp ?_ (hok:=o0l)
  refine cd ?_ ?_<;>intro c2
  .
   refine ai Tp ?_;refine ai Tp ?_
   show ∃_,_
   have ff:=qA (Nj (cs:=gX z) (k:=k) o3y) ff
   exact ay (k+1,(nx+27),_) (h1:=⟨iv,iv,trivial⟩)
  refine ah ?_;refine ai Tp ?_
  show ∃_,_
  have ff:=qA (U4 (cs:=gX z) (k:=k) (by grind)) ff
  exact ay (k+1,r,_) (h1:=⟨iv,iv,trivial⟩)
 refine aH ?_
 have e9:k=(gX z).length:=by omega
 subst e9
 refine aa Tp ?_
 exact fp 1
def RU(z:Zon)(hn:uB z):PureCt prog 114 [.agg z.d] (.list false ((gI z).map sR)):=by
 refine oO func114 λff=>?_
 unfold f114
 have hl:=hn.1
 have hcl:=Zht hn
 refine aa Tp ?_
 refine aa Tp ?_ (hok:=oF (Zeg z hn))
 refine oC Tp ?_
 refine ae ?_
 refine aa Tp ?_
 refine aj ?_
 refine lp (α:=(Nat)×(Nat)×(Nat)×Nat) [1,3] (λ⟨k,j,rb,nx⟩=>(k<=z.sets.length)/\(rb<nx)/\(0<rb)/\(j=iJ (bY z) z.sets k)/\(j<=(bY z).length)/\True) (λ⟨k,j,rb,nx⟩=>z.sets.length-k) (λ⟨k,j,rb,nx⟩=>[(4,.mrow rb 0 z.sets.length),(5,.i j),(6,.i k)]) (λ⟨k,j,rb,nx⟩=>[(0,⟨24,[z.d]⟩),(rb,⟨9,(mH (bY z) z.sets z.sets.length (k)).map sR⟩)]) (λ⟨k,j,rb,nx⟩=>nx) (0,0,8,_) (hA:=⟨iv,iv,iv,rfl,iv,trivial⟩) (round:=?_)
 rintro⟨k,j,rb,nx⟩ ⟨hk,hx,hb0,hj,hj2, -⟩
 simp only[XY,X0]
 have n0:0<nx:=by omega
 have ff:=qD @hx @n0 (nH 0 rb) ff
 refine oL Tp ?_ ?_ (hp:=rfl)<;>intro c1
 .
  have hk2:k<z.sets.length:=by simpa using c1
  have ff:=qD (dF hk2) (LG (hs:=bY z) (l:=z.sets) hk) (nS (l:=mH (bY z) z.sets z.sets.length k) (n:=k) (by rw[LG hk];exact hk2)) ff
  refine ae ?_;refine aj ?_;refine aa Tp ?_;refine ae ?_;refine aj ?_;refine lp (α:=(Nat)×Nat) [1,3,4,6,7] (λ⟨i,nx⟩=>(i<=(bY z).length)/\(rb<nx)/\(sH (bY z) z.sets[k]!.set.name j=sH (bY z) z.sets[k]!.set.name i)/\True) (λ⟨i,nx⟩=>(bY z).length-i) (λ⟨i,nx⟩=>[(5,.i i)]) (λ⟨i,nx⟩=>[(0,⟨24,[z.d]⟩),(rb,⟨9,(mH (bY z) z.sets z.sets.length (k)).map sR⟩)]) (λ⟨i,nx⟩=>nx) (j,_) (hA:=⟨iv,iv,rfl,trivial⟩) (round:=?_)
  rintro⟨i,nx⟩ ⟨hi,hx,hv2, -⟩;simp only[XY,X0];have n0:0<nx:=by omega
  have ff:=qD @hx @n0 (nH 0 rb) ff;refine ae ?_
  by_cases hk4:i<(bY z).length
  .
   have ff:=qA (nS hk4) ff;refine aa Tp ?_ (hok:=o0u)
   refine cd ?_ ?_ (hq:=rfl)<;>intro c2
   .
    refine ah ?_;refine aj ?_;refine ai Tp ?_
    show ∃_,_
    exact ay (i+1,_) (h1:=⟨iv,iv,(by first|(rw[hv2,Ar];grind)|(dsimp only;rw[hv2,Ar];grind)),trivial⟩)
   have jv:iJ (bY z) z.sets (k+1)=i:=by show sH _ _ _=_;rw[<-hj,hv2,Ar];grind
   refine aH ?_
   by_cases hi0:i=0
   .
    have ff:=qA @hi0 ff;refine aa Tp ?_ (hok:=o0m)
    refine cd ?_ ?_<;>intro c3
    .
     refine ai Tp ?_;refine ai Tp ?_
     show ∃_,_
     have hcc:jB (bY z) z.sets[k]!.set.name (iJ (bY z) z.sets (k+1))=(bY z)[i-1]! := by rw[jv];simp only[jB];grind
     have ff:=qA (Il hk2 hcc) ff;exact ay (k+1,i,rb,_) (h1:=⟨iv,iv,iv,jv.symm,iv,trivial⟩)
    refine ah ?_;refine ai Tp ?_
    show ∃_,_
    have hcc:jB (bY z) z.sets[k]!.set.name (iJ (bY z) z.sets (k+1))=[]:=by rw[jv];simp only[jB];grind
    have ff:=qA (Im hk2 hcc) ff;exact ay (k+1,i,rb,_) (h1:=⟨iv,iv,iv,jv.symm,iv,trivial⟩)
   have hi9:i-1<(bY z).length:=by omega
   have e1:((i:Int)-1).toNat=i-1:=by omega
   have ff:=qB @e1 (nS hi9) ff;refine aa Tp ?_ (hok:=o0m)
   refine cd ?_ ?_<;>intro c3
   .
    refine ai Tp ?_;refine ai Tp ?_
    show ∃_,_
    have hcc:jB (bY z) z.sets[k]!.set.name (iJ (bY z) z.sets (k+1))=(bY z)[i-1]! := by rw[jv];simp only[jB];grind
    have ff:=qA (Il hk2 hcc) ff;exact ay (k+1,i,rb,_) (h1:=⟨iv,iv,iv,jv.symm,iv,trivial⟩)
   refine ah ?_;refine ai Tp ?_
   show ∃_,_
   have hcc:jB (bY z) z.sets[k]!.set.name (iJ (bY z) z.sets (k+1))=[]:=by rw[jv];simp only[jB];grind
   have ff:=qA (Im hk2 hcc) ff;exact ay (k+1,i,rb,_) (h1:=⟨iv,iv,iv,jv.symm,iv,trivial⟩)
  have e9:decide ((i:Int)<((bY z).length:Int))=false:=Y8 om;have ff:=qA @e9 ff;refine aa Tp ?_ (hok:=o0u)
  refine cd ?_ ?_ (hp:=rfl) (hq:=rfl)<;>intro c2
  . grind
  have jv:iJ (bY z) z.sets (k+1)=i:=by show sH _ _ _=_;rw[<-hj,hv2,Ar];grind
  refine aH ?_
  by_cases hi0:i=0
  .
   have ff:=qA @hi0 ff;refine aa Tp ?_ (hok:=o0m)
   refine cd ?_ ?_<;>intro c3
   .
    refine ai Tp ?_;refine ai Tp ?_
    show ∃_,_
    have hcc:jB (bY z) z.sets[k]!.set.name (iJ (bY z) z.sets (k+1))=(bY z)[i-1]! := by rw[jv];simp only[jB];grind
    have ff:=qA (Il hk2 hcc) ff;exact ay (k+1,i,rb,_) (h1:=⟨iv,iv,iv,jv.symm,iv,trivial⟩)
   refine ah ?_;refine ai Tp ?_
   show ∃_,_
   have hcc:jB (bY z) z.sets[k]!.set.name (iJ (bY z) z.sets (k+1))=[]:=by rw[jv];simp only[jB];grind
   have ff:=qA (Im hk2 hcc) ff;exact ay (k+1,i,rb,_) (h1:=⟨iv,iv,iv,jv.symm,iv,trivial⟩)
  have hi9:i-1<(bY z).length:=by omega
  have e1:((i:Int)-1).toNat=i-1:=by omega
  have ff:=qB @e1 (nS hi9) ff;refine aa Tp ?_ (hok:=o0m)
  refine cd ?_ ?_<;>intro c3
  .
   refine ai Tp ?_;refine ai Tp ?_
   show ∃_,_
   have hcc:jB (bY z) z.sets[k]!.set.name (iJ (bY z) z.sets (k+1))=(bY z)[i-1]! := by rw[jv];simp only[jB];grind
   have ff:=qA (Il hk2 hcc) ff;exact ay (k+1,i,rb,_) (h1:=⟨iv,iv,iv,jv.symm,iv,trivial⟩)
  refine ah ?_;refine ai Tp ?_
  show ∃_,_
  have hcc:jB (bY z) z.sets[k]!.set.name (iJ (bY z) z.sets (k+1))=[]:=by rw[jv];simp only[jB];grind
  have ff:=qA (Im hk2 hcc) ff;exact ay (k+1,i,rb,_) (h1:=⟨iv,iv,iv,jv.symm,iv,trivial⟩)
 refine aH ?_
 have e9:k=z.sets.length:=by omega
 subst e9
 have tk:List.take z.sets.length ((mH (bY z) z.sets z.sets.length z.sets.length).map sR)=(gI z).map sR:=by rw[ZdS];exact Yl (by rw[Zm,yR];exact XX _)
 have ff:=qB @tk (LG (hs:=bY z) (l:=z.sets) (XX z.sets.length)) ff
 refine aa Tp ?_
 exact oN (fin 1 (hr:=oR) (hk:=by(try simp only[go_sem,ff]);all_goals (exact yR _ _ _)))
def OM(z:Zon):(gI z).length=z.sets.length:=yR _ _ _
def Sw(z:Zon):(Bc z).length=z.sets.length:=Bb _ _
def RO(z:Zon)(hn:uB z):PureCt prog 55 [.agg z.d] (.b (si z)):=by
 refine oO func55 λff=>?_
 unfold f55
 have hl:=hn.1
 have hbl:=OM z
 refine aa Tp ?_
 refine aa Tp ?_ (hok:=oF (RU z hn))
 refine ae ?_
 refine aa Tp ?_
 refine aj ?_
 refine lp (α:=(Nat)×Nat) [1,3] (λ⟨k,nx⟩=>(k<=z.sets.length)/\(aA z.sets.length (cutAt ⟨z,gI z⟩) 0=aA z.sets.length (cutAt ⟨z,gI z⟩) k)/\(0<nx)/\True) (λ⟨k,nx⟩=>z.sets.length-k) (λ⟨k,nx⟩=>[(4,.i k)]) (λ⟨k,nx⟩=>[(0,⟨24,[z.d]⟩)]) (λ⟨k,nx⟩=>nx) (0,_) (hA:=⟨iv,rfl,iv,trivial⟩) (round:=?_)
 rintro⟨k,nx⟩ ⟨hk,hv,hx, -⟩
 simp only[XY,X0]
 have ff:=qA @hx ff
 refine oL Tp ?_ ?_ (hp:=rfl)<;>intro c1
 .
  have hk2:k<z.sets.length:=by simpa using c1
  have hk3:k<(gI z).length:=by omega
  have ff:=qB (dF hk2) (nS hk3) ff;refine ae ?_;refine aj ?_;refine oC Tp ?_;refine oK Tp ?_ ?_<;>intro c2
  . refine aa Tp ?_;exact fo 0 (k:=o1u)
  refine oK Tp ?_ ?_<;>intro c3
  . refine aa Tp ?_;exact fo 0 (k:=o1u)
  refine aa Tp ?_;refine cd ?_ ?_<;>intro c4
  . refine aa Tp ?_;exact fo 0 (k:=o1u)
  refine ah ?_;refine ai Tp ?_
  show ∃_,_
  have h8:(cutAt ⟨z,gI z⟩) k=true:=by simp only[cutAt];grind
  exact ay (k+1,_) (h1:=⟨iv,o5b,iv,trivial⟩)
 refine aH ?_
 refine aa Tp ?_
 exact fo 0 (k:=by simp only[si,qY];rw[hv,ib (by omega)])
def Zef(z:Zon)(hn:uB z):PureCt prog 115 [.agg z.d] (.list false ((Bc z).map bR)):=by
 refine oO func115 λff=>?_
 unfold f115
 have hl:=hn.1
 have hbl:=OM z
 refine aa Tp ?_
 refine aa Tp ?_ (hok:=oF (RU z hn))
 refine aa Tp ?_
 refine ae ?_
 refine aa Tp ?_
 refine aj ?_
 refine lp (α:=(Nat)×(Nat)×Nat) [1,3] (λ⟨k,rb,nx⟩=>(k<=z.sets.length)/\(rb<nx)/\(0<rb)/\True) (λ⟨k,rb,nx⟩=>z.sets.length-k) (λ⟨k,rb,nx⟩=>[(4,.mrow rb 0 z.sets.length),(5,.i k)]) (λ⟨k,rb,nx⟩=>[(0,⟨24,[z.d]⟩),(rb,⟨4,(rH ⟨z,gI z⟩ z.sets.length (k)).map bR⟩)]) (λ⟨k,rb,nx⟩=>nx) (0,8,_) (hA:=⟨iv,iv,iv,trivial⟩) (round:=?_)
 rintro⟨k,rb,nx⟩ ⟨hk,hx,hb0, -⟩
 simp only[XY,X0]
 have n0:0<nx:=by omega
 have ff:=qD @hx @n0 (nH 0 rb) ff
 refine oL Tp ?_ ?_ (hp:=rfl)<;>intro c1
 .
  have hk2:k<z.sets.length:=by simpa using c1
  have hk3:k<(gI z).length:=by omega
  have ff:=qE (dF hk2) (nS hk3) (LJ (x:=⟨z,gI z⟩) hk) (Vh (l:=rH ⟨z,gI z⟩ z.sets.length k) (n:=k) (by rw[LJ hk];exact hk2)) ff
  refine ae ?_;refine aj ?_;refine aa Tp ?_;refine ai Tp ?_;refine ai Tp ?_
  show ∃_,_
  exact ay (k+1,rb,_) (h1:=⟨iv,iv,iv,trivial⟩) (h3:=o1k) (h4:=o1k) (h5:=o1k)
 refine aH ?_
 have e9:k=z.sets.length:=by omega
 subst e9
 have tk:List.take z.sets.length ((rH ⟨z,gI z⟩ z.sets.length (z.sets.length)).map bR)=(Bc z).map bR:=by rw[ZdU];exact Yl (by rw[Zm,Bb];exact XX _)
 have ff:=qB @tk (LJ (x:=⟨z,gI z⟩) (XX z.sets.length)) ff
 refine aa Tp ?_
 exact oN (fin 1 (hr:=oR) (hk:=by(try simp only[go_sem,ff]);all_goals (exact Sw z)))
def RP(z:Zon)(hn:uB z):PureCt prog 56 [.agg z.d] (.b (tV z)):=by
 refine oO func56 λff=>?_
 unfold f56
 have hl:=hn.1
 have hbl:=OM z
 have hol:=Sw z
 refine aa Tp ?_
 refine aa Tp ?_ (hok:=oF (Zef z hn))
 refine ae ?_
 refine aa Tp ?_
 refine aj ?_
 refine lp (α:=(Nat)×Nat) [1,3] (λ⟨k,nx⟩=>(k<=z.sets.length)/\(aA z.sets.length (xk ⟨z,gI z⟩) 0=aA z.sets.length (xk ⟨z,gI z⟩) k)/\(0<nx)/\True) (λ⟨k,nx⟩=>z.sets.length-k) (λ⟨k,nx⟩=>[(4,.i k)]) (λ⟨k,nx⟩=>[(0,⟨24,[z.d]⟩)]) (λ⟨k,nx⟩=>nx) (0,_) (hA:=⟨iv,rfl,iv,trivial⟩) (round:=?_)
 rintro⟨k,nx⟩ ⟨hk,hv,hx, -⟩
 simp only[XY,X0]
 have ff:=qA @hx ff
 refine oL Tp ?_ ?_ (hp:=rfl)<;>intro c1
 .
  have hk2:k<z.sets.length:=by simpa using c1
  have hk3:k<(Bc z).length:=by omega
  have ho:(Bc z)[k]! = xU ⟨z,gI z⟩ k:=ZeV _ _ _ hk2;have ff:=qB (dF hk2) (Vh hk3) ff;refine ae ?_;refine aj ?_;refine aa Tp ?_ (hok:=iE @ZdE);refine cd ?_ ?_<;>intro c2
  . refine aa Tp ?_;exact fo 0 (k:=by have hF:(xk ⟨z,gI z⟩) k=false:=(by simp only[xk,sj,vR,xU]at *;grind);simp only[tV];rw[hv,eO hk2 hF];try simp)
  refine ah ?_;refine ai Tp ?_
  show ∃_,_
  have h8:(xk ⟨z,gI z⟩) k=true:=by simp only[xk,sj,vR,xU]at *;grind
  exact ay (k+1,_) (h1:=⟨iv,o5b,iv,trivial⟩)
 refine aH ?_
 refine aa Tp ?_
 exact fo 0 (k:=by simp only[tV];rw[hv,ib (by omega)])
def IA(z:Zon):PureCt prog 19 [.agg z.d] (.b (jl z)):=by
 refine oO func19 λff=>?_
 unfold f19
 refine aa Tp ?_
 refine aa Tp ?_ (hok:=by(try simp only[go_sem,ff]);all_goals (first|done|((repeat' (with_reducible apply And.intro))<;>first|(intros;exact RN z)|exact(λh=>RJ z (zC (by simp_all)).1)|exact(λh=>RL z (zC (by simp_all)).1)|exact(λh=>RO z (zC (by simp_all)))|exact(λh=>RP z (zC (by simp_all)))|(intros;simp_all;done)|skip)))
 exact fo 0 (k:=by simp[jl,ZZ])
def Gm(x:Int):PureCt prog 58 [.i x] (.b (iB x)):=by
 refine oO func58 λff=>?_
 unfold f58
 refine oC Tp ?_
 exact fo 0 (k:=by simp[iB])
def Ke(a:Int)(b:Int)(ha:iB a=true)(hb:iB b=true):PureCt prog 27 [.i a,.i b] (.b (gZ a b)):=by
 refine oO func27 λff=>?_
 unfold f27
 simp only[iB,XU,XW]at ha hb
 refine oD Tp ?_
 exact fo 0 (k:=by simp[gZ])
def Wn(a:Int)(b:Int):PureCt prog 22 [.i a,.i b] (.tuple [.b (mO a b).1,.i (mO a b).2]):=by
 refine oO func22 λff=>?_
 unfold f22
 refine aa Tp ?_
 refine oK Tp ?_ ?_ (hok:=oH Gm)<;>intro c1
 . refine aa Tp ?_;exact fo 1 (k:=by simp only[mO];grind)
 refine aa Tp ?_ (hok:=oF (Ke _ _ c1.1 c1.2))
 exact fo 1 (k:=by simp[mO,c1])
def uQ(s:Sgd):PureCt prog 31 [.agg s.d] (.agg s.q.d):=by
 refine oO func31 λff=>?_
 unfold f31
 refine oC Tp ?_
 exact fp 1
@[go_sem]theorem all_dat6{l:List Dat}:(∀r∈l.map Dat.d,r.length=3)=True:=by
 apply eq_true
 intro r hr
 obtain⟨x,_,rfl⟩:=Yt.1 hr
 rfl
def Xh(l:List Dat)(hl:l.length<=1000000):PureCt prog 75 [.list false (l.map Dat.d)] (.list false (l.map Dat.d)):=by
 refine oO func75 λff=>?_
 unfold f75
 refine aa Tp ?_
 refine ae ?_
 refine ae (xw ?_)
 refine EH (C:=Tp) 1 (e:=57) om (dR rfl) rfl rfl (by kernel_rfl) o4g ?_ (by rfl) ev (λy hy=>?_)
 .
  try simp only[go_sem,ff]
  all_goals (first|done|(repeat' (with_reducible apply And.intro))<;>first|omega|(with_reducible assumption)|(intros;omega)|(intros;simp only[XW,X4,Yc,XU,Yd,Yb,Yr]at *;omega)|(simp_all;done)|(simp_all;omega))
 refine wH (C:=Tp) o5y o4g ?_ rfl ?_
 .
  try simp only[go_sem,ff]
  all_goals (first|done|(repeat' (with_reducible apply And.intro))<;>first|omega|(with_reducible assumption)|(intros;omega)|(intros;simp only[XW,X4,Yc,XU,Yd,Yb,Yr]at *;omega)|(simp_all;done)|(simp_all;omega))
 try simp only[aI]
 refine cd ?_ ?_ (hp:=rfl) (hq:=rfl)<;>intro c1
 . have hn:l=[]:=List.map_eq_nil_iff.1 (hy c1);subst hn;refine aa Tp ?_;exact fp 1
 refine ah ?_
 refine aa Tp ?_
 exact fp 1
def Xg(l:List RSig)(hl:l.length<=1000000):PureCt prog 76 [.list false (l.map RSig.d)] (.list false (l.map RSig.d)):=by
 refine oO func76 λff=>?_
 unfold f76
 refine aa Tp ?_
 refine ae ?_
 refine ae (xw ?_)
 refine EH (C:=Tp) 1 (e:=153) om (dR rfl) rfl rfl (by kernel_rfl) o4g ?_ (by rfl) ev (λy hy=>?_)
 .
  try simp only[go_sem,ff]
  all_goals (first|done|(repeat' (with_reducible apply And.intro))<;>first|omega|(with_reducible assumption)|(intros;omega)|(intros;simp only[XW,X4,Yc,XU,Yd,Yb,Yr]at *;omega)|(simp_all;done)|(simp_all;omega))
 refine wH (C:=Tp) o5y o4g ?_ rfl ?_
 .
  try simp only[go_sem,ff]
  all_goals (first|done|(repeat' (with_reducible apply And.intro))<;>first|omega|(with_reducible assumption)|(intros;omega)|(intros;simp only[XW,X4,Yc,XU,Yd,Yb,Yr]at *;omega)|(simp_all;done)|(simp_all;omega))
 try simp only[aI]
 refine cd ?_ ?_ (hp:=rfl) (hq:=rfl)<;>intro c1
 . have hn:l=[]:=List.map_eq_nil_iff.1 (hy c1);subst hn;refine aa Tp ?_;exact fp 1
 refine ah ?_
 refine aa Tp ?_
 exact fp 1
def Gv(s:Sgd)(hs:tX s):PureCt prog 34 [.agg s.d] (.agg s.d):=by
 refine oO func34 λff=>?_
 unfold f34
 refine aa Tp ?_
 refine aa Tp ?_ (hok:=o3s)
 refine aa Tp ?_ (hok:=o3t)
 refine aa Tp ?_
 exact fp 2
@[go_sem]theorem ofV_map{o:Option Nat}:qm (.map o) = .v (.map o):=by cases o<;>rfl
@[go_sem]theorem keysOk_Q{m:List Sgd}:kL prog 86 (mV m)=true:=by
 induction m with
 | nil=>rfl
 | cons s m ih=>rw[zL];simp only[kL,ih,ak.d,Jf,ZH]
@[go_sem]theorem mapTo_0{l:List Sgd}:uC l 0=[]:=rfl
attribute [go_sem] Zgz
def Us{l:List Sgd}{k:Nat}:jq (mV (uC l k)) (.agg [.v (.string (bs l[k]!.q.name)),.i l[k]!.q.ty]) (.agg [.v (.string (bs l[k]!.set.name)),.i l[k]!.set.ty,.i l[k]!.set.life,.list false (l[k]!.set.data.map Dat.d),.list false (l[k]!.sigs.map RSig.d)])=mV (uC l (k+1)):=Zgy
def Wy(l:List Sgd)(hl:l.length<=1000000):PureCt prog 28 [.list false (l.map Sgd.d)] (.fmap (jg (kY l))):=by
 refine oO func28 λff=>?_
 unfold f28
 refine oC Tp ?_
 refine ae ?_
 refine aa Tp ?_
 refine aj ?_
 refine lp (α:=(Nat)×Nat) [3,9,10] (λ⟨k,nx⟩=>(k<=l.length)/\(3<nx)/\True) (λ⟨k,nx⟩=>l.length-k) (λ⟨k,nx⟩=>[(11,.i k)]) (λ⟨k,nx⟩=>[(3,⟨79,iY (mV (uC l k))⟩)]) (λ⟨k,nx⟩=>nx) (0,_) (hA:=⟨iv,iv,trivial⟩) (round:=?_)
 rintro⟨k,nx⟩ ⟨hk,hx, -⟩
 simp only[XY,X0]
 have ff:=qA @hx ff
 refine aa Tp ?_
 refine ae ?_
 refine cd ?_ ?_ (hp:=rfl)<;>intro c1
 .
  have hk2:k<l.length:=by simpa using c1
  have ff:=qB (dF hk2) (Us (l:=l) (k:=k)) ff;refine ah ?_;refine ae ?_;refine aj ?_;refine aa Tp ?_;refine ai Tp ?_ (hok:=oH (uQ l[k]!));refine ai Tp ?_
  show ∃_,_
  exact ay (k+1,_) (h1:=⟨iv,iv,trivial⟩)
 refine aH ?_
 have e9:k=l.length:=by have h9 : ¬(k:Int)<l.length:=(by simpa using c1);omega
 subst e9
 refine V3 3 3 ev ev rfl Zfm ?_
 refine aa Tp ?_
 exact fo 1 (k:=by show(D.fmap (mV (Bp l)))=_;rw[ZgB])
@[go_sem]theorem keysOk_P{m:PM}:kL prog 86 (jg m)=true:=by
 induction m with
 | nil=>rfl
 | cons p m ih=>rw[Bv];simp only[kL,ih,ak.d,Jf,ZH]
def Gl(a:List Dat)(b:List Dat)(hl:a.length<=1000000):PureCt prog 77 [.list false (a.map Dat.d),.list false (b.map Dat.d)] (.b (kM a b)):=by
 refine oO func77 λff=>?_
 unfold f77
 refine aa Tp ?_
 refine oK Tp ?_ ?_<;>intro c1
 . refine aa Tp ?_;exact fo 0 (k:=by rw[show kM a b=false from Y8 (VP (by omega))])
 have hab:a.length=b.length:=by omega
 refine ae ?_
 refine aa Tp ?_
 refine aj ?_
 refine lp (α:=(Nat)×Nat) [0,1,12] (λ⟨k,nx⟩=>(k<=a.length)/\(∀i,i<k->a[i]! = b[i]!)/\True) (λ⟨k,nx⟩=>a.length-k) (λ⟨k,nx⟩=>[(13,.i k)]) (λ⟨k,nx⟩=>[]) (λ⟨k,nx⟩=>nx) (0,_) (hA:=⟨iv,o4c,trivial⟩) (round:=?_)
 rintro⟨k,nx⟩ ⟨hk,hv, -⟩
 simp only[XY,X0]
 refine aa Tp ?_
 refine ae ?_
 refine cd ?_ ?_ (hp:=rfl)<;>intro c2
 .
  have hk2:k<a.length:=by simpa using c2
  have hk3:k<b.length:=by omega
  have ff:=qB (pG hk2) (pG hk3) ff;refine ah ?_;refine ae ?_;refine aj ?_;refine oC Tp ?_;refine cd ?_ ?_<;>intro c3
  . refine aa Tp ?_;exact fo 0 (k:=by rw[show kM a b=false from Y8 λe=>by subst e;simp at c3])
  refine ah ?_;refine ai Tp ?_
  show ∃_,_
  exact ay (k+1,_) (h1:=⟨iv,(by(try dsimp only);intro i hi;by_cases e:i=k;subst e;exact Kg c3;exact hv i om),trivial⟩)
 refine aH ?_
 refine aa Tp ?_
 exact fo 0 (k:=by rw[show kM a b=true from YE (Di! hab λi hi=>hv i (by omega))])
def J4(a:List RSig)(b:List RSig)(hl:a.length<=1000000):PureCt prog 78 [.list false (a.map RSig.d),.list false (b.map RSig.d)] (.b (xq a b)):=by
 refine oO func78 λff=>?_
 unfold f78
 refine aa Tp ?_
 refine oK Tp ?_ ?_<;>intro c1
 . refine aa Tp ?_;exact fo 0 (k:=by rw[show xq a b=false from Y8 (VP (by omega))])
 have hab:a.length=b.length:=by omega
 refine ae ?_
 refine aa Tp ?_
 refine aj ?_
 refine lp (α:=(Nat)×Nat) [0,1,12] (λ⟨k,nx⟩=>(k<=a.length)/\(∀i,i<k->a[i]! = b[i]!)/\True) (λ⟨k,nx⟩=>a.length-k) (λ⟨k,nx⟩=>[(13,.i k)]) (λ⟨k,nx⟩=>[]) (λ⟨k,nx⟩=>nx) (0,_) (hA:=⟨iv,o4c,trivial⟩) (round:=?_)
 rintro⟨k,nx⟩ ⟨hk,hv, -⟩
 simp only[XY,X0]
 refine aa Tp ?_
 refine ae ?_
 refine cd ?_ ?_ (hp:=rfl)<;>intro c2
 .
  have hk2:k<a.length:=by simpa using c2
  have hk3:k<b.length:=by omega
  have ff:=qB (vS hk2) (vS hk3) ff;refine ah ?_;refine ae ?_;refine aj ?_;refine oC Tp ?_;refine cd ?_ ?_<;>intro c3
  . refine aa Tp ?_;exact fo 0 (k:=by rw[show xq a b=false from Y8 λe=>by subst e;simp at c3])
  refine ah ?_;refine ai Tp ?_
  show ∃_,_
  exact ay (k+1,_) (h1:=⟨iv,o2t,trivial⟩)
 refine aH ?_
 refine aa Tp ?_
 exact fo 0 (k:=by rw[show xq a b=true from YE (Di! hab λi hi=>hv i (by omega))])
def Ag(a:Sgd)(b:Sgd)(ha:tX a):PureCt prog 35 [.agg a.d,.agg b.d] (.b (wJ a b)):=by
 refine oO func35 λff=>?_
 unfold f35
 refine aa Tp ?_
 refine aa Tp ?_ (hok:=o0w)
 exact fo 0 (k:=by rw[Zdt,ZZ])
def Zjm(s:Sgd)(m:PM):PureCt prog 30 [.agg s.d,.eptr [.fmap (jg m)]] (.tuple [.agg s.q.d,.b (oZ m s.q)]):=by
 refine oO func30 λff=>?_
 unfold f30
 refine aa Tp ?_
 refine aa Tp ?_ (hok:=oH (uQ s))
 rcases hp:fu m s.q with _|x
 . have ff:=qA @hp ff;refine oC Tp ?_;exact fo 3 (k:=by simp[oZ,hp])
 have ff:=qA @hp ff
 refine oC Tp ?_
 exact fo 3 (k:=by simp[oZ,hp])
def ZjG(s:Sgd)(m:PM):PureCt prog 83 [.agg s.d,.eptr [.fmap (jg m)]] (.tuple [.agg s.d,.b (oZ m s.q)]):=by
 refine oO func83 λff=>?_
 unfold f83
 refine aa Tp ?_
 rcases hp:fu m s.q with _|x
 . have ff:=qA @hp ff;refine aa lq ?_ (hok:=oH (uQ s));refine aa Tp ?_;exact fo 3 (k:=by simp[oZ,hp])
 have ff:=qA @hp ff
 refine aa lq ?_ (hok:=oH (uQ s))
 refine aa Tp ?_
 exact fo 3 (k:=by simp[oZ,hp])
def Zjl(s:Sgd)(m:PM)(hs:tX s)(hm : ∀x,fu m s.q=some x->tX x):PureCt prog 33 [.agg s.d,.eptr [.fmap (jg m)]] (.tuple [.agg s.d,.b (yK (fu m s.q) s)]):=by
 refine oO func33 λff=>?_
 unfold f33
 refine aa Tp ?_
 rcases hp:fu m s.q with _|x
 .
  have ff:=qA @hp ff;refine aa lq ?_ (hok:=oH (uQ s));refine aa Tp ?_ (hok:=o0p)
  exact fo 3 (k:=by simp[yK,hp])
 have ff:=qA @hp ff
 refine aa lq ?_ (hok:=oH (uQ s))
 refine aa Tp ?_ (hok:=o0p)
 exact fo 3 (k:=by simp[yK,hp])
def ZjF(s:Sgd)(hs:tX s):PureCt prog 86 [.agg s.d] (.tuple [.agg s.d,.b true]):=by
 refine oO func86 λff=>?_
 unfold f86
 refine aa Tp ?_
 refine aa Tp ?_ (hok:=oF (Gv s hs))
 exact fp 2
def Zjn  : PureCt prog 85 [.fn (.func 31) [] []] (.fn (.func 148) [] [.eptr [.fn (.func 31) [] []]]):=by
 refine oO func85 λff=>?_
 unfold f85
 refine oC Tp ?_
 exact oN (fin 2 (hr:=oR) (hk:=by(try simp only[go_sem,ff]);all_goals (first|done|rfl|(simp;done))))
def Zjr(a:Sgd)(b:Sgd):PureCt prog 148 [.agg a.d,.agg b.d,.eptr [.fn (.func 31) [] []]] (.i (qC a.q b.q)):=by
 refine oO func148 λff=>?_
 unfold f148
 refine aa Tp ?_
 refine aa Tp ?_ (hok:=oJ (uQ a) (uQ b) (Oj a.q b.q))
 exact fp 0
def Zjq(l:List Sgd)(m:PM)(hl:fO l):PureCt prog 29 [.list false (l.map Sgd.d),.fn (.func 30) [] [.eptr [.fmap (jg m)]]] (.list false ((l.filterMap (mg m)).map ak.d)):=by
 refine oO func29 λff=>?_
 unfold f29
 have hl1:=hl.1
 refine oC Tp ?_
 refine ae ?_
 refine yH 5 86 o5v o5v ?_
 refine aa Tp ?_
 refine aj ?_
 refine lp (α:=(Nat)×(Nat)×Nat) [1,10,11] (λ⟨k,r,nx⟩=>(k<=l.length)/\(r<nx)/\True) (λ⟨k,r,nx⟩=>l.length-k) (λ⟨k,r,nx⟩=>[(5,.mrow r 0 ((l.take k).filterMap (mg m)).length),(12,.i k)]) (λ⟨k,r,nx⟩=>[(r,⟨86,((l.take k).filterMap (mg m)).map ak.d⟩)]) (λ⟨k,r,nx⟩=>nx) (0,2,_) (hA:=⟨iv,iv,trivial⟩) (round:=?_)
 rintro⟨k,r,nx⟩ ⟨hk,hr, -⟩
 simp only[XY,X0]
 have hfl:=JQ (mg m) l k
 have ff:=qA @hr ff
 refine aa Tp ?_
 refine ae ?_
 refine cd ?_ ?_ (hp:=rfl)<;>intro c1
 .
  have hk2:k<l.length:=by simpa using c1
  have ff:=qA (dF hk2) ff;refine ah ?_;refine ae ?_;refine aj ?_;refine aa Tp ?_;refine aa Tp ?_ (hok:=oH (Zjm l[k]! m));refine aa Tp ?_;refine cd ?_ ?_<;>intro c2
  .
   refine ai Tp ?_;refine ai Tp ?_
   show ∃_,_
   have hst:=JO (f:=mg m) hk2 (by simp only[mg];rw[X3 o5k])
   have hsd:((l.take (k+1)).filterMap (mg m)).map ak.d=((l.take k).filterMap (mg m)).map ak.d++[[.v (.string (bs l[k]!.q.name)),.i l[k]!.q.ty]]:=by rw[hst,YT];rfl
   have hsl:((l.take (k+1)).filterMap (mg m)).length=((l.take k).filterMap (mg m)).length+1:=by rw[hst,XZ];rfl
   have ff:=qB hsd hsl ff;exact ay (k+1,(nx+18),_) (h1:=⟨iv,iv,trivial⟩)
  refine ah ?_;refine ai Tp ?_
  show ∃_,_
  have ff:=qA (JP (f:=mg m) hk2 (by simp only[mg];rw[XV o5f])) ff
  exact ay (k+1,r,_) (h1:=⟨iv,iv,trivial⟩)
 refine aH ?_
 have e9:k=l.length:=by have h9 : ¬(k:Int)<l.length:=(by simpa using c1);omega
 subst e9
 rw[Yn]at *
 refine aa Tp ?_
 exact oN (fin 1 (hr:=o4n))
def Wx(l:List Sgd)  (hl:fO l):PureCt prog 32 [.list false (l.map Sgd.d),.fn (.func 86) [] []] (.list false ((l.filterMap (some)).map Sgd.d)):=by
 refine oO func32 λff=>?_
 unfold f32
 have hl1:=hl.1
 refine oC Tp ?_
 refine ae ?_
 refine yH 5 84 o5v o5v ?_
 refine aa Tp ?_
 refine aj ?_
 refine lp (α:=(Nat)×(Nat)×Nat) [1,10,11] (λ⟨k,r,nx⟩=>(k<=l.length)/\(r<nx)/\True) (λ⟨k,r,nx⟩=>l.length-k) (λ⟨k,r,nx⟩=>[(5,.mrow r 0 ((l.take k).filterMap (some)).length),(12,.i k)]) (λ⟨k,r,nx⟩=>[(r,⟨84,((l.take k).filterMap (some)).map Sgd.d⟩)]) (λ⟨k,r,nx⟩=>nx) (0,2,_) (hA:=⟨iv,iv,trivial⟩) (round:=?_)
 rintro⟨k,r,nx⟩ ⟨hk,hr, -⟩
 simp only[XY,X0]
 have hfl:=JQ (some) l k
 have ff:=qA @hr ff
 refine aa Tp ?_
 refine ae ?_
 refine cd ?_ ?_ (hp:=rfl)<;>intro c1
 .
  have hk2:k<l.length:=by simpa using c1
  have ff:=qA (dF hk2) ff;refine ah ?_;refine ae ?_;refine aj ?_;refine aa Tp ?_;refine aa Tp ?_ (hok:=oH (ZjF l[k]! (hl.2 k hk2)));refine aa Tp ?_;refine cd ?_ ?_<;>intro c2
  .
   refine ai Tp ?_;refine ai Tp ?_
   show ∃_,_
   have hst:=JO (f:=some) hk2 (rfl);have hsd:((l.take (k+1)).filterMap (some)).map Sgd.d=((l.take k).filterMap (some)).map Sgd.d++[[.v (.string (bs l[k]!.set.name)),.i l[k]!.set.ty,.i l[k]!.set.life,.list false (l[k]!.set.data.map Dat.d),.list false (l[k]!.sigs.map RSig.d)]]:=by rw[hst,YT];rfl
   have hsl:((l.take (k+1)).filterMap (some)).length=((l.take k).filterMap (some)).length+1:=by rw[hst,XZ];rfl
   have ff:=qB hsd hsl ff;exact ay (k+1,(nx+18),_) (h1:=⟨iv,iv,trivial⟩)
  refine ah ?_;refine ai Tp ?_
  show ∃_,_
  have ff:=qA (JP (f:=some) hk2 (by cases c2)) ff
  exact ay (k+1,r,_) (h1:=⟨iv,iv,trivial⟩)
 refine aH ?_
 have e9:k=l.length:=by have h9 : ¬(k:Int)<l.length:=(by simpa using c1);omega
 subst e9
 rw[Yn]at *
 refine aa Tp ?_
 exact oN (fin 1 (hr:=o4n))
def Zjo(l:List Sgd)(m:PM)(hl:fO l)(hm : ∀k,k<l.length -> ∀x,fu m l[k]!.q=some x->tX x):PureCt prog 32 [.list false (l.map Sgd.d),.fn (.func 33) [] [.eptr [.fmap (jg m)]]] (.list false ((l.filterMap (ll m)).map Sgd.d)):=by
 refine oO func32 λff=>?_
 unfold f32
 have hl1:=hl.1
 refine oC Tp ?_
 refine ae ?_
 refine yH 5 84 o5v o5v ?_
 refine aa Tp ?_
 refine aj ?_
 refine lp (α:=(Nat)×(Nat)×Nat) [1,10,11] (λ⟨k,r,nx⟩=>(k<=l.length)/\(r<nx)/\True) (λ⟨k,r,nx⟩=>l.length-k) (λ⟨k,r,nx⟩=>[(5,.mrow r 0 ((l.take k).filterMap (ll m)).length),(12,.i k)]) (λ⟨k,r,nx⟩=>[(r,⟨84,((l.take k).filterMap (ll m)).map Sgd.d⟩)]) (λ⟨k,r,nx⟩=>nx) (0,2,_) (hA:=⟨iv,iv,trivial⟩) (round:=?_)
 rintro⟨k,r,nx⟩ ⟨hk,hr, -⟩
 simp only[XY,X0]
 have hfl:=JQ (ll m) l k
 have ff:=qA @hr ff
 refine aa Tp ?_
 refine ae ?_
 refine cd ?_ ?_ (hp:=rfl)<;>intro c1
 .
  have hk2:k<l.length:=by simpa using c1
  have ff:=qA (dF hk2) ff;refine ah ?_;refine ae ?_;refine aj ?_;refine aa Tp ?_;refine aa Tp ?_ (hok:=oH (Zjl l[k]! m (hl.2 k hk2) (hm k hk2)));refine aa Tp ?_;refine cd ?_ ?_<;>intro c2
  .
   refine ai Tp ?_;refine ai Tp ?_
   show ∃_,_
   have hst:=JO (f:=ll m) hk2 (by simp only[ll];rw[X3 o5k])
   have hsd:((l.take (k+1)).filterMap (ll m)).map Sgd.d=((l.take k).filterMap (ll m)).map Sgd.d++[[.v (.string (bs l[k]!.set.name)),.i l[k]!.set.ty,.i l[k]!.set.life,.list false (l[k]!.set.data.map Dat.d),.list false (l[k]!.sigs.map RSig.d)]]:=by rw[hst,YT];rfl
   have hsl:((l.take (k+1)).filterMap (ll m)).length=((l.take k).filterMap (ll m)).length+1:=by rw[hst,XZ];rfl
   have ff:=qB hsd hsl ff;exact ay (k+1,(nx+18),_) (h1:=⟨iv,iv,trivial⟩)
  refine ah ?_;refine ai Tp ?_
  show ∃_,_
  have ff:=qA (JP (f:=ll m) hk2 (by simp only[ll];rw[XV o5f])) ff
  exact ay (k+1,r,_) (h1:=⟨iv,iv,trivial⟩)
 refine aH ?_
 have e9:k=l.length:=by have h9 : ¬(k:Int)<l.length:=(by simpa using c1);omega
 subst e9
 rw[Yn]at *
 refine aa Tp ?_
 exact oN (fin 1 (hr:=o4n))
def Zjp(l:List Sgd)(m:PM)(hl:fO l)(h:H)(n:Nat):bU prog 32 [.list false (l.map Sgd.d),.fn (.func 83) [] [.eptr [.fmap (jg m)]]] h n (λd h' n'=>∃r,d = .mrow r 0 (l.filterMap (lJ m)).length/\h'=upd h r (some ⟨84,(l.filterMap (lJ m)).map Sgd.d⟩)/\n<=r/\r<n'):=by
 refine oP func32 λhnone ff=>?_
 unfold f32
 have hl1:=hl.1
 refine oC Tp ?_
 refine ae ?_
 refine yH 5 84 o5v o5v ?_
 refine aa Tp ?_
 refine aj ?_
 refine jm (α:=(Nat)×(Nat)×Nat) [1,10,11] (λ⟨k,r,nx⟩=>(k<=l.length)/\(r<nx)/\(n<=r)/\True) (λ⟨k,r,nx⟩=>l.length-k) (λ⟨k,r,nx⟩=>[(5,.mrow r 0 ((l.take k).filterMap (lJ m)).length),(12,.i k)]) (λ⟨k,r,nx⟩=>upd h r (some ⟨84,((l.take k).filterMap (lJ m)).map Sgd.d⟩)) (λ⟨k,r,nx⟩=>nx) (0,(n+2),_) (hA:=⟨iv,iv,iv,trivial⟩) (round:=?_)
 rintro⟨k,r,nx⟩ ⟨hk,hr,hr0, -⟩
 simp only[XY,X0]
 have hfl:=JQ (lJ m) l k
 have ff:=qA @hr ff
 refine aa Tp ?_
 refine ae ?_
 refine cd ?_ ?_ (hp:=rfl)<;>intro c1
 .
  have hk2:k<l.length:=by simpa using c1
  have ff:=qA (dF hk2) ff;refine ah ?_;refine ae ?_;refine aj ?_;refine aa Tp ?_;refine aa Tp ?_ (hok:=oH (ZjG l[k]! m));refine aa Tp ?_;refine cd ?_ ?_<;>intro c2
  .
   refine ai Tp ?_;refine ai Tp ?_
   show ∃_,_
   have hst:=JO (f:=lJ m) hk2 (by simp only[lJ];rw[X3 o5k])
   have hsd:((l.take (k+1)).filterMap (lJ m)).map Sgd.d=((l.take k).filterMap (lJ m)).map Sgd.d++[[.v (.string (bs l[k]!.set.name)),.i l[k]!.set.ty,.i l[k]!.set.life,.list false (l[k]!.set.data.map Dat.d),.list false (l[k]!.sigs.map RSig.d)]]:=by rw[hst,YT];rfl
   have hsl:((l.take (k+1)).filterMap (lJ m)).length=((l.take k).filterMap (lJ m)).length+1:=by rw[hst,XZ];rfl
   have ff:=qB hsd hsl ff;refine ay (k+1,(nx+18),_) (h1:=⟨iv,iv,iv,trivial⟩) (h5:=?_);refine MO hnone o5v (λq hq=>?_)
   simp only[upd]
   repeat rw[XV (by omega)]
  refine ah ?_;refine ai Tp ?_
  show ∃_,_
  have ff:=qA (JP (f:=lJ m) hk2 (by simp only[lJ];rw[XV o5f])) ff
  refine ay (k+1,r,_) (h1:=⟨iv,iv,iv,trivial⟩) (h5:=?_);refine MO hnone o5v (λq hq=>?_)
  simp only[upd]
  repeat rw[XV (by omega)]
 refine aH ?_
 have e9:k=l.length:=by have h9 : ¬(k:Int)<l.length:=(by simpa using c1);omega
 subst e9
 rw[Yn]at *
 refine aa Tp ?_
 refine aL ?_
 exact cK (upd h r (some ⟨84,(l.filterMap (lJ m)).map Sgd.d⟩)) (hr:=oS (k:=by exact⟨r,rfl,rfl,om,om⟩))
def Zjs(l:List Sgd)(hl:l.length<=1000000)(h:H)(n:Nat):bU prog 28 [.list false (l.map Sgd.d)] h n (λd h' n'=>∃r,d = .mp r/\h'=upd h r (some ⟨79,iY (qw (wV l))⟩)/\n<=r/\r<n'):=by
 refine oP func28 λhnone ff=>?_
 unfold f28
 refine oC Tp ?_
 refine ae ?_
 refine aa Tp ?_
 refine aj ?_
 refine jm (α:=(Nat)×Nat) [3,9,10] (λ⟨k,nx⟩=>(k<=l.length)/\(n+3<nx)/\True) (λ⟨k,nx⟩=>l.length-k) (λ⟨k,nx⟩=>[(11,.i k)]) (λ⟨k,nx⟩=>upd h (n+3) (some ⟨79,iY (mV (uC l k))⟩)) (λ⟨k,nx⟩=>nx) (0,_) (hA:=⟨iv,iv,trivial⟩) (round:=?_) (BN:=by exact λ_=>.inl rfl)
 rintro⟨k,nx⟩ ⟨hk,hx, -⟩
 simp only[XY,X0]
 have ff:=qA @hx ff
 refine aa Tp ?_
 refine ae ?_
 refine cd ?_ ?_ (hp:=rfl)<;>intro c1
 .
  have hk2:k<l.length:=by simpa using c1
  have ff:=qB (dF hk2) (Us (l:=l) (k:=k)) ff;refine ah ?_;refine ae ?_;refine aj ?_;refine aa Tp ?_;refine ai Tp ?_ (hok:=oH (uQ l[k]!));refine ai Tp ?_
  show ∃_,_
  refine ay (k+1,_) (h1:=⟨iv,iv,trivial⟩) (h5:=?_);refine MO hnone o5v (λq hq=>?_)
  simp only[upd]
  repeat rw[XV (by omega)]
 refine aH ?_
 have e9:k=l.length:=by have h9 : ¬(k:Int)<l.length:=(by simpa using c1);omega
 subst e9
 refine aa Tp ?_
 refine aL ?_
 exact cK (upd h (n+3) (some ⟨79,iY (qw (wV l))⟩)) (hr:=oS (k:=by exact⟨n+3,rfl,rfl,om,om⟩)) (hh:=by rw[<-ZgA];exact Dj _)
def oq{z:Zon}(h:aJ z=true):PureCt prog 26 [.agg z.d] (.tuple [.i (aM z),.i 0]):=by
 have:=O6 z
 rwa [X3 h,X3 h]at this
def uh{z:Zon}(h:aJ z=false):PureCt prog 26 [.agg z.d] (.tuple [.i 0,.i 1]):=by
 have:=O6 z
 rwa [XV (by simp[h]),XV (by simp[h])]at this
@[go_sem]theorem keysOk_S{m:List ak}:kL prog 86 (uD m)=true:=by
 induction m with
 | nil=>rfl
 | cons p m ih=>rw[Fj];simp only[kL,ih,ak.d,Jf,ZH]
@[go_sem]theorem keysOk_Z{m:PZ}:kL prog 86 (qw m)=true:=by
 induction m with
 | nil=>rfl
 | cons p m ih=>rw[Bt];simp only[kL,ih,ak.d,Jf,ZH]
def DX(d:aG):PureCt prog 82 [.agg d.d] (.b (fU d)):=by
 refine oO func82 λff=>?_
 unfold f82
 refine aa Tp ?_
 refine oK Tp ?_ ?_ (hok:=oI zF Nn)<;>intro c1
 . refine aa Tp ?_;exact fo 0 (k:=o4m)
 refine oK Tp (λc2=>?_) (λc2=>?_) (hok:=by(try simp only[go_sem,ff]);all_goals (first|done|((repeat' (with_reducible apply And.intro))<;>first|(intros;exact Gm _)|exact(λ_=>Gm _)|exact(λh=>Ke _ _ (by simp_all) (by simp_all))|(intros;simp_all;done)|skip)))
 . refine aa Tp ?_;exact fo 0 (k:=o4m)
 refine oK Tp ?_ ?_<;>intro c3
 . refine aa Tp ?_;exact fo 0 (k:=o4m)
 refine aa Tp ?_
 refine ae ?_
 refine aa Tp ?_
 refine aj ?_
 refine lp (α:=(Nat)×Nat) [1,3,50,51] (λ⟨k,nx⟩=>(k<=d.drop.length)/\(aA d.drop.length (uP d.drop) 0=aA d.drop.length (uP d.drop) k)/\(42<nx)/\True) (λ⟨k,nx⟩=>d.drop.length-k) (λ⟨k,nx⟩=>[(52,.i k)]) (λ⟨k,nx⟩=>[(0,⟨40,[d.d]⟩),(42,⟨227,iY (uD (xO d.drop (k)))⟩)]) (λ⟨k,nx⟩=>nx) (0,_) (hA:=⟨iv,rfl,iv,trivial⟩) (round:=?_)
 rintro⟨k,nx⟩ ⟨hk,hv1,hx, -⟩
 simp only[XY,X0]
 have n0:0<nx:=by omega
 have ff:=qB @hx @n0 ff
 refine aa Tp ?_
 refine ae ?_
 refine cd ?_ ?_ (hp:=rfl)<;>intro c4
 .
  have hk2:k<d.drop.length:=by simpa using c4
  have hk1:k-1<d.drop.length:=by omega
  have e1:((k:Int)-1).toNat=k-1:=by omega
  have ff:=qD (JD hk2) (JD hk1) @e1 ff;refine ah ?_;refine ae ?_;refine aj ?_;refine aa Tp ?_;refine oK Tp ?_ ?_ (hok:=iE @zF)<;>intro c5
  . refine aa Tp ?_;exact fo 0 (k:=o1s)
  refine oK Tp ?_ ?_ (hok:=iE (Oj d.drop[k-1]! d.drop[k]!))<;>intro c6
  . refine aa Tp ?_;exact fo 0 (k:=o1s)
  refine ai Tp ?_;refine ai Tp ?_
  show ∃_,_
  have h8:(uP d.drop) k=true:=by simp only[uP,qi,aW];grind
  have ff:=qA (show uq (xO d.drop k) d.drop[k]! = xO d.drop (k+1)from rfl) ff
  exact ay (k+1,_) (h1:=⟨iv,o4y,iv,trivial⟩)
 have e9:k=d.drop.length:=by omega
 subst e9
 refine aH ?_
 refine ae ?_
 refine aa Tp ?_
 refine aj ?_
 refine lp (α:=(Nat)×Nat) [1,3,88,89] (λ⟨k,nx⟩=>(k<=d.put.length)/\(aA d.put.length (ut d) 0=aA d.put.length (ut d) k)/\(42<nx)/\True) (λ⟨k,nx⟩=>d.put.length-k) (λ⟨k,nx⟩=>[(90,.i k)]) (λ⟨k,nx⟩=>[(0,⟨40,[d.d]⟩),(42,⟨227,iY (uD (xO d.drop (d.drop.length)))⟩)]) (λ⟨k,nx⟩=>nx) (0,_) (hA:=⟨iv,rfl,iv,trivial⟩) (round:=?_)
 rintro⟨k,nx⟩ ⟨hk,hv,hx, -⟩
 simp only[XY,X0]
 have n0:0<nx:=by omega
 have ff:=qB @hx @n0 ff
 refine aa Tp ?_
 refine ae ?_
 refine cd ?_ ?_ (hp:=rfl)<;>intro c7
 .
  have hk2:k<d.put.length:=by simpa using c7
  have hk1:k-1<d.put.length:=by omega
  have e1:((k:Int)-1).toNat=k-1:=by omega
  have ff:=qD (dF hk2) (dF hk1) @e1 ff;refine ah ?_;refine ae ?_;refine aj ?_;refine aa Tp ?_;refine oK Tp ?_ ?_ (hok:=oa2 @vg (uQ d.put[k]!))<;>intro c8
  . refine aa Tp ?_;exact fo 0 (k:=o2a)
  refine aa Tp ?_ (hok:=oa3 (uQ d.put[k]!) (uQ d.put[k-1]!) (Oj d.put[k-1]!.q d.put[k]!.q));refine cd ?_ ?_<;>intro c9
  . refine aa Tp ?_;exact fo 0 (k:=o2a)
  refine ah ?_;refine ai Tp ?_
  show ∃_,_
  have h8:(ut d) k=true:=by simp only[ut];grind
  exact ay (k+1,_) (h1:=⟨iv,o5b,iv,trivial⟩)
 refine aH ?_
 refine aa Tp ?_
 exact fo 0 (k:=by rw[<-Aj];simp only[xx];(try rw[Ay]at *);rw[hv1,hv,ib (n:=d.drop.length) (by omega),ib (by omega)];grind)
def Ww(a:Zon)(b:Zon):PureCt prog 9 [.agg a.d,.agg b.d] (.tuple [.agg (lh a b).1.d,.i (lh a b).2]):=by
 refine oO func9 λff=>?_
 unfold Tryz.f9
 refine aa Tp ?_
 rcases ha:aJ a with _|_<;>rcases hb:aJ b with _|_
 .
  have ff:=qB @ha @hb ff;refine aa Tp ?_ (hok:=o3g)
  refine aa Tp ?_ (hok:=o3h)
  refine ae ?_;refine aa Tp ?_;refine cd ?_ ?_ (hq:=rfl)<;>intro c1
  . refine aa Tp ?_;exact fo 3 (k:=o5m)
  first|exact c1.elim|(simp at c1;done)
 .
  have ff:=qB @ha @hb ff;refine aa Tp ?_ (hok:=o3g)
  refine aa Tp ?_ (hok:=o3h)
  refine ae ?_;refine aa Tp ?_;refine cd ?_ ?_ (hq:=rfl)<;>intro c1
  . refine aa Tp ?_;exact fo 3 (k:=o5m)
  first|exact c1.elim|(simp at c1;done)
 .
  have ff:=qB @ha @hb ff;refine aa Tp ?_ (hok:=o3g)
  refine aa Tp ?_ (hok:=o3h)
  refine ae ?_;refine aa Tp ?_;refine cd ?_ ?_ (hq:=rfl)<;>intro c1
  . refine aa Tp ?_;exact fo 3 (k:=o5m)
  first|exact c1.elim|(simp at c1;done)
 have hfa:=sJ ha
 have hfb:=sJ hb
 have hsa:iB (aM a)=true:=by rw[AU ha];exact Ir (by rw[<-sK];exact ha)
 have hsb:iB (aM b)=true:=by rw[AU hb];exact Ir (by rw[<-sK];exact hb)
 have ff:=qB @ha @hb ff
 refine aa Tp ?_ (hok:=o3g)
 refine aa Tp ?_ (hok:=o3h)
 refine oK Tp ?_ ?_<;>intro c1
 . refine aa Tp ?_;exact fo 3 (k:=o5m)
 refine oK Tp ?_ ?_ (hok:=oF (Ke _ _ hsa hsb))<;>intro c2
 . refine aa Tp ?_;exact fo 3 (k:=by rw[lh,XV (by simp_all),X3 (by simp_all)];rfl)
 refine aa lq ?_ (hok:=oI (Wy a.sets hfa.1) (Wy b.sets hfb.1))
 refine aa Tp ?_
 refine qR 11 42 ev ev Te ?_
 refine aa Tp ?_ (hok:=oH (Zjq a.sets (kY b.sets) hfa))
 refine qR 10 41 ev ev Te ?_
 refine aa Tp ?_ (hok:=oH (Zjo b.sets (kY a.sets) hfb (λk hk x hx=>JV hfa (TL hx).1)))
 refine aa Tp ?_
 exact fo 3 (k:=by rw[lh,XV (by simp_all),XV (by simp_all)];try rfl)
def Zch:Go.Shelf.Ren:={ f:=λx=>match x with|6=>84|15=>147|14=>146|28=>218|29=>219|20=>210|21=>211|22=>212|23=>213|24=>214|25=>215|26=>216|27=>217|46=>247|47=>248|48=>249|49=>250|50=>251|57=>272|n=>n,t:=λx=>match x with|22=>22|24=>84|25=>160|3=>3|39=>230|0=>0|53=>284|55=>140|4=>4|46=>278|45=>277|50=>147|5=>5|9=>9|66=>314|70=>296|76=>330|77=>331|n=>n,g:=λn=>n }
def srtS:Go.Proofs.SlLaysF0.n6 prog Zch:={
 mixed:=by kernel_rfl
 f6:=⟨f84.name,by decide,func84.trans (by kernel_rfl)⟩
 f14:=⟨f146.name,by decide,func146.trans (by kernel_rfl)⟩
 f15:=func147.trans (by kernel_rfl)
 f20:=⟨f210.name,by decide,func210.trans (by kernel_rfl)⟩
 f21:=⟨f211.name,by decide,func211.trans (by kernel_rfl)⟩
 f22:=⟨f212.name,by decide,func212.trans (by kernel_rfl)⟩
 f23:=⟨f213.name,by decide,func213.trans (by kernel_rfl)⟩
 f24:=⟨f214.name,by decide,func214.trans (by kernel_rfl)⟩
 f25:=⟨f215.name,by decide,func215.trans (by kernel_rfl)⟩
 f26:=⟨f216.name,by decide,func216.trans (by kernel_rfl)⟩
 f27:=⟨f217.name,by decide,func217.trans (by kernel_rfl)⟩
 f28:=func218.trans (by kernel_rfl)
 f29:=func219.trans (by kernel_rfl)
 f46:=⟨f247.name,by decide,func247.trans (by kernel_rfl)⟩
 f47:=func248.trans (by kernel_rfl)
 f48:=func249.trans (by kernel_rfl)
 f49:=⟨f250.name,by decide,func250.trans (by kernel_rfl)⟩
 f50:=⟨f251.name,by decide,func251.trans (by kernel_rfl)⟩
 f57:=⟨f272.name,by decide,func272.trans (by kernel_rfl)⟩
 t0:=underlying0
 a0:=Tryz.isAgg0
 z0:=Tryz.sizeOf0
 v0:=Tryz.zeroValue0
 t3:=underlying3
 a3:=Tryz.isAgg3
 z3:=Tryz.sizeOf3
 v3:=Tryz.zeroValue3
 t4:=underlying4
 a4:=Tryz.isAgg4
 z4:=Tryz.sizeOf4
 v4:=Tryz.zeroValue4
 t5:=underlying5
 a5:=Tryz.isAgg5
 z5:=Tryz.sizeOf5
 v5:=Tryz.zeroValue5
 t9:=underlying9
 a9:=Tryz.isAgg9
 z9:=Tryz.sizeOf9
 v9:=Tryz.zeroValue9
 t22:=underlying22
 a22:=Tryz.isAgg22
 z22:=Tryz.sizeOf22
 v22:=Tryz.zeroValue22
 t25:=underlying160
 a25:=Tryz.isAgg160
 z25:=Tryz.sizeOf160
 v25:=Tryz.zeroValue160
 t39:=underlying230
 a39:=Tryz.isAgg230
 z39:=Tryz.sizeOf230
 v39:=Tryz.zeroValue230
 t45:=underlying277
 a45:=Tryz.isAgg277
 z45:=Tryz.sizeOf277
 v45:=Tryz.zeroValue277
 t46:=underlying278
 a46:=Tryz.isAgg278
 z46:=Tryz.sizeOf278
 v46:=Tryz.zeroValue278
 t50:=underlying147
 a50:=Tryz.isAgg147
 z50:=Tryz.sizeOf147
 v50:=Tryz.zeroValue147
 t53:=underlying284
 a53:=Tryz.isAgg284
 z53:=Tryz.sizeOf284
 v53:=Tryz.zeroValue284
 t55:=underlying140
 a55:=Tryz.isAgg140
 z55:=Tryz.sizeOf140
 v55:=Tryz.zeroValue140
 t66:=underlying314
 a66:=Tryz.isAgg314
 z66:=Tryz.sizeOf314
 v66:=Tryz.zeroValue314
 t70:=underlying296
 a70:=Tryz.isAgg296
 z70:=Tryz.sizeOf296
 v70:=Tryz.zeroValue296
 t76:=underlying330
 a76:=Tryz.isAgg330
 z76:=Tryz.sizeOf330
 v76:=Tryz.zeroValue330
 t77:=underlying331
 a77:=Tryz.isAgg331
 z77:=Tryz.sizeOf331
 v77:=Tryz.zeroValue331 }
def sortG(l:List Sgd)(m:Nat)(h:H)(n r:Nat)(hm:m=l.length)(hl:l.length<=1000000)(hn : ∀s∈l,az (s.q).name=true)(ho:Once l)(hr:h r=some ⟨84,l.map Sgd.d⟩) :
  bU prog 84 [.mrow r 0 m,.fn (.func 148) [] [.eptr [.fn (.func 31) [] []]]] h n (λd h' n'=>d = .tuple []/\n'=n/\h'=upd h r (some ⟨84,(iU l).map Sgd.d⟩)):=by
 have e:m=(l.map Sgd.d).length:=by simp[hm]
 rw[e]
 have hx : ∀x∈l.map Sgd.d,Sgd.d (Sgd.of x)=x/\az ((λs:Sgd=>s.q) (Sgd.of x)).name=true:=λx hx=>by
  obtain⟨s,hs,rfl⟩:=Yt.1 hx;rw[Da];exact⟨rfl,hn s hs⟩
 have hc : ∀x∈l.map Sgd.d,∀y∈l.map Sgd.d,qC (Sgd.of x).q (Sgd.of y).q=sp (Sgd.of x) (Sgd.of y):=λx h1 y h2=>CX (hx x h1).2 (hx y h2).2
 refine(Qr (ty:=84) srtS rfl rfl Tryz.isAgg84 Tryz.sizeOf84 (λx y=>qC (Sgd.of x).q (Sgd.of y).q) (by kernel_rfl) hr Db rfl (by simp;omega) (λx h1 y h2=>?_) ⟨λx h1=>?_,λx h1 y h2 z h3=>?_,λx h1 y h2 z h3=>?_⟩).mono ?_
 . have:=Zjr (Sgd.of x) (Sgd.of y);rw[(hx x h1).1,(hx y h2).1]at this;exact this
 . rw[hc x h1 x h1,mh.self];omega
 . rw[hc x h1 y h2,hc y h2 z h3,hc x h1 z h3];intro a b;exact mh.lt_le a om
 . rw[hc x h1 y h2,hc y h2 z h3,hc x h1 z h3];intro a b;have h1:=mh.anti (Sgd.of x) (Sgd.of y);have h2:=mh.anti (Sgd.of y) (Sgd.of z);have h3:=mh.anti (Sgd.of x) (Sgd.of z);have:=mh.tr (Sgd.of z) (Sgd.of y) (Sgd.of x) om om;omega
 rintro d h' n' ⟨rfl,rfl,rows',hp,hs,rfl⟩
 obtain⟨q1,q2⟩:=ZdM Da hp
 refine⟨rfl,rfl,?_⟩
 have hs':(rows'.map Sgd.of).Pairwise λa b=>sp a b<=0:=by
  rw[List.pairwise_map];refine hs.imp_of_mem λ{a b}h1 h2 h3=>?_
  have h3 : ¬(λx y=>qC (Sgd.of x).q (Sgd.of y).q) b a<0:=h3
  dsimp only at h3;have h4:=hc b (hp.mem_iff.1 h2) a (hp.mem_iff.1 h1);rw[h4]at h3;have:=mh.anti (Sgd.of a) (Sgd.of b);omega
 rw[<-Zcq ho q2 hs',q1]
def ZiE{P:Program}[Glob P]{ro:Option Nat}{Q:Exit->S->Prop}{c:Code}{s:S}(i r:Nat){ty:TypeId}{row:List D}(hi:s.t i = .mptr r 0 0)(hr:s.h r=some ⟨ty,[row]⟩)(hn:bC row=true)(h:DW P ro c Q { n:=s.n,t:=upd s.t i (.eptr (eB row)),h:=upd s.h r none,nx:=s.nx,e:=s.e }):DW P ro c Q s :=
 Oc i r hi (λ_ _ _ hm hv=>(Vq hm hr hn hv).wk) h
def ZiM(z:Zon)(d:aG)(hl:fO z.sets)(h:H)(n:Nat):bU prog 32 [.list false (z.sets.map Sgd.d),.fn (.func 83) [] [.eptr [.fmap (jg (zp (xg (wV d.put) d.drop d.drop.length)))]]] h n (λx h' n'=>∃r,x = .mrow r 0 (gF z d).length/\h'=upd h r (some ⟨84,(gF z d).map Sgd.d⟩)/\n<=r/\r<n'):=Zjp z.sets _ hl h n
def Zb6{z:Zon}{d:aG}(hz:oh z)(hd:DOk d):∀s∈gF z d++d.put,az s.q.name=true:=λs hs=>(Yx.1 hs).elim (λk=>hz.nms s (EA.1 k).1) λk=>(hd.pok s k).name
def Tw{z:Zon}{d:aG}(hz:fO z.sets)(hp:fO d.put)(hd:d.put.length<=20000)(hl:(gF z d).length<=20000):fO (iU (gF z d++d.put)):=NP (by rw[HZ,XZ];omega) λs hs=>(Yx.1 (Ll.1 hs)).elim (λk=>JV hz (EA.1 k).1) λk=>JV hp k
def Oo(z:Zon)(d:aG)(hp:fO d.put):PureCt prog 38 [.agg z.d,.agg d.d] (.tuple [.agg (eD z d).1.d,.i (eD z d).2]):=by
 refine oO func38 λff=>?_
 unfold f38
 refine aa Tp ?_
 rcases ha:aJ z with _|_
 .
  have ff:=qA @ha ff;refine aa Tp ?_ (hok:=o3g)
  refine ae ?_;refine aa Tp ?_ (hok:=oH (DX d));refine cd ?_ ?_ (hq:=rfl)<;>intro c1
  . refine aa Tp ?_;exact fo 3 (k:=by rw[eD,if_pos (by grind)];try rfl)
  first|exact c1.elim|(simp at c1;done)
 have hfa:=sJ ha
 have hza:=lM ha
 have hlz:=hza.len
 have ff:=qA @ha ff
 refine aa Tp ?_ (hok:=o3g)
 refine oK Tp ?_ ?_ (hok:=oH (DX d))<;>intro c1
 . refine aa Tp ?_;exact fo 3 (k:=by rw[eD,if_pos (by grind)];try rfl)
 have hd:fU d=true:=by grind
 have hax:z.apex=d.apex:=by grind
 have p1 : ¬(aJ z=false\/fU d=false\/z.apex≠d.apex):=by rintro (q|q|q);rw[ha]at q;cases q;rw[hd]at q;cases q;exact q hax
 have hdd:=yJ.1 hd
 have hld:=hdd.dlen
 have hlp:=hdd.plen
 have hsl:=Zb7 z d
 refine oK Tp ?_ ?_<;>intro c2
 .
  have p2:aM z≠d.frm:=by grind
  refine aa Tp ?_;exact fo 3 (k:=by rw[eD,XV p1,X3 p2];try rfl)
 have p2 : ¬(aM z≠d.frm):=λq=>q (by grind)
 refine ae (bJ Tp 2 (hct:=by exact Zjs d.put hp.1 _ _) (hk:=?_))
 rintro res h2 n2 ⟨r1,rfl,rfl,a1,b1⟩
 try dsimp only at a1 b1
 have ff:=qD @b1 (nH 0 1) (nH 0 2) (qI (nH 0 r1) (nH 0 (n2+3)) (nH 1 2) (nH 1 r1) (nH 1 (n2+3)) (nH 2 r1) (nH 2 (n2+3)) (nH (n2+3) r1) ff)
 refine bI Tp ?_
 refine ae ?_
 refine aa Tp ?_
 refine aj ?_
 refine lp (α:=(Nat)×(Nat)×Nat) [2,3,4,43,44] (λ⟨k,q,nx⟩=>(k<=d.drop.length)/\(q<nx)/\(r1<q)/\(2<r1)/\True) (λ⟨k,q,nx⟩=>d.drop.length-k) (λ⟨k,q,nx⟩=>[(8,.mptr q 0 0),(45,.i k)]) (λ⟨k,q,nx⟩=>[(0,⟨24,[z.d]⟩),(1,⟨40,[d.d]⟩),(2,⟨24,[[.v (.string (bs [])),.list true []]]⟩),(q,⟨79,[[.mp r1]]⟩),(r1,⟨79,iY (qw (xg (wV d.put) d.drop (k)))⟩)]) (λ⟨k,q,nx⟩=>nx) (0,n2+3,_) (hA:=⟨iv,iv,iv,iv,trivial⟩) (round:=?_)
 rintro⟨k,q,nx⟩ ⟨hk,hq,lH,hr1, -⟩
 simp only[XY,X0]
 have n0:0<nx:=by omega
 have hrn:r1<nx:=by omega
 have ff:=qF @hq @n0 @hrn (nH 0 1) (nH 0 2) (qI (nH 0 q) (nH 0 r1) (nH 1 2) (nH 1 q) (nH 1 r1) (nH 2 q) (nH 2 r1) (nH q r1) ff)
 refine aa Tp ?_
 refine ae ?_
 refine cd ?_ ?_ (hp:=rfl)<;>intro c3
 .
  have hk2:k<d.drop.length:=by simpa using c3
  have ff:=qA (JD hk2) ff;refine ah ?_;refine ae ?_;refine aj ?_;refine aa Tp ?_;refine ai Tp ?_;refine ai Tp ?_
  show ∃_,_
  have ff:=qA (show xG (xg (wV d.put) d.drop (k)) d.drop[k]! none=xg (wV d.put) d.drop (k+1)from rfl) ff
  exact ay (k+1,q,_) (h1:=⟨iv,iv,iv,iv,trivial⟩)
 have e8:k=d.drop.length:=by omega
 subst e8
 refine aH ?_
 refine ZiF q 0 r1 ev rfl ev rfl om Td ?_
 simp only[YP]
 refine ZiE 8 q ev ev Zfo ?_
 refine ae (bJ Tp 3 (hct:=by exact ZiM z d hfa _ _) (hk:=?_))
 rintro res h2 n2 ⟨r2,rfl,rfl,a2,b2⟩
 try dsimp only at a2 b2
 have ff:=qH @b2 (nH 0 1) (nH 0 2) (nH 0 r2) (nH 1 2) (nH 1 r2) (nH 2 r2) ff
 refine bI Tp ?_
 refine oK Tp ?_ ?_<;>intro c4
 . refine aa Tp ?_;exact fo 3 (k:=by rw[eD,XV p1,XV p2,X3 (by omega)];try rfl)
 refine aa Tp ?_
 obtain⟨q5,hq5⟩:∃q,q=n2+15:=⟨_,rfl⟩
 rw[<-hq5]
 have hq5b:q5<n2+16:=by omega
 have ff:=qH @hq5b (nH 0 1) (nH 0 2) (nH 0 q5) (nH 1 2) (nH 1 q5) (nH 2 q5) ff
 refine ae (bJ Tp 2 (hok:=oH Zjn) (hct:=by exact sortG (gF z d++d.put) _ _ _ _ (by simp) (by rw[XZ];omega) (Zb6 hza hdd) (Tu hza.ord hdd.pord) (by simp only[go_sem,ff,YT])) (hk:=?_))
 rintro res h2 n2 ⟨rfl,rfl,rfl⟩
 refine bI Tp ?_
 refine ZiD 12 q5 (rows:=(iU (gF z d++d.put)).map Sgd.d) (off:=0) (len:=(gF z d).length+d.put.length) ev ev (by simp[HZ]) Db ?_
 rw[X6,Yl (by simp[HZ])]
 refine aa lq ?_ (hok:=by(try simp only[go_sem,ff]);all_goals (first|done|((repeat' (with_reducible apply And.intro))<;>first|(intros;exact Wx _ (Tw hfa hp hlp om))|omega|skip)))
 refine ae ?_
 rcases hb:aJ (⟨z.apex,iU (gF z d++d.put)⟩:Zon)with _|_
 .
  have ff:=qA @hb ff;have ff:=qA (VD (iU (gF z d++d.put))) ff;refine aa Tp ?_ (hok:=o1e)
  refine aa Tp ?_;refine cd ?_ ?_ (hq:=rfl)<;>intro c5
  . refine aa Tp ?_;exact fo 3 (k:=o0v)
  first|exact c5.elim|(simp at c5;done)
 have ff:=qA @hb ff
 have ff:=qA (VD (iU (gF z d++d.put))) ff
 refine aa Tp ?_ (hok:=o1e)
 refine aa Tp ?_
 refine cd ?_ ?_<;>intro c5
 . refine aa Tp ?_;exact fo 3 (k:=o0v)
 refine ah ?_
 refine aa Tp ?_
 exact fo 3 (k:=by rw[eD,if_neg p1,if_neg p2,if_neg (by omega),if_neg (by show ¬(aJ (⟨z.apex,iU (gF z d++d.put)⟩:Zon)=false\/aM (⟨z.apex,iU (gF z d++d.put)⟩:Zon)≠d.too);rw[hb];grind)];try rfl)
def Wm{a b:Int}{x:Bool}{e:Int}(h:mO a b=(x,e)):PureCt prog 22 [.i a,.i b] (.tuple [.b x,.i e]):=by
 have:=Wn a b
 rwa [h]at this
def Zjk{a b:Zon}{x:aG}{e:Int}(h:lh a b=(x,e)):PureCt prog 9 [.agg a.d,.agg b.d] (.tuple [.agg x.d,.i e]):=by
 have:=Ww a b
 rwa [h]at this
def ZjE{z:Zon}{d:aG}{x:Zon}{e:Int}(hp:fO d.put)(h:eD z d=(x,e)):PureCt prog 38 [.agg z.d,.agg d.d] (.tuple [.agg x.d,.i e]):=by
 have:=Oo z d hp
 rwa [h]at this
@[go_sem]theorem ZcE{l:List Sgd}{x:Sgd}:(l++[x]).map Sgd.d=l.map Sgd.d++[[.v (.string (bs x.set.name)),.i x.set.ty,.i x.set.life,.list false (x.set.data.map Dat.d),.list false (x.sigs.map RSig.d)]]:=by simp[Sgd.d]
@[go_sem]theorem Zhh{l:List Int}{x:Int}:(l++[x]).map kz=l.map kz++[[.i x]]:=by simp[kz]
@[go_sem]theorem Zi0{l:List aG}{x:aG}:(l++[x]).map aG.d=l.map aG.d++[[.v (.string (bs x.apex)),.i x.frm,.i x.too,.list false (x.drop.map ak.d),.list false (x.put.map Sgd.d)]]:=by simp[aG.d]
def bo81q:dY prog 81=true:=by kernel_rfl
def J9(d:aG):PureCt prog 81 [.agg d.d,.agg d.d] (.tuple [.agg (rV d d).1.d,.i (rV d d).2]):=by
 refine xP func81 rfl bo81q o5r (by simp[f81]) ?_
 unfold f81
 simp only[zS]
 have ff:=True.intro
 refine aa Tp ?_
 refine ae ?_
 rcases hd:fU d with _|_
 .
  have hj:=UI hd;have ff:=qB @hj @hd ff;refine aa Tp ?_ (hok:=o0q)
  refine cd ?_ ?_ (hp:=rfl) (hq:=rfl)<;>intro c1
  . refine aa Tp ?_;exact fp 3
  simp at c1
 have hj:=UH hd
 have hdi:=yJ.1 hd
 have hne:(d.too != d.frm)=true:=by simpa using OP hdi.bef hdi.too
 have ff:=qD @hj @hd @hne ff
 refine aa Tp ?_ (hok:=o0q)
 refine cd ?_ ?_ (hp:=rfl) (hq:=rfl)<;>intro c1
 . simp at c1
 refine ah ?_
 refine ae ?_
 refine aa Tp ?_ (hok:=by(try simp only[go_sem,ff]);all_goals (first|done|(simp;done)|(repeat' (with_reducible apply And.intro))<;>first|(intro h;simp at h;done)|(simp;done)))
 refine cd ?_ ?_ (hp:=rfl) (hq:=rfl)<;>intro c2
 . refine aa Tp ?_;exact fp 3
 simp at c2
def P7(z:Zon):PureCt prog 89 [.agg z.d] (.b (Bi z)):=by
 refine oO func89 λff=>?_
 unfold f89
 refine oC Tp ?_
 exact fo 0 (k:=by rw[Zfx])
def Zbz(d:aG)(hp:fO d.put):PureCt prog 154 [.agg d.d] (.b (fU d)):=by
 refine oO func154 λff=>?_
 unfold f154
 refine aa Tp ?_
 rcases hd:fU d with _|_
 . have hj:=UI hd;have ff:=qB @hj @hd ff;refine aa Tp ?_ (hok:=oV (J9 d));refine aa Tp ?_;exact fp 0
 have hj:=UH hd
 have ff:=qB @hj @hd ff
 refine aa Tp ?_ (hok:=oV (J9 d))
 refine aa Tp ?_
 exact fp 0
def PW(s:gU):PureCt prog 43 [.agg s.d] (.b (lS s)):=by
 refine oO func43 λff=>?_
 unfold f43
 refine aa Tp ?_
 refine oK Tp ?_ ?_<;>intro c1
 . refine aa Tp ?_;exact fo 0 (k:=by simp only[lS];grind)
 refine oK Tp ?_ ?_<;>intro c2
 . refine aa Tp ?_ (hok:=oF (xE _));exact fo 0 (k:=by simp only[lS];grind)
 refine aa Tp ?_ (hok:=oF (P7 _))
 exact fo 0 (k:=by simp only[lS];grind)
def Zbq(o:Off)(hf : ∀i,i<o.deltas.length->fO o.deltas[i]!.put):PureCt prog 93 [.agg o.d] (.b (kI o)):=by
 refine oO func93 λff=>?_
 unfold f93
 refine aa Tp ?_
 refine oK Tp ?_ ?_<;>intro c1
 . refine aa Tp ?_ (hok:=oH xE);exact fo 0 (k:=by rw[kI,if_pos (by grind),UR])
 refine oK Tp ?_ ?_ (hok:=oH P7)<;>intro c2
 . refine aa Tp ?_;exact fo 0 (k:=by simp only[kI];grind)
 have hfu:o.full=false:=by grind
 have hl2:o.deltas.length<=20000:=by grind
 refine ae ?_
 refine aa Tp ?_
 refine aj ?_
 refine lp (α:=(Nat)×Nat) [1,27,28] (λ⟨k,nx⟩=>(k<=o.deltas.length)/\(aA o.deltas.length (wQ o) 0=aA o.deltas.length (wQ o) k)/\(0<nx)/\True) (λ⟨k,nx⟩=>o.deltas.length-k) (λ⟨k,nx⟩=>[(29,.i k)]) (λ⟨k,nx⟩=>[(0,⟨109,[o.d]⟩)]) (λ⟨k,nx⟩=>nx) (0,_) (hA:=⟨iv,rfl,iv,trivial⟩) (round:=?_)
 rintro⟨k,nx⟩ ⟨hk,hv,hx, -⟩
 simp only[XY,X0]
 have ff:=qA @hx ff
 refine aa Tp ?_
 refine ae ?_
 refine cd ?_ ?_ (hp:=rfl)<;>intro c3
 .
  have hk2:k<o.deltas.length:=by simpa using c3
  have hk1:k-1<o.deltas.length:=by omega
  have e1:((k:Int)-1).toNat=k-1:=by omega
  have ff:=qD (JE hk2) (JE hk1) @e1 ff;refine ah ?_;refine ae ?_;refine aj ?_;refine aa Tp ?_;refine oK Tp ?_ ?_ (hok:=oH (Zbz o.deltas[k]! (hf k hk2)))<;>intro c4
  . refine aa Tp ?_;exact fo 0 (k:=o2d)
  refine aa Tp ?_ (hok:=by(try simp only[go_sem,ff]);all_goals (exact ok0))
  refine cd ?_ ?_<;>intro c5
  . refine aa Tp ?_;exact fo 0 (k:=o2d)
  refine ah ?_;refine ai Tp ?_
  show ∃_,_
  have h8:(wQ o) k=true:=by simp only[wQ];grind
  exact ay (k+1,_) (h1:=⟨iv,o5b,iv,trivial⟩)
 refine aH ?_
 refine aa Tp ?_
 exact fo 0 (k:=by simp only[kI];rw[hv,ib (by omega)];grind)
def Zbx(o:Off):PureCt prog 94 [.agg o.d] (.tuple [.v (.string (bs (oQ o).1)),.b (oQ o).2]):=by
 refine oO func94 λff=>?_
 unfold f94
 refine aa Tp ?_
 refine oK Tp ?_ ?_<;>intro c1
 . refine aa Tp ?_;exact fo 1 (k:=by simp only[oQ];rw[if_pos (by grind)];try rfl)
 refine oK Tp ?_ ?_<;>intro c2
 .
  have h0:0<o.deltas.length:=by omega
  have ff:=qA (JE h0) ff;refine aa Tp ?_;exact fo 1 (k:=by simp only[oQ];rw[if_neg (by grind),if_pos (by omega)];try rfl)
 refine aa Tp ?_
 exact fo 1 (k:=by simp only[oQ];rw[if_neg (by grind),if_neg (by omega)];try rfl)
def Zbu(a:Sgd)(b:Sgd)(ha:tX a):PureCt prog 220 [.agg a.d,.agg b.d] (.b (lw a b)):=by
 refine oO func220 λff=>?_
 unfold f220
 refine aa Tp ?_
 refine aa Tp ?_ (hok:=o0w)
 exact fo 0 (k:=by rw[<-Zdq])
def ZbF(a:List Sgd)(b:List Sgd)(hl:fO a):PureCt prog 106 [.list false (a.map Sgd.d),.list false (b.map Sgd.d),.fn (.func 220) [] []] (.b (sZ a b)):=by
 refine oO func106 λff=>?_
 unfold f106
 have hl1:=hl.1
 refine aa Tp ?_
 refine oK Tp ?_ ?_<;>intro c1
 . refine aa Tp ?_;exact fo 0 (k:=by rw[QK (by omega)])
 have hab:a.length=b.length:=by omega
 refine ae ?_
 refine aa Tp ?_
 refine aj ?_
 refine lp (α:=(Nat)×Nat) [1,2,15,16] (λ⟨k,nx⟩=>(k<=a.length)/\(∀i,i<k->lw a[i]! b[i]! = true)/\True) (λ⟨k,nx⟩=>a.length-k) (λ⟨k,nx⟩=>[(17,.i k)]) (λ⟨k,nx⟩=>[]) (λ⟨k,nx⟩=>nx) (0,_) (hA:=⟨iv,o4c,trivial⟩) (round:=?_)
 rintro⟨k,nx⟩ ⟨hk,hv, -⟩
 simp only[XY,X0]
 refine aa Tp ?_
 refine ae ?_
 refine cd ?_ ?_ (hp:=rfl)<;>intro c2
 .
  have hk2:k<a.length:=by simpa using c2
  have hk3:k<b.length:=by omega
  have ff:=qB (dF hk2) (dF hk3) ff;refine ah ?_;refine ae ?_;refine aj ?_;refine oC Tp ?_;refine aa Tp ?_ (hok:=oH (Zbu a[k]! b[k]! (hl.2 k hk2)));refine cd ?_ ?_<;>intro c3
  . refine aa Tp ?_;exact fo 0 (k:=by rw[QQ (k:=k) (by grind)])
  have hs:lw a[k]! b[k]! = true:=by grind
  refine ah ?_;refine ai Tp ?_
  show ∃_,_
  exact ay (k+1,_) (h1:=⟨iv,(by(try dsimp only);intro i hi;by_cases e:i=k;subst e;exact hs;exact hv i om),trivial⟩)
 refine aH ?_
 refine aa Tp ?_
 exact fo 0 (k:=by rw[QJ hab λi hi=>hv i (by omega)])
def Zbt(a:Zon)(b:Zon)(hf:fO a.sets):PureCt prog 155 [.agg a.d,.agg b.d] (.b (mG a b)):=by
 refine oO func155 λff=>?_
 unfold f155
 refine aa Tp ?_
 refine aa Tp ?_ (hok:=oH (ZbF a.sets b.sets hf))
 exact fo 0 (k:=by rw[<-Zai])
def ZbB(s:gU)(z:Zon)(hs:s.has=true->aJ s.zone=true)(hz:aJ z=true):PureCt prog 95 [.agg s.d,.agg z.d] (.i (qP s z)):=by
 refine oO func95 λff=>?_
 unfold f95
 refine aa Tp ?_
 refine oK Tp ?_ ?_<;>intro c1
 . refine aa Tp ?_;exact fo 0 (k:=by simp[qP,c1])
 have hh:s.has=true:=by grind
 have hsz:=hs hh
 have vN:mO (aM s.zone) (aM z)=(gZ (aM s.zone) (aM z),0):=by unfold mO;rw[ze hsz,ze hz];rfl
 have ff:=qD @hsz @hz @vN ff
 refine aa Tp ?_ (hok:=oF (oq hsz))
 refine aa Tp ?_ (hok:=oF (oq hz))
 refine oK Tp ?_ ?_<;>intro c2
 .
  refine oK Tp ?_ ?_ (hok:=oF (Zbt s.zone z (sJ hsz)))<;>intro c3
  . refine aa Tp ?_;exact fo 0 (k:=by rw[Zh3 hh (by grind) (by simp only[mG]at c3;grind)])
  refine aa Tp ?_;exact fo 0 (k:=by rw[Zh0 hh (by simp only[mG]at c3;grind)])
 refine ae ?_
 refine aa Tp ?_ (hok:=oF (Wm vN))
 refine aa Tp ?_
 refine cd ?_ ?_<;>intro c4
 . refine aa Tp ?_;exact fo 0 (k:=by rw[Zh1 hh (by grind) (by grind)])
 refine ah ?_
 refine aa Tp ?_
 exact fo 0 (k:=by rw[Zh2 hh (by grind)])
def Qb(s:Sgd)(hs:tX s):PureCt prog 153 [.agg s.d] (.agg s.d):=by
 refine oO func153 λff=>?_
 unfold f153
 refine aa Tp ?_
 refine aa Tp ?_ (hok:=o3s)
 refine aa Tp ?_ (hok:=o3t)
 refine aa Tp ?_
 exact fp 2
def ZbG(l:List Sgd)(hl:fO l):PureCt prog 152 [.list false (l.map Sgd.d),.fn (.func 153) [] []] (.list false (l.map Sgd.d)):=by
 refine oO func152 λff=>?_
 unfold f152
 have hl1:=hl.1
 refine oC Tp ?_
 refine ae ?_
 refine yH 5 84 o5v o5v ?_
 refine aa Tp ?_
 refine aj ?_
 refine lp (α:=(Nat)×(Nat)×Nat) [1,8,9] (λ⟨k,r,nx⟩=>(k<=l.length)/\(r<nx)/\True) (λ⟨k,r,nx⟩=>l.length-k) (λ⟨k,r,nx⟩=>[(5,.mrow r 0 (l.take k).length),(10,.i k)]) (λ⟨k,r,nx⟩=>[(r,⟨84,(l.take k).map Sgd.d⟩)]) (λ⟨k,r,nx⟩=>nx) (0,2,_) (hA:=⟨iv,iv,trivial⟩) (round:=?_)
 rintro⟨k,r,nx⟩ ⟨hk,hr, -⟩
 simp only[XY,X0]
 have hfl:(l.take k).length=k:=by rw[YA];omega
 have ff:=qA hfl ff
 have ff:=qA @hr ff
 refine aa Tp ?_
 refine ae ?_
 refine cd ?_ ?_ (hp:=rfl)<;>intro c1
 .
  have hk2:k<l.length:=by simpa using c1
  have ff:=qA (dF hk2) ff;refine ah ?_;refine ae ?_;refine aj ?_;refine aa Tp ?_;refine ai Tp ?_ (hok:=by(try simp only[go_sem,ff]);all_goals (first|done|((repeat' (with_reducible apply And.intro))<;>first|(intros;exact Qb l[k]! (hl.2 k hk2))|omega|(simp;omega)|skip)))
  refine ai Tp ?_
  show ∃_,_
  have hst:(l.take (k+1)).map Sgd.d=(l.take k).map Sgd.d++[[.v (.string (bs l[k]!.set.name)),.i l[k]!.set.ty,.i l[k]!.set.life,.list false (l[k]!.set.data.map Dat.d),.list false (l[k]!.sigs.map RSig.d)]]:=by rw[rE! hk2,ZcE]
  have hsl:(l.take (k+1)).length=k+1:=by rw[YA];omega
  have ff:=qB hst hsl ff;exact ay (k+1,(nx+10),_) (h1:=⟨iv,iv,trivial⟩)
 refine aH ?_
 have e9:k=l.length:=by have h9 : ¬(k:Int)<l.length:=(by simpa using c1);omega
 subst e9
 refine aa Tp ?_
 exact fo 1 (k:=o2h)
def Hr(z:Zon)(hf:fO z.sets):PureCt prog 92 [.agg z.d] (.agg z.d):=by
 refine oO func92 λff=>?_
 unfold f92
 refine aa Tp ?_
 refine aa lq ?_ (hok:=oH (ZbG z.sets hf))
 exact fp 2
def PX(z:Zon)(hz:aJ z=true):PureCt prog 151 [.agg z.d] (.i (aM z)):=by
 refine oO func151 λff=>?_
 unfold f151
 have ff:=qA @hz ff
 refine aa Tp ?_
 refine aa Tp ?_ (hok:=oF (oq hz))
 refine aa Tp ?_
 exact fp 0
def ZbH(l:List Zon)(hl:l.length<=1000000)(hz : ∀i,i<l.length->aJ l[i]! = true):PureCt prog 150 [.list false (l.map Zon.d),.fn (.func 151) [] []] (.list false ((l.map aM).map kz)):=by
 refine oO func150 λff=>?_
 unfold f150
 refine oC Tp ?_
 refine ae ?_
 refine yH 5 3 o5v o5v ?_
 refine aa Tp ?_
 refine aj ?_
 refine lp (α:=(Nat)×(Nat)×Nat) [1,8,9] (λ⟨k,r,nx⟩=>(k<=l.length)/\(r<nx)/\True) (λ⟨k,r,nx⟩=>l.length-k) (λ⟨k,r,nx⟩=>[(5,.mrow r 0 (l.take k).length),(10,.i k)]) (λ⟨k,r,nx⟩=>[(r,⟨3,((l.take k).map aM).map kz⟩)]) (λ⟨k,r,nx⟩=>nx) (0,2,_) (hA:=⟨iv,iv,trivial⟩) (round:=?_)
 rintro⟨k,r,nx⟩ ⟨hk,hr, -⟩
 simp only[XY,X0]
 have hfl:(l.take k).length=k:=by rw[YA];omega
 have ff:=qA hfl ff
 have ff:=qA @hr ff
 refine aa Tp ?_
 refine ae ?_
 refine cd ?_ ?_ (hp:=rfl)<;>intro c1
 .
  have hk2:k<l.length:=by simpa using c1
  have ff:=qA (rY hk2) ff;refine ah ?_;refine ae ?_;refine aj ?_;refine aa Tp ?_;refine ai Tp ?_ (hok:=by(try simp only[go_sem,ff]);all_goals (first|done|((repeat' (with_reducible apply And.intro))<;>first|(intros;exact PX l[k]! (hz k hk2))|omega|(simp;omega)|skip)))
  refine ai Tp ?_
  show ∃_,_
  have hst:((l.take (k+1)).map aM).map kz=((l.take k).map aM).map kz++[[.i (aM l[k]!)]]:=by rw[rE! hk2,YT];exact Zhh
  have hsl:(l.take (k+1)).length=k+1:=by rw[YA];omega
  have ff:=qB hst hsl ff;exact ay (k+1,(nx+10),_) (h1:=⟨iv,iv,trivial⟩)
 refine aH ?_
 have e9:k=l.length:=by have h9 : ¬(k:Int)<l.length:=(by simpa using c1);omega
 subst e9
 have ff:=qA (show(List.map kz (List.map aM l)).take l.length=List.map kz (List.map aM l)from Yl (by simp)) ff
 refine aa Tp ?_
 exact fo 1 (k:=o2h)
open Go.Jn
def Xx:dY prog 201=true:=by kernel_rfl
theorem ZeG(ce:Nat)(h:H)(n:Nat):yV prog 201 [.mptr ce 0 0] h n .returning .returning (λh' n'=>(∀q,q<n->h' q=h q)/\n<=n'):=by
 refine Cg (d:=.v .nilIface) (v:=.nilIface) func201 rfl Xx (by simp[f201]) (dR rfl) rfl rfl (by decide) (.inl ⟨rfl,rfl,rfl⟩) (λ_ _=>.v _) (λhnone=>?_)
 have ff:=True.intro
 refine Ih (C:=Tp) 1 (d:=.v .nilIface) (r:=.tuple [.v .nilIface,.b false]) (λw=>XI underlying136 rfl rfl w) (λw g q hq=>by cases hq;rfl) (λw g=>?_) (by omega) (dR rfl) rfl rfl o2s trivial (by rfl) o5v ?_
 .
  exact .tuple _ _ rfl (λi d x h1 h2=>by
   match i with
   | 0=>cases h1;cases h2;exact .v _
   | 1=>cases h1;cases h2;exact .v _
   | i+2=>simp at h1)
 refine aP Tp ?_
 try simp only[aI]
 show DW _ _ _ _ _
 refine aa Tp ?_
 refine cd ?_ ?_<;>intro c1
 . simp at c1
 .
  refine ah ?_;refine⟨(by trivial),h,_,?_,Nat.le_refl _,λq hq=>rfl,by dsimp only;omega⟩
  intro r;dsimp only
  first
  | exact .inl rfl
  | exact(Decidable.em (r<n)).elim (λe=>by left;simp only[upd];repeat (first|rfl|rw[XV (by omega)])) λe=>by right;exact hnone r (by omega)
theorem Sk(ce:Nat)(h:H)(n:Nat)(c0:D)(he:h ce=some ⟨136,[[c0]]⟩)(hce:ce<n):yV prog 201 [.mptr ce 0 0] h n (.panicking uU) (.panicking [{ v:=kg iP,recovered:=true }]) (λh' n'=>h' ce=some ⟨136,[[.v (kg iP)]]⟩/\n<=n' /\ ∀q,q<n->q≠ce->h' q=h q):=by
 refine Cg (d:=.v (kg iP)) (v:=kg iP) func201 rfl Xx (by simp[f201]) (dR rfl) rfl rfl (by decide) (.inr ⟨rfl,rfl⟩) (λw g=>.v _) (λhnone=>?_)
 have hn2 : ∀k,(ce=n+k)=False:=λk=>YO (by omega)
 have nP : ∀k,(n+k=ce)=False:=λk=>YO (by omega)
 have ff:=qB he hn2 nP
 refine Ih (C:=Tp) 1 (d:=.v (kg iP)) (r:=.tuple [.v (kg iP),.b true]) (λw=>Go.run_typeAssert_hasB underlying136 (by kernel_rfl) _ _ w) (λw g q hq=>by cases hq;rfl) (λw g=>?_) (by omega) (dR rfl) rfl rfl o2s trivial (by rfl) o5v ?_
 .
  exact .tuple _ _ rfl (λi d x h1 h2=>by
   match i with
   | 0=>cases h1;cases h2;exact .v _
   | 1=>cases h1;cases h2;exact .v _
   | i+2=>simp at h1)
 refine aP Tp ?_
 try simp only[aI]
 show DW _ _ _ _ _
 refine aa Tp ?_
 refine cd ?_ ?_<;>intro c1
 .
  refine ai Tp ?_ (hok:=o4f)
  refine⟨(by trivial),_,_,λ_=>.inl rfl,Nat.le_refl _,?_,by dsimp only;omega,λq q1 q2=>?_⟩
  . dsimp only;simp only[upd];repeat (first|rfl|rw[if_neg (by omega)]|rw[if_pos rfl])
  . dsimp only;simp only[upd];repeat (first|rfl|rw[if_neg q2]|rw[if_neg (by omega)])
 . simp at c1
def Xw:dY prog 206=true:=by kernel_rfl
theorem ZeH(ce:Nat)(h:H)(n:Nat):yV prog 206 [.mptr ce 0 0] h n .returning .returning (λh' n'=>(∀q,q<n->h' q=h q)/\n<=n'):=by
 refine Cg (d:=.v .nilIface) (v:=.nilIface) func206 rfl Xw (by simp[f206]) (dR rfl) rfl rfl (by decide) (.inl ⟨rfl,rfl,rfl⟩) (λ_ _=>.v _) (λhnone=>?_)
 have ff:=True.intro
 refine Ih (C:=Tp) 1 (d:=.v .nilIface) (r:=.tuple [.v .nilIface,.b false]) (λw=>XI underlying136 rfl rfl w) (λw g q hq=>by cases hq;rfl) (λw g=>?_) (by omega) (dR rfl) rfl rfl o2s trivial (by rfl) o5v ?_
 .
  exact .tuple _ _ rfl (λi d x h1 h2=>by
   match i with
   | 0=>cases h1;cases h2;exact .v _
   | 1=>cases h1;cases h2;exact .v _
   | i+2=>simp at h1)
 refine aP Tp ?_
 try simp only[aI]
 show DW _ _ _ _ _
 refine aa Tp ?_
 refine cd ?_ ?_<;>intro c1
 . simp at c1
 .
  refine ah ?_;refine⟨(by trivial),h,_,?_,Nat.le_refl _,λq hq=>rfl,by dsimp only;omega⟩
  intro r;dsimp only
  first
  | exact .inl rfl
  | exact(Decidable.em (r<n)).elim (λe=>by left;simp only[upd];repeat (first|rfl|rw[XV (by omega)])) λe=>by right;exact hnone r (by omega)
theorem Sl(ce:Nat)(h:H)(n:Nat)(c0:D)(he:h ce=some ⟨136,[[c0]]⟩)(hce:ce<n):yV prog 206 [.mptr ce 0 0] h n (.panicking uU) (.panicking [{ v:=kg iP,recovered:=true }]) (λh' n'=>h' ce=some ⟨136,[[.v (kg iP)]]⟩/\n<=n' /\ ∀q,q<n->q≠ce->h' q=h q):=by
 refine Cg (d:=.v (kg iP)) (v:=kg iP) func206 rfl Xw (by simp[f206]) (dR rfl) rfl rfl (by decide) (.inr ⟨rfl,rfl⟩) (λw g=>.v _) (λhnone=>?_)
 have hn2 : ∀k,(ce=n+k)=False:=λk=>YO (by omega)
 have nP : ∀k,(n+k=ce)=False:=λk=>YO (by omega)
 have ff:=qB he hn2 nP
 refine Ih (C:=Tp) 1 (d:=.v (kg iP)) (r:=.tuple [.v (kg iP),.b true]) (λw=>Go.run_typeAssert_hasB underlying136 (by kernel_rfl) _ _ w) (λw g q hq=>by cases hq;rfl) (λw g=>?_) (by omega) (dR rfl) rfl rfl o2s trivial (by rfl) o5v ?_
 .
  exact .tuple _ _ rfl (λi d x h1 h2=>by
   match i with
   | 0=>cases h1;cases h2;exact .v _
   | 1=>cases h1;cases h2;exact .v _
   | i+2=>simp at h1)
 refine aP Tp ?_
 try simp only[aI]
 show DW _ _ _ _ _
 refine aa Tp ?_
 refine cd ?_ ?_<;>intro c1
 .
  refine ai Tp ?_ (hok:=o4f)
  refine⟨(by trivial),_,_,λ_=>.inl rfl,Nat.le_refl _,?_,by dsimp only;omega,λq q1 q2=>?_⟩
  . dsimp only;simp only[upd];repeat (first|rfl|rw[if_neg (by omega)]|rw[if_pos rfl])
  . dsimp only;simp only[upd];repeat (first|rfl|rw[if_neg q2]|rw[if_neg (by omega)])
 . simp at c1
def bo131:dY prog 131=true:=by kernel_rfl
def ZgO(w:Str)(h:H)(n:Nat)(hw:w.length<=1000000000):bU prog 131 [.list false (w.map bD),.fn (.func 132) [] []] h n (λd h' n'=>d.nr=true/\wk d = .tuple [.agg (wO w).d,.v (DT (il (jZ (w,false)).2))]):=by
 have ff:=True.intro
 refine Iy (C:=Tp) 1 func131 rfl bo131 (by simp[f131]) o3b ev o4l (dR rfl) rfl rfl o2x o4u o4l o3n ev (λhnone=>?_)
 unfold f131
 refine aP Tp ?_
 try simp only[aI]
 have ff:=qA (nH n (n+1)) ff
 refine aa Tp ?_
 refine cB ?_
 refine jc 2 (C:=Tp) (hct:=by exact ZgJ w _ _ (n+6) ⟨false,ev⟩ hw) (hp:=?_) (hk:=?_)
 .
  rintro c9 h9 n9 ⟨rfl,hbad,aQ⟩
  try dsimp only at aQ
  have vN:=aQ.1;have hz9:h9 n=some ⟨24,[[.v (.string (bs [])),.list true []]]⟩:=(aQ.2 n om om).trans ev;have he9:h9 (n+1)=some ⟨136,[[.v .nilIface]]⟩:=(aQ.2 (n+1) om om).trans ev
  try simp only[iy,iH]
  refine⟨_,_,_,rfl,rfl,Sk (n+1) h9 _ _ he9 oW,λh1 m1⟨w1,w2,w3⟩=>?_⟩
  try dsimp only at w1 w2 w3
  have hz1:=(w3 n (by omega) (by omega)).trans hz9
  have ff:=qB hz1 w1 ff;exact⟨by simp only[go_sem,ff],h1,m1,λ_=>.inl rfl,XX _,by(try simp only[go_sem,ff]);all_goals (refine⟨by simp[go_sem,D.nr,bC,bq],?_⟩;(try simp only[go_sem]);rw[wO,X3 hbad,show il (jZ (w,false)).2=true from by simp[il,hbad]];rfl)⟩
 rintro res h2 n2 ⟨x2,hp2,rfl,hb2,aU⟩
 try dsimp only at aU
 have hl2:=aU.1
 obtain⟨f2,hR2⟩:=hb2
 have hz2:h2 n=some ⟨24,[[.v (.string (bs [])),.list true []]]⟩:=(aU.2 n om om).trans ev
 have he2:h2 (n+1)=some ⟨136,[[.v .nilIface]]⟩:=(aU.2 (n+1) om om).trans ev
 have hbn:(jZ (w,false)).2.2=false:=by rw[hp2]
 have ff:=qH hR2 hz2 he2 (nH n (n+6)) (nG n n2) (nG (n+1) n2) (nG (n+6) n2) ff
 refine aP Tp ?_
 try simp only[aI]
 refine oK Tp ?_ ?_<;>intro c1
 .
  refine sV ?_;refine DD Tp 1 (d:=.v (kg iP)) (t:=339) (v:=.pointer (some iP)) ?_ (λw g u hu=>hu.v_inv)
  try simp only[iy,iH]
  refine⟨_,_,_,rfl,rfl,Sk (n+1) _ _ (.v .nilIface) ev oW,λh1 m1⟨w1,w2,w3⟩=>?_⟩
  try dsimp only at w1 w2 w3
  have hz1:=(w3 n oW (by omega))
  simp only[go_sem,ff]at hz1;have ff:=qB hz1 w1 ff;exact⟨by simp only[go_sem,ff],h1,m1,λ_=>.inl rfl,XX _,by(try simp only[go_sem,ff]);all_goals (refine⟨by simp[go_sem,D.nr,bC,bq],?_⟩;(try simp only[go_sem]);rw[wO,XV (by rw[hbn];simp),show il (jZ (w,false)).2=true from by rw[hp2];simp[il];omega];rfl)⟩
 have hx0:x2=[]:=Ya om
 refine aa Tp ?_
 refine aL ?_
 refine⟨_,_,_,rfl,rfl,ZeG (n+1) _ _,λh1 m1⟨w1,w2⟩=>?_⟩
 try dsimp only at w1 w2 w3
 have hz1:=w1 n oW
 have he1:=w1 (n+1) oW
 simp only[go_sem,ff]at hz1 he1
 have ff:=qB hz1 he1 ff
 exact⟨by simp only[go_sem,ff],h1,m1,λ_=>.inl rfl,XX _,by(try simp only[go_sem,ff]);all_goals (refine⟨by simp[go_sem,D.nr,bC,bq],?_⟩;(try simp only[go_sem]);rw[wO,XV (by rw[hbn];simp),show il (jZ (w,false)).2=false from by rw[hp2,hx0];rfl];rfl)⟩
def bo134:dY prog 134=true:=by kernel_rfl
def ZgQ(w:Str)(h:H)(n:Nat)(hw:w.length<=1000000000):bU prog 134 [.list false (w.map bD),.fn (.func 135) [] []] h n (λd h' n'=>d.nr=true/\wk d = .tuple [.agg (rP w).d,.v (DT (il (fP (w,false)).2))]):=by
 have ff:=True.intro
 refine Iy (C:=Tp) 1 func134 rfl bo134 (by simp[f134]) o3b ev o4l (dR rfl) rfl rfl o2x o4u o4l o3n ev (λhnone=>?_)
 unfold f134
 refine aP Tp ?_
 try simp only[aI]
 have ff:=qA (nH n (n+1)) ff
 refine aa Tp ?_
 refine cB ?_
 refine jc 2 (C:=Tp) (hct:=by exact Zg0 w _ _ (n+6) ⟨false,ev⟩ hw) (hp:=?_) (hk:=?_)
 .
  rintro c9 h9 n9 ⟨rfl,hbad,aQ⟩
  try dsimp only at aQ
  have vN:=aQ.1;have hz9:h9 n=some ⟨40,[[.v (.string (bs [])),.i 0,.i 0,.list true [],.list true []]]⟩:=(aQ.2 n om om).trans ev;have he9:h9 (n+1)=some ⟨136,[[.v .nilIface]]⟩:=(aQ.2 (n+1) om om).trans ev
  try simp only[iy,iH]
  refine⟨_,_,_,rfl,rfl,Sl (n+1) h9 _ _ he9 oW,λh1 m1⟨w1,w2,w3⟩=>?_⟩
  try dsimp only at w1 w2 w3
  have hz1:=(w3 n (by omega) (by omega)).trans hz9
  have ff:=qB hz1 w1 ff;exact⟨by simp only[go_sem,ff],h1,m1,λ_=>.inl rfl,XX _,by(try simp only[go_sem,ff]);all_goals (refine⟨by simp[go_sem,D.nr,bC,bq],?_⟩;(try simp only[go_sem]);rw[rP,X3 hbad,show il (fP (w,false)).2=true from by simp[il,hbad]];rfl)⟩
 rintro res h2 n2 ⟨x2,hp2,rfl,hb2,aU⟩
 try dsimp only at aU
 have hl2:=aU.1
 obtain⟨f2,hR2⟩:=hb2
 have hz2:h2 n=some ⟨40,[[.v (.string (bs [])),.i 0,.i 0,.list true [],.list true []]]⟩:=(aU.2 n om om).trans ev
 have he2:h2 (n+1)=some ⟨136,[[.v .nilIface]]⟩:=(aU.2 (n+1) om om).trans ev
 have hbn:(fP (w,false)).2.2=false:=by rw[hp2]
 have ff:=qH hR2 hz2 he2 (nH n (n+6)) (nG n n2) (nG (n+1) n2) (nG (n+6) n2) ff
 refine aP Tp ?_
 try simp only[aI]
 refine oK Tp ?_ ?_<;>intro c1
 .
  refine sV ?_;refine DD Tp 1 (d:=.v (kg iP)) (t:=339) (v:=.pointer (some iP)) ?_ (λw g u hu=>hu.v_inv)
  try simp only[iy,iH]
  refine⟨_,_,_,rfl,rfl,Sl (n+1) _ _ (.v .nilIface) ev oW,λh1 m1⟨w1,w2,w3⟩=>?_⟩
  try dsimp only at w1 w2 w3
  have hz1:=(w3 n oW (by omega))
  simp only[go_sem,ff]at hz1;have ff:=qB hz1 w1 ff;exact⟨by simp only[go_sem,ff],h1,m1,λ_=>.inl rfl,XX _,by(try simp only[go_sem,ff]);all_goals (refine⟨by simp[go_sem,D.nr,bC,bq],?_⟩;(try simp only[go_sem]);rw[rP,XV (by rw[hbn];simp),show il (fP (w,false)).2=true from by rw[hp2];simp[il];omega];rfl)⟩
 have hx0:x2=[]:=Ya om
 refine aa Tp ?_
 refine aL ?_
 refine⟨_,_,_,rfl,rfl,ZeH (n+1) _ _,λh1 m1⟨w1,w2⟩=>?_⟩
 try dsimp only at w1 w2 w3
 have hz1:=w1 n oW
 have he1:=w1 (n+1) oW
 simp only[go_sem,ff]at hz1 he1
 have ff:=qB hz1 he1 ff
 exact⟨by simp only[go_sem,ff],h1,m1,λ_=>.inl rfl,XX _,by(try simp only[go_sem,ff]);all_goals (refine⟨by simp[go_sem,D.nr,bC,bq],?_⟩;(try simp only[go_sem]);rw[rP,XV (by rw[hbn];simp),show il (fP (w,false)).2=false from by rw[hp2,hx0];rfl];rfl)⟩
def ZgP(w:Str)(hw:w.length<=1000000000):PureCt prog 131 [.list false (w.map bD),.fn (.func 132) [] []] (.tuple [.agg (wO w).d,.v (DT (il (jZ (w,false)).2))]) :=
 Sb o5r ((ZgO w _ 0 hw).mono λd h' n'⟨e1,e2⟩=>⟨0,e1,e2⟩)
def ZgR(w:Str)(hw:w.length<=1000000000):PureCt prog 134 [.list false (w.map bD),.fn (.func 135) [] []] (.tuple [.agg (rP w).d,.v (DT (il (fP (w,false)).2))]) :=
 Sb o5r ((ZgQ w _ 0 hw).mono λd h' n'⟨e1,e2⟩=>⟨0,e1,e2⟩)
theorem CG{k:Nat}{x:Str}(h:k<=x.length):au k (x,false)=(fV (x.take k),(x.drop k,false)):=by
 unfold au
 rw[take_ok rfl h]
def JH{k:Nat}{b:Str}(h : ∀m,21+m<=b.length -> ¬zQ k m b):bK k b=(0,[]):=by
 rcases DJ k b with e|⟨m,h1,h2,_⟩
 . exact e
 exact absurd h2 (h m h1)
attribute [local irreducible] iG fV
def ED:Code->Code
 | .seq _ b=>b
 | c=>c
def ND:Code->Code
 | .seq a _=>a
 | c=>c
def SI:Code->Array Oper
 | .region _ ops _=>ops
 | _=>#[]
noncomputable def AJ:Array Oper:=SI (ND (ND (ED (ED (ED (ED (f130.body.getD .skip)))))))
def PP(w:Str)(t:Nat->D)(h:H)(a u n2 nx:Nat)(fl:Bool)(e:Env)(h21:21<=w.length)(hw:w.length<=1000000000)
  (h1:t 1 = .list false (w.map bD))(h7:t 7 = .i u)(h27:t 27 = .v (.int .u64 a))(F4:t 28 = .list false (w.map bD))(yB:t 29 = .list fl ((w.take 5).map bD)) :
  ∃(t':Nat->D)(p:Prop),aZ prog (words prog) Tp AJ.toList n2 4 ((AJ.toList.drop 4).take (11-4)) { n:=50,t:=t,h:=h,nx:=nx,ok:=True,e:=e }={ n:=50,t:=t',h:=h,nx:=nx,ok:=p,e:=e }/\p /\
   t' 32 = .b (((a:Nat):Int) != ((iG (w.take 5):Nat):Int))/\t' 33 = .cond (!(((a:Nat):Int) != ((iG (w.take 5):Nat):Int))) (.i u)/\t' 36 = .cond (!(((a:Nat):Int) != ((iG (w.take 5):Nat):Int))) (.i ((w.length:Int)-21)) /\ ∀i,i<28->t' i=t i:=by
 have ff:=qE h1 h7 h27 F4 yB
 unfold AJ f130
 simp only[YR,ED,ND,SI]
 refine⟨_,_,by simp only[X9,X6,X5,Ye,Yq,Nat.reduceSub,Nat.reduceAdd,go_sem,ff];exact rfl,?_,?_,?_,?_,λi hi=>?_⟩
 .
  (try simp only[go_sem,ff])
  exact⟨Jm _ (by rw[YA];omega),λ_=>by omega⟩
 . simp only[go_sem,ff]
 . simp only[go_sem,ff]
 . simp only[go_sem,ff]
 simp only[upd]
 repeat rw[XV (by omega)]
def Zba(w:Str)(t:Nat->D)(h:H)(a u n2 nx:Nat)(fl:Bool)(e:Env)(h21:21<=w.length)(hw:w.length<=1000000000)
  (h1:t 1 = .list false (w.map bD))(h7:t 7 = .i u)(h27:t 27 = .v (.int .u64 a))(F4:t 28 = .list false (w.map bD))(yB:t 29 = .list fl ((w.take 5).map bD)) :
  (aZ prog (words prog) Tp AJ.toList n2 4 ((AJ.toList.drop 4).take (11-4)) { n:=50,t:=t,h:=h,nx:=nx,ok:=True,e:=e }).ok:=by
 obtain⟨t',p,he,hp,_⟩:=PP w t h a u n2 nx fl e h21 hw h1 h7 h27 F4 yB
 rw[he]
 exact hp
def Za9{ro:Option Nat}{ops:Array Oper}{k b:Nat}{Q:Exit->S->Prop}(w:Str)(t:Nat->D)(h:H)(a u n2 nx:Nat)(fl:Bool)(e:Env)(h21:21<=w.length)(hw:w.length<=1000000000)
  (h1:t 1 = .list false (w.map bD))(h7:t 7 = .i u)(h27:t 27 = .v (.int .u64 a))(F4:t 28 = .list false (w.map bD))(yB:t 29 = .list fl ((w.take 5).map bD))
  (hk : ∀t':Nat->D,t' 32 = .b (((a:Nat):Int) != ((iG (w.take 5):Nat):Int))->t' 33 = .cond (!(((a:Nat):Int) != ((iG (w.take 5):Nat):Int))) (.i u)->t' 36 = .cond (!(((a:Nat):Int) != ((iG (w.take 5):Nat):Int))) (.i ((w.length:Int)-21))->(∀i,i<28->t' i=t i) ->
   av prog ro ops k b { n:=50,t:=t',h:=h,nx:=nx,ok:=True,e:=e } Q) :
  av prog ro ops k b (aZ prog (words prog) Tp AJ.toList n2 4 ((AJ.toList.drop 4).take (11-4)) { n:=50,t:=t,h:=h,nx:=nx,ok:=True,e:=e }) Q:=by
 obtain⟨t',p,he,hp,h2,h3,h4,h5⟩:=PP w t h a u n2 nx fl e h21 hw h1 h7 h27 F4 yB
 rw[he]
 exact Q4 (hk t' h2 h3 h4 h5)
def UD(k:UInt8)(w:Str)(hw:w.length<=1000000000):PureCt prog 130 [.v (.int .u8 ((k).toNat:Int)),.list false (w.map bD)] (.tuple [.list false ((bK k.toNat w).2.map bD),.i (bK k.toNat w).1]):=by
 refine oO func130 λff=>?_
 unfold f130
 have hkt:=k.toNat_lt
 refine aa Tp ?_
 refine ae ?_
 by_cases h21:21<=w.length
 .
  have h0:0<w.length:=by omega
  have hdm:(w.map bD).drop 1=(w.drop 1).map bD:=List.map_drop.symm;have htm:(w.map bD).take 5=(w.take 5).map bD:=ZF.symm;have hE1:((1:Int)).toNat=1:=rfl;have FY:((5:Int)).toNat=5:=rfl;have hx1:(w.drop 1).length<=1000000000:=by rw[Yw];omega
  have ff:=qF (F6 (n:=0) h0) @hdm @htm @hE1 @FY ff;refine aa Tp ?_;refine cd ?_ ?_<;>intro c1
  .
   have BS:bK k.toNat w=(0,[]):=JH λm hm hf=>by have:=hf.1;omega
   refine aa Tp ?_;exact fo 1 (k:=by rw[BS];rfl)
  have hkk:(w.getD 0 0).toNat=k.toNat:=by omega
  refine ah ?_;refine aa Tp ?_;refine cB ?_;refine jc 1 (C:=Tp) (hct:=by exact Jk (w.drop 1) _ _ 15 ⟨_,ev⟩ hx1) (hp:=?_) (hk:=?_)
  .
   rintro c9 h9 n9 ⟨rfl,hbad,aQ⟩
   exfalso
   have hbad:(au ((4:Nat):Int) (w.drop 1,false)).2.2=true:=hbad;rw[CG (by rw[Yw];omega)]at hbad
   cases hbad
  rintro res h4 n4 ⟨x4,uG,rfl,hb4,iN⟩
  try dsimp only at iN
  have hl4:=iN.1;obtain⟨f4,uJ⟩:=hb4;have hu4:au 4 (w.drop 1,false)=(fV ((w.drop 1).take 4),((w.drop 1).drop 4,false)):=CG (k:=4) (by rw[Yw];omega)
  rw[hu4]at uG;obtain rfl:(w.drop 1).drop 4=x4:=congrArg Prod.fst uG;rw[ZJ]at uJ;have Dt:fV ((w.drop 1).take 4)<256^4:=by have:=Ba 4 (w.drop 1,false);rw[show au ((4:Nat):Int) (w.drop 1,false)=_ from hu4]at this;exact this
  rw[hu4];obtain⟨u,hue⟩:∃u,u=fV ((w.drop 1).take 4):=⟨_,rfl⟩
  try rw[<-hue]
  rw[<-hue]at Dt;have e1:=M7 (u:=u) (by omega)
  have ff:=qD uJ e1 (nG 15 n4) ff;have hx5:(w.drop (1+4)).length<=1000000000:=by rw[Yw];omega
  refine aP Tp ?_
  try simp only[aI]
  refine ae ?_;refine ae ?_;refine dr1M Tp 1 4 11 [(3,28)] (R:=_) (X:=_) (hct:=by exact yl (w.drop (1+4)) _ _ 15 ⟨_,ev⟩ hx5) (hkeep:=?kp26) (zY:=?fo26) (hk:=?kk26) (hp:=?pp26)
  case kp26 =>
   intro res h2 n2 _ p hp r9 hrr;simp only[Yo]at hp;subst hp;simp only[go_sem,ff,sd,named]at hrr;first|cases hrr|skip
  case fo26 =>
   rintro res h2 n2 ⟨_,_,rfl,_,_⟩;exact Zba w _ h2 _ u n2 _ _ _ h21 hw rfl rfl rfl rfl rfl
  case pp26 =>
   rintro c9 h9 n9 ⟨rfl,hbad,aQ⟩ t9
   exfalso
   have hbad:(au ((8:Nat):Int) (w.drop (1+4),false)).2.2=true:=hbad;rw[CG (by rw[Yw];omega)]at hbad
   cases hbad
  rintro res h5 n5 ⟨x5,pg,rfl,hb5,fT⟩
  try dsimp only at fT
  have hl5:=fT.1;obtain⟨f5,vQ⟩:=hb5;have hu8:au 8 (w.drop (1+4),false)=(fV ((w.drop (1+4)).take 8),((w.drop (1+4)).drop 8,false)):=CG (k:=8) (by rw[Yw];omega)
  rw[hu8]at pg;obtain rfl:(w.drop (1+4)).drop 8=x5:=congrArg Prod.fst pg;rw[ZJ]at vQ;rw[hu8];refine Za9 w _ h5 _ u n5 _ _ _ h21 hw rfl rfl rfl rfl rfl ?_;intro t9 h32 h33 h36 hlow;have l1:=(hlow 1 (by omega)).trans rfl
  have l6:t9 6 = .mptr 15 0 0:=(hlow 6 om).trans rfl;have l7:t9 7 = .i u:=(hlow 7 om).trans rfl;have l1:t9 1 = .list false (w.map bD):=(hlow 1 om).trans rfl;have ff:=qI vQ h32 h33 h36 l1 l6 l7 (nG 15 n5) ff;refine aP Tp ?_
  try simp only[aI]
  refine cd ?_ ?_ (hp:=rfl) (hq:=rfl)<;>intro c2
  .
   have BS:bK k.toNat w=(0,[]):=JH λm hm hf=>by have h1:=hf.2.1;have h2:=hf.2.2.1;simp at c2;omega
   refine aa Tp ?_;exact fo 1 (k:=by rw[BS];rfl)
  have c2b:fV ((w.drop 5).take 8)=iG (w.take 5)/\u+21<=w.length:=by simp at c2;omega
  refine ah ?_;refine cB ?_;refine jc 2 (C:=Tp) (hct:=by exact Ji (w.drop (1+4+8)) u _ _ 15 ⟨_,ev⟩ (by rw[Yw];omega) (by omega)) (hp:=?_) (hk:=?_)
  .
   rintro c9 h9 n9 ⟨rfl,hbad,aQ⟩
   exfalso
   rw[take_ok rfl (by show u<=(w.drop (1+4+8)).length;rw[Yw];omega)]at hbad
   cases hbad
  rintro res h7 n7 ⟨x7,FH,⟨f7,rfl⟩,vO,jN⟩
  try dsimp only at jN
  have hl7:=jN.1;obtain⟨g7,uI⟩:=vO;have hu7:bT u (w.drop (1+4+8),false)=((w.drop (1+4+8)).take u,((w.drop (1+4+8)).drop u,false)):=take_ok rfl (by show u<=(w.drop (1+4+8)).length;rw[Yw];omega)
  rw[hu7]at FH;obtain rfl:(w.drop (1+4+8)).drop u=x7:=congrArg Prod.fst FH;rw[ZJ]at uI;rw[hu7];have ff:=qB uI (nG 15 n7) ff;refine aP Tp ?_
  try simp only[aI]
  refine ae ?_;refine cB ?_;refine jc 1 (C:=Tp) (hct:=by exact yl (w.drop (1+4+8+u)) _ _ 15 ⟨_,ev⟩ (by rw[Yw];omega)) (hp:=?_) (hk:=?_)
  .
   rintro c9 h9 n9 ⟨rfl,hbad,aQ⟩
   exfalso
   have hbad:(au ((8:Nat):Int) (w.drop (1+4+8+u),false)).2.2=true:=hbad;rw[CG (by rw[Yw];omega)]at hbad
   cases hbad
  rintro res h8 n8 ⟨x8,l8,rfl,w9,iw⟩;have hu9:au 8 (w.drop (1+4+8+u),false)=(fV ((w.drop (1+4+8+u)).take 8),((w.drop (1+4+8+u)).drop 8,false)):=CG (k:=8) (by rw[Yw];omega)
  rw[hu9];refine aP Tp ?_ (hok:=by(try simp only[go_sem,ff]);all_goals (exact Jm _ (by rw[YA,Yw];omega)))
  try simp only[aI]
  refine cd ?_ ?_<;>intro c3
  .
   have BS:bK k.toNat w=(0,[]):=JH λm hm hf=>by have h1:=hf.2.1;have h2:=hf.2.2.2;rw[show m=u by omega]at h2;omega
   refine aa Tp ?_;exact fo 1 (k:=by rw[BS];rfl)
  have hF:bK k.toNat w=(21+u,(w.drop 13).take u):=JI.2 ⟨om,⟨hkk,om,c2b.1,om⟩,rfl⟩;refine ah ?_;refine aa Tp ?_;exact fo 1 (k:=by rw[hF];rfl)
 refine aa Tp ?_
 refine cd ?_ ?_ (hp:=rfl) (hq:=rfl)<;>intro c1
 .
  have BS:bK k.toNat w=(0,[]):=JH λm hm _=>by omega
  refine aa Tp ?_;exact fo 1 (k:=by rw[BS];rfl)
 exfalso;simp at c1;omega
def ZgM(w:Str)(hw:w.length<=1000000000):PureCt prog 130 [.v (.int .u8 1),.list false (w.map bD)] (.tuple [.list false ((bK 1 w).2.map bD),.i (bK 1 w).1]):=UD 1 w hw
def ZgL(w:Str)(hw:w.length<=1000000000):PureCt prog 130 [.v (.int .u8 2),.list false (w.map bD)] (.tuple [.list false ((bK 2 w).2.map bD),.i (bK 2 w).1]):=UD 2 w hw
def ZgV(c:cZ)(w:Str)(hw:w.length<=1000000):PureCt prog 80 [.agg c.d,.list false (w.map bD)] (.tuple [.agg (gu c w).1.d,.i (gu c w).2]):=by
 refine oO func80 λff=>?_
 unfold f80
 have hv1:=Vm 1 w
 have hv2:=Vm 2 w
 have ff:=qE (show(UInt8.ofNat 1).toNat=1 from rfl) (show(UInt8.ofNat 2).toNat=2 from rfl) (show dH.apex=[]from rfl) (show dH.sets=[]from rfl) ff
 rcases c with _|z0
 .
  refine aa Tp ?_;refine ae ?_;refine aa Tp ?_;refine cd ?_ ?_ (hq:=rfl)<;>intro c1
  .
   refine aa Tp ?_ (hok:=oF (ZgM w om));refine ae (bJ Tp 1 (hct:=by exact(ZgP (bK 1 w).2 om).rct _ _) (hk:=?_))
   rintro res h2 n2 ⟨rfl,rfl,hn2⟩;refine bI Tp ?_;refine oK Tp ?_ ?_ (hok:=oI UK xE)<;>intro c2
   .
    have hno:=ZfA (w:=w) (by grind)
    refine aa Tp ?_;exact fo 2 (k:=o5l)
   have Fx:=Zfz (w:=w) (by grind) (by grind) (by grind)
   refine aa Tp ?_;exact fo 2 (k:=by rw[Fx];first|rfl|(simp;done))
  simp at c1
 refine aa Tp ?_
 refine oK Tp ?_ ?_ (hp:=rfl)<;>intro c1
 . simp at c1
 refine aa Tp ?_ (hok:=oF (ZgL w om))
 refine oK Tp ?_ ?_<;>intro c3
 .
  have hno:=ZfE (z:=z0) (w:=w) (by grind)
  refine aa Tp ?_;exact fo 2 (k:=o5l)
 refine ae (bJ Tp 1 (hct:=by exact(ZgR (bK 2 w).2 om).rct _ _) (hk:=?_))
 rintro res h2 n2 ⟨rfl,rfl,hn2⟩
 refine bI Tp ?_
 refine oK Tp ?_ ?_ (hok:=oF (UK _))<;>intro c4
 . have hno:=ZfC (z:=z0) (w:=w) c4;refine aa Tp ?_;exact fo 2 (k:=o5l)
 have hpf:=ZeA (w:=(bK 2 w).2) (by omega) c4
 refine aa Tp ?_ (hok:=oF (Oo z0 (rP (bK 2 w).2) hpf))
 refine oK Tp ?_ ?_<;>intro c5
 . have hno:=ZfD (z:=z0) c4 c5;refine aa Tp ?_;exact fo 2 (k:=o5l)
 have Fx:=ZfB (z:=z0) (by omega) c4 c5
 refine aa Tp ?_
 exact fo 2 (k:=by rw[Fx];first|rfl|(simp;done))
def Jl{c c':cZ}{w:Str}{n:Nat}(hw:w.length<=1000000)(h:gu c w=(c',n)):PureCt prog 80 [.agg c.d,.list false (w.map bD)] (.tuple [.agg c'.d,.i n]):=by
 have:=ZgV c w hw
 rwa [h]at this
def ZgK(w:Str)(hw:w.length<=1000000):PureCt prog 79 [.list false (w.map bD)] (.tuple [.agg (fe w).d,.i (gD (iO w))]):=by
 refine oO func79 λff=>?_
 unfold f79
 have z1:(none:cZ).isSome=false:=rfl
 have z2:((none:cZ).getD dH).apex=[]:=rfl
 have z3:((none:cZ).getD dH).sets=[]:=rfl
 have ff:=qF @z1 @z2 @z3 (show dH.apex=[]from rfl) (show dH.sets=[]from rfl) ff
 refine oD Tp ?_
 refine aj ?_
 refine lp (α:=(Nat)×(cZ)×(Bool)×Nat) [0,2,4] (λ⟨a,c,f,nx⟩=>(G5 w a c)/\(2<nx)/\True) (λ⟨a,c,f,nx⟩=>w.length-a) (λ⟨a,c,f,nx⟩=>[(5,.i a)]) (λ⟨a,c,f,nx⟩=>[(0,⟨95,[[.v (.bool false),.v (.string (bs [])),.list true []]]⟩),(2,⟨95,[[.v (.bool (c).isSome),.v (.string (bs ((c).getD dH).apex)),.list f (((c).getD dH).sets.map Sgd.d)]]⟩)]) (λ⟨a,c,f,nx⟩=>nx) (0,none,true,_) (hA:=⟨(Wi w),oW,trivial⟩) (round:=?_)
 rintro⟨a,c,f,nx⟩ ⟨hd,hx, -⟩
 simp only[XY,X0]
 have ha:=hd.1
 have n0:0<nx:=by omega
 have hdm:(w.map bD).drop a=(w.drop a).map bD:=List.map_drop.symm
 have ff:=qD @hdm @hx @n0 ff
 refine aj ?_
 rcases Tq c (w.drop a)with⟨h8,h9⟩|⟨y,n,h8,h9,h10,h11⟩
 .
  have ff:=qA @h9 ff;refine aa lq ?_ (hok:=oH (Jl (by rw[Yw];omega) h9))
  refine ae ?_;refine aa Tp ?_;refine cd ?_ ?_ (hp:=rfl) (hq:=rfl)<;>intro c1
  . refine aa Tp ?_;exact fo 2 (k:=by obtain⟨q1,q2⟩:=ZiZ hd h8;rw[q1,q2])
  simp at c1
 have h12:a+n<=w.length:=by rw[Yw]at h11;omega
 have ff:=qA @h9 ff
 refine aa lq ?_ (hok:=oH (Jl (by rw[Yw];omega) h9))
 refine oK Tp ?_ ?_ (hp:=rfl) (hq:=rfl)<;>intro c1
 . exfalso;simp at c1;omega
 refine ai Tp ?_
 show ∃_,_
 have e9:((a+n:Nat):Int)=(a:Int)+(n:Int):=by omega
 have ff:=qA e9 ff
 exact ay (a+n,some y,false,_) (h1:=⟨(Wh hd h8),oW,trivial⟩) (h2:=by show(_:Nat)<_;(try dsimp only);omega)
def UG(d:bV)(hd:kw d):PureCt prog 36 [.agg d.d] (.tuple [.agg (vB d).d,.b (eP d).isSome]):=by
 refine oO func36 λff=>?_
 unfold f36
 refine aa Tp ?_
 refine oK Tp ?_ ?_<;>intro c1
 .
  have hno:=Ze3 (d:=d) (by omega)
  refine aa Tp ?_;exact fo 2 (k:=o5c)
 have hs1:d.safe.length<=1000000:=by omega
 have hp1:d.pend.length<=200:=by omega
 have hsm:gD (iO d.safe)<=d.safe.length:=NG _ none d.safe (XX _)
 have htm:(d.safe.map bD).take (gD (iO d.safe))=(di d.safe).map bD:=ZF.symm
 have hpl:=A9 d.safe
 have ff:=qA @htm ff
 refine aa Tp ?_ (hok:=oF (ZgK d.safe hs1))
 refine aa Tp ?_
 refine ae ?_
 refine aa Tp ?_
 refine aj ?_
 refine lp (α:=(Nat)×(cZ)×(Int)×Nat) [2,6,37,38] (λ⟨k,c,s,nx⟩=>(k<=d.pend.length)/\(A8 (fe d.safe) d.pend k=some c)/\(s=(((di d.safe).length:Nat):Int)+(((aR (d.pend.take k)).length:Nat):Int))/\(30<nx)/\True) (λ⟨k,c,s,nx⟩=>d.pend.length-k) (λ⟨k,c,s,nx⟩=>[(39,.i k)]) (λ⟨k,c,s,nx⟩=>[(0,⟨34,[d.d]⟩),(1,⟨97,[[.list true [],.i 0,.v (.bool false),.v (.string (bs [])),.list true [],.v (.bool false),.v (.string (bs [])),.list true []]]⟩),(30,⟨97,[[.list false ((di d.safe).map bD),.i s,.v (.bool (fe d.safe).isSome),.v (.string (bs ((fe d.safe).getD dH).apex)),.list false (((fe d.safe).getD dH).sets.map Sgd.d),.v (.bool (c).isSome),.v (.string (bs ((c).getD dH).apex)),.list false (((c).getD dH).sets.map Sgd.d)]]⟩)]) (λ⟨k,c,s,nx⟩=>nx) (0,fe d.safe,(gD (iO d.safe):Int),_) (hA:=⟨iv,rfl,(by first|(rw[A9];simp[aR])|(dsimp only;rw[A9];simp[aR])),iv,trivial⟩) (round:=?_)
 rintro⟨k,c,s,nx⟩ ⟨hk,hK,hs,hx, -⟩
 simp only[XY,X0]
 have n0:0<nx:=by omega
 have n1:1<nx:=by omega
 have ff:=qD @hx @n0 @n1 ff
 refine aa Tp ?_
 refine ae ?_
 refine cd ?_ ?_ (hp:=rfl)<;>intro c2
 .
  have hk2:k<d.pend.length:=by simpa using c2
  have hpk:=hd.at hk2;have hcs:=Kv hk2;have hc1:=GL hd (k+1) hp1;have ff:=qA (z8 hk2) ff;refine ah ?_;refine ae ?_;refine aj ?_;refine aa Tp ?_
  rcases Tq c (d.pend[k]!)with⟨h8,h9⟩|⟨y,n,h8,h9,h10,h11⟩
  .
   have ff:=qA @h9 ff;refine aa Tp ?_ (hok:=oF (Jl hpk h9));refine ae ?_;refine aa Tp ?_;refine cd ?_ ?_ (hp:=rfl) (hq:=rfl)<;>intro c3
   .
    have hst:=Mc hK hk2;rw[h9,XV (by simp)]at hst
    have hno:=SK (Sn hst);refine aa Tp ?_;exact fo 2 (k:=o5c)
   simp at c3
  have ff:=qA @h9 ff;refine aa Tp ?_ (hok:=oF (Jl hpk h9));refine oK Tp ?_ ?_<;>intro c3
  .
   have hst:=Mc hK hk2;rw[h9,if_neg o6b]at hst
   have hno:=SK (Sn hst);refine aa Tp ?_;exact fo 2 (k:=o5c)
  have hn2:n=d.pend[k]!.length:=by omega
  have hst:=Mc hK hk2;rw[h9,if_pos o6b]at hst
  refine aa Tp ?_;refine ai Tp ?_;refine ai Tp ?_
  show ∃_,_
  exact ay (k+1,some y,s+n,_) (h1:=⟨iv,hst,(by first|(rw[hs,hcs];omega)|(dsimp only;rw[hs,hcs];omega)),iv,trivial⟩)
 have e8:k=d.pend.length:=by omega
 subst e8
 have Fx:=Ze2 hs1 hp1 (ZeN▸hK)
 refine aH ?_
 refine aa Tp ?_
 exact fo 2 (k:=by rw[vB,Fx,hs,Yn];first|rfl|(simp;done))
def QG{g:RSig}(h:KI g):(iL g).length<=300:=by
 have:=h.zone
 simp[iL,bP,jb]
 omega
def QR{s:Sgd}(h:yU s):(fw s).length<=80000:=by
 have h1:=EG h.set
 have h2:=xh (f:=iL) (n:=300) (l:=s.sigs) λg hg=>QG (h.sig g hg)
 have h3:=h.len
 simp[fw,fH]at h2 ⊢
 omega
def drop4{a b c d:Int}{j:Nat}(h:j<4):([a,b,c,d].drop j).flatMap cO=cO ([a,b,c,d][j]!)++([a,b,c,d].drop (j+1)).flatMap cO:=Gp (by simpa using h) cO
def Pg(T:TypeId)(l:Str)(s:Sgd)(h:H)(n W:Nat)(hB:bE T h W n l 0)(hs:yU s)(hl:l.length<=700000000000):bU prog 73 [.mptr W 0 0,.agg s.d] h n (λd h' n'=>bM h h' W n n'/\bE T h' W n' (l++fw s) 0):=by
 refine oP func73 λhnone ff=>?_
 unfold f73
 have BQ:=hB.1
 have hb1:xB s.set=(ig s.set,0):=by unfold xB;rw[(iM s.set).2 hs.set];rfl
 have hsl:=EG hs.set
 have hsg:=hs.len
 have e1:=y7 (n:=(ig s.set).length) (by omega)
 have e2:=y7 (n:=s.sigs.length) (by omega)
 have ff:=qE @hb1 @e1 @e2 (nG W n) ff
 refine aa Tp ?_
 refine qR 3 n ev ev o5s ?_
 simp only[yZ]
 refine aa Tp ?_ (hok:=oV (Zec s.set))
 refine ae (bJ Tp 4 (hct:=by exact Ea T l (ig s.set).length 2 _ _ W (hB.fresh (show n<=n from XX _) oW) om om om) (hk:=?_))
 rintro res h2 n2 ⟨aU,hG2⟩
 try dsimp only at aU
 replace aU:=(bM.fresh (x:=none) BQ (XX n) (XX n)).trans (aU.down oW)
 refine bI Tp ?_
 refine ae (bJ Tp 4 (hct:=by exact Ej T _ (ig s.set) _ _ W (hG2.mono oW) (by rw[XZ,fH];omega)) (hk:=?_))
 rintro res h3 n3 ⟨rfl,eX,hG3⟩
 try dsimp only at eX
 replace eX:=aU.trans (eX.down oW)
 refine bI Tp ?_
 refine ae (bJ Tp 5 (hct:=by exact Ea T _ s.sigs.length 1 _ _ W (hG3.mono oW) (by omega) (by omega) (by rw[XZ,XZ,fH];omega)) (hk:=?_))
 rintro res h4 n4 ⟨iN,hG4⟩
 try dsimp only at iN
 replace iN:=eX.trans (iN.down oW)
 refine bI Tp ?_
 refine aa Tp ?_
 refine aj ?_
 refine jm (α:=(Nat)×(Str)×(H)×Nat) [0,33,34] (λ⟨k,o,hq,nx⟩=>(k<=s.sigs.length)/\(o++(s.sigs.drop k).flatMap iL=l++fw s)/\(o.length<=l.length+1100+k*300)/\(bE T hq W nx o 0)/\(bM h hq W n nx)/\True) (λ⟨k,o,hq,nx⟩=>s.sigs.length-k) (λ⟨k,o,hq,nx⟩=>[(35,.i k)]) (λ⟨k,o,hq,nx⟩=>hq) (λ⟨k,o,hq,nx⟩=>nx) (0,l++eu (ig s.set).length 2++ig s.set++eu s.sigs.length 1,h4,_) (hA:=⟨iv,(by first|(rw[KC];simp[fw])|(dsimp only;rw[KC];simp[fw])),(by first|(simp[fH];omega)|(dsimp only;simp[fH];omega)),(by first|(exact hG4.mono (by omega))|(dsimp only;exact hG4.mono (by omega))),(by first|(exact iN.up (by omega))|(dsimp only;exact iN.up (by omega))),trivial⟩) (round:=?_)
 rintro⟨k,o,hq,nx⟩ ⟨hk,ho,hol,hG,hst, -⟩
 simp only[XY,X0]
 refine aa Tp ?_
 refine ae ?_
 refine cd ?_ ?_<;>intro c1
 .
  have hk2:k<s.sigs.length:=by omega
  have hgz:=hs.sig _ (by rw[getElem!_pos s.sigs k hk2];exact YI hk2:s.sigs[k]! ∈ s.sigs)
  have hgl:=hgz.zone;have hgs:=hgz.sum;have e3:=uN_of hgs;have e4:=QG hgz;have ff:=qA (vS hk2) ff;refine ah ?_;refine ae ?_;refine aj ?_;refine aa Tp ?_;refine qR 7 (nx+3) ev ev o5s ?_
  simp only[yZ];refine ae (bJ Tp 3 (hct:=by exact G8 T o s.sigs[k]!.zone _ _ W (hG.fresh (show nx<=nx+3 by omega) oW) om om) (hk:=?_))
  rintro res h5 n5 ⟨fT,pF⟩
  try dsimp only at fT
  replace fT:=(bM.fresh (x:=none) hG.1 (show nx<=nx+3 by omega) (XX nx)).trans (fT.down oW)
  refine bI Tp ?_;refine ae ?_;refine aa Tp ?_;refine aj ?_;refine jm (α:=(Nat)×(Str)×(H)×Nat) [0,7,33,34,35,51,52] (λ⟨j,o2,hq2,nx⟩=>(j<=4)/\(o2++([s.sigs[k]!.key,s.sigs[k]!.alg,s.sigs[k]!.frm,s.sigs[k]!.unt].drop j).flatMap cO=o++bP s.sigs[k]!.zone++[s.sigs[k]!.key,s.sigs[k]!.alg,s.sigs[k]!.frm,s.sigs[k]!.unt].flatMap cO)/\(o2.length=(o++bP s.sigs[k]!.zone).length+8*j)/\(bE T hq2 W nx o2 0)/\(bM h5 hq2 W n5 nx)/\True) (λ⟨j,o2,hq2,nx⟩=>4-j) (λ⟨j,o2,hq2,nx⟩=>[(53,.i j)]) (λ⟨j,o2,hq2,nx⟩=>hq2) (λ⟨j,o2,hq2,nx⟩=>nx) (0,o++bP s.sigs[k]!.zone,h5,_) (hA:=⟨iv,rfl,rfl,(pF.mono oW),(bM.refl oW),trivial⟩) (round:=?_)
  rintro⟨j,o2,hq2,nx⟩ ⟨hj,ho2,FI,yA,jN, -⟩;simp only[XY,X0];have htl:(o++bP s.sigs[k]!.zone).length<=o.length+300:=by rw[XZ,rD];omega
  refine aa Tp ?_;refine ae ?_;refine cd ?_ ?_<;>intro c2
  .
   have hj2:j<4:=by omega
   have e6:=Zff (a:=s.sigs[k]!.key) (b:=s.sigs[k]!.alg) (c:=s.sigs[k]!.frm) (d:=s.sigs[k]!.unt) hj2;have e7:=Hl ([s.sigs[k]!.key,s.sigs[k]!.alg,s.sigs[k]!.frm,s.sigs[k]!.unt][j]!);have e8:=drop4 (a:=s.sigs[k]!.key) (b:=s.sigs[k]!.alg) (c:=s.sigs[k]!.frm) (d:=s.sigs[k]!.unt) hj2;have ff:=qB @e6 @e7 ff;refine ah ?_;refine ae ?_;refine aj ?_;refine aa Tp ?_;refine bJ Tp 3 (hct:=by exact CB T o2 (uN ([s.sigs[k]!.key,s.sigs[k]!.alg,s.sigs[k]!.frm,s.sigs[k]!.unt][j]!)) _ _ W (yA.mono oW) (y5 _) om) (hk:=?_)
   rintro res h8 n8 ⟨iw,FX⟩
   try dsimp only at iw
   refine bI Tp ?_;refine ai Tp ?_
   show ∃_,_
   exact ay (j+1,o2++cO ([s.sigs[k]!.key,s.sigs[k]!.alg,s.sigs[k]!.frm,s.sigs[k]!.unt][j]!),h8,_) (h1:=⟨iv,(by(try dsimp only);rw[<-ho2,e8,List.append_assoc]),(by(try dsimp only);rw[List.length_append,jb,FI];omega),o3c,(by(try dsimp only);exact(jN.trans (iw.down oW)).up (by omega)),trivial⟩)
  obtain rfl:j=4:=by omega
  have ho3:o2=o++bP s.sigs[k]!.zone++[s.sigs[k]!.key,s.sigs[k]!.alg,s.sigs[k]!.frm,s.sigs[k]!.unt].flatMap cO:=by simpa using ho2
  refine aH ?_;refine bJ Tp 3 (hct:=by exact(by have q9:=λH9 n9(F3:bE T H9 W n9 o2 0)=>CB T o2 (uN s.sigs[k]!.sum) H9 n9 W F3 (y5 _) (by omega);simp only[e3]at q9;exact q9 _ _ (yA.mono oW))) (hk:=?_)
  rintro res h9 n9 ⟨aQ,hG9⟩
  try dsimp only at aQ
  refine bI Tp ?_;refine ai Tp ?_
  show ∃_,_
  exact ay (k+1,o2++cO s.sigs[k]!.sum,h9,_) (h1:=⟨iv,(by(try dsimp only);rw[<-ho,Gp hk2 iL,ho3];simp[iL]),(by(try dsimp only);rw[ho3];simp[iL]at e4 ⊢;omega),(by first|(exact hG9.mono (by omega))|(dsimp only;exact hG9.mono (by omega))),(by(try dsimp only);exact((hst.trans fT).trans (jN.trans (aQ.down oW))).up (by omega)),trivial⟩)
 have hk3:k=s.sigs.length:=by omega
 subst hk3
 refine aH ?_
 exact cK (_) (hh:=λ_=>.inl rfl) (hr:=oS (k:=by rw[ZL,List.flatMap_nil,Yv]at ho;rw[<-ho];exact⟨hst.up (by omega),hG.mono (by omega)⟩))
def bE.new{T:TypeId}{h:H}{W nx:Nat}(hW:h W=some ⟨T,[[.list true [],.i 0,.v (.int .i8 0)]]⟩)(hn:W<nx):bE T h W nx [] 0:=⟨hn,.inl ⟨rfl,0,hW⟩⟩
theorem H8{h:H}(l:Str):eG (l.map ((λrow=>row.map (snap h 0))∘bD))=l.map bD:=by
 induction l with
 | nil=>rfl
 | cons a l ih =>
  rw[X8,X8]
  show _::eG _=_
  rw[ih];rfl
def Ia{h:H}(l:Str):∀a∈l,∀c∈bD a,dP h 0 c:=by
 intro a _ c hc
 unfold bD at hc
 simp only[Yo]at hc
 subst hc
 rfl
def Zam(z:Zon):0<(dL z).length:=by simp[dL,bP]
def Zi8(d:aG):0<(dG d).length:=by simp[dG,bP]
def F5{res:D}{l:Str}{h:H}{W:Nat}(hd:(l=[]/\res = .list true [])\/(l≠[] /\ ∃r,res = .mrow r 0 l.length/\h r=some ⟨5,l.map bD⟩/\kF h W=some r))(hl:0<l.length):∃r,res = .mrow r 0 l.length/\h r=some ⟨5,l.map bD⟩/\kF h W=some r:=by
 rcases hd with⟨e,_⟩|⟨_,q⟩
 . subst e;simp at hl
 exact q
def Zek{q:ak}(h:GY q):(kG q).length<=300:=by
 have:=h.name
 simp[kG,bP]
 omega
def ZgI(z:Zon)(hz:GU z)(hz2:z.sets.length<=20000):PureCt prog 25 [.agg z.d] (.list false ((dL z).map bD)):=by
 refine oO func25 λff=>?_
 unfold f25
 have hza:=hz.apex
 refine aa Tp ?_
 refine qR 1 0 ev ev o5s ?_
 refine aa Tp ?_
 refine ae (bJ Tp 2 (hct:=by exact G8 134 [] z.apex _ _ 2 (bE.new o4x oW) om (by simp)) (hk:=?_))
 rintro res h2 n2 ⟨_,hG2⟩
 refine bI Tp ?_
 refine ae (bJ Tp 3 (hct:=by exact He 134 _ z.sets.length _ _ 2 (hG2.mono oW) om o5g) (hk:=?_))
 rintro res h3 n3 ⟨_,hG3⟩
 refine bI Tp ?_
 refine ae ?_
 refine aa Tp ?_
 refine aj ?_
 refine jm (α:=(Nat)×(Str)×(H)×Nat) [3,14,15] (λ⟨k,o,hq,nx⟩=>(k<=z.sets.length)/\(o++(z.sets.drop k).flatMap fw=dL z)/\(o.length<=1000+k*80000)/\(bE 134 hq 2 nx o 0)/\True) (λ⟨k,o,hq,nx⟩=>z.sets.length-k) (λ⟨k,o,hq,nx⟩=>[(16,.i k)]) (λ⟨k,o,hq,nx⟩=>hq) (λ⟨k,o,hq,nx⟩=>nx) (0,[]++bP z.apex++eu z.sets.length 4,h3,_) (hA:=⟨iv,(by first|(simp[dL,jk])|(dsimp only;simp[dL,jk])),o2v,(hG3.mono oW),trivial⟩) (round:=?_)
 rintro⟨k,o,hq,nx⟩ ⟨hk,ho,hol,hG, -⟩
 simp only[XY,X0]
 refine aa Tp ?_
 refine ae ?_
 refine cd ?_ ?_<;>intro c1
 .
  have hk2:k<z.sets.length:=by omega
  have hgz:=hz.sets _ (by rw[getElem!_pos z.sets k hk2];exact YI hk2:z.sets[k]! ∈ z.sets)
  have hgl:=QR hgz;have ff:=qA (dF hk2) ff;refine ah ?_;refine ae ?_;refine aj ?_;refine aa Tp ?_;refine qR 5 (nx+3) ev ev o5s ?_
  simp only[yZ];refine bJ Tp 1 (hct:=by exact Pg 134 o z.sets[k]! _ _ 2 (hG.fresh (show nx<=nx+3 by omega) oW) hgz om) (hk:=?_)
  rintro res h5 n5 ⟨fT,pF⟩
  try dsimp only at fT
  replace fT:=(bM.fresh (x:=none) hG.1 (show nx<=nx+3 by omega) (XX nx)).trans (fT.down oW)
  refine bI Tp ?_;refine ai Tp ?_
  show ∃_,_
  exact ay (k+1,o++fw z.sets[k]!,h5,_) (h1:=⟨iv,(by(try dsimp only);rw[<-ho,Gp hk2 fw,List.append_assoc]),(by(try dsimp only);rw[List.length_append];omega),o3d,trivial⟩)
 have hk3:k=z.sets.length:=by omega
 subst hk3
 have zV:o=dL z:=by rw[ZL,List.flatMap_nil,Yv]at ho;exact ho
 refine aH ?_
 refine ae (bJ Tp 1 (hct:=by exact Ec 134 (dL z) _ _ 2 ((show bE 134 hq 2 nx (dL z) 0 by rw[<-zV];exact hG).mono oW) (by rw[<-zV];omega)) (hk:=?_))
 rintro res h9 n9 ⟨hd,_,_⟩
 obtain⟨r,rfl,hr,_⟩:=F5 hd (by exact Zam z)
 have ff:=qA @hr ff
 refine bI Tp ?_
 exact fo 1 (k:=o4p)
def ZgZ(d:aG)(hz:Cu d)(hz2:d.put.length<=20000)(hz3:d.drop.length<=20000):PureCt prog 39 [.agg d.d] (.list false ((dG d).map bD)):=by
 refine oO func39 λff=>?_
 unfold f39
 have hza:=hz.apex
 have e1:=Hl d.frm
 have e2:=Hl d.too
 have ff:=qB @e1 @e2 ff
 refine aa Tp ?_
 refine qR 1 0 ev ev o5s ?_
 refine aa Tp ?_
 refine ae (bJ Tp 2 (hct:=by exact G8 134 [] d.apex _ _ 2 (bE.new o4x oW) om (by simp)) (hk:=?_))
 rintro res h2 n2 ⟨_,hG2⟩
 refine bI Tp ?_
 refine ae (bJ Tp 3 (hct:=by exact CB 134 _ (uN d.frm) _ _ 2 (hG2.mono oW) (y5 _) o5g) (hk:=?_))
 rintro res h3 n3 ⟨_,hG3⟩
 refine bI Tp ?_
 refine ae (bJ Tp 3 (hct:=by exact CB 134 _ (uN d.too) _ _ 2 (hG3.mono oW) (y5 _) o5g) (hk:=?_))
 rintro res h4 n4 ⟨_,hG4⟩
 refine bI Tp ?_
 refine ae (bJ Tp 3 (hct:=by exact He 134 _ d.drop.length _ _ 2 (hG4.mono oW) om o5g) (hk:=?_))
 rintro res h5 n5 ⟨_,pF⟩
 refine bI Tp ?_
 refine ae ?_
 refine aa Tp ?_
 refine aj ?_
 refine jm (α:=(Nat)×(Str)×(H)×Nat) [1,3,24,25] (λ⟨k,o,hq,nx⟩=>(k<=d.drop.length)/\(o++(d.drop.drop k).flatMap kG++jk d.put=dG d)/\(o.length<=1000+k*300)/\(bE 134 hq 2 nx o 0)/\True) (λ⟨k,o,hq,nx⟩=>d.drop.length-k) (λ⟨k,o,hq,nx⟩=>[(26,.i k)]) (λ⟨k,o,hq,nx⟩=>hq) (λ⟨k,o,hq,nx⟩=>nx) (0,[]++bP d.apex++eu (uN d.frm) 8++eu (uN d.too) 8++eu d.drop.length 4,h5,_) (hA:=⟨iv,(by(try dsimp only);rw[XF,XF];simp[dG]),o2v,o3d,trivial⟩) (round:=?_)
 rintro⟨k,o,hq,nx⟩ ⟨hk,ho,hol,hG, -⟩
 simp only[XY,X0]
 refine aa Tp ?_
 refine ae ?_
 refine cd ?_ ?_<;>intro c1
 .
  have hk2:k<d.drop.length:=by omega
  have hgz:=hz.dropq _ (by rw[getElem!_pos d.drop k hk2];exact YI hk2:d.drop[k]! ∈ d.drop)
  have hgn:=hgz.name;have hgl:=Zek hgz;have e3:=Hl d.drop[k]!.ty;have ff:=qB (JD hk2) @e3 ff;refine ah ?_;refine ae ?_;refine aj ?_;refine aa Tp ?_;refine qR 5 (nx+3) ev ev o5s ?_
  simp only[yZ];refine ae (bJ Tp 2 (hct:=by exact G8 134 o d.drop[k]!.name _ _ 2 (hG.fresh (show nx<=nx+3 by omega) oW) om om) (hk:=?_))
  rintro res h6 n6 ⟨_,zX⟩;refine bI Tp ?_;refine bJ Tp 3 (hct:=by exact Ea 134 _ (uN d.drop[k]!.ty) 1 _ _ 2 (zX.mono oW) (y5 _) (by omega) (by rw[XZ,rD];omega)) (hk:=?_)
  rintro res h7 n7 ⟨_,yA⟩;refine bI Tp ?_;refine ai Tp ?_
  show ∃_,_
  exact ay (k+1,o++bP d.drop[k]!.name++eu (uN d.drop[k]!.ty) 1,h7,_) (h1:=⟨iv,(by(try dsimp only);rw[<-ho,Gp hk2 kG];simp[kG,eu]),(by(try dsimp only);simp[kG,fH,bP]at hgl ⊢;omega),(by first|(exact yA.mono (by omega))|(dsimp only;exact yA.mono (by omega))),trivial⟩)
 have hk3:k=d.drop.length:=by omega
 subst hk3
 refine aH ?_
 refine ae (bJ Tp 3 (hct:=by exact He 134 o d.put.length _ _ 2 (hG.mono oW) om om) (hk:=?_))
 rintro res h8 n8 ⟨_,FX⟩
 refine bI Tp ?_
 refine ae ?_
 refine aa Tp ?_
 refine aj ?_
 refine jm (α:=(Nat)×(Str)×(H)×Nat) [3,43,44] (λ⟨k,o,hq,nx⟩=>(k<=d.put.length)/\(o++(d.put.drop k).flatMap fw=dG d)/\(o.length<=10000000+k*80000)/\(bE 134 hq 2 nx o 0)/\True) (λ⟨k,o,hq,nx⟩=>d.put.length-k) (λ⟨k,o,hq,nx⟩=>[(45,.i k)]) (λ⟨k,o,hq,nx⟩=>hq) (λ⟨k,o,hq,nx⟩=>nx) (0,o++eu d.put.length 4,h8,_) (hA:=⟨iv,(by(try dsimp only);rw[List.drop_length,List.flatMap_nil,List.append_nil]at ho;rw[<-ho];simp[jk]),(by(try dsimp only);rw[List.length_append,fH];omega),o3c,trivial⟩) (round:=?_)
 rintro⟨k,o,hq,nx⟩ ⟨hk,ho,hol,hG, -⟩
 simp only[XY,X0]
 refine aa Tp ?_
 refine ae ?_
 refine cd ?_ ?_<;>intro c2
 .
  have hk2:k<d.put.length:=by omega
  have hgz:=hz.puts _ (by rw[getElem!_pos d.put k hk2];exact YI hk2:d.put[k]! ∈ d.put)
  have hgl:=QR hgz;have ff:=qA (dF hk2) ff;refine ah ?_;refine ae ?_;refine aj ?_;refine aa Tp ?_;refine qR 7 (nx+3) ev ev o5s ?_
  simp only[yZ];refine bJ Tp 1 (hct:=by exact Pg 134 o d.put[k]! _ _ 2 (hG.fresh (show nx<=nx+3 by omega) oW) hgz om) (hk:=?_)
  rintro res h5 n5 ⟨fT,pF⟩
  try dsimp only at fT
  replace fT:=(bM.fresh (x:=none) hG.1 (show nx<=nx+3 by omega) (XX nx)).trans (fT.down oW)
  refine bI Tp ?_;refine ai Tp ?_
  show ∃_,_
  exact ay (k+1,o++fw d.put[k]!,h5,_) (h1:=⟨iv,(by(try dsimp only);rw[<-ho,Gp hk2 fw,List.append_assoc]),(by(try dsimp only);rw[List.length_append];omega),o3d,trivial⟩)
 have hk3:k=d.put.length:=by omega
 subst hk3
 have zV:o=dG d:=by rw[ZL,List.flatMap_nil,Yv]at ho;exact ho
 refine aH ?_
 refine ae (bJ Tp 1 (hct:=by exact Ec 134 (dG d) _ _ 2 ((show bE 134 hq 2 nx (dG d) 0 by rw[<-zV];exact hG).mono oW) (by rw[<-zV];omega)) (hk:=?_))
 rintro res h9 n9 ⟨hd,_,_⟩
 obtain⟨r,rfl,hr,_⟩:=F5 hd (by exact Zi8 d)
 have ff:=qA @hr ff
 refine bI Tp ?_
 exact fo 1 (k:=o4p)
def UM(k:UInt8)(w:Str)(hw:w.length<=4000000000):PureCt prog 24 [.v (.int .u8 ((k).toNat:Int)),.list false (w.map bD)] (.list false ((bZ k w).map bD)):=by
 refine oO func24 λff=>?_
 unfold f24
 refine oC Tp ?_
 refine ae (bJ Tp 2 (hct:=by exact Pp 134 [] k _ _ 1 (bE.new o4x oW) (by simp)) (hk:=?_))
 rintro res h2 n2 ⟨rfl,_,hG2⟩
 refine bI Tp ?_
 refine ae (bJ Tp 2 (hct:=by exact He 134 _ w.length _ _ 1 (hG2.mono oW) om (by simp)) (hk:=?_))
 rintro res h3 n3 ⟨_,hG3⟩
 have hG3:bE 134 h3 1 n3 (rX k w.length) 0:=hG3
 have hhl:(rX k w.length).length=5:=by simp[rX,fH]
 refine bI Tp ?_
 refine cB ?_
 refine EI (C:=Tp) 1 (R:=_) om (dR rfl) rfl rfl o2s ?_ ?_ ev o5v ev (by exact Ec 134 (rX k w.length) _ _ 1 (hG3.mono oW) om) ?_
 .
  try simp only[go_sem,ff]
  all_goals (exact ok0)
 .
  try simp only[go_sem,ff]
  all_goals (first|done|rfl|decide|simp)
 rintro res h4 n4 ⟨hd,_,hG4⟩
 obtain⟨r4,rfl,hr4,_⟩:=F5 hd om
 have ff:=qA hr4 ff
 refine EI (C:=Tp) 3 (R:=_) om (dR rfl) rfl rfl o2s ?_ ?_ ev o5v ev (by exact CB 134 _ (iG (rX k w.length)) _ _ 1 (hG4.mono oW) (DY _) om) ?_
 .
  try simp only[go_sem,ff]
  all_goals (first|exact ok0|exact Jm _ om)
 .
  try simp only[go_sem,ff]
  all_goals (first|done|rfl|decide|simp)
 rintro res h5 n5 ⟨_,pF⟩
 refine aP Tp ?_
 try simp only[aI]
 refine ae (bJ Tp 2 (hct:=by exact Ej 134 _ w _ _ 1 (pF.mono oW) (by rw[XZ,fH];omega)) (hk:=?_))
 rintro res h6 n6 ⟨rfl,_,zX⟩
 refine bI Tp ?_
 refine ae (bJ Tp 2 (hok:=iE @Jm) (hct:=by exact CB 134 _ (iG w) _ _ 1 (zX.mono oW) (DY _) (by rw[XZ,XZ,fH];omega)) (hk:=?_))
 rintro res h7 n7 ⟨_,yA⟩
 have yA:bE 134 h7 1 n7 (bZ k w) 0:=yA
 refine bI Tp ?_
 refine ae (bJ Tp 1 (hct:=by exact Ec 134 (bZ k w) _ _ 1 (yA.mono oW) (by rw[rZ];omega)) (hk:=?_))
 rintro res h9 n9 ⟨hd,_,_⟩
 obtain⟨r,rfl,hr,_⟩:=F5 hd (by rw[rZ];omega)
 have ff:=qA @hr ff
 refine bI Tp ?_
 exact fo 1 (k:=o4p)
theorem L9{l:List Str}{p:Str}:(l++[p]).map ja=l.map ja++[[.list false (p.map bD)]]:=by simp[ja]
theorem EY{d:bV}{o:jD}(h:eP d=some o):vB d=o:=by unfold vB;rw[h];rfl
theorem EZ{d:bV}(h:eP d=none):vB d=Mi:=by unfold vB;rw[h];rfl
def zN{d:bV}{o:jD}(hd:kw d)(h:eP d=some o):PureCt prog 36 [.agg d.d] (.tuple [.agg o.d,.b true]):=by
 have:=UG d hd
 rwa [EY h,h]at this
def zO{d:bV}(hd:kw d)(h:eP d=none):PureCt prog 36 [.agg d.d] (.tuple [.agg Mi.d,.b false]):=by
 have:=UG d hd
 rwa [EZ h,h]at this
def ZgY(w:Str)(hw:w.length<=4000000000):PureCt prog 24 [.v (.int .u8 1),.list false (w.map bD)] (.list false ((bZ 1 w).map bD)):=UM 1 w hw
def ZgX(w:Str)(hw:w.length<=4000000000):PureCt prog 24 [.v (.int .u8 2),.list false (w.map bD)] (.list false ((bZ 2 w).map bD)):=UM 2 w hw
def ZjD{z:Zon}{d:aG}{x:Zon}{e:Int}(hp:fO d.put)(h:eD z d=(x,e)):PureCt prog 38 [.agg z.d,.agg d.d] (.tuple [.agg x.d,.i e]):=by
 have:=Oo z d hp
 rwa [h]at this
def UL(d:aG)(hp:fO d.put):PureCt prog 37 [.agg d.d] (.b (fU d)):=by
 refine oO func37 λff=>?_
 unfold f37
 refine aa Tp ?_
 rcases hd:fU d with _|_
 . have hj:=ZgT hd;have ff:=qB @hj @hd ff;refine aa Tp ?_ (hok:=oV (J9 d));refine aa Tp ?_;exact fp 0
 have hj:=ZgS hd
 have ff:=qB @hj @hd ff
 refine aa Tp ?_ (hok:=oV (J9 d))
 refine aa Tp ?_
 exact fp 0
def M3(w:Str)(hw:w.length<=1000000000):PureCt prog 40 [.list false (w.map bD)] (.list false (w.map bD)):=by
 refine oO func40 λff=>?_
 unfold f40
 refine aa Tp ?_
 refine ae ?_
 refine ae (xw ?_)
 refine EH (C:=Tp) 1 (e:=5) om (dR rfl) rfl rfl (by kernel_rfl) o4g ?_ (by rfl) ev (λy hy=>?_)
 .
  try simp only[go_sem,ff]
  all_goals (first|done|(repeat' (with_reducible apply And.intro))<;>first|omega|(with_reducible assumption)|(intros;omega)|(intros;simp only[XW,X4,Yc,XU,Yd,Yb,Yr]at *;omega)|(simp_all;done)|(simp_all;omega))
 refine wH (C:=Tp) o5y o4g ?_ rfl ?_
 .
  try simp only[go_sem,ff]
  all_goals (first|done|(repeat' (with_reducible apply And.intro))<;>first|omega|(with_reducible assumption)|(intros;omega)|(intros;simp only[XW,X4,Yc,XU,Yd,Yb,Yr]at *;omega)|(simp_all;done)|(simp_all;omega))
 try simp only[aI]
 refine cd ?_ ?_ (hp:=rfl) (hq:=rfl)<;>intro c1
 . have hn:w=[]:=List.map_eq_nil_iff.1 (hy c1);subst hn;refine aa Tp ?_;exact fp 1
 refine ah ?_
 refine aa Tp ?_
 exact fp 1
def MX(a:Str)(l:List Str)(b:Str)(ha:a.length<=1000000000)(hb:b.length<=1000000000)(hl:(aR l).length<=1000000000)(hl2:l.length<=1000000):PureCt prog 41 [.list false (a.map bD),.list false (l.map ja),.list false (b.map bD)] (.list false ((a++aR l++b).map bD)):=by
 refine oO func41 λff=>?_
 unfold f41
 refine oC Tp ?_
 refine ae (bJ Tp 2 (hct:=by exact Ej 134 [] a _ _ 1 (bE.new o4x oW) (by simp;omega)) (hk:=?_))
 rintro res h2 n2 ⟨rfl,_,hG2⟩
 refine bI Tp ?_
 refine ae ?_
 refine aa Tp ?_
 refine aj ?_
 refine jm (α:=(Nat)×(Str)×(H)×Nat) [2,7,13,14] (λ⟨k,o,hq,nx⟩=>(k<=l.length)/\(o=a++aR (l.take k))/\(o.length<=2000000000)/\(bE 134 hq 1 nx o 0)/\True) (λ⟨k,o,hq,nx⟩=>l.length-k) (λ⟨k,o,hq,nx⟩=>[(15,.i k)]) (λ⟨k,o,hq,nx⟩=>hq) (λ⟨k,o,hq,nx⟩=>nx) (0,a,h2,_) (hA:=⟨iv,o4t,oW,(hG2.mono oW),trivial⟩) (round:=?_)
 rintro⟨k,o,hq,nx⟩ ⟨hk,ho,hol,hG, -⟩
 simp only[XY,X0]
 refine aa Tp ?_
 refine ae ?_
 refine cd ?_ ?_<;>intro c1
 .
  have hk2:k<l.length:=by omega
  have hct:=Kw hk2;have hcl:=OC (l:=l) (k+1);have hcs:=Kv hk2;have ff:=qA (z8 hk2) ff;refine ah ?_;refine ae ?_;refine aj ?_;refine aa Tp ?_;refine bJ Tp 2 (hct:=by exact Ej 134 o l[k]! _ _ 1 (hG.mono oW) om) (hk:=?_)
  rintro res h5 n5 ⟨rfl,_,pF⟩;refine bI Tp ?_;refine ai Tp ?_
  show ∃_,_
  exact ay (k+1,o++l[k]!,h5,_) (h1:=⟨iv,(by(try dsimp only);rw[ho,hct,List.append_assoc]),(by(try dsimp only);rw[ho,List.append_assoc,<-hct,List.length_append];omega),o3d,trivial⟩)
 have hk3:k=l.length:=by omega
 subst hk3
 rw[Yn]at ho
 refine aH ?_
 refine ae (bJ Tp 2 (hct:=by exact Ej 134 o b _ _ 1 (hG.mono oW) om) (hk:=?_))
 rintro res h6 n6 ⟨rfl,_,zX⟩
 have zX:bE 134 h6 1 n6 (a++aR l++b) 0:=by rw[<-ho];exact zX
 refine bI Tp ?_
 by_cases hne:a++aR l++b=[]
 .
  refine ae (bJ Tp 1 (hct:=o3m) (hk:=?_))
  rintro res h9 n9 ⟨hd,_,_⟩;obtain rfl:res = .list true []:=by rcases hd with⟨_,e⟩|⟨e,_⟩;exact e;exact absurd hne e
  refine bI Tp ?_;exact fo 1 (k:=by first|(rw[hne];rfl)|rfl|(simp;done))
 refine ae (bJ Tp 1 (hct:=o3m) (hk:=?_))
 rintro res h9 n9 ⟨hd,_,_⟩
 obtain⟨r,rfl,hr,_⟩:=F5 hd (Zy.2 hne)
 have ff:=qA @hr ff
 refine bI Tp ?_
 exact fo 1 (k:=o4p)
def MZ{a:Str}{l:List Str}(ha:a.length<=1000000000)(hl:(aR l).length<=1000000000)(hl2:l.length<=1000000):PureCt prog 41 [.list false (a.map bD),.list false (l.map ja),.list false []] (.list false ((a++aR l).map bD)):=by
 have q:=MX a l [] ha (by simp) hl hl2
 rw[Yv]at q
 exact q
def Zg2(z:Zon)(hu:GV z):PureCt prog 8 [.agg z.d] (.tuple [.agg (sD z).1.d,.i (sD z).2]):=by
 refine oO func8 λff=>?_
 unfold Tryz.f8
 have ff:=qA (show UInt8.ofNat 1=1 from rfl) ff
 refine aa Tp ?_
 refine oK Tp ?_ ?_ (hok:=oF (xE z))<;>intro c1
 . refine aa Tp ?_;exact fo 4 (k:=by rw[sD,if_pos (by grind)];first|rfl|(simp;done))
 have hz:aJ z=true:=by grind
 have hzl:=(lM hz).len
 have hzs:=Zag hz
 refine aa Tp ?_ (hok:=oI (ZgI z (O8 hz hu) om) (ZgY (dL z) om))
 refine oK Tp ?_ ?_<;>intro c2
 . refine aa Tp ?_;exact fo 4 (k:=by rw[sD,if_neg (by grind),if_pos (by omega)];first|rfl|(simp;done))
 refine aa Tp ?_
 exact fo 4 (k:=by rw[sD,if_neg (by grind),if_neg (by omega)];first|rfl|(simp;done))
def ZgW(d:bV)(hd:kw d):PureCt prog 12 [.agg d.d] (.tuple [.agg (lZ d).1.d,.i (lZ d).2]):=by
 refine oO func12 λff=>?_
 unfold f12
 refine aa Tp ?_
 rcases ho:eP d with _|o
 .
  have qL:=EZ ho;have ff:=qB @ho @qL ff;refine aa Tp ?_ (hok:=o2w)
  refine ae ?_;refine aa Tp ?_;refine cd ?_ ?_ (hp:=rfl) (hq:=rfl)<;>intro c1
  . refine aa Tp ?_;exact fo 3 (k:=by simp only[lZ,ho];first|rfl|(simp;done))
  simp at c1
 have qL:=EY ho
 have ff:=qB @ho @qL ff
 refine aa Tp ?_ (hok:=o2w)
 refine oK Tp ?_ ?_ (hp:=rfl) (hq:=rfl)<;>intro c1
 . simp at c1
 refine ae ?_
 rcases hsv:o.saved with _|y
 .
  have ff:=qA @hsv ff;refine aa Tp ?_;refine cd ?_ ?_ (hp:=rfl) (hq:=rfl)<;>intro c2
  . refine aa Tp ?_;exact fo 3 (k:=o2n)
  simp at c2
 have ff:=qA @hsv ff
 refine aa Tp ?_
 refine cd ?_ ?_ (hp:=rfl) (hq:=rfl)<;>intro c2
 . simp at c2
 refine ah ?_
 refine aa Tp ?_
 exact fo 3 (k:=o2n)
def ZgN(d:bV)(hd:kw d):PureCt prog 11 [.agg d.d] (.tuple [.agg (rF d).1.d,.i (rF d).2]):=by
 refine oO func11 λff=>?_
 unfold f11
 refine aa Tp ?_
 rcases ho:eP d with _|o
 .
  have qL:=EZ ho;have ff:=qB @ho @qL ff;refine aa Tp ?_ (hok:=o2w)
  refine ae ?_;refine aa Tp ?_;refine cd ?_ ?_ (hp:=rfl) (hq:=rfl)<;>intro c1
  . refine aa Tp ?_;exact fo 3 (k:=by simp only[rF,ho];first|rfl|(simp;done))
  simp at c1
 have qL:=EY ho
 have ff:=qB @ho @qL ff
 refine aa Tp ?_ (hok:=o2w)
 refine oK Tp ?_ ?_ (hp:=rfl) (hq:=rfl)<;>intro c1
 . simp at c1
 have hos:=uz ho
 have FT:=GL hd d.pend.length hos.2.1
 rw[Yn]at FT
 have UX:=EX d.safe
 have hsz0:=hos.2.2.2.1
 have Fy:=hos.2.2.1
 refine oK Tp ?_ ?_<;>intro c2
 . refine aa Tp ?_;exact fo 3 (k:=by simp only[rF,ho];rw[X3 (by omega)];first|rfl|(simp;done))
 refine aa Tp ?_ (hok:=by(try simp only[go_sem,ff]);all_goals (exact MZ (by rw[Fy];omega) (by omega) (by omega)))
 exact fo 3 (k:=by simp only[rF,ho];rw[XV (by omega)];first|rfl|(simp;done))
def Zg1(d:bV)(n:Int)(c:Int)(hd:kw d):PureCt prog 15 [.agg d.d,.i n,.i c] (.tuple [.agg (lm d n c).1.d,.i (lm d n c).2]):=by
 refine oO func15 λff=>?_
 unfold f15
 refine aa Tp ?_
 rcases ho:eP d with _|o
 .
  have qL:=EZ ho;have ff:=qB @ho @qL ff;refine aa Tp ?_ (hok:=o2w)
  refine ae ?_;refine aa Tp ?_;refine cd ?_ ?_ (hq:=rfl)<;>intro c1
  . refine aa Tp ?_;exact fo 3 (k:=by simp only[lm,ho];first|rfl|(simp;done))
  simp at c1
 have qL:=EY ho
 have ff:=qB @ho @qL ff
 refine aa Tp ?_ (hok:=o2w)
 refine oK Tp ?_ ?_<;>intro c1
 . refine aa Tp ?_;exact fo 3 (k:=by simp only[lm,ho];rw[X3 (by omega)];first|rfl|(simp;done))
 have hos:=uz ho
 have FT:=GL hd d.pend.length hos.2.1
 rw[Yn]at FT
 have UX:=EX d.safe
 have hsz0:=hos.2.2.2.1
 have Fy:=hos.2.2.1
 have hwl:o.whole.length<=1000000:=by rw[Fy];omega
 obtain⟨L,hL⟩:∃L,L=d.pend.take n.toNat:=⟨_,rfl⟩
 have hLl:L.length<=200:=by rw[hL,YA];omega
 have hcL:(aR L).length<=200000000:=by rw[hL];exact GL hd n.toNat hos.2.1
 have hmt:(d.pend.map ja).take n.toNat=L.map ja:=by rw[hL];exact ZF.symm
 have hLn:L.length=n.toNat:=by rw[hL,YA];omega
 refine aa Tp ?_
 refine oK Tp ?_ ?_<;>intro c2
 .
  have hk0:n.toNat<d.pend.length:=by omega
  have hbr:nY d n=d.pend[n.toNat]! := by unfold nY;rw[X3 (by omega)]
  have hpl:=hd.at hk0;have hbt:(d.pend[n.toNat]!.map bD).take c.toNat=(d.pend[n.toNat]!.take c.toNat).map bD:=ZF.symm;have ff:=qD (z8 hk0) @hmt @hbt ff;refine ai Tp ?_;refine oK Tp ?_ ?_<;>intro c3
  . refine aa Tp ?_;exact fo 3 (k:=o1z)
  have htl:(rC o d n c).length=o.whole.length+(aR L).length+c.toNat:=by unfold rC;rw[hbr,<-hL,XZ,XZ,YA];(try simp only[Y4]);omega
  refine aa Tp ?_;refine ae ?_;refine aa Tp ?_;refine aj ?_;refine lp (α:=(Nat)×(Int)×Nat) [1,2,3,6,8,10,60,61] (λ⟨k,s,nx⟩=>(k<=L.length)/\(s=(o.whole.length:Int)+c+(((aR (L.take k)).length:Nat):Int))/\(8<nx)/\True) (λ⟨k,s,nx⟩=>L.length-k) (λ⟨k,s,nx⟩=>[(11,.i s),(62,.i k)]) (λ⟨k,s,nx⟩=>[(0,⟨34,[d.d]⟩),(1,⟨34,[[.list true [],.list true []]]⟩),(8,⟨97,[o.d]⟩)]) (λ⟨k,s,nx⟩=>nx) (0,(o.whole.length:Int)+c,_) (hA:=⟨oW,o4t,oW,trivial⟩) (round:=?_)
  rintro⟨k,s,nx⟩ ⟨hk,hs,hx, -⟩;simp only[XY,X0];have n0:0<nx:=by omega
  have n1:1<nx:=by omega
  have ff:=qD @hx @n0 @n1 ff;refine aa Tp ?_;refine ae ?_;refine cd ?_ ?_<;>intro c4
  .
   have hk2:k<L.length:=by omega
   have hcs:=Kv hk2;have hcl:=OC (l:=L) (k+1);have ff:=qA (z8 hk2) ff;refine ah ?_;refine ae ?_;refine aj ?_;refine aa Tp ?_;refine ai Tp ?_;refine ai Tp ?_
   show ∃_,_
   exact ay (k+1,s+L[k]!.length,_) (h1:=⟨oW,(by(try dsimp only);rw[hs,hcs];push_cast;omega),oW,trivial⟩)
  have hk3:k=L.length:=by omega
  subst hk3;rw[Yn]at hs;refine aH ?_;refine oK Tp ?_ ?_<;>intro c5
  . refine aa Tp ?_;exact fo 3 (k:=o1p)
  refine aa lq ?_ (hok:=oI (MX o.whole L (d.pend[n.toNat]!.take c.toNat) (by omega) (by rw[YA];omega) (by omega) (by omega)) (MZ (a:=o.whole) (l:=L) (by omega) (by omega) (by omega)))
  exact fo 3 (k:=o1f)
 have hbr:nY d n=[]:=by unfold nY;rw[XV (by omega)]
 have ff:=qA @hmt ff
 refine oK Tp ?_ ?_<;>intro c3
 . refine aa Tp ?_;exact fo 3 (k:=o1z)
 have htl:(rC o d n c).length=o.whole.length+(aR L).length+c.toNat:=by unfold rC;rw[hbr,<-hL,XZ,XZ,YA];(try simp only[Y4]);omega
 refine aa Tp ?_
 refine ae ?_
 refine aa Tp ?_
 refine aj ?_
 refine lp (α:=(Nat)×(Int)×Nat) [1,2,3,6,8,10,60,61] (λ⟨k,s,nx⟩=>(k<=L.length)/\(s=(o.whole.length:Int)+c+(((aR (L.take k)).length:Nat):Int))/\(8<nx)/\True) (λ⟨k,s,nx⟩=>L.length-k) (λ⟨k,s,nx⟩=>[(11,.i s),(62,.i k)]) (λ⟨k,s,nx⟩=>[(0,⟨34,[d.d]⟩),(1,⟨34,[[.list true [],.list true []]]⟩),(8,⟨97,[o.d]⟩)]) (λ⟨k,s,nx⟩=>nx) (0,(o.whole.length:Int)+c,_) (hA:=⟨oW,o4t,oW,trivial⟩) (round:=?_)
 rintro⟨k,s,nx⟩ ⟨hk,hs,hx, -⟩
 simp only[XY,X0]
 have n0:0<nx:=by omega
 have n1:1<nx:=by omega
 have ff:=qD @hx @n0 @n1 ff
 refine aa Tp ?_
 refine ae ?_
 refine cd ?_ ?_<;>intro c4
 .
  have hk2:k<L.length:=by omega
  have hcs:=Kv hk2;have hcl:=OC (l:=L) (k+1);have ff:=qA (z8 hk2) ff;refine ah ?_;refine ae ?_;refine aj ?_;refine aa Tp ?_;refine ai Tp ?_;refine ai Tp ?_
  show ∃_,_
  exact ay (k+1,s+L[k]!.length,_) (h1:=⟨oW,(by(try dsimp only);rw[hs,hcs];push_cast;omega),oW,trivial⟩)
 have hk3:k=L.length:=by omega
 subst hk3
 rw[Yn]at hs
 refine aH ?_
 refine oK Tp ?_ ?_<;>intro c5
 . refine aa Tp ?_;exact fo 3 (k:=o1p)
 refine aa lq ?_ (hok:=oI (MX o.whole L (d.pend[n.toNat]!.take c.toNat) (by omega) (by rw[YA];omega) (by omega) (by omega)) (MZ (a:=o.whole) (l:=L) (by omega) (by omega) (by omega)))
 exact fo 3 (k:=o1f)
def Zg3(d:bV)(x:aG)(hd:kw d)(hp:fO x.put)(hu:Cs x):PureCt prog 10 [.agg d.d,.agg x.d] (.tuple [.agg (nk d x).1.d,.i (nk d x).2]):=by
 refine oO func10 λff=>?_
 unfold f10
 have ff:=qA (show UInt8.ofNat 2=2 from rfl) ff
 refine aa Tp ?_
 rcases ho:eP d with _|o
 .
  have qL:=EZ ho;have ff:=qB @ho @qL ff;refine aa Tp ?_ (hok:=o2w)
  refine ae ?_;refine aa Tp ?_ (hok:=oH (UL x hp));refine cd ?_ ?_ (hq:=rfl)<;>intro c1
  . refine aa Tp ?_;exact fo 4 (k:=by simp only[nk,ho];first|rfl|(simp;done))
  simp at c1
 have qL:=EY ho
 have ff:=qB @ho @qL ff
 refine aa Tp ?_ (hok:=o2w)
 refine oK Tp ?_ ?_ (hok:=oH (UL x hp))<;>intro c1
 .
  have hnf:fU x=false:=by simpa using c1
  refine aa Tp ?_;exact fo 4 (k:=by simp only[nk,ho];rw[X3 hnf];first|rfl|(simp;done))
 have hdx:fU x=true:=by simpa using c1
 have hdk:=yJ.1 hdx
 have hos:=uz ho
 have FT:=GL hd d.pend.length hos.2.1
 rw[Yn]at FT
 have UX:=EX d.safe
 have hsz0:=hos.2.2.2.1
 have Fy:=hos.2.2.1
 have hwl:o.whole.length<=1000000:=by rw[Fy];omega
 refine ae ?_
 rcases hsv:o.all with _|y
 .
  have ff:=qA @hsv ff;refine aa Tp ?_;refine cd ?_ ?_ (hp:=rfl) (hq:=rfl)<;>intro c2
  . refine aa Tp ?_;exact fo 4 (k:=by rw[Zkz ho hsv,hdx];first|rfl|(simp;done))
  simp at c2
 have ff:=qA @hsv ff
 refine aa Tp ?_
 refine cd ?_ ?_ (hp:=rfl) (hq:=rfl)<;>intro c2
 . simp at c2
 refine ah ?_
 refine ae ?_
 rcases hA:eD y x with⟨z,e⟩
 have ff:=qA @hA ff
 refine aa Tp ?_ (hok:=oF (ZjD hp hA))
 refine aa Tp ?_
 refine cd ?_ ?_<;>intro c3
 . refine aa Tp ?_;exact fo 4 (k:=by rw[Zkv ho hsv (by rw[hA];exact c3),hA,hdx];first|rfl|(simp;done))
 obtain rfl:e=0:=by omega
 have hxs:=Wl hA hu
 have hxl:=Zi1 hA
 have hpl2:=hdk.plen
 have hdl2:=hdk.dlen
 have hfl:=rZ 2 (dG x)
 refine ah ?_
 refine oK Tp ?_ ?_<;>intro c4
 . refine aa Tp ?_;exact fo 4 (k:=by rw[KE ho hsv hA,X3 (by omega)];first|rfl|(simp;done))
 refine aa Tp ?_ (hok:=oI (ZgZ x hxs hdk.plen hdk.dlen) (ZgX (dG x) om))
 refine oK Tp ?_ ?_<;>intro c5
 . refine aa Tp ?_;exact fo 4 (k:=by rw[KE ho hsv hA,XV (by omega),X3 (by omega)];first|rfl|(simp;done))
 refine aa Tp ?_ (hok:=oH (M3 o.whole om))
 refine ae ?_
 refine yG 54 1 34 31 ev (by rfl) o5v ?_
 simp only[YW,YP]
 refine aa Tp ?_
 refine aj ?_
 refine lp (α:=(Nat)×(Nat)×Nat) [4,10,11,64,65] (λ⟨k,r,nx⟩=>(k<=d.pend.length)/\(r<nx)/\(54<r)/\True) (λ⟨k,r,nx⟩=>d.pend.length-k) (λ⟨k,r,nx⟩=>[(66,.i k)]) (λ⟨k,r,nx⟩=>[(0,⟨34,[d.d]⟩),(1,⟨40,[x.d]⟩),(2,⟨34,[[.list true [],.list true []]]⟩),(54,⟨34,[[.list false (o.whole.map bD),.mrow r 0 k]]⟩),(r,⟨31,(d.pend.take k).map ja⟩)]) (λ⟨k,r,nx⟩=>nx) (0,56,_) (hA:=⟨iv,iv,iv,trivial⟩) (round:=?_)
 rintro⟨k,r,nx⟩ ⟨hk,hr,hr0, -⟩
 simp only[XY,X0]
 have n0:0<nx:=by omega
 have n1:1<nx:=by omega
 have n2:2<nx:=by omega
 have n54:54<nx:=by omega
 have ff:=qH @hr @n0 @n1 @n2 @n54 (nH 0 1) (nH 0 2) (qI (nH 0 54) (nH 0 r) (nH 1 2) (nH 1 54) (nH 1 r) (nH 2 54) (nH 2 r) (nH 54 r) ff)
 refine aa Tp ?_
 refine ae ?_
 refine cd ?_ ?_ (hp:=rfl)<;>intro c6
 .
  have hk2:k<d.pend.length:=by simpa using c6
  have hpk:=hd.at hk2;have ff:=qA (z8 hk2) ff;refine ah ?_;refine ae ?_;refine aj ?_;refine aa Tp ?_;refine ai lq ?_ (hok:=by(try simp only[go_sem,ff]);all_goals (first|done|((repeat' (with_reducible apply And.intro))<;>first|(intros;exact M3 d.pend[k]! (by omega))|omega|(rw[YA];omega)|skip)))
  refine ai Tp ?_
  show ∃_,_
  have hst:(d.pend.take (k+1)).map ja=(d.pend.take k).map ja++[[.list false (d.pend[k]!.map bD)]]:=by rw[rE! hk2,L9]
  have ff:=qA hst ff;exact ay (k+1,(nx+9),_) (h1:=⟨iv,iv,iv,trivial⟩)
 have e8:k=d.pend.length:=by omega
 subst e8
 refine aH ?_
 refine aa Tp ?_
 refine yI 54 1 (nx+5) (rows:=d.pend.map ja++[[.list false ((bZ 2 (dG x)).map bD)]]) (off:=0) (len:=d.pend.length+1) ev rfl ev (by omega) (by simp) (by rw[<-L9];exact Zfu) ?_
 simp only[X6,YW,YP]
 refine aa Tp ?_
 exact fo 4 (k:=by rw[KE ho hsv hA,XV (by omega),XV (by omega)];(try simp only[go_sem,L9]);first|done|rfl|(simp;done))
def Zbr(l:List Zon)(hl:l.length<=20000):PureCt prog 90 [.list false (l.map Zon.d)] (.tuple [.list false ((uj l).1.map kz),.b (uj l).2]):=by
 refine oO func90 λff=>?_
 unfold f90
 refine aa Tp ?_
 refine ae ?_
 refine aa Tp ?_
 refine aj ?_
 refine lp (α:=(Nat)×Nat) [0,10,11] (λ⟨k,nx⟩=>(k<=l.length)/\(aA l.length (uk l) 0=aA l.length (uk l) k)/\True) (λ⟨k,nx⟩=>l.length-k) (λ⟨k,nx⟩=>[(12,.i k)]) (λ⟨k,nx⟩=>[]) (λ⟨k,nx⟩=>nx) (0,_) (hA:=⟨iv,rfl,trivial⟩) (round:=?_)
 rintro⟨k,nx⟩ ⟨hk,hv1, -⟩
 simp only[XY,X0]
 refine aa Tp ?_
 refine ae ?_
 refine cd ?_ ?_ (hp:=rfl)<;>intro c1
 .
  have hk2:k<l.length:=by simpa using c1
  have hk0:0<l.length:=by omega
  have ff:=qB (rY hk2) (rY hk0) ff;refine ah ?_;refine ae ?_;refine aj ?_;refine aa Tp ?_;refine aa Tp ?_ (hok:=iE (xE l[k]!));refine cd ?_ ?_<;>intro c2
  . refine aa Tp ?_;exact fo 2 (k:=by rw[Pw (.inl (by rw[hv1];exact eO hk2 (by simp only[uk];grind)))];rfl)
  refine ah ?_;refine ai Tp ?_
  show ∃_,_
  have h8:(uk l) k=true:=by simp only[uk];grind
  exact ay (k+1,_) (h1:=⟨iv,o4y,trivial⟩)
 have e8:k=l.length:=by omega
 subst e8
 have hA:aA l.length (uk l) 0=true:=by rw[hv1,ib (by omega)]
 have hzs : ∀i,i<l.length->aJ l[i]! = true:=λi hi=>by have:=(eF _ _ _).1 hA i (Yi _) hi;simp only[uk,XU]at this;exact this.1
 refine aH ?_
 refine aa Tp ?_ (hok:=oH (ZbH l om hzs))
 refine ae ?_
 refine aa Tp ?_
 refine aj ?_
 refine lp (α:=(Nat)×Nat) [6] (λ⟨k,nx⟩=>(k<=l.length\/l.length=0)/\(1<=k)/\(aA l.length (u7 l) 0=aA l.length (u7 l) k)/\True) (λ⟨k,nx⟩=>l.length-k) (λ⟨k,nx⟩=>[(7,.i k)]) (λ⟨k,nx⟩=>[]) (λ⟨k,nx⟩=>nx) (1,_) (hA:=⟨oW,oW,(by(try dsimp only);by_cases e:l.length=0;rw[ib (k:=0) (by omega),ib (k:=1) (by omega)];rw[bG (n:=l.length) (by omega) (by simp[u7])]),trivial⟩) (round:=?_)
 rintro⟨k,nx⟩ ⟨hk,hk1,hv, -⟩
 simp only[XY,X0]
 refine oL Tp ?_ ?_ (hp:=rfl)<;>intro c3
 .
  have hk2:k<l.length:=by simpa using c3
  have hk3:k-1<l.length:=by omega
  have e1:((k:Int)-1).toNat=k-1:=by omega
  have vN:mO (aM l[k-1]!) (aM l[k]!)=(gZ (aM l[k-1]!) (aM l[k]!),0):=by unfold mO;rw[ze (hzs _ hk3),ze (hzs _ hk2)];rfl
  have ff:=qE (Ny hk2) (Ny hk3) @e1 @vN ff;refine ae ?_;refine aj ?_;refine aa Tp ?_ (hok:=iE (Wm vN));refine aa Tp ?_;refine cd ?_ ?_<;>intro c4
  . refine aa Tp ?_;exact fo 2 (k:=by rw[Pw (.inr (by rw[hv];exact eO hk2 (by simp only[u7];grind)))];rfl)
  refine ah ?_;refine ai Tp ?_
  show ∃_,_
  have h8:(u7 l) k=true:=by simp only[u7];grind
  exact ay (k+1,_) (h1:=⟨oW,oW,o5b,trivial⟩)
 refine aH ?_
 refine aa Tp ?_
 exact fo 2 (k:=by rw[ZaF hA (by rw[hv];exact ib (by omega))];try rfl)
def um(f:Int)(l:List Zon)(hl:l.length<=20000)(hp:0<l.length)(hv:pQ l)(hf:f<l.length):PureCt prog 91 [.i f,.eptr [.list false (l.map Zon.d)]] (.agg (zD l f).d):=by
 refine oO func91 λff=>?_
 unfold f91
 refine aa Tp ?_
 refine oK Tp ?_ ?_<;>intro c1
 .
  have e1:((l.length:Int)-1).toNat=l.length-1:=by omega
  have hk2:l.length-1<l.length:=by omega
  have ff:=qB @e1 (rY hk2) ff;refine aa Tp ?_ (hok:=by(try simp only[go_sem,ff]);all_goals (first|done|((repeat' (with_reducible apply And.intro))<;>first|(intros;exact Hr l[l.length-1]! (sJ (hv.ok _ hk2)))|omega|(intro h;simp only[XU,XW]at h;omega)|(intros;omega)|(intros;simp_all;done)|skip)))
  exact fo 3 (k:=by rw[zD,if_pos (by grind)];rfl)
 refine aa Tp ?_
 refine ae ?_
 refine yG 3 3 109 40 ev (by rfl) o5v ?_
 simp only[YW,YP]
 refine aa Tp ?_
 refine aj ?_
 refine lp (α:=(Nat)×(Nat)×Nat) [1,3,4] (λ⟨k,r,nx⟩=>(k<=l.length-1-f.toNat)/\(r<nx)/\(3<r)/\True) (λ⟨k,r,nx⟩=>l.length-1-f.toNat-k) (λ⟨k,r,nx⟩=>[(5,.i (f+k))]) (λ⟨k,r,nx⟩=>[(0,⟨109,[[.b false,.v (.string (bs [])),.list true [],.list true []]]⟩),(3,⟨109,[[.b false,.v (.string (bs [])),.list true [],.mrow r 0 (jQ l f.toNat k).length]]⟩),(r,⟨40,(jQ l f.toNat k).map aG.d⟩)]) (λ⟨k,r,nx⟩=>nx) (0,4,_) (hA:=⟨iv,iv,iv,trivial⟩) (round:=?_)
 rintro⟨k,r,nx⟩ ⟨hk,hr,hr0, -⟩
 simp only[XY,X0]
 have n0:0<nx:=by omega
 have n3:3<nx:=by omega
 have hdl:=Ak l f.toNat k
 have ff:=qG @hr @n0 @n3 (nH 0 3) (nH 0 r) (nH 3 r) ff
 refine oL Tp ?_ ?_ (hp:=rfl)<;>intro c2
 .
  have hk2:f.toNat+k<l.length:=by have h9:(f+k+1:Int)<l.length:=(by simpa using c2);omega
  have hk3:f.toNat+(k+1)<l.length:=by have h9:(f+k+1:Int)<l.length:=(by simpa using c2);omega
  have e1:(f+(k:Int)).toNat=f.toNat+k:=by omega
  have e2:(f+(k:Int)+1).toNat=f.toNat+(k+1):=by omega
  have hdv:lh l[f.toNat+k]! l[f.toNat+(k+1)]! = (jR l (f.toNat+k),0):=hv.difv hk3;have ff:=qF (rY hk2) (rY hk3) @e1 @e2 @hdv ff;refine ae ?_;refine aj ?_;refine aa lq ?_ (hok:=iE (Zjk hdv));refine ai Tp ?_;refine ai Tp ?_
  show ∃_,_
  have hst:(jQ l f.toNat (k+1)).map aG.d=(jQ l f.toNat k).map aG.d++[[.v (.string (bs (jR l (f.toNat+k)).apex)),.i (jR l (f.toNat+k)).frm,.i (jR l (f.toNat+k)).too,.list false ((jR l (f.toNat+k)).drop.map ak.d),.list false ((jR l (f.toNat+k)).put.map Sgd.d)]]:=by rw[Zjb,Zi0]
  have hsl:(jQ l f.toNat (k+1)).length=(jQ l f.toNat k).length+1:=by rw[Ak,Ak]
  have ff:=qB hst hsl ff;exact ay (k+1,(nx+25),_) (h1:=⟨iv,iv,iv,trivial⟩)
 refine aH ?_
 refine yI 3 3 r (rows:=(jQ l f.toNat k).map aG.d) (off:=0) (len:=(jQ l f.toNat k).length) ev rfl ev om (by simp) Zfr ?_
 simp only[X6,y8,YW,YP]
 have e9:k=l.length-1-f.toNat:=by have h9 : ¬(f+k+1:Int)<l.length:=(by simpa using c2);omega
 subst e9
 refine aa Tp ?_
 exact fo 3 (k:=by rw[zD,XV (by omega)];rfl)
def bo44:dY prog 44=true:=by kernel_rfl
def Zbs(l:List Zon)(b:Bool)(n:Int):PureCt prog 44 [.list false (l.map Zon.d),.b b,.i n] (.tuple [.agg (jW l b n).1.d,.i (jW l b n).2]):=by
 refine xP func44 rfl bo44 o5r (by simp[f44]) ?_
 unfold f44
 simp only[zS]
 have ff:=True.intro
 refine aa Tp ?_
 refine ae ?_
 refine aa Tp ?_
 refine cd ?_ ?_<;>intro c1
 . refine aa Tp ?_;refine aL ?_;exact fin 3 (hr:=by(try simp only[go_sem,ff]);all_goals (rw[jW,if_pos (by grind)];rfl))
 .
  have hl2:l.length<=20000:=by omega
  have p1 : ¬(20000<l.length\/(b=true/\(n<0\/65536<=n))):=by rintro (q|⟨q1,q2⟩);omega;grind
  refine ah ?_
  show DW _ _ _ _ _
  refine aa Tp ?_ (hok:=by(try simp only[go_sem,ff]);all_goals (exact Zbr l hl2))
  refine ae ?_;refine aa Tp ?_;refine cd ?_ ?_<;>intro c2
  .
   have BG:sO l=false:=by cases q:sO l with|false=>rfl|true=>(rw[KQ q]at c2;cases c2)
   refine aa Tp ?_;refine aL ?_;exact fin 3 (hr:=by(try simp only[go_sem,ff]);all_goals (rw[jW,XV p1,X3 BG];rfl))
  .
   have BG:sO l=true:=by cases q:sO l with|true=>rfl|false=>(rw[Px q]at c2;cases c2)
   have hvs:=KP.1 BG;have nL:=KQ BG;have ff:=qA @nL ff;refine ah ?_
   show DW _ _ _ _ _
   refine ae ?_;refine aa Tp ?_;refine cd ?_ ?_<;>intro c3
   . refine aa Tp ?_;refine aL ?_;exact fin 3 (hr:=by(try simp only[go_sem,ff]);all_goals (rw[jW,XV p1,XV (by rw[BG];exact Bool.noConfusion),X3 (by omega)];rfl))
   .
    have hp:0<l.length:=by omega
    refine ah ?_
    show DW _ _ _ _ _
    refine qR 3 0 ev ev (by simp only[bC,D.nr,Zfp];rfl) ?_
    refine aa Tp ?_;refine aa Tp ?_;refine ae ?_
    rcases b with _|_
    .
     have hfi:xm l false n = -1:=rfl;have hfl:=BZ l false n;refine aa Tp ?_;refine cd ?_ ?_ (hp:=rfl)<;>intro c4
     . cases c4
     .
      refine ah ?_
      show DW _ _ _ _ _
      refine aa Tp ?_ (hok:=o0c)
      refine aL ?_;exact fin 3 (hr:=o1t)
    .
     refine aa Tp ?_;refine cd ?_ ?_ (hq:=rfl)<;>intro c4
     .
      refine aa Tp ?_;refine aj ?_;refine lp (α:=(Nat)×Nat) [2,6,10,43,44] (λ⟨k,nx⟩=>(k<=l.length)/\(1<nx)/\True) (λ⟨k,nx⟩=>l.length-k) (λ⟨k,nx⟩=>[(11,.i (nJ (λi=>decide (aM l[i]! = n)) k)),(45,.i k)]) (λ⟨k,nx⟩=>[(1,⟨109,[[.b false,.v (.string (bs [])),.list true [],.list true []]]⟩)]) (λ⟨k,nx⟩=>nx) (0,_) (hA:=⟨iv,iv,trivial⟩) (round:=?_)
      rintro⟨k,nx⟩ ⟨hk,hx, -⟩
      show DW _ _ _ _ { n:=_,t:=tab _,h:=_,nx:=_,e:=_ }
      simp only[XY,X0];have ff:=qA @hx ff;refine aa Tp ?_;refine ae ?_;refine cd ?_ ?_ (hp:=rfl)<;>intro c5
      .
       have hk2:k<l.length:=by simpa using c5
       have ff:=qA (Ny hk2) ff;refine ah ?_
       show DW _ _ _ _ _
       refine ae ?_;refine aj ?_;refine aa Tp ?_;refine aa Tp ?_;refine cd ?_ ?_<;>intro c6
       .
        refine ai Tp ?_
        show DW _ _ _ _ _
        refine ai Tp ?_
        show ∃_,_
        have ff:=qA (TP (p:=λi=>decide (aM l[i]! = n)) (k:=k) (by grind)) ff
        exact ay (k+1,_) (h1:=⟨iv,iv,trivial⟩)
       .
        refine ah ?_
        show DW _ _ _ _ _
        refine ai Tp ?_
        show ∃_,_
        have ff:=qA (TQ (p:=λi=>decide (aM l[i]! = n)) (k:=k) (by grind)) ff
        exact ay (k+1,_) (h1:=⟨iv,iv,trivial⟩)
      .
       have e8:k=l.length:=by omega
       subst e8;have hfi:xm l true n=nJ (λi=>decide (aM l[i]! = n)) l.length:=rfl
       have hfl:=BZ l true n;refine aH ?_
       show DW _ _ _ _ _
       refine aa Tp ?_ (hok:=o0c)
       refine aL ?_;exact fin 3 (hr:=o1t)
     . cases c4
def PY{l:List Zon}{b:Bool}{n:Int}{x:Off}{e:Int}(h:jW l b n=(x,e)):PureCt prog 44 [.list false (l.map Zon.d),.b b,.i n] (.tuple [.agg x.d,.i e]):=by
 have:=Zbs l b n
 rwa [h]at this
def CJ(s:gU)(o:Off)(t:Int)(hf : ∀i,i<o.deltas.length->fO o.deltas[i]!.put):PureCt prog 45 [.agg s.d,.agg o.d,.i t] (.tuple [.agg (kR s o t).1.d,.i (kR s o t).2]):=by
 refine oO func45 λff=>?_
 unfold f45
 refine aa Tp ?_
 refine oK Tp ?_ ?_ (hok:=oa2 (PW s) (Zbq o hf))<;>intro c1
 . refine aa Tp ?_;exact fo 3 (k:=by rw[kR,if_pos (by grind)];try rfl)
 have hs:lS s=true:=by grind
 have ho:kI o=true:=by grind
 have p1 : ¬(lS s=false\/kI o=false\/t<s.seen\/10000000<t):=by rintro (q|q|q|q);rw[hs]at q;cases q;rw[ho]at q;cases q;omega;omega
 refine ae ?_
 refine aa Tp ?_ (hok:=oF (Zbx o))
 refine aa Tp ?_
 refine cd ?_ ?_<;>intro c2
 . refine aa Tp ?_;exact fo 3 (k:=by rw[kR,if_neg p1,if_pos (by grind)];try rfl)
 have p2 : ¬(s.has=true/\(oQ o).2=true/\(oQ o).1≠s.zone.apex):=by grind
 refine ah ?_
 refine oK Tp ?_ ?_<;>intro c3
 . refine aa Tp ?_;exact fo 3 (k:=by rw[kR,if_neg p1,if_neg p2,if_pos (by grind)];try rfl)
 have p3 : ¬(s.has=false/\o.full=false):=by grind
 refine oK Tp ?_ ?_<;>intro c4
 .
  have hfu:o.full=true:=by grind
  have zV:=Zfa ho hfu;refine ae ?_;refine aa Tp ?_ (hok:=oF (ZbB s o.zone (Lx hs) zV));refine aa Tp ?_;refine cd ?_ ?_<;>intro c5
  . refine aa Tp ?_;exact fo 3 (k:=by rw[kR,if_neg p1,if_neg p2,if_neg p3,if_pos hfu,if_pos (by grind)];try rfl)
  refine ah ?_;refine aa Tp ?_ (hok:=oF (Hr o.zone (sJ zV)));exact fo 3 (k:=by rw[kR,if_neg p1,if_neg p2,if_neg p3,if_pos hfu,if_neg (by grind)];try rfl)
 have hfu:o.full=false:=by grind
 have hh:s.has=true:=by cases q:s.has with|true=>rfl|false=>exact absurd ⟨q,hfu⟩ p3
 have hsv:=Lx hs hh
 have hol:=Zfb ho
 refine aa Tp ?_ (hok:=oF (Hr s.zone (sJ hsv)))
 refine ae ?_
 refine aa Tp ?_
 refine aj ?_
 refine lp (α:=(Nat)×(Zon)×Nat) [2,6,11,81,82] (λ⟨k,w,nx⟩=>(k<=o.deltas.length)/\(54<nx)/\(nu s.zone o.deltas k=(w,0))/\True) (λ⟨k,w,nx⟩=>o.deltas.length-k) (λ⟨k,w,nx⟩=>[(83,.i k)]) (λ⟨k,w,nx⟩=>[(0,⟨49,[s.d]⟩),(1,⟨109,[o.d]⟩),(2,⟨49,[[.b false,.v (.string (bs [])),.list true [],.i 0]]⟩),(54,⟨24,[w.d]⟩)]) (λ⟨k,w,nx⟩=>nx) (0,s.zone,_) (hA:=⟨iv,iv,rfl,trivial⟩) (round:=?_)
 rintro⟨k,w,nx⟩ ⟨hk,hx,ha, -⟩
 simp only[XY,X0]
 have n0:0<nx:=by omega
 have n1:1<nx:=by omega
 have n2:2<nx:=by omega
 have ff:=qE @hx @n0 @n1 @n2 ff
 refine aa Tp ?_
 refine ae ?_
 refine cd ?_ ?_ (hp:=rfl)<;>intro c6
 .
  have hk2:k<o.deltas.length:=by simpa using c6
  have ff:=qA (JE hk2) ff;refine ah ?_;refine ae ?_;refine aj ?_;refine aa Tp ?_
  rcases hap:eD w o.deltas[k]! with⟨x,e1⟩
  have ff:=qA @hap ff;refine aa Tp ?_ (hok:=oF (ZjE (hf k hk2) hap));refine oK Tp ?_ ?_<;>intro c7
  .
   have he1:e1≠0:=by grind
   have hst:nu s.zone o.deltas (k+1)=(x,e1):=by rw[OW (by rw[ha]),ha];exact hap
   have hsp:=XN (z:=s.zone) (l:=o.deltas) (k:=k+1) (by rw[hst];exact he1) o.deltas.length (by omega)
   refine aa Tp ?_;exact fo 3 (k:=by rw[kR,XV p1,XV p2,XV p3,XV (by rw[hfu];exact Bool.noConfusion),hsp,hst,X3 he1];try rfl)
  obtain rfl:e1=0:=by grind
  refine ai Tp ?_;refine ai Tp ?_
  show ∃_,_
  exact ay (k+1,x,_) (h1:=⟨iv,iv,(by(try dsimp only);rw[OW (by rw[ha]),ha];exact hap),trivial⟩)
 have e8:k=o.deltas.length:=by omega
 subst e8
 refine aH ?_
 refine aa Tp ?_
 exact fo 3 (k:=by rw[kR,XV p1,XV p2,XV p3,XV (by rw[hfu];exact Bool.noConfusion),ha,XV (λq=>q rfl)];try rfl)
def Zbv(s:gU)(l:List Zon)(t:Int):PureCt prog 14 [.agg s.d,.list false (l.map Zon.d),.i t] (.tuple [.agg (lW s l t).1.d,.i (lW s l t).2]):=by
 refine oO func14 λff=>?_
 unfold f14
 refine aa Tp ?_
 refine oK Tp ?_ ?_ (hok:=oH (PW s))<;>intro c1
 . refine aa Tp ?_;exact fo 3 (k:=by rw[lW,if_pos (by grind)];try rfl)
 have hs:lS s=true:=by grind
 refine aa Tp ?_
 refine ae ?_
 rcases hsv:jW l s.has (xN s)with⟨x,e0⟩
 have Dq:=ZcW hsv
 rcases fOrT s.has with hh|hh
 .
  have hss:xN s=0:=by unfold xN;rw[hh];try rfl
  have FB:jW l s.has 0=(x,e0):=by rw[hss]at hsv;exact hsv
  have ff:=qA @FB ff;refine aa Tp ?_;refine cd ?_ ?_ (hp:=rfl)<;>intro c2
  . exfalso;rw[hh]at c2;cases c2
  refine ah ?_;refine aa Tp ?_ (hok:=oF (PY FB));refine oK Tp ?_ ?_<;>intro c3
  . refine aa Tp ?_;exact fo 3 (k:=o2o)
  refine aa Tp ?_ (hok:=o0o)
  exact fo 3 (k:=o2p)
 have hss:xN s=aM s.zone:=by unfold xN;rw[hh];try rfl
 have hsz:=Lx hs hh
 have FB:jW l s.has (aM s.zone)=(x,e0):=by rw[hss]at hsv;exact hsv
 have ff:=qB @hsz @FB ff
 refine aa Tp ?_
 refine cd ?_ ?_ (hq:=rfl)<;>intro c2
 .
  refine ai Tp ?_ (hok:=oF (oq hsz));refine aa Tp ?_ (hok:=oF (PY FB));refine oK Tp ?_ ?_<;>intro c3
  . refine aa Tp ?_;exact fo 3 (k:=o2o)
  refine aa Tp ?_ (hok:=o0o)
  exact fo 3 (k:=o2p)
 exfalso;rw[hh]at c2;cases c2
def Zik{α:Type}(l:List α)(i:Nat)(h:i<l.length):(l.take (0+i)++(l.drop (i+1)).take (l.length-(i+1))++l.drop (0+i+(l.length-(i+1)))).take (l.length-1)=l.eraseIdx i:=by
 have e1:(l.drop (i+1)).take (l.length-(i+1))=l.drop (i+1):=Yl (by simp)
 rw[e1,Nat.zero_add,List.eraseIdx_eq_take_drop_succ,List.take_append_of_le_length (by simp;omega),Yl (by simp;omega)]
def Zil{α:Type}(l:List α)(i:Nat)(h:i<l.length):(l.take (0+i)++(l.drop (i+1)).take (l.length-(i+1))++l.drop (0+i+(l.length-(i+1)))).length=l.length:=by
 simp;omega
def ins_a{α:Type}(l:List α)(x:α)(i:Nat)(h:i<l.length):(l.take (i+1)++((l.drop i).take (l.length-i)++l.drop (i+(1+(l.length-i))))).take i++x::(l.take (i+1)++((l.drop i).take (l.length-i)++l.drop (i+(1+(l.length-i))))).drop (i+1)=l.take i++x::l.drop i:=by
 have e1:(l.drop i).take (l.length-i)=l.drop i:=Yl (by simp)
 have e2:l.drop (i+(1+(l.length-i)))=[]:=List.drop_of_length_le om
 rw[e1,e2,Yv,List.take_append_of_le_length (by simp;omega),List.take_take,List.drop_append_of_le_length (by simp;omega),List.drop_of_length_le (l:=l.take (i+1)) (by simp;omega)]
 rw[show min i (i+1)=i from by omega]
 simp
def ins_c{α:Type}(l z:List α)(x:α)(i:Nat)(h:i<l.length)(hz:z.length=l.length+1-i):(((l.take i++z).take i++x::(l.take i++z).drop (i+1)).take (i+1))++((l.drop i).take (l.length-i)++((l.take i++z).take i++x::(l.take i++z).drop (i+1)).drop (i+1+(l.length-i)))=l.take i++x::l.drop i:=by
 have e1:(l.drop i).take (l.length-i)=l.drop i:=Yl (by simp)
 have e0:(l.take i).length=i:=by simp;omega
 have e2:((l.take i++z).take i)=l.take i:=by rw[List.take_append_of_le_length (by omega),Yl (by omega)]
 have e3:l.take i++x::(l.take i++z).drop (i+1)=l.take i++[x]++(l.take i++z).drop (i+1):=by simp
 simp only[e1,e2,e3]
 have e4:(l.take i++[x]).length=i+1:=by simp;omega
 rw[List.take_append_of_le_length (by omega),Yl (by omega)]
 have e5:(l.take i++[x]++(l.take i++z).drop (i+1)).length=l.length+1:=by simp[hz];omega
 rw[List.drop_of_length_le (l:=l.take i++[x]++(l.take i++z).drop (i+1)) (by omega)]
 simp
def Zjh(l:List (List D))(i m n0:Nat)(h:H)(n r:Nat)(hm:m=l.length)(hi:i<l.length)(hi2:n0=i+1)(hl:l.length<=1000000)(hr:h r=some ⟨84,l⟩)(hc : ∀q∈l,q.length=5):bU prog 164 [.mrow r 0 m,.i i,.i n0] h n (λd h' n'=>d = .mrow r 0 (l.length-1)/\h'=upd h r (some ⟨84,l.eraseIdx i⟩)/\n<=n'):=by
 refine oP func164 λhnone ff=>?_
 unfold f164
 subst hm
 subst hi2
 have hE1:((l.length:Int)-((i+1:Nat):Int)).toNat=l.length-(i+1):=by omega
 have hE2:((i:Int)-((0:Nat):Int)).toNat=i:=by omega
 have hE3:(List.take (l.length-(i+1)) (List.drop (i+1) l)).length=l.length-(i+1):=by simp
 have hE4:i+(l.length-(i+1))=l.length-1:=by omega
 have FY:=Zik l i hi
 have hE6:=Zil l i hi
 have ff:=qF @hr @hE1 @hE2 @hE3 @hE4 ff
 refine aa Tp ?_
 refine cB ?_
 refine ZhB Tp 5 ?_
 refine aP Tp ?_
 try simp only[aI]
 refine oK Tp ?_ ?_ (hp:=rfl)<;>intro c1
 . exfalso;simp at c1;omega
 refine aa Tp ?_
 refine ae ?_
 refine Ai Tp 6 ?_
 refine ZhR Tp 6 (news:=(l.drop (i+1)).take (l.length-(i+1))) (hrl:=by intro q hq;rw[hc q (List.mem_of_mem_drop (List.mem_of_mem_take hq))];rfl) ?_
 refine aP Tp ?_
 try simp only[aI]
 refine cB ?_
 refine ZhD Tp 4 (l.length-1) l.length ?_
 refine ZhP Tp 5 ?_
 refine aP Tp ?_
 try simp only[aI]
 refine aa Tp ?_
 refine aL ?_
 exact cK (upd h r (some ⟨84,l.eraseIdx i⟩)) (hr:=oS (k:=by first|omega|exact⟨rfl,rfl,om⟩|exact⟨rfl,om⟩)) (hh:=by rw[<-FY];intro q;left;simp only[upd];split<;>simp_all)
def Zhi(l:List (List D))(x:List D)(i m:Nat)(h:H)(n r r2:Nat)(hm:m=l.length)(hi:i<=l.length)(hl:l.length<=1000000)(hr:h r=some ⟨84,l⟩)(hr2:h r2=some ⟨84,[x]⟩)(hne:r≠r2)(hx:x.length=5)(hc : ∀q∈l,q.length=5):bU prog 166 [.mrow r 0 m,.i i,.mrow r2 0 1] h n (λd h' n'=>∃r',d = .mrow r' 0 (l.length+1)/\h' r'=some ⟨84,(l.take i++x::l.drop i)⟩/\(r'=r\/n<=r'/\r'<n')/\(∀q,q≠r->q<n->h' q=h q)/\n<=n'):=by
 refine oP func166 λhnone ff=>?_
 unfold f166
 subst hm
 have hrn:r<n:=by rcases YG r n with q|q;exact q;rw[hnone r q]at hr;cases hr
 have hrn2:r2<n:=by rcases YG r2 n with q|q;exact q;rw[hnone r2 q]at hr2;cases hr2
 have hf1 : ∀k,r≠n+k:=λk=>by omega
 have hf2 : ∀k,r2≠n+k:=λk=>by omega
 have hne2:r2≠r:=λq=>hne q.symm
 have hE0:((1:Nat):Int)=1:=rfl
 have hE1:((l.length:Int)-(i:Int)).toNat=l.length-i:=by omega
 have hE2:((i:Int)-((0:Nat):Int)).toNat=i:=by omega
 have hE3:((l.length:Int)+1-(i:Int))=((l.length+1-i:Nat):Int):=by omega
 have hE4:((i:Int)+1).toNat=i+1:=by omega
 have FY:i+(l.length+1-i)=l.length+1:=by omega
 have hE6:((l.length:Int)+1)=((l.length+1:Nat):Int):=by omega
 have hE7:((i:Int)+1)=((i+1:Nat):Int):=by omega
 have hE8:(((l.length+1:Nat):Int)-((i+1:Nat):Int)).toNat=l.length-i:=by omega
 have hE9:(((l.length+1:Nat):Int)-(i:Int)).toNat=l.length+1-i:=by omega
 have ff:=qI @hr @hr2 @hne @hne2 @hf1 @hf2 @hE1 @hE2 ff
 refine oD Tp ?_
 refine oK Tp ?_ ?_ (hp:=rfl)<;>intro c1
 . exfalso;simp at c1
 refine aa Tp ?_
 refine oK Tp ?_ ?_ (hp:=rfl) (hq:=rfl)<;>intro c2
 .
  have hi9:i=l.length:=by have:(i:Int)=(l.length:Int):=(by simpa using c2);omega
  refine cB ?_;refine Vk Tp 2 (r:=r) o6b (hrl:=by intro q hq;simp at hq;subst hq;exact hx) (hby:=by rw[show(prog).bytesOf 84=80 from rfl];simp;omega) (h63:=by simp;omega) ?_
  refine aP Tp ?_
  try simp only[aI]
  refine aL ?_;exact cK (_) (hh:=λ_=>.inl rfl) (hr:=oS (k:=by exact⟨_,rfl,by rw[hi9];simp[upd],.inr (by omega),λq h1 h2=>by simp only[upd];repeat rw[XV (by omega)],om⟩))
 have hi9:i<l.length:=by have : ¬(i:Int)=(l.length:Int):=(by simpa using c2);omega
 refine ae ?_
 refine cB ?_
 refine NB Tp 4 (λc hc1 hc2=>?_)
 refine aP Tp ?_
 try simp only[aI]
 refine cd ?_ ?_<;>intro c3
 .
  have ff:=qB @hE0 @hE3 ff;refine cB ?_;refine ZhQ Tp 8 (r:=r) (off:=0) (n:=i) (c:=c) (kk:=.i64) (l.length+1-i) rfl (by omega) (by rw[show(prog).bytesOf 84=80 from rfl];omega) (by omega) ?_
  refine aP Tp ?_
  try simp only[aI]
  refine cB ?_;refine BX Tp 4 1 ?_;refine aP Tp ?_
  try simp only[aI]
  have ff:=qA @hE0 ff;refine ae ?_;refine Ai Tp 8 ?_;refine BX Tp 8 (l.length-i) ?_;refine aP Tp ?_
  try simp only[aI]
  refine aa Tp ?_;refine aL ?_;exact cK (_) (hh:=λ_=>.inl rfl) (hr:=oS (k:=by exact⟨n+29,by simp[FY],by simp[upd];exact ins_c l _ x i hi9 (by simp),.inr (by omega),λq h1 h2=>by simp only[upd];repeat rw[XV (by omega)],om⟩))
 refine ah ?_
 have ff:=qA @hE6 ff
 refine cB ?_
 refine Nr Tp 4 (r:=r) (off:=0) (c:=c) (l.length+1) rfl (by have:(l.length:Int)+1<=(c:Int):=(by simpa using c3);omega) ?_
 refine aP Tp ?_
 try simp only[aI]
 refine ae ?_
 have ff:=qD @hE0 @hE7 @hE8 ff
 refine cB ?_
 refine ZhS Tp 6 (aX:=227) (t:=22) (u:=4) (r:=r2) (r2:=r) (λq=>hne q.symm) ?_
 refine aP Tp ?_
 try simp only[aI]
 refine cd ?_ ?_ (hq:=rfl)<;>intro c4
 .
  have ff:=qA @hE9 ff;refine ae ?_;refine Ai Tp 8 ?_;refine BX Tp 8 (l.length-i) ?_;refine aP Tp ?_
  try simp only[aI]
  refine cB ?_;refine BX Tp 4 1 ?_;refine aP Tp ?_
  try simp only[aI]
  refine aa Tp ?_;refine aL ?_;exact cK (_) (hh:=λ_=>.inl rfl) (hr:=oS (k:=by exact⟨r,rfl,by simp[upd];exact ins_a l x i hi9,.inl rfl,λq h1 h2=>by simp only[upd];repeat rw[XV (by omega)],om⟩))
 exfalso;simp at c4
def ZaO(s:Sgd):PureCt prog 99 [.agg s.d] (.b (tJ s)):=by
 refine oO func99 λff=>?_
 unfold f99
 refine oC Tp ?_
 exact fo 2 (k:=by simp[tJ,dU];rw[YL];simp)
def Za8(s:Sgd)(n:Chg):PureCt prog 101 [.agg s.d,.eptr n.d] (.b (dU n.set.name s)):=by
 refine oO func101 λff=>?_
 unfold f101
 refine oC Tp ?_
 exact fo 2 (k:=by simp[tJ,dU];rw[YL];simp)
def PN(s:Sgd)(t:RSet):PureCt prog 177 [.agg s.d,.eptr t.d] (.b (dU t.name s)):=by
 refine oO func177 λff=>?_
 unfold f177
 refine oC Tp ?_
 exact fo 2 (k:=by simp[tJ,dU];rw[YL];simp)
def Za3(l:List Sgd)(hl:l.length<=1000000):PureCt prog 156 [.list false (l.map Sgd.d),.fn (.func 99) [] []] (.i (dV (tJ) l 0)):=by
 refine oO func156 λff=>?_
 unfold f156
 refine aa Tp ?_
 refine ae ?_
 refine aa Tp ?_
 refine aj ?_
 refine lp (α:=(Nat)×Nat) [0,1,7] (λ⟨k,nx⟩=>(k<=l.length)/\(dV (tJ) l 0=dV (tJ) l k)/\True) (λ⟨k,nx⟩=>l.length-k) (λ⟨k,nx⟩=>[(8,.i k)]) (λ⟨k,nx⟩=>[]) (λ⟨k,nx⟩=>nx) (0,_) (hA:=⟨iv,rfl,trivial⟩) (round:=?_)
 rintro⟨k,nx⟩ ⟨hk,hv, -⟩
 simp only[XY,X0]
 refine aa Tp ?_
 refine ae ?_
 refine cd ?_ ?_ (hp:=rfl)<;>intro c1
 .
  have hk2:k<l.length:=by simpa using c1
  have ff:=qA (dF hk2) ff;refine ah ?_;refine ae ?_;refine aj ?_;refine aa Tp ?_;refine aa Tp ?_ (hok:=oH (ZaO l[k]!));refine cd ?_ ?_<;>intro c2
  . refine aa Tp ?_;exact fo 0 (k:=by rw[hv,Gg hk2 c2])
  refine ah ?_;refine ai Tp ?_
  show ∃_,_
  exact ay (k+1,_) (h1:=⟨iv,o4i,trivial⟩)
 refine aH ?_
 refine aa Tp ?_
 exact fo 0 (k:=o5w)
def Za5(l:List Sgd)(hl:l.length<=1000000)(n:Chg):PureCt prog 156 [.list false (l.map Sgd.d),.fn (.func 101) [] [.eptr n.d]] (.i (dV (dU n.set.name) l 0)):=by
 refine oO func156 λff=>?_
 unfold f156
 refine aa Tp ?_
 refine ae ?_
 refine aa Tp ?_
 refine aj ?_
 refine lp (α:=(Nat)×Nat) [0,1,7] (λ⟨k,nx⟩=>(k<=l.length)/\(dV (dU n.set.name) l 0=dV (dU n.set.name) l k)/\True) (λ⟨k,nx⟩=>l.length-k) (λ⟨k,nx⟩=>[(8,.i k)]) (λ⟨k,nx⟩=>[]) (λ⟨k,nx⟩=>nx) (0,_) (hA:=⟨iv,rfl,trivial⟩) (round:=?_)
 rintro⟨k,nx⟩ ⟨hk,hv, -⟩
 simp only[XY,X0]
 refine aa Tp ?_
 refine ae ?_
 refine cd ?_ ?_ (hp:=rfl)<;>intro c1
 .
  have hk2:k<l.length:=by simpa using c1
  have ff:=qA (dF hk2) ff;refine ah ?_;refine ae ?_;refine aj ?_;refine aa Tp ?_;refine aa Tp ?_ (hok:=oH (Za8 l[k]! n));refine cd ?_ ?_<;>intro c2
  . refine aa Tp ?_;exact fo 0 (k:=by rw[hv,Gg hk2 c2])
  refine ah ?_;refine ai Tp ?_
  show ∃_,_
  exact ay (k+1,_) (h1:=⟨iv,o4i,trivial⟩)
 refine aH ?_
 refine aa Tp ?_
 exact fo 0 (k:=o5w)
def Za4(l:List Sgd)(hl:l.length<=1000000)(t:RSet):PureCt prog 156 [.list false (l.map Sgd.d),.fn (.func 177) [] [.eptr t.d]] (.i (dV (dU t.name) l 0)):=by
 refine oO func156 λff=>?_
 unfold f156
 refine aa Tp ?_
 refine ae ?_
 refine aa Tp ?_
 refine aj ?_
 refine lp (α:=(Nat)×Nat) [0,1,7] (λ⟨k,nx⟩=>(k<=l.length)/\(dV (dU t.name) l 0=dV (dU t.name) l k)/\True) (λ⟨k,nx⟩=>l.length-k) (λ⟨k,nx⟩=>[(8,.i k)]) (λ⟨k,nx⟩=>[]) (λ⟨k,nx⟩=>nx) (0,_) (hA:=⟨iv,rfl,trivial⟩) (round:=?_)
 rintro⟨k,nx⟩ ⟨hk,hv, -⟩
 simp only[XY,X0]
 refine aa Tp ?_
 refine ae ?_
 refine cd ?_ ?_ (hp:=rfl)<;>intro c1
 .
  have hk2:k<l.length:=by simpa using c1
  have ff:=qA (dF hk2) ff;refine ah ?_;refine ae ?_;refine aj ?_;refine aa Tp ?_;refine aa Tp ?_ (hok:=oH (PN l[k]! t));refine cd ?_ ?_<;>intro c2
  . refine aa Tp ?_;exact fo 0 (k:=by rw[hv,Gg hk2 c2])
  refine ah ?_;refine ai Tp ?_
  show ∃_,_
  exact ay (k+1,_) (h1:=⟨iv,o4i,trivial⟩)
 refine aH ?_
 refine aa Tp ?_
 exact fo 0 (k:=o5w)
def Zbm(l:List Sgd)(hl:l.length<=1000000):PureCt prog 98 [.list false (l.map Sgd.d),.fn (.func 99) [] []] (.b (decide (0<=dV (tJ) l 0))):=by
 refine oO func98 λff=>?_
 unfold f98
 refine aa Tp ?_
 refine aa Tp ?_ (hok:=oH (Za3 l hl))
 exact fp 0
def Hf(l:List Sgd)(hl:l.length<=1000000)(n:Chg):PureCt prog 98 [.list false (l.map Sgd.d),.fn (.func 101) [] [.eptr n.d]] (.b (decide (0<=dV (dU n.set.name) l 0))):=by
 refine oO func98 λff=>?_
 unfold f98
 refine aa Tp ?_
 refine aa Tp ?_ (hok:=oH (Za5 l hl n))
 exact fp 0
def ZaN(z:Zon)(hl:z.sets.length<=1000000):PureCt prog 47 [.agg z.d] (.b (jG z)):=by
 refine oO func47 λff=>?_
 unfold f47
 refine aa Tp ?_
 refine aa Tp ?_ (hok:=oH (Zbm _ hl))
 exact fo 0 (k:=by rw[ZeC])
def ZaS(n:Chg):PureCt prog 96 [.agg n.d] (.b (jf n)):=by
 refine oO func96 λff=>?_
 unfold f96
 refine aa Tp ?_
 refine oK Tp ?_ ?_ (hok:=oH zF)<;>intro c1
 . refine aa Tp ?_;exact fo 0 (k:=o5o)
 refine ae ?_
 refine aa Tp ?_
 refine aj ?_
 refine oL Tp ?_ ?_<;>intro c2
 .
  refine cd ?_ ?_<;>intro c3
  . refine aa Tp ?_;exact fo 0 (k:=o5o)
  refine oL Tp ?_ ?_<;>intro c4
  .
   refine cd ?_ ?_<;>intro c5
   . refine aa Tp ?_;exact fo 0 (k:=o5o)
   refine aa Tp ?_;refine cd ?_ ?_<;>intro c6
   . refine aa Tp ?_ (hok:=iE @vg);exact fo 0 (k:=o5o)
   refine ah ?_;refine aa Tp ?_;exact fo 0 (k:=o5o)
  refine ai Tp ?_;refine cd ?_ ?_<;>intro c7
  . refine aa Tp ?_;exact fo 0 (k:=o5o)
  refine aa Tp ?_;refine cd ?_ ?_<;>intro c8
  . refine aa Tp ?_ (hok:=iE @vg);exact fo 0 (k:=o5o)
  refine ah ?_;refine aa Tp ?_;exact fo 0 (k:=o5o)
 refine ai Tp ?_
 refine cd ?_ ?_<;>intro c9
 . refine aa Tp ?_;exact fo 0 (k:=o5o)
 refine oL Tp (λc10=>?_) (λc10=>?_)
 .
  refine cd (λc11=>?_) (λc11=>?_)
  . refine aa Tp ?_;exact fo 0 (k:=o5o)
  refine aa Tp ?_;refine cd (λc12=>?_) (λc12=>?_)
  . refine aa Tp ?_ (hok:=iE @vg);exact fo 0 (k:=o5o)
  refine ah ?_;refine aa Tp ?_;exact fo 0 (k:=o5o)
 refine ai Tp ?_
 refine cd (λc13=>?_) (λc13=>?_)
 . refine aa Tp ?_;exact fo 0 (k:=o5o)
 refine aa Tp ?_
 refine cd (λc14=>?_) (λc14=>?_)
 . refine aa Tp ?_ (hok:=iE @vg);exact fo 0 (k:=o5o)
 refine ah ?_
 refine aa Tp ?_
 exact fo 0 (k:=o5o)
def Zbi(c:Chg):PureCt prog 97 [.agg c.d] (.b (gB c)):=by
 refine oO func97 λff=>?_
 unfold f97
 refine aa Tp ?_
 refine oK Tp ?_ ?_ (hok:=oH zF)<;>intro c1
 . refine aa Tp ?_;exact fo 0 (k:=o5p)
 refine ae ?_
 refine aa Tp ?_
 refine aj ?_
 refine oL Tp ?_ ?_<;>intro c2
 .
  refine cd ?_ ?_<;>intro c3
  . refine aa Tp ?_ (hok:=oH vg);exact fo 0 (k:=o5p)
  refine aa Tp ?_;refine cd ?_ ?_<;>intro c4
  . refine aa Tp ?_;exact fo 0 (k:=o5p)
  refine aa Tp ?_;refine cd ?_ ?_<;>intro c5
  . refine aa Tp ?_;exact fo 0 (k:=o5p)
  refine ah ?_;refine aa Tp ?_;exact fo 0 (k:=o5p)
 refine ai Tp ?_
 refine cd ?_ ?_<;>intro c6
 . refine aa Tp ?_ (hok:=oH vg);exact fo 0 (k:=o5p)
 refine aa Tp ?_
 refine cd ?_ ?_<;>intro c7
 . refine aa Tp ?_;exact fo 0 (k:=o5p)
 refine aa Tp ?_
 refine cd ?_ ?_<;>intro c8
 . refine aa Tp ?_;exact fo 0 (k:=o5p)
 refine ah ?_
 refine aa Tp ?_
 exact fo 0 (k:=o5p)
def Pz(n:Str)(a:Str):PureCt prog 48 [.v (.string (bs n)),.v (.string (bs a))] (.b (kC n a)):=by
 refine oO func48 λff=>?_
 unfold f48
 refine aa Tp ?_
 refine aa Tp ?_ (hok:=oH Mo)
 refine aa Tp ?_
 exact fp 1
def Eu(s:Sgd)(n:Str)(t:Int):PureCt prog 160 [.agg s.d,.v (.string (bs n)),.eptr [.i t]] (.i (qC s.q ⟨n,t⟩)):=by
 refine oO func160 λff=>?_
 unfold f160
 refine aa Tp ?_
 refine oK Tp ?_ ?_<;>intro c1
 . refine aa Tp ?_ (hok:=oH Mv);refine aa Tp ?_;exact fo 2 (k:=by simp[qC,Sgd.q];grind)
 refine aa Tp ?_ (hok:=oH Gy)
 exact fo 2 (k:=by simp[qC,Sgd.q];grind)
def sQ(a b:List Dat)(hl:a.length<=1000000):PureCt prog 77 [.list false (a.map Dat.d),.list false (b.map Dat.d)] (.b (kM a b)):=Gl a b hl
def Zbn(l:List Sgd)(n:Str)(t:Int)(hl:l.length<=1000000):PureCt prog 159 [.list false (l.map Sgd.d),.v (.string (bs n)),.fn (.func 160) [] [.eptr [.i t]]] (.tuple [.i (bz l ⟨n,t⟩),.b (dB l ⟨n,t⟩)]):=by
 refine oO func159 λff=>?_
 unfold f159
 refine oD Tp ?_
 refine ae ?_
 refine aj ?_
 refine lp (α:=(Nat)×(Nat)×Nat) [0,1,2,8] (λ⟨i,j,nx⟩=>(i<=j)/\(j<=l.length)/\(bz l ⟨n,t⟩=pJ (λk=>qC l[k]!.q ⟨n,t⟩) i j)/\True) (λ⟨i,j,nx⟩=>j-i) (λ⟨i,j,nx⟩=>[(9,.i i),(10,.i j)]) (λ⟨i,j,nx⟩=>[]) (λ⟨i,j,nx⟩=>nx) (0,l.length,_) (hA:=⟨iv,iv,rfl,trivial⟩) (round:=?_)
 rintro⟨i,j,nx⟩ ⟨hij,hj,hv, -⟩
 simp only[XY,X0]
 refine oL Tp ?_ ?_ (hp:=rfl)<;>intro c1
 .
  have hk2:i<j:=by simpa using c1
  have hm:(i+j) / 2<l.length:=by omega
  have ff:=qB (TF (i:=i) (j:=j) (by omega)) (dF hm) ff
  refine aj ?_;refine aa Tp ?_;refine aa Tp ?_ (hok:=oH (Eu l[(i+j) / 2]! n t));refine cd ?_ ?_<;>intro c2
  .
   refine ai Tp ?_
   show ∃_,_
   exact ay ((i+j) / 2+1,j,_) (h1:=⟨iv,iv,((DR hv hk2).1 c2),trivial⟩)
  refine ai Tp ?_
  show ∃_,_
  exact ay (i,(i+j) / 2,_) (h1:=⟨iv,iv,(by(try dsimp only);exact(DR hv hk2).2 om),trivial⟩)
 refine aH ?_
 have hij2:i=j:=by have h9 : ¬i<j:=(by simpa using c1);omega
 have hv2:bz l ⟨n,t⟩=i:=by rw[hv,Co,XV (by omega)]
 by_cases hk4:i<l.length
 .
  have ff:=qA (dF hk4) ff;refine aa Tp ?_ (hok:=o0x)
  exact fo 2 (k:=o5e)
 have ff:=qA (Nz (f:=Sgd.d) (Nat.le_of_not_lt hk4)) ff
 refine aa Tp ?_ (hok:=o0x)
 exact fo 2 (k:=o5e)
def sP(z:Zon)(n:Str)(t:Int)(hl:z.sets.length<=1000000):PureCt prog 102 [.agg z.d,.v (.string (bs n)),.i t] (.tuple [.i (bz z.sets ⟨n,t⟩),.b (dB z.sets ⟨n,t⟩)]):=by
 refine oO func102 λff=>?_
 unfold f102
 refine aa Tp ?_
 refine qR 5 1 ev ev (by rfl) ?_
 refine aa Tp ?_ (hok:=oH (Zbn _ n t hl))
 exact fp 2
def KU(a:Sgd)(b:Sgd)(ha:a.set.data.length<=1000000):PureCt prog 107 [.agg a.d,.agg b.d] (.b (decide (a.set=b.set))):=by
 refine oO func107 λff=>?_
 unfold f107
 refine aa Tp ?_
 refine aa Tp ?_ (hok:=oH (sQ _ _ ha))
 exact fo 0 (k:=by unfold kM;rw[Zin])
def Za6(l:List Dat)(x:Dat)(hl:l.length<=1000000):PureCt prog 233 [.list false (l.map Dat.d),.agg x.d] (.i (dV (λy=>decide (x=y)) l 0)):=by
 refine oO func233 λff=>?_
 unfold f233
 refine aa Tp ?_
 refine ae ?_
 refine aa Tp ?_
 refine aj ?_
 refine lp (α:=(Nat)×Nat) [0,3,7] (λ⟨k,nx⟩=>(k<=l.length)/\(0<nx)/\(dV (λy=>decide (x=y)) l 0=dV (λy=>decide (x=y)) l k)/\True) (λ⟨k,nx⟩=>l.length-k) (λ⟨k,nx⟩=>[(8,.i k)]) (λ⟨k,nx⟩=>[(0,⟨57,[x.d]⟩)]) (λ⟨k,nx⟩=>nx) (0,_) (hA:=⟨iv,iv,rfl,trivial⟩) (round:=?_)
 rintro⟨k,nx⟩ ⟨hk,hx,hv, -⟩
 simp only[XY,X0]
 have ff:=qA @hx ff
 refine aa Tp ?_
 refine ae ?_
 refine cd ?_ ?_ (hp:=rfl)<;>intro c1
 .
  have hk2:k<l.length:=by simpa using c1
  have ff:=qA (pG hk2) ff;refine ah ?_;refine ae ?_;refine aj ?_;refine oC Tp ?_;refine cd ?_ ?_<;>intro c2
  . refine aa Tp ?_;exact fo 0 (k:=by rw[hv,Gg hk2 (YE (Kg c2))])
  refine ah ?_;refine ai Tp ?_
  show ∃_,_
  exact ay (k+1,_) (h1:=⟨iv,iv,(by(try dsimp only);rw[hv,Gh hk2 (by rw[decide_eq_false_iff_not];rintro rfl;simp at c2)]),trivial⟩)
 refine aH ?_
 refine aa Tp ?_
 exact fo 0 (k:=o5w)
def Zbe(l:List Dat)(x:Dat)(hl:l.length<=1000000):PureCt prog 173 [.list false (l.map Dat.d),.agg x.d] (.b (dX l x)):=by
 refine oO func173 λff=>?_
 unfold f173
 refine aa Tp ?_
 refine aa Tp ?_ (hok:=oH (Za6 l x hl))
 exact fo 0 (k:=by rw[Zhy])
def PD(x:Dat)(s:RSet)(hl:s.data.length<=1000000):PureCt prog 172 [.agg x.d,.eptr s.d] (.b (dX s.data x)):=by
 refine oO func172 λff=>?_
 unfold f172
 refine aa Tp ?_
 refine aa Tp ?_ (hok:=oH (Zbe s.data x hl))
 exact fp 2
def Za2(l:List Dat)(s:RSet)(hl:l.length<=1000000)(hs:s.data.length<=1000000):PureCt prog 232 [.list false (l.map Dat.d),.fn (.func 172) [] [.eptr s.d]] (.i (dV (dX s.data) l 0)):=by
 refine oO func232 λff=>?_
 unfold f232
 refine aa Tp ?_
 refine ae ?_
 refine aa Tp ?_
 refine aj ?_
 refine lp (α:=(Nat)×Nat) [0,1,7] (λ⟨k,nx⟩=>(k<=l.length)/\(dV (dX s.data) l 0=dV (dX s.data) l k)/\True) (λ⟨k,nx⟩=>l.length-k) (λ⟨k,nx⟩=>[(8,.i k)]) (λ⟨k,nx⟩=>[]) (λ⟨k,nx⟩=>nx) (0,_) (hA:=⟨iv,rfl,trivial⟩) (round:=?_)
 rintro⟨k,nx⟩ ⟨hk,hv, -⟩
 simp only[XY,X0]
 refine aa Tp ?_
 refine ae ?_
 refine cd ?_ ?_ (hp:=rfl)<;>intro c1
 .
  have hk2:k<l.length:=by simpa using c1
  have ff:=qA (pG hk2) ff;refine ah ?_;refine ae ?_;refine aj ?_;refine aa Tp ?_;refine aa Tp ?_ (hok:=oH (PD l[k]! s hs));refine cd ?_ ?_<;>intro c2
  . refine aa Tp ?_;exact fo 2 (k:=by rw[hv,Gg hk2 c2])
  refine ah ?_;refine ai Tp ?_
  show ∃_,_
  exact ay (k+1,_) (h1:=⟨iv,o4i,trivial⟩)
 refine aH ?_
 refine aa Tp ?_
 exact fo 2 (k:=o5w)
def Zbg(a:Dat)(b:Dat):PureCt prog 168 [.agg a.d,.agg b.d] (.i (dZ a b)):=by
 refine oO func168 λff=>?_
 unfold f168
 refine aa Tp ?_
 refine aa Tp ?_ (hok:=oJ WZ Gy (W9 [_,_,_]))
 exact fo 0 (k:=by rw[<-SH];rfl)
def pY{l:List Sgd}{k:Nat}(h:k<l.length):l[k]! ∈ l:=kV.2 ⟨k,h,rfl⟩
def ZaI(u:Upd):PureCt prog 46 [.agg u.d] (.b (jU u)):=by
 refine oO func46 λff=>?_
 unfold f46
 refine aa Tp ?_
 refine oK Tp ?_ ?_<;>intro c1
 . refine aa Tp ?_;exact fo 0 (k:=by simp only[jU];grind)
 refine ae ?_
 refine aa Tp ?_
 refine aj ?_
 refine lp (α:=(Nat)×Nat) [1,18,19] (λ⟨k,nx⟩=>(k<=u.needs.length)/\(aA u.needs.length ((λi=>jf u.needs[i]!)) 0=aA u.needs.length ((λi=>jf u.needs[i]!)) k)/\(0<nx)/\True) (λ⟨k,nx⟩=>u.needs.length-k) (λ⟨k,nx⟩=>[(20,.i k)]) (λ⟨k,nx⟩=>[(0,⟨68,[u.d]⟩)]) (λ⟨k,nx⟩=>nx) (0,_) (hA:=⟨iv,rfl,iv,trivial⟩) (round:=?_)
 rintro⟨k,nx⟩ ⟨hk,hv1,hx, -⟩
 simp only[XY,X0]
 have ff:=qA @hx ff
 refine aa Tp ?_
 refine ae ?_
 refine cd ?_ ?_ (hp:=rfl)<;>intro c2
 .
  have hk2:k<u.needs.length:=by simpa using c2
  have ff:=qA (DI hk2) ff;refine ah ?_;refine ae ?_;refine aj ?_;refine aa Tp ?_;refine aa Tp ?_ (hok:=oH (ZaS u.needs[k]!));refine cd ?_ ?_<;>intro c3
  . refine aa Tp ?_;exact fo 0 (k:=by have hF:((λi=>jf u.needs[i]!)) k=false:=(by simpa using c3);simp only[jU];rw[hv1,eO hk2 hF];try simp)
  refine ah ?_;refine ai Tp ?_
  show ∃_,_
  have h8:((λi=>jf u.needs[i]!)) k=true:=by simpa using c3
  exact ay (k+1,_) (h1:=⟨iv,o4y,iv,trivial⟩)
 refine aH ?_
 refine ae ?_
 refine aa Tp ?_
 refine aj ?_
 refine lp (α:=(Nat)×Nat) [29,30] (λ⟨k,nx⟩=>(k<=u.chgs.length)/\(aA u.chgs.length ((λi=>gB u.chgs[i]!)) 0=aA u.chgs.length ((λi=>gB u.chgs[i]!)) k)/\(0<nx)/\True) (λ⟨k,nx⟩=>u.chgs.length-k) (λ⟨k,nx⟩=>[(31,.i k)]) (λ⟨k,nx⟩=>[(0,⟨68,[u.d]⟩)]) (λ⟨k,nx⟩=>nx) (0,_) (hA:=⟨iv,rfl,iv,trivial⟩) (round:=?_)
 rintro⟨k,nx⟩ ⟨hk,hv,hx, -⟩
 simp only[XY,X0]
 have ff:=qA @hx ff
 refine aa Tp ?_
 refine ae ?_
 refine cd ?_ ?_ (hp:=rfl)<;>intro c4
 .
  have hk2:k<u.chgs.length:=by simpa using c4
  have ff:=qA (DI hk2) ff;refine ah ?_;refine ae ?_;refine aj ?_;refine aa Tp ?_;refine aa Tp ?_ (hok:=oH (Zbi u.chgs[k]!));refine cd ?_ ?_<;>intro c5
  . refine aa Tp ?_;exact fo 0 (k:=by have hF:((λi=>gB u.chgs[i]!)) k=false:=(by simpa using c5);simp only[jU];rw[hv,eO hk2 hF];try simp)
  refine ah ?_;refine ai Tp ?_
  show ∃_,_
  have h8:((λi=>gB u.chgs[i]!)) k=true:=by simpa using c5
  exact ay (k+1,_) (h1:=⟨iv,o5b,iv,trivial⟩)
 refine aH ?_
 refine aa Tp ?_
 exact fo 0 (k:=by simp only[jU];rw[hv1,hv,ib (n:=u.needs.length) (by omega),ib (by omega)];simp;grind)
def bo49:dY prog 49=true:=by kernel_rfl
def Za7(z:Zon)(n:Chg)(hl:z.sets.length<=1000000)(hd : ∀s∈z.sets,s.set.data.length<=1000000):PureCt prog 49 [.agg z.d,.agg n.d] (.b (qM z n)):=by
 refine xP func49 rfl bo49 o5r (by simp[f49]) ?_
 unfold f49
 simp only[zS]
 have ff:=True.intro
 refine aa Tp ?_
 refine ae ?_
 refine aa Tp ?_
 refine aj ?_
 refine ae ?_
 refine aa Tp ?_
 refine cd ?_ ?_<;>intro c1
 .
  refine ah ?_
  show DW _ _ _ _ _
  refine cd ?_ ?_<;>intro c2
  .
   refine qR 3 1 ev ev (by simp[bC,D.nr,oU]) ?_
   refine aa Tp ?_ (hok:=o1l)
   refine aa Tp ?_;refine aL ?_;exact fin 2 (hr:=o1x)
  .
   refine ah ?_
   show DW _ _ _ _ _
   refine aa Tp ?_ (hok:=o1c)
   refine ae ?_;refine aa Tp ?_;refine aj ?_;refine aa Tp ?_;refine cd ?_ ?_<;>intro c3
   . refine aa Tp ?_;refine aL ?_;exact fin 2 (hr:=o1x)
   .
    refine aa Tp ?_;refine cd ?_ ?_<;>intro c4
    . refine aa Tp ?_;refine aL ?_;exact fin 2 (hr:=o1x)
    .
     refine ah ?_
     show DW _ _ _ _ _
     rcases hf:dB z.sets ⟨n.set.name,n.set.ty⟩with _|_
     .
      have ff:=qA @hf ff;refine aa Tp ?_ (hok:=o0j)
      refine aL ?_;exact fin 2 (hr:=o1x)
     .
      have hf2:=NS hf;have ff:=qB @hf (dF hf2) ff;refine aa Tp ?_ (hok:=o0j)
      refine aL ?_;exact fin 2 (hr:=o1x)
 .
  refine ai Tp ?_
  show DW _ _ _ _ _
  refine cd ?_ ?_<;>intro c5
  .
   refine qR 3 1 ev ev (by simp[bC,D.nr,oU]) ?_
   refine aa Tp ?_ (hok:=o1l)
   refine aa Tp ?_;refine aL ?_;exact fin 2 (hr:=o1x)
  .
   refine ah ?_
   show DW _ _ _ _ _
   refine aa Tp ?_ (hok:=o1c)
   refine ae ?_;refine aa Tp ?_;refine aj ?_;refine aa Tp ?_;refine cd ?_ ?_<;>intro c6
   . refine aa Tp ?_;refine aL ?_;exact fin 2 (hr:=o1x)
   .
    refine aa Tp ?_;refine cd ?_ ?_<;>intro c7
    . refine aa Tp ?_;refine aL ?_;exact fin 2 (hr:=o1x)
    .
     refine ah ?_
     show DW _ _ _ _ _
     rcases hf:dB z.sets ⟨n.set.name,n.set.ty⟩with _|_
     .
      have ff:=qA @hf ff;refine aa Tp ?_ (hok:=o0j)
      refine aL ?_;exact fin 2 (hr:=o1x)
     .
      have hf2:=NS hf;have ff:=qB @hf (dF hf2) ff;refine aa Tp ?_ (hok:=o0j)
      refine aL ?_;exact fin 2 (hr:=o1x)
def Zka:dY prog 106=true:=by kernel_rfl
def PQ(a:List Sgd)(b:List Sgd)(hl:a.length<=1000000)(hd : ∀s∈a,s.set.data.length<=1000000):PureCt prog 106 [.list false (a.map Sgd.d),.list false (b.map Sgd.d),.fn (.func 107) [] []] (.b (Ad a b)):=by
 refine xP func106 rfl Zka o5r (by simp[f106]) ?_
 unfold f106
 simp only[zS]
 have ff:=True.intro
 refine aa Tp ?_
 refine oK Tp ?_ ?_<;>intro c1
 . refine aa Tp ?_;exact fo 0 (k:=by simp only[Ad];rw[Y8 (by omega)];rfl)
 have hab:a.length=b.length:=by omega
 refine ae ?_
 refine aa Tp ?_
 refine aj ?_
 refine lp (α:=(Nat)×Nat) [1,2,15,16] (λ⟨k,nx⟩=>(k<=a.length)/\(aA a.length ((λi=>decide (a[i]!.set=b[i]!.set))) 0=aA a.length ((λi=>decide (a[i]!.set=b[i]!.set))) k)/\True) (λ⟨k,nx⟩=>a.length-k) (λ⟨k,nx⟩=>[(17,.i k)]) (λ⟨k,nx⟩=>[]) (λ⟨k,nx⟩=>nx) (0,_) (hA:=⟨iv,rfl,trivial⟩) (round:=?_)
 rintro⟨k,nx⟩ ⟨hk,hv, -⟩
 simp only[XY,X0]
 refine aa Tp ?_
 refine ae ?_
 refine cd ?_ ?_ (hp:=rfl)<;>intro c2
 .
  have hk2:k<a.length:=by simpa using c2
  have hk3:k<b.length:=by omega
  have ff:=qB (dF hk2) (dF hk3) ff;refine ah ?_;refine ae ?_;refine aj ?_;refine oC Tp ?_;refine aa Tp ?_ (hok:=oH (KU a[k]! b[k]! (hd _ (pY hk2))));refine cd ?_ ?_<;>intro c3
  . refine aa Tp ?_;exact fo 0 (k:=by have hF:(λi=>decide (a[i]!.set=b[i]!.set)) k=false:=(by simpa using c3);simp only[Ad];rw[hv,eO hk2 hF];simp)
  refine ah ?_;refine ai Tp ?_
  show ∃_,_
  have h8:((λi=>decide (a[i]!.set=b[i]!.set))) k=true:=by simpa using c3
  exact ay (k+1,_) (h1:=⟨iv,o5b,trivial⟩)
 refine aH ?_
 refine aa Tp ?_
 exact fo 0 (k:=by simp only[Ad];rw[hv,ib (by omega)];simp[hab])
@[go_sem]theorem Zm0{l:List Dat}:(∀r∈l.map Dat.d,r.length=3)=True:=by
 apply eq_true
 intro r hr
 obtain⟨x,_,rfl⟩:=Yt.1 hr
 rfl
def bo75q:dY prog 75=true:=by kernel_rfl
def PT(l:List Dat)(h0:0<l.length)(hl:l.length<=100000)(h:H)(n:Nat):bU prog 75 [.list false (l.map Dat.d)] h n (λd h' n'=>∃r',d = .mrow r' 0 l.length/\h'=upd h r' (some ⟨57,(l).map Dat.d⟩)/\n<=r'/\r'<n'):=by
 refine LU func75 rfl bo75q (by simp[f75]) (λhnone=>?_)
 unfold f75
 have ff:=True.intro
 refine aa Tp ?_
 refine ae ?_
 refine ae (xw ?_)
 refine EH (C:=Tp) 1 (e:=57) om (dR rfl) rfl rfl (by kernel_rfl) o4g ?_ (by rfl) ev (λy hy=>?_)
 .
  try simp only[go_sem,ff]
  all_goals (first|done|(repeat' (with_reducible apply And.intro))<;>first|omega|(with_reducible assumption)|(intros;omega)|(intros;simp only[XW,X4,Yc,XU,Yd,Yb,Yr]at *;omega)|(simp_all;done)|(simp_all;omega))
 refine wH (C:=Tp) o5y o4g ?_ rfl ?_
 .
  try simp only[go_sem,ff]
  all_goals (first|done|(repeat' (with_reducible apply And.intro))<;>first|omega|(with_reducible assumption)|(intros;omega)|(intros;simp only[XW,X4,Yc,XU,Yd,Yb,Yr]at *;omega)|(simp_all;done)|(simp_all;omega))
 try simp only[aI]
 refine cd ?_ ?_ (hp:=rfl) (hq:=rfl)<;>intro c1
 . exact absurd (hy c1) (by cases l with|nil=>simp at h0|cons a b=>simp)
 refine ah ?_
 refine aa Tp ?_
 refine aL ?_
 exact cK (upd h (n+5) (some ⟨57,(l).map Dat.d⟩)) (hr:=oS (k:=by exact⟨n+5,by simp,by simp,om,om⟩))
def Zbh(z:Zon)(hl:z.sets.length<=100000)(hd : ∀s∈z.sets,0<s.set.data.length/\s.set.data.length<=100000)(h:H)(n:Nat):bU prog 104 [.agg z.d] h n (λd h' n'=>∃rs p,d = .agg [.v (.string (bs z.apex)),.mrow rs 0 p.length]/\lP p=z.sets.map Sgd.bare/\h' rs=some ⟨84,p.map rowP⟩/\(∀x∈p,h' x.1=some ⟨57,x.2.set.data.map Dat.d⟩)/\(p.map (·.1)).Nodup/\(∀x∈p,x.1≠rs/\n<=x.1/\x.1<n')/\n<=rs/\rs<n'/\(∀q,q<n->h' q=h q)):=by
 refine oP func104 λhnone ff=>?_
 unfold f104
 refine oC Tp ?_
 refine ae ?_
 refine aa Tp ?_
 refine aj ?_
 refine jm (α:=(Nat)×(List PS)×Nat) [1,2,3,11,12] (λ⟨k,p,nx⟩=>(k<=z.sets.length)/\(n+5<nx)/\(lP p=(z.sets.take k).map Sgd.bare)/\((p.map (·.1)).Nodup)/\(∀x∈p,n+5<x.1/\x.1<nx)/\True) (λ⟨k,p,nx⟩=>z.sets.length-k) (λ⟨k,p,nx⟩=>[(13,.i k)]) (λ⟨k,p,nx⟩=>upd (upd (upd (zU 57 h p) n (some ⟨24,[z.d]⟩)) (n+1) (some ⟨24,[[.v (.string (bs [])),.list true []]]⟩)) (n+5) (some ⟨84,p.map rowP++List.replicate (z.sets.length-k) [.v (.string (bs [])),.i 0,.i 0,.list true [],.list true []]⟩)) (λ⟨k,p,nx⟩=>nx) (0,[],_) (hA:=⟨iv,iv,rfl,List.nodup_nil,(by first|(intro x mY;cases mY)|(dsimp only;intro x mY;cases mY)),trivial⟩) (round:=?_)
 rintro⟨k,p,nx⟩ ⟨hk,hx,hp,hnd,hpn, -⟩
 simp only[XY,X0]
 have hpl:=Zgs hp hk
 have ff:=qI @hx @hpl (nH n (n+1)) (nH n (n+5)) (nH n (nx+4)) (nH (n+1) (n+5)) (nH (n+1) (nx+4)) (nH (n+5) (nx+4)) ff
 refine aa Tp ?_
 refine ae ?_
 refine cd ?_ ?_ (hp:=rfl) (hq:=rfl)<;>intro c1
 .
  have hk2:k<z.sets.length:=by simpa using c1
  have ff:=qB (dF hk2) (ZdQ (z:=[.v (.string (bs [])),.i 0,.i 0,.list true [],.list true []]) hpl hk2) ff;refine ah ?_;refine ae ?_;refine aj ?_;refine aa Tp ?_;refine ae (bJ Tp 3 (hct:=by exact PT _ (hd _ (pY hk2)).1 (hd _ (pY hk2)).2 _ _) (hk:=?_))
  rintro res h2 n2 ⟨r1,rfl,rfl,a1,b1⟩
  try dsimp only at a1 b1
  have ff:=qD @b1 (nH n (n+1)) (nH n (n+5)) (qI (nH n (nx+4)) (nH n r1) (nH (n+1) (n+5)) (nH (n+1) (nx+4)) (nH (n+1) r1) (nH (n+5) (nx+4)) (nH (n+5) r1) (nH (nx+4) r1) ff);refine bI Tp ?_;refine aa Tp ?_;refine ai Tp ?_;refine ai Tp ?_
  show ∃_,_
  refine ay (k+1,p++[(r1,z.sets[k]!.bare)],_) (h1:=⟨iv,iv,(by(try dsimp only);rw[Zko hk2,<-hp];simp[lP]),(by(try dsimp only);exact Zfv hnd λy hy=>by have:=hpn y hy;dsimp only;omega),(by(try dsimp only);intro x mY;rcases List.mem_append.1 mY with q|q;have:=hpn x q;omega;rw[List.mem_singleton]at q;subst q;dsimp only;omega),trivial⟩) (h5:=?_)
  have hst:=ZdL (x:=(r1,z.sets[k]!.bare)) (z:=[.v (.string (bs [])),.i 0,.i 0,.list true [],.list true []]) hpl hk2;intro q;dsimp only;simp only[go_sem,ff,Zhp]
  by_cases e4:q=nx+4
  .
   right;subst e4;simp only[upd];repeat rw[XV (by omega)]
   rw[Js (λx mY=>by have:=hpn x mY;omega)];exact hnone _ (by omega)
  left;by_cases e5:q=n+5
  . subst e5;simp only[upd,Zn,XV e4];rw[<-hst];first|rfl|simp[rowP,Sgd.bare]
  simp only[upd,XV e4,XV e5];repeat (first|rfl|(split;first|rfl|omega|skip))
 have hk3:k=z.sets.length:=by have : ¬k<z.sets.length:=(by simpa using c1);omega
 refine aH ?_
 subst hk3
 refine oC Tp ?_
 refine aL ?_
 exact cK (_) (hh:=λ_=>.inl rfl) (hr:=oS (k:=by refine⟨n+5,p,by rw[hpl],by rw[hp,Yn],by simp[upd],λx mY=>?_,hnd,λx mY=>⟨?_,?_,?_⟩,?_,?_,λq hq=>?_⟩;(have:=hpn x mY;simp only[upd];repeat rw[XV (by omega)]);exact UY hnd x mY;(have:=hpn x mY;omega);(have:=hpn x mY;omega);(have:=hpn x mY;omega);omega;omega;simp only[upd];(repeat rw[XV (by omega)]);exact Js λx mY=>by have:=hpn x mY;omega))
end Go.Proofs.YtidphdaoejibcaaGreatDoor
