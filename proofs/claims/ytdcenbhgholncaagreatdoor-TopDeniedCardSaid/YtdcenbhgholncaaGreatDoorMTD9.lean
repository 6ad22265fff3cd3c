/-
  MANY TEXTS OF MINE IN ONE (a claim has a limit of files): Wj, DdW1, DgW0, DgW1, DgW2, DgW3, DgW4, DgW5, Wl. Conditions: none.
-/
import Derived.Test.YtdcenbhgholncaaGreatDoorMTD8
set_option linter.unusedVariables false
set_option linter.unusedSimpArgs false
set_option linter.unusedSectionVars false
set_option linter.defProp false
set_option linter.unnecessarySimpa false
namespace Go.Proofs.YtdcenbhgholncaaGreatDoor
open Go.Proofs.Tryz
open Go.DL Go.Str Go.Rec Go.Zon
noncomputable def tbW:List (FuncId×(List D->Option D)):=(15,uw TQ d15)::(16,uw [fst1 d15] tO)::(17,uw [tO] d17)::(18,uw [tO,sX [116,46,120]] d18)::(19,uw [tO,.agg [sX [116,46,120],.i 5]] d19)::tbR
def Vf:tY tbW:=ek (xV h15) <| ek (xV h16) <| ek (xV h17) <| ek (xV h18) <| ek (xV h19) mQ
theorem hW:PureCt prog 5 [] (.b true):=l5 Vf (by kernel_rfl)
open Go.Cmp Go.Jn Go.RowKit
set_option maxRecDepth 10000
variable [Dr]
def Ar(s:Str)(z:Str):PureCt prog 63 [.v (.string (bs s)),.v (.string (bs z))] (.b (bC s z)):=by
 refine oO func63 λff=>?_
 unfold f63
 refine ae Dg ?_
 refine ae Dg ?_ (hok:=oF (wO _ _))
 exact ft Dg
def R3(a:Str)(b:Str):PureCt prog 145 [.v (.string (bs a)),.v (.string (bs b))] (.i (eG a b)):=by
 refine oO func145 λff=>?_
 unfold f145
 refine ae Dg ?_
 refine ae Dg ?_ (hok:=oF (Ez _ _))
 exact ft Dg
def FN(s:RSet)(t:Int)(hd:0<s.data.length)(ht:0<=t/\t<=62):PureCt prog 144 [.agg s.d,.i t] (.b (cO s t)):=by
 refine oO func144 λff=>?_
 unfold f144
 have ff:=qA (mq hd) ff
 refine ae Dg ?_
 exact ft Dg
def RZ(s:RSet)(hd:0<s.data.length):PureCt prog 70 [.agg s.d] (.b (cO s 2 && !cO s 4)):=by
 refine oO func70 λff=>?_
 unfold f70
 refine ae Dg ?_
 exact ft Dg (hok:=oI (FN s 2 hd om) (FN s 4 hd om))
def RX(s:RSet)(t:Int)(hd:0<s.data.length)(ht:0<=t/\t<=62):PureCt prog 69 [.agg s.d,.i t] (.b (mV s t)):=by
 refine oO func69 λff=>?_
 unfold f69
 refine ae Dg ?_
 exact ft Dg (hok:=oI (FN s 3 hd om) (FN s t hd ht))
def RV(s:RSet)(n:Str)(hd:0<s.data.length):PureCt prog 68 [.agg s.d,.v (.string (bs n))] (.b (dE s n)):=by
 refine oO func68 λff=>?_
 unfold f68
 refine ae Dg ?_
 exact fr Dg (hok:=oI (RZ s hd) Ar) (k:=by unfold dE;cases cO s 2<;>cases cO s 4<;>simp)
def Kk(a:Str)(s:RSet)(n:Str)(hd:0<s.data.length):PureCt prog 71 [.v (.string (bs a)),.agg s.d,.v (.string (bs n))] (.b (dz a s n)):=by
 refine oO func71 λff=>?_
 unfold f71
 have ff:=qA (mq hd) ff
 refine ae Dg ?_
 refine oM Dg ?_ ?_ (hok:=oI Ar R3) (hq:=rfl)<;>intro c1
 . exact fr Dg (k:=by unfold dz;grind)
 refine ae Dg ?_
 exact fr Dg (hok:=ic @R3) (k:=by unfold dz;grind)
def ZeJ(a:Str)(s:RSet)(hl:s.data.length<=1000000):PureCt prog 66 [.v (.string (bs a)),.agg s.d] (.b (bW a s)):=by
 refine oO func66 λff=>?_
 unfold f66
 refine ae Dg ?_
 refine oM Dg ?_ ?_ (hok:=oH Ar) (hq:=rfl)<;>intro c1
 . exact fr Dg (k:=by unfold bW;grind)
 refine wA Dg ?_
 refine lq (Nat×Nat) [0,18,19] (λ⟨k,nx⟩=>(k<=s.data.length/\((s.data.all λd=>bC d.t a)=((s.data.drop k).all λd=>bC d.t a)),s.data.length-k,[(20,.i k)],[],nx)) (0,_) ?_
 rintro⟨k,nx⟩ ⟨hk,hv⟩
 simp only[XX,XZ]
 refine wH Dg ?_ ?_<;>intro c2
 .
  have hk2:k<s.data.length:=by simpa using c2
  have ff:=qA (mq hk2) ff;refine wB ?_;refine ae Dg ?_;refine wG Dg ?_ ?_ (hok:=oF (Ar _ _)) (hq:=rfl)<;>intro c3
  . exact fr Dg (k:=by unfold bW;rw[hv,AQ hk2];grind)
  refine wC Dg ?_;exact ak (k+1,_) (h1:=⟨iv,(by first|(rw[hv,AQ hk2];grind)|(dsimp only;rw[hv,AQ hk2];grind))⟩)
 have e8:k=s.data.length:=by omega
 subst e8
 refine aR ?_
 exact fr Dg (k:=by unfold bW;rw[hv,List.drop_length];grind)
def OW(a:Str)(b:Str):PureCt prog 215 [.v (.string (bs a)),.v (.string (bs b))] (.tuple [.v (.string (bs (nU a b))),.i (if ah a&&ah b then 0 else 11)]):=by
 refine oO func215 λff=>?_
 unfold f215
 refine oC Dg ?_
 refine oM Dg (λc1=>?_) (λc1=>?_) (hok:=oS (k:=by first|done|(simp only[sF,and_true,implies_true];done)|((repeat' (with_reducible apply And.intro))<;>first|(intros;exact sF _))))
 . exact fr Dg (K:=1) (k:=by(have e:(ah a&&ah b)=false:=by revert c1;cases ah a<;>cases ah b<;>simp);unfold nU;rw[e];rfl)
 have hla:=fT c1.1
 refine aU (ib Dg 1 (hct:=by exact Nr b _ _) (hk:=?_))
 rintro res h2 n2 ⟨rfl,rfl,rfl⟩
 refine gZ Dg ?_
 refine oC Dg ?_
 refine wA Dg ?_
 refine Am (by simp only[go_sem,ff]) ev func208 rfl Gg (by simp[f208]) rfl (λl rL hp ha hb hn=>?_)
 unfold f208
 refine oK Dg ?_ ?_<;>intro d0
 .
  have hz:fD (ay a) (ay b) 0=0:=Zfp d0;have hle:=FX (b:=b) c1.1;rw[hz]at hle;refine iA ?_;refine⟨.inr rfl,none,rfl,?_⟩;refine aU ?_;refine wG Dg (λc14=>?_) (λc14=>?_) (hq:=rfl)
  . exact fr Dg (K:=1) (k:=by first|(rw[rY c1.1 c1.2,xn hz];simp[c1];done)|(rw[rY c1.1 c1.2,xn (hz.trans c14)];simp[c1];done))
  simp at c14
 refine ae Dg ?_
 refine dO ?_
 refine lq (Str×Bool×Str×Int×Nat) [1] (λ⟨rest,more,iC,sz,nx⟩=>(rest.length<=60/\iC.length<=60/\32<nx/\(0<=sz/\sz+(rest.length:Int)<=130)/\fD (ay a) (ay b) 0=fD (gX rest) (pl more iC) sz,rest.length,[(4,.v (.string (bs rest)))],[(19,⟨9,[[.v (.string (bs iC))]]⟩),(20,⟨4,[[.b more]]⟩),(27,⟨281,[[.fn (.func 269) [] [.mptr 20 0 0,.mptr 19 0 0]]]⟩),(32,⟨3,[[.i sz]]⟩)],nx)) (a,(b != [46]),b,0,_) ?_ (hA:=⟨(fT c1.1),(fT c1.2),iv,(by(try dsimp only);have:=fT c1.1;omega),(by(try dsimp only);rw[M0 b,ay,if_neg d0])⟩)
 rintro⟨rest,more,iC,sz,nx⟩ ⟨hl,hl2,hx,hs,hv⟩
 simp only[XX,XZ]
 have hL:=zZ rest 46
 have n0:0<nx:=by omega
 have n19:19<nx:=by omega
 have n20:20<nx:=by omega
 have n27:27<nx:=by omega
 have n32:32<nx:=by omega
 refine dO ?_
 refine ae Dg ?_ (hok:=ic @BN)
 refine aU ?_
 refine aU ?_
 refine Cz (C:=Dg) (r:=rL) 5 (pK rfl) rfl rfl rfl (by simp only[YC,Y1,go_sem,ff];exact rfl) ?_ ev (by first|(simp only[go_sem,ff];done)|(simp only[go_sem,ff];exact rfl)) (by simp only[go_sem,ff]) ev (by rw[hp];rfl) (by rw[hp,hn];show ∀p∈[29],p<58;decide) ?_
 .
  try simp only[go_sem,ff]
  all_goals (first|done|(repeat' (with_reducible apply And.intro))<;>first|omega|(with_reducible assumption)|(intros;omega)|(intros;simp only[XV,X3,X8,XT,Ya,X5,Yk]at *;omega)|(simp_all;done)|(simp_all;omega))
 rw[ha,hb,hp,hn]
 show DW _ _ _ _ { n:=_,t:=lZ _ [29] _,h:=_,nx:=_ }
 simp only[zz,zw]
 refine aA Dg ?_
 refine⟨rfl,?_⟩
 refine dO ?_
 refine aU (ib Dg 1 (hct:=by exact Nt more iC 20 19 _ _ rfl rfl (by decide) om) (hk:=?_))
 rintro res h2 n2 ⟨rfl,rfl,hn2⟩
 refine gZ Dg ?_
 refine oM Dg (λc10=>?_) (λc10=>?_) (hq:=rfl)
 .
  have hz:=hv.trans (Zfq c10);have hle:=FX (b:=b) c1.1;rw[hz]at hle;refine aR ?_;refine⟨rfl,false,some (.exit 0),⟨rfl,rfl⟩,⟨_,_,_,_,_,_⟩,by simp only[Yv,Yj,S.put,go_sem,ff];exact rfl,?_,?_⟩
  .
   try simp only[go_sem,ff]
   all_goals (first|done|(repeat' (with_reducible apply And.intro))<;>first|omega|(with_reducible assumption)|(intros;omega)|(intros;simp only[XV,X3,X8,XT,Ya,X5,Yk]at *;omega)|(simp_all;done)|(simp_all;omega))
  try simp only[gG]
  refine ce ?_ ?_ (hq:=rfl)<;>intro d3
  .
   refine iA ?_;refine⟨.inr rfl,some (.exit 0),rfl,?_⟩;refine oK Dg (λc14=>?_) (λc14=>?_)
   . exact fr Dg (K:=1) (k:=by first|(rw[rY c1.1 c1.2,xn hz];simp[c1];done)|(rw[rY c1.1 c1.2,xn (hz.trans c14)];simp[c1];done))
   exact fr Dg (K:=1) (hok:=oS (k:=by first|trivial|(repeat' with_reducible apply And.intro)<;>first|omega|(intros;omega)|rfl)) (k:=by rw[rY c1.1 c1.2,KC hz c14];simp[c1];done)
  simp at d3
 have hpg:=NA true iC
 have hpg2:=NA more iC
 refine oK Dg (λc11=>?_) (λc11=>?_)
 .
  refine aA Dg ?_;refine aA Dg ?_;refine⟨rfl,true,none,⟨rfl,rfl⟩,⟨_,_,_,_,_,_⟩,by simp only[Yv,Yj,S.put,go_sem,ff];exact rfl,?_,?_⟩
  .
   try simp only[go_sem,ff]
   all_goals (first|done|(repeat' (with_reducible apply And.intro))<;>first|omega|(with_reducible assumption)|(intros;omega)|(intros;simp only[XV,X3,X8,XT,Ya,X5,Yk]at *;omega)|(simp_all;done)|(simp_all;omega))
  try simp only[gG]
  refine cd ?_ ?_<;>intro d3
  .
   have hz:=hv.trans (SX c10 d3);have hle:=FX (b:=b) c1.1
   first|rw[XY c11]at hz|rw[XW (by omega)]at hz
   rw[hz]at hle;refine iA ?_;refine⟨.inr rfl,none,rfl,?_⟩;refine oK Dg (λc14=>?_) (λc14=>?_)
   . exact fr Dg (K:=1) (k:=by first|(rw[rY c1.1 c1.2,xn hz];simp[c1];done)|(rw[rY c1.1 c1.2,xn (hz.trans c14)];simp[c1];done))
   exact fr Dg (K:=1) (hok:=oS (k:=by first|trivial|(repeat' with_reducible apply And.intro)<;>first|omega|(intros;omega)|rfl)) (k:=by rw[rY c1.1 c1.2,KC hz c14];simp[c1];done)
  refine wC Dg ?_;exact ak (rest.take (bz rest 46).toNat,kE more iC,kD more iC,sz+1+((rest.drop (bz rest 46+1).toNat).length:Int),_) (h1:=⟨(by first|(first|omega|(simp;omega))|(dsimp only;first|omega|(simp;omega))),(by(try dsimp only);first|omega|(have:=Ia more iC;omega)),iv,(by(try dsimp only);(first|rw[List.length_take]|skip);simp at *;omega),(by(try dsimp only);rw[hv,Kz c10,if_neg (by omega)];(first|rw[if_pos c11]|rw[if_neg (by omega)]))⟩) (h2:=by show(_:Nat)<_;(simp;omega))
 refine aA Dg ?_
 refine⟨rfl,true,none,⟨rfl,rfl⟩,⟨_,_,_,_,_,_⟩,by simp only[Yv,Yj,S.put,go_sem,ff];exact rfl,?_,?_⟩
 .
  try simp only[go_sem,ff]
  all_goals (first|done|(repeat' (with_reducible apply And.intro))<;>first|omega|(with_reducible assumption)|(intros;omega)|(intros;simp only[XV,X3,X8,XT,Ya,X5,Yk]at *;omega)|(simp_all;done)|(simp_all;omega))
 try simp only[gG]
 refine cd ?_ ?_<;>intro d3
 .
  have hz:=hv.trans (SX c10 d3);have hle:=FX (b:=b) c1.1
  first|rw[XY c11]at hz|rw[XW (by omega)]at hz
  rw[hz]at hle;refine iA ?_;refine⟨.inr rfl,none,rfl,?_⟩;refine oK Dg (λc14=>?_) (λc14=>?_)
  . exact fr Dg (K:=1) (k:=by first|(rw[rY c1.1 c1.2,xn hz];simp[c1];done)|(rw[rY c1.1 c1.2,xn (hz.trans c14)];simp[c1];done))
  exact fr Dg (K:=1) (hok:=oS (k:=by first|trivial|(repeat' with_reducible apply And.intro)<;>first|omega|(intros;omega)|rfl)) (k:=by rw[rY c1.1 c1.2,KC hz c14];simp[c1];done)
 refine wC Dg ?_
 exact ak (rest.take (bz rest 46).toNat,kE more iC,kD more iC,sz+((rest.drop (bz rest 46+1).toNat).length:Int),_) (h1:=⟨(by first|(first|omega|(simp;omega))|(dsimp only;first|omega|(simp;omega))),(by(try dsimp only);first|omega|(have:=Ia more iC;omega)),iv,(by(try dsimp only);(first|rw[List.length_take]|skip);simp at *;omega),(by(try dsimp only);rw[hv,Kz c10,if_neg (by omega)];(first|rw[if_pos c11]|rw[if_neg (by omega)]))⟩) (h2:=by show(_:Nat)<_;(simp;omega))
def Zd9(s:Str):PureCt prog 139 [.v (.string (bs s))] (.b (dD s)):=by
 refine oO func139 λff=>?_
 unfold f139
 refine ae Dg ?_
 exact fr Dg (hok:=ic @E5) (k:=by rw[vO])
def Zet(s:Str):PureCt prog 60 [.v (.string (bs s))] (.b (ah s && !dD s)):=by
 refine oO func60 λff=>?_
 unfold f60
 refine ae Dg ?_
 exact fr Dg (hok:=oI sO Zd9) (k:=by cases ah s<;>simp)
def Zes(q:Qst):PureCt prog 61 [.agg q.d] (.b (eO q)):=by
 refine oO func61 λff=>?_
 unfold f61
 refine ae Dg ?_
 exact fr Dg (hok:=oH sO) (k:=by simp[eO,aW,Zp])
def ZeV(s:RSet)(a:Str)(hl:s.data.length<=1000000):PureCt prog 65 [.agg s.d,.eptr [.v (.string (bs a))]] (.b (bW a s)):=by
 refine oO func65 λff=>?_
 unfold f65
 refine ae Dg ?_
 exact ft Dg (hok:=oF (ZeJ _ _ hl))
def ZeU(s:RSet)(q:Qst)(hd:0<s.data.length):PureCt prog 67 [.agg s.d,.eptr q.d] (.b (dE s q.name)):=by
 refine oO func67 λff=>?_
 unfold f67
 refine ae Dg ?_
 exact ft Dg (hok:=oF (RV _ _ hd))
def ZeT(s:RSet)(a:Str)(q:Qst)(hd:0<s.data.length):PureCt prog 72 [.agg s.d,.eptr [.v (.string (bs a))],.eptr q.d] (.b (dz a s q.name)):=by
 refine oO func72 λff=>?_
 unfold f72
 refine ae Dg ?_
 exact ft Dg (hok:=oF (Kk _ _ _ hd))
def Zez(l:List RSet)(f:Str)(hl:l.length<=1000000)(hd : ∀i,i<l.length->0<l[i]!.data.length/\l[i]!.data.length<=1000000):PureCt prog 64 [.l (l.map RSet.d),.fn (.func 65) [] [.eptr [.v (.string (bs f))]]] (.l ((l.filter (bW f)).map RSet.d)):=by
 refine oO func64 λff=>?_
 unfold f64
 refine oC Dg ?_
 refine aU ?_
 refine uX 5 41 (by simp only[go_sem,ff]) (by simp only[go_sem,ff]) ?_
 refine ae Dg ?_
 refine dO ?_
 refine lq (Nat×Nat×Nat) [1,8,9] (λ⟨k,r,nx⟩=>(k<=l.length/\r<nx,l.length-k,[(5,.mrow r 0 (iH (bW f) l k).length),(10,.i k)],[(r,⟨41,(iH (bW f) l k).map RSet.d⟩)],nx)) (0,2,_) ?_
 rintro⟨k,r,nx⟩ ⟨hk,hr⟩
 simp only[XX,XZ]
 have hfl:=JQ (bW f) l k
 have ff:=qA @hr ff
 refine wH Dg ?_ ?_<;>intro c1
 .
  have hk2:k<l.length:=by simpa using c1
  obtain⟨rO,wX⟩:=hd k hk2;have ff:=qA (getD_set hk2) ff;refine wB ?_;refine ae Dg ?_;refine wE Dg ?_ ?_ (hok:=oF (ZeV l[k]! f wX))<;>intro c2
  . refine aA Dg ?_;refine aA Dg ?_;have hst:=JO (p:=bW f) hk2 c2;have ff:=qA hst ff;exact ak (k+1,(nx+11),_)
  refine wC Dg ?_;have hst:=JP (p:=bW f) hk2 c2;have ff:=qA hst ff;exact ak (k+1,r,_)
 have e8:k=l.length:=by omega
 subst e8
 refine aR ?_
 exact fr Dg (K:=1) (k:=by rw[JR])
def Zey(l:List RSet)(f:Qst)(hl:l.length<=1000000)(hd : ∀i,i<l.length->0<l[i]!.data.length/\l[i]!.data.length<=1000000):PureCt prog 64 [.l (l.map RSet.d),.fn (.func 67) [] [.eptr f.d]] (.l ((l.filter λs=>dE s f.name).map RSet.d)):=by
 refine oO func64 λff=>?_
 unfold f64
 refine oC Dg ?_
 refine aU ?_
 refine uX 5 41 (by simp only[go_sem,ff]) (by simp only[go_sem,ff]) ?_
 refine ae Dg ?_
 refine dO ?_
 refine lq (Nat×Nat×Nat) [1,8,9] (λ⟨k,r,nx⟩=>(k<=l.length/\r<nx,l.length-k,[(5,.mrow r 0 (iH (λs=>dE s f.name) l k).length),(10,.i k)],[(r,⟨41,(iH (λs=>dE s f.name) l k).map RSet.d⟩)],nx)) (0,2,_) ?_
 rintro⟨k,r,nx⟩ ⟨hk,hr⟩
 simp only[XX,XZ]
 have hfl:=JQ (λs=>dE s f.name) l k
 have ff:=qA @hr ff
 refine wH Dg ?_ ?_<;>intro c1
 .
  have hk2:k<l.length:=by simpa using c1
  obtain⟨rO,wX⟩:=hd k hk2;have ff:=qA (getD_set hk2) ff;refine wB ?_;refine ae Dg ?_;refine wE Dg ?_ ?_ (hok:=oF (ZeU l[k]! f rO))<;>intro c2
  .
   refine aA Dg ?_;refine aA Dg ?_;have hst:=JO (p:=λs=>dE s f.name) hk2 c2
   have ff:=qA hst ff;exact ak (k+1,(nx+11),_)
  refine wC Dg ?_;have hst:=JP (p:=λs=>dE s f.name) hk2 c2
  have ff:=qA hst ff;exact ak (k+1,r,_)
 have e8:k=l.length:=by omega
 subst e8
 refine aR ?_
 exact fr Dg (K:=1) (k:=by rw[JR])
def Zf2:jy prog 64=true:=by kernel_rfl
def Zex(l:List RSet)(f:Str×Qst)(hl:l.length<=1000000)(hd : ∀i,i<l.length->0<l[i]!.data.length/\l[i]!.data.length<=1000000):PureCt prog 64 [.l (l.map RSet.d),.fn (.func 72) [] [.eptr [.v (.string (bs f.1))],.eptr f.2.d]] (.l ((l.filter λs=>dz f.1 s f.2.name).map RSet.d)):=by
 refine Nq func64 rfl Zf2 (by simp[go_sem,D.nr,bV,bg]) (by simp[f64]) ?_
 unfold f64
 simp only[Zcz]
 have ff:=True.intro
 refine oC Dg ?_
 refine aU ?_
 refine uX 5 41 (by simp only[go_sem,ff]) (by simp only[go_sem,ff]) ?_
 refine ae Dg ?_
 refine dO ?_
 refine lq (Nat×Nat×Nat) [1,8,9] (λ⟨k,r,nx⟩=>(k<=l.length/\r<nx,l.length-k,[(5,.mrow r 0 (iH (λs=>dz f.1 s f.2.name) l k).length),(10,.i k)],[(r,⟨41,(iH (λs=>dz f.1 s f.2.name) l k).map RSet.d⟩)],nx)) (0,2,_) ?_
 rintro⟨k,r,nx⟩ ⟨hk,hr⟩
 simp only[XX,XZ]
 have hfl:=JQ (λs=>dz f.1 s f.2.name) l k
 have ff:=qA @hr ff
 refine wH Dg ?_ ?_<;>intro c1
 .
  have hk2:k<l.length:=by simpa using c1
  obtain⟨rO,wX⟩:=hd k hk2;have ff:=qA (getD_set hk2) ff;refine wB ?_;refine ae Dg ?_;refine wE Dg ?_ ?_ (hok:=oF (ZeT l[k]! f.1 f.2 rO))<;>intro c2
  .
   refine aA Dg ?_;refine aA Dg ?_;have hst:=JO (p:=λs=>dz f.1 s f.2.name) hk2 c2
   have ff:=qA hst ff;exact ak (k+1,(nx+11),_)
  refine wC Dg ?_;have hst:=JP (p:=λs=>dz f.1 s f.2.name) hk2 c2
  have ff:=qA hst ff;exact ak (k+1,r,_)
 have e8:k=l.length:=by omega
 subst e8
 refine aR ?_
 exact fr Dg (K:=1) (k:=by rw[JR])
end Go.Proofs.YtdcenbhgholncaaGreatDoor
namespace Go.Proofs.YtdcenbhgholncaaGreatDoor
open Go.Proofs.Tryz
open Go.DL Go.Str Go.Rec Go.Zon Go.Cmp Go.Jn Go.RowKit
set_option maxRecDepth 10000
def RF(n:Str):PureCt prog 216 [.v (.string (bs n))] (.tuple [.v (.string (bs (dU n).1)),.b (dU n).2]):=by
 refine oO func216 λff=>?_
 unfold f216
 have hws:=UB n
 have ff:=qB (UD n) (UA n) ff
 refine ae Dg ?_
 refine ae Dg ?_ (hok:=oF (II n))
 refine ae vI ?_ (hok:=oa2 (OQ (tZ n)) (Lp n))
 exact ft Dg (K:=1)
def Zea(n:Str):PureCt prog 146 [.v (.string (bs n))] (.fn (.func 214) [] [.eptr [.v (.string (bs n))]]):=by
 refine oO func146 λff=>?_
 unfold f146
 refine ae Dg ?_
 exact ft Dg (K:=2)
def Zeb(s:RSet)(n:Str)(hd:0<s.data.length):PureCt prog 214 [.agg s.d,.eptr [.v (.string (bs n))]] (.tuple [.v (.string (bs (dU (eQ n s)).1)),.b (dU (eQ n s)).2]):=by
 refine oO func214 λff=>?_
 unfold f214
 have ff:=qA (mq hd) ff
 refine ae Dg ?_
 refine ae Dg ?_ (hok:=oF (OW _ _))
 refine ae Dg ?_ (hok:=oH (OW n s.data[0]!.t))
 refine oK Dg ?_ ?_<;>intro c1
 .
  have he:eQ n s=nU n s.data[0]!.t:=XY (by rcases c1 with h|h;exact .inl om;exact .inr h)
  refine aA Dg ?_;exact fr Dg (K:=1) (hok:=oF (RF _)) (k:=by rw[he])
 have he:eQ n s=nU n s.name:=XW (by rintro (h|h);exact c1.1 om;exact c1.2 h)
 exact fr Dg (K:=1) (hok:=oF (RF _)) (k:=by rw[he])
def ZeX(a:Str)(q:Qst)(nl:List RSet)(cv:List RSet)(h1:nl.length<=1000000)(h2:cv.length<=1000000)(hnl:xG nl)(hcv:xG cv)(ht:0<=q.ty/\q.ty<=62):PureCt prog 73 [.v (.string (bs a)),.agg q.d,.l (nl.map RSet.d),.l (cv.map RSet.d)] (.i (jh a q nl cv)):=by
 refine oO func73 λff=>?_
 unfold f73
 refine ae Dg ?_
 refine Zee ?_
 refine ae Dg ?_
 refine ae Dg ?_ (hok:=oF (Zea _))
 refine aU ?_
 refine Zel ?_
 refine wA Dg ?_
 refine lq (Nat×Nat) [0,2,5,10,22,23] (λ⟨k,nx⟩=>(k<=cv.length/\0<nx/\jh a q nl cv=jh a q nl (cv.drop k),cv.length-k,[(9,.i 0),(24,.i k)],[(0,⟨27,[q.d]⟩)],nx)) (0,_) ?_
 rintro⟨k,nx⟩ ⟨hk,hx,hv⟩
 simp only[XX,XZ]
 have ff:=qA @hx ff
 refine wH Dg ?_ ?_<;>intro c4
 .
  have hk2:k<cv.length:=by simpa using c4
  obtain⟨rO,wX⟩:=hcv k hk2;have ff:=qA (getD_set hk2) ff;refine wB ?_;refine ae Dg ?_;refine ae Dg ?_ (hok:=oF (Zeb _ _ rO));refine oM Dg ?_ ?_ (hq:=rfl)<;>intro c7
  . refine ae Dg ?_;refine aR ?_;exact fr Dg (k:=by rw[hv,Zf9 hk2 c7])
  refine wA Dg ?_;refine lq (Nat×Nat) [0,2,5,10,13,22,23,24,36,37] (λ⟨m,nx⟩=>(m<=nl.length/\0<nx/\qM q (dU (eQ q.name cv[k]!)).1 nl=qM q (dU (eQ q.name cv[k]!)).1 (nl.drop m),nl.length-m,[(9,.i 0),(38,.i m)],[(0,⟨27,[q.d]⟩)],nx)) (0,_) ?_
  rintro⟨m,nx⟩ ⟨hm,hx,hv2⟩;simp only[XX,XZ];have ff:=qA @hx ff;refine wH Dg (λc10=>?_) (λc10=>?_)
  .
   have hm2:m<nl.length:=by simpa using c10
   obtain⟨uO,he9⟩:=hnl m hm2;have ff:=qA (getD_set hm2) ff;refine wB ?_;refine ae Dg ?_;refine wG Dg (λc12=>?_) (λc12=>?_) (hok:=oH (RX nl[m]! q.ty uO ht)) (hq:=rfl)
   . refine ae Dg ?_;refine aR ?_;exact fr Dg (k:=by rw[hv,Zga hk2 c7 (by rw[hv2,TY hm2,c12];rfl)])
   refine wC Dg ?_;exact ak (m+1,_) (h1:=⟨iv,iv,(by(try dsimp only);rw[hv2,TY hm2,c12];rfl)⟩)
  have e8:m=nl.length:=by omega
  subst e8;have hS:=hv2.trans Zgq;refine aR ?_;refine ae Dg ?_;refine dO ?_;refine lq (Nat×Nat) [0,2,5,10,13,22,23,24,53,54] (λ⟨p,nx⟩=>(p<=nl.length/\0<nx/\si a (dU (eQ q.name cv[k]!)).1 nl=si a (dU (eQ q.name cv[k]!)).1 (nl.drop p),nl.length-p,[(9,.i 0),(55,.i p)],[(0,⟨27,[q.d]⟩)],nx)) (0,_) ?_
  rintro⟨p,nx⟩ ⟨hp,hx,hv3⟩;simp only[XX,XZ];have ff:=qA @hx ff;refine wH Dg (λc16=>?_) (λc16=>?_)
  .
   have hp2:p<nl.length:=by simpa using c16
   obtain⟨uO,he9⟩:=hnl p hp2;have ff:=qA (getD_set hp2) ff;refine wB ?_;refine ae Dg ?_;refine wG Dg (λc18=>?_) (λc18=>?_) (hok:=oI (RV nl[p]! (dU (eQ q.name cv[k]!)).1 uO) (Kk a nl[p]! (dU (eQ q.name cv[k]!)).1 uO)) (hq:=rfl)
   . refine ae Dg ?_;refine aR ?_;exact fr Dg (k:=by rw[hv,Zf8 hk2 c7 hS (by rw[hv3,TZ hp2,c18];rfl)])
   refine wC Dg ?_;exact ak (p+1,_) (h1:=⟨iv,iv,(by(try dsimp only);rw[hv3,TZ hp2,c18];rfl)⟩)
  have e8:p=nl.length:=by omega
  subst e8;have hC:=hv3.trans Zgr;refine aR ?_;refine aA Dg ?_;exact ak (k+1,_) (h1:=⟨iv,iv,(by(try dsimp only);rw[hv,TG hk2 c7 hS hC])⟩)
 have e8:k=cv.length:=by omega
 subst e8
 refine aR ?_
 exact fr Dg (k:=by rw[hv,Zf7])
def ZeS(a:Str)(q:Qst)(l:List RSet)(hl:l.length<=1000000):PureCt prog 14 [.v (.string (bs a)),.agg q.d,.l (l.map RSet.d)] (.tuple [.i (iV a q l).1,.i (iV a q l).2]):=by
 refine oO func14 λff=>?_
 unfold f14
 refine ae Dg ?_
 refine oM Dg ?_ ?_ (hok:=oI (Zet a) (Zes q)) (hq:=rfl)<;>intro c1
 . have e1:=den_1 (l:=l) c1;exact fr Dg (K:=1) (k:=by rw[e1])
 obtain⟨hap,hqk⟩:=den_g c1
 have ht:=ZaB hqk
 refine wA Dg ?_
 refine lq (Nat×Nat) [2,3,4,24,25] (λ⟨k,nx⟩=>(k<=l.length/\1<nx/\l.all di=(l.drop k).all di,l.length-k,[(26,.i k)],[(0,⟨9,[[.v (.string (bs a))]]⟩),(1,⟨27,[q.d]⟩)],nx)) (0,_) ?_
 rintro⟨k,nx⟩ ⟨hk,hx,hv⟩
 simp only[XX,XZ]
 have hx0:0<nx:=by omega
 have ff:=qA @hx ff
 refine wH Dg ?_ ?_<;>intro c4
 .
  have hk2:k<l.length:=by simpa using c4
  have ff:=qA (getD_set hk2) ff;refine wB ?_;refine ae Dg ?_;refine wG Dg ?_ ?_ (hok:=oF (DF _)) (hq:=rfl)<;>intro c6
  . exact fr Dg (K:=1) (k:=by rw[den_2 hap hqk (hv.trans (Zon.all_no hk2 c6))])
  refine wC Dg ?_;exact ak (k+1,_) (h1:=⟨iv,iv,(by first|(rw[hv,AQ hk2];grind)|(dsimp only;rw[hv,AQ hk2];grind))⟩)
 have e8:k=l.length:=by omega
 subst e8
 have hall:l.all di=true:=hv.trans (by rw[Zr];rfl)
 have hd:=ZeG hall
 have hd2:xG (List.filter (bW a) l):=Kg hd
 have hd3:xG (List.filter (λs=>dE s q.name) (List.filter (bW a) l)):=Kg hd2
 have hd4:xG ((List.filter (λs=>dE s q.name) (List.filter (bW a) l)).filter λs=>dz a s q.name):=Kg hd3
 have hl2:(List.filter (bW a) l).length<=1000000:=Yt (List.length_filter_le _ _) hl
 have hl3:(List.filter (λs=>dE s q.name) (List.filter (bW a) l)).length<=1000000:=Yt (List.length_filter_le _ _) hl2
 have hl4:((List.filter (λs=>dE s q.name) (List.filter (bW a) l)).filter λs=>dz a s q.name).length<=1000000:=Yt (List.length_filter_le _ _) hl3
 have hsp:(List.filter (λs=>dE s q.name) (List.filter (bW a) l))=((List.filter (bW a) l).filter λs=>dE s q.name):=rfl
 refine aR ?_
 refine oM Dg (λc9=>?_) (λc9=>?_) (hok:=oS (k:=by first|trivial|(repeat' with_reducible apply And.intro)<;>first|(intros;exact Ar _ _)|grind)) (hq:=rfl)
 . exact fr Dg (K:=1) (k:=by rw[den_3 hap hqk hall c9])
 refine RQ 3 0 ev ev (by simp[bV,D.nr]) ?_
 refine RQ 4 1 ev ev (by simp[bV,D.nr]) ?_
 refine ae Dg ?_ (hok:=ic (Zez l a hl hd))
 refine ae Dg ?_ (hok:=ic (Zey (List.filter (bW a) l) q hl2 hd2))
 refine ae Dg ?_
 refine wA Dg ?_
 refine lq (Nat×Nat) [3,4,10,11,12,64,65] (λ⟨m,nx⟩=>((m<=(List.filter (λs=>dE s q.name) (List.filter (bW a) l)).length)/\1<nx/\((List.filter (λs=>dE s q.name) (List.filter (bW a) l)).any (gW a q)=((List.filter (λs=>dE s q.name) (List.filter (bW a) l)).drop m).any (gW a q)),(List.filter (λs=>dE s q.name) (List.filter (bW a) l)).length-m,[(66,.i m)],[],nx)) (0,_) ?_
 rintro⟨m,nx⟩ ⟨hm,hx,hv2⟩
 simp only[XX,XZ]
 have hx0:0<nx:=by omega
 have ff:=qA @hx ff
 refine wH Dg (λc15=>?_) (λc15=>?_)
 .
  have hm2:m<(List.filter (λs=>dE s q.name) (List.filter (bW a) l)).length:=by simpa using c15
  obtain⟨uO,he9⟩:=hd3 m hm2;have ff:=qB (getD_set hm2) (mq uO) ff;refine wB ?_;refine ae Dg ?_;refine oM Dg (λc17=>?_) (λc17=>?_) (hok:=oS (k:=by first|trivial|(repeat' with_reducible apply And.intro)<;>first|(intros;exact RX (List.filter (λs=>dE s q.name) (List.filter (bW a) l))[m]! q.ty uO ht)|(intros;exact RZ (List.filter (λs=>dE s q.name) (List.filter (bW a) l))[m]! uO)|grind)) (hq:=rfl)
  . exact fr Dg (K:=1) (k:=by rw[Sc hap hqk hall c9 (hv2.trans (TV hm2 (Wv c17)))])
  refine wG Dg (λc19=>?_) (λc19=>?_) (hok:=oI (Kk a (List.filter (λs=>dE s q.name) (List.filter (bW a) l))[m]! q.name uO) Ar) (hq:=rfl)
  . exact fr Dg (K:=1) (k:=by rw[Sc hap hqk hall c9 (hv2.trans (TV hm2 (Wu c19)))])
  refine wC Dg ?_;exact ak (m+1,_) (h1:=⟨iv,iv,(by(try dsimp only);rw[hv2,TW hm2,Wt c17 c19];rfl)⟩)
 have e8:m=(List.filter (λs=>dE s q.name) (List.filter (bW a) l)).length:=by omega
 subst e8
 have hany:=hv2.trans (by rw[Zr];rfl:_=false)
 refine aR ?_
 refine ae Dg ?_ (hok:=oz (Zex (List.filter (λs=>dE s q.name) (List.filter (bW a) l)) (a,q) hl3 hd3))
 exact fr Dg (K:=1) (hok:=oH (ZeX a q (List.filter (bW a) l) ((List.filter (λs=>dE s q.name) (List.filter (bW a) l)).filter λs=>dz a s q.name) hl2 hl4 hd2 hd4 ht)) (k:=by rw[den_5 hap hqk hall c9 hany];first|done|rfl)
set_option maxHeartbeats 2000000 in
def Zb9(z:Zon)(q:Qst)(hW:PureCt prog 5 [] (.b true)):PureCt prog 4 [.agg z.d,.agg q.d] (.b true):=by
 refine oO func4 λff=>?_
 unfold Tryz.f4
 refine ae Dg ?_
 refine ae Dg ?_ (hok:=oF hW)
 refine oM Dg (λc1=>?_) (λc1=>?_) (hok:=oS (k:=by first|trivial|(repeat' with_reducible apply And.intro)<;>first|(intros;exact Zay z)|(intros;exact Zaq z)|grind)) (hq:=rfl)
 . exact ft Dg
 refine ae Dg ?_ (hok:=oF (Sg z))
 refine oM Dg ?_ ?_ (hq:=rfl)<;>intro c2
 . exact ft Dg
 refine ae Dg ?_ (hok:=oF (Pn (dW z).1 q))
 refine aU ?_
 refine wG Dg (λc3=>?_) (λc3=>?_) (hok:=oS (k:=by first|trivial|(repeat' with_reducible apply And.intro)<;>first|(intros;exact trivial)|grind)) (hq:=rfl)
 . exact ft Dg
 have hE:=td_g (by simpa using c2) c3
 generalize (fK (dW z).1 q).1=A at hE ⊢
 have hlA:=hE.len
 have hl9:(dL A.sets).length<=1000000:=Yt (Ox _) hlA
 refine fB ?_
 refine ae Dg ?_
 refine aU ?_
 refine uX 10 41 (by simp only[go_sem,ff]) (by simp only[go_sem,ff]) ?_
 refine ae Dg ?_
 refine dO ?_
 refine lq (Nat×Nat×Nat) [2,3,8,60,61] (λ⟨k,r,nx⟩=>(k<=A.sets.length/\29<nx/\(29<r/\r<nx),A.sets.length-k,[(5,.b true),(10,.mrow r 0 (lm A.sets k).length),(62,.i k)],[(0,⟨24,[z.d]⟩),(1,⟨27,[q.d]⟩),(29,⟨36,[A.d]⟩),(r,⟨41,(lm A.sets k).map RSet.d⟩)],nx)) (0,52,_) ?_
 rintro⟨k,r,nx⟩ ⟨hk,hx,hr⟩
 simp only[XX,XZ]
 have hnl:=Zbd A.sets k
 have n0:0<nx:=by omega
 have n1:1<nx:=by omega
 have ff:=qI @hr.2 @hx (nH 0 1) (nH 0 29) (nH 0 r) (nH 1 29) (nH 1 r) (nH 29 r) ff
 refine wH Dg ?_ ?_<;>intro c4
 .
  have hk2:k<A.sets.length:=by simpa using c4
  have ff:=qA (cZ hk2) ff;refine wB ?_;refine ae Dg ?_;refine wE Dg ?_ ?_<;>intro c5
  . refine aA Dg ?_;refine aA Dg ?_;have hst:=Zba hk2 c5;have ff:=qA hst ff;exact ak (k+1,(nx+13),_)
  refine wC Dg ?_;have hst:=nx_no hk2 c5;have ff:=qA hst ff;exact ak (k+1,r,_)
 have e8:k=A.sets.length:=by omega
 subst e8
 have ff:=qB (Zbe A.sets) @hE.g ff
 refine aR ?_
 refine ae Dg ?_ (hok:=oS (k:=by first|trivial|(repeat' with_reducible apply And.intro)<;>first|(intros;exact(by have q9:=ZeS z.apex q (dL A.sets) hl9;rw[hE.g]at q9;exact q9))|omega|rfl|grind))
 refine oM Dg ?_ ?_ (hq:=rfl)<;>intro c6
 . simp at c6
 refine oM Dg (λc7=>?_) (λc7=>?_) (hok:=oS (k:=by first|trivial|(repeat' with_reducible apply And.intro)<;>first|(intros;exact trivial)|grind)) (hq:=rfl)
 .
  have h5:=hE.k5 (by simpa using c7)
  exact fr Dg (hok:=oS (k:=by first|trivial|(repeat' with_reducible apply And.intro)<;>first|(intros;exact trivial)|grind)) (k:=by rw[h5];simp)
 have h0:=hE.k0 (by simpa using c7)
 exact fr Dg (hok:=oS (k:=by first|trivial|(repeat' with_reducible apply And.intro)<;>first|(intros;exact trivial)|grind)) (k:=by rcases h0 with h|h|h<;>rw[h]<;>simp)
theorem lawTD0_ct(z:Zon)(q:Qst):PureCt prog 4 [.agg z.d,.agg q.d] (.b true):=Zb9 z q hW
end Go.Proofs.YtdcenbhgholncaaGreatDoor
