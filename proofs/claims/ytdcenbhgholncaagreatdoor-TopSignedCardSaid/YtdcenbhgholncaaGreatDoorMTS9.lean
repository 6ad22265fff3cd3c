/-
  MANY TEXTS OF MINE IN ONE (a claim has a limit of files): Wj, TgW1, TgW2, Wk. Conditions: none.
-/
import Derived.Test.YtdcenbhgholncaaGreatDoorMTS8
set_option linter.unusedVariables false
set_option linter.unusedSimpArgs false
set_option linter.unusedSectionVars false
set_option linter.defProp false
set_option linter.unnecessarySimpa false
namespace Go.Proofs.YtdcenbhgholncaaGreatDoor
open Go.Proofs.Tryz
open Go.DL Go.Str Go.Rec Go.Zon
noncomputable def tbW:List (FuncId×(List D->Option D)):=(15,sj QB d15)::(16,sj [fst1 d15] rz)::(17,sj [rz] d17)::(18,sj [rz,sX [116,46,120]] d18)::(19,sj [rz,.agg [sX [116,46,120],.i 5]] d19)::tbR
def RL:rH tbW:=dG (wu h15) <| dG (wu h16) <| dG (wu h17) <| dG (wu h18) <| dG (wu h19) lv
theorem hW:PureCt prog 5 [] (.b true):=kN RL (by kernel_rfl)
open Go.Cmp Go.Jn Go.RowKit
set_option maxRecDepth 10000
variable [Dr]
def Rw(a:Int)(d:Int):PureCt prog 54 [.i a,.i d] (.b (kI a d)):=by
 refine oO func54 λff=>?_
 unfold f54
 refine ae Tg ?_
 exact fr Tg (k:=by simp only[kI,aO];grind)
def Uw(a:Int)(d:Int):PureCt prog 8 [.i a,.i d] (.b (kI a d)):=by
 refine oO func8 λff=>?_
 unfold Tryz.f8
 refine ae Tg ?_
 exact fr Tg (k:=by simp only[kI,aO];grind)
def RI(k:SKey)(s:Sgd)(g:RSig):PureCt prog 58 [.agg k.d,.eptr s.d,.eptr g.d] (.b (rD s.set g k)):=by
 refine oO func58 λff=>?_
 unfold f58
 refine ae Tg ?_
 exact ft Tg (hok:=oF (Uq _ _ _))
def RG(l:List SKey)(f:Bt)(hl:l.length<=1000):PureCt prog 57 [.l (l.map SKey.d),.fn (.func 58) [] [.eptr f.s.d,.eptr f.g.d]] (.tuple [.agg (fu (oU f) rU l).1.d,.b (fu (oU f) rU l).2]):=by
 refine oO func57 λff=>?_
 unfold f57
 refine ae Tg ?_
 refine wA Tg ?_
 refine lq (Nat×Nat) [1,4,9,10] (λ⟨k,nx⟩=>(k<=l.length/\0<nx/\fu (oU f) rU l=fu (oU f) rU (l.drop k),l.length-k,[(11,.i k)],[(0,⟨48,[[.i 0,.i 0]]⟩)],nx)) (0,_) ?_
 rintro⟨k,nx⟩ ⟨hk,hx,hv⟩
 simp only[XX,XZ]
 have ff:=qA @hx ff
 refine wH Tg ?_ ?_<;>intro c1
 .
  have hk2:k<l.length:=by simpa using c1
  have ff:=qA (yS hk2) ff;refine wB ?_;refine ae Tg ?_;refine wG Tg ?_ ?_ (hok:=oF (RI _ _ _)) (hq:=rfl)<;>intro c2
  . exact fr Tg (K:=2) (k:=by rw[hv,NS (p:=oU f) hk2 c2];try rfl)
  refine wC Tg ?_;exact ax (k+1,_) (h1:=⟨iv,iv,(by(try dsimp only);exact hv.trans (NT (p:=oU f) hk2 c2))⟩)
 have e8:k=l.length:=by omega
 subst e8
 refine aP ?_
 refine ae Tg ?_
 exact fr Tg (K:=2) (k:=by rw[hv,NU];try rfl)
def Rx(g:RSig)(zn:Str)(a:Int)(d:Int)(ks:List SKey)(s:Sgd)(hl:ks.length<=1000)(ha:aO a 0 10000000=true)(hd:aO d 0 1000=true):PureCt prog 56 [.agg g.d,.eptr [.v (.string (bs zn))],.eptr [.i a],.eptr [.i d],.eptr [.l (ks.map SKey.d)],.eptr s.d] (.b (jK ⟨zn,a,d,ks,s⟩ g)):=by
 refine oO func56 λff=>?_
 unfold f56
 obtain⟨ha1,ha2⟩:=iy.1 ha
 obtain⟨hd1,hd2⟩:=iy.1 hd
 refine ae Tg ?_
 refine oM Tg ?_ ?_ (hq:=rfl)<;>intro c1
 . exact fr Tg (k:=by unfold jK;grind)
 refine yZ 6 0 ev ev (by simp[bK,D.nr]) ?_
 refine ae zo ?_ (hok:=oF (RG ks ⟨s,g⟩ hl))
 exact fr Tg (k:=by unfold jK;grind)
def RF(l:List RSig)(f:Br)(hl:l.length<=1000)(hk9:f.ks.length<=1000)(ha9:aO f.at_ 0 10000000=true)(AP:aO f.dr 0 1000=true):PureCt prog 55 [.l (l.map RSig.d),.fn (.func 56) [] [.eptr [.v (.string (bs f.zn))],.eptr [.i f.at_],.eptr [.i f.dr],.eptr [.l (f.ks.map SKey.d)],.eptr f.s.d]] (.tuple [.agg (fu (jK f) o8 l).1.d,.b (fu (jK f) o8 l).2]):=by
 refine oO func55 λff=>?_
 unfold f55
 refine ae Tg ?_
 refine wA Tg ?_
 refine lq (Nat×Nat) [1,4,9,10] (λ⟨k,nx⟩=>(k<=l.length/\0<nx/\fu (jK f) o8 l=fu (jK f) o8 (l.drop k),l.length-k,[(11,.i k)],[(0,⟨94,[[.v (.string (bs [])),.i 0,.i 0,.i 0,.i 0,.v (.int .u64 0)]]⟩)],nx)) (0,_) ?_
 rintro⟨k,nx⟩ ⟨hk,hx,hv⟩
 simp only[XX,XZ]
 have ff:=qA @hx ff
 refine wH Tg ?_ ?_<;>intro c1
 .
  have hk2:k<l.length:=by simpa using c1
  have ff:=qA (tH hk2) ff;refine wB ?_;refine ae Tg ?_;refine wG Tg ?_ ?_ (hok:=oF (Rx _ _ _ _ _ _ hk9 ha9 AP)) (hq:=rfl)<;>intro c2
  . exact fr Tg (K:=2) (k:=by rw[hv,NS (p:=jK f) hk2 c2];try rfl)
  refine wC Tg ?_;exact ax (k+1,_) (h1:=⟨iv,iv,(by(try dsimp only);exact hv.trans (NT (p:=jK f) hk2 c2))⟩)
 have e8:k=l.length:=by omega
 subst e8
 refine aP ?_
 refine ae Tg ?_
 exact fr Tg (K:=2) (k:=by rw[hv,NU];try rfl)
def Js(s:Sgd)(zn:Str)(ks:List SKey)(a:Int)(d:Int)(hk:ks.length<=1000)(hs:s.sigs.length<=1000):PureCt prog 13 [.agg s.d,.v (.string (bs zn)),.l (ks.map SKey.d),.i a,.i d] (.b (vY s zn ks a d)):=by
 refine oO func13 λff=>?_
 unfold f13
 refine ae Tg ?_
 refine oK Tg ?_ ?_ (hok:=oF (Rw _ _))<;>intro c1
 . exact fr Tg (k:=by unfold vY;grind)
 refine yZ 5 0 ev ev (by simp[bK,D.nr,sJ,sI,yA]) ?_
 refine yZ 6 1 ev ev (by simp[bK,D.nr,sJ,sI,yA]) ?_
 refine yZ 7 2 ev ev (by simp[bK,D.nr,sJ,sI,yA]) ?_
 refine yZ 8 3 ev ev (by simp[bK,D.nr,sJ,sI,yA]) ?_
 refine yZ 9 4 ev ev (by simp[bK,D.nr,sJ,sI,yA]) ?_
 refine ae zo ?_ (hok:=oF (RF s.sigs ⟨zn,a,d,ks,s⟩ hs hk (by unfold kI at c1;grind) (by unfold kI at c1;grind)))
 exact fr Tg (k:=by unfold vY;grind)
end Go.Proofs.YtdcenbhgholncaaGreatDoor
namespace Go.Proofs.YtdcenbhgholncaaGreatDoor
open Go.Proofs.Tryz
open Go.DL Go.Str Go.Rec Go.Zon Go.Cmp Go.Jn Go.RowKit
set_option maxRecDepth 10000
set_option maxHeartbeats 2000000 in
def Xx(z:Zon)(ks:List SKey)(fr:Int)(un:Int)(q:Qst)(tm:Int)(dr:Int)(hW:PureCt prog 5 [] (.b true))(hL:(gG z).2=0->(allR (gG z).1 ks fr un).2=0->(fB (allR (gG z).1 ks fr un).1 q).2=0->kI tm dr=true->fr<=tm-dr->tm+dr<=un->QL (allR (gG z).1 ks fr un).1 (fB (allR (gG z).1 ks fr un).1 q).1 ks tm dr):PureCt prog 3 [.agg z.d,.l (ks.map SKey.d),.i fr,.i un,.agg q.d,.i tm,.i dr] (.b true):=by
 refine oO func3 λff=>?_
 unfold Tryz.f3
 refine ae Tg ?_
 refine ae Tg ?_ (hok:=oF hW)
 refine oM Tg (λc1=>?_) (λc1=>?_) (hok:=oS (k:=by first|trivial|(repeat' with_reducible apply And.intro)<;>first|(intros;exact Vu z)|(intros;exact Vm z)|(intros;exact Uw tm dr)|(intro h;simp only[Yb,Ym]at h;have h9:=RB (by first|exact h.2|exact h.1.2);omega)))
 . exact ft Tg
 refine ae Tg ?_ (hok:=oF (Px z))
 refine oM Tg ?_ ?_ (hq:=rfl)<;>intro c2
 . exact ft Tg
 refine ae Tg ?_ (hok:=oF (Ki (gG z).1 ks fr un))
 refine aY ?_
 refine wG Tg ?_ ?_ (hq:=rfl)<;>intro c3
 . exact ft Tg
 have hL9:=hL (by simpa using c2) (by simpa using c3)
 generalize (allR (gG z).1 ks fr un).1=x at hL9 ⊢
 refine dS ?_
 refine ae Tg ?_ (hok:=oF (MM x q))
 refine aY ?_
 refine wG Tg ?_ ?_ (hq:=rfl)<;>intro c4
 .
  have he:(fB x q).2=1:=(Zdt (z:=x) (q:=q)).resolve_left (by simpa using c4)
  have ff:=qA @he ff;exact ft Tg
 have hE:=hL9 (by simpa using c4) (by grind) (by grind) (by grind)
 generalize (fB x q).1=A at hE ⊢
 have hlA:=hE.len
 refine dS ?_
 refine wA Tg ?_
 refine lq (Nat×Nat) [1,5,6,18,97,98] (λ⟨k,nx⟩=>(k<=A.sets.length/\56<nx,A.sets.length-k,[(15,.b true),(99,.i k)],[(56,⟨24,[x.d]⟩)],nx)) (0,_) ?_
 rintro⟨k,nx⟩ ⟨hk,hx⟩
 simp only[XX,XZ]
 have ff:=qA @hx ff
 refine wH Tg ?_ ?_<;>intro c5
 .
  have hk2:k<A.sets.length:=by simpa using c5
  have ff:=qB (bU hk2) (hE.cut k hk2) ff;refine wB ?_;refine ae Tg ?_;refine ae Tg ?_ (hok:=oF (Bz (hE.cut k hk2)));refine oM Tg ?_ ?_ (hq:=rfl)<;>intro c6
  . simp at c6
  refine oM Tg ?_ ?_ (hq:=rfl)<;>intro c7
  .
   have hun:=hE.un k hk2 (by unfold zm;grind)
   have ff:=qA @hun ff;refine ae Tg ?_;refine aP ?_;refine aA Tg ?_;exact ax (k+1,_)
  have hsg:=hE.sg k hk2 (by unfold zm;grind)
  refine ae Tg ?_;refine dZ ?_;refine lq (Nat×Nat×Nat) [1,5,6,18,97,98,99,141,142] (λ⟨j,c,nx⟩=>(j<=ks.length/\c<nx/\56<c,ks.length-j,[(15,.b true),(23,.mptr c 0 0),(143,.i j)],[(56,⟨24,[x.d]⟩),(c,⟨44,[A.sets[k]!.d]⟩)],nx)) (0,(nx+3),_) ?_
  rintro⟨j,c,nx⟩ ⟨hj,hx2,hc2⟩;simp only[XX,XZ];have n2:56<nx:=by omega
  have ff:=qD @hx2 @n2 (nH 56 c) ff;refine wH Tg ?_ ?_<;>intro c8
  .
   have hj2:j<ks.length:=by simpa using c8
   have ff:=qB (yS hj2) (hsg j hj2) ff;refine wB ?_;refine ae Tg ?_;refine aA Tg ?_ (hok:=oS (k:=by first|trivial|(repeat' with_reducible apply And.intro)<;>first|(have q9:=Js A.sets[k]! x.apex [ks[j]!] tm dr (by simp) (hE.sigs k hk2);rw[hsg j hj2]at q9;exact q9)|(intros;have q9:=Js A.sets[k]! x.apex [ks[j]!] tm dr (by simp) (hE.sigs k hk2);rw[hsg j hj2]at q9;exact q9)))
   refine aA Tg ?_;exact ax (j+1,c,_)
  refine aP ?_;refine aA Tg ?_;exact ax (k+1,_)
 refine aP ?_
 exact ft Tg
def Zdy{z:Zon}{ks:List SKey}{f u:Int}(a0:(allR z ks f u).2=0):ks.length<=6:=by
 unfold Zon.allR at a0
 split at a0
 . cases a0
 omega
theorem lawTS0_ct(z:Zon)(ks:List SKey)(fr un:Int)(q:Qst)(tm dr:Int):PureCt prog 3 [.agg z.d,.l (ks.map SKey.d),.i fr,.i un,.agg q.d,.i tm,.i dr] (.b true) :=
 Xx z ks fr un q tm dr hW λ_ a0 _ ht h1 h2=>Ry a0 (Zdy a0) ht h1 h2
end Go.Proofs.YtdcenbhgholncaaGreatDoor
