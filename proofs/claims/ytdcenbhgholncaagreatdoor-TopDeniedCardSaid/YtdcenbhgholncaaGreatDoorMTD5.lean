/-
  MANY TEXTS OF MINE IN ONE (a claim has a limit of files): ZoW3, ZoW4, ZoW5, ReW1, ReW2, ReW3, DlW6, DeW1, DeW2, LkW1, LkW2, DeW3, LkW5, LkW3, LkW7, LkW9, LkW4, LkWa, LkW6, LkWb, LkWc, LkWe, LkW8, LkWd, SgW1, SgW2, SgW3, SgW4, DlW11, SgW6, Rt, IiW1, Wx. Conditions: none.
-/
import Derived.Test.YtdcenbhgholncaaGreatDoorMTD4
set_option linter.unusedVariables false
set_option linter.unusedSimpArgs false
set_option linter.unusedSectionVars false
set_option linter.defProp false
set_option linter.unnecessarySimpa false
namespace Go.Proofs.YtdcenbhgholncaaGreatDoor
open Go.Proofs.Tryz
open Go.DL Go.Str Go.Rec Go.Cmp Go.Zon
set_option maxRecDepth 10000
variable [Dr]
def JW{l:List Sgd}{q:Qst}{i j:Nat}(hv:eY l q=iJ (λk=>qC l[k]!.q q) i j)(h:i<j):(qC l[(i+j) / 2]!.q q<0->eY l q=iJ (λk=>qC l[k]!.q q) ((i+j) / 2+1) j)/\(¬qC l[(i+j) / 2]!.q q<0->eY l q=iJ (λk=>qC l[k]!.q q) i ((i+j) / 2)):=by
 rw[rZ,XY h]at hv
 exact⟨λh2=>by rw[XY h2]at hv;exact hv,λh2=>by rw[XW h2]at hv;exact hv⟩
def Gt(s:Sgd)(q:Qst):PureCt prog 137 [.agg s.d,.agg q.d] (.i (qC s.q q)):=by
 refine oO func137 λff=>?_
 unfold f137
 refine ae Dg ?_
 exact ft Dg (hok:=oF (Lj _ _ _ _))
def Us(l:List Sgd)(q:Qst)(hl:l.length<=1000000):PureCt prog 136 [.l (l.map Sgd.d),.agg q.d,.fn (.func 137) [] []] (.tuple [.i (eY l q),.b (eX l q)]):=by
 refine oO func136 λff=>?_
 unfold f136
 refine oD Dg ?_
 refine wD ?_
 refine lq (Nat×Nat×Nat) [0,2,4,8] (λ⟨i,j,nx⟩=>(i<=j/\j<=l.length/\0<nx/\(eY l q=iJ (λk=>qC l[k]!.q q) i j),j-i,[(9,.i i),(10,.i j)],[(0,⟨27,[q.d]⟩)],nx)) (0,l.length,_) ?_
 rintro⟨i,j,nx⟩ ⟨hij,hj,hx,hv⟩
 simp only[XX,XZ]
 have ff:=qA @hx ff
 refine oT Dg ?_ ?_<;>intro c1
 .
  have hk2:i<j:=by simpa using c1
  have hm:(i+j) / 2<l.length:=by omega
  have ff:=qB (IQ (i:=i) (j:=j) (by omega)) (cZ hm) ff
  refine dO ?_;refine ae Dg ?_;refine wE Dg ?_ ?_ (hok:=oH (Gt l[(i+j) / 2]! q))<;>intro c2
  . refine aA Dg ?_;exact ak ((i+j) / 2+1,j,_) (h1:=⟨iv,iv,iv,((JW hv hk2).1 c2)⟩)
  refine aA Dg ?_;exact ak (i,(i+j) / 2,_) (h1:=⟨iv,iv,iv,(by(try dsimp only);exact(JW hv hk2).2 om)⟩)
 refine aR ?_
 have hij2:i=j:=by have h9 : ¬i<j:=(by simpa using c1);omega
 have hv2:eY l q=i:=by rw[hv,rZ,XW (by omega)]
 by_cases hk4:i<l.length
 . have ff:=qA (cZ hk4) ff;exact fr Dg (K:=1) (hok:=oS (k:=by first|trivial|(repeat' with_reducible apply And.intro)<;>first|(intros;exact Gt l[i]! q)|omega|(intro h;have h:=Y3 h;omega))) (k:=by simp only[eX];rw[hv2];simp[hk4])
 have ff:=qA (Qt (f:=Sgd.d) (Nat.le_of_not_lt hk4)) ff
 exact fr Dg (K:=1) (hok:=oS (k:=by first|trivial|(repeat' with_reducible apply And.intro)<;>first|(intros;exact Gt l[i]! q)|omega|(intro h;have h:=Y3 h;omega))) (k:=by simp only[eX];rw[hv2];simp[hk4])
def vL(z:Zon)(q:Qst)(hl:z.sets.length<=1000000):PureCt prog 53 [.agg z.d,.agg q.d] (.tuple [.i (eY z.sets q),.b (eX z.sets q)]):=by
 refine oO func53 λff=>?_
 unfold f53
 refine ae Dg ?_
 exact ft Dg (K:=1) (hok:=oH (Us _ _ hl))
def Uk(z:Zon):PureCt prog 112 [.agg z.d] (.b (ordered z)):=by
 refine oO func112 λff=>?_
 unfold f112
 refine ae Dg ?_
 refine oK Dg ?_ ?_ (hok:=oI sO E5)<;>intro c1
 . exact fr Dg (k:=by simp only[ordered];rw[vO]at *;grind)
 refine wA Dg ?_
 refine lq (Nat×Nat) [1,28,29] (λ⟨k,nx⟩=>(k<=z.sets.length/\aF z.sets.length (kH z.apex z.sets) 0=aF z.sets.length (kH z.apex z.sets) k/\0<nx,z.sets.length-k,[(30,.i k)],[(0,⟨110,[z.d]⟩)],nx)) (0,_) ?_
 rintro⟨k,nx⟩ ⟨hk,hv,hx⟩
 simp only[XX,XZ]
 have ff:=qA @hx ff
 refine wH Dg ?_ ?_<;>intro c2
 .
  have hk2:k<z.sets.length:=by simpa using c2
  have h0:0<z.sets.length:=by omega
  have hk1:k-1<z.sets.length:=by omega
  have e1:((k:Int)-1).toNat=k-1:=by omega
  have ff:=qE (cZ hk2) (cZ h0) (cZ hk1) @e1 ff;refine wB ?_;refine ae Dg ?_;refine oK Dg ?_ ?_ (hok:=oF (DF _))<;>intro c3
  . exact fr Dg (k:=by have hF:(kH z.apex z.sets) k=false:=(by simp only[kH];grind [Sgd.q]);simp only[ordered];rw[hv,dY hk2 hF];try simp)
  refine aU ?_;refine ae Dg ?_ (hok:=oF (wO _ _));refine wE Dg ?_ ?_<;>intro c4
  . exact fr Dg (k:=by have hF:(kH z.apex z.sets) k=false:=(by simp only[kH];grind [Sgd.q]);simp only[ordered];rw[hv,dY hk2 hF];try simp)
  refine fB ?_;refine oK Dg ?_ ?_<;>intro c5
  .
   refine aR ?_;refine aA Dg ?_;have h8:(kH z.apex z.sets) k=true:=by simp only[kH];grind [Sgd.q]
   exact ak (k+1,_) (h1:=⟨iv,(by(try dsimp only);rw[hv,bO hk2 h8]),iv⟩)
  refine ae Dg ?_;refine wE Dg ?_ ?_ (hok:=oF (Lj _ _ _ _))<;>intro c6
  . exact fr Dg (k:=by have hF:(kH z.apex z.sets) k=false:=(by simp only[kH];grind [Sgd.q]);simp only[ordered];rw[hv,dY hk2 hF];try simp)
  refine wC Dg ?_;have h8:(kH z.apex z.sets) k=true:=by simp only[kH];grind [Sgd.q]
  exact ak (k+1,_) (h1:=⟨iv,(by(try dsimp only);rw[hv,bO hk2 h8]),iv⟩)
 refine aR ?_
 exact fr Dg (k:=by simp only[ordered];rw[vO]at *;rw[hv,jE (by omega)];grind)
def Ut(z:Zon)(hl:z.sets.length<=1000000):PureCt prog 113 [.agg z.d] (.b (mK z)):=by
 refine oO func113 λff=>?_
 unfold f113
 refine ae Dg ?_
 refine wA Dg ?_
 refine lq (Nat×Nat) [1,9,10] (λ⟨k,nx⟩=>(k<=2/\aF 2 (lS z) 0=aF 2 (lS z) k/\0<nx,2-k,[(11,.i k)],[(0,⟨110,[z.d]⟩)],nx)) (0,_) ?_
 rintro⟨k,nx⟩ ⟨hk,hv1,hx⟩
 simp only[XX,XZ]
 have ff:=qA @hx ff
 refine wH Dg ?_ ?_<;>intro c1
 .
  have hk2:k<2:=by have h9:(k:Int)<2:=(by simpa using c1);omega
  refine wB ?_;have h01:k=0\/k=1:=by omega
  rcases h01 with e0|e0
  .
   have ff:=qA @e0 ff;refine ae Dg ?_;refine ae Dg ?_ (hok:=oI (vL z ⟨z.apex,4⟩ hl) (vL z ⟨z.apex,2⟩ hl));refine wE Dg ?_ ?_<;>intro c2
   . exact fr Dg (k:=by have hF:(lS z) k=false:=(by simpa[lS,e0]using c2);simp only[mK];rw[hv1,dY hk2 hF];try simp)
   refine wC Dg ?_;have h8:(lS z) k=true:=by simpa[lS,e0]using c2
   exact ak (k+1,_) (h1:=⟨iv,(by(try dsimp only);rw[hv1,bO hk2 h8]),iv⟩)
  have ff:=qA @e0 ff;refine ae Dg ?_;refine ae Dg ?_ (hok:=oI (vL z ⟨z.apex,4⟩ hl) (vL z ⟨z.apex,2⟩ hl));refine wE Dg ?_ ?_<;>intro c2
  . exact fr Dg (k:=by have hF:(lS z) k=false:=(by simpa[lS,e0]using c2);simp only[mK];rw[hv1,dY hk2 hF];try simp)
  refine wC Dg ?_;have h8:(lS z) k=true:=by simpa[lS,e0]using c2
  exact ak (k+1,_) (h1:=⟨iv,(by(try dsimp only);rw[hv1,bO hk2 h8]),iv⟩)
 refine aR ?_
 refine wA Dg ?_
 refine lq (Nat×Nat) [1,30,31] (λ⟨k,nx⟩=>(k<=z.sets.length/\aF z.sets.length (mr z.apex z.sets) 0=aF z.sets.length (mr z.apex z.sets) k/\0<nx,z.sets.length-k,[(32,.i k)],[(0,⟨110,[z.d]⟩)],nx)) (0,_) ?_
 rintro⟨k,nx⟩ ⟨hk,hv,hx⟩
 simp only[XX,XZ]
 have ff:=qA @hx ff
 refine wH Dg ?_ ?_<;>intro c3
 .
  have hk2:k<z.sets.length:=by simpa using c3
  have ff:=qA (cZ hk2) ff;refine wB ?_;refine ae Dg ?_;refine wE Dg ?_ ?_ (hok:=oF (QM _ _))<;>intro c4
  . exact fr Dg (k:=by have hF:(mr z.apex z.sets) k=false:=(by simp only[mr];grind);simp only[mK];rw[hv,dY hk2 hF];try simp)
  refine wC Dg ?_;have h8:(mr z.apex z.sets) k=true:=by simp only[mr];grind
  exact ak (k+1,_) (h1:=⟨iv,(by(try dsimp only);rw[hv,bO hk2 h8]),iv⟩)
 refine aR ?_
 exact fr Dg (k:=by simp only[mK];rw[hv1,hv,jE (n:=2) (by omega),jE (by omega)];rfl)
@[go_sem]theorem keysOk_T{m:List Str}:lC prog 9 (qi m)=true:=by
 induction m with
 | nil=>rfl
 | cons s m ih=>rw[yA];simp only[lC,ih,ko9,ZQ]
def Lm(x:Lay)(hl:x.z.sets.length<=1000000):PureCt prog 115 [.agg x.d] (.b (pM x)):=by
 refine oO func115 λff=>?_
 unfold f115
 refine ae Dg ?_
 refine wA Dg ?_
 refine lq (Nat×Nat) [1,8,9] (λ⟨k,nx⟩=>(k<=x.z.sets.length/\aF x.z.sets.length (kS x.z.sets) 0=aF x.z.sets.length (kS x.z.sets) k/\0<nx,x.z.sets.length-k,[(10,.i k)],[(0,⟨187,[x.d]⟩)],nx)) (0,_) ?_
 rintro⟨k,nx⟩ ⟨hk,hv,hx⟩
 simp only[XX,XZ]
 have ff:=qA @hx ff
 refine wH Dg ?_ ?_<;>intro c1
 .
  have hk2:k<x.z.sets.length:=by simpa using c1
  have hk1:k-1<x.z.sets.length:=by omega
  have e1:((k:Int)-1).toNat=k-1:=by omega
  have e2:((k:Int)+1).toNat=k+1:=by omega
  have ff:=qE (cZ hk2) (cZ hk1) @e1 @e2 ff;refine wB ?_;refine ae Dg ?_;refine oK Dg ?_ ?_<;>intro c2
  .
   refine aR ?_;refine aA Dg ?_;have h8:(kS x.z.sets) k=true:=by simp only[kS];grind
   exact ak (k+1,_) (h1:=⟨iv,(by(try dsimp only);rw[hv,bO hk2 h8]),iv⟩)
  refine oK Dg ?_ ?_<;>intro c3
  . exact fr Dg (k:=by have hF:(kS x.z.sets) k=false:=(by simp only[kS];grind);simp only[pM];rw[hv,dY hk2 hF];try simp)
  by_cases hk4:k+1<x.z.sets.length
  .
   have ff:=qA (cZ hk4) ff;refine wE Dg ?_ ?_<;>intro c4
   . exact fr Dg (k:=by have hF:(kS x.z.sets) k=false:=(by simp only[kS];grind);simp only[pM];rw[hv,dY hk2 hF];try simp)
   refine wC Dg ?_;have h8:(kS x.z.sets) k=true:=by simp only[kS];grind
   exact ak (k+1,_) (h1:=⟨iv,(by(try dsimp only);rw[hv,bO hk2 h8]),iv⟩)
  have e9:decide (((k+1:Nat):Int)<x.z.sets.length)=false:=YI om;have ff:=qA (Qt (f:=Sgd.d) (Nat.le_of_not_lt hk4)) ff;refine wE Dg ?_ ?_<;>intro c5
  . exact fr Dg (k:=by have hF:(kS x.z.sets) k=false:=(by simp only[kS];grind);simp only[pM];rw[hv,dY hk2 hF];try simp)
  refine wC Dg ?_;have h8:(kS x.z.sets) k=true:=by simp only[kS];grind
  exact ak (k+1,_) (h1:=⟨iv,(by(try dsimp only);rw[hv,bO hk2 h8]),iv⟩)
 refine aR ?_
 exact fr Dg (k:=by simp only[pM];rw[hv,jE (by omega)])
def Li(x:Lay)(hl:x.z.sets.length<=1000000)(hb:x.b.length=x.z.sets.length):PureCt prog 116 [.agg x.d] (.b (kQ x)):=by
 refine oO func116 λff=>?_
 unfold f116
 refine ae Dg ?_
 refine wA Dg ?_
 refine lq (Nat×Nat) [1,9,10] (λ⟨k,nx⟩=>(k<=x.z.sets.length/\aF x.z.sets.length (cutAt x) 0=aF x.z.sets.length (cutAt x) k/\0<nx,x.z.sets.length-k,[(11,.i k)],[(0,⟨187,[x.d]⟩)],nx)) (0,_) ?_
 rintro⟨k,nx⟩ ⟨hk,hv,hx⟩
 simp only[XX,XZ]
 have ff:=qA @hx ff
 refine wH Dg ?_ ?_<;>intro c1
 .
  have hk2:k<x.z.sets.length:=by simpa using c1
  have hk3:k<x.b.length:=by omega
  have ff:=qB (cZ hk2) (iy hk3) ff;refine wB ?_;refine oD Dg ?_;refine dO ?_;refine wE Dg ?_ ?_<;>intro c2
  .
   refine wE Dg ?_ ?_<;>intro c3
   . exact fr Dg (k:=by have hF:(cutAt x) k=false:=(by simp only[cutAt];grind);simp only[kQ];rw[hv,dY hk2 hF];try simp)
   refine wC Dg ?_;have h8:(cutAt x) k=true:=by simp only[cutAt];grind
   exact ak (k+1,_) (h1:=⟨iv,(by(try dsimp only);rw[hv,bO hk2 h8]),iv⟩)
  refine wE Dg ?_ ?_<;>intro c4
  .
   refine wE Dg ?_ ?_<;>intro c5
   . exact fr Dg (k:=by have hF:(cutAt x) k=false:=(by simp only[cutAt];grind);simp only[kQ];rw[hv,dY hk2 hF];try simp)
   refine wC Dg ?_;have h8:(cutAt x) k=true:=by simp only[cutAt];grind
   exact ak (k+1,_) (h1:=⟨iv,(by(try dsimp only);rw[hv,bO hk2 h8]),iv⟩)
  refine wE Dg ?_ ?_<;>intro c6
  . exact fr Dg (k:=by have hF:(cutAt x) k=false:=(by simp only[cutAt];grind);simp only[kQ];rw[hv,dY hk2 hF];try simp)
  refine wC Dg ?_;have h8:(cutAt x) k=true:=by simp only[cutAt];grind
  exact ak (k+1,_) (h1:=⟨iv,(by(try dsimp only);rw[hv,bO hk2 h8]),iv⟩)
 refine aR ?_
 exact fr Dg (k:=by simp only[kQ];rw[hv,jE (by omega)])
def Lh(x:Lay)(hl:x.z.sets.length<=1000000)(hb:x.b.length=x.z.sets.length):PureCt prog 117 [.agg x.d] (.b (uS x)):=by
 refine oO func117 λff=>?_
 unfold f117
 refine ae Dg ?_
 refine wA Dg ?_
 refine lq (Nat×Nat) [1,9,10] (λ⟨k,nx⟩=>(k<=x.z.sets.length/\aF x.z.sets.length (tu x) 0=aF x.z.sets.length (tu x) k/\0<nx,x.z.sets.length-k,[(11,.i k)],[(0,⟨187,[x.d]⟩)],nx)) (0,_) ?_
 rintro⟨k,nx⟩ ⟨hk,hv,hx⟩
 simp only[XX,XZ]
 have ff:=qA @hx ff
 refine wH Dg ?_ ?_<;>intro c1
 .
  have hk2:k<x.z.sets.length:=by simpa using c1
  have hk3:k<x.b.length:=by omega
  have ff:=qB (cZ hk2) (iy hk3) ff;refine wB ?_;refine oC Dg ?_;refine wE Dg ?_ ?_<;>intro c2
  . exact fr Dg (k:=by have hF:(tu x) k=false:=(by simp only[tu];grind);simp only[uS];rw[hv,dY hk2 hF];try simp)
  refine wC Dg ?_;have h8:(tu x) k=true:=by simp only[tu];grind
  exact ak (k+1,_) (h1:=⟨iv,(by(try dsimp only);rw[hv,bO hk2 h8]),iv⟩)
 refine aR ?_
 exact fr Dg (k:=by simp only[uS];rw[hv,jE (by omega)])
def Uo(x:Lay)(hl:x.z.sets.length<=1000000):PureCt prog 118 [.agg x.d] (.b (xc x)):=by
 refine oO func118 λff=>?_
 unfold f118
 refine ae Dg ?_
 refine wA Dg ?_
 refine lq (Nat×Nat) [1,8,9] (λ⟨k,nx⟩=>(k<=x.z.sets.length/\aF x.z.sets.length (rR x.z) 0=aF x.z.sets.length (rR x.z) k/\0<nx,x.z.sets.length-k,[(10,.i k)],[(0,⟨187,[x.d]⟩)],nx)) (0,_) ?_
 rintro⟨k,nx⟩ ⟨hk,hv,hx⟩
 simp only[XX,XZ]
 have ff:=qA @hx ff
 refine wH Dg ?_ ?_<;>intro c1
 .
  have hk2:k<x.z.sets.length:=by simpa using c1
  have ff:=qA (cZ hk2) ff;refine wB ?_;refine ae Dg ?_;refine wE Dg ?_ ?_ (hok:=oF (Lg _ _))<;>intro c2
  . exact fr Dg (k:=by have hF:(rR x.z) k=false:=(by simpa only[rR]using c2);simp only[xc];rw[hv,dY hk2 hF];try simp)
  refine wC Dg ?_;have h8:(rR x.z) k=true:=by simpa only[rR]using c2
  exact ak (k+1,_) (h1:=⟨iv,(by(try dsimp only);rw[hv,bO hk2 h8]),iv⟩)
 refine aR ?_
 exact fr Dg (k:=by simp only[xc];rw[hv,jE (by omega)])
def Gs(z:Zon)(hl:z.sets.length<=1000000):PureCt prog 114 [.agg z.d] (.agg (aO z).d):=by
 refine oO func114 λff=>?_
 unfold f114
 refine oC Dg ?_
 refine wA Dg ?_
 refine lq (Nat×Nat) [1,2,3,16,17] (λ⟨k,nx⟩=>(k<=z.sets.length/\2<nx,z.sets.length-k,[(18,.i k)],[(0,⟨110,[z.d]⟩),(1,⟨187,[[.v (.string (bs [])),.e,.e]]⟩),(2,⟨168,iT (qi (bX z (k)))⟩)],nx)) (0,_) ?_
 rintro⟨k,nx⟩ ⟨hk,hx⟩
 simp only[XX,XZ]
 have n0:0<nx:=by omega
 have n1:1<nx:=by omega
 have ff:=qD @hx @n0 @n1 ff
 refine wH Dg ?_ ?_<;>intro c1
 .
  have hk2:k<z.sets.length:=by simpa using c1
  have ff:=qA (cZ hk2) ff;refine wB ?_;refine ae Dg ?_;refine wE Dg ?_ ?_<;>intro c2
  .
   refine aA Dg ?_;refine aA Dg ?_;have ff:=qA (Kl (z:=z) (k:=k) (by grind)) ff
   exact ak (k+1,_)
  refine wC Dg ?_;have ff:=qA (Km (z:=z) (k:=k) (by grind)) ff
  exact ak (k+1,_)
 refine aR ?_
 refine Kc 3 2 ev ev rfl OA ?_
 refine oC Dg ?_
 refine wA Dg ?_
 refine lq (Nat×Str×Nat×Nat×Nat) [2,3,49,50] (λ⟨k,cut,r6,rb,nx⟩=>(k<=z.sets.length/\rb<nx/\r6<nx/\(2<rb/\rb<r6)/\cut=(bU (bX z z.sets.length) z.sets k).2,z.sets.length-k,[(6,.mptr r6 0 0),(7,.v (.string (bs cut))),(51,.i k)],[(0,⟨110,[z.d]⟩),(1,⟨187,[[.v (.string (bs [])),.e,.e]]⟩),(r6,⟨187,[[.v (.string (bs z.apex)),.l (z.sets.map Sgd.d),.mrow rb 0 z.sets.length]]⟩),(rb,⟨9,(mZ (bX z z.sets.length) z.sets z.sets.length (k)).map sR⟩)],nx)) (0,[],(nx+8),(nx+6),_) ?_
 rintro⟨k,cut,r6,rb,nx⟩ ⟨hk,hx,hx6,hbr,hc⟩
 simp only[XX,XZ]
 have n0:0<nx:=by omega
 have n1:1<nx:=by omega
 have ff:=qA @hx (qI @hx6 @n0 @n1 (nH r6 rb) (nH 0 rb) (nH 1 rb) (nH 0 r6) (nH 1 r6) ff)
 refine wH Dg ?_ ?_<;>intro c3
 .
  have hk2:k<z.sets.length:=by simpa using c3
  have ff:=qD (cZ hk2) (Hq (m:=(bX z z.sets.length)) (l:=z.sets) hk) (iy (l:=mZ (bX z z.sets.length) z.sets z.sets.length k) (n:=k) (by rw[Hq hk];exact hk2)) ff
  refine wB ?_;refine oC Dg ?_;refine oK Dg ?_ ?_<;>intro c4
  .
   refine ae Dg ?_ (hok:=oF (wO _ _));refine wE Dg ?_ ?_<;>intro c5
   .
    refine aA Dg ?_;refine oK Dg ?_ ?_<;>intro c6
    .
     refine aA Dg ?_;refine aA Dg ?_;refine aA Dg ?_;have hcc:(bU (bX z z.sets.length) z.sets (k+1)).2=z.sets[k]!.set.name:=by show stepC _ (bU _ _ k).2 _=_;rw[<-hc];simp only[stepC];grind
     have ff:=qB (zF hk2 hcc) hcc ff;exact ak (k+1,(bU (bX z z.sets.length) z.sets (k+1)).2,r6,rb,_)
    refine aA Dg ?_;refine aA Dg ?_;have hcc:(bU (bX z z.sets.length) z.sets (k+1)).2=[]:=by show stepC _ (bU _ _ k).2 _=_;rw[<-hc];simp only[stepC];grind
    have ff:=qB (zF hk2 hcc) hcc ff;exact ak (k+1,(bU (bX z z.sets.length) z.sets (k+1)).2,r6,rb,_)
   refine fB ?_;refine oK Dg ?_ ?_<;>intro c6
   .
    refine aA Dg ?_;refine aA Dg ?_;refine aA Dg ?_;have hcc:(bU (bX z z.sets.length) z.sets (k+1)).2=z.sets[k]!.set.name:=by show stepC _ (bU _ _ k).2 _=_;rw[<-hc];simp only[stepC];grind
    have ff:=qB (zF hk2 hcc) hcc ff;exact ak (k+1,(bU (bX z z.sets.length) z.sets (k+1)).2,r6,rb,_)
   refine aA Dg ?_;refine aA Dg ?_;have hcc:(bU (bX z z.sets.length) z.sets (k+1)).2=cut:=by show stepC _ (bU _ _ k).2 _=_;rw[<-hc];simp only[stepC];grind
   have ff:=qB (zF hk2 hcc) hcc ff;exact ak (k+1,(bU (bX z z.sets.length) z.sets (k+1)).2,r6,rb,_)
  refine oK Dg ?_ ?_<;>intro c6
  .
   refine aA Dg ?_;refine aA Dg ?_;refine aA Dg ?_;have hcc:(bU (bX z z.sets.length) z.sets (k+1)).2=z.sets[k]!.set.name:=by show stepC _ (bU _ _ k).2 _=_;rw[<-hc];simp only[stepC];grind
   have ff:=qB (zF hk2 hcc) hcc ff;exact ak (k+1,(bU (bX z z.sets.length) z.sets (k+1)).2,r6,rb,_)
  refine aA Dg ?_;refine aA Dg ?_;have hcc:(bU (bX z z.sets.length) z.sets (k+1)).2=cut:=by show stepC _ (bU _ _ k).2 _=_;rw[<-hc];simp only[stepC];grind
  have ff:=qB (zF hk2 hcc) hcc ff;exact ak (k+1,(bU (bX z z.sets.length) z.sets (k+1)).2,r6,rb,_)
 refine aR ?_
 have e9:k=z.sets.length:=by omega
 subst e9
 have tk:List.take z.sets.length ((mZ (bX z z.sets.length) z.sets z.sets.length z.sets.length).map sR)=(iK z).map sR:=by rw[XI];exact Yh (by rw[YY,xz];exact X4 _)
 have ff:=qB @tk (Hq (m:=(bX z z.sets.length)) (l:=z.sets) (X4 z.sets.length)) ff
 refine ae Dg ?_
 exact oN (fin 2 (hr:=oR) (hk:=by(try simp only[go_sem,ff]);all_goals (exact Gj z)))
def xJ(z:Zon):PureCt prog 27 [.agg z.d] (.b (aN z)):=by
 refine oO func27 λff=>?_
 unfold f27
 refine oC Dg ?_
 refine oK Dg (λc1=>?_) (λc1=>?_) (hok:=oS (k:=by first|trivial|(repeat' with_reducible apply And.intro)<;>first|(intros;exact Uk z)|(intro h;exact Ut z (Im h))|(intros;simp_all;done)))
 . exact fr Dg (k:=by simp only[aN];grind)
 have ho:=Im c1.1
 refine ae Dg ?_ (hok:=oF (Gs z ho))
 exact fr Dg (hok:=oa4 (Lm (aO z) ho) (Li (aO z) ho (Gj z)) (Lh (aO z) ho (Gj z)) (Uo (aO z) ho)) (k:=by simp only[aN];rw[c1.1,c1.2];first|(simp[Zp];done)|(simp[Zp];rfl))
def Ui(z:Zon):PureCt prog 232 [.agg z.d] (.tuple [.i (if aN z then uq z else 0),.i (if aN z then 0 else 1)]):=by
 refine oO func232 λff=>?_
 unfold f232
 refine ae Dg ?_
 refine oK Dg ?_ ?_ (hok:=oF (xJ z))<;>intro c1
 . exact fr Dg (K:=1) (k:=by simp[c1])
 refine ae Dg ?_ (hok:=oF (vL z ⟨z.apex,4⟩ (wN c1)))
 obtain⟨hf1,hf2⟩:=Vv c1
 have ff:=qB (cZ hf1) (mq hf2) ff
 exact fr Dg (K:=1) (k:=by simp[c1,uq])
def Wl{x y:RSig}(h:x.zone=y.zone/\x.key=y.key/\x.alg=y.alg/\x.frm=y.frm/\x.unt=y.unt/\x.sum=y.sum):x=y:=by
 obtain⟨a,b,c,d,e,f⟩:=x
 obtain⟨g,i,j,k,l,m⟩:=y
 simp at h
 simp[h]
theorem Wj{x y:RSig}(h : ¬x.zone=y.zone \/ ¬x.key=y.key \/ ¬x.alg=y.alg \/ ¬x.frm=y.frm \/ ¬x.unt=y.unt \/ ¬x.sum=y.sum):x≠y:=by
 rintro rfl
 simp at h
def Xw(a:Sgd)(b:Sgd)(ha:Ak a):PureCt prog 173 [.agg a.d,.agg b.d] (.b (ut a b)):=by
 refine oO func173 λff=>?_
 unfold f173
 have ha2:=ha.2
 refine ae Dg ?_
 refine oK Dg ?_ ?_ (hok:=oH (Xz _ _ ha.1))<;>intro c1
 . exact fr Dg (k:=by rw[WH (by grind [qR])])
 refine wA Dg ?_
 refine lq (Nat×Nat) [2,3] (λ⟨k,nx⟩=>(k<=a.sigs.length/\1<nx/\(∀i,i<k->a.sigs[i]! = b.sigs[i]!),a.sigs.length-k,[(5,.i k)],[(0,⟨44,[a.d]⟩),(1,⟨44,[b.d]⟩)],nx)) (0,_) ?_ (hA:=⟨iv,iv,(by first|(intro i hi;omega)|(dsimp only;intro i hi;omega))⟩)
 rintro⟨k,nx⟩ ⟨hk,hx,hv⟩
 simp only[XX,XZ]
 have n0:0<nx:=by omega
 have ff:=qB @hx @n0 ff
 refine oT Dg ?_ ?_<;>intro c2
 .
  have hk2:k<a.sigs.length:=by simpa using c2
  have hk3:k<b.sigs.length:=by grind
  have ff:=qB (w9 hk2) (w9 hk3) ff;refine wD ?_;refine wE Dg ?_ ?_<;>intro c3
  . exact fr Dg (k:=by rw[WG (Wj c3)])
  refine wC Dg ?_;exact ak (k+1,_) (h1:=⟨iv,iv,(by(try dsimp only);intro i hi;by_cases e:i=k;subst e;exact Wl c3;exact hv i om)⟩)
 refine aR ?_
 exact fr Dg (k:=by rw[WE (by grind [qR]) (by grind) λi hi=>hv i (by omega)])
def Xx(a:List Sgd)(b:List Sgd)(ha:jf a):PureCt prog 101 [.l (a.map Sgd.d),.l (b.map Sgd.d)] (.b (xS a b)):=by
 refine oO func101 λff=>?_
 unfold f101
 have ha1:=ha.1
 refine ae Dg ?_
 refine oK Dg ?_ ?_<;>intro c1
 . exact fr Dg (k:=by rw[WC (by grind)])
 refine wA Dg ?_
 refine lq (Nat×Nat) [0,1] (λ⟨k,nx⟩=>(k<=a.length/\(∀i,i<k->ut a[i]! b[i]! = true),a.length-k,[(5,.i k)],[],nx)) (0,_) ?_ (hA:=⟨iv,(by first|(intro i hi;omega)|(dsimp only;intro i hi;omega))⟩)
 rintro⟨k,nx⟩ ⟨hk,hv⟩
 simp only[XX,XZ]
 refine oT Dg ?_ ?_<;>intro c2
 .
  have hk2:k<a.length:=by simpa using c2
  have hk3:k<b.length:=by grind
  have ff:=qB (cZ hk2) (cZ hk3) ff;refine wD ?_;refine wE Dg ?_ ?_ (hok:=oH (Xw _ _ (ha.2 k hk2)))<;>intro c3
  . exact fr Dg (k:=by rw[WF (k:=k) (by grind)])
  refine wC Dg ?_;exact ak (k+1,_) (h1:=⟨iv,(by(try dsimp only);intro i hi;by_cases e:i=k;subst e;grind;exact hv i om)⟩)
 refine aR ?_
 exact fr Dg (k:=by rw[WB (by grind) λi hi=>hv i (by omega)])
def Ng(z:Zon)(q:Qst)(hl:z.sets.length<=1000000):PureCt prog 107 [.agg z.d,.agg q.d] (.i (vC z.sets q)):=by
 refine oO func107 λff=>?_
 unfold f107
 refine ae Dg ?_
 refine wA Dg ?_
 refine lq (Nat×Nat) [2,3] (λ⟨k,nx⟩=>(k<=z.sets.length/\1<nx/\vC z.sets q=uG z.sets q k,z.sets.length-k,[(5,.i k)],[(0,⟨24,[z.d]⟩),(1,⟨27,[q.d]⟩)],nx)) (0,_) ?_
 rintro⟨k,nx⟩ ⟨hk,hx,hv⟩
 simp only[XX,XZ]
 have n0:0<nx:=by omega
 have ff:=qB @hx @n0 ff
 refine oT Dg ?_ ?_<;>intro c1
 .
  have hk2:k<z.sets.length:=by simpa using c1
  have ff:=qA (cZ hk2) ff;refine wD ?_;refine wE Dg ?_ ?_<;>intro c2
  . exact fr Dg (k:=by rw[hv,BQ,XY hk2,XY (by cases q;simp_all [Sgd.q])])
  refine wC Dg ?_;exact ak (k+1,_) (h1:=⟨iv,iv,(by(try dsimp only);rw[hv,BQ,if_pos hk2,if_neg (by intro e;rw[<-e]at c2;simp[Sgd.q]at c2)])⟩)
 refine aR ?_
 exact fr Dg (k:=by rw[hv,BQ,XW (by omega)])
def Zar(z:Zon)(hl:z.sets.length<=1000000):PureCt prog 23 [.agg z.d] (.b (sD z)):=by
 refine oO func23 λff=>?_
 unfold f23
 refine ae Dg ?_
 refine oK Dg ?_ ?_ (hok:=oI (Ng z ⟨z.apex,4⟩ hl) (Ng z ⟨z.apex,2⟩ hl))<;>intro c1
 . exact fr Dg (k:=by simp only[sD];grind)
 refine wA Dg ?_
 refine lq (Nat×Nat) [1] (λ⟨k,nx⟩=>(k<=z.sets.length/\aF z.sets.length (mr z.apex z.sets) 0=aF z.sets.length (mr z.apex z.sets) k/\0<nx,z.sets.length-k,[(3,.i k)],[(0,⟨24,[z.d]⟩)],nx)) (0,_) ?_
 rintro⟨k,nx⟩ ⟨hk,hv,hx⟩
 simp only[XX,XZ]
 have ff:=qA @hx ff
 refine oT Dg ?_ ?_<;>intro c2
 .
  have hk2:k<z.sets.length:=by simpa using c2
  have ff:=qA (cZ hk2) ff;refine wD ?_;refine wE Dg ?_ ?_ (hok:=oH XB)<;>intro c3
  . exact fr Dg (k:=by have hF:(mr z.apex z.sets) k=false:=(by simp only[mr];grind);simp only[sD];rw[hv,dY hk2 hF];try simp)
  refine wC Dg ?_;have h8:(mr z.apex z.sets) k=true:=by simp only[mr];grind
  exact ak (k+1,_) (h1:=⟨iv,(by(try dsimp only);rw[hv,bO hk2 h8]),iv⟩)
 refine aR ?_
 exact fr Dg (k:=by simp only[sD];rw[hv,jE (by omega)];grind)
def Zau(z:Zon):PureCt prog 22 [.agg z.d] (.b (ma z)):=by
 refine oO func22 λff=>?_
 unfold f22
 refine ae Dg ?_
 refine oK Dg (λc1=>?_) (λc1=>?_) (hok:=oS (k:=by first|trivial|(repeat' with_reducible apply And.intro)<;>first|(intros;exact qU _)|exact(λ_=>MO _ (by have:=fT (by assumption);omega))|exact(λh=>MO _ (by have:=fT (by simpa using h);omega))))
 . exact fr Dg (k:=by simp only[ma];grind)
 refine wA Dg ?_
 refine lq (Nat×Nat) [1] (λ⟨k,nx⟩=>(k<=z.sets.length/\aF z.sets.length (ru z.apex z.sets) 0=aF z.sets.length (ru z.apex z.sets) k/\0<nx,z.sets.length-k,[(3,.i k)],[(0,⟨24,[z.d]⟩)],nx)) (0,_) ?_
 rintro⟨k,nx⟩ ⟨hk,hv,hx⟩
 simp only[XX,XZ]
 have ff:=qA @hx ff
 refine oT Dg ?_ ?_<;>intro c2
 .
  have hk2:k<z.sets.length:=by simpa using c2
  have hk1:k-1<z.sets.length:=by omega
  have e1:((k:Int)-1).toNat=k-1:=by omega
  have ff:=qD (cZ hk2) (cZ hk1) @e1 ff;refine wD ?_;refine ae Dg ?_;refine wE Dg (λc3=>?_) (λc3=>?_) (hok:=oS (k:=by first|trivial|(repeat' with_reducible apply And.intro)<;>first|(intros;exact XA _)|(intros;exact XQ _ _)|exact(λh=>xW _ _ (WN (by simpa using h)) (by have:=fT c1.1.1;omega))|omega|(intro h;simp only[XT,XV]at h;omega)|(intros;simp_all;done)))
  . exact fr Dg (k:=by have hF:(ru z.apex z.sets) k=false:=(by simp only[ru];grind);simp only[ma];rw[hv,dY hk2 hF];try simp)
  refine wC Dg ?_;have h8:(ru z.apex z.sets) k=true:=by simp only[ru];grind
  exact ak (k+1,_) (h1:=⟨iv,(by(try dsimp only);rw[hv,bO hk2 h8]),iv⟩)
 refine aR ?_
 exact fr Dg (k:=by simp only[ma];rw[hv,jE (by omega)];grind)
def Zay(z:Zon):PureCt prog 6 [.agg z.d] (.b (Cw z)):=by
 refine oO func6 λff=>?_
 unfold Tryz.f6
 refine ae Dg ?_
 refine wA Dg ?_
 refine lq (Nat×Nat) [1] (λ⟨k,nx⟩=>(k<=z.sets.length/\(aF z.sets.length (λi=>decide (z.sets[i]!.set.data.length<=20)&&decide (z.sets[i]!.sigs.length<=20)) 0=aF z.sets.length (λi=>decide (z.sets[i]!.set.data.length<=20)&&decide (z.sets[i]!.sigs.length<=20)) k)/\0<nx/\k<=101,z.sets.length-k,[(3,.i k)],[(0,⟨24,[z.d]⟩)],nx)) (0,_) ?_
 rintro⟨k,nx⟩ ⟨hk,hv,hx,lF⟩
 simp only[XX,XZ]
 have ff:=qA @hx ff
 refine oL Dg ?_ ?_<;>intro c1
 .
  have hk2:k<z.sets.length:=by grind
  have hk9:k<=100:=by grind
  have ff:=qA (cZ hk2) ff;refine wD ?_;refine wE Dg ?_ ?_<;>intro c2
  . exact fr Dg (k:=by have hF:(λi=>decide (z.sets[i]!.set.data.length<=20)&&decide (z.sets[i]!.sigs.length<=20)) k=false:=(by grind);simp only[Cw];rw[hv,dY hk2 hF];try simp)
  refine wC Dg ?_;have h8:(λi=>decide (z.sets[i]!.set.data.length<=20)&&decide (z.sets[i]!.sigs.length<=20)) k=true:=by grind
  exact ak (k+1,_) (h1:=⟨iv,(by(try dsimp only);rw[hv,bO hk2 h8]),iv,iv⟩)
 refine aR ?_
 exact fr Dg (k:=by simp only[Cw];by_cases h100:z.sets.length<=100;rw[hv,jE (by grind)];simp;omega;simp[h100];omega)
def Zas(z:Zon)(hl:z.sets.length<=1000000):PureCt prog 24 [.agg z.d] (.b (mP z)):=by
 refine oO func24 λff=>?_
 unfold f24
 refine oC Dg ?_
 refine wA Dg ?_
 refine lq (Nat×Str×Nat) [1] (λ⟨k,al,nx⟩=>(k<=z.sets.length/\0<nx/\al=gT z.sets k/\aF z.sets.length (iO z.sets) 0=aF z.sets.length (iO z.sets) k,z.sets.length-k,[(3,.v (.string (bs al))),(4,.i k)],[(0,⟨24,[z.d]⟩)],nx)) (0,[],_) ?_
 rintro⟨k,al,nx⟩ ⟨hk,hx,ha,hv⟩
 simp only[XX,XZ]
 have ff:=qA @hx ff
 refine oT Dg ?_ ?_<;>intro c1
 .
  have hk2:k<z.sets.length:=by simpa using c1
  have hk1:k-1<z.sets.length:=by omega
  have e1:((k:Int)-1).toNat=k-1:=by omega
  have ff:=qD (cZ hk2) (cZ hk1) @e1 ff;refine wD ?_;refine oK Dg ?_ ?_<;>intro c2
  .
   refine aA Dg ?_;refine oC Dg ?_;refine oK Dg ?_ ?_<;>intro c3
   .
    refine aA Dg ?_;refine wE Dg (λc4=>?_) (λc4=>?_) (hok:=oS (k:=by first|done|grind|(simp;grind)))
    . exact fr Dg (k:=by have hF:(iO z.sets) k=false:=(by simp only[iO,jM,gT];grind);simp only[mP];rw[hv,dY hk2 hF];try simp)
    refine wC Dg ?_;have hal:gT z.sets (k+1)=z.sets[k]!.set.name:=by simp only[gT];grind
    have ff:=qA hal ff;have h8:iO z.sets k=true:=by simp only[iO,jM,hal];grind
    exact ak (k+1,gT z.sets (k+1),_) (h1:=⟨iv,iv,rfl,(by(try dsimp only);rw[hv,bO hk2 h8])⟩)
   refine wE Dg (λc4=>?_) (λc4=>?_) (hok:=oS (k:=by first|done|grind|(simp;grind)))
   . exact fr Dg (k:=by have hF:(iO z.sets) k=false:=(by simp only[iO,jM,gT];grind);simp only[mP];rw[hv,dY hk2 hF];try simp)
   refine wC Dg ?_;have hal:gT z.sets (k+1)=z.sets[k]!.set.name:=by simp only[gT];grind
   have ff:=qA hal ff;have h8:iO z.sets k=true:=by simp only[iO,jM,hal];grind
   exact ak (k+1,gT z.sets (k+1),_) (h1:=⟨iv,iv,rfl,(by(try dsimp only);rw[hv,bO hk2 h8])⟩)
  refine oC Dg ?_;refine oK Dg ?_ ?_<;>intro c3
  .
   refine aA Dg ?_;refine wE Dg (λc4=>?_) (λc4=>?_) (hok:=oS (k:=by first|done|grind|(simp;grind)))
   . exact fr Dg (k:=by have hF:(iO z.sets) k=false:=(by simp only[iO,jM,gT];grind);simp only[mP];rw[hv,dY hk2 hF];try simp)
   refine wC Dg ?_;have hal:gT z.sets (k+1)=al:=by simp only[gT];grind
   have ff:=qA hal ff;have h8:iO z.sets k=true:=by simp only[iO,jM,hal];grind
   exact ak (k+1,gT z.sets (k+1),_) (h1:=⟨iv,iv,rfl,(by(try dsimp only);rw[hv,bO hk2 h8])⟩)
  refine wE Dg (λc4=>?_) (λc4=>?_) (hok:=oS (k:=by first|done|grind|(simp;grind)))
  . exact fr Dg (k:=by have hF:(iO z.sets) k=false:=(by simp only[iO,jM,gT];grind);simp only[mP];rw[hv,dY hk2 hF];try simp)
  refine wC Dg ?_;have hal:gT z.sets (k+1)=al:=by simp only[gT];grind
  have ff:=qA hal ff;have h8:iO z.sets k=true:=by simp only[iO,jM,hal];grind
  exact ak (k+1,gT z.sets (k+1),_) (h1:=⟨iv,iv,rfl,(by(try dsimp only);rw[hv,bO hk2 h8])⟩)
 refine aR ?_
 exact fr Dg (k:=by simp only[mP];rw[hv,jE (by omega)])
def cutsR_0{z:Zon}:kP z 0=[]:=rfl
def highTo_0{cs:List Str}:cK cs 0=[]:=rfl
attribute[go_sem]cutsR_0 highTo_0
@[go_sem]theorem sR_snoc{l:List Str}{x:Str}:(l++[x]).map sR=l.map sR++[[.v (.string (bs x))]]:=by simp[sR]
theorem Kn{z:Zon}{k:Nat}(h:z.sets[k]!.set.ty=2 /\ ¬z.sets[k]!.set.name=z.apex):kP z (k+1)=kP z k++[z.sets[k]!.set.name]:=XY h
theorem Ko{z:Zon}{k:Nat}(h : ¬(z.sets[k]!.set.ty=2 /\ ¬z.sets[k]!.set.name=z.apex)):kP z (k+1)=kP z k:=XW h
theorem Kq(z:Zon):∀k,(kP z k).length<=k
 | 0=>X4 _
 | k+1=>by
  have:=Kq z k
  by_cases h:z.sets[k]!.set.ty=2 /\ ¬z.sets[k]!.set.name=z.apex
  . rw[Kn h,Yr];simp;omega
  rw[Ko h];omega
theorem FU{z:Zon}(hn:qc z):∀k,k<=z.sets.length -> ∀x∈kP z k,x.length<=1000
 | 0,_,x,hx=>by cases hx
 | k+1,h,x,hx=>by
  by_cases h2:z.sets[k]!.set.ty=2 /\ ¬z.sets[k]!.set.name=z.apex
  .
   rw[Kn h2,Yo,Yd]at hx
   rcases hx with hx|hx
   . exact FU hn k om x hx
   subst hx;exact hn.2 k om
  rw[Ko h2]at hx;exact FU hn k (by omega) x hx
def SA{z:Zon}(hn:qc z):(fC z).length<=1000000:=Yt (Kq z _) hn.1
def Sz{z:Zon}(hn:qc z){k:Nat}(h:k<(fC z).length):(fC z)[k]!.length<=1000:=by
 refine FU hn _ (X4 _) _ ?_
 show(fC z)[k]! ∈ fC z
 rw[getElem!_pos (fC z) k h];exact Yp h
theorem Jr{cs:List Str}{k:Nat}(h:cK cs k=[]\/jU cs[k]! (cK cs k)[(cK cs k).length-1]! = false):cK cs (k+1)=cK cs k++[cs[k]!]:=XY h
theorem Qe{cs:List Str}{k:Nat}(h : ¬(cK cs k=[]\/jU cs[k]! (cK cs k)[(cK cs k).length-1]! = false)):cK cs (k+1)=cK cs k:=XW h
theorem EW(cs:List Str):∀k,k<=cs.length->(cK cs k).length<=k /\ ∀x∈cK cs k,x∈cs
 | 0,_=>⟨X4 _,λx hx=>by cases hx⟩
 | k+1,h=>by
  have ih:=EW cs k (by omega)
  by_cases h2:cK cs k=[]\/jU cs[k]! (cK cs k)[(cK cs k).length-1]! = false
  .
   rw[Jr h2];refine⟨by rw[Yr];simp;omega,λx hx=>?_⟩
   rcases Yo.1 hx with hx|hx
   . exact ih.2 x hx
   rw[Yd]at hx;subst hx;rw[getElem!_pos _ _ (by omega)];exact Yp _
  rw[Qe h2];exact⟨om,ih.2⟩
def Js{z:Zon}(hn:qc z){k i:Nat}(hk:k<=(fC z).length)(h:i<(cK (fC z) k).length):(cK (fC z) k)[i]!.length<=1000:=by
 refine FU hn _ (X4 _) _ ((EW _ k hk).2 _ ?_)
 rw[getElem!_pos (cK (fC z) k) i h];exact Yp h
def ZcP{z:Zon}(hn:qc z):(bL z).length<=1000000:=Yt (EW _ _ (X4 _)).1 (SA hn)
def Ae{z:Zon}(hn:qc z){i:Nat}(h:i<(bL z).length):(bL z)[i]!.length<=1000:=Js hn (X4 _) h
def Zaz(z:Zon)(hl:z.sets.length<=1000000):PureCt prog 237 [.agg z.d] (.l ((fC z).map sR)):=by
 refine oO func237 λff=>?_
 unfold f237
 refine oC Dg ?_
 refine aU ?_
 refine uX 3 9 (by simp only[go_sem,ff]) (by simp only[go_sem,ff]) ?_
 refine ae Dg ?_
 refine dO ?_
 refine lq (Nat×Nat×Nat) [1] (λ⟨k,r,nx⟩=>(k<=z.sets.length/\r<nx/\0<r,z.sets.length-k,[(3,.mrow r 0 (kP z k).length),(4,.i k)],[(0,⟨24,[z.d]⟩),(r,⟨9,(kP z k).map sR⟩)],nx)) (0,3,_) ?_
 rintro⟨k,r,nx⟩ ⟨hk,hr,hr0⟩
 simp only[XX,XZ]
 have hcl:=Kq z k
 have n0:0<nx:=by omega
 have ff:=qD @hr @n0 (nH 0 r) ff
 refine oT Dg ?_ ?_<;>intro c1
 .
  have hk2:k<z.sets.length:=by simpa using c1
  have ff:=qA (cZ hk2) ff;refine wD ?_;refine ae Dg ?_;refine wE Dg ?_ ?_<;>intro c2
  .
   refine aA Dg ?_;refine aA Dg ?_;have ff:=qA (Kn (z:=z) (k:=k) (by grind)) ff
   exact ak (k+1,(nx+27),_)
  refine wC Dg ?_;have ff:=qA (Ko (z:=z) (k:=k) (by grind)) ff
  exact ak (k+1,r,_)
 refine aR ?_
 have e9:k=z.sets.length:=by omega
 subst e9
 exact ft Dg (K:=1)
def Zav(z:Zon)(hn:qc z):PureCt prog 182 [.agg z.d] (.l ((bL z).map sR)):=by
 refine oO func182 λff=>?_
 unfold f182
 have hl:=hn.1
 have hcl:=SA hn
 refine ae Dg ?_
 refine ae Dg ?_ (hok:=oF (Zaz z hl))
 refine ae Dg ?_
 refine aU ?_
 refine uX 4 9 (by simp only[go_sem,ff]) (by simp only[go_sem,ff]) ?_
 refine ae Dg ?_
 refine dO ?_
 refine lq (Nat×Nat×Nat) [3] (λ⟨k,r,nx⟩=>(k<=(fC z).length/\r<nx,(fC z).length-k,[(4,.mrow r 0 (cK (fC z) k).length),(5,.i k)],[(r,⟨9,(cK (fC z) k).map sR⟩)],nx)) (0,6,_) ?_
 rintro⟨k,r,nx⟩ ⟨hk,hr⟩
 simp only[XX,XZ]
 have hhl:=(EW (fC z) k hk).1
 have ff:=qA @hr ff
 refine oT Dg ?_ ?_<;>intro c1
 .
  have hk2:k<(fC z).length:=by simpa using c1
  have e1:(((cK (fC z) k).length:Int)-1).toNat=(cK (fC z) k).length-1:=by omega
  have ff:=qB (iy hk2) @e1 ff;refine wD ?_
  by_cases h0:(cK (fC z) k).length=0
  .
   have hnil:=Yf h0;have ff:=qB @h0 @hnil ff;refine wE Dg (λc2=>?_) (λc2=>?_) (hok:=oS (k:=by first|trivial|(repeat' with_reducible apply And.intro)<;>first|exact(λ_=>xW _ _ (Sz hn hk2) (Js hn hk h9))|omega|(intros;omega)|(intro h;simp at h;done))) (hq:=rfl)
   .
    refine aA Dg ?_;refine aA Dg ?_;have ff:=qA (Jr (cs:=fC z) (k:=k) (by first|exact .inl (List.eq_nil_of_length_eq_zero h0)|grind)) ff
    exact ak (k+1,(nx+27),_)
   grind
  have h9:(cK (fC z) k).length-1<(cK (fC z) k).length:=by omega
  have ff:=qA (iy h9) ff;refine wE Dg (λc2=>?_) (λc2=>?_) (hok:=oS (k:=by first|trivial|(repeat' with_reducible apply And.intro)<;>first|exact(λ_=>xW _ _ (Sz hn hk2) (Js hn hk h9))|omega|(intros;omega)|(intro h;simp at h;done)))
  .
   refine aA Dg ?_;refine aA Dg ?_;have ff:=qA (Jr (cs:=fC z) (k:=k) (by first|exact .inl (List.eq_nil_of_length_eq_zero h0)|grind)) ff
   exact ak (k+1,(nx+27),_)
  refine wC Dg ?_;have ff:=qA (Qe (cs:=fC z) (k:=k) (by grind)) ff
  exact ak (k+1,r,_)
 refine aR ?_
 have e9:k=(fC z).length:=by omega
 subst e9
 exact ft Dg (K:=1)
def Ni(z:Zon)(hn:qc z):PureCt prog 109 [.agg z.d] (.l ((fE z).map sR)):=by
 refine oO func109 λff=>?_
 unfold f109
 have hl:=hn.1
 have hcl:=ZcP hn
 refine ae Dg ?_
 refine ae Dg ?_ (hok:=oF (Zav z hn))
 refine oC Dg ?_
 refine wA Dg ?_
 refine lq (Nat×Nat×Nat×Nat) [1,3] (λ⟨k,j,rb,nx⟩=>(k<=z.sets.length/\rb<nx/\0<rb/\j=gH (bL z) z.sets k/\j<=(bL z).length,z.sets.length-k,[(4,.mrow rb 0 z.sets.length),(5,.i j),(6,.i k)],[(0,⟨24,[z.d]⟩),(rb,⟨9,(jL (bL z) z.sets z.sets.length (k)).map sR⟩)],nx)) (0,0,8,_) ?_
 rintro⟨k,j,rb,nx⟩ ⟨hk,hx,hb0,hj,hj2⟩
 simp only[XX,XZ]
 have n0:0<nx:=by omega
 have ff:=qD @hx @n0 (nH 0 rb) ff
 refine oT Dg ?_ ?_<;>intro c1
 .
  have hk2:k<z.sets.length:=by simpa using c1
  have ff:=qD (cZ hk2) (Ho (hs:=bL z) (l:=z.sets) hk) (iy (l:=jL (bL z) z.sets z.sets.length k) (n:=k) (by rw[Ho hk];exact hk2)) ff
  refine wD ?_;refine ae Dg ?_;refine wD ?_;refine lq (Nat×Nat) [1,3,4,6,7] (λ⟨i,nx⟩=>(i<=(bL z).length/\rb<nx/\nY (bL z) z.sets[k]!.set.name j=nY (bL z) z.sets[k]!.set.name i,(bL z).length-i,[(5,.i i)],[(0,⟨24,[z.d]⟩),(rb,⟨9,(jL (bL z) z.sets z.sets.length (k)).map sR⟩)],nx)) (j,_) ?_
  rintro⟨i,nx⟩ ⟨hi,hx,hv2⟩;simp only[XX,XZ];have n0:0<nx:=by omega
  have ff:=qD @hx @n0 (nH 0 rb) ff;refine aU ?_
  by_cases hk4:i<(bL z).length
  .
   have ff:=qA (iy hk4) ff;refine wE Dg (λc2=>?_) (λc2=>?_) (hok:=oS (k:=by first|trivial|(repeat' with_reducible apply And.intro)<;>first|exact(λ_=>Hu _ _ (Ae hn hk4) (hn.2 _ hk2))|omega|(intros;omega))) (hq:=rfl)
   . refine fB ?_;refine dO ?_;refine aA Dg ?_;exact ak (i+1,_) (h1:=⟨iv,iv,(by first|(rw[hv2,xC];grind)|(dsimp only;rw[hv2,xC];grind))⟩)
   have gy:gH (bL z) z.sets (k+1)=i:=by show nY _ _ _=_;rw[<-hj,hv2,xC];grind
   refine aR ?_
   by_cases hi0:i=0
   .
    have ff:=qA @hi0 ff;refine wE Dg (λc3=>?_) (λc3=>?_) (hok:=oS (k:=by first|trivial|(repeat' with_reducible apply And.intro)<;>first|exact(λ_=>xW _ _ (hn.2 _ hk2) (Ae hn hi9))|omega|(intros;omega)|(intro h;simp at h;done)))
    .
     refine aA Dg ?_;refine aA Dg ?_;have hcc:gQ (bL z) z.sets[k]!.set.name (gH (bL z) z.sets (k+1))=(bL z)[i-1]! := by rw[gy];simp only[gQ];grind
     have ff:=qA (DI hk2 hcc) ff;exact ak (k+1,i,rb,_) (h1:=⟨iv,iv,iv,gy.symm,iv⟩)
    refine wC Dg ?_;have hcc:gQ (bL z) z.sets[k]!.set.name (gH (bL z) z.sets (k+1))=[]:=by rw[gy];simp only[gQ];grind
    have ff:=qA (DJ hk2 hcc) ff;exact ak (k+1,i,rb,_) (h1:=⟨iv,iv,iv,gy.symm,iv⟩)
   have hi9:i-1<(bL z).length:=by omega
   have e1:((i:Int)-1).toNat=i-1:=by omega
   have ff:=qB @e1 (iy hi9) ff;refine wE Dg (λc3=>?_) (λc3=>?_) (hok:=oS (k:=by first|trivial|(repeat' with_reducible apply And.intro)<;>first|exact(λ_=>xW _ _ (hn.2 _ hk2) (Ae hn hi9))|omega|(intros;omega)|(intro h;simp at h;done)))
   .
    refine aA Dg ?_;refine aA Dg ?_;have hcc:gQ (bL z) z.sets[k]!.set.name (gH (bL z) z.sets (k+1))=(bL z)[i-1]! := by rw[gy];simp only[gQ];grind
    have ff:=qA (DI hk2 hcc) ff;exact ak (k+1,i,rb,_) (h1:=⟨iv,iv,iv,gy.symm,iv⟩)
   refine wC Dg ?_;have hcc:gQ (bL z) z.sets[k]!.set.name (gH (bL z) z.sets (k+1))=[]:=by rw[gy];simp only[gQ];grind
   have ff:=qA (DJ hk2 hcc) ff;exact ak (k+1,i,rb,_) (h1:=⟨iv,iv,iv,gy.symm,iv⟩)
  have e9:decide ((i:Int)<((bL z).length:Int))=false:=YI om;have ff:=qA @e9 ff;refine wG Dg (λc2=>?_) (λc2=>?_) (hok:=oS (k:=by first|trivial|(repeat' with_reducible apply And.intro)<;>first|exact(λ_=>Hu _ _ (Ae hn hk4) (hn.2 _ hk2))|omega|(intros;omega))) (hq:=rfl)
  . grind
  have gy:gH (bL z) z.sets (k+1)=i:=by show nY _ _ _=_;rw[<-hj,hv2,xC];grind
  refine aR ?_
  by_cases hi0:i=0
  .
   have ff:=qA @hi0 ff;refine wE Dg (λc3=>?_) (λc3=>?_) (hok:=oS (k:=by first|trivial|(repeat' with_reducible apply And.intro)<;>first|exact(λ_=>xW _ _ (hn.2 _ hk2) (Ae hn hi9))|omega|(intros;omega)|(intro h;simp at h;done)))
   .
    refine aA Dg ?_;refine aA Dg ?_;have hcc:gQ (bL z) z.sets[k]!.set.name (gH (bL z) z.sets (k+1))=(bL z)[i-1]! := by rw[gy];simp only[gQ];grind
    have ff:=qA (DI hk2 hcc) ff;exact ak (k+1,i,rb,_) (h1:=⟨iv,iv,iv,gy.symm,iv⟩)
   refine wC Dg ?_;have hcc:gQ (bL z) z.sets[k]!.set.name (gH (bL z) z.sets (k+1))=[]:=by rw[gy];simp only[gQ];grind
   have ff:=qA (DJ hk2 hcc) ff;exact ak (k+1,i,rb,_) (h1:=⟨iv,iv,iv,gy.symm,iv⟩)
  have hi9:i-1<(bL z).length:=by omega
  have e1:((i:Int)-1).toNat=i-1:=by omega
  have ff:=qB @e1 (iy hi9) ff;refine wE Dg (λc3=>?_) (λc3=>?_) (hok:=oS (k:=by first|trivial|(repeat' with_reducible apply And.intro)<;>first|exact(λ_=>xW _ _ (hn.2 _ hk2) (Ae hn hi9))|omega|(intros;omega)|(intro h;simp at h;done)))
  .
   refine aA Dg ?_;refine aA Dg ?_;have hcc:gQ (bL z) z.sets[k]!.set.name (gH (bL z) z.sets (k+1))=(bL z)[i-1]! := by rw[gy];simp only[gQ];grind
   have ff:=qA (DI hk2 hcc) ff;exact ak (k+1,i,rb,_) (h1:=⟨iv,iv,iv,gy.symm,iv⟩)
  refine wC Dg ?_;have hcc:gQ (bL z) z.sets[k]!.set.name (gH (bL z) z.sets (k+1))=[]:=by rw[gy];simp only[gQ];grind
  have ff:=qA (DJ hk2 hcc) ff;exact ak (k+1,i,rb,_) (h1:=⟨iv,iv,iv,gy.symm,iv⟩)
 refine aR ?_
 have e9:k=z.sets.length:=by omega
 subst e9
 have tk:List.take z.sets.length ((jL (bL z) z.sets z.sets.length z.sets.length).map sR)=(fE z).map sR:=by rw[XF];exact Yh (by rw[YY,vB];exact X4 _)
 have ff:=qB @tk (Ho (hs:=bL z) (l:=z.sets) (X4 z.sets.length)) ff
 refine ae Dg ?_
 exact oN (fin 1 (hr:=oR) (hk:=by(try simp only[go_sem,ff]);all_goals (exact vB _ _ _)))
def KU(z:Zon):(fE z).length=z.sets.length:=vB _ _ _
def NV(z:Zon):(yc z).length=z.sets.length:=qZ _ _
def Zaw(z:Zon)(hn:qc z):PureCt prog 25 [.agg z.d] (.b (rQ z)):=by
 refine oO func25 λff=>?_
 unfold f25
 have hl:=hn.1
 have hbl:=KU z
 refine ae Dg ?_
 refine ae Dg ?_ (hok:=oF (Ni z hn))
 refine wA Dg ?_
 refine lq (Nat×Nat) [1,3] (λ⟨k,nx⟩=>(k<=z.sets.length/\aF z.sets.length (cutAt ⟨z,fE z⟩) 0=aF z.sets.length (cutAt ⟨z,fE z⟩) k/\0<nx,z.sets.length-k,[(4,.i k)],[(0,⟨24,[z.d]⟩)],nx)) (0,_) ?_
 rintro⟨k,nx⟩ ⟨hk,hv,hx⟩
 simp only[XX,XZ]
 have ff:=qA @hx ff
 refine oT Dg ?_ ?_<;>intro c1
 .
  have hk2:k<z.sets.length:=by simpa using c1
  have hk3:k<(fE z).length:=by omega
  have ff:=qB (cZ hk2) (iy hk3) ff;refine wD ?_;refine oC Dg ?_;refine oK Dg ?_ ?_<;>intro c2
  . exact fr Dg (k:=by have hF:(cutAt ⟨z,fE z⟩) k=false:=(by simp only[cutAt];grind);simp only[rQ,kQ];rw[hv,dY hk2 hF];try simp)
  refine oK Dg ?_ ?_<;>intro c3
  . exact fr Dg (k:=by have hF:(cutAt ⟨z,fE z⟩) k=false:=(by simp only[cutAt];grind);simp only[rQ,kQ];rw[hv,dY hk2 hF];try simp)
  refine wE Dg ?_ ?_<;>intro c4
  . exact fr Dg (k:=by have hF:(cutAt ⟨z,fE z⟩) k=false:=(by simp only[cutAt];grind);simp only[rQ,kQ];rw[hv,dY hk2 hF];try simp)
  refine wC Dg ?_;have h8:(cutAt ⟨z,fE z⟩) k=true:=by simp only[cutAt];grind
  exact ak (k+1,_) (h1:=⟨iv,(by(try dsimp only);rw[hv,bO hk2 h8]),iv⟩)
 refine aR ?_
 exact fr Dg (k:=by simp only[rQ,kQ];rw[hv,jE (by omega)])
def Zat(z:Zon)(hn:qc z):PureCt prog 110 [.agg z.d] (.l ((yc z).map bR)):=by
 refine oO func110 λff=>?_
 unfold f110
 have hl:=hn.1
 have hbl:=KU z
 refine ae Dg ?_
 refine ae Dg ?_ (hok:=oF (Ni z hn))
 refine ae Dg ?_
 refine wA Dg ?_
 refine lq (Nat×Nat×Nat) [1,3] (λ⟨k,rb,nx⟩=>(k<=z.sets.length/\rb<nx/\0<rb,z.sets.length-k,[(4,.mrow rb 0 z.sets.length),(5,.i k)],[(0,⟨24,[z.d]⟩),(rb,⟨4,(kz ⟨z,fE z⟩ z.sets.length (k)).map bR⟩)],nx)) (0,8,_) ?_
 rintro⟨k,rb,nx⟩ ⟨hk,hx,hb0⟩
 simp only[XX,XZ]
 have n0:0<nx:=by omega
 have ff:=qD @hx @n0 (nH 0 rb) ff
 refine oT Dg ?_ ?_<;>intro c1
 .
  have hk2:k<z.sets.length:=by simpa using c1
  have hk3:k<(fE z).length:=by omega
  have ff:=qE (cZ hk2) (iy hk3) (zD (x:=⟨z,fE z⟩) hk) (Ff (l:=kz ⟨z,fE z⟩ z.sets.length k) (n:=k) (by rw[zD hk];exact hk2)) ff
  refine wD ?_;refine ae Dg ?_;refine aA Dg ?_;refine aA Dg ?_;exact ak (k+1,rb,_) (h3:=by(try simp only[go_sem,ff]);all_goals (first|done|exact congrArg (λq=>some (ax.mk 4 q)) (l6 hk2 (by simp only[jO];grind))|(simp;done))) (h4:=by(try simp only[go_sem,ff]);all_goals (first|done|exact congrArg (λq=>some (ax.mk 4 q)) (l6 hk2 (by simp only[jO];grind))|(simp;done))) (h5:=by(try simp only[go_sem,ff]);all_goals (first|done|exact congrArg (λq=>some (ax.mk 4 q)) (l6 hk2 (by simp only[jO];grind))|(simp;done)))
 refine aR ?_
 have e9:k=z.sets.length:=by omega
 subst e9
 have tk:List.take z.sets.length ((kz ⟨z,fE z⟩ z.sets.length (z.sets.length)).map bR)=(yc z).map bR:=by rw[MU];exact Yh (by rw[YY,qZ];exact X4 _)
 have ff:=qB @tk (zD (x:=⟨z,fE z⟩) (X4 z.sets.length)) ff
 refine ae Dg ?_
 exact oN (fin 1 (hr:=oR) (hk:=by(try simp only[go_sem,ff]);all_goals (exact NV z)))
def Zax(z:Zon)(hn:qc z):PureCt prog 26 [.agg z.d] (.b (tF z)):=by
 refine oO func26 λff=>?_
 unfold f26
 have hl:=hn.1
 have hbl:=KU z
 have hol:=NV z
 refine ae Dg ?_
 refine ae Dg ?_ (hok:=oF (Zat z hn))
 refine wA Dg ?_
 refine lq (Nat×Nat) [1,3] (λ⟨k,nx⟩=>(k<=z.sets.length/\aF z.sets.length (uT ⟨z,fE z⟩) 0=aF z.sets.length (uT ⟨z,fE z⟩) k/\0<nx,z.sets.length-k,[(4,.i k)],[(0,⟨24,[z.d]⟩)],nx)) (0,_) ?_
 rintro⟨k,nx⟩ ⟨hk,hv,hx⟩
 simp only[XX,XZ]
 have ff:=qA @hx ff
 refine oT Dg ?_ ?_<;>intro c1
 .
  have hk2:k<z.sets.length:=by simpa using c1
  have hk3:k<(yc z).length:=by omega
  have ho:(yc z)[k]! = jO ⟨z,fE z⟩ k:=NU _ _ _ hk2;have ff:=qB (cZ hk2) (Ff hk3) ff;refine wD ?_;refine wE Dg ?_ ?_ (hok:=ic @Xv)<;>intro c2
  . exact fr Dg (k:=by have hF:(uT ⟨z,fE z⟩) k=false:=(by simp only[uT,rR,tu,jO]at *;grind);simp only[tF];rw[hv,dY hk2 hF];try simp)
  refine wC Dg ?_;have h8:(uT ⟨z,fE z⟩) k=true:=by simp only[uT,rR,tu,jO]at *;grind
  exact ak (k+1,_) (h1:=⟨iv,(by(try dsimp only);rw[hv,bO hk2 h8]),iv⟩)
 refine aR ?_
 exact fr Dg (k:=by simp only[tF];rw[hv,jE (by omega)])
def Zaq(z:Zon):PureCt prog 7 [.agg z.d] (.b (pW z)):=by
 refine oO func7 λff=>?_
 unfold Tryz.f7
 refine ae Dg ?_
 exact fr Dg (hok:=oS (k:=by first|trivial|(repeat' with_reducible apply And.intro)<;>first|(intros;exact Zau z)|exact(λh=>Zar z (Eg (by simp_all)).1)|exact(λh=>Zas z (Eg (by simp_all)).1)|exact(λh=>Zaw z (Eg (by simp_all)))|exact(λh=>Zax z (Eg (by simp_all)))|(intros;simp_all;done))) (k:=by simp[pW,Zp])
@[go_sem]theorem all_dat6{l:List Dat}:(∀r∈l.map Dat.d,r.length=3)=True:=by
 apply eq_true
 intro r hr
 obtain⟨x,_,rfl⟩:=Yi.1 hr
 rfl
def CQ(l:List Dat)(hl:l.length<=1000000):PureCt prog 39 [.l (l.map Dat.d)] (.l (l.map Dat.d)):=by
 refine oO func39 λff=>?_
 unfold f39
 refine ae Dg ?_
 refine aU ?_
 refine aU (FJ ?_)
 refine MM (C:=Dg) 1 (e:=91) om (pK rfl) rfl rfl (by kernel_rfl) (by simp only[Yv,Yj,YC,Y1,S.put,Zu,go_sem,ff];exact rfl) ?_ (by rfl) ev (λy hy=>?_)
 .
  try simp only[go_sem,ff]
  all_goals (first|done|(repeat' (with_reducible apply And.intro))<;>first|omega|(with_reducible assumption)|(intros;omega)|(intros;simp only[XV,X3,X8,XT,Ya,X5,Yk]at *;omega)|(simp_all;done)|(simp_all;omega))
 refine DD (C:=Dg) (by first|decide|simp) (by simp only[Yv,Yj,YC,Y1,S.put,Zu,go_sem,ff];exact rfl) ?_ rfl ?_
 .
  try simp only[go_sem,ff]
  all_goals (first|done|(repeat' (with_reducible apply And.intro))<;>first|omega|(with_reducible assumption)|(intros;omega)|(intros;simp only[XV,X3,X8,XT,Ya,X5,Yk]at *;omega)|(simp_all;done)|(simp_all;omega))
 try simp only[gG]
 refine ce ?_ ?_ (hq:=rfl)<;>intro c1
 . have hn:l=[]:=List.map_eq_nil_iff.1 (hy c1);subst hn;exact ft Dg (K:=1)
 refine fB ?_
 exact ft Dg (K:=1)
def F7(l:List RSig)(hl:l.length<=1000000):PureCt prog 119 [.l (l.map RSig.d)] (.l (l.map RSig.d)):=by
 refine oO func119 λff=>?_
 unfold f119
 refine ae Dg ?_
 refine aU ?_
 refine aU (FJ ?_)
 refine MM (C:=Dg) 1 (e:=94) om (pK rfl) rfl rfl (by kernel_rfl) (by simp only[Yv,Yj,YC,Y1,S.put,Zu,go_sem,ff];exact rfl) ?_ (by rfl) ev (λy hy=>?_)
 .
  try simp only[go_sem,ff]
  all_goals (first|done|(repeat' (with_reducible apply And.intro))<;>first|omega|(with_reducible assumption)|(intros;omega)|(intros;simp only[XV,X3,X8,XT,Ya,X5,Yk]at *;omega)|(simp_all;done)|(simp_all;omega))
 refine DD (C:=Dg) (by first|decide|simp) (by simp only[Yv,Yj,YC,Y1,S.put,Zu,go_sem,ff];exact rfl) ?_ rfl ?_
 .
  try simp only[go_sem,ff]
  all_goals (first|done|(repeat' (with_reducible apply And.intro))<;>first|omega|(with_reducible assumption)|(intros;omega)|(intros;simp only[XV,X3,X8,XT,Ya,X5,Yk]at *;omega)|(simp_all;done)|(simp_all;omega))
 try simp only[gG]
 refine ce ?_ ?_ (hq:=rfl)<;>intro c1
 . have hn:l=[]:=List.map_eq_nil_iff.1 (hy c1);subst hn;exact ft Dg (K:=1)
 refine fB ?_
 exact ft Dg (K:=1)
def Ll(s:Sgd)(hs:Ak s):PureCt prog 152 [.agg s.d] (.agg s.d):=by
 refine oO func152 λff=>?_
 unfold f152
 refine ae Dg ?_
 refine ae Dg ?_ (hok:=oS (k:=by exact CQ _ (Yt hs.1 om)))
 refine ae Dg ?_ (hok:=oS (k:=by exact F7 _ (Yt hs.2 om)))
 exact ft Dg (K:=2)
def Uq(z:Zon)(q:Qst)(hf:jf z.sets):PureCt prog 77 [.agg z.d,.agg q.d] (.tuple [.agg (mD z q).1.d,.b (mD z q).2.1,.i (mD z q).2.2]):=by
 refine oO func77 λff=>?_
 unfold f77
 refine ae Dg ?_
 refine oK Dg ?_ ?_ (hok:=oI Uj xJ)<;>intro c1
 . exact fr Dg (K:=2) (k:=by rw[mD,if_neg (by simp only[Bool.and_eq_true];grind)];try rfl)
 refine ae Dg ?_ (hok:=oF (vL z q hf.1))
 refine oK Dg ?_ ?_<;>intro c2
 . exact fr Dg (K:=2) (k:=by rw[mD,if_pos (by simp only[Bool.and_eq_true];grind),if_neg (by simp[c2])];try rfl)
 have h9:eY z.sets q<z.sets.length:=by simp only[eX,XT,XV]at c2;exact c2.1
 have ff:=qA (cZ h9) ff
 exact fr Dg (K:=2) (hok:=oH (Ll z.sets[eY z.sets q]! (hf.2 _ h9))) (k:=by rw[mD,if_pos (by simp only[Bool.and_eq_true];grind),if_pos c2];try rfl)
open Go.Jn Go.RowKit
def ZeW(s:Sgd):PureCt prog 29 [.agg s.d] (.b (!decide (s.set.ty=8))):=by
 refine oO func29 λff=>?_
 unfold f29
 refine ae Dg ?_
 exact ft Dg
def ZeI(s:Sgd)(hs:Ak s):PureCt prog 32 [.agg s.d] (.agg s.d):=by
 refine oO func32 λff=>?_
 unfold f32
 refine ae Dg ?_
 refine ae Dg ?_ (hok:=oS (k:=by exact CQ _ (Yt hs.1 om)))
 refine ae Dg ?_ (hok:=oS (k:=by exact F7 _ (Yt hs.2 om)))
 exact ft Dg (K:=2)
def Zew(l:List Sgd)(hl:l.length<=1000000):PureCt prog 28 [.l (l.map Sgd.d),.fn (.func 29) [] []] (.l ((aX l).map Sgd.d)):=by
 refine oO func28 λff=>?_
 unfold f28
 refine oC Dg ?_
 refine aU ?_
 refine uX 5 44 (by simp only[go_sem,ff]) (by simp only[go_sem,ff]) ?_
 refine ae Dg ?_
 refine dO ?_
 refine lq (Nat×Nat×Nat) [1,8,9] (λ⟨k,r,nx⟩=>(k<=l.length/\r<nx,l.length-k,[(5,.mrow r 0 (mW l k).length),(10,.i k)],[(r,⟨44,(mW l k).map Sgd.d⟩)],nx)) (0,2,_) ?_
 rintro⟨k,r,nx⟩ ⟨hk,hr⟩
 simp only[XX,XZ]
 have hfl:=Wq l k
 have ff:=qA @hr ff
 refine wH Dg ?_ ?_<;>intro c1
 .
  have hk2:k<l.length:=by simpa using c1
  have ff:=qA (cZ hk2) ff;refine wB ?_;refine ae Dg ?_;refine wE Dg ?_ ?_ (hok:=oF (ZeW l[k]!))<;>intro c2
  . refine aA Dg ?_;refine aA Dg ?_;have hst:=Wm hk2 c2;have ff:=qA hst ff;exact ak (k+1,(nx+11),_)
  refine wC Dg ?_;have hst:=Wn hk2 c2;have ff:=qA hst ff;exact ak (k+1,r,_)
 have e8:k=l.length:=by omega
 subst e8
 refine aR ?_
 exact fr Dg (K:=1) (k:=by rw[Ws])
@[go_sem]theorem keysOk_N{m:TM}:lC prog 9 (rF m)=true:=by
 induction m with
 | nil=>rfl
 | cons p m ih=>rw[yC];simp only[lC,ih,ko9,ZQ]
@[go_sem high] theorem ZiV {P:Program}[aa P] {t:TypeId}{k':IntKind}{b:Int}:dP P t .shl (.int .i64 1) (.int k' b)=(.int .i64 (xy b),0<=b):=by rw[KS];rfl
@[go_sem high] theorem binV_orX {P:Program}[aa P] {t:TypeId}{k k':IntKind}{a b:Int}:dP P t .or (.int k a) (.int k' b)=(.int k (qa k a b),k=k'):=by rw[Ef];rfl
@[go_sem high] theorem ZiY {P:Program}[aa P] {t:TypeId}{k k':IntKind}{a b:Int}:dP P t .and (.int k a) (.int k' b)=(.int k (xB k a b),k=k'):=by rw[KZ];rfl
@[go_sem high] theorem ZiZ {P:Program}[aa P] {t:TypeId}{k k':IntKind}{a b:Int}:dP P t .andNot (.int k a) (.int k' b)=(.int k (CY k a b),k=k'):=by rw[K5];rfl
def ZeH(z:Zon)(ns:List Str)(hz:aN z=true)(hn:ns.length<=20000):PureCt prog 31 [.agg z.d,.l (ns.map sR)] (.l ((nextF z ns).map RSet.d)):=by
 refine oO func31 λff=>?_
 unfold f31
 have hll:=wN hz
 refine oD Dg ?_
 refine wA Dg ?_
 refine lq (Nat×Nat) [1,2,5,18,19] (λ⟨k,nx⟩=>(k<=z.sets.length/\4<nx,z.sets.length-k,[(6,.i (sP z.sets k)),(20,.i k)],[(0,⟨24,[z.d]⟩),(4,⟨175,iT (rF (lU z.sets k))⟩)],nx)) (0,_) ?_
 rintro⟨k,nx⟩ ⟨hk,hx⟩
 simp only[XX,XZ]
 have n0:0<nx:=by omega
 have ff:=qB @hx @n0 ff
 refine wH Dg ?_ ?_<;>intro c1
 .
  have hk2:k<z.sets.length:=by simpa using c1
  have hso:=Ul hz hk2;have hty:1<=z.sets[k]!.set.ty/\z.sets[k]!.set.ty<=8:=by(have h9:=hso.ty;simp only[aW,XT,XV]at h9;exact h9)
  have hd0:0<z.sets[k]!.set.data.length:=hso.len.1;have ff:=qD (cZ hk2) (mq hd0) (LM (l:=z.sets) (k:=k)) ff;refine wB ?_;refine oC Dg ?_;refine wE Dg ?_ ?_<;>intro c2
  . refine aA Dg ?_;refine aA Dg ?_;have hst:=Zb0 (l:=z.sets) (k:=k) c2;have ff:=qA hst ff;exact ak (k+1,_)
  refine wC Dg ?_;have hst:=Zb1 (l:=z.sets) (k:=k) c2;have ff:=qA hst ff;exact ak (k+1,_)
 have e8:k=z.sets.length:=by omega
 subst e8
 refine aR ?_
 refine Kc 5 4 ev ev rfl Zbg ?_
 have ff:=qA (nx_0 z ns) ff
 refine ae Dg ?_
 refine wA Dg ?_
 refine lq (Nat×Nat×Nat) [1,2,5,6,48,49] (λ⟨i,b,nx⟩=>(i<=ns.length/\b<nx/\0<b,ns.length-i,[(9,.mrow b 0 ns.length),(50,.i i)],[(0,⟨24,[z.d]⟩),(b,⟨41,mg z ns i⟩)],nx)) (0,(nx+3),_) ?_
 rintro⟨i,b,nx⟩ ⟨hi,hb,hb0⟩
 simp only[XX,XZ]
 have n0:0<nx:=by omega
 have hnl:=Bz z ns i
 have ff:=qD @hb @n0 (nH 0 b) ff
 refine wH Dg ?_ ?_<;>intro c3
 .
  have hi2:i<ns.length:=by simpa using c3
  obtain⟨j,hj⟩:∃j:Nat,j=(i+1) % ns.length:=⟨_,rfl⟩;have e5:((i:Int)+1) % (ns.length:Int)=(j:Int):=by rw[hj];exact(Int.natCast_emod (i+1) ns.length).symm
  have hi3:j<ns.length:=by rw[hj];exact Nat.mod_lt _ (by omega)
  have ff:=qE (iy hi2) @e5 (iy hi3) (Zbb (z:=z) hi2) ff;refine wB ?_;refine oC Dg ?_;refine oK Dg ?_ ?_<;>intro c4
  .
   refine aA Dg ?_;refine ae Dg ?_;refine aA Dg ?_ (hok:=oS (k:=by(repeat' (with_reducible apply And.intro))<;>first|omega|(rw[Bz];omega)|rfl|skip))
   refine aA Dg ?_;have ff:=qA (Ou hi2 hj (ZcV c4)) ff;exact ak (i+1,b,_)
  refine ae Dg ?_;refine aA Dg ?_ (hok:=oS (k:=by(repeat' (with_reducible apply And.intro))<;>first|omega|(rw[Bz];omega)|rfl|skip))
  refine aA Dg ?_;have ff:=qA (Ou hi2 hj (ZcW c4)) ff;exact ak (i+1,b,_)
 have e8:i=ns.length:=by omega
 subst e8
 refine aR ?_
 refine RP 9 b (rows:=mg z ns ns.length) (off:=0) (len:=ns.length) ev ev (by rw[Bz];omega) (Ov _ _ _) ?_
 rw[Yj,Yh (by rw[Bz];exact X4 _)]
 refine ae Dg ?_
 exact oN (fin 0 (hr:=oS (k:=by rw[Zbc])) (hk:=by(try simp only[go_sem,ff]);all_goals (exact Ov z ns ns.length)))
def Zco:Go.Shelf.Ren:={ f:=λx=>match x with|137=>135|217=>211|266=>248|n=>n,t:=λx=>match x with|9=>9|5=>5|3=>3|n=>n,g:=λn=>n }
def ixbS:Go.Proofs.Lays.n137 prog Zco:={
 mixed:=by kernel_rfl
 f137:=func135.trans (by kernel_rfl)
 f217:=func211.trans (by kernel_rfl)
 f266:=func248.trans (by kernel_rfl)
 t3:=underlying3
 a3:=Tryz.isAgg3
 z3:=Tryz.sizeOf3
 v3:=Tryz.zeroValue3
 t5:=underlying5
 a5:=Tryz.isAgg5
 z5:=Tryz.sizeOf5
 v5:=Tryz.zeroValue5
 t9:=underlying9
 a9:=Tryz.isAgg9
 z9:=Tryz.sizeOf9
 v9:=Tryz.zeroValue9 }
def PE:Go.Shelf.Ren:={ f:=λx=>match x with|156=>246|165=>285|166=>286|169=>287|240=>301|241=>302|276=>315|277=>316|n=>n,t:=λx=>match x with|31=>62|9=>9|3=>3|4=>4|0=>0|20=>20|72=>342|76=>346|70=>340|37=>63|75=>345|127=>355|164=>365|5=>5|80=>200|n=>n,g:=λn=>n }
def Jb:Go.Proofs.Lays.n156 prog PE:={
 mixed:=by kernel_rfl
 f156:=func246.trans (by kernel_rfl)
 f165:=func285.trans (by kernel_rfl)
 f166:=func286.trans (by kernel_rfl)
 f169:=func287.trans (by kernel_rfl)
 f240:=func301.trans (by kernel_rfl)
 f241:=func302.trans (by kernel_rfl)
 f276:=func315.trans (by kernel_rfl)
 f277:=func316.trans (by kernel_rfl)
 t0:=underlying0
 a0:=Tryz.isAgg0
 z0:=Tryz.sizeOf0
 v0:=Tryz.zeroValue0
 t3:=underlying3
 a3:=Tryz.isAgg3
 z3:=Tryz.sizeOf3
 v3:=Tryz.zeroValue3
 t4:=underlying4
 a4:=Tryz.isAgg4
 z4:=Tryz.sizeOf4
 v4:=Tryz.zeroValue4
 t9:=underlying9
 a9:=Tryz.isAgg9
 z9:=Tryz.sizeOf9
 v9:=Tryz.zeroValue9
 t20:=underlying20
 a20:=Tryz.isAgg20
 z20:=Tryz.sizeOf20
 v20:=Tryz.zeroValue20
 t31:=underlying62
 a31:=Tryz.isAgg62
 z31:=Tryz.sizeOf62
 v31:=Tryz.zeroValue62
 t37:=underlying63
 a37:=Tryz.isAgg63
 z37:=Tryz.sizeOf63
 v37:=Tryz.zeroValue63
 t70:=underlying340
 a70:=Tryz.isAgg340
 z70:=Tryz.sizeOf340
 v70:=Tryz.zeroValue340
 t72:=underlying342
 a72:=Tryz.isAgg342
 z72:=Tryz.sizeOf342
 v72:=Tryz.zeroValue342
 t75:=underlying345
 a75:=Tryz.isAgg345
 z75:=Tryz.sizeOf345
 v75:=Tryz.zeroValue345
 t76:=underlying346
 a76:=Tryz.isAgg346
 z76:=Tryz.sizeOf346
 v76:=Tryz.zeroValue346
 t127:=underlying355
 a127:=Tryz.isAgg355
 z127:=Tryz.sizeOf355
 v127:=Tryz.zeroValue355
 t164:=underlying365
 a164:=Tryz.isAgg365
 z164:=Tryz.sizeOf365
 v164:=Tryz.zeroValue365 }
def PK(s:Str)(c:Int):PureCt prog 135 [.v (.string (bs s)),.v (.int .u8 c)] (.i (ixF s c)):=by
 refine⟨by kernel_rfl,by simp[D.nr],λw I vs hI hg hr=>?_⟩
 obtain⟨x,l,rfl,h1,h2⟩:=hr.of_cons
 obtain⟨y,l,rfl,h3,h4⟩:=h2.of_cons
 rw[h4.of_nil,h1.v_inv,h3.v_inv]
 have:=Go.Proofs.Any.strings_IndexByte ixbS (bs s) c w
 refine callsIn_wide.2 (this.mono ?_)
 rintro e w' ⟨rfl,rfl⟩
 refine⟨_,rfl,⟨rfl,rfl,rfl,X4 _,λ_=>X4 _,λ_ _=>rfl⟩,?_⟩
 rw[kR]
 exact .v _
def PH{s:Str}(h:(46:UInt8)∈s):PureCt prog 135 [.v (.string (bs s)),.v (.int .u8 46)] (.i (s.idxOf 46:Int)):=by
 have:=PK s 46
 rwa [PN h]at this
def PI{s:Str}(h : ¬(46:UInt8)∈s):PureCt prog 135 [.v (.string (bs s)),.v (.int .u8 46)] (.i (-1)):=by
 have:=PK s 46
 rwa [PO h]at this
def Ja:Builder.Extra prog PE where
 sizeBuilder:=by kernel_rfl
 liesBuilder:=by kernel_rfl
 t5:=underlying5
 a5:=Tryz.isAgg5
 z5:=Tryz.sizeOf5
 v5:=Tryz.zeroValue5
 infoByte:=by kernel_rfl
 cellsByte:=by kernel_rfl
 sizeByte:=by kernel_rfl
 neB5:=by decide
theorem Jc : ∀l:List Str,Go.Lib.join l [46]=dB l
 | []=>rfl
 | [p]=>Go.Lib.join_one _ _
 | p::q::r=>by
  rw[Go.Lib.join_cons,dB,<-Jc (q::r),Go.Lib.join_cons]
  simp[Go.Lib.joinTail]
def IA(s:Str):PureCt prog 52 [.v (.string (bs s))] (.tuple [.v (.string (bs (l9 s))),.i (if ah s then(if s=[46]then 4 else 0)else 11)]):=by
 refine oO func52 λff=>?_
 unfold f52
 refine oC Dg ?_
 refine oK Dg ?_ ?_ (hok:=oF (sF _))<;>intro c1
 . exact fr Dg (K:=1) (k:=by simp_all [l9,fQ])
 refine oK Dg ?_ ?_<;>intro c2
 . exact fr Dg (K:=1) (k:=by simp_all [l9,fQ])
 refine aU ?_
 have hsl:=fT (by simpa using c1)
 by_cases h46:(46:UInt8)∈s
 .
  have hix:=List.idxOf_lt_length_of_mem h46;have e1:((s.idxOf 46:Int)+1).toNat=s.idxOf 46+1:=by omega
  have ff:=qB (PN h46) @e1 ff;refine ae Dg ?_ (hok:=oS (k:=by first|exact PH h46|exact PI h46))
  refine wG Dg ?_ ?_ (hq:=rfl)<;>intro c3
  . exact fr Dg (K:=1) (k:=by simp_all [l9,fQ])
  simp at c3
 have ff:=qA (PO h46) ff
 refine ae Dg ?_ (hok:=oS (k:=by first|exact PH h46|exact PI h46))
 refine wG Dg ?_ ?_ (hq:=rfl)<;>intro c3
 . simp at c3
 refine fB ?_
 exact fr Dg (K:=1) (k:=by simp_all [l9,fQ])
def Pj(a:Str)(b:Str):PureCt prog 204 [.v (.string (bs a)),.v (.string (bs b))] (.i (eG a b)):=by
 refine oO func204 λff=>?_
 unfold f204
 refine ae Dg ?_
 refine ae Dg ?_ (hok:=oF (Ez _ _))
 exact ft Dg
def IW(s:Str)(z:Str):PureCt prog 127 [.v (.string (bs s)),.v (.string (bs z))] (.b (bC s z)):=by
 refine oO func127 λff=>?_
 unfold f127
 refine ae Dg ?_
 refine ae Dg ?_ (hok:=oF (wO _ _))
 exact ft Dg
def Ur(z:Zon)(s:Str):PureCt prog 12 [.agg z.d,.v (.string (bs s))] (.tuple [.v (.string (bs (fZ z s).1)),.b (fZ z s).2.1,.i (fZ z s).2.2]):=by
 refine oO func12 λff=>?_
 unfold f12
 refine ae Dg ?_
 refine oK Dg ?_ ?_ (hok:=oI sO (xJ z))<;>intro c1
 . exact fr Dg (K:=1) (k:=by simp only[fZ];rw[if_neg (by simp only[Bool.and_eq_true];grind)])
 have hn:ah s=true:=by grind
 have hz:aN z=true:=by grind
 have ha:ah z.apex=true:=(zJ.1 (by unfold aN at hz;simp only[XT]at hz;exact hz.1.1.1.1.1)).apex
 refine aU ?_
 refine ae Dg ?_ (hok:=oF (wO _ _))
 refine wE Dg ?_ ?_<;>intro c2
 . exact fr Dg (K:=1) (k:=by simp only[fZ];rw[XY (by rw[hn,hz];rfl),XW (by have h9:=c2;unfold bC at h9;rw[hn,ha]at h9;simpa using h9)])
 have hu:under s z.apex=true:=by have h9:=c2;unfold bC at h9;rw[hn,ha]at h9;simpa using h9
 refine fB ?_
 refine ae Dg ?_
 refine wA Dg ?_
 refine lq (Str×Nat) [2,9] (λ⟨m,nx⟩=>(ah m=true/\aI m z.apex/\bE z s=bE z m/\25<nx,(ay m).length,[(10,.v (.string (bs m)))],[(0,⟨24,[z.d]⟩),(25,⟨110,[z.d]⟩)],nx)) (s,_) ?_ (hA:=⟨hn,((zi hn ha).1 hu),rfl,iv⟩)
 rintro⟨m,nx⟩ ⟨hmo,hmu,hmc,hx⟩
 simp only[XX,XZ]
 have n0:0<nx:=by omega
 have ff:=qB @hx @n0 ff
 refine oL Dg ?_ ?_<;>intro c3
 .
  refine wD ?_;refine ae Dg ?_ (hok:=oH (vL z ⟨m,2⟩ (wN hz)));refine wG Dg ?_ ?_ (hq:=rfl)<;>intro c4
  . exact fr Dg (K:=1) (k:=by simp only[fZ];rw[XY (by rw[hn,hz];rfl),XY hu,hmc,Ze6 c3 (by simpa using c4)])
  have hf:eX z.sets ⟨m,2⟩=false:=by simpa using c4
  obtain⟨hr,BZ⟩:=uh hmo hmu c3;have hpf:l9 m=fQ m:=by unfold l9;rw[hmo,YM.2 hr];rfl
  have ff:=qA @hpf ff;refine wC Dg ?_ (hok:=oV (IA m));exact ak (fQ m,_) (h1:=⟨((nk hmo hr).1),BZ,(by(try dsimp only);exact hmc.trans (SB hmo hmu c3 hf).1),iv⟩) (h2:=by show(_:Nat)<_;exact(SB hmo hmu c3 hf).2)
 refine aR ?_
 exact fr Dg (K:=1) (k:=by simp only[fZ];rw[XY (by rw[hn,hz];rfl),XY hu,hmc,Ze7 c3])
def Lf(z:Zon):PureCt prog 30 [.agg z.d] (.tuple [.l ((if aN z then aT z else[]).map sR),.i (if aN z then 0 else 1)]):=by
 refine oO func30 λff=>?_
 unfold f30
 refine ae Dg ?_
 refine oK Dg ?_ ?_ (hok:=oF (xJ z))<;>intro c1
 . exact fr Dg (K:=2) (k:=by rw[show aN z=false by simpa using c1];rfl)
 have hz:aN z=true:=by simpa using c1
 have hbl:(aO z).b.length=z.sets.length:=Gj z
 have hll:=wN hz
 refine ae Dg ?_ (hok:=oF (Gs z (wN hz)))
 refine ae Dg ?_
 refine aU ?_
 refine uX 5 9 (by simp only[go_sem,ff]) (by simp only[go_sem,ff]) ?_
 refine ae Dg ?_
 refine dO ?_
 refine lq (Nat×Nat×Nat) [4,18,19] (λ⟨k,r,nx⟩=>(k<=z.sets.length/\r<nx/\9<r,z.sets.length-k,[(5,.mrow r 0 (bF (aO z) (k)).length),(20,.i k)],[(0,⟨24,[z.d]⟩),(9,⟨187,[(aO z).d]⟩),(r,⟨9,(bF (aO z) (k)).map sR⟩)],nx)) (0,12,_) ?_
 rintro⟨k,r,nx⟩ ⟨hk,hr,hr0⟩
 simp only[XX,XZ]
 have n0:9<nx:=by omega
 have hnl:=IE (aO z) k
 have ff:=qF @hr @n0 (nH 0 9) (nH 0 r) (nH 9 r) ff
 refine wH Dg ?_ ?_<;>intro c2
 .
  have hk2:k<z.sets.length:=by simpa using c2
  have hk3:k<(aO z).b.length:=by omega
  have ff:=qB (cZ hk2) (iy hk3) ff;refine wB ?_;refine oC Dg ?_;refine oK Dg ?_ ?_<;>intro c3
  .
   refine aR ?_;refine aA Dg ?_;have hst:=Et (x:=aO z) (k:=k) (λh9=>by unfold mi at h9;exact h9.elim c3.1 c3.2)
   have ff:=qA hst ff;exact ak (k+1,r,_)
  by_cases hl0:(bF (aO z) (k)).length=0
  .
   have hl9:(bF (aO z) (k))=[]:=Yf hl0;have ff:=qB @hl0 @hl9 ff;refine wG Dg ?_ ?_<;>intro c4
   .
    refine aA Dg ?_;refine aA Dg ?_;have hst:=zO (x:=aO z) (k:=k) (show mi (aO z) k from c3) (by simp only[EH];first|exact .inl hl0|grind)
    have ff:=qA hst ff;exact ak (k+1,(nx+42),_)
   refine wC Dg ?_;have hst:=zN (x:=aO z) (k:=k) (by simp only[EH];grind)
   have ff:=qA hst ff;exact ak (k+1,r,_)
  have hl1:(bF (aO z) (k)).length-1<(bF (aO z) (k)).length:=by omega
  have e1:(((bF (aO z) (k)).length:Int)-1).toNat=(bF (aO z) (k)).length-1:=by omega
  have e2:(((bF (aO z) (k)).length:Int)==0)=false:=by rw[YM];omega
  have ff:=qD @e1 @e2 (iy hl1) ff;refine wG Dg ?_ ?_<;>intro c4
  .
   refine aA Dg ?_;refine aA Dg ?_;have hst:=zO (x:=aO z) (k:=k) (show mi (aO z) k from c3) (by simp only[EH];first|exact .inl hl0|grind)
   have ff:=qA hst ff;exact ak (k+1,(nx+42),_)
  refine wC Dg ?_;have hst:=zN (x:=aO z) (k:=k) (by simp only[EH];grind)
  have ff:=qA hst ff;exact ak (k+1,r,_)
 have e8:k=z.sets.length:=by omega
 subst e8
 refine aR ?_
 exact fr Dg (K:=2) (k:=by rw[hz];rfl)
end Go.Proofs.YtdcenbhgholncaaGreatDoor
namespace Go.Proofs.YtdcenbhgholncaaGreatDoor
open Go.Proofs.Tryz
open Go.DL Go.Str Go.Rec Go.Zon Go.Cmp Go.Jn Go.RowKit
set_option maxRecDepth 10000
variable [Dr]
def ZbA(z:Zon):(aT z).length<=z.sets.length:=IE _ _
def Wo(l:List Sgd):(aX l).length<=l.length:=List.length_filter_le _ _
def oZ(r:RSet):List D:=[.v (.string (bs r.name)),.i r.ty,.i r.life,.l (r.data.map Dat.d),.e]
def eu(l:List Sgd)(nx:List RSet):Nat->List (List D)
 | 0=>[]
 | k+1 =>
  if k+1<l.length/\l[k+1]!.set.name=l[k]!.set.name then eu l nx k++[l[k]!.d]
  else if(bB l nx k).2<nx.length/\nx[(bB l nx k).2]!.name=l[k]!.set.name then eu l nx k++[l[k]!.d]++[oZ nx[(bB l nx k).2]!]
  else eu l nx k++[l[k]!.d]
section
variable {l : List Sgd} {nx : List RSet} {k : Nat}
@[go_sem]theorem chR_0:eu l nx 0=[]:=rfl
theorem KO(h:k+1<l.length/\l[k+1]!.set.name=l[k]!.set.name):eu l nx (k+1)=eu l nx k++[l[k]!.d]/\(bB l nx (k+1)).2=(bB l nx k).2:=⟨XY h,by rw[CR h]⟩
theorem CS(h : ¬(k+1<l.length/\l[k+1]!.set.name=l[k]!.set.name))(h2:(bB l nx k).2<nx.length/\nx[(bB l nx k).2]!.name=l[k]!.set.name):eu l nx (k+1)=eu l nx k++[l[k]!.d]++[oZ nx[(bB l nx k).2]!]/\(bB l nx (k+1)).2=(bB l nx k).2+1:=⟨by rw[eu,XW h,XY h2],by rw[F9 h h2]⟩
theorem vw(h : ¬(k+1<l.length/\l[k+1]!.set.name=l[k]!.set.name))(h2 : ¬((bB l nx k).2<nx.length/\nx[(bB l nx k).2]!.name=l[k]!.set.name)):eu l nx (k+1)=eu l nx k++[l[k]!.d]/\(bB l nx (k+1)).2=(bB l nx k).2:=⟨by rw[eu,XW h,XW h2],by rw[F8 h h2]⟩
theorem xu(l:List Sgd)(nx:List RSet):∀k,dK (eu l nx k)=(bB l nx k).1.map Sgd.d/\(eu l nx k).length=(bB l nx k).1.length/\bg (eu l nx k)=true
 | 0=>⟨rfl,rfl,rfl⟩
 | k+1=>by
  obtain⟨h1,h2,h3⟩:=xu l nx k;have e1 : ∀s:Sgd,dV s.d=s.d:=λs=>by simp only[Sgd.d,dV,wk,A8,Gz]
  have e2 : ∀r:RSet,dV (oZ r)=(⟨r,[]⟩:Sgd).d:=λr=>by simp only[oZ,Sgd.d,dV,wk,A8,dK,Yw]
  have e3 : ∀s:Sgd,bV s.d=true:=λs=>by simp[Sgd.d,bV,D.nr,BC,Eo]
  have e4 : ∀r:RSet,bV (oZ r)=true:=λr=>by simp[oZ,bV,D.nr,BC,bg]
  rw[A7]at h1 ⊢;have e5 : ∀(A B:List (List D)),bg (A++B)=(bg A&&bg B):=λA B=>by
   induction A with
   | nil=>simp[bg]
   | cons a A ih=>simp only[XX,bg,ih,Zp]
  by_cases a:k+1<l.length/\l[k+1]!.set.name=l[k]!.set.name
  . rw[(KO a).1,CR a];exact⟨by rw[YQ,h1,YQ,List.map_singleton,e1];rfl,by simp[h2],by rw[e5,h3];simp[bg,e3]⟩
  by_cases b:(bB l nx k).2<nx.length/\nx[(bB l nx k).2]!.name=l[k]!.set.name
  . rw[(CS a b).1,F9 a b];exact⟨by rw[YQ,YQ,h1,YQ,YQ,List.map_singleton,List.map_singleton,e1,e2];rfl,by simp[h2],by rw[e5,e5,h3];simp[bg,e3,e4]⟩
  rw[(vw a b).1,F8 a b];exact⟨by rw[YQ,h1,YQ,List.map_singleton,e1];rfl,by simp[h2],by rw[e5,h3];simp[bg,e3]⟩
end
theorem ZfM(l:List Sgd)(nx:List RSet):dK (eu l nx l.length)=(Ga l nx).map Sgd.d:=(xu l nx _).1
def Ow{nx:List RSet}{c:Nat}(h:c<nx.length):((nx.drop c).map RSet.d).getD 0 []=[.v (.string (bs nx[c]!.name)),.i nx[c]!.ty,.i nx[c]!.life,.l (nx[c]!.data.map Dat.d)]:=by
 rw[Yn h,getElem!_pos nx c h];rfl
def Oq{nx:List RSet}{c:Nat}(h:c<nx.length):List.drop 1 ((nx.drop c).map RSet.d)=(nx.drop (c+1)).map RSet.d:=by
 rw[<-List.map_drop,Z8]
theorem ZfJ{z:Zon}(h:aN z=false):dW z=(⟨[],[]⟩,1):=XY h
theorem ZfI{z:Zon}(hz:aN z=true)(h:aN (plainOf z)=false):dW z=(⟨[],[]⟩,1):=by unfold dW;rw[XW (by rw[hz];decide),XY h]
theorem ZfH{z:Zon}(hz:aN z=true)(h:aN (plainOf z)=true)(h2:20000<(plainOf z).sets.length+(aT (plainOf z)).length):dW z=(⟨[],[]⟩,2):=by unfold dW;rw[XW (by rw[hz];decide),XW (by rw[h];decide),XY h2]
theorem ZfG{z:Zon}(hz:aN z=true)(h:aN (plainOf z)=true)(h2 : ¬20000<(plainOf z).sets.length+(aT (plainOf z)).length):dW z=(⟨z.apex,Ga (plainOf z).sets (Zon.nextF (plainOf z) (aT (plainOf z)))⟩,0):=by unfold dW;rw[XW (by rw[hz];decide),XW (by rw[h];decide),XW h2]
def Wp{l:List Sgd}(h:jf l){k:Nat}(hk:k<(aX l).length):Ak (aX l)[k]! := by
 have h1:(aX l)[k]! ∈ aX l:=by rw[getElem!_pos (aX l) k hk];exact Yp hk
 have h2:(aX l)[k]! ∈ l:=(YJ.1 h1).1
 obtain⟨i,hi,h3⟩:=fw.1 h2
 rw[<-h3]
 exact h.2 i hi
def Zbv(z:Zon)(ns:List Str):(Zon.nextF z ns).length=ns.length:=by simp[Zon.nextF]
def Zby{z:Zon}(h:aN z=true):PureCt prog 30 [.agg z.d] (.tuple [.l ((aT z).map sR),.i 0]):=by
 have:=Lf z
 rwa [XY h,XY h]at this
def Zbz{z:Zon}(h:aN z=false):PureCt prog 30 [.agg z.d] (.tuple [.l [],.i 1]):=by
 have:=Lf z
 rwa [XW (by rw[h];decide),XW (by rw[h];decide)]at this
set_option maxHeartbeats 2000000 in
def Sg(z:Zon):PureCt prog 9 [.agg z.d] (.tuple [.agg (dW z).1.d,.i (dW z).2]):=by
 refine oO func9 λff=>?_
 unfold Tryz.f9
 refine ae Dg ?_
 refine oM Dg ?_ ?_ (hok:=oF (xJ z)) (hq:=rfl)<;>intro c1
 .
  have c1:aN z=false:=by simpa using c1
  refine ae Dg ?_;exact oN (fin 2 (hr:=oS (k:=by rw[ZfJ c1];try rfl)) (hk:=by(try simp only[go_sem,ff]);all_goals (exact(xu _ _ _).2.2)))
 have hz:aN z=true:=by simpa using c1
 have hl:=wN hz
 have hl2:=Wo z.sets
 have hPe:(⟨z.apex,aX z.sets⟩:Zon)=plainOf z:=rfl
 have hPs:(plainOf z).sets=aX z.sets:=rfl
 have hnl:=ZbA (plainOf z)
 rw[hPs]at hnl
 have ff:=qA @hPe ff
 refine ae Dg ?_
 refine ae Dg ?_ (hok:=oF (Zew z.sets hl))
 rcases(by cases aN (plainOf z)<;>simp:aN (plainOf z)=true\/aN (plainOf z)=false)with hp|hp
 .
  have ff:=qA @hp ff;refine ae Dg ?_ (hok:=oF (Zby hp));refine oM Dg ?_ ?_ (hq:=rfl)<;>intro c2
  . simp at c2
  refine oK Dg ?_ ?_<;>intro c3
  .
   have h3:20000<(plainOf z).sets.length+(aT (plainOf z)).length:=by rw[hPs];omega
   refine ae Dg ?_;exact oN (fin 2 (hr:=oS (k:=by rw[ZfH hz hp h3];try rfl)) (hk:=by(try simp only[go_sem,ff]);all_goals (exact(xu _ _ _).2.2)))
  have h3 : ¬20000<(plainOf z).sets.length+(aT (plainOf z)).length:=by rw[hPs];omega
  have hn9:(aT (plainOf z)).length<=20000:=by omega
  have hxl:=Zbv (plainOf z) (aT (plainOf z));refine ae Dg ?_ (hok:=oF (ZeH (plainOf z) (aT (plainOf z)) hp hn9));refine ae Dg ?_;refine wA Dg ?_;refine lq (Nat×Nat×Nat×Nat×Nat) [2,53,54] (λ⟨k,p,c,q4,nx⟩=>(k<=(aX z.sets).length/\1<q4/\q4<p/\q4<c/\p≠c/\p<nx/\c<nx,(aX z.sets).length-k,[(4,.mptr q4 0 0),(7,.l (((Zon.nextF (Zon.plainOf z) (aT (Zon.plainOf z))).drop (bB (aX z.sets) (Zon.nextF (Zon.plainOf z) (aT (Zon.plainOf z))) k).2).map RSet.d)),(8,.mptr c 0 0),(55,.i k)],[(0,⟨24,[z.d]⟩),(1,⟨24,[[.v (.string (bs [])),.e]]⟩),(q4,⟨24,[[.v (.string (bs z.apex)),.l ((aX z.sets).map Sgd.d)]]⟩),(c,⟨24,[[.v (.string (bs z.apex)),.mrow p 0 (eu (aX z.sets) (Zon.nextF (Zon.plainOf z) (aT (Zon.plainOf z))) k).length]]⟩),(p,⟨44,eu (aX z.sets) (Zon.nextF (Zon.plainOf z) (aT (Zon.plainOf z))) k⟩)],nx)) (0,44,46,9,_) ?_
  rintro⟨k,p,c,q4,nx⟩ ⟨hk,hq1,hqp,hqc,hpc,hx,hxc⟩;simp only[XX,XZ];have n0:0<nx:=by omega
  have n1:1<nx:=by omega
  have n4:q4<nx:=by omega
  have hw:=(xu (aX z.sets) (Zon.nextF (Zon.plainOf z) (aT (Zon.plainOf z))) k).2.1;have hw2:=(KN (aX z.sets) (Zon.nextF (Zon.plainOf z) (aT (Zon.plainOf z))) k).1;have hw3:=(KN (aX z.sets) (Zon.nextF (Zon.plainOf z) (aT (Zon.plainOf z))) k).2;have ff:=qH @hx @hxc @n0 @n1 @n4 (nH 0 1) (nH 0 q4) (qI (nH 0 c) (nH 0 p) (nH 1 q4) (nH 1 c) (nH 1 p) (nH c q4) (nH p q4) (nH c p) ff);refine wH Dg ?_ ?_<;>intro c4
  .
   have hk2:k<(aX z.sets).length:=by simpa using c4
   have sV:=Wp (De hz) hk2;have ff:=qA (cZ hk2) ff;refine wB ?_;refine ae Dg ?_;refine ae Dg ?_ (hok:=oH (ZeI (aX z.sets)[k]! sV));refine aU ?_
   by_cases hk3:k+1<(aX z.sets).length
   .
    have g3:=cZ hk3;have e1:((k:Int)+1).toNat=k+1:=by omega
    have hB:decide (((k:Int)+1)<((aX z.sets).length:Int))=true:=YE om;have ff:=qD @g3 @e1 @hB ff;refine wE Dg ?_ ?_<;>intro c5
    .
     refine aR ?_;refine aA Dg ?_
     show ∃_,_
     have hst:=(KO (l:=(aX z.sets)) (nx:=(Zon.nextF (Zon.plainOf z) (aT (Zon.plainOf z)))) (k:=k) (by grind)).1
     have hs2:=(KO (l:=(aX z.sets)) (nx:=(Zon.nextF (Zon.plainOf z) (aT (Zon.plainOf z)))) (k:=k) (by grind)).2
     have hs3:(eu (aX z.sets) (Zon.nextF (Zon.plainOf z) (aT (Zon.plainOf z))) k).length+1=(eu (aX z.sets) (Zon.nextF (Zon.plainOf z) (aT (Zon.plainOf z))) (k+1)).length:=by rw[hst];simp
     simp only[Sgd.d,oZ]at hst;have ff:=qD hst.symm hs2 hs3 ff;exact ak (k+1,(nx+12),c,q4,_)
    refine fB ?_
    by_cases hcn:(bB (aX z.sets) (Zon.nextF (Zon.plainOf z) (aT (Zon.plainOf z))) k).2<(Zon.nextF (Zon.plainOf z) (aT (Zon.plainOf z))).length
    .
     have g4:=Ow hcn;have g5:=Oq hcn;have hC:decide ((0:Int)<(((Zon.nextF (Zon.plainOf z) (aT (Zon.plainOf z))).drop (bB (aX z.sets) (Zon.nextF (Zon.plainOf z) (aT (Zon.plainOf z))) k).2).length:Int))=true:=YE (by rw[Zj];omega)
     have ff:=qD @g4 @g5 @hC ff;refine wE Dg ?_ ?_<;>intro c6
     .
      refine ae Dg ?_;refine aA Dg ?_ (hok:=oS (k:=by refine⟨⟨by rw[Zj];omega,Int.le_refl _⟩,λr hr=>?_⟩;obtain⟨x,_,rfl⟩:=Yi.1 hr;rfl))
      refine aA Dg ?_
      show ∃_,_
      have hst:=(CS (l:=(aX z.sets)) (nx:=(Zon.nextF (Zon.plainOf z) (aT (Zon.plainOf z)))) (k:=k) (by grind) (by grind)).1
      have hs2:=(CS (l:=(aX z.sets)) (nx:=(Zon.nextF (Zon.plainOf z) (aT (Zon.plainOf z)))) (k:=k) (by grind) (by grind)).2
      have hs3:(eu (aX z.sets) (Zon.nextF (Zon.plainOf z) (aT (Zon.plainOf z))) k).length+1+1=(eu (aX z.sets) (Zon.nextF (Zon.plainOf z) (aT (Zon.plainOf z))) (k+1)).length:=by rw[hst];simp
      simp only[Sgd.d,oZ]at hst;have ff:=qD hst.symm hs2 hs3 ff;exact ak (k+1,(nx+55),c,q4,_)
     refine wC Dg ?_
     show ∃_,_
     have hst:=(vw (l:=(aX z.sets)) (nx:=(Zon.nextF (Zon.plainOf z) (aT (Zon.plainOf z)))) (k:=k) (by grind) (by grind)).1
     have hs2:=(vw (l:=(aX z.sets)) (nx:=(Zon.nextF (Zon.plainOf z) (aT (Zon.plainOf z)))) (k:=k) (by grind) (by grind)).2
     have hs3:(eu (aX z.sets) (Zon.nextF (Zon.plainOf z) (aT (Zon.plainOf z))) k).length+1=(eu (aX z.sets) (Zon.nextF (Zon.plainOf z) (aT (Zon.plainOf z))) (k+1)).length:=by rw[hst];simp
     simp only[Sgd.d,oZ]at hst;have ff:=qD hst.symm hs2 hs3 ff;exact ak (k+1,(nx+12),c,q4,_)
    have hC:decide ((0:Int)<(((Zon.nextF (Zon.plainOf z) (aT (Zon.plainOf z))).drop (bB (aX z.sets) (Zon.nextF (Zon.plainOf z) (aT (Zon.plainOf z))) k).2).length:Int))=false:=YI (by rw[Zj];omega)
    have ff:=qA @hC ff;refine wG Dg ?_ ?_ (hq:=rfl)<;>intro c6
    . simp at c6
    refine wC Dg ?_
    show ∃_,_
    have hst:=(vw (l:=(aX z.sets)) (nx:=(Zon.nextF (Zon.plainOf z) (aT (Zon.plainOf z)))) (k:=k) (by grind) (by grind)).1
    have hs2:=(vw (l:=(aX z.sets)) (nx:=(Zon.nextF (Zon.plainOf z) (aT (Zon.plainOf z)))) (k:=k) (by grind) (by grind)).2
    have hs3:(eu (aX z.sets) (Zon.nextF (Zon.plainOf z) (aT (Zon.plainOf z))) k).length+1=(eu (aX z.sets) (Zon.nextF (Zon.plainOf z) (aT (Zon.plainOf z))) (k+1)).length:=by rw[hst];simp
    simp only[Sgd.d,oZ]at hst;have ff:=qD hst.symm hs2 hs3 ff;exact ak (k+1,(nx+12),c,q4,_)
   have hB:decide (((k:Int)+1)<((aX z.sets).length:Int))=false:=YI om;have ff:=qA @hB ff;refine wG Dg ?_ ?_ (hq:=rfl)<;>intro c5
   . simp at c5
   refine fB ?_
   by_cases hcn:(bB (aX z.sets) (Zon.nextF (Zon.plainOf z) (aT (Zon.plainOf z))) k).2<(Zon.nextF (Zon.plainOf z) (aT (Zon.plainOf z))).length
   .
    have g4:=Ow hcn;have g5:=Oq hcn;have hC:decide ((0:Int)<(((Zon.nextF (Zon.plainOf z) (aT (Zon.plainOf z))).drop (bB (aX z.sets) (Zon.nextF (Zon.plainOf z) (aT (Zon.plainOf z))) k).2).length:Int))=true:=YE (by rw[Zj];omega)
    have ff:=qD @g4 @g5 @hC ff;refine wE Dg ?_ ?_<;>intro c6
    .
     refine ae Dg ?_;refine aA Dg ?_ (hok:=oS (k:=by refine⟨⟨by rw[Zj];omega,Int.le_refl _⟩,λr hr=>?_⟩;obtain⟨x,_,rfl⟩:=Yi.1 hr;rfl))
     refine aA Dg ?_
     show ∃_,_
     have hst:=(CS (l:=(aX z.sets)) (nx:=(Zon.nextF (Zon.plainOf z) (aT (Zon.plainOf z)))) (k:=k) (by grind) (by grind)).1
     have hs2:=(CS (l:=(aX z.sets)) (nx:=(Zon.nextF (Zon.plainOf z) (aT (Zon.plainOf z)))) (k:=k) (by grind) (by grind)).2
     have hs3:(eu (aX z.sets) (Zon.nextF (Zon.plainOf z) (aT (Zon.plainOf z))) k).length+1+1=(eu (aX z.sets) (Zon.nextF (Zon.plainOf z) (aT (Zon.plainOf z))) (k+1)).length:=by rw[hst];simp
     simp only[Sgd.d,oZ]at hst;have ff:=qD hst.symm hs2 hs3 ff;exact ak (k+1,(nx+55),c,q4,_)
    refine wC Dg ?_
    show ∃_,_
    have hst:=(vw (l:=(aX z.sets)) (nx:=(Zon.nextF (Zon.plainOf z) (aT (Zon.plainOf z)))) (k:=k) (by grind) (by grind)).1
    have hs2:=(vw (l:=(aX z.sets)) (nx:=(Zon.nextF (Zon.plainOf z) (aT (Zon.plainOf z)))) (k:=k) (by grind) (by grind)).2
    have hs3:(eu (aX z.sets) (Zon.nextF (Zon.plainOf z) (aT (Zon.plainOf z))) k).length+1=(eu (aX z.sets) (Zon.nextF (Zon.plainOf z) (aT (Zon.plainOf z))) (k+1)).length:=by rw[hst];simp
    simp only[Sgd.d,oZ]at hst;have ff:=qD hst.symm hs2 hs3 ff;exact ak (k+1,(nx+12),c,q4,_)
   have hC:decide ((0:Int)<(((Zon.nextF (Zon.plainOf z) (aT (Zon.plainOf z))).drop (bB (aX z.sets) (Zon.nextF (Zon.plainOf z) (aT (Zon.plainOf z))) k).2).length:Int))=false:=YI (by rw[Zj];omega)
   have ff:=qA @hC ff;refine wG Dg ?_ ?_ (hq:=rfl)<;>intro c6
   . simp at c6
   refine wC Dg ?_
   show ∃_,_
   have hst:=(vw (l:=(aX z.sets)) (nx:=(Zon.nextF (Zon.plainOf z) (aT (Zon.plainOf z)))) (k:=k) (by grind) (by grind)).1
   have hs2:=(vw (l:=(aX z.sets)) (nx:=(Zon.nextF (Zon.plainOf z) (aT (Zon.plainOf z)))) (k:=k) (by grind) (by grind)).2
   have hs3:(eu (aX z.sets) (Zon.nextF (Zon.plainOf z) (aT (Zon.plainOf z))) k).length+1=(eu (aX z.sets) (Zon.nextF (Zon.plainOf z) (aT (Zon.plainOf z))) (k+1)).length:=by rw[hst];simp
   simp only[Sgd.d,oZ]at hst;have ff:=qD hst.symm hs2 hs3 ff;exact ak (k+1,(nx+12),c,q4,_)
  have e8:k=(aX z.sets).length:=by omega
  subst e8;refine aR ?_;refine Ao c 1 p (rows:=eu (aX z.sets) (Zon.nextF (Zon.plainOf z) (aT (Zon.plainOf z))) (aX z.sets).length) (off:=0) (len:=(eu (aX z.sets) (Zon.nextF (Zon.plainOf z) (aT (Zon.plainOf z))) (aX z.sets).length).length) ev rfl ev om om (xu _ _ _).2.2 ?_;rw[Yj,Zq];simp only[Zk,Y9];refine ae Dg ?_;exact oN (fin 2 (hr:=oS (k:=by rw[ZfM,ZfG hz hp h3];try rfl)) (hk:=by(try simp only[go_sem,ff]);all_goals (exact(xu _ _ _).2.2)))
 have ff:=qA @hp ff
 refine ae Dg ?_ (hok:=oF (Zbz hp))
 refine aU ?_
 refine wG Dg ?_ ?_ (hq:=rfl)<;>intro c2
 . refine ae Dg ?_;exact oN (fin 2 (hr:=oS (k:=by rw[ZfI hz hp];try rfl)) (hk:=by(try simp only[go_sem,ff]);all_goals (exact(xu _ _ _).2.2)))
 simp at c2
end Go.Proofs.YtdcenbhgholncaaGreatDoor
namespace Go.Proofs.YtdcenbhgholncaaGreatDoor
open Go.Proofs.Tryz
open Go.DL Go.Str Go.Rec Go.Zon Go.Cmp Go.Jn Go.RowKit
set_option maxRecDepth 10000
variable [Dr]
@[go_sem]theorem all_sR9{l:List Str}:(∀r∈l.map sR,r.length=1)=True:=by
 apply eq_true
 intro r hr
 obtain⟨x,_,rfl⟩:=Yi.1 hr
 rfl
theorem EI(rest:Str):split rest=(if bz rest 46<0 then[]else split (rest.take (bz rest 46).toNat))++[rest.drop (bz rest 46+1).toNat]:=by
 have h1:=jK rest
 rw[ky]at h1
 have h2:=congrArg List.reverse h1
 rw[List.reverse_reverse,List.reverse_cons]at h2
 rw[<-h2]
 split
 . rfl
 rw[jK,List.reverse_reverse]
theorem Zcc{rest:Str}(h : ¬bz rest 46<0):split rest=split (rest.take (bz rest 46).toNat)++[rest.drop (bz rest 46+1).toNat]:=by
 have:=EI rest
 rwa [XW h]at this
theorem Zce{rest:Str}(h:bz rest 46<0):split rest=[rest.drop (bz rest 46+1).toNat]:=by
 have:=EI rest
 rwa [XY h,XZ]at this
def VL(rest:Str):0<(split rest).length:=by rw[EI];simp
def Zab:List.replicate 8 [D.v (.string (bs []))]=(jI []).map sR:=rfl
def ZbK(l:List Str)(i:Nat)(a:Str):(l.map sR).set i [.v (.string (bs a))]=(l.set i a).map sR:=List.map_set.symm
def II(s:Str):PureCt prog 206 [.v (.string (bs s))] (.tuple [.l ((if ah s then aM s else[]).map sR),.i (if ah s then 0 else 11)]):=by
 refine oO func206 λff=>?_
 unfold f206
 refine oC Dg ?_
 refine oM Dg ?_ ?_ (hok:=oF (sF _)) (hq:=rfl)<;>intro c1
 . exact fr Dg (K:=2) (k:=by rw[show ah s=false by simpa using c1];rfl)
 have c1:ah s=true:=by simpa using c1
 have hsl0:=fT c1
 have ff:=qA @Zab ff
 refine oD Dg ?_
 refine wA Dg ?_
 refine Am (by simp only[go_sem,ff]) ev func208 rfl Gg (by simp[f208]) rfl (λl rL hp ha hb hn=>?_)
 unfold f208
 refine oK Dg ?_ ?_<;>intro d0
 .
  refine iA ?_;refine⟨.inr rfl,none,rfl,?_⟩;refine Ao 8 0 7 (rows:=(jI ([]:List Str)).map sR) (off:=0) (len:=8) ev rfl ev (by omega) (Nat.le_of_eq (by rw[YY,zq (by simp only[YA,ZJ];omega)])) OB ?_
  simp only[Yj,Zk,Y9];have yH:=zq (ls:=[]) (Yl _);have wX:=Mq (ls:=[]) (Yl _);have ht9:((jI []).map sR).take 8=(jI []).map sR:=rfl;have rO:((jI []).map sR).drop 8=[]:=rfl;have ff:=qD @ht9 @yH @rO ff;exact fr Dg (K:=2) (k:=by rw[c1];unfold aM;rw[XY d0];rfl)
 have hs8:(split s).length<=8:=(EB c1 d0).2.1
 refine ae Dg ?_
 refine dO ?_
 refine lq (Str×(List Str)×Int×Nat) [1] (λ⟨rest,ls,fst,nx⟩=>(rest.length<=60/\12<nx/\split s=split rest++ls/\(fst=8-(ls.length:Int)),rest.length,[(4,.v (.string (bs rest)))],[(7,⟨9,(jI ls).map sR⟩),(8,⟨62,[[.mrow 7 0 8]]⟩),(12,⟨3,[[.i fst]]⟩)],nx)) (s,[],8,_) ?_ (hA:=⟨hsl0,oW,(by first|(simp)|(dsimp only;simp)),rfl⟩)
 rintro⟨rest,ls,fst,nx⟩ ⟨hl,hx,hv,hf⟩
 simp only[XX,XZ]
 have hL:=zZ rest 46
 have n12:7<nx:=by omega
 have n13:8<nx:=by omega
 have hlr:=EI rest
 have hls:ls.length<8:=by(have h9:=congrArg List.length hv;rw[Yr]at h9;have:=VL rest;omega)
 have e1:(fst-1).toNat=8-ls.length-1:=by omega
 have hsl:=zq (ls:=ls) (by omega)
 have ff:=qI @hx @n12 @n13 @e1 @hsl (iy (l:=jI ls) (n:=8-ls.length-1) (by omega)) (ZbK (jI ls) (8-ls.length-1) (rest.drop (bz rest 46+1).toNat)) (VS (a:=(rest.drop (bz rest 46+1).toNat)) hls) ff
 refine dO ?_
 refine ae Dg ?_ (hok:=ic @BN)
 refine aU ?_
 refine aU ?_
 refine Cz (C:=Dg) (r:=rL) 5 (pK rfl) rfl rfl rfl (by simp only[YC,Y1,go_sem,ff];exact rfl) ?_ ev (by first|(simp only[go_sem,ff];done)|(simp only[go_sem,ff];exact rfl)) (by simp only[go_sem,ff]) ev (by rw[hp];rfl) (by rw[hp,hn];show ∀p∈[19],p<33;decide) ?_
 .
  try simp only[go_sem,ff]
  all_goals (first|done|(repeat' (with_reducible apply And.intro))<;>first|omega|(with_reducible assumption)|(intros;omega)|(intros;simp only[XV,X3,X8,XT,Ya,X5,Yk]at *;omega)|(simp_all;done)|(simp_all;omega))
 rw[ha,hb,hp,hn]
 show DW _ _ _ _ { n:=_,t:=lZ _ [19] _,h:=_,nx:=_ }
 simp only[zz,zw]
 refine aA Dg ?_
 refine⟨rfl,?_⟩
 refine dO ?_
 refine ae Dg ?_
 refine aA Dg ?_
 refine⟨rfl,true,none,⟨rfl,rfl⟩,⟨_,_,_,_,_,_⟩,by simp only[Yv,Yj,S.put,go_sem,ff];exact rfl,?_,?_⟩
 .
  try simp only[go_sem,ff]
  all_goals (first|done|(repeat' (with_reducible apply And.intro))<;>first|omega|(with_reducible assumption)|(intros;omega)|(intros;simp only[XV,X3,X8,XT,Ya,X5,Yk]at *;omega)|(simp_all;done)|(simp_all;omega))
 try simp only[gG]
 refine cd ?_ ?_<;>intro d3
 .
  refine iA ?_;refine⟨.inr rfl,none,rfl,?_⟩;refine Ao 8 0 7 (rows:=(jI ((rest.drop (bz rest 46+1).toNat)::ls)).map sR) (off:=0) (len:=8) ev rfl ev (by omega) (Nat.le_of_eq (by rw[YY,zq (by simp only[YA,ZJ];omega)])) OB ?_
  simp only[Yj,Zk,Y9];have yH:=zq (ls:=((rest.drop (bz rest 46+1).toNat)::ls)) (by rw[YA];omega)
  have wX:=Mq (ls:=((rest.drop (bz rest 46+1).toNat)::ls)) (by rw[YA];omega)
  rw[YA,<-Nat.sub_sub]at wX;have ht9:((jI ((rest.drop (bz rest 46+1).toNat)::ls)).map sR).take 8=(jI ((rest.drop (bz rest 46+1).toNat)::ls)).map sR:=Yh (by rw[YY,yH];exact X4 _)
  have rO:=wX;rw[ht9]at rO;have ff:=qD @ht9 @yH @rO ff;exact fr Dg (K:=2) (k:=by rw[c1];unfold aM;rw[XW d0,qQ,hv,Zce d3];rfl)
 refine wC Dg ?_
 exact ak (rest.take (bz rest 46).toNat,(rest.drop (bz rest 46+1).toNat)::ls,fst-1,_) (h1:=⟨(by first|(first|omega|(simp;omega))|(dsimp only;first|omega|(simp;omega))),iv,(by(try dsimp only);rw[hv,Zcc (by omega)];simp),(by first|(rw[List.length_cons];omega)|(dsimp only;rw[List.length_cons];omega))⟩) (h2:=by show(_:Nat)<_;(simp;omega))
def I1{h hs:H}{n r:Nat}{y:Option ax}(hn : ∀q,n<=q->h q=none)(hr:hs r=y)(hk : ∀q,q<n->q≠r->hs q=h q):∀q,upd h r y q=hs q\/upd h r y q=none:=λq=>by
 by_cases e:q=r
 . subst e;left;rw[bK,hr]
 rw[aL _ _ _ _ e]
 by_cases e2:q<n
 . exact .inl (hk q e2 e).symm
 exact .inr (hn q om)
def less_upd{h hs:H}{n:Nat}(hn : ∀q,n<=q->h q=none)(hk : ∀q,q<n->hs q=h q):∀q,h q=hs q\/h q=none:=λq=>by
 by_cases e:q<n
 . exact .inl (hk q e).symm
 exact .inr (hn q om)
def gu{h1 hs:H}{r:Nat}{y:Option ax}(h : ∀q,h1 q=hs q\/h1 q=none)(hr:hs r=y):∀q,upd h1 r y q=hs q\/upd h1 r y q=none:=λq=>by
 by_cases e:q=r
 . subst e;left;rw[bK,hr]
 rw[aL _ _ _ _ e];exact h q
@[go_sem]theorem ZhH{m:IM}:lC prog 27 (nG m)=true:=by
 induction m with
 | nil=>rfl
 | cons p m ih=>rw[yD];simp only[lC,ih,Qst.d,ko27,ZQ]
def iN(v:Vw)(n:Str)(t:Int):PureCt prog 126 [.eptr v.d,.v (.string (bs n)),.i t] (.i (aC v.z.sets ⟨n,t⟩)):=by
 refine oO func126 λff=>?_
 unfold f126
 refine ae Dg ?_
 refine aU ?_
 rcases hp:lD (l8 v.z.sets v.z.sets.length) ⟨n,t⟩with _|x
 .
  have ff:=qA @hp ff;refine ae Dg ?_;refine wG Dg ?_ ?_ (hq:=rfl)<;>intro c1
  . simp at c1
  refine fB ?_;exact fr Dg (k:=by simp[aC,hp])
 have ff:=qA @hp ff
 refine ae Dg ?_
 refine wG Dg ?_ ?_ (hq:=rfl)<;>intro c1
 . exact fr Dg (k:=by simp[aC,hp])
 simp at c1
def iZ(v:Vw):PureCt prog 130 [.eptr v.d] (.i (aC v.z.sets ⟨v.z.apex,4⟩)):=by
 refine oO func130 λff=>?_
 unfold f130
 refine ae Dg ?_
 exact ft Dg (hok:=oH (iN v v.z.apex 4))
def Zb2(i:Int)(v:Vw)(n:Str)(h0:0<=i)(h1:i.toNat<v.z.sets.length):PureCt prog 203 [.i i,.eptr [.eptr v.d],.eptr [.v (.string (bs n))]] (.b (decide (0<=eG v.z.sets[i.toNat]!.set.name n))):=by
 refine oO func203 λff=>?_
 unfold f203
 have ff:=qA (cZ h1) ff
 refine ae Dg ?_
 exact ft Dg (hok:=oH Pj)
def ZbQ(i:Int)(v:Vw)(n:Str)(h0:0<=i)(h1:i.toNat<v.z.sets.length):PureCt prog 245 [.i i,.eptr [.eptr v.d],.eptr [.v (.string (bs n))]] (.b (decide (0<eG v.z.sets[i.toNat]!.set.name n))):=by
 refine oO func245 λff=>?_
 unfold f245
 have ff:=qA (cZ h1) ff
 refine ae Dg ?_
 exact ft Dg (hok:=oH Pj)
def ZcC(l:List Int)(x:Int)(hl:l.length<=1000010):PureCt prog 243 [.l (l.map iR),.i x] (.i (uL l x)):=by
 refine oO func243 λff=>?_
 unfold f243
 refine ae Dg ?_
 refine wA Dg ?_
 refine lq (Nat×Nat) [0,1,7] (λ⟨k,nx⟩=>(k<=l.length/\(∀i,i<k->l[i]! ≠ x),l.length-k,[(8,.i k)],[],nx)) (0,_) ?_ (hA:=⟨iv,(by first|(intro i hi;omega)|(dsimp only;intro i hi;omega))⟩)
 rintro⟨k,nx⟩ ⟨hk,hv⟩
 simp only[XX,XZ]
 refine wH Dg ?_ ?_<;>intro c1
 .
  have hk2:k<l.length:=by simpa using c1
  have ff:=qA (Fe hk2) ff;refine wB ?_;refine ae Dg ?_;refine wE Dg ?_ ?_<;>intro c2
  . exact fr Dg (k:=by rw[ZcH hk2 c2.symm hv])
  refine wC Dg ?_;exact ak (k+1,_) (h1:=⟨iv,(by(try dsimp only);intro i hi;by_cases e:i=k;subst e;exact λe2=>c2 e2.symm;exact hv i om)⟩)
 have e8:k=l.length:=by omega
 subst e8
 refine aR ?_
 exact fr Dg (k:=by rw[ZcI hv])
def Zfn(l:List Int)(x:Int)(hl:l.length<=1000010):PureCt prog 201 [.l (l.map iR),.i x] (.b (decide (x∈l))):=by
 refine oO func201 λff=>?_
 unfold f201
 refine ae Dg ?_
 exact fr Dg (hok:=oH (ZcC l x hl)) (k:=by rw[ZcJ])
def SK(ps:List Int)(k:Nat)(x:Int)(h:ps.length<=1000010):PureCt prog 201 [.l ((ps.map iR).take k),.i x] (.b (decide (x∈ps.take k))):=by
 rw[<-Z7]
 exact Zfn (ps.take k) x (by rw[Y7];omega)
def UT(v:Vw)(r:Nat)(h:H)(n:Nat)(hv:h r=some ⟨101,[v.d]⟩)(hf:jf v.z.sets)(kd:Int)(ps:List Int)(hp : ∀i,i<ps.length->ps[i]! < (v.z.sets.length:Int))(hpl:ps.length<=1000010):dS prog 128 [.mptr r 0 0,.i kd,.l (ps.map iR)] h n (λd h' n'=>d = .agg (⟨kd,dF v.z.sets ps,[]⟩:eH).d/\h'=h/\n<=n'):=by
 refine oP func128 λhnone ff=>?_
 unfold f128
 have hrn:r<n:=Nat.lt_of_not_le λq=>by(rw[hnone r q]at hv;cases hv)
 have ff:=qE @hv (nH n r) (nH (n+3) r) (nH n (n+3)) ff
 refine oC Dg ?_
 refine aU ?_
 refine RL (n+3) 1 36 44 ev (by rfl) (by simp only[go_sem,ff]) ?_
 simp only[Zk,Y9]
 refine ae Dg ?_
 refine dO ?_
 refine zW (Nat×Nat×Nat) [0,2,6,7,13,14] (λ⟨k,p,nx⟩=>(k<=ps.length/\p<nx/\n+3<p,ps.length-k,[(15,.i k)],upd (upd (upd h n (some ⟨36,[[.v (.int .i64 0),.e,.v (.string (bs []))]]⟩)) (n+3) (some ⟨36,[[.i kd,.mrow p 0 (kF v.z.sets ps (k)).length,.v (.string (bs []))]]⟩)) p (some ⟨44,(kF v.z.sets ps (k)).map Sgd.d⟩),nx)) (0,(n+5),_) ?_ (sU:=by refine gu (gu (gu (less_upd hnone (λq hq=>by simp only[upd];repeat rw[XW (by omega)])) ?_) ?_) ?_<;>first|(simp only[go_sem,ff];done)|(simp only[go_sem,ff];exact rfl))
 rintro⟨k,p,nx⟩ ⟨hk,hx,hp0⟩
 simp only[XX,XZ]
 have n0:n<nx:=by omega
 have n1:n+3<nx:=by omega
 have n2:r<nx:=by omega
 have hpl9:=Ig v.z.sets ps k
 have ff:=qB @hx @n0 (qI @n1 @n2 (nH n r) (nH (n+3) r) (nH p r) (nH n (n+3)) (nH n p) (nH (n+3) p) ff)
 refine wH Dg ?_ ?_<;>intro c1
 .
  have hk2:k<ps.length:=by simpa using c1
  have hpk:=hp k hk2;have ff:=qA (Fe hk2) ff;refine wB ?_;refine ae Dg ?_;refine aU ?_
  by_cases hneg:ps[k]! < 0
  .
   have e9:decide (ps[k]! < 0)=true:=YE hneg;have ff:=qA @e9 ff;refine wE Dg ?_ ?_ (hok:=ic (SK ps k))<;>intro c2
   .
    refine aR ?_;refine aA Dg ?_;have hst:=Ic (l:=v.z.sets) (ps:=ps) (k:=k) (by first|exact .inl hneg|grind)
    have ff:=qA hst ff;refine ak (k+1,p,_) (h5:=?_);refine gu (gu (gu (less_upd hnone (λq hq=>?_)) ?_) ?_) ?_
    .
     simp only[upd]
     repeat rw[XW (by omega)]
    . first|(simp only[go_sem,ff];done)|(simp only[go_sem,ff];exact rfl)|(simp only[upd];simp[*];done)
    . first|(simp only[go_sem,ff];done)|(simp only[go_sem,ff];exact rfl)|(simp only[upd];simp[*];done)
    first|(simp only[go_sem,ff];done)|(simp only[go_sem,ff];exact rfl)|(simp only[upd];simp[*];done)
   have hpn : ¬ps[k]! < 0:=by grind
   have hpm:ps[k]! ∉ ps.take k:=by grind
   have Ce:ps[k]!.toNat<v.z.sets.length:=by omega
   have sV:=hf.2 _ Ce;have ff:=qA (cZ Ce) ff;refine fB ?_;refine ae Dg ?_;refine ae Dg ?_ (hok:=oS (k:=by exact CQ _ (Yt sV.1 om)))
   refine ae Dg ?_ (hok:=oS (k:=by exact F7 _ (Yt sV.2 om)))
   refine aA Dg ?_;refine aA Dg ?_;have hst:=Ib (l:=v.z.sets) (ps:=ps) (k:=k) (λh9=>h9.elim hpn hpm)
   have ff:=qA hst ff;refine ak (k+1,(nx+40),_) (h5:=?_);refine gu (gu (gu (less_upd hnone (λq hq=>?_)) ?_) ?_) ?_
   .
    simp only[upd]
    repeat rw[XW (by omega)]
   . first|(simp only[go_sem,ff];done)|(simp only[go_sem,ff];exact rfl)|(simp only[upd];simp[*];done)
   . first|(simp only[go_sem,ff];done)|(simp only[go_sem,ff];exact rfl)|(simp only[upd];simp[*];done)
   first|(simp only[go_sem,ff];done)|(simp only[go_sem,ff];exact rfl)|(simp only[upd];simp[*];done)
  have e9:decide (ps[k]! < 0)=false:=YI hneg;have ff:=qA @e9 ff;refine wE Dg ?_ ?_ (hok:=ic (SK ps k))<;>intro c2
  .
   refine aR ?_;refine aA Dg ?_;have hst:=Ic (l:=v.z.sets) (ps:=ps) (k:=k) (by first|exact .inl hneg|grind)
   have ff:=qA hst ff;refine ak (k+1,p,_) (h5:=?_);refine gu (gu (gu (less_upd hnone (λq hq=>?_)) ?_) ?_) ?_
   .
    simp only[upd]
    repeat rw[XW (by omega)]
   . first|(simp only[go_sem,ff];done)|(simp only[go_sem,ff];exact rfl)|(simp only[upd];simp[*];done)
   . first|(simp only[go_sem,ff];done)|(simp only[go_sem,ff];exact rfl)|(simp only[upd];simp[*];done)
   first|(simp only[go_sem,ff];done)|(simp only[go_sem,ff];exact rfl)|(simp only[upd];simp[*];done)
  have hpn : ¬ps[k]! < 0:=by grind
  have hpm:ps[k]! ∉ ps.take k:=by grind
  have Ce:ps[k]!.toNat<v.z.sets.length:=by omega
  have sV:=hf.2 _ Ce;have ff:=qA (cZ Ce) ff;refine fB ?_;refine ae Dg ?_;refine ae Dg ?_ (hok:=oS (k:=by exact CQ _ (Yt sV.1 om)))
  refine ae Dg ?_ (hok:=oS (k:=by exact F7 _ (Yt sV.2 om)))
  refine aA Dg ?_;refine aA Dg ?_;have hst:=Ib (l:=v.z.sets) (ps:=ps) (k:=k) (λh9=>h9.elim hpn hpm)
  have ff:=qA hst ff;refine ak (k+1,(nx+40),_) (h5:=?_);refine gu (gu (gu (less_upd hnone (λq hq=>?_)) ?_) ?_) ?_
  .
   simp only[upd]
   repeat rw[XW (by omega)]
  . first|(simp only[go_sem,ff];done)|(simp only[go_sem,ff];exact rfl)|(simp only[upd];simp[*];done)
  . first|(simp only[go_sem,ff];done)|(simp only[go_sem,ff];exact rfl)|(simp only[upd];simp[*];done)
  first|(simp only[go_sem,ff];done)|(simp only[go_sem,ff];exact rfl)|(simp only[upd];simp[*];done)
 have e8:k=ps.length:=by omega
 subst e8
 refine aR ?_
 refine Ao (n+3) 1 p (rows:=(kF v.z.sets ps ps.length).map Sgd.d) (off:=0) (len:=(kF v.z.sets ps ps.length).length) ev rfl ev om (by simp) Zbk ?_
 simp only[Yj,Vh,Zk,Y9]
 refine ae Dg ?_
 exact oN (gN (h) (hr:=oS (k:=by first|exact⟨rfl,rfl,om⟩|(refine⟨rfl,?_⟩;omega)|omega)) (hh:=by exact less_upd hnone (λq hq=>by simp only[upd];repeat rw[XW (by omega)])))
theorem bo244:jy prog 244=true:=by kernel_rfl
def VI(v:Vw)(n:Str)(hl:v.z.sets.length<=1000000):PureCt prog 202 [.i v.z.sets.length,.fn (.func 203) [] [.eptr [.eptr v.d],.eptr [.v (.string (bs n))]]] (.i ((nQ v.z.sets n:Nat):Int)):=by
 refine oO func202 λff=>?_
 unfold f202
 refine oC Dg ?_
 refine wD ?_
 refine lq (Nat×Nat×Nat) [1] (λ⟨i,j,nx⟩=>(i<=j/\j<=v.z.sets.length/\(nQ v.z.sets n=iJ (λk=>if decide (0<=eG v.z.sets[k]!.set.name n)then 0 else -1) i j),j-i,[(5,.i i),(6,.i j)],[],nx)) (0,v.z.sets.length,_) ?_
 rintro⟨i,j,nx⟩ ⟨hij,hj,hv⟩
 simp only[XX,XZ]
 refine oT Dg ?_ ?_<;>intro c1
 .
  have hk2:i<j:=by simpa using c1
  have hm:(i+j) / 2<v.z.sets.length:=by omega
  have ff:=qA (IQ (i:=i) (j:=j) (by omega)) ff
  refine dO ?_;refine ae Dg ?_;refine wG Dg (λc2=>?_) (λc2=>?_) (hok:=oF (Zb2 (((i+j) / 2:Nat):Int) v n (by omega) (by rw[Int.toNat_natCast];exact hm))) (hq:=rfl)
  . refine aA Dg ?_;exact ak ((i+j) / 2+1,j,_) (h1:=⟨iv,iv,(by(try dsimp only);exact(Du hv hk2).1 (by simpa using c2))⟩)
  refine aA Dg ?_;exact ak (i,(i+j) / 2,_) (h1:=⟨iv,iv,(by(try dsimp only);exact(Du hv hk2).2 (by simpa using c2))⟩)
 refine aR ?_
 exact fr Dg (k:=by rw[hv,rZ,XW (by omega)])
def VH(v:Vw)(n:Str)(hl:v.z.sets.length<=1000000):PureCt prog 202 [.i v.z.sets.length,.fn (.func 245) [] [.eptr [.eptr v.d],.eptr [.v (.string (bs n))]]] (.i ((mO v.z.sets n:Nat):Int)):=by
 refine oO func202 λff=>?_
 unfold f202
 refine oC Dg ?_
 refine wD ?_
 refine lq (Nat×Nat×Nat) [1] (λ⟨i,j,nx⟩=>(i<=j/\j<=v.z.sets.length/\(mO v.z.sets n=iJ (λk=>if decide (0<eG v.z.sets[k]!.set.name n)then 0 else -1) i j),j-i,[(5,.i i),(6,.i j)],[],nx)) (0,v.z.sets.length,_) ?_
 rintro⟨i,j,nx⟩ ⟨hij,hj,hv⟩
 simp only[XX,XZ]
 refine oT Dg ?_ ?_<;>intro c1
 .
  have hk2:i<j:=by simpa using c1
  have hm:(i+j) / 2<v.z.sets.length:=by omega
  have ff:=qA (IQ (i:=i) (j:=j) (by omega)) ff
  refine dO ?_;refine ae Dg ?_;refine wG Dg (λc2=>?_) (λc2=>?_) (hok:=oF (ZbQ (((i+j) / 2:Nat):Int) v n (by omega) (by rw[Int.toNat_natCast];exact hm))) (hq:=rfl)
  . refine aA Dg ?_;exact ak ((i+j) / 2+1,j,_) (h1:=⟨iv,iv,(by(try dsimp only);exact(Du hv hk2).1 (by simpa using c2))⟩)
  refine aA Dg ?_;exact ak (i,(i+j) / 2,_) (h1:=⟨iv,iv,(by(try dsimp only);exact(Du hv hk2).2 (by simpa using c2))⟩)
 refine aR ?_
 exact fr Dg (k:=by rw[hv,rZ,XW (by omega)])
def fu(v:Vw)(n:Str)(hl:v.z.sets.length<=1000000):PureCt prog 129 [.eptr v.d,.v (.string (bs n))] (.b (bZ v.z.sets n)):=by
 refine oO func129 λff=>?_
 unfold f129
 refine ae Dg ?_
 refine ae Dg ?_ (hok:=oH (VI v n hl))
 by_cases hk:nQ v.z.sets n<v.z.sets.length
 . have e9:decide ((nQ v.z.sets n:Int)<v.z.sets.length)=true:=YE om;have ff:=qB @e9 (cZ hk) ff;exact fr Dg (hok:=oH IW) (k:=by simp[bZ,hk])
 have e9:decide ((nQ v.z.sets n:Int)<v.z.sets.length)=false:=YI om
 have ff:=qA @e9 ff
 exact fr Dg (hok:=oH IW) (k:=by simp[bZ,hk])
def UM(v:Vw)(n:Str):PureCt prog 205 [.eptr v.d,.v (.string (bs n))] (.fn (.func 244) [] [.eptr [.eptr v.d],.eptr [.v (.string (bs n))]]):=by
 refine oO func205 λff=>?_
 unfold f205
 refine oC Dg ?_
 exact oN (fin 3 (hr:=oR) (hk:=by(try simp only[go_sem,ff]);all_goals (show D.nr _=true;simp[go_sem,D.nr,bV])))
def ja(v:Vw)(n:Str)(hl:v.z.sets.length<=1000000):PureCt prog 131 [.eptr v.d,.v (.string (bs n))] (.i (bJ v.z.sets n)):=by
 refine oO func131 λff=>?_
 unfold f131
 have hue:mO v.z.sets n<=v.z.sets.length:=Bc _ _
 refine ae Dg ?_
 refine wA Dg ?_ (hok:=oH (UM v n))
 refine Am (by simp only[go_sem,ff]) ev func244 rfl bo244 (by simp[f244]) rfl (λl rL hp ha hb hn=>?_)
 unfold f244
 refine ae Dg ?_ (hok:=oH (VH v n hl))
 refine ae Dg ?_
 refine dO ?_
 refine lq (Nat×Nat) [0] (λ⟨k,nx⟩=>(k<=v.z.sets.length/\1<nx/\bJ v.z.sets n=mH v.z.sets k,k,[(5,.i ((k:Int)-1))],[(0,⟨97,[[.eptr v.d]]⟩),(1,⟨3,[[.i 0]]⟩)],nx)) ((mO v.z.sets n),_) ?_ (hA:=⟨(Bc _ _),iv,rfl⟩)
 rintro⟨k,nx⟩ ⟨hk,hx,hv⟩
 simp only[XX,XZ]
 have n0:0<nx:=by omega
 have ff:=qB @hx @n0 ff
 refine oT Dg ?_ ?_ (hq:=rfl)<;>intro d2
 .
  have hk2:0<k:=by have h9:(0:Int)<=(k:Int)-1:=(by simpa using d2);omega
  have hk3:k-1<v.z.sets.length:=by omega
  have e1:((k:Int)-1).toNat=k-1:=by omega
  have ff:=qB @e1 (cZ hk3) ff;refine wD ?_;refine aU ?_;refine Cz (C:=Dg) (r:=rL) 2 (pK rfl) rfl rfl rfl (by simp only[YC,Y1,go_sem,ff];exact rfl) ?_ ev (by first|(simp only[go_sem,ff];done)|(simp only[go_sem,ff];exact rfl)) (by simp only[go_sem,ff]) ev (by rw[hp];rfl) (by rw[hp,hn];show ∀p∈[9],p<21;decide) ?_
  .
   try simp only[go_sem,ff]
   all_goals (first|done|(repeat' (with_reducible apply And.intro))<;>first|omega|(with_reducible assumption)|(intros;omega)|(intros;simp only[XV,X3,X8,XT,Ya,X5,Yk]at *;omega)|(simp_all;done)|(simp_all;omega))
  rw[ha,hb,hp,hn]
  show DW _ _ _ _ { n:=_,t:=lZ _ [9] _,h:=_,nx:=_ }
  simp only[zz,zw];refine aA Dg ?_;refine⟨rfl,?_⟩;refine dO ?_;refine wG Dg ?_ ?_ (hq:=rfl)<;>intro c3
  .
   refine ae Dg ?_;refine iA ?_;refine⟨rfl,false,some .ret,⟨rfl,rfl⟩,⟨_,_,_,_,_,_⟩,by simp only[Yv,Yj,S.put,go_sem,ff];exact rfl,?_,?_⟩
   .
    try simp only[go_sem,ff]
    all_goals (first|done|(repeat' (with_reducible apply And.intro))<;>first|omega|(with_reducible assumption)|(intros;omega)|(intros;simp only[XV,X3,X8,XT,Ya,X5,Yk]at *;omega)|(simp_all;done)|(simp_all;omega))
   try simp only[gG]
   refine ce ?_ ?_ (hq:=rfl)<;>intro d4
   . refine iA ?_;refine⟨.inr rfl,some .ret,rfl,?_⟩;exact fin 0 (hr:=oS (k:=by rw[hv,Zfd hk2 (by simpa using c3)]))
   simp at d4
  refine fB ?_;refine⟨rfl,true,none,⟨rfl,rfl⟩,⟨_,_,_,_,_,_⟩,by simp only[Yv,Yj,S.put,go_sem,ff];exact rfl,?_,?_⟩
  .
   try simp only[go_sem,ff]
   all_goals (first|done|(repeat' (with_reducible apply And.intro))<;>first|omega|(with_reducible assumption)|(intros;omega)|(intros;simp only[XV,X3,X8,XT,Ya,X5,Yk]at *;omega)|(simp_all;done)|(simp_all;omega))
  try simp only[gG]
  refine ce ?_ ?_ (hq:=rfl)<;>intro d4
  . simp at d4
  refine wC Dg ?_;exact ak (k-1,_) (h1:=⟨iv,iv,(by(try dsimp only);rw[hv,Zff hk2 (by simpa using c3)])⟩)
 have hk2:k=0:=by have h9 : ¬(0:Int)<=(k:Int)-1:=(by simpa using d2);omega
 subst hk2
 refine aR ?_
 refine⟨.inl rfl,none,rfl,?_⟩
 exact fr Dg (k:=by rw[hv];rfl)
def ug(v:Vw)(r:Nat)(h:H)(hv:h r=some ⟨101,[v.d]⟩)(hf:jf v.z.sets)(kd:Int)(ps:List Int)(hp : ∀i,i<ps.length->ps[i]! < (v.z.sets.length:Int))(hpl:ps.length<=1000010):∀b,Ct prog 128 [.mptr r 0 0,.i kd,.l (ps.map iR)] h b (.agg (⟨kd,dF v.z.sets ps,[]⟩:eH).d) h :=
 Zfc (by simp[go_sem,D.nr,bV,bg]) λn=>UT v r h n hv hf kd ps hp hpl
def UR(v:Vw)(r:Nat)(h:H)(n:Nat)(hv:h r=some ⟨101,[v.d]⟩)(hf:jf v.z.sets):dS prog 43 [.mptr r 0 0] h n (λd h' n'=>d = .tuple [.agg ((cB v 1).1.df false),.b (cB v 1).2]/\h'=h/\n<=n'):=by
 refine oP func43 λhnone ff=>?_
 unfold f43
 have hrn:r<n:=Nat.lt_of_not_le λq=>by(rw[hnone r q]at hv;cases hv)
 have ff:=qB @hv (nH n r) ff
 refine ae Dg ?_
 refine ae Dg ?_ (hok:=oz (qD (iN v) (λa1=>ja v a1 hf.1) (iZ v) (λa1=>fu v a1 hf.1)))
 refine ae jH ?_ (hok:=oS (k:=by first|trivial|(repeat' with_reducible apply And.intro)<;>first|(intros;exact iN v _ _)|(intros;exact ja v _ hf.1)|(intros;exact iZ v)|(intros;exact fu v _ hf.1)|exact(λ_=>fu v _ hf.1)|exact ug v r _ ev hf 1 [(aC v.z.sets ⟨v.q.name,v.q.ty⟩)] (BL (jN _ _)) (by simp)))
 exact oN (gN (h) (hr:=oS (k:=by first|exact⟨rfl,rfl,om⟩|(refine⟨rfl,?_⟩;omega)|omega)) (hh:=by exact less_upd hnone (λq hq=>by simp only[upd];repeat rw[XW (by omega)])))
def UJ(v:Vw)(r:Nat)(h:H)(n:Nat)(hv:h r=some ⟨101,[v.d]⟩)(hf:jf v.z.sets):dS prog 46 [.mptr r 0 0] h n (λd h' n'=>d = .tuple [.agg ((cB v 4).1.df false),.b (cB v 4).2]/\h'=h/\n<=n'):=by
 refine oP func46 λhnone ff=>?_
 unfold f46
 have hrn:r<n:=Nat.lt_of_not_le λq=>by(rw[hnone r q]at hv;cases hv)
 have ff:=qB @hv (nH n r) ff
 refine ae Dg ?_
 refine ae Dg ?_ (hok:=oz (qD (iN v) (λa1=>ja v a1 hf.1) (iZ v) (λa1=>fu v a1 hf.1)))
 refine ae jH ?_ (hok:=oS (k:=by first|trivial|(repeat' with_reducible apply And.intro)<;>first|(intros;exact iN v _ _)|(intros;exact ja v _ hf.1)|(intros;exact iZ v)|(intros;exact fu v _ hf.1)|exact(λ_=>fu v _ hf.1)|exact ug v r _ ev hf 2 [(aC v.z.sets ⟨v.wc,v.q.ty⟩),(bJ v.z.sets v.q.name)] (yx (jN _ _) (lK _ _)) (by simp)))
 exact oN (gN (h) (hr:=oS (k:=by first|exact⟨rfl,rfl,om⟩|(refine⟨rfl,?_⟩;omega)|omega)) (hh:=by exact less_upd hnone (λq hq=>by simp only[upd];repeat rw[XW (by omega)])))
end Go.Proofs.YtdcenbhgholncaaGreatDoor
namespace Go.Proofs.YtdcenbhgholncaaGreatDoor
open Go.Proofs.Tryz
open Go.DL Go.Str Go.Rec Go.Zon Go.Cmp Go.Jn Go.RowKit
set_option maxRecDepth 10000
theorem Wd(l:List Str)(h1:l.length<=100)(h2:(dB l).length<=1000000):@PureCt drF prog _ 246 [.l (l.map sR),.v (.string (bs [46]))] (.v (.string (bs (dB l)))):=by
 refine⟨by kernel_rfl,by simp only[go_sem,List.all_cons,List.all_nil];first|done|rfl,λw I vs hI hg hr=>?_⟩
 obtain⟨x,t,rfl,h3,h4⟩:=hr.of_cons
 obtain⟨y,t,rfl,h5,h6⟩:=h4.of_cons
 rw[h6.of_nil,h5.v_inv]
 have fin : ∀e w',e=Ending.returned (.string ⟨(Go.Lib.join ((l.map bs).map (·.data.toList)) (bs [46]).data.toList).toArray⟩)/\Below w.heap.size w w' -> ∃v,e = .returned v /\ @xI drF w w'/\ag w' (gq λb=>I b\/(w.heap.size<=b/\b<w'.heap.size)) (.v (.string (bs (dB l)))) v:=by
  rintro e w' ⟨rfl,hb⟩;refine⟨_,rfl,@xI.mk drF w w' hb.os hb.tape hb.output hb.size (λq=>q.elim) hb.block,?_⟩
  have e9:(l.map bs).map (·.data.toList)=l:=by rw[List.map_map];exact(YK λx _=>kR x).trans (List.map_id l)
  rw[e9,kR,Jc];exact .v _
 have hlen:(Go.Lib.join ((l.map bs).map (·.data.toList)) (bs [46]).data.toList).length<=140737488355328:=by
  have e9:(l.map bs).map (·.data.toList)=l:=by rw[List.map_map];exact(YK λx _=>kR x).trans (List.map_id l)
  rw[e9,kR,Jc];omega
 generalize hR:l.map sR=R at h3
 cases h3 with
 | empty _ a cap hf hm =>
  have e0:l=[]:=List.map_eq_nil_iff.1 hR;subst e0;exact callsIn_wide.2 ((Go.Proofs.Any.strings_Join_none Jb Ja a cap (bs [46]) w).mono λe w'⟨k1,k2⟩=>fin e w' ⟨k1,k2▸Below.refl _ _⟩)
 | list _ _ ad cap size cv hI2 hl hf hm hs hc hrr =>
  subst hR;have hrow : ∀(i:Nat)x,l[i]? = some x->w.cell? (ad.add i)=some (.string (bs x)):=by
   intro i x hx;have e1:(l.map sR)[i]? = some (sR x):=by rw[Ym,hx];rfl
   have e2:size=1:=(hs _ (X7 e1)).symm;obtain⟨k1,_⟩:=hc i 0 _ _ e1 rfl;have k2:=(hrr i 0 _ _ e1 rfl).v_inv;rw[k2,e2]at k1
   simpa using k1
  by_cases hne:l=[]
  . subst hne;exact callsIn_wide.2 ((Go.Proofs.Any.strings_Join_none Jb Ja (some ad) cap (bs [46]) w).mono λe w'⟨k1,k2⟩=>fin e w' ⟨k1,k2▸Below.refl _ _⟩)
  have h0:0<l.length:=YV.2 hne;have c0:=hrow 0 l[0] (by simp)
  have hsp:ad.spot=none:=by
   unfold Go.World.cell? at c0;rw[show ad.add 0=ad from rfl]at c0
   split at c0
   .
    split at c0
    . cases c0
    rename_i q;simpa using q
   cases c0
  obtain⟨bk,o,sp⟩:=ad;simp only at hsp;subst hsp;have hbk:bk<w.heap.size:=hI _ hI2;have key:=Go.Proofs.Any.strings_Join Jb Ja bk o cap (l.map bs) (bs [46]) w (λj x hx=>by
   rw[Ym]at hx
   cases e:l[j]? with
   | none=>rw[e]at hx;cases hx
   | some y=>rw[e]at hx;cases hx;rw[<-kT];exact hrow j y e) hbk (by simp;omega) (by simpa using hl) hlen
  have e8:(l.map bs).length=(l.map sR).length:=by simp
  rw[e8]at key;exact callsIn_wide.2 (key.mono λe w' h=>fin e w' h)
def Zcd{s:Str}(h:dN s=true):s.length<=20:=by
 unfold dN at h
 simp only[XT,XV]at h
 omega
theorem PG : ∀l:List Str,(∀x∈l,x.length<=20)->(dB l).length<=21*l.length
 | [],_=>X4 _
 | [p],h=>by have:=h p (by simp);simp[dB];omega
 | p::q::r,h=>by
  have h1:=h p (by simp)
  have h2:=PG (q::r) (λx hx=>h x (List.mem_cons_of_mem _ hx))
  rw[dB,Yr,YA];rw[YA];omega
def Zcm{l:List Str}(h:aF l.length (fP l) 0=true):(dB l).length<=21*l.length:=by
 refine PG l λx hx=>?_
 obtain⟨i,hi,rfl⟩:=fw.1 hx
 have:=(fe _ _ _).1 h i (Yl _) hi
 unfold fP at this
 rw[X8]at this
 rcases this with e|e
 . exact Zcd e
 simp only[XT,Yx]at e;rw[e.2];decide
def VB(c:Str):[D.v (.string (bs [42]))]::(aM c).map sR=(gJ c).map sR:=rfl
def Vx(c:Str):List.take (1+(aM c).length) ((gJ c).map sR)=(gJ c).map sR:=Yh (by rw[YY,gJ,YA];omega)
def Vz(c:Str):(gJ c).length=1+(aM c).length:=by rw[gJ,YA];omega
def OQ(l:List Str):PureCt prog 207 [.l (l.map sR)] (.tuple [.v (.string (bs (gM l).1)),.i (gM l).2]):=by
 refine oO func207 λff=>?_
 unfold f207
 refine ae Dg ?_
 refine oM Dg ?_ ?_ (hq:=rfl)<;>intro c1
 .
  have hn:l=[]:=Yf (by simpa using c1)
  exact fr Dg (K:=1) (k:=by rw[hn];rfl)
 have hn:l≠[]:=λe=>by subst e;simp at c1
 refine oK Dg ?_ ?_<;>intro c2
 .
  have h8:8<l.length:=by omega
  exact fr Dg (K:=1) (k:=by rw[gM,XW hn,XY h8])
 have h8 : ¬8<l.length:=by omega
 refine wA Dg ?_
 refine lq (Nat×Nat) [0,13,14] (λ⟨k,nx⟩=>(k<=l.length/\aF l.length (fP l) 0=aF l.length (fP l) k,l.length-k,[(15,.i k)],[],nx)) (0,_) ?_
 rintro⟨k,nx⟩ ⟨hk,hv⟩
 simp only[XX,XZ]
 refine wH Dg ?_ ?_<;>intro c3
 .
  have hk2:k<l.length:=by simpa using c3
  have ff:=qA (iy hk2) ff;refine wB ?_;refine ae Dg ?_;refine wE Dg (λc4=>?_) (λc4=>?_) (hok:=oS (k:=by first|trivial|(repeat' with_reducible apply And.intro)<;>first|(intros;exact PQ _)|(intro a b;exact⟨a,λc=>by rw[a,c];rfl⟩)))
  . exact fr Dg (K:=1) (k:=by have hF:fP l k=false:=(by simp only[fP];grind);rw[gM,if_neg hn,if_neg h8,if_pos (by rw[hv,dY hk2 hF])])
  refine wC Dg ?_;have h8:(fP l) k=true:=by simp only[fP];grind
  exact ak (k+1,_) (h1:=⟨iv,(by(try dsimp only);rw[hv,bO hk2 h8])⟩)
 have e8:k=l.length:=by omega
 subst e8
 have hall:aF l.length (fP l) 0=true:=by rw[hv,jE (by omega)]
 have hjl:=Zcm hall
 refine aR ?_
 refine ae Dg ?_ (hok:=oF (Wd l om om))
 refine oK Dg ?_ ?_<;>intro c5
 . exact fr Dg (K:=1) (k:=by rw[gM,XW hn,XW h8,XW (by rw[hall];simp),XY (by omega)])
 exact fr Dg (K:=1) (k:=by rw[gM,XW hn,XW h8,XW (by rw[hall];simp),XW (by omega)])
def UL(v:Vw)(hl:v.z.sets.length<=1000000)(hq:ah v.q.name=true)(hu:aI v.q.name v.z.apex):PureCt prog 132 [.eptr v.d] (.v (.string (bs (bI v.z v.q.name)))):=by
 refine oO func132 λff=>?_
 unfold f132
 refine oC Dg ?_
 refine wD ?_
 refine lq (Str×Nat) [0] (λ⟨c,nx⟩=>(ah c=true/\aI c v.z.apex/\gP v.z v.q.name=gP v.z c,(ay c).length,[(3,.v (.string (bs c)))],[],nx)) (v.q.name,_) ?_ (hA:=⟨hq,hu,rfl⟩)
 rintro⟨c,nx⟩ ⟨hcn,hcu,hcc⟩
 simp only[XX,XZ]
 refine oL Dg ?_ ?_ (hok:=oH (fu v c hl))<;>intro c1
 .
  refine dO ?_;obtain⟨hne,hex⟩:c≠v.z.apex/\bZ v.z.sets c=false:=by grind
  obtain⟨hr,BZ⟩:=uh hcn hcu hne;have hpf:l9 c=fQ c:=by unfold l9;rw[hcn,YM.2 hr];rfl
  have ff:=qA @hpf ff;refine aA Dg ?_ (hok:=oV (IA c));exact ak (fQ c,_) (h1:=⟨((nk hcn hr).1),BZ,(by(try dsimp only);exact hcc.trans (KL hcn hcu hne hex).1)⟩) (h2:=by show(_:Nat)<_;exact(KL hcn hcu hne hex).2)
 have hce:c=v.z.apex\/bZ v.z.sets c=true:=by grind
 have hcf:=Tn hce
 have hwf:bI v.z v.q.name=(gM (gJ c)).1:=by unfold bI kg;rw[hcc,hcf]
 have hpl:=(Ea c).2
 have hcl:=fT hcn
 have ff:=qD @hcn (VB c) (Vx c) ff
 refine aR ?_
 refine ae Dg ?_ (hok:=oF (II c))
 refine ae vI ?_ (hok:=oa2 (OQ (gJ c)) (Vz c))
 refine oK Dg ?_ ?_<;>intro c2
 . exact fr Dg (k:=by rw[hwf,PD c2])
 exact fr Dg (k:=by rw[hwf])
def UI(v:Vw)(r:Nat)(h:H)(n:Nat)(hv:h r=some ⟨101,[v.d]⟩)(hf:jf v.z.sets):dS prog 48 [.mptr r 0 0] h n (λd h' n'=>d = .tuple [.agg ((cB v 6).1.df (!(cB v 6).2)),.b (cB v 6).2]/\h'=h/\n<=n'):=by
 refine oP func48 λhnone ff=>?_
 unfold f48
 have hrn:r<n:=Nat.lt_of_not_le λq=>by(rw[hnone r q]at hv;cases hv)
 have ff:=qB @hv (nH n r) ff
 refine ae Dg ?_
 refine oM Dg ?_ ?_ (hok:=oz (qD (iN v) (λa1=>ja v a1 hf.1) (iZ v) (λa1=>fu v a1 hf.1))) (hq:=rfl)<;>intro c1
 . have c1b:=c1;refine ae Dg ?_;exact oN (gN (h) (hr:=oS (k:=by first|exact⟨by(rw[GI c1b];try rfl),rfl,om⟩|exact⟨by(rw[GI c1b];try rfl),om⟩)) (hh:=by exact less_upd hnone (λq hq=>by simp only[upd];repeat rw[XW (by omega)])))
 have c1b:=c1
 refine ae jH ?_ (hok:=oS (k:=by first|trivial|(repeat' with_reducible apply And.intro)<;>first|(intros;exact iN v _ _)|(intros;exact ja v _ hf.1)|(intros;exact iZ v)|(intros;exact fu v _ hf.1)|exact(λ_=>fu v _ hf.1)|exact ug v r _ ev hf 5 [(aC v.z.sets ⟨v.z.apex,4⟩),(bJ v.z.sets v.q.name),(bJ v.z.sets v.wc)] (yw (jN _ _) (lK _ _) (lK _ _)) (by simp)))
 exact oN (gN (h) (hr:=oS (k:=by first|exact⟨by(rw[GJ c1b];try rfl),rfl,om⟩|exact⟨by(rw[GJ c1b];try rfl),om⟩)) (hh:=by exact less_upd hnone (λq hq=>by simp only[upd];repeat rw[XW (by omega)])))
def UO(v:Vw)(r:Nat)(h:H)(n:Nat)(hv:h r=some ⟨101,[v.d]⟩)(hf:jf v.z.sets):dS prog 49 [.mptr r 0 0] h n (λd h' n'=>d = .agg (wP v).d/\h'=h/\n<=n'):=by
 refine oP func49 λhnone ff=>?_
 unfold f49
 have hrn:r<n:=Nat.lt_of_not_le λq=>by(rw[hnone r q]at hv;cases hv)
 have ff:=qB @hv (nH n r) ff
 refine oC Dg ?_
 refine oK Dg ?_ ?_<;>intro c1
 .
  refine aA Dg ?_ (hok:=oz (qD (iN v) (λa1=>ja v a1 hf.1) (iZ v) (λa1=>fu v a1 hf.1)))
  refine ae jH ?_ (hok:=oS (k:=by first|trivial|(repeat' with_reducible apply And.intro)<;>first|(intros;exact iN v _ _)|(intros;exact ja v _ hf.1)|(intros;exact iZ v)|(intros;exact fu v _ hf.1)|exact(λ_=>fu v _ hf.1)|exact ug v r _ ev hf 6 [(aC v.z.sets ⟨v.z.apex,4⟩),(bJ v.z.sets v.q.name),(bJ v.z.sets v.wc)] (yw (jN _ _) (lK _ _) (lK _ _)) (by simp)))
  exact oN (gN (h) (hr:=oS (k:=by first|exact⟨by(rw[OH c1];try rfl),rfl,om⟩|exact⟨by(rw[OH c1];try rfl),om⟩)) (hh:=by exact less_upd hnone (λq hq=>by simp only[upd];repeat rw[XW (by omega)])))
 refine ae jH ?_ (hok:=oS (k:=by first|trivial|(repeat' with_reducible apply And.intro)<;>first|(intros;exact iN v _ _)|(intros;exact ja v _ hf.1)|(intros;exact iZ v)|(intros;exact fu v _ hf.1)|exact(λ_=>fu v _ hf.1)|exact ug v r _ ev hf 6 [(aC v.z.sets ⟨v.z.apex,4⟩),(bJ v.z.sets v.q.name), -1] (yw (jN _ _) (lK _ _) om) (by simp)))
 exact oN (gN (h) (hr:=oS (k:=by first|exact⟨by(rw[OI c1];try rfl),rfl,om⟩|exact⟨by(rw[OI c1];try rfl),om⟩)) (hh:=by exact less_upd hnone (λq hq=>by simp only[upd];repeat rw[XW (by omega)])))
def LC(v:Vw)(r:Nat)(h:H)(n:Nat)(hv:h r=some ⟨101,[v.d]⟩)(hf:jf v.z.sets)(hq:ah v.q.name=true)(hu:aI v.q.name v.z.apex):dS prog 45 [.mptr r 0 0] h n (λd h' n'=>n<=n'/\((bZ v.z.sets v.q.name=true/\d = .tuple [.agg ((cB v 3).1.df (!(cB v 3).2)),.b (cB v 3).2]/\h'=h)\/(bZ v.z.sets v.q.name=false/\d = .tuple [.agg ((cB v 3).1.df (!(cB v 3).2)),.b (cB v 3).2]/\h'=upd h r (some ⟨101,[(⟨v.z,v.q,v.cut,v.beh,bI v.z v.q.name⟩:Vw).d]⟩)))):=by
 refine oP func45 λhnone ff=>?_
 unfold f45
 have hrn:r<n:=Nat.lt_of_not_le λq=>by(rw[hnone r q]at hv;cases hv)
 have ff:=qB @hv (nH n r) ff
 refine ae Dg ?_
 refine oM Dg ?_ ?_ (hok:=oz (qD (iN v) (λa1=>ja v a1 hf.1) (iZ v) (λa1=>fu v a1 hf.1))) (hq:=rfl)<;>intro c1
 .
  refine ae jH ?_ (hok:=oS (k:=by first|trivial|(repeat' with_reducible apply And.intro)<;>first|(intros;exact iN v _ _)|(intros;exact ja v _ hf.1)|(intros;exact iZ v)|(intros;exact fu v _ hf.1)|exact(λ_=>fu v _ hf.1)|exact ug v r _ ev hf 5 [(aC v.z.sets ⟨v.z.apex,4⟩),(bJ v.z.sets v.q.name)] (yx (jN _ _) (lK _ _)) (by simp)))
  exact oN (gN (h) (hr:=oS (k:=by refine⟨om,.inl ?_⟩;first|exact⟨c1,by(rw[Dm c1];try rfl),rfl⟩|exact⟨c1,by(rw[Dm c1];try rfl)⟩)) (hh:=by exact less_upd hnone (λq hq=>by simp only[upd];repeat rw[XW (by omega)])))
 refine ae Dg ?_ (hok:=oH (UL v hf.1 hq hu))
 refine ae Dg ?_
 exact oN (gN (upd h r (some ⟨101,[(⟨v.z,v.q,v.cut,v.beh,bI v.z v.q.name⟩:Vw).d]⟩)) (hr:=oS (k:=by refine⟨om,.inr ?_⟩;first|exact⟨c1,by(rw[GK c1];try rfl),rfl⟩|exact⟨c1,by(rw[GK c1];try rfl)⟩)) (hh:=by exact I1 hnone (by simp only[go_sem,ff]) (λq hq hq2=>by simp only[upd];repeat rw[XW (by omega)])))
def UN(v:Vw)(r:Nat)(h:H)(n:Nat)(hv:h r=some ⟨101,[v.d]⟩)(hf:jf v.z.sets)(hcut:v.beh=true->0<=aC v.z.sets ⟨v.cut,2⟩):dS prog 42 [.mptr r 0 0] h n (λd h' n'=>d = .tuple [.agg ((cB v 0).1.df (!(cB v 0).2)),.b (cB v 0).2]/\h'=h/\n<=n'):=by
 refine oP func42 λhnone ff=>?_
 unfold f42
 have hrn:r<n:=Nat.lt_of_not_le λq=>by(rw[hnone r q]at hv;cases hv)
 have ff:=qB @hv (nH n r) ff
 refine oC Dg ?_
 refine oM Dg ?_ ?_ (hq:=rfl)<;>intro c1
 . refine ae Dg ?_;exact oN (gN (h) (hr:=oS (k:=by first|exact⟨by(rw[GL c1];try rfl),rfl,om⟩|exact⟨by(rw[GL c1];try rfl),om⟩)) (hh:=by exact less_upd hnone (λq hq=>by simp only[upd];repeat rw[XW (by omega)])))
 have hb9:v.beh=true:=by revert c1;cases v.beh<;>simp
 have yH:(aC v.z.sets ⟨v.cut,2⟩).toNat<v.z.sets.length:=by have:=hcut hb9;have:=jN v.z.sets ⟨v.cut,2⟩;omega
 have hs8:0<=aC v.z.sets ⟨v.cut,2⟩:=hcut hb9
 have sV:=(hf.2 _ yH).1
 have ff:=qA (cZ yH) ff
 refine ae Dg ?_ (hok:=oz (qD (iN v) (λa1=>ja v a1 hf.1) (iZ v) (λa1=>fu v a1 hf.1)))
 refine ae Dg ?_ (hok:=oz (qD (iN v) (λa1=>ja v a1 hf.1) (iZ v) (λa1=>fu v a1 hf.1)))
 refine jnh (α:=Nat) [0,2,5] (λnx=>(n<nx)/\True) (λnx=>[(6,.i (ww v.z.sets v.cut))]) (λnx=>upd h n (some ⟨36,[[.v (.int .i64 0),.e,.v (.string (bs []))]]⟩)) (λnx=>nx) ?_ ?_
 .
  refine wE Dg ?_ ?_<;>intro c2
  .
   refine aA Dg ?_ (hok:=oz (qD (iN v) (λa1=>ja v a1 hf.1) (iZ v) (λa1=>fu v a1 hf.1)))
   have hpi:ww v.z.sets v.cut=aC v.z.sets ⟨v.cut,8⟩:=XY c2;have ff:=qA hpi ff;exact rnj _ (h1:=⟨iv,trivial⟩) (h5:=λ_=>.inl rfl)
  refine fB ?_;have hpi:ww v.z.sets v.cut=aC v.z.sets ⟨v.cut,6⟩:=XW c2;have ff:=qA hpi ff;exact rnj _ (h1:=⟨iv,trivial⟩) (h5:=λ_=>.inl rfl)
 rintro nx ⟨hx, -⟩
 simp only[XX,XZ]
 have hx2:r<nx:=by omega
 have ff:=qB @hx @hx2 ff
 refine ae vI ?_
 refine wA Dg ?_
 refine lph (α:=(Nat)×(Nat)×Nat) [0,2,77,78] (λ⟨k,p,nx⟩=>(k<=v.z.sets[(aC v.z.sets ⟨v.cut,2⟩).toNat]!.set.data.length)/\(p<nx)/\(n<p)/\True) (λ⟨k,p,nx⟩=>v.z.sets[(aC v.z.sets ⟨v.cut,2⟩).toNat]!.set.data.length-k) (λ⟨k,p,nx⟩=>[(7,.mrow p 0 (jb v.z.sets v.cut v.z.sets[(aC v.z.sets ⟨v.cut,2⟩).toNat]!.set.data (k)).length),(79,.i k)]) (λ⟨k,p,nx⟩=>upd (upd h n (some ⟨36,[[.v (.int .i64 0),.e,.v (.string (bs []))]]⟩)) p (some ⟨3,(jb v.z.sets v.cut v.z.sets[(aC v.z.sets ⟨v.cut,2⟩).toNat]!.set.data (k)).map iR⟩)) (λ⟨k,p,nx⟩=>nx) (0,(nx+2),_) (hA:=⟨iv,iv,iv,trivial⟩) (round:=?_) (sU:=by refine gu (gu (less_upd hnone (λq hq=>by simp only[upd];repeat rw[XW (by omega)])) ?_) ?_<;>first|(simp only[go_sem,ff];done)|(simp only[go_sem,ff];exact rfl))
 rintro⟨k,p,nx⟩ ⟨hk,hp,hp0, -⟩
 simp only[XX,XZ]
 have n0:n<nx:=by omega
 have n2:r<nx:=by omega
 have hpl9:=H8 v.z.sets v.cut v.z.sets[(aC v.z.sets ⟨v.cut,2⟩).toNat]!.set.data k
 have ff:=qG @hp @n0 @n2 (nH n r) (nH p r) (nH n p) ff
 have ff:=qA (pls_0 (l:=v.z.sets) (c:=v.cut) (ds:=v.z.sets[(aC v.z.sets ⟨v.cut,2⟩).toNat]!.set.data)) ff
 refine wH Dg ?_ ?_<;>intro c3
 .
  have hk2:k<v.z.sets[(aC v.z.sets ⟨v.cut,2⟩).toNat]!.set.data.length:=by simpa using c3
  have ff:=qA (mq hk2) ff;refine wB ?_;refine ae Dg ?_;refine wG Dg ?_ ?_ (hok:=oH IW) (hq:=rfl)<;>intro c4
  .
   refine aA Dg ?_ (hok:=oz (qD (iN v) (λa1=>ja v a1 hf.1) (iZ v) (λa1=>fu v a1 hf.1)))
   refine aA Dg ?_;have hst:=ZaJ (l:=v.z.sets) (c:=v.cut) (ds:=v.z.sets[(aC v.z.sets ⟨v.cut,2⟩).toNat]!.set.data) (k:=k) c4;have ff:=qA hst ff;refine ak (k+1,(nx+18),_) (h1:=⟨iv,iv,iv,trivial⟩) (h5:=?_);refine gu (gu (less_upd hnone (λq hq=>?_)) ?_) ?_
   .
    simp only[upd]
    repeat rw[XW (by omega)]
   . first|(simp only[go_sem,ff];done)|(simp only[go_sem,ff];exact rfl)|(simp only[upd];simp[*];done)
   first|(simp only[go_sem,ff];done)|(simp only[go_sem,ff];exact rfl)|(simp only[upd];simp[*];done)
  refine wC Dg ?_;have hst:=ZaK (l:=v.z.sets) (c:=v.cut) (ds:=v.z.sets[(aC v.z.sets ⟨v.cut,2⟩).toNat]!.set.data) (k:=k) c4;have ff:=qA hst ff;refine ak (k+1,p,_) (h1:=⟨iv,iv,iv,trivial⟩) (h5:=?_);refine gu (gu (less_upd hnone (λq hq=>?_)) ?_) ?_
  .
   simp only[upd]
   repeat rw[XW (by omega)]
  . first|(simp only[go_sem,ff];done)|(simp only[go_sem,ff];exact rfl)|(simp only[upd];simp[*];done)
  first|(simp only[go_sem,ff];done)|(simp only[go_sem,ff];exact rfl)|(simp only[upd];simp[*];done)
 have e8:k=v.z.sets[(aC v.z.sets ⟨v.cut,2⟩).toNat]!.set.data.length:=by omega
 subst e8
 refine aR ?_
 refine RP 7 p (rows:=(jb v.z.sets v.cut v.z.sets[(aC v.z.sets ⟨v.cut,2⟩).toNat]!.set.data v.z.sets[(aC v.z.sets ⟨v.cut,2⟩).toNat]!.set.data.length).map iR) (off:=0) (len:=(jb v.z.sets v.cut v.z.sets[(aC v.z.sets ⟨v.cut,2⟩).toNat]!.set.data v.z.sets[(aC v.z.sets ⟨v.cut,2⟩).toNat]!.set.data.length).length) ev ev (by simp) Zbl ?_
 rw[Yj,Yh (by simp)]
 refine ae jH ?_ (hok:=oS (k:=by first|trivial|(repeat' with_reducible apply And.intro)<;>first|(intros;exact iN v _ _)|(intros;exact ja v _ hf.1)|(intros;exact iZ v)|(intros;exact fu v _ hf.1)|exact(λ_=>fu v _ hf.1)|exact ug v r _ ev hf 4 (jb v.z.sets v.cut v.z.sets[(aC v.z.sets ⟨v.cut,2⟩).toNat]!.set.data v.z.sets[(aC v.z.sets ⟨v.cut,2⟩).toNat]!.set.data.length) (H7 _ _ _ _) (by have:=H8 v.z.sets v.cut v.z.sets[(aC v.z.sets ⟨v.cut,2⟩).toNat]!.set.data v.z.sets[(aC v.z.sets ⟨v.cut,2⟩).toNat]!.set.data.length;omega)))
 refine oC Dg ?_
 exact oN (gN (h) (hr:=oS (k:=by first|exact⟨by(rw[GM c1];try rfl),rfl,om⟩|exact⟨by(rw[GM c1];try rfl),om⟩)) (hh:=by exact less_upd hnone (λq hq=>by simp only[upd];repeat rw[XW (by omega)])))
variable [Dr]
def UU(v:Vw)(r:Nat)(h:H)(n:Nat)(hv:h r=some ⟨101,[v.d]⟩)(hf:jf v.z.sets):dS prog 44 [.mptr r 0 0] h n (λd h' n'=>d = .tuple [.agg ((cB v 2).1.df false),.b (cB v 2).2]/\h'=h/\n<=n'):=by
 refine oP func44 λhnone ff=>?_
 unfold f44
 have hrn:r<n:=Nat.lt_of_not_le λq=>by(rw[hnone r q]at hv;cases hv)
 have ff:=qB @hv (nH n r) ff
 refine ae Dg ?_
 refine ae Dg ?_ (hok:=oz (qD (iN v) (λa1=>ja v a1 hf.1) (iZ v) (λa1=>fu v a1 hf.1)))
 refine GV jH [⟨11,14⟩] ?_ (hok:=oS (k:=by first|trivial|(repeat' with_reducible apply And.intro)<;>first|(intros;exact iN v _ _)|(intros;exact ja v _ hf.1)|(intros;exact iZ v)|(intros;exact fu v _ hf.1)|exact(λ_=>fu v _ hf.1)|exact ug v r _ ev hf 3 [(aC v.z.sets ⟨v.q.name,3⟩)] (BL (jN _ _)) (by simp)))
 exact oN (gN (h) (hr:=oS (k:=by first|exact⟨rfl,rfl,om⟩|(refine⟨rfl,?_⟩;omega)|omega)) (hh:=by exact less_upd hnone (λq hq=>by simp only[upd];repeat rw[XW (by omega)])))
def UK(v:Vw)(r:Nat)(h:H)(n:Nat)(hv:h r=some ⟨101,[v.d]⟩)(hf:jf v.z.sets):dS prog 47 [.mptr r 0 0] h n (λd h' n'=>d = .tuple [.agg ((cB v 5).1.df false),.b (cB v 5).2]/\h'=h/\n<=n'):=by
 refine oP func47 λhnone ff=>?_
 unfold f47
 have hrn:r<n:=Nat.lt_of_not_le λq=>by(rw[hnone r q]at hv;cases hv)
 have ff:=qB @hv (nH n r) ff
 refine ae Dg ?_
 refine ae Dg ?_ (hok:=oz (qD (iN v) (λa1=>ja v a1 hf.1) (iZ v) (λa1=>fu v a1 hf.1)))
 refine GV jH [⟨18,21⟩] ?_ (hok:=oS (k:=by first|trivial|(repeat' with_reducible apply And.intro)<;>first|(intros;exact iN v _ _)|(intros;exact ja v _ hf.1)|(intros;exact iZ v)|(intros;exact fu v _ hf.1)|exact(λ_=>fu v _ hf.1)|exact ug v r _ ev hf 3 [(aC v.z.sets ⟨v.wc,3⟩),(bJ v.z.sets v.q.name)] (yx (jN _ _) (lK _ _)) (by simp)))
 exact oN (gN (h) (hr:=oS (k:=by first|exact⟨rfl,rfl,om⟩|(refine⟨rfl,?_⟩;omega)|omega)) (hh:=by exact less_upd hnone (λq hq=>by simp only[upd];repeat rw[XW (by omega)])))
def Zbx(z:Zon)(u:Qst)(hl:z.sets.length<=1000000)(h:H)(n:Nat):dS prog 41 [.agg z.d,.agg u.d] h n (λd h' n'=>∃r,d = .mptr r 0 0/\h'=upd h r (some ⟨101,[(⟨z,u,[],false,[]⟩:Vw).d]⟩)/\n<=r/\r<n'):=by
 refine oP func41 λhnone ff=>?_
 unfold f41
 have ff:=qG (nH n (n+1)) (nH n (n+10)) (nH n (n+13)) (nH (n+1) (n+10)) (nH (n+1) (n+13)) (nH (n+10) (n+13)) ff
 refine ae Dg ?_
 refine GV Dg [⟨1,7⟩,⟨3,7⟩,⟨7,8⟩] ?_
 refine wA Dg ?_
 refine zW (Nat×Nat) [5,20,21] (λ⟨k,nx⟩=>(k<=z.sets.length/\n+13<nx,z.sets.length-k,[(22,.i k)],upd (upd (upd (upd h n (some ⟨24,[z.d]⟩)) (n+1) (some ⟨27,[u.d]⟩)) (n+10) (some ⟨99,iT (nG (l8 z.sets k))⟩)) (n+13) (some ⟨101,[[.v (.string (bs z.apex)),.l (z.sets.map Sgd.d),.mp (n+10),.v (.string (bs u.name)),.i u.ty,.v (.string (bs [])),.b false,.v (.string (bs []))]]⟩),nx)) (0,_) ?_ (sU:=by exact λ_=>.inl rfl)
 rintro⟨k,nx⟩ ⟨hk,hx⟩
 simp only[XX,XZ]
 have n0:n<nx:=by omega
 have n1:n+1<nx:=by omega
 have n2:n+10<nx:=by omega
 have ff:=qE @hx @n0 @n1 @n2 ff
 refine wH Dg ?_ ?_<;>intro c1
 .
  have hk2:k<z.sets.length:=by simpa using c1
  have ff:=qB (cZ hk2) (Zch (l:=z.sets) (k:=k)) ff;refine wB ?_;refine ae Dg ?_;refine aA Dg ?_;refine aA Dg ?_;refine ak (k+1,_) (h5:=?_);refine gu (gu (gu (gu (less_upd hnone (λq hq=>?_)) ?_) ?_) ?_) ?_
  .
   simp only[upd]
   repeat rw[XW (by omega)]
  . first|(simp only[go_sem,ff];done)|(simp only[go_sem,ff];exact rfl)|(simp only[upd];simp[*];done)
  . first|(simp only[go_sem,ff];done)|(simp only[go_sem,ff];exact rfl)|(simp only[upd];simp[*];done)
  . first|(simp only[go_sem,ff];done)|(simp only[go_sem,ff];exact rfl)|(simp only[upd];simp[*];done)
  first|(simp only[go_sem,ff];done)|(simp only[go_sem,ff];exact rfl)|(simp only[upd];simp[*];done)
 have e8:k=z.sets.length:=by omega
 subst e8
 refine aR ?_
 refine Zen (n+13) 2 (n+10) ev rfl ev rfl om Zbh ?_
 simp only[Zk,Y9]
 refine ae Dg ?_
 exact oN (gN (upd h (n+13) (some ⟨101,[(⟨z,u,[],false,[]⟩:Vw).d]⟩)) (hr:=oS (k:=by exact⟨n+13,rfl,rfl,om,om⟩)) (hh:=by refine gu (less_upd hnone (λq hq=>?_)) ?_<;>simp only[upd]<;>(repeat rw[XW (by omega)])<;>rfl))
end Go.Proofs.YtdcenbhgholncaaGreatDoor
namespace Go.Proofs.YtdcenbhgholncaaGreatDoor
open Go.Proofs.Tryz
open Go.DL Go.Str Go.Rec Go.Zon Go.Cmp Go.Jn Go.RowKit
set_option maxRecDepth 10000
def Zbn(v:Vw)(r:Nat)(h:H)(n:Nat)(hv:h r=some ⟨101,[v.d]⟩)(hf:jf v.z.sets)(hq:ah v.q.name=true)(hu:aI v.q.name v.z.apex)(he:bZ v.z.sets v.q.name=true):dS prog 45 [.mptr r 0 0] h n (λd h' n'=>d = .tuple [.agg ((cB v 3).1.df (!(cB v 3).2)),.b (cB v 3).2]/\h'=h/\n<=n') :=
 (LC v r h n hv hf hq hu).mono λd h' n'⟨k1,k2⟩=>by
  rcases k2 with⟨_,k3,k4⟩|⟨k3,_⟩
  . exact⟨k3,k4,k1⟩
  rw[he]at k3;cases k3
def Zbo(v:Vw)(r:Nat)(h:H)(n:Nat)(hv:h r=some ⟨101,[v.d]⟩)(hf:jf v.z.sets)(hq:ah v.q.name=true)(hu:aI v.q.name v.z.apex)(he:bZ v.z.sets v.q.name=false):dS prog 45 [.mptr r 0 0] h n (λd h' n'=>d = .tuple [.agg ((cB v 3).1.df (!(cB v 3).2)),.b (cB v 3).2]/\h'=upd h r (some ⟨101,[(⟨v.z,v.q,v.cut,v.beh,bI v.z v.q.name⟩:Vw).d]⟩)/\n<=n') :=
 (LC v r h n hv hf hq hu).mono λd h' n'⟨k1,k2⟩=>by
  rcases k2 with⟨k3,_⟩|⟨_,k3,k4⟩
  . rw[he]at k3;cases k3
  exact⟨k3,k4,k1⟩
def Ze8{z:Zon}{s:Str}(hn:ah s=true)(hz:aN z=true)(hu:under s z.apex=true):fZ z s=((bE z s).1,(bE z s).2,0):=by
 unfold fZ;rw[hn,hz,hu];rfl
def Ze9{z:Zon}{s:Str}(hn:ah s=true)(hz:aN z=true)(hu:under s z.apex=false):fZ z s=([],false,20):=by
 unfold fZ;rw[hn,hz,hu];rfl
def Zfa{z:Zon}{s:Str}(h:(ah s&&aN z)=false):fZ z s=([],false,1):=by
 unfold fZ;rw[h];rfl
def Gv{z:Zon}{s a:Str}{b:Bool}{e:Int}(h:fZ z s=(a,b,e)):PureCt prog 12 [.agg z.d,.v (.string (bs s))] (.tuple [.v (.string (bs a)),.b b,.i e]):=by
 have:=Ur z s
 rwa [h]at this
theorem cut_at{z:Zon}(hz:aN z=true):∀f{n:Str},ah n=true->aI n z.apex->(mG z f n).2=true->0<=aC z.sets ⟨(mG z f n).1,2⟩
 | 0,n,_,_,h=>by cases h
 | f+1,n,hn,hu,h=>by
  rw[mG]at h ⊢
  by_cases e:n=z.apex
  . rw[XY e]at h;cases h
  rw[XW e]at h ⊢
  by_cases e2:eX z.sets ⟨n,2⟩=true
  . rw[XY e2];exact ZaQ hz hn e2
  rw[XW e2]at h ⊢;obtain⟨hr,hu2⟩:=uh hn hu e;exact cut_at hz f (nk hn hr).1 hu2 h
def Zgp{z:Zon}(hz:aN z=true):ah z.apex=true:=(zJ.1 (by unfold aN at hz;simp only[XT]at hz;exact hz.1.1.1.1.1)).apex
set_option maxHeartbeats 1000000 in
def Pn(z:Zon)(q:Qst):PureCt prog 11 [.agg z.d,.agg q.d] (.tuple [.agg (fK z q).1.d,.i (fK z q).2]):=by
 refine oO func11 λff=>?_
 unfold f11
 refine ae Dg ?_
 refine oM Dg ?_ ?_ (hq:=rfl)<;>intro c1
 .
  have hty:aW q.ty 1 8=false:=by(simp only[aW];revert c1;simp;omega)
  exact fr Dg (K:=2) (k:=by rw[fK,XY hty];rfl)
 have hty : ¬aW q.ty 1 8=false:=by(simp only[aW];revert c1;simp<;>omega)
 have h3:(ah q.name&&aN z)=false\/(ah q.name=true/\aN z=true/\under q.name z.apex=false)\/(ah q.name=true/\aN z=true/\under q.name z.apex=true):=by(cases ah q.name<;>cases aN z<;>cases under q.name z.apex<;>simp)
 rcases h3 with hA|⟨hn,hz,hu0⟩|⟨hn,hz,hu0⟩
 .
  have hcr:=Zfa hA;have ff:=qA @hcr ff;refine ae Dg ?_ (hok:=oF (Gv hcr));refine oM Dg ?_ ?_ (hq:=rfl)<;>intro c2
  . simp at c2
  refine aU ?_;refine wG Dg ?_ ?_ (hq:=rfl)<;>intro c3
  . exact fr Dg (K:=2) (k:=by rw[fK,XW hty,hcr];rfl)
  simp at c3
 .
  have hcr:=Ze9 hn hz hu0;have ff:=qA @hcr ff;refine ae Dg ?_ (hok:=oF (Gv hcr));refine aU ?_;refine wG Dg ?_ ?_ (hq:=rfl)<;>intro c2
  . exact fr Dg (K:=2) (k:=by rw[fK,XW hty,hcr];rfl)
  simp at c2
 have hcr:=Ze8 hn hz hu0
 have hu:=(zi hn (Zgp hz)).1 hu0
 have hf:=De hz
 have hR:fK z q=(CX z q,0):=by unfold fK;rw[XW hty,hcr];rfl
 have ff:=qA @hcr ff
 refine ae Dg ?_ (hok:=oF (Gv hcr))
 refine oM Dg ?_ ?_ (hq:=rfl)<;>intro c2
 . simp at c2
 refine oM Dg ?_ ?_ (hq:=rfl)<;>intro c3
 . simp at c3
 refine aU (ib Dg 2 (hct:=by exact Zbx z q hf.1 _ _) (hk:=?_))
 rintro res h2 n2 ⟨r,rfl,rfl,hr1,hr2⟩
 try dsimp only at hr1 hr2
 have hr3:3<=r:=by omega
 have ff:=qG (nH 0 1) (nH 0 2) (nH 0 r) (nH 1 2) (nH 1 r) (nH 2 r) ff
 refine gZ Dg ?_
 refine oC Dg ?_
 refine wA Dg ?_
 refine lq (Nat×Str×Nat) [4,9,65,66] (λ⟨k,w,nx⟩=>(k<=7/\r<nx/\(w=if k<=3 then[]else bI z q.name)/\CX z q=iL z q (7-k) k,7-k,[(67,.i k)],[(0,⟨24,[z.d]⟩),(1,⟨27,[q.d]⟩),(2,⟨36,[[.v (.int .i64 0),.e,.v (.string (bs []))]]⟩),(r,⟨101,[(⟨z,q,(bE z q.name).1,(bE z q.name).2,w⟩:Vw).d]⟩)],nx)) (0,[],_) ?_
 rintro⟨k,w,nx⟩ ⟨hk,hx,hw,ha⟩
 simp only[XX,XZ]
 have n0:0<nx:=by omega
 have n1:1<nx:=by omega
 have n2:2<nx:=by omega
 have ff:=qE @hx @n0 @n1 @n2 ff
 refine wH Dg ?_ ?_ (hq:=rfl)<;>intro c4
 .
  have lF:k<7:=by(have h9:=c4;simp at h9;omega)
  have hev:(⟨z,q,(bE z q.name).1,(bE z q.name).2,w⟩:Vw)=fF z q k:=by rw[hw];rfl
  refine wB ?_;have h7:k=0\/k=1\/k=2\/(k=3/\bZ z.sets q.name=true)\/(k=3/\bZ z.sets q.name=false)\/k=4\/k=5\/k=6:=by(cases bZ z.sets q.name<;>simp<;>omega)
  rcases h7 with e0|e0|e0|⟨e0,hex⟩|⟨e0,hex⟩|e0|e0|e0
  .
   have ff:=qA @e0 ff;refine ae Dg ?_;refine aU (ib Dg 1 (hct:=by exact UN (⟨z,q,(bE z q.name).1,(bE z q.name).2,w⟩:Vw) r _ _ ev hf (λh9=>cut_at hz _ hn hu h9)) (hk:=?_))
   rintro res h2 n2 ⟨rfl,rfl,hn2⟩
   try dsimp only at hn2
   have q0:0<n2:=by omega
   have q1:1<n2:=by omega
   have q2:2<n2:=by omega
   have q3:r<n2:=by omega
   have ff:=qE @q0 @q1 @q2 @q3 ff;refine gZ Dg ?_;refine wG Dg ?_ ?_ (hq:=rfl)<;>intro c5
   . exact fr Dg (K:=2) (k:=by rw[hR,ha,wZ lF (by rw[<-hev,e0];exact c5),<-hev,e0];try rfl)
   refine wC Dg ?_;exact ak (k+1,w,_) (h1:=⟨iv,iv,(by first|(rw[hw,e0];rfl)|(dsimp only;rw[hw,e0];rfl)),(by(try dsimp only);rw[ha,yP lF (by rw[<-hev,e0];exact c5)])⟩)
  .
   have ff:=qA @e0 ff;refine ae Dg ?_;refine aU (ib Dg 1 (hct:=by exact UR (⟨z,q,(bE z q.name).1,(bE z q.name).2,w⟩:Vw) r _ _ ev hf) (hk:=?_))
   rintro res h2 n2 ⟨rfl,rfl,hn2⟩
   try dsimp only at hn2
   have q0:0<n2:=by omega
   have q1:1<n2:=by omega
   have q2:2<n2:=by omega
   have q3:r<n2:=by omega
   have ff:=qE @q0 @q1 @q2 @q3 ff;refine gZ Dg ?_;refine wG Dg ?_ ?_ (hq:=rfl)<;>intro c5
   . exact fr Dg (K:=2) (k:=by rw[hR,ha,wZ lF (by rw[<-hev,e0];exact c5),<-hev,e0];try rfl)
   refine wC Dg ?_;exact ak (k+1,w,_) (h1:=⟨iv,iv,(by first|(rw[hw,e0];rfl)|(dsimp only;rw[hw,e0];rfl)),(by(try dsimp only);rw[ha,yP lF (by rw[<-hev,e0];exact c5)])⟩)
  .
   have ff:=qA @e0 ff;refine ae Dg ?_;refine aU (ib Dg 1 (hct:=by exact UU (⟨z,q,(bE z q.name).1,(bE z q.name).2,w⟩:Vw) r _ _ ev hf) (hk:=?_))
   rintro res h2 n2 ⟨rfl,rfl,hn2⟩
   try dsimp only at hn2
   have q0:0<n2:=by omega
   have q1:1<n2:=by omega
   have q2:2<n2:=by omega
   have q3:r<n2:=by omega
   have ff:=qE @q0 @q1 @q2 @q3 ff;refine gZ Dg ?_;refine wG Dg ?_ ?_ (hq:=rfl)<;>intro c5
   . exact fr Dg (K:=2) (k:=by rw[hR,ha,wZ lF (by rw[<-hev,e0];exact c5),<-hev,e0];try rfl)
   refine wC Dg ?_;exact ak (k+1,w,_) (h1:=⟨iv,iv,(by first|(rw[hw,e0];rfl)|(dsimp only;rw[hw,e0];rfl)),(by(try dsimp only);rw[ha,yP lF (by rw[<-hev,e0];exact c5)])⟩)
  .
   have ff:=qA @e0 ff;refine ae Dg ?_;refine aU (ib Dg 1 (hct:=by exact Zbn (⟨z,q,(bE z q.name).1,(bE z q.name).2,w⟩:Vw) r _ _ ev hf hn hu hex) (hk:=?_))
   rintro res h2 n2 ⟨rfl,rfl,hn2⟩
   try dsimp only at hn2
   have q0:0<n2:=by omega
   have q1:1<n2:=by omega
   have q2:2<n2:=by omega
   have q3:r<n2:=by omega
   have ff:=qE @q0 @q1 @q2 @q3 ff;refine gZ Dg ?_;refine wG Dg ?_ ?_ (hq:=rfl)<;>intro c5
   . exact fr Dg (K:=2) (k:=by rw[hR,ha,wZ lF (by rw[<-hev,e0];exact c5),<-hev,e0];try rfl)
   rw[Dm (by exact hex)]at c5;simp at c5
  .
   have ff:=qA @e0 ff;refine ae Dg ?_;refine aU (ib Dg 1 (hct:=by exact Zbo (⟨z,q,(bE z q.name).1,(bE z q.name).2,w⟩:Vw) r _ _ ev hf hn hu hex) (hk:=?_))
   rintro res h2 n2 ⟨rfl,rfl,hn2⟩
   try dsimp only at hn2
   have q0:0<n2:=by omega
   have q1:1<n2:=by omega
   have q2:2<n2:=by omega
   have q3:r<n2:=by omega
   have ff:=qE @q0 @q1 @q2 @q3 ff;refine gZ Dg ?_;refine wG Dg ?_ ?_ (hq:=rfl)<;>intro c5
   . exact fr Dg (K:=2) (k:=by rw[hR,ha,wZ lF (by rw[<-hev,e0];exact c5),<-hev,e0];try rfl)
   refine wC Dg ?_;exact ak (k+1,bI z q.name,_) (h1:=⟨iv,iv,(by first|(rw[e0];rfl)|(dsimp only;rw[e0];rfl)),(by(try dsimp only);rw[ha,yP lF (by rw[<-hev,e0];exact c5)])⟩)
  .
   have ff:=qA @e0 ff;refine ae Dg ?_;refine aU (ib Dg 1 (hct:=by exact UJ (⟨z,q,(bE z q.name).1,(bE z q.name).2,w⟩:Vw) r _ _ ev hf) (hk:=?_))
   rintro res h2 n2 ⟨rfl,rfl,hn2⟩
   try dsimp only at hn2
   have q0:0<n2:=by omega
   have q1:1<n2:=by omega
   have q2:2<n2:=by omega
   have q3:r<n2:=by omega
   have ff:=qE @q0 @q1 @q2 @q3 ff;refine gZ Dg ?_;refine wG Dg ?_ ?_ (hq:=rfl)<;>intro c5
   . exact fr Dg (K:=2) (k:=by rw[hR,ha,wZ lF (by rw[<-hev,e0];exact c5),<-hev,e0];try rfl)
   refine wC Dg ?_;exact ak (k+1,w,_) (h1:=⟨iv,iv,(by first|(rw[hw,e0];rfl)|(dsimp only;rw[hw,e0];rfl)),(by(try dsimp only);rw[ha,yP lF (by rw[<-hev,e0];exact c5)])⟩)
  .
   have ff:=qA @e0 ff;refine ae Dg ?_;refine aU (ib Dg 1 (hct:=by exact UK (⟨z,q,(bE z q.name).1,(bE z q.name).2,w⟩:Vw) r _ _ ev hf) (hk:=?_))
   rintro res h2 n2 ⟨rfl,rfl,hn2⟩
   try dsimp only at hn2
   have q0:0<n2:=by omega
   have q1:1<n2:=by omega
   have q2:2<n2:=by omega
   have q3:r<n2:=by omega
   have ff:=qE @q0 @q1 @q2 @q3 ff;refine gZ Dg ?_;refine wG Dg ?_ ?_ (hq:=rfl)<;>intro c5
   . exact fr Dg (K:=2) (k:=by rw[hR,ha,wZ lF (by rw[<-hev,e0];exact c5),<-hev,e0];try rfl)
   refine wC Dg ?_;exact ak (k+1,w,_) (h1:=⟨iv,iv,(by first|(rw[hw,e0];rfl)|(dsimp only;rw[hw,e0];rfl)),(by(try dsimp only);rw[ha,yP lF (by rw[<-hev,e0];exact c5)])⟩)
  have ff:=qA @e0 ff;refine ae Dg ?_;refine aU (ib Dg 1 (hct:=by exact UI (⟨z,q,(bE z q.name).1,(bE z q.name).2,w⟩:Vw) r _ _ ev hf) (hk:=?_))
  rintro res h2 n2 ⟨rfl,rfl,hn2⟩
  try dsimp only at hn2
  have q0:0<n2:=by omega
  have q1:1<n2:=by omega
  have q2:2<n2:=by omega
  have q3:r<n2:=by omega
  have ff:=qE @q0 @q1 @q2 @q3 ff;refine gZ Dg ?_;refine wG Dg ?_ ?_ (hq:=rfl)<;>intro c5
  . exact fr Dg (K:=2) (k:=by rw[hR,ha,wZ lF (by rw[<-hev,e0];exact c5),<-hev,e0];try rfl)
  refine wC Dg ?_;exact ak (k+1,w,_) (h1:=⟨iv,iv,(by first|(rw[hw,e0];rfl)|(dsimp only;rw[hw,e0];rfl)),(by(try dsimp only);rw[ha,yP lF (by rw[<-hev,e0];exact c5)])⟩)
 have e8:k=7:=by(have h9:=c4;simp at h9;omega)
 have hev:(⟨z,q,(bE z q.name).1,(bE z q.name).2,w⟩:Vw)=fF z q k:=by rw[hw];rfl
 rw[e8]at hev
 refine aR ?_
 refine aU (ib Dg 1 (hct:=by exact UO (⟨z,q,(bE z q.name).1,(bE z q.name).2,w⟩:Vw) r _ _ ev hf) (hk:=?_))
 rintro res h2 n2 ⟨rfl,rfl,hn2⟩
 refine gZ Dg ?_
 exact fo 2 (k:=by rw[hR,ha,e8,Zc6,<-hev];try rfl)
variable [Dr]
def Ma(k:aD):PureCt prog 34 [.agg k.d] (.b (vU k)):=by
 refine oO func34 λff=>?_
 unfold f34
 refine ae Dg ?_
 exact fr Dg (k:=by simp[vU,aW,Zp])
def L9(f:Int)(u:Int):PureCt prog 33 [.i f,.i u] (.b (pQ f u)):=by
 refine oO func33 λff=>?_
 unfold f33
 refine ae Dg ?_
 exact fr Dg (k:=by simp[pQ,Zp])
def Xn(a:aD)(b:aD):PureCt prog 36 [.agg a.d,.agg b.d] (.i (Go.Rec.cmpI a.n b.n)):=by
 refine oO func36 λff=>?_
 unfold f36
 refine ae Dg ?_
 exact ft Dg (hok:=oH FZ)
def Xy(a:eH)(b:eH)(ha:jf a.sets):PureCt prog 21 [.agg a.d,.agg b.d] (.b (Bi a b)):=by
 refine oO func21 λff=>?_
 unfold f21
 refine ae Dg ?_
 refine ae Dg ?_ (hok:=oH (Xx _ _ ha))
 exact fr Dg (k:=by rw[show(a.cut==b.cut)=decide (a.cut=b.cut)by(rw[YS];simp),Bi];rfl)
def ow(x:Int)(i:Nat):List D:=(List.range 8).map λj=>.v (.int .u8 (if j<i then((mI (uN x) (56-8*j)).toNat:Int)else 0))
def XN(x:Int):[D.v (.int .u8 0),.v (.int .u8 0),.v (.int .u8 0),.v (.int .u8 0),.v (.int .u8 0),.v (.int .u8 0),.v (.int .u8 0),.v (.int .u8 0)]=ow x 0:=rfl
theorem Bn(x:Int)(i:Nat):(ow x i).length=8:=rfl
def MV(x:Int)(i:Nat):(ow x i).all D.one=true:=rfl
def XJ(x:Int)(i:Nat):∀d∈ow x i,∃v:Value,d = .v v/\v.oneCell'=true:=λd hd=>by
 obtain⟨j,_,rfl⟩:=Yi.1 hd
 exact⟨_,rfl,rfl⟩
theorem XK{x:Int}{i:Nat}(h:i<8):(ow x i).set i (.v (.int .u8 ((mI (uN x) (56-8*i)).toNat:Int)))=ow x (i+1):=by
 unfold ow
 refine List.ext_getElem (by simp) λj h1 h2=>?_
 rw[List.getElem_set]
 simp only[List.getElem_map,List.getElem_range]
 by_cases e:i=j
 . subst e;rw[XY rfl,XY (Nat.lt_succ_self _)]
 rw[XW e]
 by_cases e2:j<i
 . rw[XY e2,XY (Nat.lt_succ_of_lt e2)]
 rw[XW e2,XW (by omega)]
def XL{x:Int}{i:Nat}(h:i<8):List.take (i*1) (ow x i)++[.v (.int .u8 ((mI (uN x) (56-8*i)).toNat:Int))]++List.drop (i*1+1) (ow x i)=ow x (i+1):=by
 rw[<-XK h,List.set_eq_take_append_cons_drop,XY (by rw[Bn];exact h),Nat.mul_one,YW]
 rfl
theorem XM(x:Int):((ow x 8).map λd=>[d])=(dI x).map bD:=rfl
theorem Zgf{l:List Int}{d k:Nat}(h:k<l.length):((l.take (k+1)).flatMap dI).foldl eZ d=(dI l[k]!).foldl eZ (((l.take k).flatMap dI).foldl eZ d):=by
 rw[zm! h,List.flatMap_append,Y8]
 simp
def Zb4{n:Nat}(h:n<=60):IntKind.u8.wrap (n:Int)=((nE n).toNat:Int):=by
 rw[IntKind.wrap_u8]
 unfold nE
 rw[UInt8.toNat_ofNat']
 omega
def Zbf(l:List Int)(d:Nat)(h:H)(n W:Nat)(hW:h W=some ⟨256,[[.v (.int .u64 ((d:Nat):Int))]]⟩)(hd:d<18446744073709551616)(hl:l.length<=1000):dS prog 199 [.l (l.map iR),.mptr W 0 0] h n (λx h' n'=>h'=upd h W (some ⟨256,[[.v (.int .u64 (((l.flatMap dI).foldl eZ d:Nat):Int))]]⟩)/\n<=n'):=by
 refine oP func199 λhnone ff=>?_
 unfold f199
 have hWn:W<n:=Nat.lt_of_not_le λq=>by(rw[hnone W q]at hW;cases hW)
 have ff:=qA @hW ff
 refine ae Dg ?_
 refine dO ?_
 refine zW (Nat×Nat) [1,7,8] (λ⟨k,nx⟩=>(k<=l.length/\n<=nx,l.length-k,[(9,.i k)],upd h W (some ⟨256,[[.v (.int .u64 ((((l.take k).flatMap dI).foldl eZ d:Nat):Int))]]⟩),nx)) (0,_) ?_ (sU:=by intro q;left;show upd h W (some ⟨256,[[.v (.int .u64 ((d:Nat):Int))]]⟩) q=h q;by_cases e:q=W;subst e;rw[bK];exact hW.symm;rw[aL _ _ _ _ e])
 rintro⟨k,nx⟩ ⟨hk,hn⟩
 simp only[XX,XZ]
 have hWx:W<nx:=by omega
 have ff:=qA @hWx ff
 refine wH Dg ?_ ?_<;>intro c1
 .
  have hk2:k<l.length:=by simpa using c1
  have hdl:=Au ((l.take k).flatMap dI) hd;have hdl2:=Au ((l.take (k+1)).flatMap dI) hd;have ff:=qE (Fe hk2) (XN l[k]!) (Bn l[k]! 0) (MV l[k]! 0) ff;refine wB ?_;refine oC Dg ?_;refine wA Dg ?_;refine zW (Nat×Nat×Nat) [1,4,7,8,9] (λ⟨i,b,nx⟩=>(i<=8/\b<nx/\n<=b,8-i,[(5,.mptr b 0 0),(13,.i i)],upd (upd h W (some ⟨256,[[.v (.int .u64 ((((l.take k).flatMap dI).foldl eZ d:Nat):Int))]]⟩)) b (some ⟨257,[ow l[k]! i]⟩),nx)) (0,(nx+4),_) ?_ (sU:=by exact λ_=>.inl rfl)
  rintro⟨i,b,nx⟩ ⟨hi,hb,hbW⟩;simp only[XX,XZ];have hWx:W<nx:=by omega
  have ff:=qD @hWx @hb (nH W b) ff;refine wH Dg ?_ ?_ (hq:=rfl)<;>intro c2
  .
   have hi2:i<8:=by(have h9:=c2;simp at h9;omega)
   have e5:((56:Int)-8*(i:Int)).toNat=56-8*i:=by omega
   have hnw:=Oy l[k]! (56-8*i) (by omega)
   have hrs:=XL (x:=l[k]!) hi2;have hr8:=Bn l[k]! i;have ff:=qF @e5 @hnw @hrs (Bn l[k]! i) (MV l[k]! i) ff;refine wB ?_;refine ae Dg ?_;refine aA Dg ?_;refine aA Dg ?_;refine ak (i+1,b,_) (h5:=?_);refine gu (I1 hnone ?_ (λq hq hq2=>?_)) ?_
   . first|(simp only[go_sem,ff];done)|(simp only[go_sem,ff];exact rfl)
   .
    simp only[upd]
    repeat rw[XW (by omega)]
   first|(simp only[go_sem,ff];done)|(simp only[go_sem,ff];exact rfl)
  have e7:i=8:=by(have h9:=c2;simp at h9;omega)
  subst e7;refine aR ?_;refine sgr ?_;refine Zc5 Dg 0 (m:=8) (e:=5) (row:=ow l[k]! 8) ?_ (Bn _ _) (XJ _ _);rw[XM];refine MN (C:=Dg) 1 (R:=_) (by omega) (pK rfl) rfl rfl (by simp only[Yv,Yj,YC,Y1,S.put,Zu,Nat.reduceSub,go_sem,ff];first|done|exact rfl) ?_ ?_ ev (by simp only[go_sem,ff]) ev (by exact FP (dI l[k]!) (((l.take k).flatMap dI).foldl eZ d) _ _ W (by simp only[go_sem,ff];first|done|rfl) hdl (by rw[pJ];omega)) ?_
  .
   try simp only[go_sem,ff]
   all_goals (exact ok0)
  .
   try simp only[go_sem,ff]
   all_goals (first|done|rfl|decide|simp)
  rintro res h2 n2 ⟨rfl,hn2⟩;refine qx Dg ?_
  try simp only[gG]
  refine aA Dg ?_;refine ak (k+1,_) (h5:=?_);refine I1 hnone ?_ (λq hq hq2=>?_)
  . rw[Zgf hk2];first|(simp only[go_sem,ff];done)|(simp only[go_sem,ff];exact rfl)
  simp only[upd]
  repeat rw[XW (by omega)]
 have e8:k=l.length:=by omega
 subst e8
 refine aR ?_
 exact gN (upd h W (some ⟨256,[[.v (.int .u64 (((l.flatMap dI).foldl eZ d:Nat):Int))]]⟩)) (hr:=oS (k:=by first|omega|exact⟨rfl,om⟩)) (hh:=by rw[Zq];exact yz _)
theorem Vi(b zn:Str)(k:aD)(f u:Int):zo b zn k f u=([k.n,k.a,f,u].flatMap dI).foldl eZ (zn.foldl eZ ([nE zn.length].foldl eZ (b.foldl eZ yZ))):=by
 unfold zo dig
 rw[<-Y8,<-Y8,<-Y8]
 congr 1
 simp
theorem Zfl(zn:Str):((bs zn).data.toList.map vQ)=zn.map bD:=by rw[kR];rfl
theorem G8{s:RSet}{zn:Str}{k:aD}{f u:Int}(h:xQ s zn k f u=false):gF s zn k f u=(G9,1):=XW (by rw[h];decide)
theorem Wh{s:RSet}{zn:Str}{k:aD}{f u:Int}(h:xQ s zn k f u=true):gF s zn k f u=(MC s zn k f u,0):=XY h
def ZfT{s:RSet}(h:(nV s).2=0):(nV s).1.length<=1000:=by
 unfold nV at h ⊢
 by_cases e:di s=true
 . rw[XY e];exact WP ((iB s).1 e)
 rw[XW e]at h;cases h
def VF(b:Str)(zn:Str)(k:aD)(f:Int)(u:Int)(hb:b.length<=1000000)(hz:zn.length<=60):PureCt prog 125 [.l (b.map bD),.v (.string (bs zn)),.agg k.d,.i f,.i u] (.v (.int .u64 ((zo b zn k f u:Nat):Int))):=by
 refine oO func125 λff=>?_
 unfold f125
 have hd1:=Au b (d:=yZ) (by decide)
 have hd2:=Au [nE zn.length] hd1
 have hd3:=Au zn hd2
 have hlb:=Zb4 hz
 have ff:=qA @hlb ff
 refine oD Dg ?_
 refine aU (ib Dg 1 (hct:=by exact FP b yZ _ _ _ (by simp only[go_sem,ff];first|done|rfl) (by decide) om) (hk:=?_))
 rintro res h2 n2 ⟨rfl,hn2⟩
 refine gZ Dg ?_
 refine aU (ib Dg 4 (hct:=by exact FP [nE zn.length] (b.foldl eZ yZ) _ _ _ (by simp only[go_sem,ff];first|done|rfl) hd1 (by simp)) (hk:=?_))
 rintro res h2 n2 ⟨rfl,hn3⟩
 refine gZ Dg ?_
 refine um ?_
 refine gconv Dg 1 (sb:=bs zn) (u:=.string) (e:=5) ?_ (by rw[ZfX];omega)
 rw[Zfl]
 refine MN (C:=Dg) 2 (R:=_) om (pK rfl) rfl rfl (by simp only[Yv,Yj,YC,Y1,S.put,Zu,Nat.reduceSub,go_sem,ff];first|done|exact rfl) ?_ ?_ ev (by simp only[go_sem,ff]) ev (by exact FP zn ([nE zn.length].foldl eZ (b.foldl eZ yZ)) _ _ _ (by simp only[go_sem,ff];first|done|rfl) hd2 om) ?_
 .
  try simp only[go_sem,ff]
  all_goals (exact ok0)
 .
  try simp only[go_sem,ff]
  all_goals (first|done|rfl|decide|simp)
 rintro res h4 n4 ⟨rfl,hn4⟩
 refine qx Dg ?_
 try simp only[gG]
 refine aU (ib Dg 8 (hct:=by exact Zbf [k.n,k.a,f,u] (zn.foldl eZ ([nE zn.length].foldl eZ (b.foldl eZ yZ))) _ _ _ (by simp only[go_sem,ff];first|done|rfl) hd3 (by simp)) (hk:=?_))
 rintro res h2 n2 ⟨rfl,hn5⟩
 refine gZ Dg ?_
 exact fr Dg (k:=by rw[Vi];try rfl)
def VG(s:RSet)(zn:Str)(k:aD)(f:Int)(u:Int):PureCt prog 40 [.agg s.d,.v (.string (bs zn)),.agg k.d,.i f,.i u] (.tuple [.agg (gF s zn k f u).1.d,.i (gF s zn k f u).2]):=by
 refine oO func40 λff=>?_
 unfold f40
 refine ae Dg ?_
 refine oK Dg ?_ ?_ (hok:=oa4 @Ma @L9 @sO @E5)<;>intro c1
 . exact fr Dg (K:=2) (k:=by rw[G8 (by unfold xQ;rw[<-vO];grind)];try rfl)
 refine ae Dg ?_ (hok:=oF (Zao _))
 refine oK Dg ?_ ?_<;>intro c2
 . exact fr Dg (K:=2) (k:=by rw[G8 (by unfold xQ;rw[<-vO];grind)];try rfl)
 refine aU ?_
 refine ae Dg ?_ (hok:=oF (wO _ _))
 refine wE Dg ?_ ?_<;>intro c3
 . exact fr Dg (K:=2) (k:=by rw[G8 (by unfold xQ;rw[<-vO];grind)];try rfl)
 refine fB ?_
 have hb9:(nV s).1.length<=1000000:=Nat.le_trans (ZfT (by grind)) om
 have hz9:=fT (l:=zn) (by grind)
 exact fr Dg (K:=2) (hok:=oF (VF _ _ _ _ _ hb9 hz9)) (k:=by rw[Wh (by unfold xQ;rw[<-vO];grind)];try rfl)
def ZaY{z:Zon}(hz:aN z=true){k:Nat}(hk:k<z.sets.length)(hm:jQ (bX z z.sets.length) z.sets[k]!.set.name=true):(bU (bX z z.sets.length) z.sets (k+1)).2=z.sets[k]!.set.name:=by
 obtain⟨j,hj,hty,hna,hjn⟩:=Kv.1 hm
 have hO:=Db hz
 have bj:=CV hO hj
 have e:=TI (hjn▸bj) (CV hO hk)
 have hc:kQ (aO z)=true:=by unfold aN at hz;simp only[Bool.and_eq_true]at hz;grind
 unfold kQ at hc
 have hc:=(fe _ _ _).1 hc j (Yl _) hj
 unfold cutAt at hc
 have hb:(iK z)[j]! ≠ []:=by
  rcases bj with⟨_,k1⟩|⟨k1,_⟩
  . exact absurd (ko _) (k1 _ ⟨j,hj,hty,hna,rfl⟩)
  exact k1
 have e2:(iK z)[j]! = z.sets[j]!.set.name:=by
  by_cases q:(iK z)[j]! = z.sets[j]!.set.name
  . exact q
  have hc:(let t:=z.sets[j]!.set.ty;if(iK z)[j]! = []then !decide (t=6)else if(iK z)[j]! = z.sets[j]!.set.name then decide (t=2)||decide (t=6)||decide (t=8)||decide (t=1)else decide (t=1))=true:=hc
  rw[XW hb,XW q,hty]at hc
  cases hc
 rw[<-KT _ _ _ _ hk]
 show(iK z)[k]! = _
 rw[<-e,e2,hjn]
theorem p9{z:Zon}{k:Nat}{c:Str}(h:k<z.sets.length)(hc:(bU (bX z z.sets.length) z.sets (k+1)).2=c):jO (aO z) k=(c==[]||(!decide (z.sets[k]!.set.ty=2) && !decide (z.sets[k]!.set.ty=1))):=by
 unfold jO aO
 show((iK z)[k]! == []||_)=_
 unfold iK
 rw[KT _ _ _ _ h,hc]
def ZaX(z:Zon):List.take z.sets.length ((kz (aO z) z.sets.length z.sets.length).map bR)=(kG (aO z) z.sets.length).map bR:=by
 rw[MU];exact Yh (by rw[YY,qZ];exact X4 _)
def VT(z:Zon)(hz:aN z=true):PureCt prog 38 [.agg z.d] (.l ((kG (aO z) z.sets.length).map bR)):=by
 refine oO func38 λff=>?_
 unfold f38
 have hl:=wN hz
 refine oC Dg ?_
 refine wA Dg ?_
 refine lq (Nat×Nat) [1,3,14,15] (λ⟨k,nx⟩=>(k<=z.sets.length/\2<nx,z.sets.length-k,[(16,.i k)],[(0,⟨24,[z.d]⟩),(2,⟨168,iT (qi (bX z (k)))⟩)],nx)) (0,_) ?_
 rintro⟨k,nx⟩ ⟨hk,hx⟩
 simp only[XX,XZ]
 have n0:0<nx:=by omega
 have ff:=qB @hx @n0 ff
 refine wH Dg ?_ ?_<;>intro c1
 .
  have hk2:k<z.sets.length:=by simpa using c1
  have ff:=qA (cZ hk2) ff;refine wB ?_;refine ae Dg ?_;refine wE Dg ?_ ?_<;>intro c2
  .
   refine aA Dg ?_;refine aA Dg ?_;have ff:=qA (Kl (z:=z) (k:=k) (by grind)) ff
   exact ak (k+1,_)
  refine wC Dg ?_;have ff:=qA (Km (z:=z) (k:=k) (by grind)) ff
  exact ak (k+1,_)
 have e8:k=z.sets.length:=by omega
 subst e8
 refine aR ?_
 refine Kc 3 2 ev ev rfl OA ?_
 refine oC Dg ?_
 refine wA Dg ?_
 refine lq (Nat×Str×Nat×Nat) [3,42,43] (λ⟨k,cut,rb,nx⟩=>(k<=z.sets.length/\rb<nx/\2<rb/\cut=(bU (bX z z.sets.length) z.sets k).2,z.sets.length-k,[(6,.mrow rb 0 z.sets.length),(7,.v (.string (bs cut))),(44,.i k)],[(0,⟨24,[z.d]⟩),(rb,⟨4,(kz (aO z) z.sets.length (k)).map bR⟩)],nx)) (0,[],(nx+4),_) ?_
 rintro⟨k,cut,rb,nx⟩ ⟨hk,hx,hbr,hc⟩
 simp only[XX,XZ]
 have n0:0<nx:=by omega
 have ff:=qD @hx @n0 (nH 0 rb) ff
 refine wH Dg ?_ ?_<;>intro c3
 .
  have hk2:k<z.sets.length:=by simpa using c3
  have ff:=qD (cZ hk2) (zD (x:=aO z) hk) (Ff (l:=kz (aO z) z.sets.length k) (n:=k) (by rw[zD hk];exact hk2)) ff
  refine wB ?_;refine ae Dg ?_;refine aU ?_;refine wE Dg ?_ ?_<;>intro c4
  . refine aA Dg ?_;refine aA Dg ?_;refine aA Dg ?_;have hcc:=ZaY hz hk2 c4;have ff:=qA hcc ff;exact ak (k+1,(bU (bX z z.sets.length) z.sets (k+1)).2,rb,_) (h3:=by(try simp only[go_sem,ff]);all_goals (first|done|exact congrArg (λq=>some (ax.mk 4 q)) (l6 hk2 (by rw[p9 hk2 hcc];grind))|(simp;done))) (h4:=by(try simp only[go_sem,ff]);all_goals (first|done|exact congrArg (λq=>some (ax.mk 4 q)) (l6 hk2 (by rw[p9 hk2 hcc];grind))|(simp;done))) (h5:=by(try simp only[go_sem,ff]);all_goals (first|done|exact congrArg (λq=>some (ax.mk 4 q)) (l6 hk2 (by rw[p9 hk2 hcc];grind))|(simp;done)))
  refine wE Dg ?_ ?_<;>intro c5
  .
   refine ae Dg ?_ (hok:=oF (wO _ _));refine wE Dg ?_ ?_<;>intro c6
   .
    refine aA Dg ?_;refine aA Dg ?_;refine aA Dg ?_;have hcc:(bU (bX z z.sets.length) z.sets (k+1)).2=[]:=by show Zon.stepC _ (bU _ _ k).2 _=_;rw[<-hc];simp only[Zon.stepC];grind
    have ff:=qA hcc ff;exact ak (k+1,(bU (bX z z.sets.length) z.sets (k+1)).2,rb,_) (h3:=by(try simp only[go_sem,ff]);all_goals (first|done|exact congrArg (λq=>some (ax.mk 4 q)) (l6 hk2 (by rw[p9 hk2 hcc];grind))|(simp;done))) (h4:=by(try simp only[go_sem,ff]);all_goals (first|done|exact congrArg (λq=>some (ax.mk 4 q)) (l6 hk2 (by rw[p9 hk2 hcc];grind))|(simp;done))) (h5:=by(try simp only[go_sem,ff]);all_goals (first|done|exact congrArg (λq=>some (ax.mk 4 q)) (l6 hk2 (by rw[p9 hk2 hcc];grind))|(simp;done)))
   refine wC Dg ?_;refine aA Dg ?_;have hcc:(bU (bX z z.sets.length) z.sets (k+1)).2=cut:=by show Zon.stepC _ (bU _ _ k).2 _=_;rw[<-hc];simp only[Zon.stepC];grind
   have ff:=qA hcc ff;exact ak (k+1,(bU (bX z z.sets.length) z.sets (k+1)).2,rb,_) (h3:=by(try simp only[go_sem,ff]);all_goals (first|done|exact congrArg (λq=>some (ax.mk 4 q)) (l6 hk2 (by rw[p9 hk2 hcc];grind))|(simp;done))) (h4:=by(try simp only[go_sem,ff]);all_goals (first|done|exact congrArg (λq=>some (ax.mk 4 q)) (l6 hk2 (by rw[p9 hk2 hcc];grind))|(simp;done))) (h5:=by(try simp only[go_sem,ff]);all_goals (first|done|exact congrArg (λq=>some (ax.mk 4 q)) (l6 hk2 (by rw[p9 hk2 hcc];grind))|(simp;done)))
  refine wC Dg ?_;refine aA Dg ?_;have hcc:(bU (bX z z.sets.length) z.sets (k+1)).2=cut:=by show Zon.stepC _ (bU _ _ k).2 _=_;rw[<-hc];simp only[Zon.stepC];grind
  have ff:=qA hcc ff;exact ak (k+1,(bU (bX z z.sets.length) z.sets (k+1)).2,rb,_) (h3:=by(try simp only[go_sem,ff]);all_goals (first|done|exact congrArg (λq=>some (ax.mk 4 q)) (l6 hk2 (by rw[p9 hk2 hcc];grind))|(simp;done))) (h4:=by(try simp only[go_sem,ff]);all_goals (first|done|exact congrArg (λq=>some (ax.mk 4 q)) (l6 hk2 (by rw[p9 hk2 hcc];grind))|(simp;done))) (h5:=by(try simp only[go_sem,ff]);all_goals (first|done|exact congrArg (λq=>some (ax.mk 4 q)) (l6 hk2 (by rw[p9 hk2 hcc];grind))|(simp;done)))
 refine aR ?_
 have e9:k=z.sets.length:=by omega
 subst e9
 have ff:=qB (ZaX z) (zD (x:=aO z) (X4 z.sets.length)) ff
 refine ae Dg ?_
 exact oN (fin 1 (hr:=oR) (hk:=by(try simp only[go_sem,ff]);all_goals (exact qZ _ _)))

end Go.Proofs.YtdcenbhgholncaaGreatDoor
namespace Go.Proofs.YtdcenbhgholncaaGreatDoor
open Go.Proofs.Tryz
open Go.DL Go.Str Go.Rec Go.Zon Go.Cmp Go.Jn Go.RowKit
set_option maxRecDepth 10000
variable [Dr]
def VJ:Go.Shelf.Ren:={ f:=λx=>match x with|6=>35|15=>121|14=>120|28=>194|29=>195|20=>186|21=>187|22=>188|23=>189|24=>190|25=>191|26=>192|27=>193|46=>238|47=>239|48=>240|49=>241|50=>242|57=>284|n=>n,t:=λx=>match x with|22=>25|24=>48|25=>86|3=>3|39=>192|0=>0|53=>252|55=>92|4=>4|46=>246|45=>245|50=>113|5=>5|9=>9|66=>303|70=>307|76=>337|77=>338|n=>n,g:=λn=>n }
def srtK:Go.Proofs.SlLaysF0.n6 prog VJ:={
 mixed:=by kernel_rfl
 f6:=⟨f35.name,by decide,func35.trans (by kernel_rfl)⟩
 f14:=⟨f120.name,by decide,func120.trans (by kernel_rfl)⟩
 f15:=func121.trans (by kernel_rfl)
 f20:=⟨f186.name,by decide,func186.trans (by kernel_rfl)⟩
 f21:=⟨f187.name,by decide,func187.trans (by kernel_rfl)⟩
 f22:=⟨f188.name,by decide,func188.trans (by kernel_rfl)⟩
 f23:=⟨f189.name,by decide,func189.trans (by kernel_rfl)⟩
 f24:=⟨f190.name,by decide,func190.trans (by kernel_rfl)⟩
 f25:=⟨f191.name,by decide,func191.trans (by kernel_rfl)⟩
 f26:=⟨f192.name,by decide,func192.trans (by kernel_rfl)⟩
 f27:=⟨f193.name,by decide,func193.trans (by kernel_rfl)⟩
 f28:=func194.trans (by kernel_rfl)
 f29:=func195.trans (by kernel_rfl)
 f46:=⟨f238.name,by decide,func238.trans (by kernel_rfl)⟩
 f47:=func239.trans (by kernel_rfl)
 f48:=func240.trans (by kernel_rfl)
 f49:=⟨f241.name,by decide,func241.trans (by kernel_rfl)⟩
 f50:=⟨f242.name,by decide,func242.trans (by kernel_rfl)⟩
 f57:=⟨f284.name,by decide,func284.trans (by kernel_rfl)⟩
 t0:=underlying0
 a0:=Tryz.isAgg0
 z0:=Tryz.sizeOf0
 v0:=Tryz.zeroValue0
 t3:=underlying3
 a3:=Tryz.isAgg3
 z3:=Tryz.sizeOf3
 v3:=Tryz.zeroValue3
 t4:=underlying4
 a4:=Tryz.isAgg4
 z4:=Tryz.sizeOf4
 v4:=Tryz.zeroValue4
 t5:=underlying5
 a5:=Tryz.isAgg5
 z5:=Tryz.sizeOf5
 v5:=Tryz.zeroValue5
 t9:=underlying9
 a9:=Tryz.isAgg9
 z9:=Tryz.sizeOf9
 v9:=Tryz.zeroValue9
 t22:=underlying25
 a22:=Tryz.isAgg25
 z22:=Tryz.sizeOf25
 v22:=Tryz.zeroValue25
 t25:=underlying86
 a25:=Tryz.isAgg86
 z25:=Tryz.sizeOf86
 v25:=Tryz.zeroValue86
 t39:=underlying192
 a39:=Tryz.isAgg192
 z39:=Tryz.sizeOf192
 v39:=Tryz.zeroValue192
 t45:=underlying245
 a45:=Tryz.isAgg245
 z45:=Tryz.sizeOf245
 v45:=Tryz.zeroValue245
 t46:=underlying246
 a46:=Tryz.isAgg246
 z46:=Tryz.sizeOf246
 v46:=Tryz.zeroValue246
 t50:=underlying113
 a50:=Tryz.isAgg113
 z50:=Tryz.sizeOf113
 v50:=Tryz.zeroValue113
 t53:=underlying252
 a53:=Tryz.isAgg252
 z53:=Tryz.sizeOf252
 v53:=Tryz.zeroValue252
 t55:=underlying92
 a55:=Tryz.isAgg92
 z55:=Tryz.sizeOf92
 v55:=Tryz.zeroValue92
 t66:=underlying303
 a66:=Tryz.isAgg303
 z66:=Tryz.sizeOf303
 v66:=Tryz.zeroValue303
 t70:=underlying307
 a70:=Tryz.isAgg307
 z70:=Tryz.sizeOf307
 v70:=Tryz.zeroValue307
 t76:=underlying337
 a76:=Tryz.isAgg337
 z76:=Tryz.sizeOf337
 v76:=Tryz.zeroValue337
 t77:=underlying338
 a77:=Tryz.isAgg338
 z77:=Tryz.sizeOf338
 v77:=Tryz.zeroValue338 }
def VU(l:List aD)(m:Nat)(h:H)(n r:Nat)(hm:m=l.length)(hl:l.length<=1000000)(hr:h r=some ⟨48,l.map aD.d⟩) :
  dS prog 35 [.mrow r 0 m,.fn (.func 36) [] []] h n (λd h' n'=>d = .tuple []/\n'=n /\ ∃l':List aD,l'.Perm l/\(l'.Pairwise λa b=>a.n<=b.n)/\h'=upd h r (some ⟨48,l'.map aD.d⟩)):=by
 have e:m=(l.map aD.d).length:=by simp[hm]
 rw[e]
 have hx : ∀x∈l.map aD.d,aD.d (aD.of x)=x:=λx hx=>by
  obtain⟨s,hs,rfl⟩:=Yi.1 hx;rw[Ir]
 refine(VW (ty:=48) srtK rfl rfl Tryz.isAgg48 Tryz.sizeOf48 (λx y=>Go.Rec.cmpI (aD.of x).n (aD.of y).n) (by kernel_rfl) hr Zbj rfl (by simp;omega) (λx h1 y h2=>?_) ⟨λx h1=>?_,λx h1 y h2 z h3=>?_,λx h1 y h2 z h3=>?_⟩).mono ?_
 .
  letI iD:Dr:=drT
  have:=Xn (aD.of x) (aD.of y);rw[hx x h1,hx y h2]at this;exact this
 . simp only[Go.Rec.cmpI];grind
 . simp only[Go.Rec.cmpI];grind
 . simp only[Go.Rec.cmpI];grind
 rintro d h' n' ⟨rfl,rfl,rows',hp,hs,rfl⟩
 obtain⟨q1,q2⟩:=XD Ir hp
 refine⟨rfl,rfl,rows'.map aD.of,q2,?_,by rw[q1]⟩
 rw[List.pairwise_map]
 refine hs.imp λ{a b}h3=>?_
 have h3 : ¬Go.Rec.cmpI (aD.of b).n (aD.of a).n<0:=h3
 simp only[Go.Rec.cmpI]at h3;grind
theorem Zfj{m:Nat}{x:List D}{l:List aD}(h:l.length=m):List.take 0 (List.replicate m x)++l.map aD.d++List.drop (0+m) (List.replicate m x)=l.map aD.d:=by simp
def nK(ks:List aD)(i:Nat):Bool:=vU ks[i]!
theorem EJ(ks:List aD):ks.all vU=aF ks.length (nK ks) 0:=by
 rw[YS,Yg,fe]
 constructor
 . intro h i _ hi;unfold nK;rw[getElem!_pos ks i hi];exact h _ (Yp hi)
 intro h k hk
 obtain⟨i,hi,rfl⟩:=YN hk
 have:=h i (Yl _) hi
 unfold nK at this
 rwa [getElem!_pos ks i hi]at this
section
variable {z : Zon} {ks : List aD} {f u : Int}
theorem Zgz(h:ks.length<1\/6<ks.length\/pQ f u=false\/aN z=false):allR z ks f u=(⟨[],[]⟩,1):=XY h
theorem Zgy(hq : ¬(ks.length<1\/6<ks.length\/pQ f u=false\/aN z=false))(h:aF ks.length (nK ks) 0=false):allR z ks f u=(⟨[],[]⟩,1):=by
 unfold Zon.allR;rw[XW hq,XY (by rw[EJ];exact h)]
theorem Zgw(hq : ¬(ks.length<1\/6<ks.length\/pQ f u=false\/aN z=false))(hs:aF ks.length (nK ks) 0=true)(h:rX ks=true):allR z ks f u=(⟨[],[]⟩,5):=by
 unfold Zon.allR;rw[XW hq,XW (by rw[EJ,hs];decide),XY h]
theorem all_no(hq : ¬(ks.length<1\/6<ks.length\/pQ f u=false\/aN z=false))(hs:aF ks.length (nK ks) 0=true)(hd:rX ks=false)(h:aF z.sets.length (ou z (eB ks) f u) 0=false):allR z ks f u=(⟨[],[]⟩,1):=by
 unfold Zon.allR;rw[XW hq,XW (by rw[EJ,hs];decide),XW (by rw[hd];decide),XY h]
theorem Zgx(hq : ¬(ks.length<1\/6<ks.length\/pQ f u=false\/aN z=false))(hs:aF ks.length (nK ks) 0=true)(hd:rX ks=false)(h:aF z.sets.length (ou z (eB ks) f u) 0=true):allR z ks f u=(zB z (eB ks) f u,0):=by
 unfold Zon.allR;rw[XW hq,XW (by rw[EJ,hs];decide),XW (by rw[hd];decide),XW (by rw[h];decide)]
end
theorem Zeu{ks l:List aD}(hp:l.Perm ks){k:Nat}(h0:0<k)(hk:k<l.length)(h:l[k-1]!.n=l[k]!.n):rX ks=true:=by
 unfold rX
 rw[X5,X3]
 intro hn
 have hn2:(l.map aD.n).Nodup:=(hp.map aD.n).nodup_iff.2 hn
 have:=(Za.1 hn2) (k-1) k (by simp;omega) (by simp;omega) om
 rw[getElem!_pos l (k-1) (by omega),getElem!_pos l k hk]at h
 exact this (by rw[List.getElem_map,List.getElem_map];exact h)
def Zev{ks l:List aD}(hp:l.Perm ks)(hs:l.Pairwise λa b=>a.n<=b.n)(h : ∀i,0<i->i<l.length->l[i-1]!.n≠l[i]!.n):rX ks=false:=by
 unfold rX
 rw[Yk,XV]
 refine(hp.map aD.n).nodup_iff.1 (Za.2 λa b h1 h2 h3=>?_)
 rw[YY]at h1 h2
 rw[List.getElem_map,List.getElem_map]
 have k1:=h b (by omega) h2
 rw[getElem!_pos l (b-1) (by omega),getElem!_pos l b h2]at k1
 have k2:=(Za.1 hs) (b-1) b (by omega) h2 (by omega)
 by_cases e:a=b-1
 . subst e;exact k1
 have k3:=(Za.1 hs) a (b-1) h1 (by omega) (by omega)
 omega
def pU(z:Zon)(ks:List aD)(f u:Int)(k j:Nat):List RSig:=(ks.take j).map λq=>(gF z.sets[k]!.set z.apex q f u).1
@[go_sem]theorem sgj_0{z:Zon}{ks:List aD}{f u:Int}{k:Nat}:pU z ks f u k 0=[]:=rfl
def WA{z:Zon}{ks:List aD}{f u:Int}{k j:Nat}(h:j<=ks.length):(pU z ks f u k j).length=j:=by unfold pU;simp;omega
def Wz{z:Zon}{ks:List aD}{f u:Int}{k j:Nat}(h:j<ks.length):(pU z ks f u k j).map RSig.d++[[.v (.string (bs (gF z.sets[k]!.set z.apex ks[j]! f u).1.zone)),.v (.int .i64 (gF z.sets[k]!.set z.apex ks[j]! f u).1.key),.v (.int .i64 (gF z.sets[k]!.set z.apex ks[j]! f u).1.alg),.v (.int .i64 (gF z.sets[k]!.set z.apex ks[j]! f u).1.frm),.v (.int .i64 (gF z.sets[k]!.set z.apex ks[j]! f u).1.unt),.v (.int .u64 (gF z.sets[k]!.set z.apex ks[j]! f u).1.sum)]]=(pU z ks f u k (j+1)).map RSig.d:=by
 unfold pU
 rw[zm! h,YQ,YQ]
 rfl
def Wi{s:RSet}{zn:Str}{k:aD}{f u:Int}(h : ¬(gF s zn k f u).2=0):(gF s zn k f u).2=1:=by
 unfold gF at h ⊢
 split<;>simp_all
theorem Wy{z:Zon}{ks:List aD}{f u:Int}{k j:Nat}(ho:jO (aO z) k=true)(hj:j<ks.length)(h : ¬(gF z.sets[k]!.set z.apex ks[j]! f u).2=0):ou z ks f u k=false:=by
 unfold ou
 rw[ho,Bool.not_true,Bool.false_or,<-Bool.not_eq_true,Yg]
 intro q
 have:=q _ (Yp hj)
 rw[getElem!_pos ks j hj]at h
 exact h (by simpa using this)
def Ww{z:Zon}{ks:List aD}{f u:Int}{k:Nat}(h : ∀j,j<ks.length->(gF z.sets[k]!.set z.apex ks[j]! f u).2=0):ou z ks f u k=true:=by
 unfold ou
 rw[X8,Yg]
 right
 intro q hq
 obtain⟨j,hj,rfl⟩:=YN hq
 have:=h j hj
 rw[getElem!_pos ks j hj]at this
 simpa using this
def Wx{z:Zon}{ks:List aD}{f u:Int}{k:Nat}(h:jO (aO z) k=false):ou z ks f u k=true:=by unfold ou;rw[h];rfl
def zu(z:Zon)(ks:List aD)(f u:Int)(k i:Nat):List D :=
 if i<k then[.v (.string (bs z.sets[i]!.set.name)),.i z.sets[i]!.set.ty,.i z.sets[i]!.set.life,.l (z.sets[i]!.set.data.map Dat.d),if jO (aO z) i=true then .l ((pU z ks f u i ks.length).map RSig.d)else .e]
 else[.v (.string (bs [])),.i 0,.i 0,.e,.e]
def kZ(z:Zon)(ks:List aD)(f u:Int)(k:Nat):List (List D):=(List.range z.sets.length).map (zu z ks f u k)
section
variable (z : Zon) (ks : List aD) (f u : Int)
theorem He(k:Nat):(kZ z ks f u k).length=z.sets.length:=by simp[kZ]
def sg_0:List.replicate z.sets.length [D.v (.string (bs [])),.v (.int .i64 0),.v (.int .i64 0),.e,.e]=kZ z ks f u 0:=by
 unfold kZ
 refine List.ext_getElem (by simp) λi h1 h2=>?_
 simp[zu]
def WJ{k:Nat}(h:k<z.sets.length):(kZ z ks f u k).getD k []=[.v (.string (bs [])),.i 0,.i 0,.e,.e]:=by
 unfold kZ
 simp[List.getD,h,zu]
def MH{k:Nat}{x:D}(hx:x=if jO (aO z) k=true then .l ((pU z ks f u k ks.length).map RSig.d)else .e):(kZ z ks f u k).set k [.v (.string (bs z.sets[k]!.set.name)),.v (.int .i64 z.sets[k]!.set.ty),.v (.int .i64 z.sets[k]!.set.life),.l (z.sets[k]!.set.data.map Dat.d),x]=kZ z ks f u (k+1):=by
 subst hx
 unfold kZ
 refine List.ext_getElem (by simp) λi h1 h2=>?_
 rw[List.getElem_set]
 simp only[List.getElem_map,List.getElem_range]
 unfold zu
 by_cases e:k=i
 . subst e;rw[XY rfl,XY (Nat.lt_succ_self _)]
 rw[XW e]
 by_cases e2:i<k
 . rw[XY e2,XY (Nat.lt_succ_of_lt e2)]
 rw[XW e2,XW (by omega)]
theorem zt(k:Nat):bg (kZ z ks f u k)=true:=by
 unfold kZ
 generalize List.range z.sets.length=L
 induction L with
 | nil=>rfl
 | cons i L ih =>
  simp only[X9,bg,ih,Bool.and_true];unfold zu
  split
  . split<;>simp[bV,D.nr,bg,BC,Eo]
  simp[bV,D.nr,bg]
theorem MF : ∀n,Ha z ks f u n=(List.range n).map (Hd z ks f u)
 | 0=>rfl
 | n+1=>by rw[List.range_succ,YQ,<-MF n];rfl
theorem WK:dK (kZ z ks f u z.sets.length)=(zB z ks f u).sets.map Sgd.d:=by
 unfold kZ zB
 rw[A7,MF,List.map_map,List.map_map]
 refine YK λi hi=>?_
 have hi2:i<z.sets.length:=Y2.1 hi
 simp only[Function.comp_apply,zu,Hd,pU,Zq]
 rw[XY hi2]
 split<;>simp only[dV,wk,Sgd.d,A8,Gz,dK,Yw]
end
set_option maxHeartbeats 2000000 in
def Xm(z:Zon)(ks:List aD)(f:Int)(u:Int):PureCt prog 10 [.agg z.d,.l (ks.map aD.d),.i f,.i u] (.tuple [.agg (allR z ks f u).1.d,.i (allR z ks f u).2]):=by
 refine oO func10 λff=>?_
 unfold f10
 refine ae Dg ?_
 refine oK Dg ?_ ?_ (hok:=oI L9 (xJ z))<;>intro c1
 . refine ae Dg ?_;exact oN (fin 2 (hr:=oS (k:=by rw[Zgz (by grind)];try rfl)) (hk:=by(try simp only[go_sem,ff]);all_goals (exact zt _ _ _ _ _)))
 have hq : ¬(ks.length<1\/6<ks.length\/pQ f u=false\/aN z=false):=by grind
 have hz:aN z=true:=by grind
 have hzl:=wN hz
 have hk6:ks.length<=6:=by omega
 have hk1:1<=ks.length:=by omega
 refine wA Dg ?_
 refine lq (Nat×Nat) [1,2,3,4,8,44,45] (λ⟨k,nx⟩=>(k<=ks.length/\aF ks.length (nK ks) 0=aF ks.length (nK ks) k/\1<nx,ks.length-k,[(46,.i k)],[(0,⟨24,[z.d]⟩),(1,⟨24,[[.v (.string (bs [])),.e]]⟩)],nx)) (0,_) ?_
 rintro⟨k,nx⟩ ⟨hk,hv,hx⟩
 simp only[XX,XZ]
 have n0:0<nx:=by omega
 have ff:=qB @hx @n0 ff
 refine wH Dg ?_ ?_<;>intro c2
 .
  have hk2:k<ks.length:=by simpa using c2
  have ff:=qA (Fb hk2) ff;refine wB ?_;refine ae Dg ?_;refine wE Dg ?_ ?_ (hok:=oF (Ma _))<;>intro c3
  . refine ae Dg ?_;exact oN (fin 2 (hr:=oS (k:=by have hF:nK ks k=false:=(by unfold nK;grind);rw[Zgy hq (by rw[hv,dY hk2 hF])];try rfl)) (hk:=by(try simp only[go_sem,ff]);all_goals (exact zt _ _ _ _ _)))
  refine wC Dg ?_;have h8:(nK ks) k=true:=by unfold nK;grind
  exact ak (k+1,_) (h1:=⟨iv,(by(try dsimp only);rw[hv,bO hk2 h8]),iv⟩)
 have e8:k=ks.length:=by omega
 subst e8
 have hs:aF ks.length (nK ks) 0=true:=by rw[hv,jE (by omega)]
 refine aR ?_
 refine ae Dg ?_
 refine um ?_
 refine Zdb Dg 2 (e:=48) (r:=nx+3) (off:=0) (m:=ks.length) (news:=ks.map aD.d) ?_ (hrl:=by intro q hq;obtain⟨b,_,rfl⟩:=Yi.1 hq;rfl) (h0:=by omega)
 rw[Zfj rfl]
 refine qx Dg ?_
 try simp only[gG]
 refine aU (ib Dg 1 (hct:=by exact VU ks ks.length _ _ _ rfl om ev) (hk:=?_))
 rintro res h2 n2 ⟨rfl,rfl,l,hlp,hls,rfl⟩
 have hll:l.length=ks.length:=hlp.length_eq
 refine gZ Dg ?_
 refine wA Dg ?_
 refine lq (Nat×Nat×Nat) [2,3,4,8,64] (λ⟨k,b,nx⟩=>(k<=ks.length/\b<nx/\1<b/\(∀i,0<i->i<k->l[i-1]!.n≠l[i]!.n),ks.length-k,[(12,.mrow b 0 ks.length),(63,.mrow b 0 ks.length),(65,.i k)],[(0,⟨24,[z.d]⟩),(1,⟨24,[[.v (.string (bs [])),.e]]⟩),(b,⟨48,l.map aD.d⟩)],nx)) (0,(nx+3),_) ?_ (hA:=⟨iv,iv,iv,(by first|(intro i h1 h2;omega)|(dsimp only;intro i h1 h2;omega))⟩)
 rintro⟨k,b,nx⟩ ⟨hk,hx,hb1,Qn⟩
 simp only[XX,XZ]
 have n0:0<nx:=by omega
 have n1:1<nx:=by omega
 have ff:=qH @hx @n0 @n1 @hll (nH 0 1) (nH 0 b) (nH 1 b) ff
 refine wH Dg ?_ ?_<;>intro c4
 .
  have hk2:k<ks.length:=by simpa using c4
  have hl2:k<l.length:=by omega
  have e1:((k:Int)-1).toNat=k-1:=by omega
  have ff:=qD (Fb hl2) (Fb (l:=l) (n:=k-1) (by omega)) @e1 ff
  refine wB ?_;refine ae Dg ?_;refine wE Dg ?_ ?_<;>intro c5
  . refine ae Dg ?_;exact oN (fin 2 (hr:=oS (k:=by rw[Zgw hq hs (Zeu hlp (by omega) hl2 (by grind))];try rfl)) (hk:=by(try simp only[go_sem,ff]);all_goals (exact zt _ _ _ _ _)))
  refine wC Dg ?_;exact ak (k+1,b,_) (h1:=⟨iv,iv,iv,(by(try dsimp only);intro i h1 h2;by_cases e:i=k;(subst e;grind);exact Qn i h1 om)⟩)
 have e8:k=ks.length:=by omega
 subst e8
 have hd:=Zev hlp hls (by rw[hll];exact Qn)
 have hr:=VV hlp hls hd
 subst hr
 refine aR ?_
 have hsl:(eB ks).length=ks.length:=(G7 ks).length_eq
 refine ae Dg ?_ (hok:=oF (VT z hz))
 have ff:=qA (sg_0 z (eB ks) f u) ff
 refine ae Dg ?_
 refine wA Dg ?_
 refine lq (Nat×Nat×Nat×Nat×Nat) [2,3,4,8,15,95,96] (λ⟨k,b,rb,r6,nx⟩=>(k<=z.sets.length/\1<b/\b<rb/\rb<r6/\r6<nx/\aF z.sets.length (ou z (eB ks) f u) 0=aF z.sets.length (ou z (eB ks) f u) k,z.sets.length-k,[(12,.mrow b 0 ks.length),(16,.mptr r6 0 0),(97,.i k)],[(0,⟨24,[z.d]⟩),(1,⟨24,[[.v (.string (bs [])),.e]]⟩),(b,⟨48,(eB ks).map aD.d⟩),(rb,⟨44,(kZ z (eB ks) f u (k))⟩),(r6,⟨24,[[.v (.string (bs z.apex)),.mrow rb 0 z.sets.length]]⟩)],nx)) (0,b,(nx+9),(nx+11),_) ?_
 rintro⟨k,b,rb,r6,nx⟩ ⟨hk,hb1,hbr,hr6,hx,hok⟩
 simp only[XX,XZ]
 have n0:0<nx:=by omega
 have n1:1<nx:=by omega
 have nb:b<nx:=by omega
 have nrb:rb<nx:=by omega
 have ff:=qI @hx @n0 @n1 @nb @nrb @hsl (nH 0 1) (nH 0 b) (qI (nH 0 rb) (nH 0 r6) (nH 1 b) (nH 1 rb) (nH 1 r6) (nH b rb) (nH b r6) (nH r6 rb) ff)
 refine wH Dg ?_ ?_<;>intro c6
 .
  have hk2:k<z.sets.length:=by simpa using c6
  have sV:=(De hz).2 k hk2;have ff:=qG (cZ hk2) (Ff (l:=kG (aO z) z.sets.length) (n:=k) (by rw[qZ];exact hk2)) (qZ (aO z) z.sets.length) (NU (aO z) _ k hk2) (He z (eB ks) f u k) (WJ z (eB ks) f u hk2) ff
  refine wB ?_;refine oC Dg ?_;refine ae Dg ?_ (hok:=oS (k:=by exact CQ _ (Yt sV.1 om)))
  refine oM Dg ?_ ?_ (hq:=rfl)<;>intro c7
  .
   refine RL (nx+10) 4 44 94 ev (by rfl) (by simp only[go_sem,ff]) ?_
   simp only[List.set_cons_succ,List.set_cons_zero];refine ae Dg ?_;refine dO ?_;refine lq (Nat×Nat×Nat×Nat) [2,3,4,8,12,15,16,17,95,96,97,115,116] (λ⟨j,p,c,nx⟩=>(j<=ks.length/\r6<c/\c<p/\p<nx/\(∀i,i<j->(gF z.sets[k]!.set z.apex (eB ks)[i]! f u).2=0),ks.length-j,[(19,.mptr c 0 0),(117,.i j)],[(0,⟨24,[z.d]⟩),(1,⟨24,[[.v (.string (bs [])),.e]]⟩),(b,⟨48,(eB ks).map aD.d⟩),(rb,⟨44,(kZ z (eB ks) f u (k))⟩),(r6,⟨24,[[.v (.string (bs z.apex)),.mrow rb 0 z.sets.length]]⟩),(c,⟨44,[[.v (.string (bs z.sets[k]!.set.name)),.i z.sets[k]!.set.ty,.i z.sets[k]!.set.life,.l (z.sets[k]!.set.data.map Dat.d),.mrow p 0 j]]⟩),(p,⟨94,(pU z (eB ks) f u k j).map RSig.d⟩)],nx)) (0,(nx+23),(nx+10),_) ?_ (hA:=⟨iv,iv,iv,iv,(by first|(intro i h1;omega)|(dsimp only;intro i h1;omega))⟩)
   rintro⟨j,p,c,nx⟩ ⟨hj,hc6,hcp,hx,hz9⟩;simp only[XX,XZ];have n0:0<nx:=by omega
   have n1:1<nx:=by omega
   have nb:b<nx:=by omega
   have nrb:rb<nx:=by omega
   have n6:r6<nx:=by omega
   have nc:c<nx:=by omega
   have hjl:=WA (z:=z) (ks:=eB ks) (f:=f) (u:=u) (k:=k) (j:=j) (by omega)
   have ff:=qF @hx @n0 @n1 @nb @nrb (qI @n6 @nc @hjl (nH 0 1) (nH 0 b) (nH 0 rb) (nH 0 r6) (nH 0 c) (qI (nH 0 p) (nH 1 b) (nH 1 rb) (nH 1 r6) (nH 1 c) (nH 1 p) (nH b rb) (nH b r6) (qI (nH b c) (nH b p) (nH r6 rb) (nH c rb) (nH p rb) (nH c r6) (nH p r6) (nH c p) ff)));refine wH Dg ?_ ?_<;>intro c8
   .
    have hj2:j<ks.length:=by simpa using c8
    have hj3:j<(eB ks).length:=by omega
    have ff:=qA (Fb hj3) ff;refine wB ?_;refine ae Dg ?_;refine ae Dg ?_ (hok:=oF (VG _ _ _ _ _));refine oK Dg ?_ ?_<;>intro c9
    . have hc1:=Wi c9;have ff:=qA @hc1 ff;refine ae Dg ?_;exact oN (fin 2 (hr:=oS (k:=by rw[all_no hq hs hd (by rw[hok,dY hk2 (Wy c7 hj3 c9)])];try rfl)) (hk:=by(try simp only[go_sem,ff]);all_goals (exact zt _ _ _ _ _)))
    refine aA Dg ?_;refine aA Dg ?_;have hst:=Wz (z:=z) (ks:=eB ks) (f:=f) (u:=u) (k:=k) hj3;have ff:=qA hst ff;exact ak (j+1,(nx+25),c,_) (h1:=⟨iv,iv,iv,iv,(by(try dsimp only);intro i h1;by_cases e:i=j;(subst e;exact c9);exact hz9 i om)⟩)
   have e9:j=ks.length:=by omega
   subst e9;refine aR ?_;refine Ao c 4 p (rows:=(pU z (eB ks) f u k ks.length).map RSig.d) (off:=0) (len:=ks.length) ev rfl ev om (by simp;omega) Eo ?_
   rw[Yj,Yh (by simp;omega)]
   simp only[Zk,Y9];refine aA Dg ?_;refine aA Dg ?_;have h8:ou z (eB ks) f u k=true:=Ww (by rw[hsl];exact hz9)
   have hst:=MH z (eB ks) f u (k:=k) (x:=.l ((pU z (eB ks) f u k ks.length).map RSig.d)) (by rw[XY c7,hsl])
   have ff:=qA hst ff;exact ak (k+1,b,rb,r6,_) (h1:=⟨iv,iv,iv,iv,iv,(by(try dsimp only);rw[hok,bO hk2 h8])⟩)
  refine aA Dg ?_;refine aA Dg ?_;have h8:ou z (eB ks) f u k=true:=Wx c7;have hst:=MH z (eB ks) f u (k:=k) (x:=.e) (by rw[XW (by rw[c7];decide)])
  have ff:=qA hst ff;exact ak (k+1,b,rb,r6,_) (h1:=⟨iv,iv,iv,iv,iv,(by(try dsimp only);rw[hok,bO hk2 h8])⟩)
 have e8:k=z.sets.length:=by omega
 subst e8
 refine aR ?_
 refine Ao r6 1 rb (rows:=(kZ z (eB ks) f u (z.sets.length))) (off:=0) (len:=z.sets.length) ev rfl ev (by omega) (by rw[He];omega) (zt _ _ _ _ _) ?_
 rw[Yj,Yh (by rw[He];exact X4 _)]
 simp only[Zk,Y9]
 refine ae Dg ?_
 exact oN (fin 2 (hr:=oS (k:=by rw[WK,Zgx hq hs hd (by rw[hok,jE (by omega)])];try rfl)) (hk:=by(try simp only[go_sem,ff]);all_goals (exact zt _ _ _ _ _)))
end Go.Proofs.YtdcenbhgholncaaGreatDoor
namespace Go.Proofs.YtdcenbhgholncaaGreatDoor
open Go.Proofs.Tryz
open Go.DL Go.Str Go.Rec Go.Zon
def kK{α1:Type}(K1:α1->D)(g1:D->α1)(ok:α1->Bool)(res:α1->D):List D->Option D
 | [x1]=>if pu x1 (K1 (g1 x1))&&ok (g1 x1)then some (res (g1 x1))else none
 | _=>none
def mE{α1:Type}{K1:α1->D}{g1:D->α1}{ok:α1->Bool}{res:α1->D}{f:FuncId}(h : ∀a,ok a=true->PureCt prog f [K1 a] (res a)):∀xs d,kK K1 g1 ok res xs=some d->PureCt prog f xs d:=by
 intro xs d k
 unfold kK at k
 split at k
 .
  split at k
  .
   rename_i hc
   simp only[XT]at hc;simp only[XU]at k;subst k;have:=h _ hc.2;rwa [<-tN hc.1]at this
  cases k
 cases k
def rW{α1:Type}(K1:α1->D)(g1:D->α1){α2:Type}(K2:α2->D)(g2:D->α2)(ok:α1->α2->Bool)(res:α1->α2->D):List D->Option D
 | [x1,x2]=>if pu x1 (K1 (g1 x1))&&pu x2 (K2 (g2 x2))&&ok (g1 x1) (g2 x2)then some (res (g1 x1) (g2 x2))else none
 | _=>none
def uW{α1:Type}{K1:α1->D}{g1:D->α1}{α2:Type}{K2:α2->D}{g2:D->α2}{ok:α1->α2->Bool}{res:α1->α2->D}{f:FuncId}(h : ∀a b,ok a b=true->PureCt prog f [K1 a,K2 b] (res a b)):∀xs d,rW K1 g1 K2 g2 ok res xs=some d->PureCt prog f xs d:=by
 intro xs d k
 unfold rW at k
 split at k
 .
  split at k
  .
   rename_i hc
   simp only[XT]at hc;simp only[XU]at k;subst k;have:=h _ _ hc.2;rwa [<-tN hc.1.1,<-tN hc.1.2]at this
  cases k
 cases k
def J8{α1:Type}(K1:α1->D)(g1:D->α1){α2:Type}(K2:α2->D)(g2:D->α2){α3:Type}(K3:α3->D)(g3:D->α3){α4:Type}(K4:α4->D)(g4:D->α4)(ok:α1->α2->α3->α4->Bool)(res:α1->α2->α3->α4->D):List D->Option D
 | [x1,x2,x3,x4]=>if pu x1 (K1 (g1 x1))&&pu x2 (K2 (g2 x2))&&pu x3 (K3 (g3 x3))&&pu x4 (K4 (g4 x4))&&ok (g1 x1) (g2 x2) (g3 x3) (g4 x4)then some (res (g1 x1) (g2 x2) (g3 x3) (g4 x4))else none
 | _=>none
def ZdA{α1:Type}{K1:α1->D}{g1:D->α1}{α2:Type}{K2:α2->D}{g2:D->α2}{α3:Type}{K3:α3->D}{g3:D->α3}{α4:Type}{K4:α4->D}{g4:D->α4}{ok:α1->α2->α3->α4->Bool}{res:α1->α2->α3->α4->D}{f:FuncId}(h : ∀a b c d,ok a b c d=true->PureCt prog f [K1 a,K2 b,K3 c,K4 d] (res a b c d)):∀xs d,J8 K1 g1 K2 g2 K3 g3 K4 g4 ok res xs=some d->PureCt prog f xs d:=by
 intro xs d k
 unfold J8 at k
 split at k
 .
  split at k
  .
   rename_i hc
   simp only[XT]at hc;simp only[XU]at k;subst k;have:=h _ _ _ _ hc.2;rwa [<-tN hc.1.1.1.1,<-tN hc.1.1.1.2,<-tN hc.1.1.2,<-tN hc.1.2]at this
  cases k
 cases k
def Fy(x:Sgd):Bool:=decide (x.set.data.length<=100000)&&decide (x.sigs.length<=100000)
def QO{x:Sgd}(h:Fy x=true):Ak x:=by
 simp only[Fy,XT,XV]at h
 exact h
def Fx(l:List Sgd):Bool:=decide (l.length<=1000000)&&l.all Fy
def QN{l:List Sgd}(h:Fx l=true):jf l:=by
 simp only[Fx,XT,XV,Yg]at h
 refine⟨h.1,λk hk=>QO (h.2 _ ?_)⟩
 rw[getElem!_pos l k hk]
 exact Yp hk
def and1{p q:Prop}[Decidable p][Decidable q](h:(decide p&&decide q)=true):p:=by
 simp only[XT,XV]at h
 exact h.1
def T9{p q:Prop}[Decidable p][Decidable q](h:(decide p&&decide q)=true):q:=by
 simp only[XT,XV]at h
 exact h.2
def TF(t:Int):Int:=IntKind.i64.wrap (1*2^(min t.toNat 64))
theorem Zf3(t:Int):xy t=TF t:=KS t
def Ba(l:List Sgd):Nat->TM
 | 0=>[]
 | k+1=>uE (Ba l k) l[k]!.set.name (wL .i64 (gL (Ba l k) l[k]!.set.name) (TF l[k]!.set.ty))
theorem LP(l:List Sgd):∀k,lU l k=Ba l k
 | 0=>rfl
 | k+1=>by rw[lU,Ba,LP l k,Ef,Zf3]
def Jv(a:Str)(t:TM)(n:Str):Int :=
 if n≠a/\zb .i64 (wL .i64 (gL t n) 256) 4≠0 then CZ .i64 (wL .i64 (gL t n) 256) 2 else wL .i64 (gL t n) 256
theorem Zc1(a:Str)(t:TM)(n:Str):nP a t n=Jv a t n:=by
 unfold nP Jv
 rw[Ef,KZ,K5]
def OU(z:Zon)(ns:List Str)(i:Nat):RSet:=⟨ns[i]!,8,sP z.sets z.sets.length,[⟨ns[(i+1) % ns.length]!,Jv z.apex (Ba z.sets z.sets.length) ns[i]!,0⟩]⟩
def IK(z:Zon)(ns:List Str):List RSet:=(List.range ns.length).map (OU z ns)
theorem Zbw(z:Zon)(ns:List Str):nextF z ns=IK z ns:=by
 unfold nextF IK
 refine YK λi _=>?_
 rw[aY,OU,LP,Zc1]
def AA(z:Zon):Zon×Int :=
 if aN z=false then(⟨[],[]⟩,1)
 else if aN (plainOf z)=false then(⟨[],[]⟩,1)
 else if 20000<(plainOf z).sets.length+(aT (plainOf z)).length then(⟨[],[]⟩,2)
 else(⟨z.apex,Ga (plainOf z).sets (IK (plainOf z) (aT (plainOf z)))⟩,0)
theorem ZfK(z:Zon):dW z=AA z:=by
 unfold dW AA
 rw[Zbw]
def ZfL(z:Zon):PureCt prog 9 [.agg z.d] (.tuple [.agg (AA z).1.d,.i (AA z).2]):=by
 rw[<-ZfK]
 exact Sg z
def leBig{n:Nat}(h:n<=1000):n<=9223372036854775806:=by omega
noncomputable def en9:List D->Option D:=kK (λz:Zon=>(.agg z.d:D)) aS (λ(a:Zon)=>true) (λ(a:Zon)=>.tuple [.agg (AA a).1.d,.i (AA a).2])
def ZdC : ∀xs d,en9 xs=some d->PureCt prog 9 xs d:=mE λa h=>ZfL a
noncomputable def Rz:List D->Option D:=J8 (λz:Zon=>(.agg z.d:D)) aS (λl:List aD=>(.l (l.map aD.d):D)) xO (λn:Int=>(.i n:D)) aQ (λn:Int=>(.i n:D)) aQ (λ(a:Zon)(b:List aD)(c:Int)(d:Int)=>true) (λ(a:Zon)(b:List aD)(c:Int)(d:Int)=>.tuple [.agg (allR a b c d).1.d,.i (allR a b c d).2])
def Zd0 : ∀xs d,Rz xs=some d->PureCt prog 10 xs d:=ZdA λa b c d h=>Xm a b c d
noncomputable def Ry:List D->Option D:=rW (λz:Zon=>(.agg z.d:D)) aS (λz:Qst=>(.agg z.d:D)) dM (λ(a:Zon)(b:Qst)=>true) (λ(a:Zon)(b:Qst)=>.tuple [.agg (fK a b).1.d,.i (fK a b).2])
def ZdV : ∀xs d,Ry xs=some d->PureCt prog 11 xs d:=uW λa b h=>Pn a b
noncomputable def Ri:List D->Option D:=rW (λz:eH=>(.agg z.d:D)) za (λz:eH=>(.agg z.d:D)) za (λ(a:eH)(b:eH)=>Fx a.sets) (λ(a:eH)(b:eH)=>.b (Bi a b))
def ZdM : ∀xs d,Ri xs=some d->PureCt prog 21 xs d:=uW λa b h=>Xy a b (QN h)
noncomputable def Rf:List D->Option D:=kK (λz:Zon=>(.agg z.d:D)) aS (λ(a:Zon)=>true) (λ(a:Zon)=>.b (aN a))
def ZdK : ∀xs d,Rf xs=some d->PureCt prog 27 xs d:=mE λa h=>xJ a
noncomputable def Re:List D->Option D:=rW (λn:Int=>(.i n:D)) aQ (λn:Int=>(.i n:D)) aQ (λ(a:Int)(b:Int)=>true) (λ(a:Int)(b:Int)=>.i (cmpI a b))
def ZdJ : ∀xs d,Re xs=some d->PureCt prog 37 xs d:=uW λa b h=>FZ a b
noncomputable def Rc:List D->Option D:=kK (λs:Str=>(.v (.string (bs s)):D)) ai (λ(a:Str)=>true) (λ(a:Str)=>.b (ah a))
def ZdI : ∀xs d,Rc xs=some d->PureCt prog 50 xs d:=mE λa h=>sO a
noncomputable def Rb:List D->Option D:=rW (λs:Str=>(.v (.string (bs s)):D)) ai (λs:Str=>(.v (.string (bs s)):D)) ai (λ(a:Str)(b:Str)=>true) (λ(a:Str)(b:Str)=>.tuple [.b (bC a b),.i (if ah a&&ah b then 0 else 11)])
def ZdH : ∀xs d,Rb xs=some d->PureCt prog 51 xs d:=uW λa b h=>wO a b
noncomputable def Ra:List D->Option D:=kK (λs:Str=>(.v (.string (bs s)):D)) ai (λ(a:Str)=>true) (λ(a:Str)=>.tuple [.v (.string (bs (l9 a))),.i (if ah a then(if a=[46]then 4 else 0)else 11)])
def ZdG : ∀xs d,Ra xs=some d->PureCt prog 52 xs d:=mE λa h=>IA a
noncomputable def Q9:List D->Option D:=rW (λz:Zon=>(.agg z.d:D)) aS (λz:Qst=>(.agg z.d:D)) dM (λ(a:Zon)(b:Qst)=>decide (a.sets.length<=1000000)) (λ(a:Zon)(b:Qst)=>.tuple [.i (eY a.sets b),.b (eX a.sets b)])
def ZdF : ∀xs d,Q9 xs=some d->PureCt prog 53 xs d:=uW λa b h=>vL a b (Y3 h)
noncomputable def Q8:List D->Option D:=kK (λz:RSet=>(.agg z.d:D)) set1 (λ(a:RSet)=>true) (λ(a:RSet)=>.b (di a))
def ZdE : ∀xs d,Q8 xs=some d->PureCt prog 62 xs d:=mE λa h=>DF a
noncomputable def Q7:List D->Option D:=rW (λz:Zon=>(.agg z.d:D)) aS (λz:Qst=>(.agg z.d:D)) dM (λ(a:Zon)(b:Qst)=>Fx a.sets) (λ(a:Zon)(b:Qst)=>.tuple [.agg (mD a b).1.d,.b (mD a b).2.1,.i (mD a b).2.2])
def ZdD : ∀xs d,Q7 xs=some d->PureCt prog 77 xs d:=uW λa b h=>Uq a b (QN h)
noncomputable def Rx:List D->Option D:=kK (λz:Zon=>(.agg z.d:D)) aS (λ(a:Zon)=>decide (a.sets.length<=1000000)) (λ(a:Zon)=>.agg (aO a).d)
def ZdZ : ∀xs d,Rx xs=some d->PureCt prog 114 xs d:=mE λa h=>Gs a (Y3 h)
noncomputable def Rw:List D->Option D:=kK (λz:Lay=>(.agg z.d:D)) qh (λ(a:Lay)=>decide (a.z.sets.length<=1000000)) (λ(a:Lay)=>.b (pM a))
def ZdY : ∀xs d,Rw xs=some d->PureCt prog 115 xs d:=mE λa h=>Lm a (Y3 h)
noncomputable def Rv:List D->Option D:=kK (λz:Lay=>(.agg z.d:D)) qh (λ(a:Lay)=>decide (a.z.sets.length<=1000000)&&decide (a.b.length=a.z.sets.length)) (λ(a:Lay)=>.b (kQ a))
def ZdX : ∀xs d,Rv xs=some d->PureCt prog 116 xs d:=mE λa h=>Li a (and1 h) (T9 h)
noncomputable def Ru:List D->Option D:=kK (λz:Lay=>(.agg z.d:D)) qh (λ(a:Lay)=>decide (a.z.sets.length<=1000000)&&decide (a.b.length=a.z.sets.length)) (λ(a:Lay)=>.b (uS a))
def ZdW : ∀xs d,Ru xs=some d->PureCt prog 117 xs d:=mE λa h=>Lh a (and1 h) (T9 h)
noncomputable def Rt:List D->Option D:=kK (λs:Str=>(.v (.string (bs s)):D)) ai (λ(a:Str)=>decide (a.length<=1000)) (λ(a:Str)=>.l ((aM a).map sR))
def ZdU : ∀xs d,Rt xs=some d->PureCt prog 148 xs d:=mE λa h=>zC a (Y3 h)
noncomputable def Rq:List D->Option D:=kK (λz:Sgd=>(.agg z.d:D)) mY (λ(a:Sgd)=>Fy a) (λ(a:Sgd)=>.agg a.d)
def ZdT : ∀xs d,Rq xs=some d->PureCt prog 152 xs d:=mE λa h=>Ll a (QO h)
noncomputable def Rp:List D->Option D:=kK (λl:List Int=>(.l (l.map iR):D)) nN (λ(a:List Int)=>true) (λ(a:List Int)=>.i (qb a 0))
def ZdS : ∀xs d,Rp xs=some d->PureCt prog 158 xs d:=mE λa h=>Tf a
noncomputable def Ro:List D->Option D:=rW (λs:Str=>(.v (.string (bs s)):D)) ai (λs:Str=>(.v (.string (bs s)):D)) ai (λ(a:Str)(b:Str)=>true) (λ(a:Str)(b:Str)=>.tuple [.i (if ah a&&ah b then ig a b else 0),.i (if ah a&&ah b then 0 else 11)])
def ZdR : ∀xs d,Ro xs=some d->PureCt prog 166 xs d:=uW λa b h=>Ez a b
noncomputable def Rm:List D->Option D:=kK (λs:Str=>(.v (.string (bs s)):D)) ai (λ(a:Str)=>decide (a.length<=1000)) (λ(a:Str)=>.b (dN a))
def ZdQ : ∀xs d,Rm xs=some d->PureCt prog 175 xs d:=mE λa h=>M3 a (leBig (Y3 h))
noncomputable def Rl:List D->Option D:=rW (λn:Int=>(.i n:D)) aQ (λb:Bool=>(.b b:D)) AL (λ(a:Int)(b:Bool)=>true) (λ(a:Int)(b:Bool)=>.b (fits a b))
def ZdP : ∀xs d,Rl xs=some d->PureCt prog 184 xs d:=uW λa b h=>QM a b
noncomputable def Rk:List D->Option D:=rW (λl:List RSig=>(.l (l.map RSig.d):D)) sI (λs:Str=>(.v (.string (bs s)):D)) ai (λ(a:List RSig)(b:Str)=>true) (λ(a:List RSig)(b:Str)=>.b (jJ a b))
def ZdO : ∀xs d,Rk xs=some d->PureCt prog 185 xs d:=uW λa b h=>Lg a b
noncomputable def Rj:List D->Option D:=kK (λs:Str=>(.v (.string (bs s)):D)) ai (λ(a:Str)=>true) (λ(a:Str)=>.tuple [.l ((if ah a then aM a else[]).map sR),.i (if ah a then 0 else 11)])
def ZdN : ∀xs d,Rj xs=some d->PureCt prog 206 xs d:=mE λa h=>II a
noncomputable def Rh:List D->Option D:=kK (λz:Zon=>(.agg z.d:D)) aS (λ(a:Zon)=>true) (λ(a:Zon)=>.tuple [.i (if aN a then uq a else 0),.i (if aN a then 0 else 1)])
def ZdL : ∀xs d,Rh xs=some d->PureCt prog 232 xs d:=mE λa h=>Ui a
noncomputable def tbR:List (FuncId×(List D->Option D)):=[(9,en9),(10,Rz),(11,Ry),(21,Ri),(27,Rf),(37,Re),(50,Rc),(51,Rb),(52,Ra),(53,Q9),(62,Q8),(77,Q7),(114,Rx),(115,Rw),(116,Rv),(117,Ru),(148,Rt),(152,Rq),(158,Rp),(166,Ro),(175,Rm),(184,Rl),(185,Rk),(206,Rj),(232,Rh)]
def tY(l:List (FuncId×(List D->Option D))):Prop:=∀e∈l,∀xs d,e.2 xs=some d->PureCt prog e.1 xs d
def Za5:tY []:=λ_ h=>by cases h
def ek{f:FuncId}{g:List D->Option D}{l:List (FuncId×(List D->Option D))}(h : ∀xs d,g xs=some d->PureCt prog f xs d)(k:tY l):tY ((f,g)::l):=λe he=>(Yz.1 he).elim (λq=>by subst q;exact h) (k e)
def mQ:tY tbR:=ek ZdC <| ek Zd0 <| ek ZdV <| ek ZdM <| ek ZdK <| ek ZdJ <| ek ZdI <| ek ZdH <| ek ZdG <| ek ZdF <| ek ZdE <| ek ZdD <| ek ZdZ <| ek ZdY <| ek ZdX <| ek ZdW <| ek ZdU <| ek ZdT <| ek ZdS <| ek ZdR <| ek ZdQ <| ek ZdP <| ek ZdO <| ek ZdN <| ek ZdL <| Za5
def tbl(l:List (FuncId×(List D->Option D))):gU:=⟨λf=>l.any λe=>Nat.beq e.1 f,λf xs=>match l.find? λe=>Nat.beq e.1 f with
 | some e=>(match e.2 xs with
  | some d=>kL d λd=>some d
  | none=>none)
 | none=>none⟩
def Ve{l:List (FuncId×(List D->Option D))}(h:tY l):(tbl l).Ok prog:=by
 intro f xs d k
 unfold tbl at k
 simp only at k
 split at k
 .
  rename_i e he
  split at k
  .
   rename_i d' hd
   rw[Kj,XU]at k;subst k;have:=List.find?_some he;have:=Nat.eq_of_beq_eq_true this;rw[<-this];exact h e (List.mem_of_find?_eq_some he) _ _ hd
  cases k
 cases k
open Go.Cmp
set_option maxRecDepth 10000
variable [Dr]
def ins_a{α:Type}(l:List α)(x:α)(i:Nat)(h:i<l.length):(l.take (i+1)++((l.drop i).take (l.length-i)++l.drop (i+(1+(l.length-i))))).take i++x::(l.take (i+1)++((l.drop i).take (l.length-i)++l.drop (i+(1+(l.length-i))))).drop (i+1)=l.take i++x::l.drop i:=by
 have e1:(l.drop i).take (l.length-i)=l.drop i:=Yh (by simp)
 have e2:l.drop (i+(1+(l.length-i)))=[]:=List.drop_of_length_le om
 rw[e1,e2,YZ,List.take_append_of_le_length (by simp;omega),List.take_take,List.drop_append_of_le_length (by simp;omega),List.drop_of_length_le (l:=l.take (i+1)) (by simp;omega)]
 rw[show min i (i+1)=i from by omega]
 simp
def ins_c{α:Type}(l z:List α)(x:α)(i:Nat)(h:i<l.length)(hz:z.length=l.length+1-i):(((l.take i++z).take i++x::(l.take i++z).drop (i+1)).take (i+1))++((l.drop i).take (l.length-i)++((l.take i++z).take i++x::(l.take i++z).drop (i+1)).drop (i+1+(l.length-i)))=l.take i++x::l.drop i:=by
 have e1:(l.drop i).take (l.length-i)=l.drop i:=Yh (by simp)
 have e0:(l.take i).length=i:=by simp;omega
 have e2:((l.take i++z).take i)=l.take i:=by rw[List.take_append_of_le_length (by omega),Yh (by omega)]
 have e3:l.take i++x::(l.take i++z).drop (i+1)=l.take i++[x]++(l.take i++z).drop (i+1):=by simp
 simp only[e1,e2,e3]
 have e4:(l.take i++[x]).length=i+1:=by simp;omega
 rw[List.take_append_of_le_length (by omega),Yh (by omega)]
 have e5:(l.take i++[x]++(l.take i++z).drop (i+1)).length=l.length+1:=by simp[hz];omega
 rw[List.drop_of_length_le (l:=l.take i++[x]++(l.take i++z).drop (i+1)) (by omega)]
 simp
theorem LD{α:Type}(h:Nat->α)(r:Nat)(a b:α):upd (upd h r a) r b=upd h r b:=by
 funext q
 simp only[upd]
 split<;>rfl
def Zcy(l:List (List D))(x:List D)(i m:Nat)(h:H)(n r r2:Nat)(hm:m=l.length)(hi:i<=l.length)(hl:l.length<=1000000)(hr:h r=some ⟨44,l⟩)(hr2:h r2=some ⟨44,[x]⟩)(hne:r≠r2)(hx:x.length=5)(hc : ∀q∈l,q.length=5):dS prog 219 [.mrow r 0 m,.i i,.mrow r2 0 1] h n (λd h' n'=>(i=l.length/\d = .mrow (n+17) 0 (l.length+1)/\h'=upd (upd h r none) (n+17) (some ⟨44,(l.take i++x::l.drop i)⟩)/\n'=n+19)\/(i<l.length/\d = .mrow (n+29) 0 (l.length+1)/\h'=upd h (n+29) (some ⟨44,(l.take i++x::l.drop i)⟩)/\n'=n+47)\/(i<l.length/\d = .mrow r 0 (l.length+1)/\h'=upd h r (some ⟨44,(l.take i++x::l.drop i)⟩)/\n'=n+51)):=by
 refine oP func219 λhnone ff=>?_
 unfold f219
 subst hm
 have hrn:r<n:=by rcases Zv r n with q|q;exact q;rw[hnone r q]at hr;cases hr
 have hrn2:r2<n:=by rcases Zv r2 n with q|q;exact q;rw[hnone r2 q]at hr2;cases hr2
 have hf1 : ∀k,r≠n+k:=λk=>by omega
 have hf2 : ∀k,r2≠n+k:=λk=>by omega
 have hne2:r2≠r:=λq=>hne q.symm
 have hE0:((1:Nat):Int)=1:=rfl
 have hE1:((l.length:Int)-(i:Int)).toNat=l.length-i:=by omega
 have hE2:((i:Int)-((0:Nat):Int)).toNat=i:=by omega
 have hE3:((l.length:Int)+1-(i:Int))=((l.length+1-i:Nat):Int):=by omega
 have hE4:((i:Int)+1).toNat=i+1:=by omega
 have hE5:i+(l.length+1-i)=l.length+1:=by omega
 have hE6:((l.length:Int)+1)=((l.length+1:Nat):Int):=by omega
 have hE7:((i:Int)+1)=((i+1:Nat):Int):=by omega
 have hE8:(((l.length+1:Nat):Int)-((i+1:Nat):Int)).toNat=l.length-i:=by omega
 have hE9:(((l.length+1:Nat):Int)-(i:Int)).toNat=l.length+1-i:=by omega
 have ff:=qI @hr @hr2 @hne @hne2 @hf1 @hf2 @hE1 @hE2 ff
 refine oD Dg ?_
 refine oM Dg ?_ ?_<;>intro c1
 . exfalso;simp at c1
 refine ae Dg ?_
 refine oM Dg ?_ ?_ (hq:=rfl)<;>intro c2
 .
  have hi9:i=l.length:=by have:(i:Int)=(l.length:Int):=(by simpa using c2);omega
  refine um ?_;refine Zdd Dg 2 (r:=r) (by dsimp only;omega) (hrl:=by intro q hq;simp at hq;subst hq;exact hx) (hby:=by rw[show(prog).bytesOf 44=80 from rfl];simp;omega) (h63:=by simp;omega) ?_
  refine qx Dg ?_
  try simp only[gG]
  exact oN (gN (_) (hh:=λ_=>.inl rfl) (hr:=oS (k:=by exact .inl ⟨hi9,by(funext q;simp only[upd];split<;>simp[hi9])⟩)))
 have hi9:i<l.length:=by have : ¬(i:Int)=(l.length:Int):=(by simpa using c2);omega
 refine aU ?_
 refine um ?_
 refine gcap Dg 4 (λc hc1 hc2=>?_)
 refine qx Dg ?_
 try simp only[gG]
 refine cd ?_ ?_<;>intro c3
 .
  have ff:=qB @hE0 @hE3 ff;refine um ?_;refine Zde Dg 8 (r:=r) (off:=0) (n:=i) (c:=c) (kk:=.i64) (l.length+1-i) rfl (by omega) (by rw[show(prog).bytesOf 44=80 from rfl];omega) (by omega) ?_
  refine qx Dg ?_
  try simp only[gG]
  refine um ?_;refine Fg Dg 4 1 ?_;refine qx Dg ?_
  try simp only[gG]
  have ff:=qA @hE0 ff;refine aU ?_;refine dr0 Dg 8 ?_;refine Fg Dg 8 (l.length-i) ?_;refine qx Dg ?_
  try simp only[gG]
  refine ae Dg ?_;exact oN (gN (_) (hh:=λ_=>.inl rfl) (hr:=oS (k:=by exact .inr (.inl ⟨hi9,by rw[hE5],by(have e:=ins_c l (List.replicate (l.length+1-i) [.v (.string (bs [])),.v (.int .i64 0),.v (.int .i64 0),.e,.e]) x i hi9 (by simp);simp only[hE4,LD,YW,XX,XZ,List.singleton_append]at e ⊢;rw[e])⟩))))
 refine fB ?_
 have ff:=qA @hE6 ff
 refine um ?_
 refine gresl Dg 4 (r:=r) (off:=0) (c:=c) (l.length+1) rfl (by have:(l.length:Int)+1<=(c:Int):=(by simpa using c3);omega) ?_
 refine qx Dg ?_
 try simp only[gG]
 refine aU ?_
 have ff:=qD @hE0 @hE7 @hE8 ff
 refine um ?_
 refine Zdf Dg 6 (gB:=251) (t:=22) (u:=4) (r:=r2) (r2:=r) (λq=>hne q.symm) ?_
 refine qx Dg ?_
 try simp only[gG]
 refine cd ?_ ?_ (hq:=rfl)<;>intro c4
 .
  have ff:=qA @hE9 ff;refine aU ?_;refine dr0 Dg 8 ?_;refine Fg Dg 8 (l.length-i) ?_;refine qx Dg ?_
  try simp only[gG]
  refine um ?_;refine Fg Dg 4 1 ?_;refine qx Dg ?_
  try simp only[gG]
  refine ae Dg ?_;exact oN (gN (_) (hh:=λ_=>.inl rfl) (hr:=oS (k:=by exact .inr (.inr ⟨hi9,by(have e:=ins_a l x i hi9;simp only[LD,YW,XX,XZ,List.singleton_append]at e ⊢;rw[e])⟩))))
 exfalso;simp at c4
end Go.Proofs.YtdcenbhgholncaaGreatDoor
namespace Go.Proofs.YtdcenbhgholncaaGreatDoor
open Go.Proofs.Tryz
open Go.DL Go.Str Go.Rec Go.Zon
def nfX(f:FuncId):Bool:=Nat.beq f 218||Nat.beq f 79||Nat.beq f 94||Nat.beq f 272
def dkX(n id:Nat):Option (Nat×Nat):=if Nat.beq n 122&&Nat.beq id 16 then some (7,10)else if Nat.beq n 89&&Nat.beq id 23 then some (3,5)else if Nat.beq n 14&&Nat.beq id 1 then some (7,10)else none
def EF:List (List D)->Bool
 | []=>true
 | q::l=>Nat.beq q.length 5&&EF l
theorem Pe : ∀{l:List (List D)},EF l=true -> ∀q∈l,q.length=5
 | [],_,_,h=>by cases h
 | q::l,e,q',h=>by
  simp only[EF,XT]at e
  rcases Yz.1 h with h|h
  . subst h;exact Nat.eq_of_beq_eq_true e.1
  exact Pe e.2 q' h
def JZ(r i m r2 n:Nat)(h:List (Nat×ax))(l:List (List D))(x:List D):Option (List (D×List (Nat×ax)×Nat)) :=
 if Nat.beq m l.length&&Nat.ble i l.length&&Nat.ble l.length 1000000 && !Nat.beq r r2&&Nat.beq x.length 5&&EF l then
  eP (n+17) λn1=>eP (n+19) λn2=>eP (n+29) λn3=>eP (n+47) λn4=>eP (n+51) λn5=>eP (l.length+1) λk=>yT (l.take i++x::l.drop i) λl' =>
   if Nat.beq i l.length then some [(.mrow n1 0 k,(n1,⟨44,l'⟩)::hdrop r h,n2)]else some [(.mrow n3 0 k,(n3,⟨44,l'⟩)::h,n4),(.mrow r 0 k,(r,⟨44,l'⟩)::h,n5)]
 else none
def Gh(r:Nat)(h:List (Nat×ax)):Option (List (List D)):=match htab h r with
 | some ⟨ty,rows⟩=>if Nat.beq ty 44 then some rows else none
 | none=>none
def TE{r:Nat}{h:List (Nat×ax)}{l:List (List D)}(e:Gh r h=some l):htab h r=some ⟨44,l⟩:=by
 unfold Gh at e
 split at e
 .
  rename_i ty rows e1
  split at e
  .
   rename_i e2
   simp only[XU]at e;subst e;rw[e1,Nat.eq_of_beq_eq_true e2]
  cases e
 cases e
def JY:vK:=λf az h n=>if Nat.beq f 219 then match az with
 | [.mrow r 0 m,.v (.int .i64 (.ofNat i)),.mrow r2 0 1]=>(match Gh r h,Gh r2 h with
  | some l,some [x]=>JZ r i m r2 n h l x
  | _,_=>none)
 | _=>none else none
theorem ZcL(r:Nat)(h:List (Nat×ax)):htab (hdrop r h)=upd (htab h) r none:=by
 funext q
 rw[EZ]
 rfl
def Zds{r i m r2 n:Nat}{h:List (Nat×ax)}{l:List (List D)}{x:List D}{outs:List (D×List (Nat×ax)×Nat)}(hr:htab h r=some ⟨44,l⟩)(hr2:htab h r2=some ⟨44,[x]⟩)(e:JZ r i m r2 n h l x=some outs) :
  dS prog 219 [.mrow r 0 m,.i i,.mrow r2 0 1] (htab h) n λd h' n'=>∃o∈outs,d=o.1/\h'=htab o.2.1/\n'=o.2.2:=by
 unfold JZ at e
 split at e
 .
  rename_i c
  simp only[XT,X5]at c;obtain⟨⟨⟨⟨⟨c1,c2⟩,c3⟩,c4⟩,c5⟩,c6⟩:=c;have c1:=Nat.eq_of_beq_eq_true c1;have c2:=Nat.le_of_ble_eq_true c2;have c3:=Nat.le_of_ble_eq_true c3;have c4:r≠r2:=Nat.ne_of_beq_eq_false c4;have c5:=Nat.eq_of_beq_eq_true c5;have k:=Zcy l x i m (htab h) n r r2 c1 c2 c3 hr hr2 c4 c5 (Pe c6);simp only[jY,Ai]at e;refine k.mono λd h' n' q=>?_
  rcases q with⟨q1,q2,q3,q4⟩|⟨q1,q2,q3,q4⟩|⟨q1,q2,q3,q4⟩
  .
   rw[XY (by rw[q1];exact Nat.beq_refl _)]at e
   simp only[XU]at e;subst e;exact⟨_,Yd.2 rfl,q2,by rw[q3,htab,ZcL],q4⟩
  .
   rw[XW (λw=>by have:=Nat.eq_of_beq_eq_true w;omega)]at e
   simp only[XU]at e;subst e;exact⟨_,.head _,q2,by rw[q3,htab],q4⟩
  rw[XW (λw=>by have:=Nat.eq_of_beq_eq_true w;omega)]at e
  simp only[XU]at e;subst e;exact⟨_,.tail _ (.head _),q2,by rw[q3,htab],q4⟩
 cases e
def Zdr:zf prog JY:=by
 intro f az h n outs e
 unfold JY at e
 split at e
 .
  rename_i c
  have:=Nat.eq_of_beq_eq_true c;subst this
  split at e
  .
   rename_i r m i r2
   split at e
   .
    rename_i l x e1 e2
    exact Zds (TE e1) (TE e2) e
   cases e
  cases e
 cases e
noncomputable def VX(l:List (FuncId×(List D->Option D))):Ev:=⟨tbl l,nfX,JY,dkX⟩
def VX_ok{l:List (FuncId×(List D->Option D))}(h:tY l):vH prog (VX l):=⟨Ve h,Zdr⟩
def uw(az:List D)(d:D):List D->Option D:=λxs=>if qy xs az then some d else none
def xV{f:FuncId}{az:List D}{d:D}(h:PureCt prog f az d):∀xs e,uw az d xs=some e->PureCt prog f xs e:=by
 intro xs e k
 unfold uw at k
 split at k
 .
  rename_i c
  simp only[XU]at k;subst k;rw[tL c];exact h
 cases k
abbrev sX(l:List UInt8):D:=.v (.string ⟨⟨l⟩⟩)
end Go.Proofs.YtdcenbhgholncaaGreatDoor
