/-
  MANY TEXTS OF MINE IN ONE (a claim has a limit of files): DeW3, LkW5, LkW3, LkW7, LkW9, LkW4, LkWa, LkW6, LkWb, LkWc, LkWe, LkW8, LkWd, SgW1, SgW2, SgW3, SgW4, DlW11, SgW6, Rt, IiW1, Wx. Conditions: none.
-/
import Derived.Test.YtdcenbhgholncaaGreatDoorMTS4
set_option linter.unusedVariables false
set_option linter.unusedSimpArgs false
set_option linter.unusedSectionVars false
set_option linter.defProp false
set_option linter.unnecessarySimpa false
namespace Go.Proofs.YtdcenbhgholncaaGreatDoor
open Go.Proofs.Tryz
open Go.DL Go.Str Go.Rec Go.Zon Go.Cmp Go.Jn Go.RowKit
set_option maxRecDepth 10000
variable [Dr]
def WL(z:Zon):(bf z).length<=z.sets.length:=F5 _ _
def Tu(l:List Sgd):(aS l).length<=l.length:=List.length_filter_le _ _
def mI(r:RSet):List D:=[.v (.string (bs r.name)),.i r.ty,.i r.life,.l (r.data.map Dat.d),.e]
def dJ(l:List Sgd)(nx:List RSet):Nat->List (List D)
 | 0=>[]
 | k+1 =>
  if k+1<l.length/\l[k+1]!.set.name=l[k]!.set.name then dJ l nx k++[l[k]!.d]
  else if(bG l nx k).2<nx.length/\nx[(bG l nx k).2]!.name=l[k]!.set.name then dJ l nx k++[l[k]!.d]++[mI nx[(bG l nx k).2]!]
  else dJ l nx k++[l[k]!.d]
section
variable {l : List Sgd} {nx : List RSet} {k : Nat}
@[go_sem]theorem chR_0:dJ l nx 0=[]:=rfl
theorem Iz(h:k+1<l.length/\l[k+1]!.set.name=l[k]!.set.name):dJ l nx (k+1)=dJ l nx k++[l[k]!.d]/\(bG l nx (k+1)).2=(bG l nx k).2:=⟨X0 h,by rw[Qi h]⟩
theorem Bj(h : ¬(k+1<l.length/\l[k+1]!.set.name=l[k]!.set.name))(h2:(bG l nx k).2<nx.length/\nx[(bG l nx k).2]!.name=l[k]!.set.name):dJ l nx (k+1)=dJ l nx k++[l[k]!.d]++[mI nx[(bG l nx k).2]!]/\(bG l nx (k+1)).2=(bG l nx k).2+1:=⟨by rw[dJ,XW h,X0 h2],by rw[Qh h h2]⟩
theorem tZ(h : ¬(k+1<l.length/\l[k+1]!.set.name=l[k]!.set.name))(h2 : ¬((bG l nx k).2<nx.length/\nx[(bG l nx k).2]!.name=l[k]!.set.name)):dJ l nx (k+1)=dJ l nx k++[l[k]!.d]/\(bG l nx (k+1)).2=(bG l nx k).2:=⟨by rw[dJ,XW h,XW h2],by rw[Qg h h2]⟩
theorem vI(l:List Sgd)(nx:List RSet):∀k,cK (dJ l nx k)=(bG l nx k).1.map Sgd.d/\(dJ l nx k).length=(bG l nx k).1.length/\aZ (dJ l nx k)=true
 | 0=>⟨rfl,rfl,rfl⟩
 | k+1=>by
  obtain⟨h1,h2,h3⟩:=vI l nx k;have e1 : ∀s:Sgd,dA s.d=s.d:=λs=>by simp only[Sgd.d,dA,wk,zC,EG]
  have e2 : ∀r:RSet,dA (mI r)=(⟨r,[]⟩:Sgd).d:=λr=>by simp only[mI,Sgd.d,dA,wk,zC,cK,Yp]
  have e3 : ∀s:Sgd,bK s.d=true:=λs=>by simp[Sgd.d,bK,D.nr,sJ,sI]
  have e4 : ∀r:RSet,bK (mI r)=true:=λr=>by simp[mI,bK,D.nr,sJ,aZ]
  rw[zB]at h1 ⊢;have e5 : ∀(A B:List (List D)),aZ (A++B)=(aZ A&&aZ B):=λA B=>by
   induction A with
   | nil=>simp[aZ]
   | cons a A ih=>simp only[XX,aZ,ih,Zq]
  by_cases a:k+1<l.length/\l[k+1]!.set.name=l[k]!.set.name
  . rw[(Iz a).1,Qi a];exact⟨by rw[YP,h1,YP,List.map_singleton,e1];rfl,by simp[h2],by rw[e5,h3];simp[aZ,e3]⟩
  by_cases b:(bG l nx k).2<nx.length/\nx[(bG l nx k).2]!.name=l[k]!.set.name
  . rw[(Bj a b).1,Qh a b];exact⟨by rw[YP,YP,h1,YP,YP,List.map_singleton,List.map_singleton,e1,e2];rfl,by simp[h2],by rw[e5,e5,h3];simp[aZ,e3,e4]⟩
  rw[(tZ a b).1,Qg a b];exact⟨by rw[YP,h1,YP,List.map_singleton,e1];rfl,by simp[h2],by rw[e5,h3];simp[aZ,e3]⟩
end
theorem ZcT(l:List Sgd)(nx:List RSet):cK (dJ l nx l.length)=(Eh l nx).map Sgd.d:=(vI l nx _).1
def LK{nx:List RSet}{c:Nat}(h:c<nx.length):((nx.drop c).map RSet.d).getD 0 []=[.v (.string (bs nx[c]!.name)),.i nx[c]!.ty,.i nx[c]!.life,.l (nx[c]!.data.map Dat.d)]:=by
 rw[Yr h,getElem!_pos nx c h];rfl
def LG{nx:List RSet}{c:Nat}(h:c<nx.length):List.drop 1 ((nx.drop c).map RSet.d)=(nx.drop (c+1)).map RSet.d:=by
 rw[<-List.map_drop,Z8]
theorem ZcQ{z:Zon}(h:aJ z=false):gG z=(⟨[],[]⟩,1):=X0 h
theorem ZcP{z:Zon}(hz:aJ z=true)(h:aJ (plainOf z)=false):gG z=(⟨[],[]⟩,1):=by unfold gG;rw[XW (by rw[hz];decide),X0 h]
theorem ZcO{z:Zon}(hz:aJ z=true)(h:aJ (plainOf z)=true)(h2:20000<(plainOf z).sets.length+(bf (plainOf z)).length):gG z=(⟨[],[]⟩,2):=by unfold gG;rw[XW (by rw[hz];decide),XW (by rw[h];decide),X0 h2]
theorem ZcN{z:Zon}(hz:aJ z=true)(h:aJ (plainOf z)=true)(h2 : ¬20000<(plainOf z).sets.length+(bf (plainOf z)).length):gG z=(⟨z.apex,Eh (plainOf z).sets (Zon.nextF (plainOf z) (bf (plainOf z)))⟩,0):=by unfold gG;rw[XW (by rw[hz];decide),XW (by rw[h];decide),XW h2]
def Tv{l:List Sgd}(h:iA l){k:Nat}(hk:k<(aS l).length):yX (aS l)[k]! := by
 have h1:(aS l)[k]! ∈ aS l:=by rw[getElem!_pos (aS l) k hk];exact Yq hk
 have h2:(aS l)[k]! ∈ l:=(Zi.1 h1).1
 obtain⟨i,hi,h3⟩:=nS.1 h2
 rw[<-h3]
 exact h.2 i hi
def WG(z:Zon)(ns:List Str):(Zon.nextF z ns).length=ns.length:=by simp[Zon.nextF]
def WJ{z:Zon}(h:aJ z=true):PureCt prog 30 [.agg z.d] (.tuple [.l ((bf z).map sR),.i 0]):=by
 have:=I5 z
 rwa [X0 h,X0 h]at this
def WK{z:Zon}(h:aJ z=false):PureCt prog 30 [.agg z.d] (.tuple [.l [],.i 1]):=by
 have:=I5 z
 rwa [XW (by rw[h];decide),XW (by rw[h];decide)]at this
set_option maxHeartbeats 2000000 in
def Px(z:Zon):PureCt prog 9 [.agg z.d] (.tuple [.agg (gG z).1.d,.i (gG z).2]):=by
 refine oO func9 λff=>?_
 unfold Tryz.f9
 refine ae Tg ?_
 refine oM Tg ?_ ?_ (hok:=oF (vQ z)) (hq:=rfl)<;>intro c1
 .
  have c1:aJ z=false:=by simpa using c1
  refine ae Tg ?_;exact oN (fin 2 (hr:=oS (k:=by rw[ZcQ c1];try rfl)) (hk:=by(try simp only[go_sem,ff]);all_goals (exact(vI _ _ _).2.2)))
 have hz:aJ z=true:=by simpa using c1
 have hl:=uT hz
 have hl2:=Tu z.sets
 have hPe:(⟨z.apex,aS z.sets⟩:Zon)=plainOf z:=rfl
 have hPs:(plainOf z).sets=aS z.sets:=rfl
 have hnl:=WL (plainOf z)
 rw[hPs]at hnl
 have ff:=qA @hPe ff
 refine ae Tg ?_
 refine ae Tg ?_ (hok:=oF (ZbY z.sets hl))
 rcases(by cases aJ (plainOf z)<;>simp:aJ (plainOf z)=true\/aJ (plainOf z)=false)with hp|hp
 .
  have ff:=qA @hp ff;refine ae Tg ?_ (hok:=oF (WJ hp));refine oM Tg ?_ ?_ (hq:=rfl)<;>intro c2
  . simp at c2
  refine oK Tg ?_ ?_<;>intro c3
  .
   have h3:20000<(plainOf z).sets.length+(bf (plainOf z)).length:=by rw[hPs];omega
   refine ae Tg ?_;exact oN (fin 2 (hr:=oS (k:=by rw[ZcO hz hp h3];try rfl)) (hk:=by(try simp only[go_sem,ff]);all_goals (exact(vI _ _ _).2.2)))
  have h3 : ¬20000<(plainOf z).sets.length+(bf (plainOf z)).length:=by rw[hPs];omega
  have hn9:(bf (plainOf z)).length<=20000:=by omega
  have hxl:=WG (plainOf z) (bf (plainOf z));refine ae Tg ?_ (hok:=oF (Zb5 (plainOf z) (bf (plainOf z)) hp hn9));refine ae Tg ?_;refine wA Tg ?_;refine lq (Nat×Nat×Nat×Nat×Nat) [2,53,54] (λ⟨k,p,c,q4,nx⟩=>(k<=(aS z.sets).length/\1<q4/\q4<p/\q4<c/\p≠c/\p<nx/\c<nx,(aS z.sets).length-k,[(4,.mptr q4 0 0),(7,.l (((Zon.nextF (Zon.plainOf z) (bf (Zon.plainOf z))).drop (bG (aS z.sets) (Zon.nextF (Zon.plainOf z) (bf (Zon.plainOf z))) k).2).map RSet.d)),(8,.mptr c 0 0),(55,.i k)],[(0,⟨24,[z.d]⟩),(1,⟨24,[[.v (.string (bs [])),.e]]⟩),(q4,⟨24,[[.v (.string (bs z.apex)),.l ((aS z.sets).map Sgd.d)]]⟩),(c,⟨24,[[.v (.string (bs z.apex)),.mrow p 0 (dJ (aS z.sets) (Zon.nextF (Zon.plainOf z) (bf (Zon.plainOf z))) k).length]]⟩),(p,⟨44,dJ (aS z.sets) (Zon.nextF (Zon.plainOf z) (bf (Zon.plainOf z))) k⟩)],nx)) (0,44,46,9,_) ?_
  rintro⟨k,p,c,q4,nx⟩ ⟨hk,hq1,hqp,hqc,hpc,hx,hxc⟩;simp only[XX,XZ];have n0:0<nx:=by omega
  have n1:1<nx:=by omega
  have n4:q4<nx:=by omega
  have hw:=(vI (aS z.sets) (Zon.nextF (Zon.plainOf z) (bf (Zon.plainOf z))) k).2.1;have hw2:=(Iy (aS z.sets) (Zon.nextF (Zon.plainOf z) (bf (Zon.plainOf z))) k).1;have hw3:=(Iy (aS z.sets) (Zon.nextF (Zon.plainOf z) (bf (Zon.plainOf z))) k).2;have ff:=qH @hx @hxc @n0 @n1 @n4 (nH 0 1) (nH 0 q4) (qI (nH 0 c) (nH 0 p) (nH 1 q4) (nH 1 c) (nH 1 p) (nH c q4) (nH p q4) (nH c p) ff);refine wH Tg ?_ ?_<;>intro c4
  .
   have hk2:k<(aS z.sets).length:=by simpa using c4
   have qP:=Tv (Bv hz) hk2;have ff:=qA (bU hk2) ff;refine wB ?_;refine ae Tg ?_;refine ae Tg ?_ (hok:=oH (Zb6 (aS z.sets)[k]! qP));refine aY ?_
   by_cases hk3:k+1<(aS z.sets).length
   .
    have g3:=bU hk3;have e1:((k:Int)+1).toNat=k+1:=by omega
    have hB:decide (((k:Int)+1)<((aS z.sets).length:Int))=true:=YQ om;have ff:=qD @g3 @e1 @hB ff;refine wE Tg ?_ ?_<;>intro c5
    .
     refine aP ?_;refine aA Tg ?_
     show ∃_,_
     have hst:=(Iz (l:=(aS z.sets)) (nx:=(Zon.nextF (Zon.plainOf z) (bf (Zon.plainOf z)))) (k:=k) (by grind)).1
     have hs2:=(Iz (l:=(aS z.sets)) (nx:=(Zon.nextF (Zon.plainOf z) (bf (Zon.plainOf z)))) (k:=k) (by grind)).2
     have hs3:(dJ (aS z.sets) (Zon.nextF (Zon.plainOf z) (bf (Zon.plainOf z))) k).length+1=(dJ (aS z.sets) (Zon.nextF (Zon.plainOf z) (bf (Zon.plainOf z))) (k+1)).length:=by rw[hst];simp
     simp only[Sgd.d,mI]at hst;have ff:=qD hst.symm hs2 hs3 ff;exact ax (k+1,(nx+12),c,q4,_)
    refine dS ?_
    by_cases hcn:(bG (aS z.sets) (Zon.nextF (Zon.plainOf z) (bf (Zon.plainOf z))) k).2<(Zon.nextF (Zon.plainOf z) (bf (Zon.plainOf z))).length
    .
     have g4:=LK hcn;have g5:=LG hcn;have hC:decide ((0:Int)<(((Zon.nextF (Zon.plainOf z) (bf (Zon.plainOf z))).drop (bG (aS z.sets) (Zon.nextF (Zon.plainOf z) (bf (Zon.plainOf z))) k).2).length:Int))=true:=YQ (by rw[Zf];omega)
     have ff:=qD @g4 @g5 @hC ff;refine wE Tg ?_ ?_<;>intro c6
     .
      refine ae Tg ?_;refine aA Tg ?_ (hok:=oS (k:=by refine⟨⟨by rw[Zf];omega,Int.le_refl _⟩,λr hr=>?_⟩;obtain⟨x,_,rfl⟩:=Yh.1 hr;rfl))
      refine aA Tg ?_
      show ∃_,_
      have hst:=(Bj (l:=(aS z.sets)) (nx:=(Zon.nextF (Zon.plainOf z) (bf (Zon.plainOf z)))) (k:=k) (by grind) (by grind)).1
      have hs2:=(Bj (l:=(aS z.sets)) (nx:=(Zon.nextF (Zon.plainOf z) (bf (Zon.plainOf z)))) (k:=k) (by grind) (by grind)).2
      have hs3:(dJ (aS z.sets) (Zon.nextF (Zon.plainOf z) (bf (Zon.plainOf z))) k).length+1+1=(dJ (aS z.sets) (Zon.nextF (Zon.plainOf z) (bf (Zon.plainOf z))) (k+1)).length:=by rw[hst];simp
      simp only[Sgd.d,mI]at hst;have ff:=qD hst.symm hs2 hs3 ff;exact ax (k+1,(nx+55),c,q4,_)
     refine wC Tg ?_
     show ∃_,_
     have hst:=(tZ (l:=(aS z.sets)) (nx:=(Zon.nextF (Zon.plainOf z) (bf (Zon.plainOf z)))) (k:=k) (by grind) (by grind)).1
     have hs2:=(tZ (l:=(aS z.sets)) (nx:=(Zon.nextF (Zon.plainOf z) (bf (Zon.plainOf z)))) (k:=k) (by grind) (by grind)).2
     have hs3:(dJ (aS z.sets) (Zon.nextF (Zon.plainOf z) (bf (Zon.plainOf z))) k).length+1=(dJ (aS z.sets) (Zon.nextF (Zon.plainOf z) (bf (Zon.plainOf z))) (k+1)).length:=by rw[hst];simp
     simp only[Sgd.d,mI]at hst;have ff:=qD hst.symm hs2 hs3 ff;exact ax (k+1,(nx+12),c,q4,_)
    have hC:decide ((0:Int)<(((Zon.nextF (Zon.plainOf z) (bf (Zon.plainOf z))).drop (bG (aS z.sets) (Zon.nextF (Zon.plainOf z) (bf (Zon.plainOf z))) k).2).length:Int))=false:=Y3 (by rw[Zf];omega)
    have ff:=qA @hC ff;refine wG Tg ?_ ?_ (hq:=rfl)<;>intro c6
    . simp at c6
    refine wC Tg ?_
    show ∃_,_
    have hst:=(tZ (l:=(aS z.sets)) (nx:=(Zon.nextF (Zon.plainOf z) (bf (Zon.plainOf z)))) (k:=k) (by grind) (by grind)).1
    have hs2:=(tZ (l:=(aS z.sets)) (nx:=(Zon.nextF (Zon.plainOf z) (bf (Zon.plainOf z)))) (k:=k) (by grind) (by grind)).2
    have hs3:(dJ (aS z.sets) (Zon.nextF (Zon.plainOf z) (bf (Zon.plainOf z))) k).length+1=(dJ (aS z.sets) (Zon.nextF (Zon.plainOf z) (bf (Zon.plainOf z))) (k+1)).length:=by rw[hst];simp
    simp only[Sgd.d,mI]at hst;have ff:=qD hst.symm hs2 hs3 ff;exact ax (k+1,(nx+12),c,q4,_)
   have hB:decide (((k:Int)+1)<((aS z.sets).length:Int))=false:=Y3 om;have ff:=qA @hB ff;refine wG Tg ?_ ?_ (hq:=rfl)<;>intro c5
   . simp at c5
   refine dS ?_
   by_cases hcn:(bG (aS z.sets) (Zon.nextF (Zon.plainOf z) (bf (Zon.plainOf z))) k).2<(Zon.nextF (Zon.plainOf z) (bf (Zon.plainOf z))).length
   .
    have g4:=LK hcn;have g5:=LG hcn;have hC:decide ((0:Int)<(((Zon.nextF (Zon.plainOf z) (bf (Zon.plainOf z))).drop (bG (aS z.sets) (Zon.nextF (Zon.plainOf z) (bf (Zon.plainOf z))) k).2).length:Int))=true:=YQ (by rw[Zf];omega)
    have ff:=qD @g4 @g5 @hC ff;refine wE Tg ?_ ?_<;>intro c6
    .
     refine ae Tg ?_;refine aA Tg ?_ (hok:=oS (k:=by refine⟨⟨by rw[Zf];omega,Int.le_refl _⟩,λr hr=>?_⟩;obtain⟨x,_,rfl⟩:=Yh.1 hr;rfl))
     refine aA Tg ?_
     show ∃_,_
     have hst:=(Bj (l:=(aS z.sets)) (nx:=(Zon.nextF (Zon.plainOf z) (bf (Zon.plainOf z)))) (k:=k) (by grind) (by grind)).1
     have hs2:=(Bj (l:=(aS z.sets)) (nx:=(Zon.nextF (Zon.plainOf z) (bf (Zon.plainOf z)))) (k:=k) (by grind) (by grind)).2
     have hs3:(dJ (aS z.sets) (Zon.nextF (Zon.plainOf z) (bf (Zon.plainOf z))) k).length+1+1=(dJ (aS z.sets) (Zon.nextF (Zon.plainOf z) (bf (Zon.plainOf z))) (k+1)).length:=by rw[hst];simp
     simp only[Sgd.d,mI]at hst;have ff:=qD hst.symm hs2 hs3 ff;exact ax (k+1,(nx+55),c,q4,_)
    refine wC Tg ?_
    show ∃_,_
    have hst:=(tZ (l:=(aS z.sets)) (nx:=(Zon.nextF (Zon.plainOf z) (bf (Zon.plainOf z)))) (k:=k) (by grind) (by grind)).1
    have hs2:=(tZ (l:=(aS z.sets)) (nx:=(Zon.nextF (Zon.plainOf z) (bf (Zon.plainOf z)))) (k:=k) (by grind) (by grind)).2
    have hs3:(dJ (aS z.sets) (Zon.nextF (Zon.plainOf z) (bf (Zon.plainOf z))) k).length+1=(dJ (aS z.sets) (Zon.nextF (Zon.plainOf z) (bf (Zon.plainOf z))) (k+1)).length:=by rw[hst];simp
    simp only[Sgd.d,mI]at hst;have ff:=qD hst.symm hs2 hs3 ff;exact ax (k+1,(nx+12),c,q4,_)
   have hC:decide ((0:Int)<(((Zon.nextF (Zon.plainOf z) (bf (Zon.plainOf z))).drop (bG (aS z.sets) (Zon.nextF (Zon.plainOf z) (bf (Zon.plainOf z))) k).2).length:Int))=false:=Y3 (by rw[Zf];omega)
   have ff:=qA @hC ff;refine wG Tg ?_ ?_ (hq:=rfl)<;>intro c6
   . simp at c6
   refine wC Tg ?_
   show ∃_,_
   have hst:=(tZ (l:=(aS z.sets)) (nx:=(Zon.nextF (Zon.plainOf z) (bf (Zon.plainOf z)))) (k:=k) (by grind) (by grind)).1
   have hs2:=(tZ (l:=(aS z.sets)) (nx:=(Zon.nextF (Zon.plainOf z) (bf (Zon.plainOf z)))) (k:=k) (by grind) (by grind)).2
   have hs3:(dJ (aS z.sets) (Zon.nextF (Zon.plainOf z) (bf (Zon.plainOf z))) k).length+1=(dJ (aS z.sets) (Zon.nextF (Zon.plainOf z) (bf (Zon.plainOf z))) (k+1)).length:=by rw[hst];simp
   simp only[Sgd.d,mI]at hst;have ff:=qD hst.symm hs2 hs3 ff;exact ax (k+1,(nx+12),c,q4,_)
  have e8:k=(aS z.sets).length:=by omega
  subst e8;refine aP ?_;refine y5 c 1 p (rows:=dJ (aS z.sets) (Zon.nextF (Zon.plainOf z) (bf (Zon.plainOf z))) (aS z.sets).length) (off:=0) (len:=(dJ (aS z.sets) (Zon.nextF (Zon.plainOf z) (bf (Zon.plainOf z))) (aS z.sets).length).length) ev rfl ev om om (vI _ _ _).2.2 ?_;rw[Yl,Zw];simp only[Zh,Y4];refine ae Tg ?_;exact oN (fin 2 (hr:=oS (k:=by rw[ZcT,ZcN hz hp h3];try rfl)) (hk:=by(try simp only[go_sem,ff]);all_goals (exact(vI _ _ _).2.2)))
 have ff:=qA @hp ff
 refine ae Tg ?_ (hok:=oF (WK hp))
 refine aY ?_
 refine wG Tg ?_ ?_ (hq:=rfl)<;>intro c2
 . refine ae Tg ?_;exact oN (fin 2 (hr:=oS (k:=by rw[ZcP hz hp];try rfl)) (hk:=by(try simp only[go_sem,ff]);all_goals (exact(vI _ _ _).2.2)))
 simp at c2
end Go.Proofs.YtdcenbhgholncaaGreatDoor
namespace Go.Proofs.YtdcenbhgholncaaGreatDoor
open Go.Proofs.Tryz
open Go.DL Go.Str Go.Rec Go.Zon Go.Cmp Go.Jn Go.RowKit
set_option maxRecDepth 10000
variable [Dr]
@[go_sem]theorem all_sR9{l:List Str}:(∀r∈l.map sR,r.length=1)=True:=by
 apply eq_true
 intro r hr
 obtain⟨x,_,rfl⟩:=Yh.1 hr
 rfl
theorem CU(rest:Str):split rest=(if bN rest 46<0 then[]else split (rest.take (bN rest 46).toNat))++[rest.drop (bN rest 46+1).toNat]:=by
 have h1:=pg rest
 rw[lI]at h1
 have h2:=congrArg List.reverse h1
 rw[List.reverse_reverse,List.reverse_cons]at h2
 rw[<-h2]
 split
 . rfl
 rw[pg,List.reverse_reverse]
theorem XA{rest:Str}(h : ¬bN rest 46<0):split rest=split (rest.take (bN rest 46).toNat)++[rest.drop (bN rest 46+1).toNat]:=by
 have:=CU rest
 rwa [XW h]at this
theorem XC{rest:Str}(h:bN rest 46<0):split rest=[rest.drop (bN rest 46+1).toNat]:=by
 have:=CU rest
 rwa [X0 h,XZ]at this
def Sr(rest:Str):0<(split rest).length:=by rw[CU];simp
def U4:List.replicate 8 [D.v (.string (bs []))]=(iZ []).map sR:=rfl
def WV(l:List Str)(i:Nat)(a:Str):(l.map sR).set i [.v (.string (bs a))]=(l.set i a).map sR:=List.map_set.symm
def Ma(s:Str):PureCt prog 206 [.v (.string (bs s))] (.tuple [.l ((if ai s then aL s else[]).map sR),.i (if ai s then 0 else 11)]):=by
 refine oO func206 λff=>?_
 unfold f206
 refine oC Tg ?_
 refine oM Tg ?_ ?_ (hok:=oF (vU _)) (hq:=rfl)<;>intro c1
 . exact fr Tg (K:=2) (k:=by rw[show ai s=false by simpa using c1];rfl)
 have c1:ai s=true:=by simpa using c1
 have hsl0:=gT c1
 have ff:=qA @U4 ff
 refine oD Tg ?_
 refine wA Tg ?_
 refine A9 (by simp only[go_sem,ff]) ev func208 rfl IB (by simp[f208]) rfl (λl rL hp ha hb hn=>?_)
 unfold f208
 refine oK Tg ?_ ?_<;>intro d0
 .
  refine iP ?_;refine⟨.inr rfl,none,rfl,?_⟩;refine y5 8 0 7 (rows:=(iZ ([]:List Str)).map sR) (off:=0) (len:=8) ev rfl ev (by omega) (Nat.le_of_eq (by rw[Y8,xY (by simp only[YI,ZH];omega)])) LU ?_
  simp only[Yl,Zh,Y4];have xu:=xY (ls:=[]) (Yk _);have AP:=JS (ls:=[]) (Yk _);have ht9:((iZ []).map sR).take 8=(iZ []).map sR:=rfl;have hd8:((iZ []).map sR).drop 8=[]:=rfl;have ff:=qD @ht9 @xu @hd8 ff;exact fr Tg (K:=2) (k:=by rw[c1];unfold aL;rw[X0 d0];rfl)
 have hs8:(split s).length<=8:=(Mi c1 d0).2.1
 refine ae Tg ?_
 refine dZ ?_
 refine lq (Str×(List Str)×Int×Nat) [1] (λ⟨rest,ls,fst,nx⟩=>(rest.length<=60/\12<nx/\split s=split rest++ls/\(fst=8-(ls.length:Int)),rest.length,[(4,.v (.string (bs rest)))],[(7,⟨9,(iZ ls).map sR⟩),(8,⟨62,[[.mrow 7 0 8]]⟩),(12,⟨3,[[.i fst]]⟩)],nx)) (s,[],8,_) ?_ (hA:=⟨hsl0,oW,(by first|(simp)|(dsimp only;simp)),rfl⟩)
 rintro⟨rest,ls,fst,nx⟩ ⟨hl,hx,hv,hf⟩
 simp only[XX,XZ]
 have hL:=Aj rest 46
 have n12:7<nx:=by omega
 have n13:8<nx:=by omega
 have hlr:=CU rest
 have hls:ls.length<8:=by(have h9:=congrArg List.length hv;rw[YE]at h9;have:=Sr rest;omega)
 have e1:(fst-1).toNat=8-ls.length-1:=by omega
 have hsl:=xY (ls:=ls) (by omega)
 have ff:=qI @hx @n12 @n13 @e1 @hsl (gu (l:=iZ ls) (n:=8-ls.length-1) (by omega)) (WV (iZ ls) (8-ls.length-1) (rest.drop (bN rest 46+1).toNat)) (SB (a:=(rest.drop (bN rest 46+1).toNat)) hls) ff
 refine dZ ?_
 refine ae Tg ?_ (hok:=jd @CS)
 refine aY ?_
 refine aY ?_
 refine DR (C:=Tg) (r:=rL) 5 (oZ rfl) rfl rfl rfl (by simp only[YD,Y0,go_sem,ff];exact rfl) ?_ ev (by first|(simp only[go_sem,ff];done)|(simp only[go_sem,ff];exact rfl)) (by simp only[go_sem,ff]) ev (by rw[hp];rfl) (by rw[hp,hn];show ∀p∈[19],p<33;decide) ?_
 .
  try simp only[go_sem,ff]
  all_goals (first|done|(repeat' (with_reducible apply And.intro))<;>first|omega|(with_reducible assumption)|(intros;omega)|(intros;simp only[XV,X4,Ya,XT,Yb,X7,Ym]at *;omega)|(simp_all;done)|(simp_all;omega))
 rw[ha,hb,hp,hn]
 show DW _ _ _ _ { n:=_,t:=lH _ [19] _,h:=_,nx:=_ }
 simp only[zN,zM]
 refine aA Tg ?_
 refine⟨rfl,?_⟩
 refine dZ ?_
 refine ae Tg ?_
 refine aA Tg ?_
 refine⟨rfl,true,none,⟨rfl,rfl⟩,⟨_,_,_,_,_,_⟩,by simp only[Yw,Yl,S.put,go_sem,ff];exact rfl,?_,?_⟩
 .
  try simp only[go_sem,ff]
  all_goals (first|done|(repeat' (with_reducible apply And.intro))<;>first|omega|(with_reducible assumption)|(intros;omega)|(intros;simp only[XV,X4,Ya,XT,Yb,X7,Ym]at *;omega)|(simp_all;done)|(simp_all;omega))
 try simp only[gz]
 refine cd ?_ ?_<;>intro d3
 .
  refine iP ?_;refine⟨.inr rfl,none,rfl,?_⟩;refine y5 8 0 7 (rows:=(iZ ((rest.drop (bN rest 46+1).toNat)::ls)).map sR) (off:=0) (len:=8) ev rfl ev (by omega) (Nat.le_of_eq (by rw[Y8,xY (by simp only[YI,ZH];omega)])) LU ?_
  simp only[Yl,Zh,Y4];have xu:=xY (ls:=((rest.drop (bN rest 46+1).toNat)::ls)) (by rw[YI];omega)
  have AP:=JS (ls:=((rest.drop (bN rest 46+1).toNat)::ls)) (by rw[YI];omega)
  rw[YI,<-Nat.sub_sub]at AP;have ht9:((iZ ((rest.drop (bN rest 46+1).toNat)::ls)).map sR).take 8=(iZ ((rest.drop (bN rest 46+1).toNat)::ls)).map sR:=Yg (by rw[Y8,xu];exact X3 _)
  have hd8:=AP;rw[ht9]at hd8;have ff:=qD @ht9 @xu @hd8 ff;exact fr Tg (K:=2) (k:=by rw[c1];unfold aL;rw[XW d0,uB,hv,XC d3];rfl)
 refine wC Tg ?_
 exact ax (rest.take (bN rest 46).toNat,(rest.drop (bN rest 46+1).toNat)::ls,fst-1,_) (h1:=⟨(by first|(first|omega|(simp;omega))|(dsimp only;first|omega|(simp;omega))),iv,(by(try dsimp only);rw[hv,XA (by omega)];simp),(by first|(rw[List.length_cons];omega)|(dsimp only;rw[List.length_cons];omega))⟩) (h2:=by show(_:Nat)<_;(simp;omega))
def Gl{h hs:H}{n r:Nat}{y:Option av}(hn : ∀q,n<=q->h q=none)(hr:hs r=y)(hk : ∀q,q<n->q≠r->hs q=h q):∀q,upd h r y q=hs q\/upd h r y q=none:=λq=>by
 by_cases e:q=r
 . subst e;left;rw[bu,hr]
 rw[aI _ _ _ _ e]
 by_cases e2:q<n
 . exact .inl (hk q e2 e).symm
 exact .inr (hn q om)
def less_upd{h hs:H}{n:Nat}(hn : ∀q,n<=q->h q=none)(hk : ∀q,q<n->hs q=h q):∀q,h q=hs q\/h q=none:=λq=>by
 by_cases e:q<n
 . exact .inl (hk q e).symm
 exact .inr (hn q om)
def eZ{h1 hs:H}{r:Nat}{y:Option av}(h : ∀q,h1 q=hs q\/h1 q=none)(hr:hs r=y):∀q,upd h1 r y q=hs q\/upd h1 r y q=none:=λq=>by
 by_cases e:q=r
 . subst e;left;rw[bu,hr]
 rw[aI _ _ _ _ e];exact h q
@[go_sem]theorem ZeI{m:IM}:kg prog 27 (lU m)=true:=by
 induction m with
 | nil=>rfl
 | cons p m ih=>rw[xg];simp only[kg,ih,Qst.d,ko27,ZW]
def gM(v:Vw)(n:Str)(t:Int):PureCt prog 126 [.eptr v.d,.v (.string (bs n)),.i t] (.i (aR v.z.sets ⟨n,t⟩)):=by
 refine oO func126 λff=>?_
 unfold f126
 refine ae Tg ?_
 refine aY ?_
 rcases hp:lZ (nK v.z.sets v.z.sets.length) ⟨n,t⟩with _|x
 .
  have ff:=qA @hp ff;refine ae Tg ?_;refine wG Tg ?_ ?_ (hq:=rfl)<;>intro c1
  . simp at c1
  refine dS ?_;exact fr Tg (k:=by simp[aR,hp])
 have ff:=qA @hp ff
 refine ae Tg ?_
 refine wG Tg ?_ ?_ (hq:=rfl)<;>intro c1
 . exact fr Tg (k:=by simp[aR,hp])
 simp at c1
def gZ(v:Vw):PureCt prog 130 [.eptr v.d] (.i (aR v.z.sets ⟨v.z.apex,4⟩)):=by
 refine oO func130 λff=>?_
 unfold f130
 refine ae Tg ?_
 exact ft Tg (hok:=oH (gM v v.z.apex 4))
def Xm(i:Int)(v:Vw)(n:Str)(h0:0<=i)(h1:i.toNat<v.z.sets.length):PureCt prog 203 [.i i,.eptr [.eptr v.d],.eptr [.v (.string (bs n))]] (.b (decide (0<=mW v.z.sets[i.toNat]!.set.name n))):=by
 refine oO func203 λff=>?_
 unfold f203
 have ff:=qA (bU h1) ff
 refine ae Tg ?_
 exact ft Tg (hok:=oH MH)
def Xa(i:Int)(v:Vw)(n:Str)(h0:0<=i)(h1:i.toNat<v.z.sets.length):PureCt prog 245 [.i i,.eptr [.eptr v.d],.eptr [.v (.string (bs n))]] (.b (decide (0<mW v.z.sets[i.toNat]!.set.name n))):=by
 refine oO func245 λff=>?_
 unfold f245
 have ff:=qA (bU h1) ff
 refine ae Tg ?_
 exact ft Tg (hok:=oH MH)
def Zaj(l:List Int)(x:Int)(hl:l.length<=1000010):PureCt prog 243 [.l (l.map iR),.i x] (.i (sV l x)):=by
 refine oO func243 λff=>?_
 unfold f243
 refine ae Tg ?_
 refine wA Tg ?_
 refine lq (Nat×Nat) [0,1,7] (λ⟨k,nx⟩=>(k<=l.length/\(∀i,i<k->l[i]! ≠ x),l.length-k,[(8,.i k)],[],nx)) (0,_) ?_ (hA:=⟨iv,(by first|(intro i hi;omega)|(dsimp only;intro i hi;omega))⟩)
 rintro⟨k,nx⟩ ⟨hk,hv⟩
 simp only[XX,XZ]
 refine wH Tg ?_ ?_<;>intro c1
 .
  have hk2:k<l.length:=by simpa using c1
  have ff:=qA (Dm hk2) ff;refine wB ?_;refine ae Tg ?_;refine wE Tg ?_ ?_<;>intro c2
  . exact fr Tg (k:=by rw[Zao hk2 c2.symm hv])
  refine wC Tg ?_;exact ax (k+1,_) (h1:=⟨iv,(by(try dsimp only);intro i hi;by_cases e:i=k;subst e;exact λe2=>c2 e2.symm;exact hv i om)⟩)
 have e8:k=l.length:=by omega
 subst e8
 refine aP ?_
 exact fr Tg (k:=by rw[Zap hv])
def Zcx(l:List Int)(x:Int)(hl:l.length<=1000010):PureCt prog 201 [.l (l.map iR),.i x] (.b (decide (x∈l))):=by
 refine oO func201 λff=>?_
 unfold f201
 refine ae Tg ?_
 exact fr Tg (hok:=oH (Zaj l x hl)) (k:=by rw[Zaq])
def P5(ps:List Int)(k:Nat)(x:Int)(h:ps.length<=1000010):PureCt prog 201 [.l ((ps.map iR).take k),.i x] (.b (decide (x∈ps.take k))):=by
 rw[<-Z6]
 exact Zcx (ps.take k) x (by rw[Zu];omega)
def Rj(v:Vw)(r:Nat)(h:H)(n:Nat)(hv:h r=some ⟨101,[v.d]⟩)(hf:iA v.z.sets)(kd:Int)(ps:List Int)(hp : ∀i,i<ps.length->ps[i]! < (v.z.sets.length:Int))(hpl:ps.length<=1000010):dz prog 128 [.mptr r 0 0,.i kd,.l (ps.map iR)] h n (λd h' n'=>d = .agg (⟨kd,iI v.z.sets ps,[]⟩:dV).d/\h'=h/\n<=n'):=by
 refine oP func128 λhnone ff=>?_
 unfold f128
 have hrn:r<n:=Nat.lt_of_not_le λq=>by(rw[hnone r q]at hv;cases hv)
 have ff:=qE @hv (nH n r) (nH (n+3) r) (nH n (n+3)) ff
 refine oC Tg ?_
 refine aY ?_
 refine Pj (n+3) 1 36 44 ev (by rfl) (by simp only[go_sem,ff]) ?_
 simp only[Zh,Y4]
 refine ae Tg ?_
 refine dZ ?_
 refine yI (Nat×Nat×Nat) [0,2,6,7,13,14] (λ⟨k,p,nx⟩=>(k<=ps.length/\p<nx/\n+3<p,ps.length-k,[(15,.i k)],upd (upd (upd h n (some ⟨36,[[.v (.int .i64 0),.e,.v (.string (bs []))]]⟩)) (n+3) (some ⟨36,[[.i kd,.mrow p 0 (jX v.z.sets ps (k)).length,.v (.string (bs []))]]⟩)) p (some ⟨44,(jX v.z.sets ps (k)).map Sgd.d⟩),nx)) (0,(n+5),_) ?_ (qN:=by refine eZ (eZ (eZ (less_upd hnone (λq hq=>by simp only[upd];repeat rw[XW (by omega)])) ?_) ?_) ?_<;>first|(simp only[go_sem,ff];done)|(simp only[go_sem,ff];exact rfl))
 rintro⟨k,p,nx⟩ ⟨hk,hx,hp0⟩
 simp only[XX,XZ]
 have n0:n<nx:=by omega
 have n1:n+3<nx:=by omega
 have n2:r<nx:=by omega
 have hpl9:=FK v.z.sets ps k
 have ff:=qB @hx @n0 (qI @n1 @n2 (nH n r) (nH (n+3) r) (nH p r) (nH n (n+3)) (nH n p) (nH (n+3) p) ff)
 refine wH Tg ?_ ?_<;>intro c1
 .
  have hk2:k<ps.length:=by simpa using c1
  have hpk:=hp k hk2;have ff:=qA (Dm hk2) ff;refine wB ?_;refine ae Tg ?_;refine aY ?_
  by_cases hneg:ps[k]! < 0
  .
   have e9:decide (ps[k]! < 0)=true:=YQ hneg;have ff:=qA @e9 ff;refine wE Tg ?_ ?_ (hok:=jd (P5 ps k))<;>intro c2
   .
    refine aP ?_;refine aA Tg ?_;have hst:=KV (l:=v.z.sets) (ps:=ps) (k:=k) (by first|exact .inl hneg|grind)
    have ff:=qA hst ff;refine ax (k+1,p,_) (h5:=?_);refine eZ (eZ (eZ (less_upd hnone (λq hq=>?_)) ?_) ?_) ?_
    .
     simp only[upd]
     repeat rw[XW (by omega)]
    . first|(simp only[go_sem,ff];done)|(simp only[go_sem,ff];exact rfl)|(simp only[upd];simp[*];done)
    . first|(simp only[go_sem,ff];done)|(simp only[go_sem,ff];exact rfl)|(simp only[upd];simp[*];done)
    first|(simp only[go_sem,ff];done)|(simp only[go_sem,ff];exact rfl)|(simp only[upd];simp[*];done)
   have hpn : ¬ps[k]! < 0:=by grind
   have hpm:ps[k]! ∉ ps.take k:=by grind
   have Ay:ps[k]!.toNat<v.z.sets.length:=by omega
   have qP:=hf.2 _ Ay;have ff:=qA (bU Ay) ff;refine dS ?_;refine ae Tg ?_;refine ae Tg ?_ (hok:=oS (k:=by exact Bi _ (Yx qP.1 om)))
   refine ae Tg ?_ (hok:=oS (k:=by exact Eg _ (Yx qP.2 om)))
   refine aA Tg ?_;refine aA Tg ?_;have hst:=KU (l:=v.z.sets) (ps:=ps) (k:=k) (λh9=>h9.elim hpn hpm)
   have ff:=qA hst ff;refine ax (k+1,(nx+40),_) (h5:=?_);refine eZ (eZ (eZ (less_upd hnone (λq hq=>?_)) ?_) ?_) ?_
   .
    simp only[upd]
    repeat rw[XW (by omega)]
   . first|(simp only[go_sem,ff];done)|(simp only[go_sem,ff];exact rfl)|(simp only[upd];simp[*];done)
   . first|(simp only[go_sem,ff];done)|(simp only[go_sem,ff];exact rfl)|(simp only[upd];simp[*];done)
   first|(simp only[go_sem,ff];done)|(simp only[go_sem,ff];exact rfl)|(simp only[upd];simp[*];done)
  have e9:decide (ps[k]! < 0)=false:=Y3 hneg;have ff:=qA @e9 ff;refine wE Tg ?_ ?_ (hok:=jd (P5 ps k))<;>intro c2
  .
   refine aP ?_;refine aA Tg ?_;have hst:=KV (l:=v.z.sets) (ps:=ps) (k:=k) (by first|exact .inl hneg|grind)
   have ff:=qA hst ff;refine ax (k+1,p,_) (h5:=?_);refine eZ (eZ (eZ (less_upd hnone (λq hq=>?_)) ?_) ?_) ?_
   .
    simp only[upd]
    repeat rw[XW (by omega)]
   . first|(simp only[go_sem,ff];done)|(simp only[go_sem,ff];exact rfl)|(simp only[upd];simp[*];done)
   . first|(simp only[go_sem,ff];done)|(simp only[go_sem,ff];exact rfl)|(simp only[upd];simp[*];done)
   first|(simp only[go_sem,ff];done)|(simp only[go_sem,ff];exact rfl)|(simp only[upd];simp[*];done)
  have hpn : ¬ps[k]! < 0:=by grind
  have hpm:ps[k]! ∉ ps.take k:=by grind
  have Ay:ps[k]!.toNat<v.z.sets.length:=by omega
  have qP:=hf.2 _ Ay;have ff:=qA (bU Ay) ff;refine dS ?_;refine ae Tg ?_;refine ae Tg ?_ (hok:=oS (k:=by exact Bi _ (Yx qP.1 om)))
  refine ae Tg ?_ (hok:=oS (k:=by exact Eg _ (Yx qP.2 om)))
  refine aA Tg ?_;refine aA Tg ?_;have hst:=KU (l:=v.z.sets) (ps:=ps) (k:=k) (λh9=>h9.elim hpn hpm)
  have ff:=qA hst ff;refine ax (k+1,(nx+40),_) (h5:=?_);refine eZ (eZ (eZ (less_upd hnone (λq hq=>?_)) ?_) ?_) ?_
  .
   simp only[upd]
   repeat rw[XW (by omega)]
  . first|(simp only[go_sem,ff];done)|(simp only[go_sem,ff];exact rfl)|(simp only[upd];simp[*];done)
  . first|(simp only[go_sem,ff];done)|(simp only[go_sem,ff];exact rfl)|(simp only[upd];simp[*];done)
  first|(simp only[go_sem,ff];done)|(simp only[go_sem,ff];exact rfl)|(simp only[upd];simp[*];done)
 have e8:k=ps.length:=by omega
 subst e8
 refine aP ?_
 refine y5 (n+3) 1 p (rows:=(jX v.z.sets ps ps.length).map Sgd.d) (off:=0) (len:=(jX v.z.sets ps ps.length).length) ev rfl ev om (by simp) Wu ?_
 simp only[Yl,RO,Zh,Y4]
 refine ae Tg ?_
 exact oN (fJ (h) (hr:=oS (k:=by first|exact⟨rfl,rfl,om⟩|(refine⟨rfl,?_⟩;omega)|omega)) (hh:=by exact less_upd hnone (λq hq=>by simp only[upd];repeat rw[XW (by omega)])))
theorem bo244:jl prog 244=true:=by kernel_rfl
def Sm(v:Vw)(n:Str)(hl:v.z.sets.length<=1000000):PureCt prog 202 [.i v.z.sets.length,.fn (.func 203) [] [.eptr [.eptr v.d],.eptr [.v (.string (bs n))]]] (.i ((tL v.z.sets n:Nat):Int)):=by
 refine oO func202 λff=>?_
 unfold f202
 refine oC Tg ?_
 refine wD ?_
 refine lq (Nat×Nat×Nat) [1] (λ⟨i,j,nx⟩=>(i<=j/\j<=v.z.sets.length/\(tL v.z.sets n=gJ (λk=>if decide (0<=mW v.z.sets[k]!.set.name n)then 0 else -1) i j),j-i,[(5,.i i),(6,.i j)],[],nx)) (0,v.z.sets.length,_) ?_
 rintro⟨i,j,nx⟩ ⟨hij,hj,hv⟩
 simp only[XX,XZ]
 refine oT Tg ?_ ?_<;>intro c1
 .
  have hk2:i<j:=by simpa using c1
  have hm:(i+j) / 2<v.z.sets.length:=by omega
  have ff:=qA (Gc (i:=i) (j:=j) (by omega)) ff
  refine dZ ?_;refine ae Tg ?_;refine wG Tg (λc2=>?_) (λc2=>?_) (hok:=oF (Xm (((i+j) / 2:Nat):Int) v n (by omega) (by rw[Int.toNat_natCast];exact hm))) (hq:=rfl)
  . refine aA Tg ?_;exact ax ((i+j) / 2+1,j,_) (h1:=⟨iv,iv,(by(try dsimp only);exact(BN hv hk2).1 (by simpa using c2))⟩)
  refine aA Tg ?_;exact ax (i,(i+j) / 2,_) (h1:=⟨iv,iv,(by(try dsimp only);exact(BN hv hk2).2 (by simpa using c2))⟩)
 refine aP ?_
 exact fr Tg (k:=by rw[hv,qf,XW (by omega)])
def Sl(v:Vw)(n:Str)(hl:v.z.sets.length<=1000000):PureCt prog 202 [.i v.z.sets.length,.fn (.func 245) [] [.eptr [.eptr v.d],.eptr [.v (.string (bs n))]]] (.i ((rO v.z.sets n:Nat):Int)):=by
 refine oO func202 λff=>?_
 unfold f202
 refine oC Tg ?_
 refine wD ?_
 refine lq (Nat×Nat×Nat) [1] (λ⟨i,j,nx⟩=>(i<=j/\j<=v.z.sets.length/\(rO v.z.sets n=gJ (λk=>if decide (0<mW v.z.sets[k]!.set.name n)then 0 else -1) i j),j-i,[(5,.i i),(6,.i j)],[],nx)) (0,v.z.sets.length,_) ?_
 rintro⟨i,j,nx⟩ ⟨hij,hj,hv⟩
 simp only[XX,XZ]
 refine oT Tg ?_ ?_<;>intro c1
 .
  have hk2:i<j:=by simpa using c1
  have hm:(i+j) / 2<v.z.sets.length:=by omega
  have ff:=qA (Gc (i:=i) (j:=j) (by omega)) ff
  refine dZ ?_;refine ae Tg ?_;refine wG Tg (λc2=>?_) (λc2=>?_) (hok:=oF (Xa (((i+j) / 2:Nat):Int) v n (by omega) (by rw[Int.toNat_natCast];exact hm))) (hq:=rfl)
  . refine aA Tg ?_;exact ax ((i+j) / 2+1,j,_) (h1:=⟨iv,iv,(by(try dsimp only);exact(BN hv hk2).1 (by simpa using c2))⟩)
  refine aA Tg ?_;exact ax (i,(i+j) / 2,_) (h1:=⟨iv,iv,(by(try dsimp only);exact(BN hv hk2).2 (by simpa using c2))⟩)
 refine aP ?_
 exact fr Tg (k:=by rw[hv,qf,XW (by omega)])
def dW(v:Vw)(n:Str)(hl:v.z.sets.length<=1000000):PureCt prog 129 [.eptr v.d,.v (.string (bs n))] (.b (gy v.z.sets n)):=by
 refine oO func129 λff=>?_
 unfold f129
 refine ae Tg ?_
 refine ae Tg ?_ (hok:=oH (Sm v n hl))
 by_cases hk:tL v.z.sets n<v.z.sets.length
 . have e9:decide ((tL v.z.sets n:Int)<v.z.sets.length)=true:=YQ om;have ff:=qB @e9 (bU hk) ff;exact fr Tg (hok:=oH Gg) (k:=by simp[gy,hk])
 have e9:decide ((tL v.z.sets n:Int)<v.z.sets.length)=false:=Y3 om
 have ff:=qA @e9 ff
 exact fr Tg (hok:=oH Gg) (k:=by simp[gy,hk])
def Rc(v:Vw)(n:Str):PureCt prog 205 [.eptr v.d,.v (.string (bs n))] (.fn (.func 244) [] [.eptr [.eptr v.d],.eptr [.v (.string (bs n))]]):=by
 refine oO func205 λff=>?_
 unfold f205
 refine oC Tg ?_
 exact oN (fin 3 (hr:=oR) (hk:=by(try simp only[go_sem,ff]);all_goals (show D.nr _=true;simp[go_sem,D.nr,bK])))
def ib(v:Vw)(n:Str)(hl:v.z.sets.length<=1000000):PureCt prog 131 [.eptr v.d,.v (.string (bs n))] (.i (fA v.z.sets n)):=by
 refine oO func131 λff=>?_
 unfold f131
 have hue:rO v.z.sets n<=v.z.sets.length:=BO _ _
 refine ae Tg ?_
 refine wA Tg ?_ (hok:=oH (Rc v n))
 refine A9 (by simp only[go_sem,ff]) ev func244 rfl bo244 (by simp[f244]) rfl (λl rL hp ha hb hn=>?_)
 unfold f244
 refine ae Tg ?_ (hok:=oH (Sl v n hl))
 refine ae Tg ?_
 refine dZ ?_
 refine lq (Nat×Nat) [0] (λ⟨k,nx⟩=>(k<=v.z.sets.length/\1<nx/\fA v.z.sets n=ow v.z.sets k,k,[(5,.i ((k:Int)-1))],[(0,⟨97,[[.eptr v.d]]⟩),(1,⟨3,[[.i 0]]⟩)],nx)) ((rO v.z.sets n),_) ?_ (hA:=⟨(BO _ _),iv,rfl⟩)
 rintro⟨k,nx⟩ ⟨hk,hx,hv⟩
 simp only[XX,XZ]
 have n0:0<nx:=by omega
 have ff:=qB @hx @n0 ff
 refine oT Tg ?_ ?_ (hq:=rfl)<;>intro d2
 .
  have hk2:0<k:=by have h9:(0:Int)<=(k:Int)-1:=(by simpa using d2);omega
  have hk3:k-1<v.z.sets.length:=by omega
  have e1:((k:Int)-1).toNat=k-1:=by omega
  have ff:=qB @e1 (bU hk3) ff;refine wD ?_;refine aY ?_;refine DR (C:=Tg) (r:=rL) 2 (oZ rfl) rfl rfl rfl (by simp only[YD,Y0,go_sem,ff];exact rfl) ?_ ev (by first|(simp only[go_sem,ff];done)|(simp only[go_sem,ff];exact rfl)) (by simp only[go_sem,ff]) ev (by rw[hp];rfl) (by rw[hp,hn];show ∀p∈[9],p<21;decide) ?_
  .
   try simp only[go_sem,ff]
   all_goals (first|done|(repeat' (with_reducible apply And.intro))<;>first|omega|(with_reducible assumption)|(intros;omega)|(intros;simp only[XV,X4,Ya,XT,Yb,X7,Ym]at *;omega)|(simp_all;done)|(simp_all;omega))
  rw[ha,hb,hp,hn]
  show DW _ _ _ _ { n:=_,t:=lH _ [9] _,h:=_,nx:=_ }
  simp only[zN,zM];refine aA Tg ?_;refine⟨rfl,?_⟩;refine dZ ?_;refine wG Tg ?_ ?_ (hq:=rfl)<;>intro c3
  .
   refine ae Tg ?_;refine iP ?_;refine⟨rfl,false,some .ret,⟨rfl,rfl⟩,⟨_,_,_,_,_,_⟩,by simp only[Yw,Yl,S.put,go_sem,ff];exact rfl,?_,?_⟩
   .
    try simp only[go_sem,ff]
    all_goals (first|done|(repeat' (with_reducible apply And.intro))<;>first|omega|(with_reducible assumption)|(intros;omega)|(intros;simp only[XV,X4,Ya,XT,Yb,X7,Ym]at *;omega)|(simp_all;done)|(simp_all;omega))
   try simp only[gz]
   refine ce ?_ ?_ (hq:=rfl)<;>intro d4
   . refine iP ?_;refine⟨.inr rfl,some .ret,rfl,?_⟩;exact fin 0 (hr:=oS (k:=by rw[hv,Zcp hk2 (by simpa using c3)]))
   simp at d4
  refine dS ?_;refine⟨rfl,true,none,⟨rfl,rfl⟩,⟨_,_,_,_,_,_⟩,by simp only[Yw,Yl,S.put,go_sem,ff];exact rfl,?_,?_⟩
  .
   try simp only[go_sem,ff]
   all_goals (first|done|(repeat' (with_reducible apply And.intro))<;>first|omega|(with_reducible assumption)|(intros;omega)|(intros;simp only[XV,X4,Ya,XT,Yb,X7,Ym]at *;omega)|(simp_all;done)|(simp_all;omega))
  try simp only[gz]
  refine ce ?_ ?_ (hq:=rfl)<;>intro d4
  . simp at d4
  refine wC Tg ?_;exact ax (k-1,_) (h1:=⟨iv,iv,(by(try dsimp only);rw[hv,Zcq hk2 (by simpa using c3)])⟩)
 have hk2:k=0:=by have h9 : ¬(0:Int)<=(k:Int)-1:=(by simpa using d2);omega
 subst hk2
 refine aP ?_
 refine⟨.inl rfl,none,rfl,?_⟩
 exact fr Tg (k:=by rw[hv];rfl)
def rM(v:Vw)(r:Nat)(h:H)(hv:h r=some ⟨101,[v.d]⟩)(hf:iA v.z.sets)(kd:Int)(ps:List Int)(hp : ∀i,i<ps.length->ps[i]! < (v.z.sets.length:Int))(hpl:ps.length<=1000010):∀b,Ct prog 128 [.mptr r 0 0,.i kd,.l (ps.map iR)] h b (.agg (⟨kd,iI v.z.sets ps,[]⟩:dV).d) h :=
 Zco (by simp[go_sem,D.nr,bK,aZ]) λn=>Rj v r h n hv hf kd ps hp hpl
def Ri(v:Vw)(r:Nat)(h:H)(n:Nat)(hv:h r=some ⟨101,[v.d]⟩)(hf:iA v.z.sets):dz prog 43 [.mptr r 0 0] h n (λd h' n'=>d = .tuple [.agg ((bY v 1).1.df false),.b (bY v 1).2]/\h'=h/\n<=n'):=by
 refine oP func43 λhnone ff=>?_
 unfold f43
 have hrn:r<n:=Nat.lt_of_not_le λq=>by(rw[hnone r q]at hv;cases hv)
 have ff:=qB @hv (nH n r) ff
 refine ae Tg ?_
 refine ae Tg ?_ (hok:=oz (qD (gM v) (λa1=>ib v a1 hf.1) (gZ v) (λa1=>dW v a1 hf.1)))
 refine ae iW ?_ (hok:=oS (k:=by first|trivial|(repeat' with_reducible apply And.intro)<;>first|(intros;exact gM v _ _)|(intros;exact ib v _ hf.1)|(intros;exact gZ v)|(intros;exact dW v _ hf.1)|exact(λ_=>dW v _ hf.1)|exact rM v r _ ev hf 1 [(aR v.z.sets ⟨v.q.name,v.q.ty⟩)] (CO (lL _ _)) (by simp)))
 exact oN (fJ (h) (hr:=oS (k:=by first|exact⟨rfl,rfl,om⟩|(refine⟨rfl,?_⟩;omega)|omega)) (hh:=by exact less_upd hnone (λq hq=>by simp only[upd];repeat rw[XW (by omega)])))
def Q9(v:Vw)(r:Nat)(h:H)(n:Nat)(hv:h r=some ⟨101,[v.d]⟩)(hf:iA v.z.sets):dz prog 46 [.mptr r 0 0] h n (λd h' n'=>d = .tuple [.agg ((bY v 4).1.df false),.b (bY v 4).2]/\h'=h/\n<=n'):=by
 refine oP func46 λhnone ff=>?_
 unfold f46
 have hrn:r<n:=Nat.lt_of_not_le λq=>by(rw[hnone r q]at hv;cases hv)
 have ff:=qB @hv (nH n r) ff
 refine ae Tg ?_
 refine ae Tg ?_ (hok:=oz (qD (gM v) (λa1=>ib v a1 hf.1) (gZ v) (λa1=>dW v a1 hf.1)))
 refine ae iW ?_ (hok:=oS (k:=by first|trivial|(repeat' with_reducible apply And.intro)<;>first|(intros;exact gM v _ _)|(intros;exact ib v _ hf.1)|(intros;exact gZ v)|(intros;exact dW v _ hf.1)|exact(λ_=>dW v _ hf.1)|exact rM v r _ ev hf 2 [(aR v.z.sets ⟨v.wc,v.q.ty⟩),(fA v.z.sets v.q.name)] (yG (lL _ _) (qd _ _)) (by simp)))
 exact oN (fJ (h) (hr:=oS (k:=by first|exact⟨rfl,rfl,om⟩|(refine⟨rfl,?_⟩;omega)|omega)) (hh:=by exact less_upd hnone (λq hq=>by simp only[upd];repeat rw[XW (by omega)])))
end Go.Proofs.YtdcenbhgholncaaGreatDoor
namespace Go.Proofs.YtdcenbhgholncaaGreatDoor
open Go.Proofs.Tryz
open Go.DL Go.Str Go.Rec Go.Zon Go.Cmp Go.Jn Go.RowKit
set_option maxRecDepth 10000
theorem Ti(l:List Str)(h1:l.length<=100)(h2:(fT l).length<=1000000):@PureCt drF prog _ 246 [.l (l.map sR),.v (.string (bs [46]))] (.v (.string (bs (fT l)))):=by
 refine⟨by kernel_rfl,by simp only[go_sem,List.all_cons,List.all_nil];first|done|rfl,λw I vs hI hg hr=>?_⟩
 obtain⟨x,t,rfl,h3,h4⟩:=hr.of_cons
 obtain⟨y,t,rfl,h5,h6⟩:=h4.of_cons
 rw[h6.of_nil,h5.v_inv]
 have fin : ∀e w',e=Ending.returned (.string ⟨(Go.Lib.join ((l.map bs).map (·.data.toList)) (bs [46]).data.toList).toArray⟩)/\Below w.heap.size w w' -> ∃v,e = .returned v /\ @vP drF w w'/\ag w' (eY λb=>I b\/(w.heap.size<=b/\b<w'.heap.size)) (.v (.string (bs (fT l)))) v:=by
  rintro e w' ⟨rfl,hb⟩;refine⟨_,rfl,@vP.mk drF w w' hb.os hb.tape hb.output hb.size (λq=>q.elim) hb.block,?_⟩
  have e9:(l.map bs).map (·.data.toList)=l:=by rw[List.map_map];exact(YG λx _=>kz x).trans (List.map_id l)
  rw[e9,kz,Gw];exact .v _
 have hlen:(Go.Lib.join ((l.map bs).map (·.data.toList)) (bs [46]).data.toList).length<=140737488355328:=by
  have e9:(l.map bs).map (·.data.toList)=l:=by rw[List.map_map];exact(YG λx _=>kz x).trans (List.map_id l)
  rw[e9,kz,Gw];omega
 generalize hR:l.map sR=R at h3
 cases h3 with
 | empty _ a cap hf hm =>
  have e0:l=[]:=List.map_eq_nil_iff.1 hR;subst e0;exact callsIn_wide.2 ((Go.Proofs.Any.strings_Join_none Gv Gu a cap (bs [46]) w).mono λe w'⟨k1,k2⟩=>fin e w' ⟨k1,k2▸Below.refl _ _⟩)
 | list _ _ ad cap size cv hI2 hl hf hm hs hc hrr =>
  subst hR;have hrow : ∀(i:Nat)x,l[i]? = some x->w.cell? (ad.add i)=some (.string (bs x)):=by
   intro i x hx;have e1:(l.map sR)[i]? = some (sR x):=by rw[Yj,hx];rfl
   have e2:size=1:=(hs _ (X6 e1)).symm;obtain⟨k1,_⟩:=hc i 0 _ _ e1 rfl;have k2:=(hrr i 0 _ _ e1 rfl).v_inv;rw[k2,e2]at k1
   simpa using k1
  by_cases hne:l=[]
  . subst hne;exact callsIn_wide.2 ((Go.Proofs.Any.strings_Join_none Gv Gu (some ad) cap (bs [46]) w).mono λe w'⟨k1,k2⟩=>fin e w' ⟨k1,k2▸Below.refl _ _⟩)
  have h0:0<l.length:=Y6.2 hne;have c0:=hrow 0 l[0] (by simp)
  have hsp:ad.spot=none:=by
   unfold Go.World.cell? at c0;rw[show ad.add 0=ad from rfl]at c0
   split at c0
   .
    split at c0
    . cases c0
    rename_i q;simpa using q
   cases c0
  obtain⟨bk,o,sp⟩:=ad;simp only at hsp;subst hsp;have hbk:bk<w.heap.size:=hI _ hI2;have key:=Go.Proofs.Any.strings_Join Gv Gu bk o cap (l.map bs) (bs [46]) w (λj x hx=>by
   rw[Yj]at hx
   cases e:l[j]? with
   | none=>rw[e]at hx;cases hx
   | some y=>rw[e]at hx;cases hx;rw[<-jR];exact hrow j y e) hbk (by simp;omega) (by simpa using hl) hlen
  have e8:(l.map bs).length=(l.map sR).length:=by simp
  rw[e8]at key;exact callsIn_wide.2 (key.mono λe w' h=>fin e w' h)
def XB{s:Str}(h:dI s=true):s.length<=20:=by
 unfold dI at h
 simp only[XT,XV]at h
 omega
theorem M3 : ∀l:List Str,(∀x∈l,x.length<=20)->(fT l).length<=21*l.length
 | [],_=>X3 _
 | [p],h=>by have:=h p (by simp);simp[fT];omega
 | p::q::r,h=>by
  have h1:=h p (by simp)
  have h2:=M3 (q::r) (λx hx=>h x (List.mem_cons_of_mem _ hx))
  rw[fT,YE,YI];rw[YI];omega
def XL{l:List Str}(h:aB l.length (fC l) 0=true):(fT l).length<=21*l.length:=by
 refine M3 l λx hx=>?_
 obtain⟨i,hi,rfl⟩:=nS.1 hx
 have:=(dO _ _ _).1 h i (Yk _) hi
 unfold fC at this
 rw[Ya]at this
 rcases this with e|e
 . exact XB e
 simp only[XT,Yy]at e;rw[e.2];decide
def Sd(c:Str):[D.v (.string (bs [42]))]::(aL c).map sR=(rT c).map sR:=rfl
def Sa(c:Str):List.take (1+(aL c).length) ((rT c).map sR)=(rT c).map sR:=Yg (by rw[Y8,rT,YI];omega)
def Sc(c:Str):(rT c).length=1+(aL c).length:=by rw[rT,YI];omega
def WF(l:List Str):PureCt prog 207 [.l (l.map sR)] (.tuple [.v (.string (bs (kX l).1)),.i (kX l).2]):=by
 refine oO func207 λff=>?_
 unfold f207
 refine ae Tg ?_
 refine oM Tg ?_ ?_ (hq:=rfl)<;>intro c1
 .
  have hn:l=[]:=Ye (by simpa using c1)
  exact fr Tg (K:=1) (k:=by rw[hn];rfl)
 have hn:l≠[]:=λe=>by subst e;simp at c1
 refine oK Tg ?_ ?_<;>intro c2
 .
  have h8:8<l.length:=by omega
  exact fr Tg (K:=1) (k:=by rw[kX,XW hn,X0 h8])
 have h8 : ¬8<l.length:=by omega
 refine wA Tg ?_
 refine lq (Nat×Nat) [0,13,14] (λ⟨k,nx⟩=>(k<=l.length/\aB l.length (fC l) 0=aB l.length (fC l) k,l.length-k,[(15,.i k)],[],nx)) (0,_) ?_
 rintro⟨k,nx⟩ ⟨hk,hv⟩
 simp only[XX,XZ]
 refine wH Tg ?_ ?_<;>intro c3
 .
  have hk2:k<l.length:=by simpa using c3
  have ff:=qA (gu hk2) ff;refine wB ?_;refine ae Tg ?_;refine wE Tg (λc4=>?_) (λc4=>?_) (hok:=oS (k:=by first|trivial|(repeat' with_reducible apply And.intro)<;>first|(intros;exact Nc _)|(intro a b;exact⟨a,λc=>by rw[a,c];rfl⟩)))
  . exact fr Tg (K:=1) (k:=by have hF:fC l k=false:=(by simp only[fC];grind);rw[kX,if_neg hn,if_neg h8,if_pos (by rw[hv,dK hk2 hF])])
  refine wC Tg ?_;have h8:(fC l) k=true:=by simp only[fC];grind
  exact ax (k+1,_) (h1:=⟨iv,(by(try dsimp only);rw[hv,bC hk2 h8])⟩)
 have e8:k=l.length:=by omega
 subst e8
 have hall:aB l.length (fC l) 0=true:=by rw[hv,iV (by omega)]
 have hjl:=XL hall
 refine aP ?_
 refine ae Tg ?_ (hok:=oF (Ti l om om))
 refine oK Tg ?_ ?_<;>intro c5
 . exact fr Tg (K:=1) (k:=by rw[kX,XW hn,XW h8,XW (by rw[hall];simp),X0 (by omega)])
 exact fr Tg (K:=1) (k:=by rw[kX,XW hn,XW h8,XW (by rw[hall];simp),XW (by omega)])
def Rb(v:Vw)(hl:v.z.sets.length<=1000000)(hq:ai v.q.name=true)(hu:bF v.q.name v.z.apex):PureCt prog 132 [.eptr v.d] (.v (.string (bs (o6 v.z v.q.name)))):=by
 refine oO func132 λff=>?_
 unfold f132
 refine oC Tg ?_
 refine wD ?_
 refine lq (Str×Nat) [0] (λ⟨c,nx⟩=>(ai c=true/\bF c v.z.apex/\vH v.z v.q.name=vH v.z c,(bq c).length,[(3,.v (.string (bs c)))],[],nx)) (v.q.name,_) ?_ (hA:=⟨hq,hu,rfl⟩)
 rintro⟨c,nx⟩ ⟨hcn,hcu,hcc⟩
 simp only[XX,XZ]
 refine oL Tg ?_ ?_ (hok:=oH (dW v c hl))<;>intro c1
 .
  refine dZ ?_;obtain⟨hne,hex⟩:c≠v.z.apex/\gy v.z.sets c=false:=by grind
  obtain⟨hr,Ar⟩:=vT hcn hcu hne;have hpf:kS c=fD c:=by unfold kS;rw[hcn,YY.2 hr];rfl
  have ff:=qA @hpf ff;refine aA Tg ?_ (hok:=oV (FZ c));exact ax (fD c,_) (h1:=⟨((nL hcn hr).1),Ar,(by(try dsimp only);exact hcc.trans (Qf hcn hcu hne hex).1)⟩) (h2:=by show(_:Nat)<_;exact(Qf hcn hcu hne hex).2)
 have hce:c=v.z.apex\/gy v.z.sets c=true:=by grind
 have hcf:=ZcL hce
 have hwf:o6 v.z v.q.name=(kX (rT c)).1:=by unfold o6 Je;rw[hcc,hcf]
 have hpl:=(FL c).2
 have hcl:=gT hcn
 have ff:=qD @hcn (Sd c) (Sa c) ff
 refine aP ?_
 refine ae Tg ?_ (hok:=oF (Ma c))
 refine ae vN ?_ (hok:=oa2 (WF (rT c)) (Sc c))
 refine oK Tg ?_ ?_<;>intro c2
 . exact fr Tg (k:=by rw[hwf,XM c2])
 exact fr Tg (k:=by rw[hwf])
def Q8(v:Vw)(r:Nat)(h:H)(n:Nat)(hv:h r=some ⟨101,[v.d]⟩)(hf:iA v.z.sets):dz prog 48 [.mptr r 0 0] h n (λd h' n'=>d = .tuple [.agg ((bY v 6).1.df (!(bY v 6).2)),.b (bY v 6).2]/\h'=h/\n<=n'):=by
 refine oP func48 λhnone ff=>?_
 unfold f48
 have hrn:r<n:=Nat.lt_of_not_le λq=>by(rw[hnone r q]at hv;cases hv)
 have ff:=qB @hv (nH n r) ff
 refine ae Tg ?_
 refine oM Tg ?_ ?_ (hok:=oz (qD (gM v) (λa1=>ib v a1 hf.1) (gZ v) (λa1=>dW v a1 hf.1))) (hq:=rfl)<;>intro c1
 . have c1b:=c1;refine ae Tg ?_;exact oN (fJ (h) (hr:=oS (k:=by first|exact⟨by(rw[Jt c1b];try rfl),rfl,om⟩|exact⟨by(rw[Jt c1b];try rfl),om⟩)) (hh:=by exact less_upd hnone (λq hq=>by simp only[upd];repeat rw[XW (by omega)])))
 have c1b:=c1
 refine ae iW ?_ (hok:=oS (k:=by first|trivial|(repeat' with_reducible apply And.intro)<;>first|(intros;exact gM v _ _)|(intros;exact ib v _ hf.1)|(intros;exact gZ v)|(intros;exact dW v _ hf.1)|exact(λ_=>dW v _ hf.1)|exact rM v r _ ev hf 5 [(aR v.z.sets ⟨v.z.apex,4⟩),(fA v.z.sets v.q.name),(fA v.z.sets v.wc)] (Ag (lL _ _) (qd _ _) (qd _ _)) (by simp)))
 exact oN (fJ (h) (hr:=oS (k:=by first|exact⟨by(rw[Ju c1b];try rfl),rfl,om⟩|exact⟨by(rw[Ju c1b];try rfl),om⟩)) (hh:=by exact less_upd hnone (λq hq=>by simp only[upd];repeat rw[XW (by omega)])))
def Rf(v:Vw)(r:Nat)(h:H)(n:Nat)(hv:h r=some ⟨101,[v.d]⟩)(hf:iA v.z.sets):dz prog 49 [.mptr r 0 0] h n (λd h' n'=>d = .agg (uV v).d/\h'=h/\n<=n'):=by
 refine oP func49 λhnone ff=>?_
 unfold f49
 have hrn:r<n:=Nat.lt_of_not_le λq=>by(rw[hnone r q]at hv;cases hv)
 have ff:=qB @hv (nH n r) ff
 refine oC Tg ?_
 refine oK Tg ?_ ?_<;>intro c1
 .
  refine aA Tg ?_ (hok:=oz (qD (gM v) (λa1=>ib v a1 hf.1) (gZ v) (λa1=>dW v a1 hf.1)))
  refine ae iW ?_ (hok:=oS (k:=by first|trivial|(repeat' with_reducible apply And.intro)<;>first|(intros;exact gM v _ _)|(intros;exact ib v _ hf.1)|(intros;exact gZ v)|(intros;exact dW v _ hf.1)|exact(λ_=>dW v _ hf.1)|exact rM v r _ ev hf 6 [(aR v.z.sets ⟨v.z.apex,4⟩),(fA v.z.sets v.q.name),(fA v.z.sets v.wc)] (Ag (lL _ _) (qd _ _) (qd _ _)) (by simp)))
  exact oN (fJ (h) (hr:=oS (k:=by first|exact⟨by(rw[LY c1];try rfl),rfl,om⟩|exact⟨by(rw[LY c1];try rfl),om⟩)) (hh:=by exact less_upd hnone (λq hq=>by simp only[upd];repeat rw[XW (by omega)])))
 refine ae iW ?_ (hok:=oS (k:=by first|trivial|(repeat' with_reducible apply And.intro)<;>first|(intros;exact gM v _ _)|(intros;exact ib v _ hf.1)|(intros;exact gZ v)|(intros;exact dW v _ hf.1)|exact(λ_=>dW v _ hf.1)|exact rM v r _ ev hf 6 [(aR v.z.sets ⟨v.z.apex,4⟩),(fA v.z.sets v.q.name), -1] (Ag (lL _ _) (qd _ _) om) (by simp)))
 exact oN (fJ (h) (hr:=oS (k:=by first|exact⟨by(rw[LZ c1];try rfl),rfl,om⟩|exact⟨by(rw[LZ c1];try rfl),om⟩)) (hh:=by exact less_upd hnone (λq hq=>by simp only[upd];repeat rw[XW (by omega)])))
def Jl(v:Vw)(r:Nat)(h:H)(n:Nat)(hv:h r=some ⟨101,[v.d]⟩)(hf:iA v.z.sets)(hq:ai v.q.name=true)(hu:bF v.q.name v.z.apex):dz prog 45 [.mptr r 0 0] h n (λd h' n'=>n<=n'/\((gy v.z.sets v.q.name=true/\d = .tuple [.agg ((bY v 3).1.df (!(bY v 3).2)),.b (bY v 3).2]/\h'=h)\/(gy v.z.sets v.q.name=false/\d = .tuple [.agg ((bY v 3).1.df (!(bY v 3).2)),.b (bY v 3).2]/\h'=upd h r (some ⟨101,[(⟨v.z,v.q,v.cut,v.beh,o6 v.z v.q.name⟩:Vw).d]⟩)))):=by
 refine oP func45 λhnone ff=>?_
 unfold f45
 have hrn:r<n:=Nat.lt_of_not_le λq=>by(rw[hnone r q]at hv;cases hv)
 have ff:=qB @hv (nH n r) ff
 refine ae Tg ?_
 refine oM Tg ?_ ?_ (hok:=oz (qD (gM v) (λa1=>ib v a1 hf.1) (gZ v) (λa1=>dW v a1 hf.1))) (hq:=rfl)<;>intro c1
 .
  refine ae iW ?_ (hok:=oS (k:=by first|trivial|(repeat' with_reducible apply And.intro)<;>first|(intros;exact gM v _ _)|(intros;exact ib v _ hf.1)|(intros;exact gZ v)|(intros;exact dW v _ hf.1)|exact(λ_=>dW v _ hf.1)|exact rM v r _ ev hf 5 [(aR v.z.sets ⟨v.z.apex,4⟩),(fA v.z.sets v.q.name)] (yG (lL _ _) (qd _ _)) (by simp)))
  exact oN (fJ (h) (hr:=oS (k:=by refine⟨om,.inl ?_⟩;first|exact⟨c1,by(rw[EL c1];try rfl),rfl⟩|exact⟨c1,by(rw[EL c1];try rfl)⟩)) (hh:=by exact less_upd hnone (λq hq=>by simp only[upd];repeat rw[XW (by omega)])))
 refine ae Tg ?_ (hok:=oH (Rb v hf.1 hq hu))
 refine ae Tg ?_
 exact oN (fJ (upd h r (some ⟨101,[(⟨v.z,v.q,v.cut,v.beh,o6 v.z v.q.name⟩:Vw).d]⟩)) (hr:=oS (k:=by refine⟨om,.inr ?_⟩;first|exact⟨c1,by(rw[Jv c1];try rfl),rfl⟩|exact⟨c1,by(rw[Jv c1];try rfl)⟩)) (hh:=by exact Gl hnone (by simp only[go_sem,ff]) (λq hq hq2=>by simp only[upd];repeat rw[XW (by omega)])))
def Re(v:Vw)(r:Nat)(h:H)(n:Nat)(hv:h r=some ⟨101,[v.d]⟩)(hf:iA v.z.sets)(hcut:v.beh=true->0<=aR v.z.sets ⟨v.cut,2⟩):dz prog 42 [.mptr r 0 0] h n (λd h' n'=>d = .tuple [.agg ((bY v 0).1.df (!(bY v 0).2)),.b (bY v 0).2]/\h'=h/\n<=n'):=by
 refine oP func42 λhnone ff=>?_
 unfold f42
 have hrn:r<n:=Nat.lt_of_not_le λq=>by(rw[hnone r q]at hv;cases hv)
 have ff:=qB @hv (nH n r) ff
 refine oC Tg ?_
 refine oM Tg ?_ ?_ (hq:=rfl)<;>intro c1
 . refine ae Tg ?_;exact oN (fJ (h) (hr:=oS (k:=by first|exact⟨by(rw[Jw c1];try rfl),rfl,om⟩|exact⟨by(rw[Jw c1];try rfl),om⟩)) (hh:=by exact less_upd hnone (λq hq=>by simp only[upd];repeat rw[XW (by omega)])))
 have hb9:v.beh=true:=by revert c1;cases v.beh<;>simp
 have xu:(aR v.z.sets ⟨v.cut,2⟩).toNat<v.z.sets.length:=by have:=hcut hb9;have:=lL v.z.sets ⟨v.cut,2⟩;omega
 have hs8:0<=aR v.z.sets ⟨v.cut,2⟩:=hcut hb9
 have qP:=(hf.2 _ xu).1
 have ff:=qA (bU xu) ff
 refine ae Tg ?_ (hok:=oz (qD (gM v) (λa1=>ib v a1 hf.1) (gZ v) (λa1=>dW v a1 hf.1)))
 refine ae Tg ?_ (hok:=oz (qD (gM v) (λa1=>ib v a1 hf.1) (gZ v) (λa1=>dW v a1 hf.1)))
 refine jnh (α:=Nat) [0,2,5] (λnx=>(n<nx)/\True) (λnx=>[(6,.i (wJ v.z.sets v.cut))]) (λnx=>upd h n (some ⟨36,[[.v (.int .i64 0),.e,.v (.string (bs []))]]⟩)) (λnx=>nx) ?_ ?_
 .
  refine wE Tg ?_ ?_<;>intro c2
  .
   refine aA Tg ?_ (hok:=oz (qD (gM v) (λa1=>ib v a1 hf.1) (gZ v) (λa1=>dW v a1 hf.1)))
   have hpi:wJ v.z.sets v.cut=aR v.z.sets ⟨v.cut,8⟩:=X0 c2;have ff:=qA hpi ff;exact rnj _ (h1:=⟨iv,trivial⟩) (h5:=λ_=>.inl rfl)
  refine dS ?_;have hpi:wJ v.z.sets v.cut=aR v.z.sets ⟨v.cut,6⟩:=XW c2;have ff:=qA hpi ff;exact rnj _ (h1:=⟨iv,trivial⟩) (h5:=λ_=>.inl rfl)
 rintro nx ⟨hx, -⟩
 simp only[XX,XZ]
 have hx2:r<nx:=by omega
 have ff:=qB @hx @hx2 ff
 refine ae vN ?_
 refine wA Tg ?_
 refine lph (α:=(Nat)×(Nat)×Nat) [0,2,77,78] (λ⟨k,p,nx⟩=>(k<=v.z.sets[(aR v.z.sets ⟨v.cut,2⟩).toNat]!.set.data.length)/\(p<nx)/\(n<p)/\True) (λ⟨k,p,nx⟩=>v.z.sets[(aR v.z.sets ⟨v.cut,2⟩).toNat]!.set.data.length-k) (λ⟨k,p,nx⟩=>[(7,.mrow p 0 (iG v.z.sets v.cut v.z.sets[(aR v.z.sets ⟨v.cut,2⟩).toNat]!.set.data (k)).length),(79,.i k)]) (λ⟨k,p,nx⟩=>upd (upd h n (some ⟨36,[[.v (.int .i64 0),.e,.v (.string (bs []))]]⟩)) p (some ⟨3,(iG v.z.sets v.cut v.z.sets[(aR v.z.sets ⟨v.cut,2⟩).toNat]!.set.data (k)).map iR⟩)) (λ⟨k,p,nx⟩=>nx) (0,(nx+2),_) (hA:=⟨iv,iv,iv,trivial⟩) (round:=?_) (qN:=by refine eZ (eZ (less_upd hnone (λq hq=>by simp only[upd];repeat rw[XW (by omega)])) ?_) ?_<;>first|(simp only[go_sem,ff];done)|(simp only[go_sem,ff];exact rfl))
 rintro⟨k,p,nx⟩ ⟨hk,hp,hp0, -⟩
 simp only[XX,XZ]
 have n0:n<nx:=by omega
 have n2:r<nx:=by omega
 have hpl9:=FE v.z.sets v.cut v.z.sets[(aR v.z.sets ⟨v.cut,2⟩).toNat]!.set.data k
 have ff:=qG @hp @n0 @n2 (nH n r) (nH p r) (nH n p) ff
 have ff:=qA (VK (l:=v.z.sets) (c:=v.cut) (ds:=v.z.sets[(aR v.z.sets ⟨v.cut,2⟩).toNat]!.set.data)) ff
 refine wH Tg ?_ ?_<;>intro c3
 .
  have hk2:k<v.z.sets[(aR v.z.sets ⟨v.cut,2⟩).toNat]!.set.data.length:=by simpa using c3
  have ff:=qA (qU hk2) ff;refine wB ?_;refine ae Tg ?_;refine wG Tg ?_ ?_ (hok:=oH Gg) (hq:=rfl)<;>intro c4
  .
   refine aA Tg ?_ (hok:=oz (qD (gM v) (λa1=>ib v a1 hf.1) (gZ v) (λa1=>dW v a1 hf.1)))
   refine aA Tg ?_;have hst:=VI (l:=v.z.sets) (c:=v.cut) (ds:=v.z.sets[(aR v.z.sets ⟨v.cut,2⟩).toNat]!.set.data) (k:=k) c4;have ff:=qA hst ff;refine ax (k+1,(nx+18),_) (h1:=⟨iv,iv,iv,trivial⟩) (h5:=?_);refine eZ (eZ (less_upd hnone (λq hq=>?_)) ?_) ?_
   .
    simp only[upd]
    repeat rw[XW (by omega)]
   . first|(simp only[go_sem,ff];done)|(simp only[go_sem,ff];exact rfl)|(simp only[upd];simp[*];done)
   first|(simp only[go_sem,ff];done)|(simp only[go_sem,ff];exact rfl)|(simp only[upd];simp[*];done)
  refine wC Tg ?_;have hst:=VJ (l:=v.z.sets) (c:=v.cut) (ds:=v.z.sets[(aR v.z.sets ⟨v.cut,2⟩).toNat]!.set.data) (k:=k) c4;have ff:=qA hst ff;refine ax (k+1,p,_) (h1:=⟨iv,iv,iv,trivial⟩) (h5:=?_);refine eZ (eZ (less_upd hnone (λq hq=>?_)) ?_) ?_
  .
   simp only[upd]
   repeat rw[XW (by omega)]
  . first|(simp only[go_sem,ff];done)|(simp only[go_sem,ff];exact rfl)|(simp only[upd];simp[*];done)
  first|(simp only[go_sem,ff];done)|(simp only[go_sem,ff];exact rfl)|(simp only[upd];simp[*];done)
 have e8:k=v.z.sets[(aR v.z.sets ⟨v.cut,2⟩).toNat]!.set.data.length:=by omega
 subst e8
 refine aP ?_
 refine Pn 7 p (rows:=(iG v.z.sets v.cut v.z.sets[(aR v.z.sets ⟨v.cut,2⟩).toNat]!.set.data v.z.sets[(aR v.z.sets ⟨v.cut,2⟩).toNat]!.set.data.length).map iR) (off:=0) (len:=(iG v.z.sets v.cut v.z.sets[(aR v.z.sets ⟨v.cut,2⟩).toNat]!.set.data v.z.sets[(aR v.z.sets ⟨v.cut,2⟩).toNat]!.set.data.length).length) ev ev (by simp) Wv ?_
 rw[Yl,Yg (by simp)]
 refine ae iW ?_ (hok:=oS (k:=by first|trivial|(repeat' with_reducible apply And.intro)<;>first|(intros;exact gM v _ _)|(intros;exact ib v _ hf.1)|(intros;exact gZ v)|(intros;exact dW v _ hf.1)|exact(λ_=>dW v _ hf.1)|exact rM v r _ ev hf 4 (iG v.z.sets v.cut v.z.sets[(aR v.z.sets ⟨v.cut,2⟩).toNat]!.set.data v.z.sets[(aR v.z.sets ⟨v.cut,2⟩).toNat]!.set.data.length) (KQ _ _ _ _) (by have:=FE v.z.sets v.cut v.z.sets[(aR v.z.sets ⟨v.cut,2⟩).toNat]!.set.data v.z.sets[(aR v.z.sets ⟨v.cut,2⟩).toNat]!.set.data.length;omega)))
 refine oC Tg ?_
 exact oN (fJ (h) (hr:=oS (k:=by first|exact⟨by(rw[Jy c1];try rfl),rfl,om⟩|exact⟨by(rw[Jy c1];try rfl),om⟩)) (hh:=by exact less_upd hnone (λq hq=>by simp only[upd];repeat rw[XW (by omega)])))
variable [Dr]
def Rk(v:Vw)(r:Nat)(h:H)(n:Nat)(hv:h r=some ⟨101,[v.d]⟩)(hf:iA v.z.sets):dz prog 44 [.mptr r 0 0] h n (λd h' n'=>d = .tuple [.agg ((bY v 2).1.df false),.b (bY v 2).2]/\h'=h/\n<=n'):=by
 refine oP func44 λhnone ff=>?_
 unfold f44
 have hrn:r<n:=Nat.lt_of_not_le λq=>by(rw[hnone r q]at hv;cases hv)
 have ff:=qB @hv (nH n r) ff
 refine ae Tg ?_
 refine ae Tg ?_ (hok:=oz (qD (gM v) (λa1=>ib v a1 hf.1) (gZ v) (λa1=>dW v a1 hf.1)))
 refine ER iW [⟨11,14⟩] ?_ (hok:=oS (k:=by first|trivial|(repeat' with_reducible apply And.intro)<;>first|(intros;exact gM v _ _)|(intros;exact ib v _ hf.1)|(intros;exact gZ v)|(intros;exact dW v _ hf.1)|exact(λ_=>dW v _ hf.1)|exact rM v r _ ev hf 3 [(aR v.z.sets ⟨v.q.name,3⟩)] (CO (lL _ _)) (by simp)))
 exact oN (fJ (h) (hr:=oS (k:=by first|exact⟨rfl,rfl,om⟩|(refine⟨rfl,?_⟩;omega)|omega)) (hh:=by exact less_upd hnone (λq hq=>by simp only[upd];repeat rw[XW (by omega)])))
def Ra(v:Vw)(r:Nat)(h:H)(n:Nat)(hv:h r=some ⟨101,[v.d]⟩)(hf:iA v.z.sets):dz prog 47 [.mptr r 0 0] h n (λd h' n'=>d = .tuple [.agg ((bY v 5).1.df false),.b (bY v 5).2]/\h'=h/\n<=n'):=by
 refine oP func47 λhnone ff=>?_
 unfold f47
 have hrn:r<n:=Nat.lt_of_not_le λq=>by(rw[hnone r q]at hv;cases hv)
 have ff:=qB @hv (nH n r) ff
 refine ae Tg ?_
 refine ae Tg ?_ (hok:=oz (qD (gM v) (λa1=>ib v a1 hf.1) (gZ v) (λa1=>dW v a1 hf.1)))
 refine ER iW [⟨18,21⟩] ?_ (hok:=oS (k:=by first|trivial|(repeat' with_reducible apply And.intro)<;>first|(intros;exact gM v _ _)|(intros;exact ib v _ hf.1)|(intros;exact gZ v)|(intros;exact dW v _ hf.1)|exact(λ_=>dW v _ hf.1)|exact rM v r _ ev hf 3 [(aR v.z.sets ⟨v.wc,3⟩),(fA v.z.sets v.q.name)] (yG (lL _ _) (qd _ _)) (by simp)))
 exact oN (fJ (h) (hr:=oS (k:=by first|exact⟨rfl,rfl,om⟩|(refine⟨rfl,?_⟩;omega)|omega)) (hh:=by exact less_upd hnone (λq hq=>by simp only[upd];repeat rw[XW (by omega)])))
def WI(z:Zon)(u:Qst)(hl:z.sets.length<=1000000)(h:H)(n:Nat):dz prog 41 [.agg z.d,.agg u.d] h n (λd h' n'=>∃r,d = .mptr r 0 0/\h'=upd h r (some ⟨101,[(⟨z,u,[],false,[]⟩:Vw).d]⟩)/\n<=r/\r<n'):=by
 refine oP func41 λhnone ff=>?_
 unfold f41
 have ff:=qG (nH n (n+1)) (nH n (n+10)) (nH n (n+13)) (nH (n+1) (n+10)) (nH (n+1) (n+13)) (nH (n+10) (n+13)) ff
 refine ae Tg ?_
 refine ER Tg [⟨1,7⟩,⟨3,7⟩,⟨7,8⟩] ?_
 refine wA Tg ?_
 refine yI (Nat×Nat) [5,20,21] (λ⟨k,nx⟩=>(k<=z.sets.length/\n+13<nx,z.sets.length-k,[(22,.i k)],upd (upd (upd (upd h n (some ⟨24,[z.d]⟩)) (n+1) (some ⟨27,[u.d]⟩)) (n+10) (some ⟨99,gU (lU (nK z.sets k))⟩)) (n+13) (some ⟨101,[[.v (.string (bs z.apex)),.l (z.sets.map Sgd.d),.mp (n+10),.v (.string (bs u.name)),.i u.ty,.v (.string (bs [])),.b false,.v (.string (bs []))]]⟩),nx)) (0,_) ?_ (qN:=by exact λ_=>.inl rfl)
 rintro⟨k,nx⟩ ⟨hk,hx⟩
 simp only[XX,XZ]
 have n0:n<nx:=by omega
 have n1:n+1<nx:=by omega
 have n2:n+10<nx:=by omega
 have ff:=qE @hx @n0 @n1 @n2 ff
 refine wH Tg ?_ ?_<;>intro c1
 .
  have hk2:k<z.sets.length:=by simpa using c1
  have ff:=qB (bU hk2) (XF (l:=z.sets) (k:=k)) ff;refine wB ?_;refine ae Tg ?_;refine aA Tg ?_;refine aA Tg ?_;refine ax (k+1,_) (h5:=?_);refine eZ (eZ (eZ (eZ (less_upd hnone (λq hq=>?_)) ?_) ?_) ?_) ?_
  .
   simp only[upd]
   repeat rw[XW (by omega)]
  . first|(simp only[go_sem,ff];done)|(simp only[go_sem,ff];exact rfl)|(simp only[upd];simp[*];done)
  . first|(simp only[go_sem,ff];done)|(simp only[go_sem,ff];exact rfl)|(simp only[upd];simp[*];done)
  . first|(simp only[go_sem,ff];done)|(simp only[go_sem,ff];exact rfl)|(simp only[upd];simp[*];done)
  first|(simp only[go_sem,ff];done)|(simp only[go_sem,ff];exact rfl)|(simp only[upd];simp[*];done)
 have e8:k=z.sets.length:=by omega
 subst e8
 refine aP ?_
 refine ZbR (n+13) 2 (n+10) ev rfl ev rfl om Ws ?_
 simp only[Zh,Y4]
 refine ae Tg ?_
 exact oN (fJ (upd h (n+13) (some ⟨101,[(⟨z,u,[],false,[]⟩:Vw).d]⟩)) (hr:=oS (k:=by exact⟨n+13,rfl,rfl,om,om⟩)) (hh:=by refine eZ (less_upd hnone (λq hq=>?_)) ?_<;>simp only[upd]<;>(repeat rw[XW (by omega)])<;>rfl))
end Go.Proofs.YtdcenbhgholncaaGreatDoor
namespace Go.Proofs.YtdcenbhgholncaaGreatDoor
open Go.Proofs.Tryz
open Go.DL Go.Str Go.Rec Go.Zon Go.Cmp Go.Jn Go.RowKit
set_option maxRecDepth 10000
def Wx(v:Vw)(r:Nat)(h:H)(n:Nat)(hv:h r=some ⟨101,[v.d]⟩)(hf:iA v.z.sets)(hq:ai v.q.name=true)(hu:bF v.q.name v.z.apex)(he:gy v.z.sets v.q.name=true):dz prog 45 [.mptr r 0 0] h n (λd h' n'=>d = .tuple [.agg ((bY v 3).1.df (!(bY v 3).2)),.b (bY v 3).2]/\h'=h/\n<=n') :=
 (Jl v r h n hv hf hq hu).mono λd h' n'⟨k1,k2⟩=>by
  rcases k2 with⟨_,k3,k4⟩|⟨k3,_⟩
  . exact⟨k3,k4,k1⟩
  rw[he]at k3;cases k3
def Wy(v:Vw)(r:Nat)(h:H)(n:Nat)(hv:h r=some ⟨101,[v.d]⟩)(hf:iA v.z.sets)(hq:ai v.q.name=true)(hu:bF v.q.name v.z.apex)(he:gy v.z.sets v.q.name=false):dz prog 45 [.mptr r 0 0] h n (λd h' n'=>d = .tuple [.agg ((bY v 3).1.df (!(bY v 3).2)),.b (bY v 3).2]/\h'=upd h r (some ⟨101,[(⟨v.z,v.q,v.cut,v.beh,o6 v.z v.q.name⟩:Vw).d]⟩)/\n<=n') :=
 (Jl v r h n hv hf hq hu).mono λd h' n'⟨k1,k2⟩=>by
  rcases k2 with⟨k3,_⟩|⟨_,k3,k4⟩
  . rw[he]at k3;cases k3
  exact⟨k3,k4,k1⟩
def Zck{z:Zon}{s:Str}(hn:ai s=true)(hz:aJ z=true)(hu:under s z.apex=true):fF z s=((bO z s).1,(bO z s).2,0):=by
 unfold fF;rw[hn,hz,hu];rfl
def Zcl{z:Zon}{s:Str}(hn:ai s=true)(hz:aJ z=true)(hu:under s z.apex=false):fF z s=([],false,20):=by
 unfold fF;rw[hn,hz,hu];rfl
def Zcm{z:Zon}{s:Str}(h:(ai s&&aJ z)=false):fF z s=([],false,1):=by
 unfold fF;rw[h];rfl
def Bz{z:Zon}{s a:Str}{b:Bool}{e:Int}(h:fF z s=(a,b,e)):PureCt prog 12 [.agg z.d,.v (.string (bs s))] (.tuple [.v (.string (bs a)),.b b,.i e]):=by
 have:=QW z s
 rwa [h]at this
theorem PX{z:Zon}(hz:aJ z=true):∀f{n:Str},ai n=true->bF n z.apex->(mV z f n).2=true->0<=aR z.sets ⟨(mV z f n).1,2⟩
 | 0,n,_,_,h=>by cases h
 | f+1,n,hn,hu,h=>by
  rw[mV]at h ⊢
  by_cases e:n=z.apex
  . rw[X0 e]at h;cases h
  rw[XW e]at h ⊢
  by_cases e2:dN z.sets ⟨n,2⟩=true
  . rw[X0 e2];exact VQ hz hn e2
  rw[XW e2]at h ⊢;obtain⟨hr,hu2⟩:=vT hn hu e;exact PX hz f (nL hn hr).1 hu2 h
def Zds{z:Zon}(hz:aJ z=true):ai z.apex=true:=(yt.1 (by unfold aJ at hz;simp only[XT]at hz;exact hz.1.1.1.1.1)).apex
set_option maxHeartbeats 1000000 in
def MM(z:Zon)(q:Qst):PureCt prog 11 [.agg z.d,.agg q.d] (.tuple [.agg (fB z q).1.d,.i (fB z q).2]):=by
 refine oO func11 λff=>?_
 unfold f11
 refine ae Tg ?_
 refine oM Tg ?_ ?_ (hq:=rfl)<;>intro c1
 .
  have hty:aO q.ty 1 8=false:=by(simp only[aO];revert c1;simp;omega)
  exact fr Tg (K:=2) (k:=by rw[fB,X0 hty];rfl)
 have hty : ¬aO q.ty 1 8=false:=by(simp only[aO];revert c1;simp<;>omega)
 have h3:(ai q.name&&aJ z)=false\/(ai q.name=true/\aJ z=true/\under q.name z.apex=false)\/(ai q.name=true/\aJ z=true/\under q.name z.apex=true):=by(cases ai q.name<;>cases aJ z<;>cases under q.name z.apex<;>simp)
 rcases h3 with hA|⟨hn,hz,hu0⟩|⟨hn,hz,hu0⟩
 .
  have hcr:=Zcm hA;have ff:=qA @hcr ff;refine ae Tg ?_ (hok:=oF (Bz hcr));refine oM Tg ?_ ?_ (hq:=rfl)<;>intro c2
  . simp at c2
  refine aY ?_;refine wG Tg ?_ ?_ (hq:=rfl)<;>intro c3
  . exact fr Tg (K:=2) (k:=by rw[fB,XW hty,hcr];rfl)
  simp at c3
 .
  have hcr:=Zcl hn hz hu0;have ff:=qA @hcr ff;refine ae Tg ?_ (hok:=oF (Bz hcr));refine aY ?_;refine wG Tg ?_ ?_ (hq:=rfl)<;>intro c2
  . exact fr Tg (K:=2) (k:=by rw[fB,XW hty,hcr];rfl)
  simp at c2
 have hcr:=Zck hn hz hu0
 have hu:=(zD hn (Zds hz)).1 hu0
 have hf:=Bv hz
 have hR:fB z q=(IR z q,0):=by unfold fB;rw[XW hty,hcr];rfl
 have ff:=qA @hcr ff
 refine ae Tg ?_ (hok:=oF (Bz hcr))
 refine oM Tg ?_ ?_ (hq:=rfl)<;>intro c2
 . simp at c2
 refine oM Tg ?_ ?_ (hq:=rfl)<;>intro c3
 . simp at c3
 refine aY (gI Tg 2 (hct:=by exact WI z q hf.1 _ _) (hk:=?_))
 rintro res h2 n2 ⟨r,rfl,rfl,hr1,hr2⟩
 try dsimp only at hr1 hr2
 have hr3:3<=r:=by omega
 have ff:=qG (nH 0 1) (nH 0 2) (nH 0 r) (nH 1 2) (nH 1 r) (nH 2 r) ff
 refine gH Tg ?_
 refine oC Tg ?_
 refine wA Tg ?_
 refine lq (Nat×Str×Nat) [4,9,65,66] (λ⟨k,w,nx⟩=>(k<=7/\r<nx/\(w=if k<=3 then[]else o6 z q.name)/\IR z q=ng z q (7-k) k,7-k,[(67,.i k)],[(0,⟨24,[z.d]⟩),(1,⟨27,[q.d]⟩),(2,⟨36,[[.v (.int .i64 0),.e,.v (.string (bs []))]]⟩),(r,⟨101,[(⟨z,q,(bO z q.name).1,(bO z q.name).2,w⟩:Vw).d]⟩)],nx)) (0,[],_) ?_
 rintro⟨k,w,nx⟩ ⟨hk,hx,hw,ha⟩
 simp only[XX,XZ]
 have n0:0<nx:=by omega
 have n1:1<nx:=by omega
 have n2:2<nx:=by omega
 have ff:=qE @hx @n0 @n1 @n2 ff
 refine wH Tg ?_ ?_ (hq:=rfl)<;>intro c4
 .
  have ko:k<7:=by(have h9:=c4;simp at h9;omega)
  have hev:(⟨z,q,(bO z q.name).1,(bO z q.name).2,w⟩:Vw)=nu z q k:=by rw[hw];rfl
  refine wB ?_;have h7:k=0\/k=1\/k=2\/(k=3/\gy z.sets q.name=true)\/(k=3/\gy z.sets q.name=false)\/k=4\/k=5\/k=6:=by(cases gy z.sets q.name<;>simp<;>omega)
  rcases h7 with e0|e0|e0|⟨e0,hex⟩|⟨e0,hex⟩|e0|e0|e0
  .
   have ff:=qA @e0 ff;refine ae Tg ?_;refine aY (gI Tg 1 (hct:=by exact Re (⟨z,q,(bO z q.name).1,(bO z q.name).2,w⟩:Vw) r _ _ ev hf (λh9=>PX hz _ hn hu h9)) (hk:=?_))
   rintro res h2 n2 ⟨rfl,rfl,hn2⟩
   try dsimp only at hn2
   have q0:0<n2:=by omega
   have q1:1<n2:=by omega
   have q2:2<n2:=by omega
   have q3:r<n2:=by omega
   have ff:=qE @q0 @q1 @q2 @q3 ff;refine gH Tg ?_;refine wG Tg ?_ ?_ (hq:=rfl)<;>intro c5
   . exact fr Tg (K:=2) (k:=by rw[hR,ha,vz ko (by rw[<-hev,e0];exact c5),<-hev,e0];try rfl)
   refine wC Tg ?_;exact ax (k+1,w,_) (h1:=⟨iv,iv,(by first|(rw[hw,e0];rfl)|(dsimp only;rw[hw,e0];rfl)),(by(try dsimp only);rw[ha,xE ko (by rw[<-hev,e0];exact c5)])⟩)
  .
   have ff:=qA @e0 ff;refine ae Tg ?_;refine aY (gI Tg 1 (hct:=by exact Ri (⟨z,q,(bO z q.name).1,(bO z q.name).2,w⟩:Vw) r _ _ ev hf) (hk:=?_))
   rintro res h2 n2 ⟨rfl,rfl,hn2⟩
   try dsimp only at hn2
   have q0:0<n2:=by omega
   have q1:1<n2:=by omega
   have q2:2<n2:=by omega
   have q3:r<n2:=by omega
   have ff:=qE @q0 @q1 @q2 @q3 ff;refine gH Tg ?_;refine wG Tg ?_ ?_ (hq:=rfl)<;>intro c5
   . exact fr Tg (K:=2) (k:=by rw[hR,ha,vz ko (by rw[<-hev,e0];exact c5),<-hev,e0];try rfl)
   refine wC Tg ?_;exact ax (k+1,w,_) (h1:=⟨iv,iv,(by first|(rw[hw,e0];rfl)|(dsimp only;rw[hw,e0];rfl)),(by(try dsimp only);rw[ha,xE ko (by rw[<-hev,e0];exact c5)])⟩)
  .
   have ff:=qA @e0 ff;refine ae Tg ?_;refine aY (gI Tg 1 (hct:=by exact Rk (⟨z,q,(bO z q.name).1,(bO z q.name).2,w⟩:Vw) r _ _ ev hf) (hk:=?_))
   rintro res h2 n2 ⟨rfl,rfl,hn2⟩
   try dsimp only at hn2
   have q0:0<n2:=by omega
   have q1:1<n2:=by omega
   have q2:2<n2:=by omega
   have q3:r<n2:=by omega
   have ff:=qE @q0 @q1 @q2 @q3 ff;refine gH Tg ?_;refine wG Tg ?_ ?_ (hq:=rfl)<;>intro c5
   . exact fr Tg (K:=2) (k:=by rw[hR,ha,vz ko (by rw[<-hev,e0];exact c5),<-hev,e0];try rfl)
   refine wC Tg ?_;exact ax (k+1,w,_) (h1:=⟨iv,iv,(by first|(rw[hw,e0];rfl)|(dsimp only;rw[hw,e0];rfl)),(by(try dsimp only);rw[ha,xE ko (by rw[<-hev,e0];exact c5)])⟩)
  .
   have ff:=qA @e0 ff;refine ae Tg ?_;refine aY (gI Tg 1 (hct:=by exact Wx (⟨z,q,(bO z q.name).1,(bO z q.name).2,w⟩:Vw) r _ _ ev hf hn hu hex) (hk:=?_))
   rintro res h2 n2 ⟨rfl,rfl,hn2⟩
   try dsimp only at hn2
   have q0:0<n2:=by omega
   have q1:1<n2:=by omega
   have q2:2<n2:=by omega
   have q3:r<n2:=by omega
   have ff:=qE @q0 @q1 @q2 @q3 ff;refine gH Tg ?_;refine wG Tg ?_ ?_ (hq:=rfl)<;>intro c5
   . exact fr Tg (K:=2) (k:=by rw[hR,ha,vz ko (by rw[<-hev,e0];exact c5),<-hev,e0];try rfl)
   rw[EL (by exact hex)]at c5;simp at c5
  .
   have ff:=qA @e0 ff;refine ae Tg ?_;refine aY (gI Tg 1 (hct:=by exact Wy (⟨z,q,(bO z q.name).1,(bO z q.name).2,w⟩:Vw) r _ _ ev hf hn hu hex) (hk:=?_))
   rintro res h2 n2 ⟨rfl,rfl,hn2⟩
   try dsimp only at hn2
   have q0:0<n2:=by omega
   have q1:1<n2:=by omega
   have q2:2<n2:=by omega
   have q3:r<n2:=by omega
   have ff:=qE @q0 @q1 @q2 @q3 ff;refine gH Tg ?_;refine wG Tg ?_ ?_ (hq:=rfl)<;>intro c5
   . exact fr Tg (K:=2) (k:=by rw[hR,ha,vz ko (by rw[<-hev,e0];exact c5),<-hev,e0];try rfl)
   refine wC Tg ?_;exact ax (k+1,o6 z q.name,_) (h1:=⟨iv,iv,(by first|(rw[e0];rfl)|(dsimp only;rw[e0];rfl)),(by(try dsimp only);rw[ha,xE ko (by rw[<-hev,e0];exact c5)])⟩)
  .
   have ff:=qA @e0 ff;refine ae Tg ?_;refine aY (gI Tg 1 (hct:=by exact Q9 (⟨z,q,(bO z q.name).1,(bO z q.name).2,w⟩:Vw) r _ _ ev hf) (hk:=?_))
   rintro res h2 n2 ⟨rfl,rfl,hn2⟩
   try dsimp only at hn2
   have q0:0<n2:=by omega
   have q1:1<n2:=by omega
   have q2:2<n2:=by omega
   have q3:r<n2:=by omega
   have ff:=qE @q0 @q1 @q2 @q3 ff;refine gH Tg ?_;refine wG Tg ?_ ?_ (hq:=rfl)<;>intro c5
   . exact fr Tg (K:=2) (k:=by rw[hR,ha,vz ko (by rw[<-hev,e0];exact c5),<-hev,e0];try rfl)
   refine wC Tg ?_;exact ax (k+1,w,_) (h1:=⟨iv,iv,(by first|(rw[hw,e0];rfl)|(dsimp only;rw[hw,e0];rfl)),(by(try dsimp only);rw[ha,xE ko (by rw[<-hev,e0];exact c5)])⟩)
  .
   have ff:=qA @e0 ff;refine ae Tg ?_;refine aY (gI Tg 1 (hct:=by exact Ra (⟨z,q,(bO z q.name).1,(bO z q.name).2,w⟩:Vw) r _ _ ev hf) (hk:=?_))
   rintro res h2 n2 ⟨rfl,rfl,hn2⟩
   try dsimp only at hn2
   have q0:0<n2:=by omega
   have q1:1<n2:=by omega
   have q2:2<n2:=by omega
   have q3:r<n2:=by omega
   have ff:=qE @q0 @q1 @q2 @q3 ff;refine gH Tg ?_;refine wG Tg ?_ ?_ (hq:=rfl)<;>intro c5
   . exact fr Tg (K:=2) (k:=by rw[hR,ha,vz ko (by rw[<-hev,e0];exact c5),<-hev,e0];try rfl)
   refine wC Tg ?_;exact ax (k+1,w,_) (h1:=⟨iv,iv,(by first|(rw[hw,e0];rfl)|(dsimp only;rw[hw,e0];rfl)),(by(try dsimp only);rw[ha,xE ko (by rw[<-hev,e0];exact c5)])⟩)
  have ff:=qA @e0 ff;refine ae Tg ?_;refine aY (gI Tg 1 (hct:=by exact Q8 (⟨z,q,(bO z q.name).1,(bO z q.name).2,w⟩:Vw) r _ _ ev hf) (hk:=?_))
  rintro res h2 n2 ⟨rfl,rfl,hn2⟩
  try dsimp only at hn2
  have q0:0<n2:=by omega
  have q1:1<n2:=by omega
  have q2:2<n2:=by omega
  have q3:r<n2:=by omega
  have ff:=qE @q0 @q1 @q2 @q3 ff;refine gH Tg ?_;refine wG Tg ?_ ?_ (hq:=rfl)<;>intro c5
  . exact fr Tg (K:=2) (k:=by rw[hR,ha,vz ko (by rw[<-hev,e0];exact c5),<-hev,e0];try rfl)
  refine wC Tg ?_;exact ax (k+1,w,_) (h1:=⟨iv,iv,(by first|(rw[hw,e0];rfl)|(dsimp only;rw[hw,e0];rfl)),(by(try dsimp only);rw[ha,xE ko (by rw[<-hev,e0];exact c5)])⟩)
 have e8:k=7:=by(have h9:=c4;simp at h9;omega)
 have hev:(⟨z,q,(bO z q.name).1,(bO z q.name).2,w⟩:Vw)=nu z q k:=by rw[hw];rfl
 rw[e8]at hev
 refine aP ?_
 refine aY (gI Tg 1 (hct:=by exact Rf (⟨z,q,(bO z q.name).1,(bO z q.name).2,w⟩:Vw) r _ _ ev hf) (hk:=?_))
 rintro res h2 n2 ⟨rfl,rfl,hn2⟩
 refine gH Tg ?_
 exact fo 2 (k:=by rw[hR,ha,e8,ZaJ,<-hev];try rfl)
variable [Dr]
def JF(k:SKey):PureCt prog 34 [.agg k.d] (.b (mD k)):=by
 refine oO func34 λff=>?_
 unfold f34
 refine ae Tg ?_
 exact fr Tg (k:=by simp[mD,aO,Zq])
def JE(f:Int)(u:Int):PureCt prog 33 [.i f,.i u] (.b (jy f u)):=by
 refine oO func33 λff=>?_
 unfold f33
 refine ae Tg ?_
 exact fr Tg (k:=by simp[jy,Zq])
def Uv(a:SKey)(b:SKey):PureCt prog 36 [.agg a.d,.agg b.d] (.i (Go.Rec.cmpI a.n b.n)):=by
 refine oO func36 λff=>?_
 unfold f36
 refine ae Tg ?_
 exact ft Tg (hok:=oH Eb)
def UG(a:dV)(b:dV)(ha:iA a.sets):PureCt prog 21 [.agg a.d,.agg b.d] (.b (zO a b)):=by
 refine oO func21 λff=>?_
 unfold f21
 refine ae Tg ?_
 refine ae Tg ?_ (hok:=oH (UF _ _ ha))
 exact fr Tg (k:=by rw[show(a.cut==b.cut)=decide (a.cut=b.cut)by(rw[YN];simp),zO];rfl)
def mE(x:Int)(i:Nat):List D:=(List.range 8).map λj=>.v (.int .u8 (if j<i then((lh (uN x) (56-8*j)).toNat:Int)else 0))
def UX(x:Int):[D.v (.int .u8 0),.v (.int .u8 0),.v (.int .u8 0),.v (.int .u8 0),.v (.int .u8 0),.v (.int .u8 0),.v (.int .u8 0),.v (.int .u8 0)]=mE x 0:=rfl
theorem zR(x:Int)(i:Nat):(mE x i).length=8:=rfl
def Ko(x:Int)(i:Nat):(mE x i).all D.one=true:=rfl
def UT(x:Int)(i:Nat):∀d∈mE x i,∃v:Value,d = .v v/\v.oneCell'=true:=λd hd=>by
 obtain⟨j,_,rfl⟩:=Yh.1 hd
 exact⟨_,rfl,rfl⟩
theorem UU{x:Int}{i:Nat}(h:i<8):(mE x i).set i (.v (.int .u8 ((lh (uN x) (56-8*i)).toNat:Int)))=mE x (i+1):=by
 unfold mE
 refine List.ext_getElem (by simp) λj h1 h2=>?_
 rw[List.getElem_set]
 simp only[List.getElem_map,List.getElem_range]
 by_cases e:i=j
 . subst e;rw[X0 rfl,X0 (Nat.lt_succ_self _)]
 rw[XW e]
 by_cases e2:j<i
 . rw[X0 e2,X0 (Nat.lt_succ_of_lt e2)]
 rw[XW e2,XW (by omega)]
def UV{x:Int}{i:Nat}(h:i<8):List.take (i*1) (mE x i)++[.v (.int .u8 ((lh (uN x) (56-8*i)).toNat:Int))]++List.drop (i*1+1) (mE x i)=mE x (i+1):=by
 rw[<-UU h,List.set_eq_take_append_cons_drop,X0 (by rw[zR];exact h),Nat.mul_one,YS]
 rfl
theorem UW(x:Int):((mE x 8).map λd=>[d])=(cz x).map bD:=rfl
theorem Zdi{l:List Int}{d k:Nat}(h:k<l.length):((l.take (k+1)).flatMap cz).foldl dU d=(cz l[k]!).foldl dU (((l.take k).flatMap cz).foldl dU d):=by
 rw[BK! h,List.flatMap_append,Y2]
 simp
def Xo{n:Nat}(h:n<=60):IntKind.u8.wrap (n:Int)=((lT n).toNat:Int):=by
 rw[IntKind.wrap_u8]
 unfold lT
 rw[UInt8.toNat_ofNat']
 omega
def Wp(l:List Int)(d:Nat)(h:H)(n W:Nat)(hW:h W=some ⟨256,[[.v (.int .u64 ((d:Nat):Int))]]⟩)(hd:d<18446744073709551616)(hl:l.length<=1000):dz prog 199 [.l (l.map iR),.mptr W 0 0] h n (λx h' n'=>h'=upd h W (some ⟨256,[[.v (.int .u64 (((l.flatMap cz).foldl dU d:Nat):Int))]]⟩)/\n<=n'):=by
 refine oP func199 λhnone ff=>?_
 unfold f199
 have hWn:W<n:=Nat.lt_of_not_le λq=>by(rw[hnone W q]at hW;cases hW)
 have ff:=qA @hW ff
 refine ae Tg ?_
 refine dZ ?_
 refine yI (Nat×Nat) [1,7,8] (λ⟨k,nx⟩=>(k<=l.length/\n<=nx,l.length-k,[(9,.i k)],upd h W (some ⟨256,[[.v (.int .u64 ((((l.take k).flatMap cz).foldl dU d:Nat):Int))]]⟩),nx)) (0,_) ?_ (qN:=by intro q;left;show upd h W (some ⟨256,[[.v (.int .u64 ((d:Nat):Int))]]⟩) q=h q;by_cases e:q=W;subst e;rw[bu];exact hW.symm;rw[aI _ _ _ _ e])
 rintro⟨k,nx⟩ ⟨hk,hn⟩
 simp only[XX,XZ]
 have hWx:W<nx:=by omega
 have ff:=qA @hWx ff
 refine wH Tg ?_ ?_<;>intro c1
 .
  have hk2:k<l.length:=by simpa using c1
  have hdl:=y9 ((l.take k).flatMap cz) hd;have hdl2:=y9 ((l.take (k+1)).flatMap cz) hd;have ff:=qE (Dm hk2) (UX l[k]!) (zR l[k]! 0) (Ko l[k]! 0) ff;refine wB ?_;refine oC Tg ?_;refine wA Tg ?_;refine yI (Nat×Nat×Nat) [1,4,7,8,9] (λ⟨i,b,nx⟩=>(i<=8/\b<nx/\n<=b,8-i,[(5,.mptr b 0 0),(13,.i i)],upd (upd h W (some ⟨256,[[.v (.int .u64 ((((l.take k).flatMap cz).foldl dU d:Nat):Int))]]⟩)) b (some ⟨257,[mE l[k]! i]⟩),nx)) (0,(nx+4),_) ?_ (qN:=by exact λ_=>.inl rfl)
  rintro⟨i,b,nx⟩ ⟨hi,hb,hbW⟩;simp only[XX,XZ];have hWx:W<nx:=by omega
  have ff:=qD @hWx @hb (nH W b) ff;refine wH Tg ?_ ?_ (hq:=rfl)<;>intro c2
  .
   have hi2:i<8:=by(have h9:=c2;simp at h9;omega)
   have e5:((56:Int)-8*(i:Int)).toNat=56-8*i:=by omega
   have hnw:=LM l[k]! (56-8*i) (by omega)
   have hrs:=UV (x:=l[k]!) hi2;have hr8:=zR l[k]! i;have ff:=qF @e5 @hnw @hrs (zR l[k]! i) (Ko l[k]! i) ff;refine wB ?_;refine ae Tg ?_;refine aA Tg ?_;refine aA Tg ?_;refine ax (i+1,b,_) (h5:=?_);refine eZ (Gl hnone ?_ (λq hq hq2=>?_)) ?_
   . first|(simp only[go_sem,ff];done)|(simp only[go_sem,ff];exact rfl)
   .
    simp only[upd]
    repeat rw[XW (by omega)]
   first|(simp only[go_sem,ff];done)|(simp only[go_sem,ff];exact rfl)
  have e7:i=8:=by(have h9:=c2;simp at h9;omega)
  subst e7;refine aP ?_;refine sgr ?_;refine ZaI Tg 0 (m:=8) (e:=5) (row:=mE l[k]! 8) ?_ (zR _ _) (UT _ _);rw[UW];refine Kg (C:=Tg) 1 (R:=_) (by omega) (oZ rfl) rfl rfl (by simp only[Yw,Yl,YD,Y0,S.put,Zn,Nat.reduceSub,go_sem,ff];first|done|exact rfl) ?_ ?_ ev (by simp only[go_sem,ff]) ev (by exact DZ (cz l[k]!) (((l.take k).flatMap cz).foldl dU d) _ _ W (by simp only[go_sem,ff];first|done|rfl) hdl (by rw[mZ];omega)) ?_
  .
   try simp only[go_sem,ff]
   all_goals (exact ok0)
  .
   try simp only[go_sem,ff]
   all_goals (first|done|rfl|decide|simp)
  rintro res h2 n2 ⟨rfl,hn2⟩;refine oh Tg ?_
  try simp only[gz]
  refine aA Tg ?_;refine ax (k+1,_) (h5:=?_);refine Gl hnone ?_ (λq hq hq2=>?_)
  . rw[Zdi hk2];first|(simp only[go_sem,ff];done)|(simp only[go_sem,ff];exact rfl)
  simp only[upd]
  repeat rw[XW (by omega)]
 have e8:k=l.length:=by omega
 subst e8
 refine aP ?_
 exact fJ (upd h W (some ⟨256,[[.v (.int .u64 (((l.flatMap cz).foldl dU d:Nat):Int))]]⟩)) (hr:=oS (k:=by first|omega|exact⟨rfl,om⟩)) (hh:=by rw[Zw];exact wZ _)
theorem RP(b zn:Str)(k:SKey)(f u:Int):xW b zn k f u=([k.n,k.a,f,u].flatMap cz).foldl dU (zn.foldl dU ([lT zn.length].foldl dU (b.foldl dU xL))):=by
 unfold xW dig
 rw[<-Y2,<-Y2,<-Y2]
 congr 1
 simp
theorem Zcv(zn:Str):((bs zn).data.toList.map uy)=zn.map bD:=by rw[kz];rfl
theorem E5{s:RSet}{zn:Str}{k:SKey}{f u:Int}(h:qo s zn k f u=false):bW s zn k f u=(o8,1):=XW (by rw[h];decide)
theorem Tj{s:RSet}{zn:Str}{k:SKey}{f u:Int}(h:qo s zn k f u=true):bW s zn k f u=(rV s zn k f u,0):=X0 h
theorem Tp(x g:RSig):decide (x=g)=(x.zone==g.zone&&(x.key==g.key&&(x.alg==g.alg&&(x.frm==g.frm&&(x.unt==g.unt&&x.sum==g.sum))))):=by
 obtain⟨a,b,c,d,e,f⟩:=x
 obtain⟨a',b',c',d',e',f'⟩:=g
 rw[YN]
 simp
def Zc0{s:RSet}(h:(ma s).2=0):(ma s).1.length<=1000:=by
 unfold ma at h ⊢
 by_cases e:eG s=true
 . rw[X0 e];exact TS ((iE s).1 e)
 rw[XW e]at h;cases h
def Sk(b:Str)(zn:Str)(k:SKey)(f:Int)(u:Int)(hb:b.length<=1000000)(hz:zn.length<=60):PureCt prog 125 [.l (b.map bD),.v (.string (bs zn)),.agg k.d,.i f,.i u] (.v (.int .u64 ((xW b zn k f u:Nat):Int))):=by
 refine oO func125 λff=>?_
 unfold f125
 have hd1:=y9 b (d:=xL) (by decide)
 have hd2:=y9 [lT zn.length] hd1
 have hd3:=y9 zn hd2
 have hlb:=Xo hz
 have ff:=qA @hlb ff
 refine oD Tg ?_
 refine aY (gI Tg 1 (hct:=by exact DZ b xL _ _ _ (by simp only[go_sem,ff];first|done|rfl) (by decide) om) (hk:=?_))
 rintro res h2 n2 ⟨rfl,hn2⟩
 refine gH Tg ?_
 refine aY (gI Tg 4 (hct:=by exact DZ [lT zn.length] (b.foldl dU xL) _ _ _ (by simp only[go_sem,ff];first|done|rfl) hd1 (by simp)) (hk:=?_))
 rintro res h2 n2 ⟨rfl,hn3⟩
 refine gH Tg ?_
 refine rW ?_
 refine gconv Tg 1 (sb:=bs zn) (u:=.string) (e:=5) ?_ (by rw[Zc4];omega)
 rw[Zcv]
 refine Kg (C:=Tg) 2 (R:=_) om (oZ rfl) rfl rfl (by simp only[Yw,Yl,YD,Y0,S.put,Zn,Nat.reduceSub,go_sem,ff];first|done|exact rfl) ?_ ?_ ev (by simp only[go_sem,ff]) ev (by exact DZ zn ([lT zn.length].foldl dU (b.foldl dU xL)) _ _ _ (by simp only[go_sem,ff];first|done|rfl) hd2 om) ?_
 .
  try simp only[go_sem,ff]
  all_goals (exact ok0)
 .
  try simp only[go_sem,ff]
  all_goals (first|done|rfl|decide|simp)
 rintro res h4 n4 ⟨rfl,hn4⟩
 refine oh Tg ?_
 try simp only[gz]
 refine aY (gI Tg 8 (hct:=by exact Wp [k.n,k.a,f,u] (zn.foldl dU ([lT zn.length].foldl dU (b.foldl dU xL))) _ _ _ (by simp only[go_sem,ff];first|done|rfl) hd3 (by simp)) (hk:=?_))
 rintro res h2 n2 ⟨rfl,hn5⟩
 refine gH Tg ?_
 exact fr Tg (k:=by rw[RP];try rfl)
def JN(s:RSet)(zn:Str)(k:SKey)(f:Int)(u:Int):PureCt prog 40 [.agg s.d,.v (.string (bs zn)),.agg k.d,.i f,.i u] (.tuple [.agg (bW s zn k f u).1.d,.i (bW s zn k f u).2]):=by
 refine oO func40 λff=>?_
 unfold f40
 refine ae Tg ?_
 refine oK Tg ?_ ?_ (hok:=oa4 @JF @JE @uU @GR)<;>intro c1
 . exact fr Tg (K:=2) (k:=by rw[E5 (by unfold qo;rw[<-vS];grind)];try rfl)
 refine ae Tg ?_ (hok:=oF (Vk _))
 refine oK Tg ?_ ?_<;>intro c2
 . exact fr Tg (K:=2) (k:=by rw[E5 (by unfold qo;rw[<-vS];grind)];try rfl)
 refine aY ?_
 refine ae Tg ?_ (hok:=oF (wU _ _))
 refine wE Tg ?_ ?_<;>intro c3
 . exact fr Tg (K:=2) (k:=by rw[E5 (by unfold qo;rw[<-vS];grind)];try rfl)
 refine dS ?_
 have hb9:(ma s).1.length<=1000000:=Nat.le_trans (Zc0 (by grind)) om
 have hz9:=gT (l:=zn) (by grind)
 exact fr Tg (K:=2) (hok:=oF (Sk _ _ _ _ _ hb9 hz9)) (k:=by rw[Tj (by unfold qo;rw[<-vS];grind)];try rfl)
def Uq(s:RSet)(g:RSig)(k:SKey):PureCt prog 59 [.agg s.d,.agg g.d,.agg k.d] (.b (rD s g k)):=by
 refine oO func59 λff=>?_
 unfold f59
 refine ae Tg ?_
 refine ae Tg ?_ (hok:=oF (JN _ _ _ _ _))
 exact fr Tg (k:=by rw[rD,Tp];rfl)
def V7{z:Zon}(hz:aJ z=true){k:Nat}(hk:k<z.sets.length)(hm:je (bM z z.sets.length) z.sets[k]!.set.name=true):(bI (bM z z.sets.length) z.sets (k+1)).2=z.sets[k]!.set.name:=by
 obtain⟨j,hj,hty,hna,hjn⟩:=Il.1 hm
 have hO:=Ez hz
 have bj:=Eo hO hj
 have e:=Qw (hjn▸bj) (Eo hO hk)
 have hc:iB (aN z)=true:=by unfold aJ at hz;simp only[Bool.and_eq_true]at hz;grind
 unfold iB at hc
 have hc:=(dO _ _ _).1 hc j (Yk _) hj
 unfold cutAt at hc
 have hb:(eT z)[j]! ≠ []:=by
  rcases bj with⟨_,k1⟩|⟨k1,_⟩
  . exact absurd (zF _) (k1 _ ⟨j,hj,hty,hna,rfl⟩)
  exact k1
 have e2:(eT z)[j]! = z.sets[j]!.set.name:=by
  by_cases q:(eT z)[j]! = z.sets[j]!.set.name
  . exact q
  have hc:(let t:=z.sets[j]!.set.ty;if(eT z)[j]! = []then !decide (t=6)else if(eT z)[j]! = z.sets[j]!.set.name then decide (t=2)||decide (t=6)||decide (t=8)||decide (t=1)else decide (t=1))=true:=hc
  rw[XW hb,XW q,hty]at hc
  cases hc
 rw[<-IG _ _ _ _ hk]
 show(eT z)[k]! = _
 rw[<-e,e2,hjn]
theorem nN{z:Zon}{k:Nat}{c:Str}(h:k<z.sets.length)(hc:(bI (bM z z.sets.length) z.sets (k+1)).2=c):eO (aN z) k=(c==[]||(!decide (z.sets[k]!.set.ty=2) && !decide (z.sets[k]!.set.ty=1))):=by
 unfold eO aN
 show((eT z)[k]! == []||_)=_
 unfold eT
 rw[IG _ _ _ _ h,hc]
def V6(z:Zon):List.take z.sets.length ((jF (aN z) z.sets.length z.sets.length).map bR)=(jH (aN z) z.sets.length).map bR:=by
 rw[Kn];exact Yg (by rw[Y8,pE];exact X3 _)
def SC(z:Zon)(hz:aJ z=true):PureCt prog 38 [.agg z.d] (.l ((jH (aN z) z.sets.length).map bR)):=by
 refine oO func38 λff=>?_
 unfold f38
 have hl:=uT hz
 refine oC Tg ?_
 refine wA Tg ?_
 refine lq (Nat×Nat) [1,3,14,15] (λ⟨k,nx⟩=>(k<=z.sets.length/\2<nx,z.sets.length-k,[(16,.i k)],[(0,⟨24,[z.d]⟩),(2,⟨168,gU (nU (bM z (k)))⟩)],nx)) (0,_) ?_
 rintro⟨k,nx⟩ ⟨hk,hx⟩
 simp only[XX,XZ]
 have n0:0<nx:=by omega
 have ff:=qB @hx @n0 ff
 refine wH Tg ?_ ?_<;>intro c1
 .
  have hk2:k<z.sets.length:=by simpa using c1
  have ff:=qA (bU hk2) ff;refine wB ?_;refine ae Tg ?_;refine wE Tg ?_ ?_<;>intro c2
  .
   refine aA Tg ?_;refine aA Tg ?_;have ff:=qA (Ie (z:=z) (k:=k) (by grind)) ff
   exact ax (k+1,_)
  refine wC Tg ?_;have ff:=qA (Ig (z:=z) (k:=k) (by grind)) ff
  exact ax (k+1,_)
 have e8:k=z.sets.length:=by omega
 subst e8
 refine aP ?_
 refine H8 3 2 ev ev rfl LQ ?_
 refine oC Tg ?_
 refine wA Tg ?_
 refine lq (Nat×Str×Nat×Nat) [3,42,43] (λ⟨k,cut,rb,nx⟩=>(k<=z.sets.length/\rb<nx/\2<rb/\cut=(bI (bM z z.sets.length) z.sets k).2,z.sets.length-k,[(6,.mrow rb 0 z.sets.length),(7,.v (.string (bs cut))),(44,.i k)],[(0,⟨24,[z.d]⟩),(rb,⟨4,(jF (aN z) z.sets.length (k)).map bR⟩)],nx)) (0,[],(nx+4),_) ?_
 rintro⟨k,cut,rb,nx⟩ ⟨hk,hx,hbr,hc⟩
 simp only[XX,XZ]
 have n0:0<nx:=by omega
 have ff:=qD @hx @n0 (nH 0 rb) ff
 refine wH Tg ?_ ?_<;>intro c3
 .
  have hk2:k<z.sets.length:=by simpa using c3
  have ff:=qD (bU hk2) (yj (x:=aN z) hk) (Dn (l:=jF (aN z) z.sets.length k) (n:=k) (by rw[yj hk];exact hk2)) ff
  refine wB ?_;refine ae Tg ?_;refine aY ?_;refine wE Tg ?_ ?_<;>intro c4
  . refine aA Tg ?_;refine aA Tg ?_;refine aA Tg ?_;have hcc:=V7 hz hk2 c4;have ff:=qA hcc ff;exact ax (k+1,(bI (bM z z.sets.length) z.sets (k+1)).2,rb,_) (h3:=by(try simp only[go_sem,ff]);all_goals (first|done|exact congrArg (λq=>some (av.mk 4 q)) (kQ hk2 (by rw[nN hk2 hcc];grind))|(simp;done))) (h4:=by(try simp only[go_sem,ff]);all_goals (first|done|exact congrArg (λq=>some (av.mk 4 q)) (kQ hk2 (by rw[nN hk2 hcc];grind))|(simp;done))) (h5:=by(try simp only[go_sem,ff]);all_goals (first|done|exact congrArg (λq=>some (av.mk 4 q)) (kQ hk2 (by rw[nN hk2 hcc];grind))|(simp;done)))
  refine wE Tg ?_ ?_<;>intro c5
  .
   refine ae Tg ?_ (hok:=oF (wU _ _));refine wE Tg ?_ ?_<;>intro c6
   .
    refine aA Tg ?_;refine aA Tg ?_;refine aA Tg ?_;have hcc:(bI (bM z z.sets.length) z.sets (k+1)).2=[]:=by show Zon.stepC _ (bI _ _ k).2 _=_;rw[<-hc];simp only[Zon.stepC];grind
    have ff:=qA hcc ff;exact ax (k+1,(bI (bM z z.sets.length) z.sets (k+1)).2,rb,_) (h3:=by(try simp only[go_sem,ff]);all_goals (first|done|exact congrArg (λq=>some (av.mk 4 q)) (kQ hk2 (by rw[nN hk2 hcc];grind))|(simp;done))) (h4:=by(try simp only[go_sem,ff]);all_goals (first|done|exact congrArg (λq=>some (av.mk 4 q)) (kQ hk2 (by rw[nN hk2 hcc];grind))|(simp;done))) (h5:=by(try simp only[go_sem,ff]);all_goals (first|done|exact congrArg (λq=>some (av.mk 4 q)) (kQ hk2 (by rw[nN hk2 hcc];grind))|(simp;done)))
   refine wC Tg ?_;refine aA Tg ?_;have hcc:(bI (bM z z.sets.length) z.sets (k+1)).2=cut:=by show Zon.stepC _ (bI _ _ k).2 _=_;rw[<-hc];simp only[Zon.stepC];grind
   have ff:=qA hcc ff;exact ax (k+1,(bI (bM z z.sets.length) z.sets (k+1)).2,rb,_) (h3:=by(try simp only[go_sem,ff]);all_goals (first|done|exact congrArg (λq=>some (av.mk 4 q)) (kQ hk2 (by rw[nN hk2 hcc];grind))|(simp;done))) (h4:=by(try simp only[go_sem,ff]);all_goals (first|done|exact congrArg (λq=>some (av.mk 4 q)) (kQ hk2 (by rw[nN hk2 hcc];grind))|(simp;done))) (h5:=by(try simp only[go_sem,ff]);all_goals (first|done|exact congrArg (λq=>some (av.mk 4 q)) (kQ hk2 (by rw[nN hk2 hcc];grind))|(simp;done)))
  refine wC Tg ?_;refine aA Tg ?_;have hcc:(bI (bM z z.sets.length) z.sets (k+1)).2=cut:=by show Zon.stepC _ (bI _ _ k).2 _=_;rw[<-hc];simp only[Zon.stepC];grind
  have ff:=qA hcc ff;exact ax (k+1,(bI (bM z z.sets.length) z.sets (k+1)).2,rb,_) (h3:=by(try simp only[go_sem,ff]);all_goals (first|done|exact congrArg (λq=>some (av.mk 4 q)) (kQ hk2 (by rw[nN hk2 hcc];grind))|(simp;done))) (h4:=by(try simp only[go_sem,ff]);all_goals (first|done|exact congrArg (λq=>some (av.mk 4 q)) (kQ hk2 (by rw[nN hk2 hcc];grind))|(simp;done))) (h5:=by(try simp only[go_sem,ff]);all_goals (first|done|exact congrArg (λq=>some (av.mk 4 q)) (kQ hk2 (by rw[nN hk2 hcc];grind))|(simp;done)))
 refine aP ?_
 have e9:k=z.sets.length:=by omega
 subst e9
 have ff:=qB (V6 z) (yj (x:=aN z) (X3 z.sets.length)) ff
 refine ae Tg ?_
 exact oN (fin 1 (hr:=oR) (hk:=by(try simp only[go_sem,ff]);all_goals (exact pE _ _)))

end Go.Proofs.YtdcenbhgholncaaGreatDoor
namespace Go.Proofs.YtdcenbhgholncaaGreatDoor
open Go.Proofs.Tryz
open Go.DL Go.Str Go.Rec Go.Zon Go.Cmp Go.Jn Go.RowKit
set_option maxRecDepth 10000
variable [Dr]
def Sn:Go.Shelf.Ren:={ f:=λx=>match x with|6=>35|15=>121|14=>120|28=>194|29=>195|20=>186|21=>187|22=>188|23=>189|24=>190|25=>191|26=>192|27=>193|46=>238|47=>239|48=>240|49=>241|50=>242|57=>284|n=>n,t:=λx=>match x with|22=>25|24=>48|25=>86|3=>3|39=>192|0=>0|53=>252|55=>92|4=>4|46=>246|45=>245|50=>113|5=>5|9=>9|66=>303|70=>307|76=>337|77=>338|n=>n,g:=λn=>n }
def srtK:Go.Proofs.SlLaysF0.n6 prog Sn:={
 mixed:=by kernel_rfl
 f6:=⟨f35.name,by decide,func35.trans (by kernel_rfl)⟩
 f14:=⟨f120.name,by decide,func120.trans (by kernel_rfl)⟩
 f15:=func121.trans (by kernel_rfl)
 f20:=⟨f186.name,by decide,func186.trans (by kernel_rfl)⟩
 f21:=⟨f187.name,by decide,func187.trans (by kernel_rfl)⟩
 f22:=⟨f188.name,by decide,func188.trans (by kernel_rfl)⟩
 f23:=⟨f189.name,by decide,func189.trans (by kernel_rfl)⟩
 f24:=⟨f190.name,by decide,func190.trans (by kernel_rfl)⟩
 f25:=⟨f191.name,by decide,func191.trans (by kernel_rfl)⟩
 f26:=⟨f192.name,by decide,func192.trans (by kernel_rfl)⟩
 f27:=⟨f193.name,by decide,func193.trans (by kernel_rfl)⟩
 f28:=func194.trans (by kernel_rfl)
 f29:=func195.trans (by kernel_rfl)
 f46:=⟨f238.name,by decide,func238.trans (by kernel_rfl)⟩
 f47:=func239.trans (by kernel_rfl)
 f48:=func240.trans (by kernel_rfl)
 f49:=⟨f241.name,by decide,func241.trans (by kernel_rfl)⟩
 f50:=⟨f242.name,by decide,func242.trans (by kernel_rfl)⟩
 f57:=⟨f284.name,by decide,func284.trans (by kernel_rfl)⟩
 t0:=underlying0
 a0:=Tryz.isAgg0
 z0:=Tryz.sizeOf0
 v0:=Tryz.zeroValue0
 t3:=underlying3
 a3:=Tryz.isAgg3
 z3:=Tryz.sizeOf3
 v3:=Tryz.zeroValue3
 t4:=underlying4
 a4:=Tryz.isAgg4
 z4:=Tryz.sizeOf4
 v4:=Tryz.zeroValue4
 t5:=underlying5
 a5:=Tryz.isAgg5
 z5:=Tryz.sizeOf5
 v5:=Tryz.zeroValue5
 t9:=underlying9
 a9:=Tryz.isAgg9
 z9:=Tryz.sizeOf9
 v9:=Tryz.zeroValue9
 t22:=underlying25
 a22:=Tryz.isAgg25
 z22:=Tryz.sizeOf25
 v22:=Tryz.zeroValue25
 t25:=underlying86
 a25:=Tryz.isAgg86
 z25:=Tryz.sizeOf86
 v25:=Tryz.zeroValue86
 t39:=underlying192
 a39:=Tryz.isAgg192
 z39:=Tryz.sizeOf192
 v39:=Tryz.zeroValue192
 t45:=underlying245
 a45:=Tryz.isAgg245
 z45:=Tryz.sizeOf245
 v45:=Tryz.zeroValue245
 t46:=underlying246
 a46:=Tryz.isAgg246
 z46:=Tryz.sizeOf246
 v46:=Tryz.zeroValue246
 t50:=underlying113
 a50:=Tryz.isAgg113
 z50:=Tryz.sizeOf113
 v50:=Tryz.zeroValue113
 t53:=underlying252
 a53:=Tryz.isAgg252
 z53:=Tryz.sizeOf252
 v53:=Tryz.zeroValue252
 t55:=underlying92
 a55:=Tryz.isAgg92
 z55:=Tryz.sizeOf92
 v55:=Tryz.zeroValue92
 t66:=underlying303
 a66:=Tryz.isAgg303
 z66:=Tryz.sizeOf303
 v66:=Tryz.zeroValue303
 t70:=underlying307
 a70:=Tryz.isAgg307
 z70:=Tryz.sizeOf307
 v70:=Tryz.zeroValue307
 t76:=underlying337
 a76:=Tryz.isAgg337
 z76:=Tryz.sizeOf337
 v76:=Tryz.zeroValue337
 t77:=underlying338
 a77:=Tryz.isAgg338
 z77:=Tryz.sizeOf338
 v77:=Tryz.zeroValue338 }
def SE(l:List SKey)(m:Nat)(h:H)(n r:Nat)(hm:m=l.length)(hl:l.length<=1000000)(hr:h r=some ⟨48,l.map SKey.d⟩) :
  dz prog 35 [.mrow r 0 m,.fn (.func 36) [] []] h n (λd h' n'=>d = .tuple []/\n'=n /\ ∃l':List SKey,l'.Perm l/\(l'.Pairwise λa b=>a.n<=b.n)/\h'=upd h r (some ⟨48,l'.map SKey.d⟩)):=by
 have e:m=(l.map SKey.d).length:=by simp[hm]
 rw[e]
 have hx : ∀x∈l.map SKey.d,SKey.d (SKey.of x)=x:=λx hx=>by
  obtain⟨s,hs,rfl⟩:=Yh.1 hx;rw[FW]
 refine(SG (ty:=48) srtK rfl rfl Tryz.isAgg48 Tryz.sizeOf48 (λx y=>Go.Rec.cmpI (SKey.of x).n (SKey.of y).n) (by kernel_rfl) hr yA rfl (by simp;omega) (λx h1 y h2=>?_) ⟨λx h1=>?_,λx h1 y h2 z h3=>?_,λx h1 y h2 z h3=>?_⟩).mono ?_
 .
  letI iD:Dr:=drT
  have:=Uv (SKey.of x) (SKey.of y);rw[hx x h1,hx y h2]at this;exact this
 . simp only[Go.Rec.cmpI];grind
 . simp only[Go.Rec.cmpI];grind
 . simp only[Go.Rec.cmpI];grind
 rintro d h' n' ⟨rfl,rfl,rows',hp,hs,rfl⟩
 obtain⟨q1,q2⟩:=UL FW hp
 refine⟨rfl,rfl,rows'.map SKey.of,q2,?_,by rw[q1]⟩
 rw[List.pairwise_map]
 refine hs.imp λ{a b}h3=>?_
 have h3 : ¬Go.Rec.cmpI (SKey.of b).n (SKey.of a).n<0:=h3
 simp only[Go.Rec.cmpI]at h3;grind
theorem Zct{m:Nat}{x:List D}{l:List SKey}(h:l.length=m):List.take 0 (List.replicate m x)++l.map SKey.d++List.drop (0+m) (List.replicate m x)=l.map SKey.d:=by simp
def lW(ks:List SKey)(i:Nat):Bool:=mD ks[i]!
theorem CV(ks:List SKey):ks.all mD=aB ks.length (lW ks) 0:=by
 rw[YN,Yf,dO]
 constructor
 . intro h i _ hi;unfold lW;rw[getElem!_pos ks i hi];exact h _ (Yq hi)
 intro h k hk
 obtain⟨i,hi,rfl⟩:=YZ hk
 have:=h i (Yk _) hi
 unfold lW at this
 rwa [getElem!_pos ks i hi]at this
section
variable {z : Zon} {ks : List SKey} {f u : Int}
theorem ZdC(h:ks.length<1\/6<ks.length\/jy f u=false\/aJ z=false):allR z ks f u=(⟨[],[]⟩,1):=X0 h
theorem ZdB(hq : ¬(ks.length<1\/6<ks.length\/jy f u=false\/aJ z=false))(h:aB ks.length (lW ks) 0=false):allR z ks f u=(⟨[],[]⟩,1):=by
 unfold Zon.allR;rw[XW hq,X0 (by rw[CV];exact h)]
theorem Zdx(hq : ¬(ks.length<1\/6<ks.length\/jy f u=false\/aJ z=false))(hs:aB ks.length (lW ks) 0=true)(h:l8 ks=true):allR z ks f u=(⟨[],[]⟩,5):=by
 unfold Zon.allR;rw[XW hq,XW (by rw[CV,hs];decide),X0 h]
theorem ZdA(hq : ¬(ks.length<1\/6<ks.length\/jy f u=false\/aJ z=false))(hs:aB ks.length (lW ks) 0=true)(hd:l8 ks=false)(h:aB z.sets.length (kL z (bQ ks) f u) 0=false):allR z ks f u=(⟨[],[]⟩,1):=by
 unfold Zon.allR;rw[XW hq,XW (by rw[CV,hs];decide),XW (by rw[hd];decide),X0 h]
theorem Zdz(hq : ¬(ks.length<1\/6<ks.length\/jy f u=false\/aJ z=false))(hs:aB ks.length (lW ks) 0=true)(hd:l8 ks=false)(h:aB z.sets.length (kL z (bQ ks) f u) 0=true):allR z ks f u=(eU z (bQ ks) f u,0):=by
 unfold Zon.allR;rw[XW hq,XW (by rw[CV,hs];decide),XW (by rw[hd];decide),XW (by rw[h];decide)]
end
theorem ZbW{ks l:List SKey}(hp:l.Perm ks){k:Nat}(h0:0<k)(hk:k<l.length)(h:l[k-1]!.n=l[k]!.n):l8 ks=true:=by
 unfold l8
 rw[X7,X4]
 intro hn
 have hn2:(l.map SKey.n).Nodup:=(hp.map SKey.n).nodup_iff.2 hn
 have:=(YO.1 hn2) (k-1) k (by simp;omega) (by simp;omega) om
 rw[getElem!_pos l (k-1) (by omega),getElem!_pos l k hk]at h
 exact this (by rw[List.getElem_map,List.getElem_map];exact h)
def ZbX{ks l:List SKey}(hp:l.Perm ks)(hs:l.Pairwise λa b=>a.n<=b.n)(h : ∀i,0<i->i<l.length->l[i-1]!.n≠l[i]!.n):l8 ks=false:=by
 unfold l8
 rw[Ym,XV]
 refine(hp.map SKey.n).nodup_iff.1 (YO.2 λa b h1 h2 h3=>?_)
 rw[Y8]at h1 h2
 rw[List.getElem_map,List.getElem_map]
 have k1:=h b (by omega) h2
 rw[getElem!_pos l (b-1) (by omega),getElem!_pos l b h2]at k1
 have k2:=(YO.1 hs) (b-1) b (by omega) h2 (by omega)
 by_cases e:a=b-1
 . subst e;exact k1
 have k3:=(YO.1 hs) a (b-1) h1 (by omega) (by omega)
 omega
def nC(z:Zon)(ks:List SKey)(f u:Int)(k j:Nat):List RSig:=(ks.take j).map λq=>(bW z.sets[k]!.set z.apex q f u).1
@[go_sem]theorem sgj_0{z:Zon}{ks:List SKey}{f u:Int}{k:Nat}:nC z ks f u k 0=[]:=rfl
def TC{z:Zon}{ks:List SKey}{f u:Int}{k j:Nat}(h:j<=ks.length):(nC z ks f u k j).length=j:=by unfold nC;simp;omega
def TB{z:Zon}{ks:List SKey}{f u:Int}{k j:Nat}(h:j<ks.length):(nC z ks f u k j).map RSig.d++[[.v (.string (bs (bW z.sets[k]!.set z.apex ks[j]! f u).1.zone)),.v (.int .i64 (bW z.sets[k]!.set z.apex ks[j]! f u).1.key),.v (.int .i64 (bW z.sets[k]!.set z.apex ks[j]! f u).1.alg),.v (.int .i64 (bW z.sets[k]!.set z.apex ks[j]! f u).1.frm),.v (.int .i64 (bW z.sets[k]!.set z.apex ks[j]! f u).1.unt),.v (.int .u64 (bW z.sets[k]!.set z.apex ks[j]! f u).1.sum)]]=(nC z ks f u k (j+1)).map RSig.d:=by
 unfold nC
 rw[BK! h,YP,YP]
 rfl
def Tk{s:RSet}{zn:Str}{k:SKey}{f u:Int}(h : ¬(bW s zn k f u).2=0):(bW s zn k f u).2=1:=by
 unfold bW at h ⊢
 split<;>simp_all
theorem TA{z:Zon}{ks:List SKey}{f u:Int}{k j:Nat}(ho:eO (aN z) k=true)(hj:j<ks.length)(h : ¬(bW z.sets[k]!.set z.apex ks[j]! f u).2=0):kL z ks f u k=false:=by
 unfold kL
 rw[ho,Bool.not_true,Bool.false_or,<-Bool.not_eq_true,Yf]
 intro q
 have:=q _ (Yq hj)
 rw[getElem!_pos ks j hj]at h
 exact h (by simpa using this)
def Ty{z:Zon}{ks:List SKey}{f u:Int}{k:Nat}(h : ∀j,j<ks.length->(bW z.sets[k]!.set z.apex ks[j]! f u).2=0):kL z ks f u k=true:=by
 unfold kL
 rw[Ya,Yf]
 right
 intro q hq
 obtain⟨j,hj,rfl⟩:=YZ hq
 have:=h j hj
 rw[getElem!_pos ks j hj]at this
 simpa using this
def Tz{z:Zon}{ks:List SKey}{f u:Int}{k:Nat}(h:eO (aN z) k=false):kL z ks f u k=true:=by unfold kL;rw[h];rfl
def x9(z:Zon)(ks:List SKey)(f u:Int)(k i:Nat):List D :=
 if i<k then[.v (.string (bs z.sets[i]!.set.name)),.i z.sets[i]!.set.ty,.i z.sets[i]!.set.life,.l (z.sets[i]!.set.data.map Dat.d),if eO (aN z) i=true then .l ((nC z ks f u i ks.length).map RSig.d)else .e]
 else[.v (.string (bs [])),.i 0,.i 0,.e,.e]
def jV(z:Zon)(ks:List SKey)(f u:Int)(k:Nat):List (List D):=(List.range z.sets.length).map (x9 z ks f u k)
section
variable (z : Zon) (ks : List SKey) (f u : Int)
theorem E9(k:Nat):(jV z ks f u k).length=z.sets.length:=by simp[jV]
def sg_0:List.replicate z.sets.length [D.v (.string (bs [])),.v (.int .i64 0),.v (.int .i64 0),.e,.e]=jV z ks f u 0:=by
 unfold jV
 refine List.ext_getElem (by simp) λi h1 h2=>?_
 simp[x9]
def TK{k:Nat}(h:k<z.sets.length):(jV z ks f u k).getD k []=[.v (.string (bs [])),.i 0,.i 0,.e,.e]:=by
 unfold jV
 simp[List.getD,h,x9]
def J9{k:Nat}{x:D}(hx:x=if eO (aN z) k=true then .l ((nC z ks f u k ks.length).map RSig.d)else .e):(jV z ks f u k).set k [.v (.string (bs z.sets[k]!.set.name)),.v (.int .i64 z.sets[k]!.set.ty),.v (.int .i64 z.sets[k]!.set.life),.l (z.sets[k]!.set.data.map Dat.d),x]=jV z ks f u (k+1):=by
 subst hx
 unfold jV
 refine List.ext_getElem (by simp) λi h1 h2=>?_
 rw[List.getElem_set]
 simp only[List.getElem_map,List.getElem_range]
 unfold x9
 by_cases e:k=i
 . subst e;rw[X0 rfl,X0 (Nat.lt_succ_self _)]
 rw[XW e]
 by_cases e2:i<k
 . rw[X0 e2,X0 (Nat.lt_succ_of_lt e2)]
 rw[XW e2,XW (by omega)]
theorem x8(k:Nat):aZ (jV z ks f u k)=true:=by
 unfold jV
 generalize List.range z.sets.length=L
 induction L with
 | nil=>rfl
 | cons i L ih =>
  simp only[X8,aZ,ih,Bool.and_true];unfold x9
  split
  . split<;>simp[bK,D.nr,aZ,sJ,sI]
  simp[bK,D.nr,aZ]
theorem J6 : ∀n,vZ z ks f u n=(List.range n).map (qw z ks f u)
 | 0=>rfl
 | n+1=>by rw[List.range_succ,YP,<-J6 n];rfl
theorem TL:cK (jV z ks f u z.sets.length)=(eU z ks f u).sets.map Sgd.d:=by
 unfold jV eU
 rw[zB,J6,List.map_map,List.map_map]
 refine YG λi hi=>?_
 have hi2:i<z.sets.length:=YU.1 hi
 simp only[Function.comp_apply,x9,qw,nC,Zw]
 rw[X0 hi2]
 split<;>simp only[dA,wk,Sgd.d,zC,EG,cK,Yp]
end
set_option maxHeartbeats 2000000 in
def Ki(z:Zon)(ks:List SKey)(f:Int)(u:Int):PureCt prog 10 [.agg z.d,.l (ks.map SKey.d),.i f,.i u] (.tuple [.agg (allR z ks f u).1.d,.i (allR z ks f u).2]):=by
 refine oO func10 λff=>?_
 unfold f10
 refine ae Tg ?_
 refine oK Tg ?_ ?_ (hok:=oI JE (vQ z))<;>intro c1
 . refine ae Tg ?_;exact oN (fin 2 (hr:=oS (k:=by rw[ZdC (by grind)];try rfl)) (hk:=by(try simp only[go_sem,ff]);all_goals (exact x8 _ _ _ _ _)))
 have hq : ¬(ks.length<1\/6<ks.length\/jy f u=false\/aJ z=false):=by grind
 have hz:aJ z=true:=by grind
 have hzl:=uT hz
 have hk6:ks.length<=6:=by omega
 have hk1:1<=ks.length:=by omega
 refine wA Tg ?_
 refine lq (Nat×Nat) [1,2,3,4,8,44,45] (λ⟨k,nx⟩=>(k<=ks.length/\aB ks.length (lW ks) 0=aB ks.length (lW ks) k/\1<nx,ks.length-k,[(46,.i k)],[(0,⟨24,[z.d]⟩),(1,⟨24,[[.v (.string (bs [])),.e]]⟩)],nx)) (0,_) ?_
 rintro⟨k,nx⟩ ⟨hk,hv,hx⟩
 simp only[XX,XZ]
 have n0:0<nx:=by omega
 have ff:=qB @hx @n0 ff
 refine wH Tg ?_ ?_<;>intro c2
 .
  have hk2:k<ks.length:=by simpa using c2
  have ff:=qA (yS hk2) ff;refine wB ?_;refine ae Tg ?_;refine wE Tg ?_ ?_ (hok:=oF (JF _))<;>intro c3
  . refine ae Tg ?_;exact oN (fin 2 (hr:=oS (k:=by have hF:lW ks k=false:=(by unfold lW;grind);rw[ZdB hq (by rw[hv,dK hk2 hF])];try rfl)) (hk:=by(try simp only[go_sem,ff]);all_goals (exact x8 _ _ _ _ _)))
  refine wC Tg ?_;have h8:(lW ks) k=true:=by unfold lW;grind
  exact ax (k+1,_) (h1:=⟨iv,(by(try dsimp only);rw[hv,bC hk2 h8]),iv⟩)
 have e8:k=ks.length:=by omega
 subst e8
 have hs:aB ks.length (lW ks) 0=true:=by rw[hv,iV (by omega)]
 refine aP ?_
 refine ae Tg ?_
 refine rW ?_
 refine ZaN Tg 2 (e:=48) (r:=nx+3) (off:=0) (m:=ks.length) (news:=ks.map SKey.d) ?_ (hrl:=by intro q hq;obtain⟨b,_,rfl⟩:=Yh.1 hq;rfl) (h0:=by omega)
 rw[Zct rfl]
 refine oh Tg ?_
 try simp only[gz]
 refine aY (gI Tg 1 (hct:=by exact SE ks ks.length _ _ _ rfl om ev) (hk:=?_))
 rintro res h2 n2 ⟨rfl,rfl,l,hlp,hls,rfl⟩
 have hll:l.length=ks.length:=hlp.length_eq
 refine gH Tg ?_
 refine wA Tg ?_
 refine lq (Nat×Nat×Nat) [2,3,4,8,64] (λ⟨k,b,nx⟩=>(k<=ks.length/\b<nx/\1<b/\(∀i,0<i->i<k->l[i-1]!.n≠l[i]!.n),ks.length-k,[(12,.mrow b 0 ks.length),(63,.mrow b 0 ks.length),(65,.i k)],[(0,⟨24,[z.d]⟩),(1,⟨24,[[.v (.string (bs [])),.e]]⟩),(b,⟨48,l.map SKey.d⟩)],nx)) (0,(nx+3),_) ?_ (hA:=⟨iv,iv,iv,(by first|(intro i h1 h2;omega)|(dsimp only;intro i h1 h2;omega))⟩)
 rintro⟨k,b,nx⟩ ⟨hk,hx,hb1,NK⟩
 simp only[XX,XZ]
 have n0:0<nx:=by omega
 have n1:1<nx:=by omega
 have ff:=qH @hx @n0 @n1 @hll (nH 0 1) (nH 0 b) (nH 1 b) ff
 refine wH Tg ?_ ?_<;>intro c4
 .
  have hk2:k<ks.length:=by simpa using c4
  have hl2:k<l.length:=by omega
  have e1:((k:Int)-1).toNat=k-1:=by omega
  have ff:=qD (yS hl2) (yS (l:=l) (n:=k-1) (by omega)) @e1 ff
  refine wB ?_;refine ae Tg ?_;refine wE Tg ?_ ?_<;>intro c5
  . refine ae Tg ?_;exact oN (fin 2 (hr:=oS (k:=by rw[Zdx hq hs (ZbW hlp (by omega) hl2 (by grind))];try rfl)) (hk:=by(try simp only[go_sem,ff]);all_goals (exact x8 _ _ _ _ _)))
  refine wC Tg ?_;exact ax (k+1,b,_) (h1:=⟨iv,iv,iv,(by(try dsimp only);intro i h1 h2;by_cases e:i=k;(subst e;grind);exact NK i h1 om)⟩)
 have e8:k=ks.length:=by omega
 subst e8
 have hd:=ZbX hlp hls (by rw[hll];exact NK)
 have hr:=SF hlp hls hd
 subst hr
 refine aP ?_
 have hsl:(bQ ks).length=ks.length:=(uC ks).length_eq
 refine ae Tg ?_ (hok:=oF (SC z hz))
 have ff:=qA (sg_0 z (bQ ks) f u) ff
 refine ae Tg ?_
 refine wA Tg ?_
 refine lq (Nat×Nat×Nat×Nat×Nat) [2,3,4,8,15,95,96] (λ⟨k,b,rb,r6,nx⟩=>(k<=z.sets.length/\1<b/\b<rb/\rb<r6/\r6<nx/\aB z.sets.length (kL z (bQ ks) f u) 0=aB z.sets.length (kL z (bQ ks) f u) k,z.sets.length-k,[(12,.mrow b 0 ks.length),(16,.mptr r6 0 0),(97,.i k)],[(0,⟨24,[z.d]⟩),(1,⟨24,[[.v (.string (bs [])),.e]]⟩),(b,⟨48,(bQ ks).map SKey.d⟩),(rb,⟨44,(jV z (bQ ks) f u (k))⟩),(r6,⟨24,[[.v (.string (bs z.apex)),.mrow rb 0 z.sets.length]]⟩)],nx)) (0,b,(nx+9),(nx+11),_) ?_
 rintro⟨k,b,rb,r6,nx⟩ ⟨hk,hb1,hbr,hr6,hx,hok⟩
 simp only[XX,XZ]
 have n0:0<nx:=by omega
 have n1:1<nx:=by omega
 have nb:b<nx:=by omega
 have nrb:rb<nx:=by omega
 have ff:=qI @hx @n0 @n1 @nb @nrb @hsl (nH 0 1) (nH 0 b) (qI (nH 0 rb) (nH 0 r6) (nH 1 b) (nH 1 rb) (nH 1 r6) (nH b rb) (nH b r6) (nH r6 rb) ff)
 refine wH Tg ?_ ?_<;>intro c6
 .
  have hk2:k<z.sets.length:=by simpa using c6
  have qP:=(Bv hz).2 k hk2;have ff:=qG (bU hk2) (Dn (l:=jH (aN z) z.sets.length) (n:=k) (by rw[pE];exact hk2)) (pE (aN z) z.sets.length) (Lg (aN z) _ k hk2) (E9 z (bQ ks) f u k) (TK z (bQ ks) f u hk2) ff
  refine wB ?_;refine oC Tg ?_;refine ae Tg ?_ (hok:=oS (k:=by exact Bi _ (Yx qP.1 om)))
  refine oM Tg ?_ ?_ (hq:=rfl)<;>intro c7
  .
   refine Pj (nx+10) 4 44 94 ev (by rfl) (by simp only[go_sem,ff]) ?_
   simp only[List.set_cons_succ,List.set_cons_zero];refine ae Tg ?_;refine dZ ?_;refine lq (Nat×Nat×Nat×Nat) [2,3,4,8,12,15,16,17,95,96,97,115,116] (λ⟨j,p,c,nx⟩=>(j<=ks.length/\r6<c/\c<p/\p<nx/\(∀i,i<j->(bW z.sets[k]!.set z.apex (bQ ks)[i]! f u).2=0),ks.length-j,[(19,.mptr c 0 0),(117,.i j)],[(0,⟨24,[z.d]⟩),(1,⟨24,[[.v (.string (bs [])),.e]]⟩),(b,⟨48,(bQ ks).map SKey.d⟩),(rb,⟨44,(jV z (bQ ks) f u (k))⟩),(r6,⟨24,[[.v (.string (bs z.apex)),.mrow rb 0 z.sets.length]]⟩),(c,⟨44,[[.v (.string (bs z.sets[k]!.set.name)),.i z.sets[k]!.set.ty,.i z.sets[k]!.set.life,.l (z.sets[k]!.set.data.map Dat.d),.mrow p 0 j]]⟩),(p,⟨94,(nC z (bQ ks) f u k j).map RSig.d⟩)],nx)) (0,(nx+23),(nx+10),_) ?_ (hA:=⟨iv,iv,iv,iv,(by first|(intro i h1;omega)|(dsimp only;intro i h1;omega))⟩)
   rintro⟨j,p,c,nx⟩ ⟨hj,hc6,hcp,hx,hz9⟩;simp only[XX,XZ];have n0:0<nx:=by omega
   have n1:1<nx:=by omega
   have nb:b<nx:=by omega
   have nrb:rb<nx:=by omega
   have n6:r6<nx:=by omega
   have nc:c<nx:=by omega
   have hjl:=TC (z:=z) (ks:=bQ ks) (f:=f) (u:=u) (k:=k) (j:=j) (by omega)
   have ff:=qF @hx @n0 @n1 @nb @nrb (qI @n6 @nc @hjl (nH 0 1) (nH 0 b) (nH 0 rb) (nH 0 r6) (nH 0 c) (qI (nH 0 p) (nH 1 b) (nH 1 rb) (nH 1 r6) (nH 1 c) (nH 1 p) (nH b rb) (nH b r6) (qI (nH b c) (nH b p) (nH r6 rb) (nH c rb) (nH p rb) (nH c r6) (nH p r6) (nH c p) ff)));refine wH Tg ?_ ?_<;>intro c8
   .
    have hj2:j<ks.length:=by simpa using c8
    have hj3:j<(bQ ks).length:=by omega
    have ff:=qA (yS hj3) ff;refine wB ?_;refine ae Tg ?_;refine ae Tg ?_ (hok:=oF (JN _ _ _ _ _));refine oK Tg ?_ ?_<;>intro c9
    . have hc1:=Tk c9;have ff:=qA @hc1 ff;refine ae Tg ?_;exact oN (fin 2 (hr:=oS (k:=by rw[ZdA hq hs hd (by rw[hok,dK hk2 (TA c7 hj3 c9)])];try rfl)) (hk:=by(try simp only[go_sem,ff]);all_goals (exact x8 _ _ _ _ _)))
    refine aA Tg ?_;refine aA Tg ?_;have hst:=TB (z:=z) (ks:=bQ ks) (f:=f) (u:=u) (k:=k) hj3;have ff:=qA hst ff;exact ax (j+1,(nx+25),c,_) (h1:=⟨iv,iv,iv,iv,(by(try dsimp only);intro i h1;by_cases e:i=j;(subst e;exact c9);exact hz9 i om)⟩)
   have e9:j=ks.length:=by omega
   subst e9;refine aP ?_;refine y5 c 4 p (rows:=(nC z (bQ ks) f u k ks.length).map RSig.d) (off:=0) (len:=ks.length) ev rfl ev om (by simp;omega) sI ?_
   rw[Yl,Yg (by simp;omega)]
   simp only[Zh,Y4];refine aA Tg ?_;refine aA Tg ?_;have h8:kL z (bQ ks) f u k=true:=Ty (by rw[hsl];exact hz9)
   have hst:=J9 z (bQ ks) f u (k:=k) (x:=.l ((nC z (bQ ks) f u k ks.length).map RSig.d)) (by rw[X0 c7,hsl])
   have ff:=qA hst ff;exact ax (k+1,b,rb,r6,_) (h1:=⟨iv,iv,iv,iv,iv,(by(try dsimp only);rw[hok,bC hk2 h8])⟩)
  refine aA Tg ?_;refine aA Tg ?_;have h8:kL z (bQ ks) f u k=true:=Tz c7;have hst:=J9 z (bQ ks) f u (k:=k) (x:=.e) (by rw[XW (by rw[c7];decide)])
  have ff:=qA hst ff;exact ax (k+1,b,rb,r6,_) (h1:=⟨iv,iv,iv,iv,iv,(by(try dsimp only);rw[hok,bC hk2 h8])⟩)
 have e8:k=z.sets.length:=by omega
 subst e8
 refine aP ?_
 refine y5 r6 1 rb (rows:=(jV z (bQ ks) f u (z.sets.length))) (off:=0) (len:=z.sets.length) ev rfl ev (by omega) (by rw[E9];omega) (x8 _ _ _ _ _) ?_
 rw[Yl,Yg (by rw[E9];exact X3 _)]
 simp only[Zh,Y4]
 refine ae Tg ?_
 exact oN (fin 2 (hr:=oS (k:=by rw[TL,Zdz hq hs hd (by rw[hok,iV (by omega)])];try rfl)) (hk:=by(try simp only[go_sem,ff]);all_goals (exact x8 _ _ _ _ _)))
end Go.Proofs.YtdcenbhgholncaaGreatDoor
namespace Go.Proofs.YtdcenbhgholncaaGreatDoor
open Go.Proofs.Tryz
open Go.DL Go.Str Go.Rec Go.Zon
def jM{α1:Type}(K1:α1->D)(g1:D->α1)(ok:α1->Bool)(res:α1->D):List D->Option D
 | [x1]=>if mQ x1 (K1 (g1 x1))&&ok (g1 x1)then some (res (g1 x1))else none
 | _=>none
def lc{α1:Type}{K1:α1->D}{g1:D->α1}{ok:α1->Bool}{res:α1->D}{f:FuncId}(h : ∀a,ok a=true->PureCt prog f [K1 a] (res a)):∀xs d,jM K1 g1 ok res xs=some d->PureCt prog f xs d:=by
 intro xs d k
 unfold jM at k
 split at k
 .
  split at k
  .
   rename_i hc
   simp only[XT]at hc;simp only[XU]at k;subst k;have:=h _ hc.2;rwa [<-ru hc.1]at this
  cases k
 cases k
def qc{α1:Type}(K1:α1->D)(g1:D->α1){α2:Type}(K2:α2->D)(g2:D->α2)(ok:α1->α2->Bool)(res:α1->α2->D):List D->Option D
 | [x1,x2]=>if mQ x1 (K1 (g1 x1))&&mQ x2 (K2 (g2 x2))&&ok (g1 x1) (g2 x2)then some (res (g1 x1) (g2 x2))else none
 | _=>none
def tO{α1:Type}{K1:α1->D}{g1:D->α1}{α2:Type}{K2:α2->D}{g2:D->α2}{ok:α1->α2->Bool}{res:α1->α2->D}{f:FuncId}(h : ∀a b,ok a b=true->PureCt prog f [K1 a,K2 b] (res a b)):∀xs d,qc K1 g1 K2 g2 ok res xs=some d->PureCt prog f xs d:=by
 intro xs d k
 unfold qc at k
 split at k
 .
  split at k
  .
   rename_i hc
   simp only[XT]at hc;simp only[XU]at k;subst k;have:=h _ _ hc.2;rwa [<-ru hc.1.1,<-ru hc.1.2]at this
  cases k
 cases k
def HZ{α1:Type}(K1:α1->D)(g1:D->α1){α2:Type}(K2:α2->D)(g2:D->α2){α3:Type}(K3:α3->D)(g3:D->α3){α4:Type}(K4:α4->D)(g4:D->α4)(ok:α1->α2->α3->α4->Bool)(res:α1->α2->α3->α4->D):List D->Option D
 | [x1,x2,x3,x4]=>if mQ x1 (K1 (g1 x1))&&mQ x2 (K2 (g2 x2))&&mQ x3 (K3 (g3 x3))&&mQ x4 (K4 (g4 x4))&&ok (g1 x1) (g2 x2) (g3 x3) (g4 x4)then some (res (g1 x1) (g2 x2) (g3 x3) (g4 x4))else none
 | _=>none
def Zba{α1:Type}{K1:α1->D}{g1:D->α1}{α2:Type}{K2:α2->D}{g2:D->α2}{α3:Type}{K3:α3->D}{g3:D->α3}{α4:Type}{K4:α4->D}{g4:D->α4}{ok:α1->α2->α3->α4->Bool}{res:α1->α2->α3->α4->D}{f:FuncId}(h : ∀a b c d,ok a b c d=true->PureCt prog f [K1 a,K2 b,K3 c,K4 d] (res a b c d)):∀xs d,HZ K1 g1 K2 g2 K3 g3 K4 g4 ok res xs=some d->PureCt prog f xs d:=by
 intro xs d k
 unfold HZ at k
 split at k
 .
  split at k
  .
   rename_i hc
   simp only[XT]at hc;simp only[XU]at k;subst k;have:=h _ _ _ _ hc.2;rwa [<-ru hc.1.1.1.1,<-ru hc.1.1.1.2,<-ru hc.1.1.2,<-ru hc.1.2]at this
  cases k
 cases k
def DC(x:Sgd):Bool:=decide (x.set.data.length<=100000)&&decide (x.sigs.length<=100000)
def Oo{x:Sgd}(h:DC x=true):yX x:=by
 simp only[DC,XT,XV]at h
 exact h
def Dz(l:List Sgd):Bool:=decide (l.length<=1000000)&&l.all DC
def Om{l:List Sgd}(h:Dz l=true):iA l:=by
 simp only[Dz,XT,XV,Yf]at h
 refine⟨h.1,λk hk=>Oo (h.2 _ ?_)⟩
 rw[getElem!_pos l k hk]
 exact Yq hk
def and1{p q:Prop}[Decidable p][Decidable q](h:(decide p&&decide q)=true):p:=by
 simp only[XT,XV]at h
 exact h.1
def QH{p q:Prop}[Decidable p][Decidable q](h:(decide p&&decide q)=true):q:=by
 simp only[XT,XV]at h
 exact h.2
def Qv(t:Int):Int:=IntKind.i64.wrap (1*2^(min t.toNat 64))
theorem Zda(t:Int):Bn t=Qv t:=Qu t
def zG(l:List Sgd):Nat->TM
 | 0=>[]
 | k+1=>yz (zG l k) l[k]!.set.name (wQ .i64 (jZ (zG l k) l[k]!.set.name) (Qv l[k]!.set.ty))
theorem Jr(l:List Sgd):∀k,nz l k=zG l k
 | 0=>rfl
 | k+1=>by rw[nz,zG,Jr l k,FR,Zda]
def GU(a:Str)(t:TM)(n:Str):Int :=
 if n≠a/\Ew .i64 (wQ .i64 (jZ t n) 256) 4≠0 then Eu .i64 (wQ .i64 (jZ t n) 256) 2 else wQ .i64 (jZ t n) 256
theorem ZaF(a:Str)(t:TM)(n:Str):xD a t n=GU a t n:=by
 unfold xD GU
 rw[FR,QF,QG]
def Mc(z:Zon)(ns:List Str)(i:Nat):RSet:=⟨ns[i]!,8,qK z.sets z.sets.length,[⟨ns[(i+1) % ns.length]!,GU z.apex (zG z.sets z.sets.length) ns[i]!,0⟩]⟩
def F7(z:Zon)(ns:List Str):List RSet:=(List.range ns.length).map (Mc z ns)
theorem WH(z:Zon)(ns:List Str):nextF z ns=F7 z ns:=by
 unfold nextF F7
 refine YG λi _=>?_
 rw[Md,Mc,Jr,ZaF]
def zf(z:Zon):Zon×Int :=
 if aJ z=false then(⟨[],[]⟩,1)
 else if aJ (plainOf z)=false then(⟨[],[]⟩,1)
 else if 20000<(plainOf z).sets.length+(bf (plainOf z)).length then(⟨[],[]⟩,2)
 else(⟨z.apex,Eh (plainOf z).sets (F7 (plainOf z) (bf (plainOf z)))⟩,0)
theorem ZcR(z:Zon):gG z=zf z:=by
 unfold gG zf
 rw[WH]
def ZcS(z:Zon):PureCt prog 9 [.agg z.d] (.tuple [.agg (zf z).1.d,.i (zf z).2]):=by
 rw[<-ZcR]
 exact Px z
def Xp{n:Nat}(h:n<=1000):n<=9223372036854775806:=by omega
noncomputable def en9:List D->Option D:=jM (λz:Zon=>(.agg z.d:D)) aM (λ(a:Zon)=>true) (λ(a:Zon)=>.tuple [.agg (zf a).1.d,.i (zf a).2])
def Zbb : ∀xs d,en9 xs=some d->PureCt prog 9 xs d:=lc λa h=>ZcS a
noncomputable def O9:List D->Option D:=HZ (λz:Zon=>(.agg z.d:D)) aM (λl:List SKey=>(.l (l.map SKey.d):D)) lC (λn:Int=>(.i n:D)) aG (λn:Int=>(.i n:D)) aG (λ(a:Zon)(b:List SKey)(c:Int)(d:Int)=>true) (λ(a:Zon)(b:List SKey)(c:Int)(d:Int)=>.tuple [.agg (allR a b c d).1.d,.i (allR a b c d).2])
def Zbz : ∀xs d,O9 xs=some d->PureCt prog 10 xs d:=Zba λa b c d h=>Ki a b c d
noncomputable def O8:List D->Option D:=qc (λz:Zon=>(.agg z.d:D)) aM (λz:Qst=>(.agg z.d:D)) eH (λ(a:Zon)(b:Qst)=>true) (λ(a:Zon)(b:Qst)=>.tuple [.agg (fB a b).1.d,.i (fB a b).2])
def Zbu : ∀xs d,O8 xs=some d->PureCt prog 11 xs d:=tO λa b h=>MM a b
noncomputable def OU:List D->Option D:=qc (λz:dV=>(.agg z.d:D)) xP (λz:dV=>(.agg z.d:D)) xP (λ(a:dV)(b:dV)=>Dz a.sets) (λ(a:dV)(b:dV)=>.b (zO a b))
def Zbl : ∀xs d,OU xs=some d->PureCt prog 21 xs d:=tO λa b h=>UG a b (Om h)
noncomputable def OQ:List D->Option D:=jM (λz:Zon=>(.agg z.d:D)) aM (λ(a:Zon)=>true) (λ(a:Zon)=>.b (aJ a))
def Zbj : ∀xs d,OQ xs=some d->PureCt prog 27 xs d:=lc λa h=>vQ a
noncomputable def OP:List D->Option D:=qc (λn:Int=>(.i n:D)) aG (λn:Int=>(.i n:D)) aG (λ(a:Int)(b:Int)=>true) (λ(a:Int)(b:Int)=>.i (cmpI a b))
def Zbi : ∀xs d,OP xs=some d->PureCt prog 37 xs d:=tO λa b h=>Eb a b
noncomputable def OO:List D->Option D:=jM (λs:Str=>(.v (.string (bs s)):D)) ah (λ(a:Str)=>true) (λ(a:Str)=>.b (ai a))
def Zbh : ∀xs d,OO xs=some d->PureCt prog 50 xs d:=lc λa h=>uU a
noncomputable def OM:List D->Option D:=qc (λs:Str=>(.v (.string (bs s)):D)) ah (λs:Str=>(.v (.string (bs s)):D)) ah (λ(a:Str)(b:Str)=>true) (λ(a:Str)(b:Str)=>.tuple [.b (dX a b),.i (if ai a&&ai b then 0 else 11)])
def Zbg : ∀xs d,OM xs=some d->PureCt prog 51 xs d:=tO λa b h=>wU a b
noncomputable def OL:List D->Option D:=jM (λs:Str=>(.v (.string (bs s)):D)) ah (λ(a:Str)=>true) (λ(a:Str)=>.tuple [.v (.string (bs (kS a))),.i (if ai a then(if a=[46]then 4 else 0)else 11)])
def Zbf : ∀xs d,OL xs=some d->PureCt prog 52 xs d:=lc λa h=>FZ a
noncomputable def OJ:List D->Option D:=qc (λz:Zon=>(.agg z.d:D)) aM (λz:Qst=>(.agg z.d:D)) eH (λ(a:Zon)(b:Qst)=>decide (a.sets.length<=1000000)) (λ(a:Zon)(b:Qst)=>.tuple [.i (di a.sets b),.b (dN a.sets b)])
def Zbe : ∀xs d,OJ xs=some d->PureCt prog 53 xs d:=tO λa b h=>uq a b (Y1 h)
noncomputable def OI:List D->Option D:=jM (λz:RSet=>(.agg z.d:D)) set1 (λ(a:RSet)=>true) (λ(a:RSet)=>.b (eG a))
def Zbd : ∀xs d,OI xs=some d->PureCt prog 62 xs d:=lc λa h=>Ff a
noncomputable def OH:List D->Option D:=qc (λz:Zon=>(.agg z.d:D)) aM (λz:Qst=>(.agg z.d:D)) eH (λ(a:Zon)(b:Qst)=>Dz a.sets) (λ(a:Zon)(b:Qst)=>.tuple [.agg (kZ a b).1.d,.b (kZ a b).2.1,.i (kZ a b).2.2])
def Zbc : ∀xs d,OH xs=some d->PureCt prog 77 xs d:=tO λa b h=>QV a b (Om h)
noncomputable def O7:List D->Option D:=jM (λz:Zon=>(.agg z.d:D)) aM (λ(a:Zon)=>decide (a.sets.length<=1000000)) (λ(a:Zon)=>.agg (aN a).d)
def Zby : ∀xs d,O7 xs=some d->PureCt prog 114 xs d:=lc λa h=>EA a (Y1 h)
noncomputable def O6:List D->Option D:=jM (λz:Lay=>(.agg z.d:D)) nT (λ(a:Lay)=>decide (a.z.sets.length<=1000000)) (λ(a:Lay)=>.b (kG a))
def Zbx : ∀xs d,O6 xs=some d->PureCt prog 115 xs d:=lc λa h=>Jb a (Y1 h)
noncomputable def O5:List D->Option D:=jM (λz:Lay=>(.agg z.d:D)) nT (λ(a:Lay)=>decide (a.z.sets.length<=1000000)&&decide (a.b.length=a.z.sets.length)) (λ(a:Lay)=>.b (iB a))
def Zbw : ∀xs d,O5 xs=some d->PureCt prog 116 xs d:=lc λa h=>I8 a (and1 h) (QH h)
noncomputable def O4:List D->Option D:=jM (λz:Lay=>(.agg z.d:D)) nT (λ(a:Lay)=>decide (a.z.sets.length<=1000000)&&decide (a.b.length=a.z.sets.length)) (λ(a:Lay)=>.b (tF a))
def Zbv : ∀xs d,O4 xs=some d->PureCt prog 117 xs d:=lc λa h=>I7 a (and1 h) (QH h)
noncomputable def O3:List D->Option D:=jM (λs:Str=>(.v (.string (bs s)):D)) ah (λ(a:Str)=>decide (a.length<=1000)) (λ(a:Str)=>.l ((aL a).map sR))
def Zbt : ∀xs d,O3 xs=some d->PureCt prog 148 xs d:=lc λa h=>yh a (Y1 h)
noncomputable def O1:List D->Option D:=jM (λz:Sgd=>(.agg z.d:D)) jE (λ(a:Sgd)=>DC a) (λ(a:Sgd)=>.agg a.d)
def Zbs : ∀xs d,O1 xs=some d->PureCt prog 152 xs d:=lc λa h=>Ja a (Oo h)
noncomputable def O0:List D->Option D:=jM (λl:List Int=>(.l (l.map iR):D)) lY (λ(a:List Int)=>true) (λ(a:List Int)=>.i (nO a 0))
def Zbr : ∀xs d,O0 xs=some d->PureCt prog 158 xs d:=lc λa h=>P9 a
noncomputable def OZ:List D->Option D:=qc (λs:Str=>(.v (.string (bs s)):D)) ah (λs:Str=>(.v (.string (bs s)):D)) ah (λ(a:Str)(b:Str)=>true) (λ(a:Str)(b:Str)=>.tuple [.i (if ai a&&ai b then fZ a b else 0),.i (if ai a&&ai b then 0 else 11)])
def Zbq : ∀xs d,OZ xs=some d->PureCt prog 166 xs d:=tO λa b h=>F8 a b
noncomputable def OY:List D->Option D:=jM (λs:Str=>(.v (.string (bs s)):D)) ah (λ(a:Str)=>decide (a.length<=1000)) (λ(a:Str)=>.b (dI a))
def Zbp : ∀xs d,OY xs=some d->PureCt prog 175 xs d:=lc λa h=>Kt a (Xp (Y1 h))
noncomputable def OX:List D->Option D:=qc (λn:Int=>(.i n:D)) aG (λb:Bool=>(.b b:D)) zi (λ(a:Int)(b:Bool)=>true) (λ(a:Int)(b:Bool)=>.b (fits a b))
def Zbo : ∀xs d,OX xs=some d->PureCt prog 184 xs d:=tO λa b h=>Ol a b
noncomputable def OW:List D->Option D:=qc (λl:List RSig=>(.l (l.map RSig.d):D)) lF (λs:Str=>(.v (.string (bs s)):D)) ah (λ(a:List RSig)(b:Str)=>true) (λ(a:List RSig)(b:Str)=>.b (fV a b))
def Zbn : ∀xs d,OW xs=some d->PureCt prog 185 xs d:=tO λa b h=>I6 a b
noncomputable def OV:List D->Option D:=jM (λs:Str=>(.v (.string (bs s)):D)) ah (λ(a:Str)=>true) (λ(a:Str)=>.tuple [.l ((if ai a then aL a else[]).map sR),.i (if ai a then 0 else 11)])
def Zbm : ∀xs d,OV xs=some d->PureCt prog 206 xs d:=lc λa h=>Ma a
noncomputable def OT:List D->Option D:=jM (λz:Zon=>(.agg z.d:D)) aM (λ(a:Zon)=>true) (λ(a:Zon)=>.tuple [.i (if aJ a then rZ a else 0),.i (if aJ a then 0 else 1)])
def Zbk : ∀xs d,OT xs=some d->PureCt prog 232 xs d:=lc λa h=>QP a
noncomputable def tbR:List (FuncId×(List D->Option D)):=[(9,en9),(10,O9),(11,O8),(21,OU),(27,OQ),(37,OP),(50,OO),(51,OM),(52,OL),(53,OJ),(62,OI),(77,OH),(114,O7),(115,O6),(116,O5),(117,O4),(148,O3),(152,O1),(158,O0),(166,OZ),(175,OY),(184,OX),(185,OW),(206,OV),(232,OT)]
def rH(l:List (FuncId×(List D->Option D))):Prop:=∀e∈l,∀xs d,e.2 xs=some d->PureCt prog e.1 xs d
def Wl:rH []:=λ_ h=>by cases h
def dG{f:FuncId}{g:List D->Option D}{l:List (FuncId×(List D->Option D))}(h : ∀xs d,g xs=some d->PureCt prog f xs d)(k:rH l):rH ((f,g)::l):=λe he=>(Yv.1 he).elim (λq=>by subst q;exact h) (k e)
def lv:rH tbR:=dG Zbb <| dG Zbz <| dG Zbu <| dG Zbl <| dG Zbj <| dG Zbi <| dG Zbh <| dG Zbg <| dG Zbf <| dG Zbe <| dG Zbd <| dG Zbc <| dG Zby <| dG Zbx <| dG Zbw <| dG Zbv <| dG Zbt <| dG Zbs <| dG Zbr <| dG Zbq <| dG Zbp <| dG Zbo <| dG Zbn <| dG Zbm <| dG Zbk <| Wl
def tbl(l:List (FuncId×(List D->Option D))):fO:=⟨λf=>l.any λe=>Nat.beq e.1 f,λf xs=>match l.find? λe=>Nat.beq e.1 f with
 | some e=>(match e.2 xs with
  | some d=>jN d λd=>some d
  | none=>none)
 | none=>none⟩
def RJ{l:List (FuncId×(List D->Option D))}(h:rH l):(tbl l).Ok prog:=by
 intro f xs d k
 unfold tbl at k
 simp only at k
 split at k
 .
  rename_i e he
  split at k
  .
   rename_i d' hd
   rw[Ic,XU]at k;subst k;have:=List.find?_some he;have:=Nat.eq_of_beq_eq_true this;rw[<-this];exact h e (List.mem_of_find?_eq_some he) _ _ hd
  cases k
 cases k
open Go.Cmp
set_option maxRecDepth 10000
variable [Dr]
def ins_a{α:Type}(l:List α)(x:α)(i:Nat)(h:i<l.length):(l.take (i+1)++((l.drop i).take (l.length-i)++l.drop (i+(1+(l.length-i))))).take i++x::(l.take (i+1)++((l.drop i).take (l.length-i)++l.drop (i+(1+(l.length-i))))).drop (i+1)=l.take i++x::l.drop i:=by
 have e1:(l.drop i).take (l.length-i)=l.drop i:=Yg (by simp)
 have e2:l.drop (i+(1+(l.length-i)))=[]:=List.drop_of_length_le om
 rw[e1,e2,Zg,List.take_append_of_le_length (by simp;omega),List.take_take,List.drop_append_of_le_length (by simp;omega),List.drop_of_length_le (l:=l.take (i+1)) (by simp;omega)]
 rw[show min i (i+1)=i from by omega]
 simp
def ins_c{α:Type}(l z:List α)(x:α)(i:Nat)(h:i<l.length)(hz:z.length=l.length+1-i):(((l.take i++z).take i++x::(l.take i++z).drop (i+1)).take (i+1))++((l.drop i).take (l.length-i)++((l.take i++z).take i++x::(l.take i++z).drop (i+1)).drop (i+1+(l.length-i)))=l.take i++x::l.drop i:=by
 have e1:(l.drop i).take (l.length-i)=l.drop i:=Yg (by simp)
 have e0:(l.take i).length=i:=by simp;omega
 have e2:((l.take i++z).take i)=l.take i:=by rw[List.take_append_of_le_length (by omega),Yg (by omega)]
 have e3:l.take i++x::(l.take i++z).drop (i+1)=l.take i++[x]++(l.take i++z).drop (i+1):=by simp
 simp only[e1,e2,e3]
 have e4:(l.take i++[x]).length=i+1:=by simp;omega
 rw[List.take_append_of_le_length (by omega),Yg (by omega)]
 have e5:(l.take i++[x]++(l.take i++z).drop (i+1)).length=l.length+1:=by simp[hz];omega
 rw[List.drop_of_length_le (l:=l.take i++[x]++(l.take i++z).drop (i+1)) (by omega)]
 simp
theorem Jm{α:Type}(h:Nat->α)(r:Nat)(a b:α):upd (upd h r a) r b=upd h r b:=by
 funext q
 simp only[upd]
 split<;>rfl
def Zag(l:List (List D))(x:List D)(i m:Nat)(h:H)(n r r2:Nat)(hm:m=l.length)(hi:i<=l.length)(hl:l.length<=1000000)(hr:h r=some ⟨44,l⟩)(hr2:h r2=some ⟨44,[x]⟩)(hne:r≠r2)(hx:x.length=5)(hc : ∀q∈l,q.length=5):dz prog 219 [.mrow r 0 m,.i i,.mrow r2 0 1] h n (λd h' n'=>(i=l.length/\d = .mrow (n+17) 0 (l.length+1)/\h'=upd (upd h r none) (n+17) (some ⟨44,(l.take i++x::l.drop i)⟩)/\n'=n+19)\/(i<l.length/\d = .mrow (n+29) 0 (l.length+1)/\h'=upd h (n+29) (some ⟨44,(l.take i++x::l.drop i)⟩)/\n'=n+47)\/(i<l.length/\d = .mrow r 0 (l.length+1)/\h'=upd h r (some ⟨44,(l.take i++x::l.drop i)⟩)/\n'=n+51)):=by
 refine oP func219 λhnone ff=>?_
 unfold f219
 subst hm
 have hrn:r<n:=by rcases Zo r n with q|q;exact q;rw[hnone r q]at hr;cases hr
 have hrn2:r2<n:=by rcases Zo r2 n with q|q;exact q;rw[hnone r2 q]at hr2;cases hr2
 have hf1 : ∀k,r≠n+k:=λk=>by omega
 have hf2 : ∀k,r2≠n+k:=λk=>by omega
 have hne2:r2≠r:=λq=>hne q.symm
 have hE0:((1:Nat):Int)=1:=rfl
 have hE1:((l.length:Int)-(i:Int)).toNat=l.length-i:=by omega
 have hE2:((i:Int)-((0:Nat):Int)).toNat=i:=by omega
 have hE3:((l.length:Int)+1-(i:Int))=((l.length+1-i:Nat):Int):=by omega
 have hE4:((i:Int)+1).toNat=i+1:=by omega
 have hE5:i+(l.length+1-i)=l.length+1:=by omega
 have hE6:((l.length:Int)+1)=((l.length+1:Nat):Int):=by omega
 have hE7:((i:Int)+1)=((i+1:Nat):Int):=by omega
 have hE8:(((l.length+1:Nat):Int)-((i+1:Nat):Int)).toNat=l.length-i:=by omega
 have hE9:(((l.length+1:Nat):Int)-(i:Int)).toNat=l.length+1-i:=by omega
 have ff:=qI @hr @hr2 @hne @hne2 @hf1 @hf2 @hE1 @hE2 ff
 refine oD Tg ?_
 refine oM Tg ?_ ?_<;>intro c1
 . exfalso;simp at c1
 refine ae Tg ?_
 refine oM Tg ?_ ?_ (hq:=rfl)<;>intro c2
 .
  have hi9:i=l.length:=by have:(i:Int)=(l.length:Int):=(by simpa using c2);omega
  refine rW ?_;refine ZaO Tg 2 (r:=r) (by dsimp only;omega) (hrl:=by intro q hq;simp at hq;subst hq;exact hx) (hby:=by rw[show(prog).bytesOf 44=80 from rfl];simp;omega) (h63:=by simp;omega) ?_
  refine oh Tg ?_
  try simp only[gz]
  exact oN (fJ (_) (hh:=λ_=>.inl rfl) (hr:=oS (k:=by exact .inl ⟨hi9,by(funext q;simp only[upd];split<;>simp[hi9])⟩)))
 have hi9:i<l.length:=by have : ¬(i:Int)=(l.length:Int):=(by simpa using c2);omega
 refine aY ?_
 refine rW ?_
 refine gcap Tg 4 (λc hc1 hc2=>?_)
 refine oh Tg ?_
 try simp only[gz]
 refine cd ?_ ?_<;>intro c3
 .
  have ff:=qB @hE0 @hE3 ff;refine rW ?_;refine ZaP Tg 8 (r:=r) (off:=0) (n:=i) (c:=c) (kk:=.i64) (l.length+1-i) rfl (by omega) (by rw[show(prog).bytesOf 44=80 from rfl];omega) (by omega) ?_
  refine oh Tg ?_
  try simp only[gz]
  refine rW ?_;refine Dp Tg 4 1 ?_;refine oh Tg ?_
  try simp only[gz]
  have ff:=qA @hE0 ff;refine aY ?_;refine dr0 Tg 8 ?_;refine Dp Tg 8 (l.length-i) ?_;refine oh Tg ?_
  try simp only[gz]
  refine ae Tg ?_;exact oN (fJ (_) (hh:=λ_=>.inl rfl) (hr:=oS (k:=by exact .inr (.inl ⟨hi9,by rw[hE5],by(have e:=ins_c l (List.replicate (l.length+1-i) [.v (.string (bs [])),.v (.int .i64 0),.v (.int .i64 0),.e,.e]) x i hi9 (by simp);simp only[hE4,Jm,YS,XX,XZ,List.singleton_append]at e ⊢;rw[e])⟩))))
 refine dS ?_
 have ff:=qA @hE6 ff
 refine rW ?_
 refine gresl Tg 4 (r:=r) (off:=0) (c:=c) (l.length+1) rfl (by have:(l.length:Int)+1<=(c:Int):=(by simpa using c3);omega) ?_
 refine oh Tg ?_
 try simp only[gz]
 refine aY ?_
 have ff:=qD @hE0 @hE7 @hE8 ff
 refine rW ?_
 refine ZaQ Tg 6 (fw:=251) (t:=22) (u:=4) (r:=r2) (r2:=r) (λq=>hne q.symm) ?_
 refine oh Tg ?_
 try simp only[gz]
 refine cd ?_ ?_ (hq:=rfl)<;>intro c4
 .
  have ff:=qA @hE9 ff;refine aY ?_;refine dr0 Tg 8 ?_;refine Dp Tg 8 (l.length-i) ?_;refine oh Tg ?_
  try simp only[gz]
  refine rW ?_;refine Dp Tg 4 1 ?_;refine oh Tg ?_
  try simp only[gz]
  refine ae Tg ?_;exact oN (fJ (_) (hh:=λ_=>.inl rfl) (hr:=oS (k:=by exact .inr (.inr ⟨hi9,by(have e:=ins_a l x i hi9;simp only[Jm,YS,XX,XZ,List.singleton_append]at e ⊢;rw[e])⟩))))
 exfalso;simp at c4
end Go.Proofs.YtdcenbhgholncaaGreatDoor
namespace Go.Proofs.YtdcenbhgholncaaGreatDoor
open Go.Proofs.Tryz
open Go.DL Go.Str Go.Rec Go.Zon
def nfX(f:FuncId):Bool:=Nat.beq f 218||Nat.beq f 79||Nat.beq f 94||Nat.beq f 272
def dkX(n id:Nat):Option (Nat×Nat):=if Nat.beq n 122&&Nat.beq id 16 then some (7,10)else if Nat.beq n 89&&Nat.beq id 23 then some (3,5)else if Nat.beq n 14&&Nat.beq id 1 then some (7,10)else none
def CP:List (List D)->Bool
 | []=>true
 | q::l=>Nat.beq q.length 5&&CP l
theorem MB : ∀{l:List (List D)},CP l=true -> ∀q∈l,q.length=5
 | [],_,_,h=>by cases h
 | q::l,e,q',h=>by
  simp only[CP,XT]at e
  rcases Yv.1 h with h|h
  . subst h;exact Nat.eq_of_beq_eq_true e.1
  exact MB e.2 q' h
def Ht(r i m r2 n:Nat)(h:List (Nat×av))(l:List (List D))(x:List D):Option (List (D×List (Nat×av)×Nat)) :=
 if Nat.beq m l.length&&Nat.ble i l.length&&Nat.ble l.length 1000000 && !Nat.beq r r2&&Nat.beq x.length 5&&CP l then
  dP (n+17) λn1=>dP (n+19) λn2=>dP (n+29) λn3=>dP (n+47) λn4=>dP (n+51) λn5=>dP (l.length+1) λk=>xH (l.take i++x::l.drop i) λl' =>
   if Nat.beq i l.length then some [(.mrow n1 0 k,(n1,⟨44,l'⟩)::hdrop r h,n2)]else some [(.mrow n3 0 k,(n3,⟨44,l'⟩)::h,n4),(.mrow r 0 k,(r,⟨44,l'⟩)::h,n5)]
 else none
def Em(r:Nat)(h:List (Nat×av)):Option (List (List D)):=match htab h r with
 | some ⟨ty,rows⟩=>if Nat.beq ty 44 then some rows else none
 | none=>none
def Qt{r:Nat}{h:List (Nat×av)}{l:List (List D)}(e:Em r h=some l):htab h r=some ⟨44,l⟩:=by
 unfold Em at e
 split at e
 .
  rename_i ty rows e1
  split at e
  .
   rename_i e2
   simp only[XU]at e;subst e;rw[e1,Nat.eq_of_beq_eq_true e2]
  cases e
 cases e
def Hr:uo:=λf az h n=>if Nat.beq f 219 then match az with
 | [.mrow r 0 m,.v (.int .i64 (.ofNat i)),.mrow r2 0 1]=>(match Em r h,Em r2 h with
  | some l,some [x]=>Ht r i m r2 n h l x
  | _,_=>none)
 | _=>none else none
theorem Zas(r:Nat)(h:List (Nat×av)):htab (hdrop r h)=upd (htab h) r none:=by
 funext q
 rw[Di]
 rfl
def Za2{r i m r2 n:Nat}{h:List (Nat×av)}{l:List (List D)}{x:List D}{outs:List (D×List (Nat×av)×Nat)}(hr:htab h r=some ⟨44,l⟩)(hr2:htab h r2=some ⟨44,[x]⟩)(e:Ht r i m r2 n h l x=some outs) :
  dz prog 219 [.mrow r 0 m,.i i,.mrow r2 0 1] (htab h) n λd h' n'=>∃o∈outs,d=o.1/\h'=htab o.2.1/\n'=o.2.2:=by
 unfold Ht at e
 split at e
 .
  rename_i c
  simp only[XT,X7]at c;obtain⟨⟨⟨⟨⟨c1,c2⟩,c3⟩,c4⟩,c5⟩,c6⟩:=c;have c1:=Nat.eq_of_beq_eq_true c1;have c2:=Nat.le_of_ble_eq_true c2;have c3:=Nat.le_of_ble_eq_true c3;have c4:r≠r2:=Nat.ne_of_beq_eq_false c4;have c5:=Nat.eq_of_beq_eq_true c5;have k:=Zag l x i m (htab h) n r r2 c1 c2 c3 hr hr2 c4 c5 (MB c6);simp only[jq,yU]at e;refine k.mono λd h' n' q=>?_
  rcases q with⟨q1,q2,q3,q4⟩|⟨q1,q2,q3,q4⟩|⟨q1,q2,q3,q4⟩
  .
   rw[X0 (by rw[q1];exact Nat.beq_refl _)]at e
   simp only[XU]at e;subst e;exact⟨_,Yi.2 rfl,q2,by rw[q3,htab,Zas],q4⟩
  .
   rw[XW (λw=>by have:=Nat.eq_of_beq_eq_true w;omega)]at e
   simp only[XU]at e;subst e;exact⟨_,.head _,q2,by rw[q3,htab],q4⟩
  rw[XW (λw=>by have:=Nat.eq_of_beq_eq_true w;omega)]at e
  simp only[XU]at e;subst e;exact⟨_,.tail _ (.head _),q2,by rw[q3,htab],q4⟩
 cases e
def Za1:xR prog Hr:=by
 intro f az h n outs e
 unfold Hr at e
 split at e
 .
  rename_i c
  have:=Nat.eq_of_beq_eq_true c;subst this
  split at e
  .
   rename_i r m i r2
   split at e
   .
    rename_i l x e1 e2
    exact Za2 (Qt e1) (Qt e2) e
   cases e
  cases e
 cases e
noncomputable def VX(l:List (FuncId×(List D->Option D))):Ev:=⟨tbl l,nfX,Hr,dkX⟩
def VX_ok{l:List (FuncId×(List D->Option D))}(h:rH l):ul prog (VX l):=⟨RJ h,Za1⟩
def sj(az:List D)(d:D):List D->Option D:=λxs=>if oq xs az then some d else none
def wu{f:FuncId}{az:List D}{d:D}(h:PureCt prog f az d):∀xs e,sj az d xs=some e->PureCt prog f xs e:=by
 intro xs e k
 unfold sj at k
 split at k
 .
  rename_i c
  simp only[XU]at k;subst k;rw[rf c];exact h
 cases k
abbrev sX(l:List UInt8):D:=.v (.string ⟨⟨l⟩⟩)
end Go.Proofs.YtdcenbhgholncaaGreatDoor
