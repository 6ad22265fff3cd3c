/-
  MANY TEXTS OF MINE IN ONE (a claim has a limit of files): Zld, Lk, Zdq, Lv, Zdr, Zds, Jn, Ls, Ld, Lw, LSem, Jnl, DFoot, DFs, DRec, DBuf, DXc, DXl, DlW1, DlW2, DlW3, DlW4, DlW5, DLv, DAr, SgW5, Zsem, DlW7, DlW8, DlW9, DlW10, DSort, DlW12, Tg, Tw, Th, Td, Te, Tf, Ti, Tj, DSc, Tk, Tm, DClaim, DLaid, DgCon, NmW1, NmW2, NmW3, NmW4, NmW5, NmW6, RcW1, RcW3, RcW4, RcW5, RcW6, JdW1, ZoW1, ZoW2. Conditions: none.
-/
import Derived.Shelf.Strings.OnBuilder
import Derived.Shelf.Small.Strs
import Derived.RecoverIn
import Derived.Lib.ConvBytes
import Derived.Shelf.SlSortCmp.NoneTotal
import Derived.Carry
import Derived.RowKit
import Derived.ChangeSame
import Derived.OpenShut
import Derived.LaidMore
import Derived.Lay
import Derived.Test.YtdcenbhgholncaaGreatDoorMTD3
set_option linter.unusedVariables false
set_option linter.unusedSimpArgs false
set_option linter.unusedSectionVars false
set_option linter.defProp false
set_option linter.unnecessarySimpa false
namespace Go.Zon
open Go.DL Go.Str Go.Rec Go.Cmp
theorem Ua{n:Nat}{p:Nat->Bool}:aF n p 0=false↔∃i,i<n/\p i=false:=by
 constructor
 .
  intro h
  apply YR
  intro k;have:aF n p 0=true:=(fe _ _ _).2 λi _ hi=>by
   cases e:p i with
   | true=>rfl
   | false=>exact absurd ⟨i,hi,e⟩ k
  rw[this]at h
  cases h
 rintro⟨i,hi,h⟩
 cases e:aF n p 0 with
 | false=>rfl
 | true=>rw[(fe _ _ _).1 e i (Yl _) hi]at h;cases h
theorem ZgB{n:Nat}{p q:Nat->Bool}:aF n (λi=>p i&&q i) 0=(aF n p 0&&aF n q 0):=by
 rw[YS,XT,fe,fe,fe]
 simp only[XT]
 exact⟨λh=>⟨λi h1 h2=>(h i h1 h2).1,λi h1 h2=>(h i h1 h2).2⟩,λh i h1 h2=>⟨h.1 i h1 h2,h.2 i h1 h2⟩⟩
section
variable {z : Zon} (h : j6 z)
include h
def oU{i j:Nat}(hij:i<=j)(hj:j<z.sets.length):bH z.sets[i]!.set.name z.sets[j]!.set.name<=0:=by
 by_cases e:i=j
 . subst e;rw[gD.self];exact Int.le_refl _
 exact(Nl (vT h.ord (by omega:i<j) hj)).1
def Il{i j:Nat}(hij:i<j)(hj:j<z.sets.length)(e:z.sets[i]!.set.name=z.sets[j]!.set.name):z.sets[i]!.set.ty<z.sets[j]!.set.ty :=
 (Nl (vT h.ord hij hj)).2 e
def Od{i k j:Nat}(hik:i<=k)(hkj:k<=j)(hj:j<z.sets.length)(e:z.sets[i]!.set.name=z.sets[j]!.set.name):z.sets[k]!.set.name=z.sets[j]!.set.name:=by
 have h1:=oU h hik (by omega)
 have h2:=oU h hkj hj
 rw[e]at h1
 have:=gD.anti z.sets[k]!.set.name z.sets[j]!.set.name
 exact zP om
def IL{i:Nat}(hi:i<z.sets.length):z.sets[i]!.set.name≠[]:=by
 intro e
 have:=h.nms _ (dw hi)
 rw[e,BI]at this
 cases this
def GH{i:Nat}(hi:i<z.sets.length):1<=z.sets[i]!.set.ty/\z.sets[i]!.set.ty<=8:=je.1 (h.ok _ (dw hi)).ty
def Ld(l:List Sgd):Prop:=∃i,i+1<l.length/\l[i]!.set.name=l[i+1]!.set.name/\(l[i+1]!.set.ty=3\/(l[i]!.set.ty=3/\l[i+1]!.set.ty≠8))
omit h in
theorem Ub(l:List Sgd):∀k,gT l k≠[] -> ∃j,j<k/\l[j]!.set.ty=3/\l[j]!.set.name=gT l k
 | 0,hk=>absurd rfl hk
 | k+1,hk=>by
  unfold gT at hk ⊢
  split at hk
  . rename_i e;exact⟨k,om,e,by rw[XY e]⟩
  rename_i e
  obtain⟨j,h1,h2,h3⟩:=Ub l k hk;exact⟨j,om,h2,by rw[XW e,h3]⟩
omit h in
def ZgE:pM (aO z)=false↔Ld z.sets:=by
 unfold pM
 rw[Ua]
 show(∃i,i<z.sets.length/\kS z.sets i=false)↔_
 unfold kS Ld
 constructor
 .
  rintro⟨i,hi,k⟩;simp only[Ya,YH,Yk,X5,XV,X3,Yx,XT,X5,ZE,ne_eq]at k;obtain⟨k1,k2|⟨k2,k3⟩⟩:=k
  . exact⟨i-1,om,by rw[show i-1+1=i by omega];exact k2.2,.inl (by rw[show i-1+1=i by omega];exact k1)⟩
  exact⟨i,om,k2.2.symm,.inr ⟨k1,k3⟩⟩
 rintro⟨i,hi,k1,k2⟩
 rcases k2 with k2|⟨k2,k3⟩
 .
  refine⟨i+1,hi,?_⟩;have hb:(z.sets[i]!.set.name==z.sets[i+1]!.set.name)=true:=Yx.2 k1;rw[YE k2,Nat.add_sub_cancel,hb,YE (show 0<i+1 by omega)]
  rfl
 refine⟨i,om,?_⟩
 have hb:(z.sets[i+1]!.set.name==z.sets[i]!.set.name)=true:=Yx.2 k1.symm
 rw[YE k2,YE hi,hb,YI k3]
 simp
def U3:mP z=false↔Ld z.sets:=by
 unfold mP
 rw[Ua]
 have hp : ∀i,jM z.sets i≠[]↔(0<i/\z.sets[i-1]!.set.name=z.sets[i]!.set.name/\z.sets[i]!.set.name≠[]):=by
  intro i;unfold jM;split
  . rename_i q;exact⟨λk=>⟨q.1,q.2,k⟩,λk=>k.2.2⟩
  rename_i q;exact⟨λk=>absurd rfl k,λk=>absurd ⟨k.1,k.2.1⟩ q⟩
 have hpe : ∀i,0<i->z.sets[i-1]!.set.name=z.sets[i]!.set.name->jM z.sets i=z.sets[i]!.set.name:=λi h1 h2=>XY ⟨h1,h2⟩
 have key : ∀i,iO z.sets i=false↔(jM z.sets i≠[]/\(z.sets[i]!.set.ty=3\/(jM z.sets i=gT z.sets (i+1)/\z.sets[i]!.set.ty≠3/\z.sets[i]!.set.ty≠8))):=by
  intro i;unfold iO
  by_cases a1:jM z.sets i=[]<;>by_cases a2:z.sets[i]!.set.ty=3<;>by_cases a3:jM z.sets i=gT z.sets (i+1)<;>by_cases a4:z.sets[i]!.set.ty=8<;>simp_all
 constructor
 .
  rintro⟨i,hi,k⟩;rw[key]at k;obtain⟨k1,k2⟩:=k;obtain⟨k0,k3,k4⟩:=(hp i).1 k1
  rcases k2 with k2|⟨k5,k6,k7⟩
  . exact⟨i-1,om,by rw[show i-1+1=i by omega];exact k3,.inl (by rw[show i-1+1=i by omega];exact k2)⟩
  rw[hpe i k0 k3]at k5;obtain⟨j,j1,j2,j3⟩:=Ub z.sets (i+1) (by rw[<-k5];exact k4)
  rw[<-k5]at j3;have hji:j<i:=by
   rcases Zv j i with e|e
   . exact e
   have:j=i:=by omega
   subst this;exact absurd j2 k6
  have hm:=Od h (i:=j) (k:=j+1) (j:=i) (by omega) (by omega) hi j3
  refine⟨j,om,by rw[hm,j3],.inr ⟨j2,?_⟩⟩
  have:=GH h hi
  by_cases e:j+1=i
  . rw[e];exact k7
  have:=Il h (i:=j+1) (j:=i) om hi hm;omega
 rintro⟨i,hi,k1,k2⟩
 refine⟨i+1,hi,(key _).2 ⟨(hp _).2 ⟨om,k1,IL h hi⟩,?_⟩⟩
 rcases k2 with k2|⟨k2,k3⟩
 . exact .inl k2
 have ht:=Il h (i:=i) (j:=i+1) (by omega) hi k1
 by_cases e:z.sets[i+1]!.set.ty=3
 . exact .inl e
 refine .inr ⟨?_,e,k3⟩
 rw[hpe (i+1) (by omega) k1]
 show _=(if z.sets[i+1]!.set.ty=3 then _ else gT z.sets (i+1))
 rw[XW e]
 show _=(if z.sets[i]!.set.ty=3 then z.sets[i]!.set.name else _)
 rw[XY k2,k1]
theorem ZgD:pM (aO z)=mP z:=by
 have h1:=ZgE (z:=z)
 have h2:=U3 h
 cases e1:pM (aO z)<;>cases e2:mP z
 . rfl
 . rw[e1]at h1;rw[e2]at h2;have:=h2.2 (h1.1 rfl);cases this
 . rw[e1]at h1;rw[e2]at h2;have:=h1.2 (h2.1 rfl);cases this
 rfl
end
def Top(C:Str->Prop)(n c:Str):Prop:=C c/\aI n c /\ ∀c',C c'->aI c c'->c'=c
def zg(C:Str->Prop)(n b:Str):Prop:=(b=[] /\ ∀c,C c -> ¬aI n c)\/(b≠[]/\Top C n b)
def Dn{C:Str->Prop}{n c c':Str}(h:Top C n c)(h1:C c')(h2:aI n c'):aI c' c:=by
 rcases A9 h.2.1 h2 with k|k
 . rw[h.2.2 c' h1 k];exact ko _
 exact k
def TI{C:Str->Prop}{n b b':Str}(h:zg C n b)(h':zg C n b'):b=b':=by
 rcases h with⟨h1,h2⟩|⟨h1,h2⟩<;>rcases h' with⟨k1,k2⟩|⟨k1,k2⟩
 . rw[h1,k1]
 . exact absurd k2.2.1 (h2 _ k2.1)
 . exact absurd h2.2.1 (k2 _ h2.1)
 exact xL (Dn k2 h2.1 h2.2.1) (Dn h2 k2.1 k2.2.1)
def fq(z:Zon)(c:Str):Prop:=∃i,i<z.sets.length/\z.sets[i]!.set.ty=2/\z.sets[i]!.set.name≠z.apex/\z.sets[i]!.set.name=c
theorem ZbG{m:List Str}{a b:Str}:jQ (tset m a) b=true↔b=a\/jQ m b=true:=by
 unfold tset
 split
 .
  rename_i h
  constructor
  . exact λk=>.inr k
  rintro (k|k)
  . rw[k];exact h
  exact k
 unfold jQ
 simp only[XV,Yo,Yz,Z4,or_false]
 exact⟨λk=>k.symm,λk=>k.symm⟩
theorem Sw(z:Zon)(c:Str):∀k,jQ (bX z k) c=true↔∃i,i<k/\z.sets[i]!.set.ty=2/\z.sets[i]!.set.name≠z.apex/\z.sets[i]!.set.name=c
 | 0=>by simp[bX,jQ]
 | k+1=>by
  have ih:=Sw z c k
  by_cases e:z.sets[k]!.set.ty=2 /\ ¬z.sets[k]!.set.name=z.apex
  .
   rw[Kl e,ZbG,ih]
   constructor
   .
    rintro (k1|⟨i,k1,k2⟩)
    . exact⟨k,om,e.1,e.2,k1.symm⟩
    exact⟨i,om,k2⟩
   rintro⟨i,k1,k2⟩
   by_cases e2:i=k
   . subst e2;exact .inl k2.2.2.symm
   exact .inr ⟨i,om,k2⟩
  rw[Km e,ih]
  constructor
  . rintro⟨i,k1,k2⟩;exact⟨i,om,k2⟩
  rintro⟨i,k1,k2⟩
  by_cases e2:i=k
  . subst e2;exact absurd ⟨k2.1,k2.2.1⟩ e
  exact⟨i,om,k2⟩
def Kv{z:Zon}{c:Str}:jQ (bX z z.sets.length) c=true↔fq z c:=Sw z c _
theorem FV(z:Zon)(c:Str):∀k,c∈kP z k↔∃i,i<k/\z.sets[i]!.set.ty=2/\z.sets[i]!.set.name≠z.apex/\z.sets[i]!.set.name=c
 | 0=>by simp[kP]
 | k+1=>by
  have ih:=FV z c k;unfold kP
  by_cases e:z.sets[k]!.set.ty=2/\z.sets[k]!.set.name≠z.apex
  .
   rw[XY e,Yo,ih]
   constructor
   .
    rintro (⟨i,k1,k2⟩|k1)
    . exact⟨i,om,k2⟩
    exact⟨k,om,e.1,e.2,by simpa using(Yd.1 k1).symm⟩
   rintro⟨i,k1,k2⟩
   by_cases e2:i=k
   . subst e2;exact .inr (Yd.2 k2.2.2.symm)
   exact .inl ⟨i,om,k2⟩
  rw[XW e,ih]
  constructor
  . rintro⟨i,k1,k2⟩;exact⟨i,om,k2⟩
  rintro⟨i,k1,k2⟩
  by_cases e2:i=k
  . subst e2;exact absurd ⟨k2.1,k2.2.1⟩ e
  exact⟨i,om,k2⟩
section
variable {z : Zon} (h : j6 z)
include h
def Ku{c:Str}(hc:fq z c):ah c=true/\c≠[]:=by
 obtain⟨i,hi,_,_,rfl⟩:=hc
 exact⟨h.nms _ (dw hi),IL h hi⟩
theorem TJ : ∀k,k<=z.sets.length->(k=0\/zg (fq z) z.sets[k-1]!.set.name (bU (bX z z.sets.length) z.sets k).2)
 | 0,_=>.inl rfl
 | k+1,hk=>by
  have hk':k<z.sets.length:=by omega
  have hn:=h.nms _ (dw hk');have hne:=IL h hk'
  right
  show zg (fq z) z.sets[k]!.set.name (stepC (bX z z.sets.length) (bU (bX z z.sets.length) z.sets k).2 z.sets[k]!.set.name)
  have ih:=TJ k (by omega)
  generalize hcut:(bU (bX z z.sets.length) z.sets k).2=cut at ih;generalize hN:z.sets[k]!.set.name=n at *;have A : ∀c',fq z c'->aI n c'->c'≠n->cut≠[]/\Top (fq z) n cut:=by
   intro c' hc hu hne';obtain⟨i,hi,hi2,hi3,hi4⟩:=hc;have hik:i<k:=by
    rcases Zv i k with e|e
    . exact e
    have h1:=oU h e hi;rw[hN,hi4]at h1;have h2:=ui hu;have:=gD.anti n c';exact absurd (zP (by omega:bH c' n=0)) hne'
   have h1:aI z.sets[k-1]!.set.name c':=by
    refine zk hu ?_ ?_
    . rw[<-hi4];exact oU h (by omega) (by omega)
    rw[<-hN];exact oU h (by omega) hk'
   rcases ih with e|⟨e,e2⟩|⟨e,e2⟩
   . omega
   . exact absurd h1 (e2 _ ⟨i,hi,hi2,hi3,hi4⟩)
   have h3:=Dn e2 ⟨i,hi,hi2,hi3,hi4⟩ h1;exact⟨e,e2.1,sw hu h3,e2.2.2⟩
  have B:(∀c',fq z c'->aI n c'->c'=n)->zg (fq z) n (if jQ (bX z z.sets.length) n=true then n else[]):=by
   intro hall
   by_cases e:jQ (bX z z.sets.length) n=true
   . rw[XY e];exact .inr ⟨hne,Kv.1 e,ko _,hall⟩
   rw[XW e];exact .inl ⟨rfl,λc hc hu=>e (by rw[hall c hc hu]at hc;exact Kv.2 hc)⟩
  unfold stepC;dsimp only
  by_cases e1:cut≠[]/\bC n cut=false
  .
   rw[XY e1];have hCc:fq z cut:=by
    rcases ih with e|⟨e,_⟩|⟨_,e⟩
    . subst e;exact absurd (show cut=[]from hcut.symm) e1.1
    . exact absurd e e1.1
    exact e.1
   have hall : ∀c',fq z c'->aI n c'->c'=n:=by
    intro c' hc hu
    apply YR
    intro hne';obtain⟨_,a2⟩:=A c' hc hu hne';have:=(kW hn (Ku h hCc).1).2 a2.2.1;rw[e1.2]at this;cases this
   have:=B hall
   by_cases e:jQ (bX z z.sets.length) n=true
   . rw[XY ⟨rfl,e⟩];rw[XY e]at this;exact this
   rw[XW (λq=>e q.2)];rw[XW e]at this;exact this
  rw[XW e1]
  by_cases e2:cut=[]
  .
   have hall : ∀c',fq z c'->aI n c'->c'=n:=by
    intro c' hc hu
    apply YR
    intro hne';exact(A c' hc hu hne').1 e2
   have:=B hall
   by_cases e:jQ (bX z z.sets.length) n=true
   . rw[XY ⟨e2,e⟩];rw[XY e]at this;exact this
   rw[XW (λq=>e q.2),e2];rw[XW e]at this;exact this
  rw[XW (λq=>e2 q.1)]
  have hT:Top (fq z) z.sets[k-1]!.set.name cut:=by
   rcases ih with e|⟨e,_⟩|⟨_,e⟩
   . subst e;exact absurd (show cut=[]from hcut.symm) e2
   . exact absurd e e2
   exact e
  have hu:bC n cut=true:=by
   cases e:bC n cut with
   | true=>rfl
   | false=>exact absurd ⟨e2,e⟩ e1
  exact .inr ⟨e2,hT.1,(kW hn (Ku h hT.1).1).1 hu,hT.2.2⟩
omit h in
theorem KT(m:List Str)(l:List Sgd):∀n k,k<n->(bU m l n).1[k]! = (bU m l (k+1)).2:=by
 intro n
 induction n with
 | zero=>intro k h;omega
 | succ n ih =>
  intro k h;have hl:=xz m l n;have e1:(bU m l (n+1)).1=(bU m l n).1++[(bU m l (n+1)).2]:=rfl
  by_cases e:k=n
  . subst e;rw[e1];simp[hl]
  rw[<-ih k (by omega),e1,getElem!_pos _ _ (by simp[hl];omega),getElem!_pos _ _ (by omega),List.getElem_append_left]
def CV{k:Nat}(hk:k<z.sets.length):zg (fq z) z.sets[k]!.set.name (iK z)[k]! := by
 unfold iK
 rw[KT _ _ _ _ hk]
 exact(TJ h (k+1) hk).resolve_left om
theorem Sy : ∀k,k<=z.sets.length->sj bH (kP z k)
 | 0,_=>.nil
 | k+1,hk=>by
  have ih:=Sy k (by omega)
  unfold kP
  split
  .
   rename_i e
   refine Zn.2 ⟨ih,ZZ _ _,λa ha b hb=>?_⟩
   rw[Yd]at hb;subst hb;obtain⟨i,hi,hi2,hi3,rfl⟩:=(FV z a k).1 ha;have h1:=oU h (show i<=k by omega) (by omega)
   by_cases e2:bH z.sets[i]!.set.name z.sets[k]!.set.name=0
   . have:=Il h hi om (zP e2);omega
   omega
  exact ih
structure High(cs hs:List Str):Prop where
 sub : ∀x∈hs,x∈cs
 cov : ∀c∈cs,∃x∈hs,aI c x
 pair:hs.Pairwise λa b=>bH a b<0 /\ ¬aI b a
omit h in
def BO{α:Type}[Inhabited α]{l:List α}(h:l≠[]):l[l.length-1]! ∈ l:=dw (by have:=YV.2 h;omega)
omit h in
theorem zm!{α:Type}[Inhabited α]{l:List α}{k:Nat}(h:k<l.length):l.take (k+1)=l.take k++[l[k]!]:=by
 rw[ZK,X6 h,getElem!_pos l k h]
 rfl
omit h in
def NH{α:Type}[Inhabited α]{r:α->α->Prop}{l:List α}(h:l.Pairwise r){x:α}(hx:x∈l):x=l[l.length-1]! \/ r x l[l.length-1]! := by
 obtain⟨i,hi,rfl⟩:=fw.1 hx
 by_cases e:i=l.length-1
 . left;rw[<-e]
 right
 rw[getElem!_pos l i hi,getElem!_pos l _ (by omega)]
 exact Za.1 h i (l.length-1) hi om om
omit h in
theorem Qd{cs:List Str}(hc:sj bH cs):∀k,k<=cs.length->High (cs.take k) (cK cs k)
 | 0,_=>⟨λx hx=>(by simp[cK]at hx),λc hc=>(by simp at hc),(by simp[cK])⟩
 | k+1,hk=>by
  have ih:=Qd hc k (by omega)
  have hkl:k<cs.length:=by omega
  have ht:cs.take (k+1)=cs.take k++[cs[k]!]:=zm! hkl;have hlt : ∀x∈cs.take k,bH x cs[k]! < 0:=by
   intro x hx;obtain⟨i,hi,e⟩:=fw.1 hx;rw[Y7]at hi;have e2:(cs.take k)[i]! = cs[i]! := by
    rw[getElem!_pos _ _ (by rw[Y7];omega),getElem!_pos _ _ (by omega),List.getElem_take]
   rw[<-e,e2];exact vT hc om hkl
  unfold cK
  by_cases e:cK cs k=[]\/jU cs[k]! (cK cs k)[(cK cs k).length-1]! = false
  .
   rw[XY e,ht];refine⟨λx hx=>?_,λc hc'=>?_,Zn.2 ⟨ih.pair,ZZ _ _,λa ha b hb=>?_⟩⟩
   .
    rcases Yo.1 hx with hx|hx
    . exact ZC _ (ih.sub x hx)
    exact List.mem_append_right _ hx
   .
    rcases Yo.1 hc' with hc'|hc'
    . obtain⟨x,hx,hu⟩:=ih.cov c hc';exact⟨x,ZC _ hx,hu⟩
    exact⟨c,List.mem_append_right _ hc',ko _⟩
   rw[Yd]at hb;subst hb;refine⟨hlt a (ih.sub a ha),λhu=>?_⟩
   have hne:cK cs k≠[]:=λq=>by rw[q]at ha;cases ha
   have hin:=e.resolve_left hne;have hnl : ¬aI cs[k]! (cK cs k)[(cK cs k).length-1]! := λq=>by rw[Aa.2 q]at hin;cases hin
   rcases NH ih.pair ha with q|q
   . rw[<-q]at hnl;exact hnl hu
   have hl:=hlt _ (ih.sub _ (BO hne));exact q.2 (zk hu om om)
  rw[XW e,ht];have hne:cK cs k≠[]:=λq=>e (.inl q)
  have hin:aI cs[k]! (cK cs k)[(cK cs k).length-1]! := by
   apply Aa.1
   cases q:jU cs[k]! (cK cs k)[(cK cs k).length-1]! with
   | true=>rfl
   | false=>exact absurd (.inr q) e
  refine⟨λx hx=>ZC _ (ih.sub x hx),λc hc'=>?_,ih.pair⟩
  rcases Yo.1 hc' with hc'|hc'
  . exact ih.cov c hc'
  rw[Yd]at hc';subst hc';exact⟨_,BO hne,hin⟩
def ZcO:(∀x∈bL z,fq z x)/\(∀c,fq z c -> ∃x∈bL z,aI c x)/\(bL z).Pairwise λa b=>bH a b<0 /\ ¬aI b a:=by
 have hh:=Qd (Sy h z.sets.length (X4 _)) _ (X4 _)
 rw[Zq]at hh
 exact⟨λx hx=>(FV z x _).1 (hh.sub x hx),λc hc=>hh.cov c ((FV z c _).2 hc),hh.pair⟩
omit h in
theorem ZgF(hs:List Str)(n:Str):∀m i,hs.length-i<=m->i<=hs.length->(∀k,k<i->bH hs[k]! n<=0)->(∀k,k<nY hs n i->bH hs[k]! n<=0)/\(nY hs n i<hs.length -> ¬bH hs[nY hs n i]! n<=0):=by
 intro m
 induction m with
 | zero=>intro i h1 h2 h3;rw[xC,XW (by omega)];exact⟨h3,λh=>by omega⟩
 | succ m ih =>
  intro i h1 h2 h3;rw[xC]
  by_cases e:i<hs.length
  .
   rw[XY e]
   by_cases e2:bH hs[i]! n<=0
   .
    rw[XY e2];refine ih (i+1) om om λk hk=>?_
    by_cases e3:k=i
    . subst e3;exact e2
    exact h3 k om
   rw[XW e2];exact⟨h3,λ_=>e2⟩
  rw[XW e];exact⟨h3,λh=>absurd h e⟩
theorem Uc(hs:List Str):∀k,k<=z.sets.length->gH hs z.sets k<=hs.length/\(0<k->(∀i,i<gH hs z.sets k->bH hs[i]! z.sets[k-1]!.set.name<=0)/\(gH hs z.sets k<hs.length -> ¬bH hs[gH hs z.sets k]! z.sets[k-1]!.set.name<=0))
 | 0,_=>⟨Yl _,λh=>by omega⟩
 | k+1,hk=>by
  obtain⟨h1,h2⟩:=Uc hs k om;have h3 : ∀i,i<gH hs z.sets k->bH hs[i]! z.sets[k]!.set.name<=0:=by
   intro i hi
   by_cases e:k=0
   . subst e;exact absurd hi (Nat.not_lt_zero _)
   exact gD.tr _ _ _ ((h2 om).1 i hi) (oU h om om)
  exact⟨(ZgG hs _ _ _ (X4 _) h1).2,λ_=>ZgF hs z.sets[k]!.set.name _ _ (X4 _) h1 h3⟩
omit h in
theorem Zge(hs:List Str)(l:List Sgd):∀n k,k<n->(lN hs l n)[k]! = gQ hs l[k]!.set.name (gH hs l (k+1)):=by
 intro n
 induction n with
 | zero=>intro k h;omega
 | succ n ih =>
  intro k h;have hl:=vB hs l n;have e1:lN hs l (n+1)=lN hs l n++[gQ hs l[n]!.set.name (gH hs l (n+1))]:=rfl
  by_cases e:k=n
  . subst e;rw[e1];simp[hl]
  rw[<-ih k (by omega),e1,getElem!_pos (lN hs l n++_) k (by simp[hl];omega),getElem!_pos (lN hs l n) k (by omega),List.getElem_append_left]
def Zgd{k:Nat}(hk:k<z.sets.length):zg (fq z) z.sets[k]!.set.name (fE z)[k]! := by
 unfold fE
 rw[Zge _ _ _ _ hk]
 obtain⟨g1,g2,g3⟩:=ZcO h
 obtain⟨a1,a2⟩:=Uc h (bL z) (k+1) hk
 obtain⟨a3,a4⟩:=a2 om
 rw[show k+1-1=k from rfl]at a3 a4
 generalize gH (bL z) z.sets (k+1)=j at *
 generalize z.sets[k]!.set.name=n at *
 have pr : ∀i i',i<i'->i'<(bL z).length->bH (bL z)[i]! (bL z)[i']! < 0 /\ ¬aI (bL z)[i']! (bL z)[i]! := by
  intro i i' h1 h2;rw[getElem!_pos _ i (by omega),getElem!_pos _ i' h2]
  exact Za.1 g3 i i' om h2 h1
 unfold gQ
 by_cases e:0<j/\jU n (bL z)[j-1]! = true
 .
  rw[XY e];have hm:(bL z)[j-1]! ∈ bL z:=dw om;refine .inr ⟨(Ku h (g1 _ hm)).2,g1 _ hm,Aa.1 e.2,λc' hc' hu=>?_⟩
  obtain⟨x,hx,hxu⟩:=g2 c' hc';have fV:aI (bL z)[j-1]! x:=sw hu hxu;obtain⟨i,hi,rfl⟩:=fw.1 hx;have hij:i=j-1:=by
   rcases Nat.lt_trichotomy i (j-1)with q|q|q
   . exact absurd fV (pr i (j-1) q om).2
   . exact q
   have:=(pr (j-1) i q hi).1;have:=ui fV;have:=gD.anti (bL z)[j-1]! (bL z)[i]!;omega
  rw[hij]at hxu;exact xL hxu hu
 rw[XW e]
 refine .inl ⟨rfl,λc hc hu=>?_⟩
 obtain⟨x,hx,hxu⟩:=g2 c hc
 have hnx:aI n x:=sw hu hxu
 obtain⟨i,hi,rfl⟩:=fw.1 hx
 have hle:=ui hnx
 have hij:i<j:=by
  rcases Zv i j with q|q
  . exact q
  exfalso
  have h5:=a4 (by omega)
  by_cases q2:i=j
  . subst q2;exact h5 hle
  have h6:=(pr j i (by omega) hi).1
  exact h5 (gD.tr _ _ _ om hle)
 by_cases q:i=j-1
 . exact e ⟨om,by rw[<-q];exact Aa.2 hnx⟩
 have h6:=pr i (j-1) (by omega) (by omega)
 exact h6.2 (zk hnx om (a3 (j-1) om))
theorem TK:iK z=fE z:=by
 have l1:(iK z).length=z.sets.length:=xz _ _ _
 have l2:(fE z).length=z.sets.length:=vB _ _ _
 exact IY! om λi hi=>TI (CV h om) (Zgd h om)
theorem Zdj:(uS (aO z)&&xc (aO z))=tF z:=by
 unfold tF uT uS xc aO
 rw[ZgB,TK h,Bool.and_comm]
theorem Ze5:kQ (aO z)=rQ z:=by
 unfold rQ aO
 rw[TK h]
end
theorem Um(z:Zon):aN z=pW z:=by
 unfold aN pW
 by_cases e:ordered z=true
 . have h:=zJ.1 e;rw[<-Ob,Zgo h,ZgD h,Ze5 h,<-Zdj h];simp only[Zp]
 rw[<-Ob]
 have:ordered z=false:=by simpa using e
 rw[this]
 simp
def Db{z:Zon}(h:aN z=true):j6 z:=by
 unfold aN at h
 simp only[XT]at h
 exact zJ.1 h.1.1.1.1.1
end Go.Zon
namespace Go.Zon
open Go.DL Go.Str Go.Rec Go.Cmp
def fQ(s:Str):Str:=if 46∈s then s.drop (s.idxOf 46+1)else[46]
theorem PL{s:Str}:Go.Lib.indexByte s 46=if 46∈s then(s.idxOf 46:Int)else -1:=by
 induction s with
 | nil=>rfl
 | cons c r ih =>
  unfold Go.Lib.indexByte;rw[ih]
  by_cases e:c=46
  . subst e;simp
  have e2:(c==46)=false:=YM.2 e;rw[List.idxOf_cons,e2]
  by_cases h:(46:UInt8)∈r
  .
   have h0 : ¬((r.idxOf 46:Int) = -1):=by omega
   simp[h,h0]
  simp[h,Ne.symm e]
def ixF(s:Str)(c:Int):Int:=Go.Lib.indexByte s c.toNat.toUInt8
theorem PN{s:Str}(h:(46:UInt8)∈s):ixF s 46=(s.idxOf 46:Int):=PL.trans (XY h)
theorem PO{s:Str}(h : ¬(46:UInt8)∈s):ixF s 46 = -1:=PL.trans (XW h)
def l9(s:Str):Str:=if ah s && !(s==[46])then fQ s else[]
theorem ZcD{s:Str}(h:(46:UInt8)∈s):s=s.take (s.idxOf 46)++46::s.drop (s.idxOf 46+1) /\ ∀x∈s.take (s.idxOf 46),x≠46:=by
 induction s with
 | nil=>simp at h
 | cons c r ih =>
  by_cases e:c=46
  . subst e;simp
  have h2:(46:UInt8)∈r:=by rcases Yz.1 h with h|h;exact absurd h.symm e;exact h
  obtain⟨h3,h4⟩:=ih h2;rw[show(c::r).idxOf 46=(r.idxOf 46).succ by rw[List.idxOf_cons,show(c==46)=false from YM.2 e];rfl]
  constructor
  . simp only[Nat.succ_eq_add_one,YC,Yv,XX,Yy,true_and];exact h3
  intro x hx;simp only[Nat.succ_eq_add_one,YC,Yz]at hx
  rcases hx with rfl|hx
  . exact e
  exact h4 x hx
def VM{s:Str}(h:(46:UInt8)∈s):split s=s.take (s.idxOf 46)::split (s.drop (s.idxOf 46+1)):=by
 obtain⟨h1,h2⟩:=ZcD h
 conv=>lhs;rw[h1]
 rw[Bf,Be _ h2];rfl
def EB{s:Str}(h:ah s=true)(hr:s≠[46]):s.length<=60/\(split s).length<=8 /\ ∀i,i<(split s).length->fP (split s) i=true:=by
 unfold ah at h
 rw[XW hr]at h
 split at h
 . cases h
 rw[qQ,XT]at h
 exact⟨om,by simpa using h.2,λi hi=>(fe _ _ _).1 h.1 i (Yl _) hi⟩
theorem nk{s:Str}(h:ah s=true)(hr:s≠[46]):ah (fQ s)=true/\ay (fQ s)=(ay s).dropLast:=by
 unfold fQ
 have rl : ∀t:Str,t≠[46]->ay t=(split t).reverse:=λt ht=>by unfold ay;rw[XW ht,jK]
 obtain⟨h1,h2,h3⟩:=EB h hr
 by_cases h46:(46:UInt8)∈s
 .
  rw[XY h46];have hs:=VM h46;have hne:s.drop (s.idxOf 46+1)≠[46]:=λe=>by
   rw[e]at hs;have:=h3 1 (by rw[hs];show 1<3;omega)
   rw[hs]at this;have e2:split [46]=[[],[]]:=by decide
   rw[e2]at this;have h9:dN []=true:=by simpa[fP]using this
   rw[I6]at h9;cases h9
  constructor
  .
   unfold ah;rw[XW hne,XW (by simp;omega),qQ,XT]
   rw[hs]at h2 h3;refine⟨(fe _ _ _).2 λi _ hi=>?_,by simp at h2 ⊢;omega⟩
   have:=h3 (i+1) (by simpa using hi)
   have e9:dN (split (s.drop (s.idxOf 46+1)))[i]! = true:=by simpa[fP]using this
   unfold fP;rw[e9];rfl
  rw[rl s hr,rl _ hne,hs,List.reverse_cons,List.dropLast_concat]
 rw[XW h46]
 refine⟨by decide,?_⟩
 rw[rl s hr,Be s (λx hx e=>h46 (e▸hx))]
 rfl
def uh{s a:Str}(h:ah s=true)(hu:aI s a)(hne:s≠a):s≠[46]/\aI (fQ s) a:=by
 have hr:s≠[46]:=λe=>by
  subst e;obtain⟨t,ht⟩:=hu;have e2:ay [46]=[]:=by decide
  rw[e2]at ht;have:ay a=[]:=(List.append_eq_nil_iff.1 ht).1;exact hne (qV (by rw[e2,this]))
 refine⟨hr,?_⟩
 show ay a <+: ay (fQ s)
 rw[(nk h hr).2]
 obtain⟨t,ht⟩:=hu
 have htn:t≠[]:=λe=>hne (qV (by rw[e,YZ]at ht;exact ht.symm))
 rw[<-ht,List.dropLast_append_of_ne_nil htn]
 exact⟨_,rfl⟩
def mG(z:Zon):Nat->Str->Str×Bool
 | 0,_=>([],false)
 | f+1,n=>if n=z.apex then([],false)else if eX z.sets ⟨n,2⟩then(n,true)else mG z f (fQ n)
def bE(z:Zon)(s:Str):Str×Bool:=mG z ((ay s).length+1) s
def fZ(z:Zon)(s:Str):Str×Bool×Int:=if ah s&&aN z then(if under s z.apex then((bE z s).1,(bE z s).2,0)else([],false,20))else([],false,1)
theorem Zfb{z:Zon}{n:Str}(h:n=z.apex):∀f,mG z f n=([],false)
 | 0=>rfl
 | f+1=>by rw[mG,XY h]
def SB{z:Zon}{n:Str}(hn:ah n=true)(hu:aI n z.apex)(hne:n≠z.apex)(hf:eX z.sets ⟨n,2⟩=false) :
  bE z n=bE z (fQ n)/\(ay (fQ n)).length<(ay n).length:=by
 obtain⟨hr,_⟩:=uh hn hu hne
 have e:=(nk hn hr).2
 have hl:(ay (fQ n)).length+1=(ay n).length:=by
  rw[e,List.length_dropLast];have:ay n≠[]:=λe2=>hr (qV (by rw[e2];decide))
  have:=YV.2 this;omega
 refine⟨?_,om⟩
 unfold bE
 rw[show(ay n).length+1=((ay (fQ n)).length+1)+1 by omega,mG,XW hne,XW (by rw[hf];simp)]
theorem Ze6{z:Zon}{n:Str}(hne:n≠z.apex)(hf:eX z.sets ⟨n,2⟩=true):bE z n=(n,true):=by
 unfold bE
 rw[mG,XW hne,XY hf]
theorem Ze7{z:Zon}{n:Str}(h:n=z.apex):bE z n=([],false):=Zfb h _
@[go_sem]theorem EH{z:Zon}:(aO z).z=z:=rfl
def bF(x:Lay):Nat->List Str
 | 0=>[]
 | k+1=>if !(x.b[k]! == []) && !(x.b[k]! == x.z.sets[k]!.set.name)then bF x k
   else if(bF x k).length=0\/(bF x k)[(bF x k).length-1]! ≠ x.z.sets[k]!.set.name then bF x k++[x.z.sets[k]!.set.name]else bF x k
@[go_sem]theorem nmTo_0{x:Lay}:bF x 0=[]:=rfl
def mi(x:Lay)(k:Nat):Prop:=x.b[k]! = []\/x.b[k]! = x.z.sets[k]!.set.name
theorem Et{x:Lay}{k:Nat}(h : ¬mi x k):bF x (k+1)=bF x k:=by
 unfold mi at h
 rw[bF,XY (by simp only[XT,X5,YM];exact⟨λe=>h (.inl e),λe=>h (.inr e)⟩)]
theorem zO{x:Lay}{k:Nat}(h:mi x k)(h2:(bF x k).length=0\/(bF x k)[(bF x k).length-1]! ≠ x.z.sets[k]!.set.name):bF x (k+1)=bF x k++[x.z.sets[k]!.set.name]:=by
 unfold mi at h
 rw[bF,XW (by simp only[XT,X5,YM];rintro⟨a,b⟩;exact h.elim a b),XY h2]
theorem zN{x:Lay}{k:Nat}(h2 : ¬((bF x k).length=0\/(bF x k)[(bF x k).length-1]! ≠ x.z.sets[k]!.set.name)):bF x (k+1)=bF x k:=by
 rw[bF]
 split
 . rfl
 first|rfl|rw[XW h2]
def aT(z:Zon):List Str:=bF (aO z) z.sets.length
theorem IE(x:Lay):∀k,(bF x k).length<=k
 | 0=>X4 _
 | k+1=>by
  have:=IE x k;unfold bF
  split
  . omega
  split
  . simp;omega
  omega
abbrev PM:=List (Qst×Sgd)
def ND:PM->Qst->Option Sgd
 | p::m,q=>if p.1=q then some p.2 else ND m q
 | [],_=>none
def PM.of:List D->PM
 | .agg k :: .agg v::l=>(Qst.of k,Sgd.of v)::PM.of l
 | _=>[]
abbrev PZ:=List (Qst×Option Sgd)
def Le:PZ->Qst->Option Sgd->PZ
 | p::m,q,s=>if p.1=q then(q,s)::m else p::Le m q s
 | [],q,s=>[(q,s)]
def sgdZ:Sgd:=⟨⟨[],0,0,[]⟩,[]⟩
def zp(m:PZ):PM:=m.map λp=>(p.1,p.2.getD sgdZ)
def mapZ(l:List Sgd):PZ:=(mapF l).map λs=>(s.q,some s)
def Jy(m:PZ)(l:List Qst):Nat->PZ
 | 0=>m
 | k+1=>Le (Jy m l k) l[k]! none
@[go_sem]theorem goesZ_0{m:PZ}{l:List Qst}:Jy m l 0=m:=rfl
def goesF(put:List Sgd)(drop:List Qst):PM:=zp (Jy (mapZ put) drop drop.length)
def newB(m:PM)(q:Qst):Bool:=!(ND m q).isSome
def goS(m:PM)(s:Sgd):Option Sgd:=if newB m s.q=true then some s else none
attribute [go_sem] List.filterMap_nil Option.map_some Option.map_none Option.getD_some Option.getD_none Option.isSome_some Option.isSome_none
structure eH where
 kind:Int
 sets:List Sgd
 cut:Str
 deriving Inhabited,DecidableEq
def eH.d(x:eH):List D:=[.i x.kind,.l (x.sets.map Sgd.d),.v (.string (bs x.cut))]
def eH.df(f:Bool)(x:eH):List D:=[.i x.kind,.list f (x.sets.map Sgd.d),.v (.string (bs x.cut))]
abbrev IM:=List (Qst×Int)
def nG(m:IM):List D:=m.flatMap λp=>[.agg p.1.d,.i p.2]
theorem yD(p:Qst×Int)(m:IM):nG (p::m) = .agg p.1.d :: .i p.2::nG m:=rfl
def lD:IM->Qst->Option Int
 | p::m,q=>if p.1=q then some p.2 else lD m q
 | [],_=>none
def yE:IM->Qst->Int->IM
 | p::m,q,s=>if p.1=q then(q,s)::m else p::yE m q s
 | [],q,s=>[(q,s)]
theorem Zcj{m:IM}{q:Qst}:jr (nG m) (.agg q.d)=(lD m q).map λs=>.i s:=by
 induction m with
 | nil=>rfl
 | cons p m ih =>
  rw[yD];simp only[jr,Py,lD]
  by_cases h:p.1=q
  . subst h;simp
  have h2 : ¬q=p.1:=λe=>h e.symm
  simp only[h,h2,decide_false,Ye,Y0,ih]
@[go_sem]theorem kvGet_Ix{m:IM}{n:Str}{t:Int}:jr (nG m) (.agg [.v (.string (bs n)),.i t])=(lD m ⟨n,t⟩).map λs=>.i s:=Zcj (q:=⟨n,t⟩)
theorem Zcg{m:IM}{q:Qst}{s:Int}:jq (nG m) (.agg q.d) (.i s)=nG (yE m q s):=by
 induction m with
 | nil=>rfl
 | cons p m ih =>
  rw[yD];simp only[jq,Py,yE]
  by_cases h:p.1=q
  . rw[XY h,h];simp[yD]
  have h2 : ¬q=p.1:=λe=>h e.symm
  rw[XW h];simp only[h2,decide_false,Ye,Y0,ih,yD]
def l8(l:List Sgd):Nat->IM
 | 0=>[]
 | k+1=>yE (l8 l k) l[k]!.q k
def aC(l:List Sgd)(q:Qst):Int:=(lD (l8 l l.length) q).getD (-1)
theorem Jh{m:IM}{q r:Qst}{s:Int}:lD (yE m q s) r=if q=r then some s else lD m r:=by
 induction m with
 | nil=>simp[yE,lD]
 | cons p m ih =>
  unfold yE
  by_cases h:p.1=q
  .
   rw[XY h];simp only[lD]
   by_cases e:q=r
   . rw[XY e,XY e]
   rw[XW e,XW e,XW (λe2=>e (h▸e2))]
  rw[XW h];simp only[lD,ih]
  by_cases e:p.1=r
  . rw[XY e,XY e,XW (λe2=>h (e.trans e2.symm))]
  rw[XW e,XW e]
theorem D6(l:List Sgd)(q:Qst):∀k,k<=l.length -> ∀i,lD (l8 l k) q=some i -> ∃j:Nat,i=j/\j<k/\l[j]!.q=q
 | 0,_,i,h=>by cases h
 | k+1,hk,i,h=>by
  rw[l8,Jh]at h
  by_cases e:l[k]!.q=q
  . rw[XY e]at h;cases h;exact⟨k,rfl,om,e⟩
  rw[XW e]at h;obtain⟨j,h1,h2,h3⟩:=D6 l q k om i h;exact⟨j,h1,om,h3⟩
theorem H9{l:List Sgd}{q:Qst}(h:0<=aC l q):(aC l q).toNat<l.length/\l[(aC l q).toNat]!.q=q:=by
 unfold aC at h ⊢
 cases e:lD (l8 l l.length) q with
 | none=>rw[e]at h;simp at h
 | some i =>
  obtain⟨j,rfl,h2,h3⟩:=D6 l q _ (X4 _) i e;exact⟨by simpa using h2,by simpa using h3⟩
def jN(l:List Sgd)(q:Qst):aC l q<l.length:=by
 by_cases h:0<=aC l q
 . have:=(H9 h).1;omega
 omega
def eG(a b:Str):Int:=if ah a&&ah b then ig a b else 0
def Bd(p:Nat->Bool)(n:Nat):Nat:=iJ (λk=>if p k then 0 else -1) 0 n
def Du{X i j:Nat}{p:Nat->Bool}(hv:X=iJ (λk=>if p k then 0 else -1) i j)(h:i<j):(p ((i+j) / 2)=false->X=iJ (λk=>if p k then 0 else -1) ((i+j) / 2+1) j)/\(p ((i+j) / 2)=true->X=iJ (λk=>if p k then 0 else -1) i ((i+j) / 2)):=by
 rw[rZ,XY h]at hv
 exact⟨λh2=>by rw[h2,XY (by decide)]at hv;exact hv,λh2=>by rw[h2,XW (by decide)]at hv;exact hv⟩
def nQ(l:List Sgd)(n:Str):Nat:=Bd (λi=>decide (0<=eG l[i]!.set.name n)) l.length
def bZ(l:List Sgd)(n:Str):Bool:=decide (nQ l n<l.length)&&bC l[nQ l n]!.set.name n
def mO(l:List Sgd)(n:Str):Nat:=Bd (λi=>decide (0<eG l[i]!.set.name n)) l.length
def mH(l:List Sgd):Nat->Int
 | 0=>-1
 | k+1=>if l[k]!.set.ty=8 then k else mH l k
def bJ(l:List Sgd)(n:Str):Int:=mH l (mO l n)
theorem Zfd{l:List Sgd}{k:Nat}(h:0<k)(h2:l[k-1]!.set.ty=8):mH l k=(k:Int)-1:=by
 obtain⟨m,rfl⟩:∃m,k=m+1:=⟨k-1,om⟩
 rw[Nat.add_sub_cancel]at h2
 rw[mH,XY h2];omega
theorem Zff{l:List Sgd}{k:Nat}(h:0<k)(h2 : ¬l[k-1]!.set.ty=8):mH l k=mH l (k-1):=by
 obtain⟨m,rfl⟩:∃m,k=m+1:=⟨k-1,om⟩
 rw[Nat.add_sub_cancel]at *
 rw[mH,XW h2]
theorem Bc(p:Nat->Bool)(n:Nat):Bd p n<=n:=by
 have : ∀m i j,j-i<=m->i<=j->iJ (λk=>if p k then(0:Int)else -1) i j<=j:=by
  intro m
  induction m with
  | zero=>intro i j h1 h2;rw[rZ,XW (by omega)];exact h2
  | succ m ih =>
   intro i j h1 h2;rw[rZ]
   by_cases hij:i<j
   .
    rw[XY hij]
    by_cases q:(if p ((i+j) / 2)=true then(0:Int)else -1)<0
    . rw[XY q];exact ih _ _ (by omega) (by omega)
    rw[XW q];exact Yt (ih i ((i+j) / 2) (by omega) (by omega)) (by omega)
   rw[XW hij];exact h2
 exact this n 0 n om (Yl _)
theorem SF(l:List Sgd):∀k, -1<=mH l k/\mH l k<k
 | 0=>by simp[mH]
 | k+1=>by
  have:=SF l k;unfold mH
  split<;>omega
def lK(l:List Sgd)(n:Str):bJ l n<l.length:=by
 have h1:=(SF l (mO l n)).2
 have h2:mO l n<=l.length:=Bc _ _
 unfold bJ
 omega
def gM(ls:List Str):Str×Int :=
 if ls=[]then([46],0)
 else if 8<ls.length then([],11)
 else if aF ls.length (fP ls) 0=false then([],11)
 else if 60<(dB ls).length then([],11)
 else(dB ls,0)
def gJ(n:Str):List Str:=[42]::aM n
def kg(n:Str):Str:=(gM (gJ n)).1
def F6(z:Zon):Nat->Str->Str
 | 0,n=>n
 | f+1,n=>if n=z.apex\/bZ z.sets n=true then n else F6 z f (l9 n)
def gP(z:Zon)(n:Str):Str:=F6 z ((ay n).length+1) n
def KL{z:Zon}{n:Str}(hn:ah n=true)(hu:aI n z.apex)(hne:n≠z.apex)(he:bZ z.sets n=false):gP z n=gP z (fQ n)/\(ay (fQ n)).length<(ay n).length:=by
 obtain⟨hr,_⟩:=uh hn hu hne
 have e:=(nk hn hr).2
 have hl:(ay (fQ n)).length+1=(ay n).length:=by
  rw[e,List.length_dropLast];have:ay n≠[]:=λe2=>hr (qV (by rw[e2];decide))
  have:=YV.2 this;omega
 have hp:l9 n=fQ n:=by unfold l9;rw[hn,YM.2 hr];rfl
 refine⟨?_,om⟩
 unfold gP
 rw[show(ay n).length+1=((ay (fQ n)).length+1)+1 by omega,F6,XW (by rw[he];simp[hne]),hp]
theorem Tn{z:Zon}{n:Str}(h:n=z.apex\/bZ z.sets n=true):gP z n=n:=by
 unfold gP
 rw[F6,XY h]
theorem PD{l:List Str}(h:(gM l).2≠0):(gM l).1=[]:=by
 unfold gM at h ⊢
 repeat' split
 all_goals first|rfl|(simp_all;done)
def jI(ls:List Str):List Str:=List.replicate (8-ls.length) []++ls
theorem zq{ls:List Str}(h:ls.length<=8):(jI ls).length=8:=by simp[jI];omega
def VS{ls:List Str}{a:Str}(h:ls.length<8):(jI ls).set (8-ls.length-1) a=jI (a::ls):=by
 unfold jI
 rw[List.set_append_left _ _ (by simp;omega)]
 obtain⟨m,hm⟩:∃m,8-ls.length=m+1:=⟨8-ls.length-1,om⟩
 rw[hm,Nat.add_sub_cancel,YA,show 8-(ls.length+1)=m by omega,List.replicate_succ',List.set_append_right _ _ (by simp)]
 simp
def Mq{ls:List Str}(h:ls.length<=8):(((jI ls).map sR).take 8).drop (8-ls.length)=ls.map sR:=by
 rw[Yh (by rw[YY,zq h];exact X4 _)]
 unfold jI
 rw[YQ,List.drop_append_of_le_length (by simp),List.drop_of_length_le (by simp),XZ]
def bI(z:Zon)(n:Str):Str:=kg (gP z n)
theorem PW : ∀{l:List Int}{x:Int}{k:Nat},k<l.length->l[k]! = x->(∀i,i<k->l[i]! ≠ x)->l.idxOf x=k
 | [],_,_,h,_,_=>by simp at h
 | y::l,x,0,_,h,_=>by simp at h;subst h;simp
 | y::l,x,k+1,hk,h,hn=>by
  have h0:y≠x:=by simpa using hn 0 (Nat.succ_pos _)
  have:=PW (l:=l) (x:=x) (k:=k) (by simpa using hk) (by simpa using h) (λi hi=>by simpa using hn (i+1) om)
  rw[List.idxOf_cons,YM.2 h0,this];rfl
def uL(l:List Int)(x:Int):Int:=if x∈l then(l.idxOf x:Int)else -1
theorem ZcH{l:List Int}{x:Int}{k:Nat}(hk:k<l.length)(h:l[k]! = x)(hn : ∀i,i<k->l[i]! ≠ x):uL l x=k:=by
 unfold uL
 rw[XY (by rw[<-h,getElem!_pos l k hk];exact Yp hk),PW hk h hn]
theorem ZcI{l:List Int}{x:Int}(hn : ∀i,i<l.length->l[i]! ≠ x):uL l x = -1:=by
 unfold uL
 rw[XW]
 intro h
 obtain⟨i,hi,e⟩:=YN h
 exact hn i hi (by rw[getElem!_pos l i hi];exact e)
theorem ZcJ{l:List Int}{x:Int}:decide (0<=uL l x)=decide (x∈l):=by
 unfold uL
 split
 . rename_i h;simp[h]
 rename_i h;simp[h]
def kF(l:List Sgd)(ps:List Int):Nat->List Sgd
 | 0=>[]
 | k+1=>if ps[k]! < 0\/ps[k]! ∈ ps.take k then kF l ps k else kF l ps k++[l[ps[k]!.toNat]!]
@[go_sem]theorem pickTo_0{l:List Sgd}{ps:List Int}:kF l ps 0=[]:=rfl
theorem Ic{l:List Sgd}{ps:List Int}{k:Nat}(h:ps[k]! < 0\/ps[k]! ∈ ps.take k):kF l ps (k+1)=kF l ps k:=XY h
theorem Ib{l:List Sgd}{ps:List Int}{k:Nat}(h : ¬(ps[k]! < 0\/ps[k]! ∈ ps.take k)):kF l ps (k+1)=kF l ps k++[l[ps[k]!.toNat]!]:=XW h
def dF(l:List Sgd)(ps:List Int):List Sgd:=kF l ps ps.length
theorem Ig(l:List Sgd)(ps:List Int):∀k,(kF l ps k).length<=k
 | 0=>X4 _
 | k+1=>by
  have:=Ig l ps k;unfold kF
  split
  . omega
  simp;omega
theorem Ie(l:List Sgd)(ps:List Int)(hp : ∀i,i<ps.length->ps[i]! < l.length):∀k,k<=ps.length -> ∀s∈kF l ps k,s∈l
 | 0,_,s,h=>by cases h
 | k+1,hk,s,h=>by
  unfold kF at h
  split at h
  . exact Ie l ps hp k om s h
  rename_i hn
  rcases Yo.1 h with h|h
  . exact Ie l ps hp k om s h
  rw[Yd.1 h];have:=hp k om;exact dw om
def EE{l:List Int}{n:Int}(h : ∀x∈l,x<n):∀i,i<l.length->l[i]! < n:=λi hi=>h _ (by rw[getElem!_pos l i hi];exact Yp hi)
def pg(l:List Sgd)(cut:Str)(ds:List Dat):Nat->List Int
 | 0=>[]
 | k+1=>if bC ds[k]!.t cut then pg l cut ds k++[aC l ⟨ds[k]!.t,1⟩]else pg l cut ds k
def ww(l:List Sgd)(c:Str):Int:=if aC l ⟨c,6⟩<0 then aC l ⟨c,8⟩else aC l ⟨c,6⟩
def ZaH(l:List Sgd)(c:Str):ww l c<l.length:=by
 unfold ww
 split<;>exact jN _ _
theorem Zc7{l:List Sgd}{c:Str}{ds:List Dat}{k:Nat}(h:bC ds[k]!.t c=true):pg l c ds (k+1)=pg l c ds k++[aC l ⟨ds[k]!.t,1⟩]:=XY h
theorem Zc8{l:List Sgd}{c:Str}{ds:List Dat}{k:Nat}(h:bC ds[k]!.t c=false):pg l c ds (k+1)=pg l c ds k:=XW (by rw[h];exact Bool.noConfusion)
theorem Qs(l:List Sgd)(c:Str)(ds:List Dat):∀k,(pg l c ds k).length<=k
 | 0=>X4 _
 | k+1=>by
  have:=Qs l c ds k;unfold pg
  split
  . simp;omega
  omega
theorem JA(l:List Sgd)(c:Str)(ds:List Dat):∀k,∀x∈pg l c ds k,x<(l.length:Int)
 | 0,x,h=>by cases h
 | k+1,x,h=>by
  unfold pg at h
  split at h
  .
   rcases Yo.1 h with h|h
   . exact JA l c ds k x h
   rw[Yd.1 h];exact jN _ _
  exact JA l c ds k x h
def jb(l:List Sgd)(cut:Str)(ds:List Dat)(k:Nat):List Int:=[aC l ⟨cut,2⟩,ww l cut]++pg l cut ds k
def pls_0{l:List Sgd}{c:Str}{ds:List Dat}:(jb l c ds 0).map iR=[[.i (aC l ⟨c,2⟩)],[.i (ww l c)]]:=rfl
def pls_l0{l:List Sgd}{c:Str}{ds:List Dat}:(jb l c ds 0).length=2:=rfl
attribute[go_sem]pls_0 pls_l0
def ZaJ{l:List Sgd}{c:Str}{ds:List Dat}{k:Nat}(h:bC ds[k]!.t c=true):jb l c ds (k+1)=jb l c ds k++[aC l ⟨ds[k]!.t,1⟩]:=by
 unfold jb;rw[Zc7 h,YW]
def ZaK{l:List Sgd}{c:Str}{ds:List Dat}{k:Nat}(h:bC ds[k]!.t c=false):jb l c ds (k+1)=jb l c ds k:=by unfold jb;rw[Zc8 h]
def H8(l:List Sgd)(c:Str)(ds:List Dat)(k:Nat):(jb l c ds k).length<=2+k:=by
 have:=Qs l c ds k
 unfold jb
 rw[Yr]
 simp;omega
def H7(l:List Sgd)(c:Str)(ds:List Dat)(k:Nat):∀i,i<(jb l c ds k).length->(jb l c ds k)[i]! < (l.length:Int):=EE λx hx=>by
 unfold jb at hx
 rcases Yo.1 hx with e|e
 .
  rcases Yz.1 e with e|e
  . rw[e];exact jN _ _
  rw[Yd.1 e];exact ZaH _ _
 exact JA _ _ _ _ _ e
def wo(l:List Sgd)(cut:Str):List Int :=
 jb l cut l[(aC l ⟨cut,2⟩).toNat]!.set.data l[(aC l ⟨cut,2⟩).toNat]!.set.data.length
structure Vw where
 z:Zon
 q:Qst
 cut:Str
 beh:Bool
 wc:Str
 deriving Inhabited
def qL(v:Vw):Bool:=!v.beh||(v.q.name==v.cut&&(v.q.ty==6||v.q.ty==8))
def cB(v:Vw)(k:Nat):eH×Bool :=
 let l:=v.z.sets
 let st:=aC l ⟨v.z.apex,4⟩
 match k with
 | 0=>if qL v then(⟨0,[],[]⟩,false)else(⟨4,dF l (wo l v.cut),v.cut⟩,true)
 | 1=>(⟨1,dF l [aC l v.q],[]⟩,decide (0<=aC l v.q))
 | 2=>(⟨3,dF l [aC l ⟨v.q.name,3⟩],[]⟩,decide (0<=aC l ⟨v.q.name,3⟩) && !decide (v.q.ty=8))
 | 3=>if bZ l v.q.name then(⟨5,dF l [st,bJ l v.q.name],[]⟩,true)else(⟨0,[],[]⟩,false)
 | 4=>(⟨2,dF l [aC l ⟨v.wc,v.q.ty⟩,bJ l v.q.name],[]⟩,decide (0<=aC l ⟨v.wc,v.q.ty⟩))
 | 5=>(⟨3,dF l [aC l ⟨v.wc,3⟩,bJ l v.q.name],[]⟩,decide (0<=aC l ⟨v.wc,3⟩) && !decide (v.q.ty=8))
 | _=>if v.wc==[] || !bZ l v.wc then(⟨0,[],[]⟩,false)else(⟨5,dF l [st,bJ l v.q.name,bJ l v.wc],[]⟩,true)
def wP(v:Vw):eH:=⟨6,dF v.z.sets [aC v.z.sets ⟨v.z.apex,4⟩,bJ v.z.sets v.q.name,if v.wc=[]then -1 else bJ v.z.sets v.wc],[]⟩
theorem GL{v:Vw}(h:qL v=true):cB v 0=(⟨0,[],[]⟩,false):=XY h
theorem GM{v:Vw}(h:qL v=false):cB v 0=(⟨4,dF v.z.sets (wo v.z.sets v.cut),v.cut⟩,true):=XW (by rw[h];exact Bool.noConfusion)
theorem Dm{v:Vw}(h:bZ v.z.sets v.q.name=true):cB v 3=(⟨5,dF v.z.sets [aC v.z.sets ⟨v.z.apex,4⟩,bJ v.z.sets v.q.name],[]⟩,true):=XY h
theorem GK{v:Vw}(h:bZ v.z.sets v.q.name=false):cB v 3=(⟨0,[],[]⟩,false):=XW (by rw[h];exact Bool.noConfusion)
theorem GI{v:Vw}(h:(v.wc==[] || !bZ v.z.sets v.wc)=true):cB v 6=(⟨0,[],[]⟩,false):=XY h
theorem GJ{v:Vw}(h:(v.wc==[] || !bZ v.z.sets v.wc)=false):cB v 6=(⟨5,dF v.z.sets [aC v.z.sets ⟨v.z.apex,4⟩,bJ v.z.sets v.q.name,bJ v.z.sets v.wc],[]⟩,true):=XW (by rw[h];exact Bool.noConfusion)
theorem OH{v:Vw}(h:v.wc≠[]):wP v=⟨6,dF v.z.sets [aC v.z.sets ⟨v.z.apex,4⟩,bJ v.z.sets v.q.name,bJ v.z.sets v.wc],[]⟩:=by unfold wP;rw[XW h]
theorem OI{v:Vw}(h:v.wc=[]):wP v=⟨6,dF v.z.sets [aC v.z.sets ⟨v.z.apex,4⟩,bJ v.z.sets v.q.name, -1],[]⟩:=by unfold wP;rw[XY h]
def fF(z:Zon)(q:Qst)(k:Nat):Vw:=⟨z,q,(bE z q.name).1,(bE z q.name).2,if k<=3 then[]else bI z q.name⟩
def iL(z:Zon)(q:Qst):Nat->Nat->eH
 | 0,k=>wP (fF z q k)
 | f+1,k=>if(cB (fF z q k) k).2 then(cB (fF z q k) k).1 else iL z q f (k+1)
theorem wZ{z:Zon}{q:Qst}{k:Nat}(hk:k<7)(h:(cB (fF z q k) k).2=true):iL z q (7-k) k=(cB (fF z q k) k).1:=by
 rw[show 7-k=(6-k)+1 by omega,iL,XY h]
theorem yP{z:Zon}{q:Qst}{k:Nat}(hk:k<7)(h:(cB (fF z q k) k).2=false):iL z q (7-k) k=iL z q (7-(k+1)) (k+1):=by
 rw[show 7-k=(6-k)+1 by omega,iL,XW (by rw[h];exact Bool.noConfusion),show 7-(k+1)=6-k by omega]
theorem Zc6{z:Zon}{q:Qst}:iL z q (7-7) 7=wP (fF z q 7):=rfl
def CX(z:Zon)(q:Qst):eH:=iL z q 7 0
def fK(z:Zon)(q:Qst):eH×Int :=
 if aW q.ty 1 8=false then(⟨0,[],[]⟩,1)
 else if(fZ z q.name).2.2=20 then(⟨7,[],[]⟩,0)
 else if(fZ z q.name).2.2≠0 then(⟨0,[],[]⟩,(fZ z q.name).2.2)
 else(CX z q,0)
def Bi(a b:eH):Bool:=xS a.sets b.sets&&decide (a.kind=b.kind)&&decide (a.cut=b.cut)
def ZiL{kv:List D}:(D.fmap kv).cells=[.fmap kv]:=rfl
def one_fmap{kv:List D}:(D.fmap kv).one=true:=rfl
def cells_mp{r:Nat}:(D.mp r).cells=[.mp r]:=rfl
def one_mp{r:Nat}:(D.mp r).one=true:=rfl
def one_map{o:Option Nat}:(D.v (.map o)).one=true:=rfl
attribute[go_sem]ZiL one_fmap cells_mp one_mp one_map
def De{z:Zon}(h:aN z=true):jf z.sets:=Zaj (by rw[<-Um];exact h)
def leS(a b:Sgd):Bool:=decide (sp a b<=0)
def PT{α:Type}(le:α->α->Bool)(a:α):List α->List α
 | []=>[a]
 | b::l=>if le a b then a::b::l else b::PT le a l
def V3{α:Type}(le:α->α->Bool)(l:List α):List α:=l.foldr (PT le) []
def VZ(l:List Sgd):List Sgd:=V3 leS l
def XD{α:Type}{d:α->List D}{of:List D->α}(hof : ∀x,of (d x)=x){l:List α}{rows:List (List D)}(p:rows.Perm (l.map d)):(rows.map of).map d=rows/\(rows.map of).Perm l:=by
 constructor
 .
  rw[List.map_map]
  conv=>rhs;rw[<-List.map_id rows]
  refine YK λx hx=>?_
  obtain⟨y,_,rfl⟩:=Yi.1 (p.mem_iff.1 hx)
  show d (of (d y))=d y
  rw[hof]
 have:=p.map of
 rwa [qg hof]at this
structure DOk(d:kU):Prop where
 apex:ah d.apex=true
 wild:dD d.apex=false
 frm:DC d.frm=true
 too:DC d.too=true
 bef:TN d.frm d.too=true
 dlen:d.drop.length<=20000
 plen:d.put.length<=20000
 iU : ∀q∈d.drop,eO q=true
 dord:sj qp d.drop
 pok : ∀s∈d.put,xE s.set
 pord:Ord d.put
 apart : ∀s∈d.put,s.q ∉ d.drop
def Mh(z:Zon)(d:kU):List Sgd:=z.sets.filterMap (goS (goesF d.put d.drop))
def BH(z:Zon)(d:kU):Zon:=⟨z.apex,VZ (Mh z d++d.put)⟩
def TR(z:Zon)(d:kU):Zon×Int :=
 if aN z=false\/R4 d=false\/z.apex≠d.apex then(xK,1)else if uq z≠d.frm then(xK,23)else
 if 20000<(Mh z d).length+d.put.length then(xK,2)else
 if aN (BH z d)=false\/uq (BH z d)≠d.too then(xK,35)else(BH z d,0)
end Go.Zon
namespace Go.Zon
open Go.DL Go.Str Go.Rec Go.Cmp
def ZgI:xK.apex=[]:=rfl
def ZgH:xK.sets=[]:=rfl
attribute[go_sem]ZgI ZgH
section
variable {a b : Zon}
end
structure AOk(z:Zon)(d:kU):Prop where
 zok:aN z=true
 iU:R4 d=true
 apex:z.apex=d.apex
 frm:uq z=d.frm
 new:aN (BH z d)=true
 too:uq (BH z d)=d.too
end Go.Zon
namespace Go.Jn
open Go.DL Go.Str Go.Rec Go.Cmp Go.Zon
structure AX where
 safe:Str
 pend:List Str
 deriving Inhabited,DecidableEq
def byR(s:Str):List D:=[.l (s.map bD)]
def ofBy:List D->Str
 | [x]=>AJ x
 | _=>[]
def AX.d(x:AX):List D:=[.l (x.safe.map bD),.l (x.pend.map byR)]
def AX.of:List D->AX
 | [x,.list _ rows]=>⟨AJ x,rows.map ofBy⟩
 | _=>default
def eZ(d:Nat)(c:UInt8):Nat:=((d ^^^ c.toNat)*1099511628211) % 18446744073709551616
def yZ:Nat:=14695981039346656037
def dig(l:Str):Nat:=l.foldl eZ yZ
def jc(k:Int)(st:RS):Nat×RS:=(Oz (qY k st).1,(qY k st).2)
def wI(st:RS):Str×RS:=qY (jc 1 st).1 (jc 1 st).2
def NL(st:RS):RSig×RS :=
 let z:=wI st
 let a:=jc 8 z.2
 let b:=jc 8 a.2
 let c:=jc 8 b.2
 let e:=jc 8 c.2
 let s:=jc 8 e.2
 (⟨z.1,sN a.1,sN b.1,sN c.1,sN e.1,s.1⟩,s.2)
def NK:Nat->List RSig->RS->List RSig×RS
 | 0,out,st=>(out,st)
 | k+1,out,st=>if st.2 then(out,st)else NK k (out++[(NL st).1]) (NL st).2
def Ec(st:RS):Str×RS:=qY (jc 2 st).1 (jc 2 st).2
def pSet2(st:RS):RSet×RS:=((Nc (Ec st).1).1,if(Nc (Ec st).1).2=0 then(Ec st).2 else((Ec st).2.1,true))
def NN(st:RS):Sgd×RS :=
 let s:=pSet2 st
 let n:=jc 1 s.2
 let g:=NK n.1 [] n.2
 (⟨s.1,g.1⟩,g.2)
def NM:Nat->List Sgd->RS->List Sgd×RS
 | 0,out,st=>(out,st)
 | k+1,out,st=>if st.2 then(out,st)else NM k (out++[(NN st).1]) (NN st).2
def Ii(st:RS):List Sgd×RS:=NM (jc 4 st).1 [] (jc 4 st).2
def NJ(st:RS):Zon×RS:=(⟨(wI st).1,(Ii (wI st).2).1⟩,(Ii (wI st).2).2)
def NQ(st:RS):Qst×RS:=(⟨(wI st).1,sN (jc 1 (wI st).2).1⟩,(jc 1 (wI st).2).2)
def NP:Nat->List Qst->RS->List Qst×RS
 | 0,out,st=>(out,st)
 | k+1,out,st=>if st.2 then(out,st)else NP k (out++[(NQ st).1]) (NQ st).2
def NR(st:RS):kU×RS :=
 let a:=wI st
 let f:=jc 8 a.2
 let t:=jc 8 f.2
 let n:=jc 4 t.2
 let q:=NP n.1 [] n.2
 let p:=Ii q.2
 (⟨a.1,sN f.1,sN t.1,q.1,p.1⟩,p.2)
def Ol(st:RS):Bool:=st.2||decide (0<st.1.length)
def readZ(w:Str):Option Zon:=if Ol (NJ (w,false)).2 then none else some (NJ (w,false)).1
def readD(w:Str):Option kU:=if Ol (NR (w,false)).2 then none else some (NR (w,false)).1
def fst1(k:Nat)(b:Str):Nat×Str :=
 if b.length<13\/(b.getD 0 0).toNat≠k then(0,[])else
 let n:=jc 4 (b.drop 1,false)
 let h:=jc 8 n.2
 let w:=qY n.1 h.2
 let t:=jc 8 w.2
 if t.2.2=true\/h.1≠dig (b.take 5)\/t.1≠dig w.1 then(0,[])else(13+n.1+8,w.1)
def Me(b:Str):Option (Zon×Nat) :=
 if(fst1 1 b).1=0 then none else
 match readZ (fst1 1 b).2 with
 | none=>none
 | some z=>if aN z then some (z,(fst1 1 b).1)else none
def Dt(z:Zon)(b:Str):Option (Zon×Nat) :=
 if(fst1 2 b).1=0 then none else
 match readD (fst1 2 b).2 with
 | none=>none
 | some d=>if(TR z d).2=0 then some ((TR z d).1,(fst1 2 b).1)else none
def Zdg(k:Nat)(b:Str)(h:(fst1 k b).1≠0):21<=(fst1 k b).1/\13<=b.length:=by
 unfold fst1 at h ⊢
 split
 . rename_i q;rw[XY q]at h;exact absurd rfl h
 rename_i q
 rw[XW q]at h
 simp only at h ⊢
 split
 . rename_i r;rw[XY r]at h;exact absurd rfl h
 rename_i r;exact⟨by show 21<=13+_+8;omega,om⟩
def Vr{z:Zon}{b:Str}{y:Zon}{n:Nat}(h:Dt z b=some (y,n)):0<n/\0<b.length:=by
 unfold Dt at h
 split at h
 . cases h
 rename_i q
 obtain⟨h1,h2⟩:=Zdg 2 b q
 split at h
 . cases h
 split at h
 . simp only[XU,Yu]at h;omega
 cases h
def more(z:Zon)(b:Str):List (Zon×Nat) :=
 match _h:Dt z b with
 | none=>[]
 | some (y,n)=>(y,n)::more y (b.drop n)
termination_by b.length
decreasing_by
 have:=Vr _h
 rw[Zj]
 omega
def frs(b:Str):List (Zon×Nat):=match Me b with
 | none=>[]
 | some (y,n)=>(y,n)::more y (b.drop n)
def sumL(l:List (Zon×Nat)):Nat:=(l.map (·.2)).sum
def NG(b:Str):Str:=b.take (sumL (frs b))
abbrev pO:=Option Zon
def pO.d(c:pO):List D:=.b c.isSome::(c.getD xK).d
def pO.of:List D->pO
 | [.v (.bool b),.v (.string s),.list _ rows]=>if b then some ⟨s.data.toList,rows.map Sgd.of⟩else none
 | _=>none
def Vt(c:pO)(b:Str):Option (Zon×Nat):=match c with
 | none=>Me b
 | some z=>Dt z b
def nextF(c:pO)(b:Str):pO×Nat:=match Vt c b with
 | none=>(c,0)
 | some (y,n)=>(some y,n)
def Lu(b:Str):pO:=(frs b).getLast?.map (·.1)
structure Opn where
 whole:Str
 size:Int
 saved:pO
 all:pO
 deriving Inhabited
def NE(c:pO):List Str->Option pO
 | []=>some c
 | p::l=>if(nextF c p).2≠0/\(nextF c p).2=p.length then NE (nextF c p).1 l else none
def Tx(l:List Str):Str:=l.flatten
def openF(d:AX):Option Opn :=
 if 1000000<d.safe.length\/200<d.pend.length then none else
 match NE (Lu d.safe) d.pend with
 | none=>none
 | some c=>some ⟨NG d.safe,(NG d.safe).length+(Tx d.pend).length,Lu d.safe,c⟩
def allR(d:AX):Option Str:=(openF d).map λo=>o.whole++Tx d.pend
end Go.Jn
namespace Go.Zon
open Go.DL Go.Str Go.Rec Go.Cmp
structure aD where
 n:Int
 a:Int
 deriving Inhabited,DecidableEq
def aD.d(k:aD):List D:=[.i k.n,.i k.a]
def vU(k:aD):Bool:=aW k.n 1 1000000&&aW k.a 1 3
def pQ(f u:Int):Bool:=decide (0<=f)&&decide (f<=u)&&decide (u<=20000000)
def zo(b zn:Str)(k:aD)(f u:Int):Nat:=Go.Jn.dig (b++nE zn.length::zn++dI k.n++dI k.a++dI f++dI u)
def G9:RSig:=⟨[],0,0,0,0,0⟩
def xQ(s:RSet)(zn:Str)(k:aD)(f u:Int):Bool:=vU k&&pQ f u&&ah zn && !dD zn&&decide ((nV s).2=0)&&bC s.name zn
def MC(s:RSet)(zn:Str)(k:aD)(f u:Int):RSig:=⟨zn,k.n,k.a,f,u,(zo (nV s).1 zn k f u:Int)⟩
def gF(s:RSet)(zn:Str)(k:aD)(f u:Int):RSig×Int:=if xQ s zn k f u then(MC s zn k f u,0)else(G9,1)
def ZfF(s:RSet)(g:RSig)(k:aD):Bool:=decide ((gF s g.zone k g.frm g.unt).2=0)&&decide ((gF s g.zone k g.frm g.unt).1=g)
def Hd(z:Zon)(ks:List aD)(f u:Int)(i:Nat):Sgd:=⟨z.sets[i]!.set,if jO (aO z) i=true then ks.map λk=>(gF z.sets[i]!.set z.apex k f u).1 else[]⟩
def Ha(z:Zon)(ks:List aD)(f u:Int):Nat->List Sgd
 | 0=>[]
 | i+1=>Ha z ks f u i++[Hd z ks f u i]
def zB(z:Zon)(ks:List aD)(f u:Int):Zon:=⟨z.apex,Ha z ks f u z.sets.length⟩
section
variable {z y : Zon} (ha : y.apex = z.apex) (hl : y.sets.length = z.sets.length) (hs : ∀i : Nat, y.sets[i]!.set = z.sets[i]!.set)
include hs in
include ha hl hs in
include hl hs in
include ha hl hs in
include ha hs in
include hs in
include ha hl hs in
include hl hs in
include ha hl hs in
end
end Go.Zon
namespace Go.Zon
open Go.DL Go.Str Go.Rec Go.Cmp
def aX(l:List Sgd):List Sgd:=l.filter λs=>!decide (s.set.ty=8)
def mW(l:List Sgd)(k:Nat):List Sgd:=aX (l.take k)
@[go_sem]theorem siftTo_0{l:List Sgd}:mW l 0=[]:=rfl
theorem Ws(l:List Sgd):mW l l.length=aX l:=by unfold mW;rw[Zq]
def Wq(l:List Sgd)(k:Nat):(mW l k).length<=k:=by
 unfold mW aX
 exact Yt (List.length_filter_le _ _) (by rw[Y7];omega)
theorem ME{l:List Sgd}{k:Nat}(hk:k<l.length):mW l (k+1)=mW l k++aX [l[k]!]:=by
 unfold mW aX
 rw[zm! hk,List.filter_append]
def Wm{l:List Sgd}{k:Nat}(hk:k<l.length)(h : ¬l[k]!.set.ty=8):mW l (k+1)=mW l k++[l[k]!]:=by rw[ME hk];simp[aX,h, -List.getElem!_eq_getElem?_getD]
def Wn{l:List Sgd}{k:Nat}(hk:k<l.length)(h:l[k]!.set.ty=8):mW l (k+1)=mW l k:=by rw[ME hk];simp[aX,h, -List.getElem!_eq_getElem?_getD]
def bB(l:List Sgd)(nx:List RSet):Nat->List Sgd×Nat
 | 0=>([],0)
 | k+1 =>
  if k+1<l.length/\l[k+1]!.set.name=l[k]!.set.name then((bB l nx k).1++[l[k]!],(bB l nx k).2)
  else if(bB l nx k).2<nx.length/\nx[(bB l nx k).2]!.name=l[k]!.set.name then((bB l nx k).1++[l[k]!]++[⟨nx[(bB l nx k).2]!,[]⟩],(bB l nx k).2+1)
  else((bB l nx k).1++[l[k]!],(bB l nx k).2)
def Ga(l:List Sgd)(nx:List RSet):List Sgd:=(bB l nx l.length).1
@[go_sem]theorem chnTo_0{l:List Sgd}{nx:List RSet}:bB l nx 0=([],0):=rfl
theorem CR{l:List Sgd}{nx:List RSet}{k:Nat}(h:k+1<l.length/\l[k+1]!.set.name=l[k]!.set.name):bB l nx (k+1)=((bB l nx k).1++[l[k]!],(bB l nx k).2):=XY h
theorem F9{l:List Sgd}{nx:List RSet}{k:Nat}(h : ¬(k+1<l.length/\l[k+1]!.set.name=l[k]!.set.name))(h2:(bB l nx k).2<nx.length/\nx[(bB l nx k).2]!.name=l[k]!.set.name):bB l nx (k+1)=((bB l nx k).1++[l[k]!]++[⟨nx[(bB l nx k).2]!,[]⟩],(bB l nx k).2+1):=by rw[bB,XW h,XY h2]
theorem F8{l:List Sgd}{nx:List RSet}{k:Nat}(h : ¬(k+1<l.length/\l[k+1]!.set.name=l[k]!.set.name))(h2 : ¬((bB l nx k).2<nx.length/\nx[(bB l nx k).2]!.name=l[k]!.set.name)):bB l nx (k+1)=((bB l nx k).1++[l[k]!],(bB l nx k).2):=by rw[bB,XW h,XW h2]
theorem KN(l:List Sgd)(nx:List RSet):∀k,(bB l nx k).1.length=k+(bB l nx k).2/\(bB l nx k).2<=nx.length
 | 0=>⟨rfl,Yl _⟩
 | k+1=>by
  have:=KN l nx k;unfold bB
  split
  . simp;omega
  split
  . simp;omega
  simp;omega
def eH.of:List D->eH
 | [.v (.int _ k),.list _ rows,.v (.string c)]=>⟨k,rows.map Sgd.of,c.data.toList⟩
 | _=>default
def za:D->eH:=vE eH.of default
def aD.of:List D->aD
 | [.v (.int _ a),.v (.int _ b)]=>⟨a,b⟩
 | _=>default
def oq:D->aD:=vE aD.of default
def xO:D->List aD:=zX aD.of
attribute [go_sem] eH.d eH.df aD.d
theorem Ir(x:aD):aD.of x.d=x:=rfl
def ans1_agg{k:IntKind}{n:Int}{f:Bool}{rows:List (List D)}{c:ByteArray}:za (.agg [.v (.int k n),.list f rows,.v (.string c)])=⟨n,lX (.list f rows),c.data.toList⟩:=rfl
def ans_eta{x:eH}:(⟨x.kind,x.sets,x.cut⟩:eH)=x:=rfl
def Zg7{k k':IntKind}{a b:Int}:oq (.agg [.v (.int k a),.v (.int k' b)])=⟨a,b⟩:=rfl
def skey_eta{x:aD}:(⟨x.n,x.a⟩:aD)=x:=rfl
attribute[go_sem]ans1_agg ans_eta Zg7 skey_eta
@[go_sem]theorem Zg6{f:Bool}{l:List aD}:xO (.list f (l.map aD.d))=l:=qg Ir l
def Fb{l:List aD}{n:Nat}(h:n<l.length):(l.map aD.d).getD n []=[.i l[n]!.n,.i l[n]!.a]:=by
 simp[List.getD,h,aD.d,getElem!_pos]
@[go_sem]theorem Zbj{l:List aD}:bg (l.map aD.d)=true:=by
 induction l with
 | nil=>rfl
 | cons x l ih=>simp only[X9,bg,ih,aD.d,bV,D.nr];rfl
@[go_sem]theorem wkr_skey{l:List aD}:dK (l.map aD.d)=l.map aD.d:=by
 induction l with
 | nil=>rfl
 | cons x l ih=>simp only[X9,dK,ih,aD.d,wk,dV]
@[go_sem]theorem all_skey{l:List aD}:(∀r∈l.map aD.d,r.length=2)=True:=by
 apply eq_true
 intro r hr
 obtain⟨x,_,rfl⟩:=Yi.1 hr
 rfl
def ZiF{x:List D}{h:H}:qz h (.eptr x) = .eptr x:=rfl
def ZiA{x:List D}{h:H}:pE h (.eptr x)=True:=rfl
attribute[go_sem]ZiF ZiA
@[go_sem]theorem UE{l:List Int}:dK (l.map iR)=l.map iR:=by
 induction l with
 | nil=>rfl
 | cons x l ih=>simp only[X9,dK,ih,iR,wk,dV]
@[go_sem]theorem all_iR{l:List Int}:(∀r∈l.map iR,r.length=1)=True:=by
 apply eq_true
 intro r hr
 obtain⟨x,_,rfl⟩:=Yi.1 hr
 rfl
def Vw.d(v:Vw):List D:=[.v (.string (bs v.z.apex)),.l (v.z.sets.map Sgd.d),.fmap (nG (l8 v.z.sets v.z.sets.length)),.v (.string (bs v.q.name)),.i v.q.ty,.v (.string (bs v.cut)),.b v.beh,.v (.string (bs v.wc))]
def Vw.of:List D->Vw
 | [.v (.string a),.list _ rows,_,.v (.string s),.v (.int _ t),.v (.string c),.v (.bool b),.v (.string w)]=>⟨⟨a.data.toList,rows.map Sgd.of⟩,⟨s.data.toList,t⟩,c.data.toList,b,w.data.toList⟩
 | _=>default
def iM:D->Vw
 | .eptr cs=>Vw.of cs
 | _=>default
attribute [go_sem] Vw.d
def vw1_e{a s c w:ByteArray}{f b:Bool}{rows:List (List D)}{x:D}{k:IntKind}{t:Int}:iM (.eptr [.v (.string a),.list f rows,x,.v (.string s),.v (.int k t),.v (.string c),.v (.bool b),.v (.string w)])=⟨⟨a.data.toList,lX (.list f rows)⟩,⟨s.data.toList,t⟩,c.data.toList,b,w.data.toList⟩:=rfl
def vw_eta{x:Vw}:(⟨x.z,x.q,x.cut,x.beh,x.wc⟩:Vw)=x:=rfl
attribute[go_sem]vw1_e vw_eta
def uf:D->Vw
 | .eptr [x]=>iM x
 | _=>default
def uk:D->Str
 | .eptr [x]=>ai x
 | _=>[]
def vwc1_e{x:D}:uf (.eptr [x])=iM x:=rfl
def strc1_e{x:D}:uk (.eptr [x])=ai x:=rfl
attribute[go_sem]vwc1_e strc1_e
@[go_sem]theorem Zbh{m:IM}:bV (nG m)=true:=by
 induction m with
 | nil=>rfl
 | cons p m ih=>rw[yD];simp only[bV,ih,D.nr,Qst.d,ZQ]
@[go_sem]theorem wks_kvIx{m:IM}:dV (nG m)=nG m:=by
 induction m with
 | nil=>rfl
 | cons p m ih=>rw[yD];simp only[dV,wk,ih,Qst.d]
def Zch{l:List Sgd}{k:Nat}:jq (nG (l8 l k)) (.agg [.v (.string (bs l[k]!.set.name)),.i l[k]!.set.ty]) (.i (k:Int))=nG (l8 l (k+1)):=Zcg (q:=l[k]!.q)
theorem Nw(l:List Sgd)(j:Nat):∀k,j<k -> ∃i,lD (l8 l k) l[j]!.q=some i
 | 0,h=>by omega
 | k+1,h=>by
  rw[l8,Jh]
  by_cases e:l[k]!.q=l[j]!.q
  . exact⟨_,XY e⟩
  rw[XW e];exact Nw l j k (by rcases Nat.lt_succ_iff_lt_or_eq.1 h with h|h;exact h;subst h;exact absurd rfl e)
def ZaP{l:List Sgd}{j:Nat}(h:j<l.length):0<=aC l l[j]!.q:=by
 obtain⟨i,hi⟩:=Nw l j l.length h
 obtain⟨m,rfl,_,_⟩:=D6 l _ _ (X4 _) i hi
 unfold aC
 rw[hi]
 exact Int.natCast_nonneg m
def ZaO{l:List Sgd}{s:Sgd}(h:s∈l):0<=aC l s.q:=by
 obtain⟨i,hi,rfl⟩:=fw.1 h
 exact ZaP hi
def ZaQ{z:Zon}{q:Qst}(hz:aN z=true)(hq:ah q.name=true)(h:eX z.sets q=true):0<=aC z.sets q:=by
 have oz:j6 z:=zJ.1 (by unfold aN at hz;simp only[XT]at hz;exact hz.1.1.1.1.1)
 have e1:=Cv oz.ord oz.nms (q:=q) hq
 rw[XY h]at e1
 obtain⟨hm,e⟩:=IR e1
 have:=ZaO hm
 rwa [e]at this
abbrev TM:=List (Str×Int)
def rF(m:TM):List D:=m.flatMap λp=>[.v (.string (bs p.1)),.i p.2]
theorem yC(p:Str×Int)(m:TM):rF (p::m) = .v (.string (bs p.1)) :: .i p.2::rF m:=rfl
@[go_sem]theorem kvN_nil:rF []=[]:=rfl
def gL:TM->Str->Int
 | p::m,n=>if p.1=n then p.2 else gL m n
 | [],_=>0
def uE:TM->Str->Int->TM
 | p::m,n,v=>if p.1=n then(n,v)::m else p::uE m n v
 | [],n,v=>[(n,v)]
theorem Pw{a b:Str}:jS (.v (.string (bs a))) (.v (.string (bs b)))=decide (a=b):=by
 rw[YS]
 simp[jS,lI,kR]
@[go_sem]theorem kvGetD_N{m:TM}{n:Str}:(jr (rF m) (.v (.string (bs n)))).getD (.v (.int .i64 0)) = .v (.int .i64 (gL m n)):=by
 induction m with
 | nil=>rfl
 | cons p m ih =>
  rw[yC];simp only[jr,Pw,gL]
  by_cases h:p.1=n
  . subst h;simp
  .
   have h2 : ¬n=p.1:=λe=>h e.symm
   simp only[h,h2,decide_false,Ye,Y0];exact ih
@[go_sem]theorem kvSet_N{m:TM}{n:Str}{v:Int}:jq (rF m) (.v (.string (bs n))) (.v (.int .i64 v))=rF (uE m n v):=by
 induction m with
 | nil=>rfl
 | cons p m ih =>
  rw[yC];simp only[jq,Pw,uE]
  by_cases h:p.1=n
  . rw[XY h];simp[yC,h]
  .
   have h2 : ¬n=p.1:=λe=>h e.symm
   rw[XW h];simp only[h2,decide_false,Ye,Y0,ih,yC]
@[go_sem]theorem Zbg{m:TM}:bV (rF m)=true:=by
 induction m with
 | nil=>rfl
 | cons p m ih=>rw[yC];simp only[bV,ih,D.nr,ZQ]
@[go_sem]theorem wks_kvN{m:TM}:dV (rF m)=rF m:=by
 induction m with
 | nil=>rfl
 | cons p m ih=>rw[yC];simp only[dV,wk,ih]
def xw : ∃f:(IntKind->Int->Int->Int)×(IntKind->Int->Int->Int)×(IntKind->Int->Int->Int)×(Int->Int),(∀k a b,f.1 k a b=wL k a b)/\(∀k a b,f.2.1 k a b=zb k a b)/\(∀k a b,f.2.2.1 k a b=CZ k a b) /\ ∀t,f.2.2.2 t=IntKind.i64.wrap (1*2^(min t.toNat 64)) :=
 ⟨(wL,zb,CZ,λt=>IntKind.i64.wrap (1*2^(min t.toNat 64))),λ_ _ _=>rfl,λ_ _ _=>rfl,λ_ _ _=>rfl,λ_=>rfl⟩
noncomputable def qa:IntKind->Int->Int->Int:=(Classical.choose xw).1
noncomputable def xB:IntKind->Int->Int->Int:=(Classical.choose xw).2.1
noncomputable def CY:IntKind->Int->Int->Int:=(Classical.choose xw).2.2.1
noncomputable def xy:Int->Int:=(Classical.choose xw).2.2.2
theorem Ef(k:IntKind)(a b:Int):qa k a b=wL k a b:=(Zd xw).1 k a b
theorem KZ(k:IntKind)(a b:Int):xB k a b=zb k a b:=(Zd xw).2.1 k a b
theorem K5(k:IntKind)(a b:Int):CY k a b=CZ k a b:=(Zd xw).2.2.1 k a b
theorem KS(t:Int):xy t=IntKind.i64.wrap (1*2^(min t.toNat 64)):=(Zd xw).2.2.2 t
noncomputable def lU(l:List Sgd):Nat->TM
 | 0=>[]
 | k+1=>uE (lU l k) l[k]!.set.name (qa .i64 (gL (lU l k) l[k]!.set.name) (xy l[k]!.set.ty))
@[go_sem]theorem typTo_0{l:List Sgd}:lU l 0=[]:=rfl
def sP(l:List Sgd):Nat->Int
 | 0=>0
 | k+1=>if l[k]!.set.ty=4 then l[k]!.set.data[0]!.m else sP l k
noncomputable def nP(a:Str)(t:TM)(n:Str):Int :=
 if n≠a/\xB .i64 (qa .i64 (gL t n) 256) 4≠0 then CY .i64 (qa .i64 (gL t n) 256) 2 else qa .i64 (gL t n) 256
noncomputable def aY(z:Zon)(ns:List Str)(i:Nat):RSet:=⟨ns[i]!,8,sP z.sets z.sets.length,[⟨ns[(i+1) % ns.length]!,nP z.apex (lU z.sets z.sets.length) ns[i]!,0⟩]⟩
noncomputable def nextF(z:Zon)(ns:List Str):List RSet:=(List.range ns.length).map (aY z ns)
theorem LM{l:List Sgd}{k:Nat}:uE (lU l k) l[k]!.set.name (qa .i64 (gL (lU l k) l[k]!.set.name) (xy l[k]!.set.ty))=lU l (k+1):=rfl
@[go_sem]theorem lifeTo_0{l:List Sgd}:sP l 0=0:=rfl
def Zb0{l:List Sgd}{k:Nat}(h:l[k]!.set.ty=4):sP l (k+1)=l[k]!.set.data[0]!.m:=XY h
def Zb1{l:List Sgd}{k:Nat}(h : ¬l[k]!.set.ty=4):sP l (k+1)=sP l k:=XW h
noncomputable def zM(z:Zon)(ns:List Str)(k i:Nat):List D :=
 if i<k then[.v (.string (bs ns[i]!)),.i 8,.i (sP z.sets z.sets.length),.list true [[.v (.string (bs ns[(i+1) % ns.length]!)),.i (nP z.apex (lU z.sets z.sets.length) ns[i]!),.i 0]]]
 else[.v (.string (bs [])),.i 0,.i 0,.e]
noncomputable def mg(z:Zon)(ns:List Str)(k:Nat):List (List D):=(List.range ns.length).map (zM z ns k)
theorem Bz(z:Zon)(ns:List Str)(k:Nat):(mg z ns k).length=ns.length:=by simp[mg]
def nx_0(z:Zon)(ns:List Str):List.replicate ns.length [D.v (.string (bs [])),.v (.int .i64 0),.v (.int .i64 0),.e]=mg z ns 0:=by
 unfold mg
 refine List.ext_getElem (by simp) λi h1 h2=>?_
 simp[zM]
def Zbb{z:Zon}{ns:List Str}{k:Nat}(h:k<ns.length):(mg z ns k).getD k []=[.v (.string (bs [])),.i 0,.i 0,.e]:=by
 unfold mg
 simp[List.getD,h,zM]
def Ou{z:Zon}{ns:List Str}{k j:Nat}(h:k<ns.length)(hj:j=(k+1) % ns.length){t:Int}(ht:t=nP z.apex (lU z.sets z.sets.length) ns[k]!):(mg z ns k).set k [.v (.string (bs ns[k]!)),.v (.int .i64 8),.v (.int .i64 (sP z.sets z.sets.length)),.list true [[.v (.string (bs ns[j]!)),.v (.int .i64 t),.v (.int .i64 0)]]]=mg z ns (k+1):=by
 subst ht
 subst hj
 unfold mg
 refine List.ext_getElem (by simp) λi h1 h2=>?_
 rw[List.getElem_set]
 simp only[List.getElem_map,List.getElem_range]
 unfold zM
 by_cases e:k=i
 . subst e;rw[XY rfl,XY (Nat.lt_succ_self _)]
 rw[XW e]
 by_cases e2:i<k
 . rw[XY e2,XY (Nat.lt_succ_of_lt e2)]
 rw[XW e2,XW (by omega)]
theorem Ov(z:Zon)(ns:List Str)(k:Nat):bg (mg z ns k)=true:=by
 unfold mg
 generalize List.range ns.length=L
 induction L with
 | nil=>rfl
 | cons i L ih =>
  simp only[X9,bg,ih,Bool.and_true];unfold zM
  split<;>simp[bV,D.nr,bg]
theorem Zbc(z:Zon)(ns:List Str):dK (mg z ns ns.length)=(nextF z ns).map RSet.d:=by
 unfold mg nextF
 rw[A7,List.map_map,List.map_map]
 refine YK λi hi=>?_
 have hi2:i<ns.length:=Y2.1 hi
 simp only[Function.comp_apply,zM]
 rw[XY hi2]
 rfl
def ZcV{a n:Str}{t:TM}(h:n≠a/\xB .i64 (qa .i64 (gL t n) 256) 4≠0):CY .i64 (qa .i64 (gL t n) 256) 2=nP a t n:=(XY h).symm
def ZcW{a n:Str}{t:TM}(h:n=a\/xB .i64 (qa .i64 (gL t n) 256) 4=0):qa .i64 (gL t n) 256=nP a t n:=(XW (by rintro⟨h1,h2⟩;exact h.elim h1 h2)).symm
def Ul{z:Zon}(hz:aN z=true){i:Nat}(hi:i<z.sets.length):xE z.sets[i]!.set:=by
 refine(iB _).1 ?_
 have h1:ordered z=true:=by unfold aN at hz;simp only[XT]at hz;exact hz.1.1.1.1.1
 unfold ordered at h1
 simp only[XT]at h1
 have h2:=(fe _ _ _).1 h1.2 i (Yl _) hi
 unfold kH at h2
 simp only[XT]at h2
 exact h2.1.1
def plainOf(z:Zon):Zon:=⟨z.apex,aX z.sets⟩
noncomputable def dW(z:Zon):Zon×Int :=
 if aN z=false then(⟨[],[]⟩,1)
 else if aN (plainOf z)=false then(⟨[],[]⟩,1)
 else if 20000<(plainOf z).sets.length+(aT (plainOf z)).length then(⟨[],[]⟩,2)
 else(⟨z.apex,Ga (plainOf z).sets (nextF (plainOf z) (aT (plainOf z)))⟩,0)
def eB(ks:List aD):List aD:=ks.mergeSort λa b=>decide (a.n<=b.n)
def rX(ks:List aD):Bool:=!decide (ks.map aD.n).Nodup
def G7(ks:List aD):(eB ks).Perm ks:=List.mergeSort_perm _ _
def V4(ks:List aD):(eB ks).Pairwise λa b=>a.n<=b.n:=by
 have:=List.pairwise_mergeSort (le:=λa b:aD=>decide (a.n<=b.n)) (λa b c h1 h2=>by simp at *;omega) (λa b=>by simp;omega) ks
 exact this.imp λh=>by simpa using h
theorem VV{ks l:List aD}(hp:l.Perm ks)(hs:l.Pairwise λa b=>a.n<=b.n)(hd:rX ks=false):l=eB ks:=by
 have hn:(ks.map aD.n).Nodup:=by simpa[rX]using hd
 have hm : ∀a b:aD,a∈ks->b∈ks->a.n<=b.n->b.n<=a.n->a=b:=by
  intro a b ha hb h1 h2;have e:a.n=b.n:=by omega
  clear hp hs hd h1 h2
  induction ks with
  | nil=>cases ha
  | cons x ks ih =>
   rw[X9,List.nodup_cons]at hn
   rcases Yz.1 ha with e1|ha2
   .
    rcases Yz.1 hb with e2|hb2
    . rw[e1,e2]
    exact absurd (e1▸e▸List.mem_map_of_mem hb2) hn.1
   rcases Yz.1 hb with e2|hb2
   . exact absurd (e2▸e▸List.mem_map_of_mem ha2) hn.1
   exact ih hn.2 ha2 hb2
 exact List.Perm.eq_of_pairwise (λa b ha hb h1 h2=>hm a b (hp.mem_iff.1 ha) ((G7 ks).mem_iff.1 hb) h1 h2) hs (V4 ks) (hp.trans (G7 ks).symm)
def ou(z:Zon)(ks:List aD)(f u:Int)(i:Nat):Bool:=!jO (aO z) i||ks.all λk=>decide ((gF z.sets[i]!.set z.apex k f u).2=0)
def allR(z:Zon)(ks:List aD)(f u:Int):Zon×Int :=
 if ks.length<1\/6<ks.length\/pQ f u=false\/aN z=false then(⟨[],[]⟩,1)
 else if ks.all vU=false then(⟨[],[]⟩,1)
 else if rX ks=true then(⟨[],[]⟩,5)
 else if aF z.sets.length (ou z (eB ks) f u) 0=false then(⟨[],[]⟩,1)
 else(zB z (eB ks) f u,0)
def BL{a n:Int}(h:a<n):∀i,i<[a].length->[a][i]! < n:=EE λx hx=>by rw[Yd.1 hx];exact h
def yx{a b n:Int}(h:a<n)(k:b<n):∀i,i<[a,b].length->[a,b][i]! < n:=EE λx hx=>by
 rcases Yz.1 hx with e|e
 . rw[e];exact h
 rw[Yd.1 e];exact k
def yw{a b c n:Int}(h:a<n)(k:b<n)(m:c<n):∀i,i<[a,b,c].length->[a,b,c][i]! < n:=EE λx hx=>by
 rcases Yz.1 hx with e|e
 . rw[e];exact h
 rcases Yz.1 e with e|e
 . rw[e];exact k
 rw[Yd.1 e];exact m
@[go_sem]theorem ZhT{f:Bool}{l:List Int}{k:Nat}:nN (.list f ((l.map iR).take k))=l.take k:=by rw[<-Z7];exact Zcx
@[go_sem]theorem ZgL{l:List Int}{k:Nat}:dK ((l.map iR).take k)=(l.map iR).take k:=by rw[<-Z7];exact UE
@[go_sem]theorem iR_snoc{l:List Int}{x:Int}:(l++[x]).map iR=l.map iR++[[.v (.int .i64 x)]]:=by simp[iR]
def ints_1{f:Bool}{k:IntKind}{a:Int}:nN (.list f [[.v (.int k a)]])=[a]:=rfl
def ints_2{f:Bool}{k k':IntKind}{a b:Int}:nN (.list f [[.v (.int k a)],[.v (.int k' b)]])=[a,b]:=rfl
def ints_3{f:Bool}{k k' l:IntKind}{a b c:Int}:nN (.list f [[.v (.int k a)],[.v (.int k' b)],[.v (.int l c)]])=[a,b,c]:=rfl
attribute[go_sem]ints_1 ints_2 ints_3
def srS(f:D):Nat:=match f with
 | .fn (.func k) _ [x,y]=>if k=245 then mO (uf x).z.sets (uk y)else nQ (uf x).z.sets (uk y)
 | _=>0
def srS_e{x y:D}:srS (.fn (.func 203) [] [x,y])=nQ (uf x).z.sets (uk y):=rfl
def srS_u{x y:D}:srS (.fn (.func 245) [] [x,y])=mO (uf x).z.sets (uk y):=rfl
attribute[go_sem]srS_e srS_u
end Go.Zon
namespace Go.Jn
open Go.DL Go.Str Go.Rec Go.Cmp Go.Zon
structure SigSz(g:RSig):Prop where
 zone:g.zone.length<=255
 key:i64 g.key
 alg:i64 g.alg
 frm:i64 g.frm
 unt:i64 g.unt
 sum:0<=g.sum/\g.sum<18446744073709551616
structure Ue(s:Sgd):Prop where
 set:xE s.set
 len:s.sigs.length<=255
 sig : ∀g∈s.sigs,SigSz g
def Ze2{d:Dat}(h:Lc d/\d.t.length<=60/\0<=d.n/\0<=d.m):(Ay d).length<=77:=by
 simp[Ay,gI,pJ]
 omega
theorem QK{α:Type}{f:α->Str}{n:Nat}:∀{l:List α},(∀x∈l,(f x).length<=n)->(l.flatMap f).length<=l.length*n
 | [],_=>by simp
 | x::l,h=>by
  rw[Z6,Yr,YA,Ze,Nat.one_mul];have h1:=h x (by simp)
  have h2:=QK (f:=f) (n:=n) (l:=l) λy hy=>h y (by simp[hy])
  omega
def WP{s:RSet}(h:xE s):(zA s).length<=1000:=by
 have h1:=fT h.name
 have h2:=QK (f:=Ay) (n:=77) (l:=s.data) λd hd=>Ze2 (Sk h.ty (h.dat d hd))
 have h3:=h.len
 simp[zA,gI,pJ]at h2 ⊢
 omega
structure QstSz(q:Qst):Prop where
 name:q.name.length<=255
 ty:0<=q.ty/\q.ty<=255
structure DltSz(d:kU):Prop where
 apex:d.apex.length<=255
 frm:i64 d.frm
 too:i64 d.too
 drop:d.drop.length<4294967296
 dropq : ∀q∈d.drop,QstSz q
 put:d.put.length<4294967296
 puts : ∀s∈d.put,Ue s
structure ZonSz(z:Zon):Prop where
 apex:z.apex.length<=255
 len:z.sets.length<4294967296
 sets : ∀d∈z.sets,Ue d
def fr(c:pO)(b:Str):List (Zon×Nat):=match c with
 | none=>frs b
 | some z=>more z b
end Go.Jn
namespace Go.DL
variable [Dr]
open Go.RowKit
variable {P : Program} {C : aK} {B : bS}

end Go.DL
namespace Go.DL
variable [Dr]
open Go.RowKit
section
variable {P : Program} {ro : Option Nat} {Q : Exit -> S -> Prop} [aa P] (C : aK) {s s1 : S} {n nx : Nat} {t : Nat -> D} {h : H} {ok : Prop} {e : Env} {id : Nat} {ops : Array Oper} {y : Code}
def GV(ps:List Pr)(hq:DW P ro y Q ⟨n,t,h,nx,True,e⟩)(he:exec P (words P) C ops.toList s=⟨n,t,h,nx,ok,e⟩:=by simp only[go_sem,ff];exact rfl)(hd:P.follows .mixedOrders=true/\tQ C ops.toList none ps=true/\nW ops.toList=true:=by exact⟨mix,by kernel_rfl,by kernel_rfl⟩)
  (yO : ∀p∈ps,∀r∈jA ops.toList s.nx p.j ⟨n,t,h,nx,ok,e⟩,r ∉ jA ops.toList s.nx p.i ⟨n,t,h,nx,ok,e⟩:=by simp only[Yz,Z4,or_false,forall_eq_or_imp,forall_eq,jA,foot,av,o7,X9,Yw,List.getD_cons_succ,List.getD_cons_zero,XX,XZ,YZ,go_sem,ff];(first|done|((repeat' (with_reducible apply And.intro))<;>first|omega|(intros;omega)|(intros;simp;omega))))
  (hok:ok:=by(try simp only[go_sem,ff]);all_goals exact ok0):DW P ro (.seq (.region id ops true) y) Q s:=aU (RI ps hd he yO hok hq)
end
end Go.DL
namespace Go.DL
variable [Dr]
open Go.RowKit
variable {P : Program} {ro : Option Nat} {Q : Exit -> S -> Prop}
section
variable [aa P] {C : aK} {s s1 : S} {ops : Array Oper} {i b : Nat} {o : Oper}
end
end Go.DL
namespace Go.DL
variable [Dr]
open Go.RowKit
variable {P : Program} {ro : Option Nat} {Q : Exit -> S -> Prop}
def Zfh [aa P]{h:H}{g:Mem}{w:World}(hm:HM P h g w){t u e:TypeId}{r off len:Nat}{rows:List (List D)}{y:D}{vx vy:Value}(ht:P.underlying t=some (.slice e))(hr:h r=some ⟨e,rows⟩)
  (hx:ag w g (.mrow r off len) vx)(hy:ag w g y vy)(hl:(aj y h).length=bq y)(hs:fG P u h y=true)(hrl : ∀q∈aj y h,q.length=P.cellsOf e)(h0:0<bq y)(hk:bq y<=len)(ho:off<=rows.length)(ty:TypeId) :
  ∃g' w',(Builtin.copy_ #[t,u] ty #[vx,vy]).run P w = .ok (.int .i64 (bq y:Nat)) w'/\HM P (upd h r (some ⟨e,rows.take off++aj y h++rows.drop (off+bq y)⟩)) g' w'/\aB g g' w w' /\ ∀q,g'.U q->g.U q:=by
 obtain⟨blk,c,h1,h2,h3,h4,h5⟩:=hm.blk r _ hr
 simp only at h1 h2 h3
 obtain⟨news,r1,l1,f1,_⟩:=vZ hm hy h2 hl hrl hs
 cases hx with|mrow _ _ _ _ fV hU hvv =>
 obtain⟨p1,p2⟩:=hvv _ _ _ h1
 rcases p2 with⟨e0,a,rfl⟩|⟨e0,b,rfl,rfl⟩
 .
  obtain⟨a',c',e1,e2,_⟩:=fV
  cases e1
  omega
 obtain⟨cur,c1,c2,c3⟩:=Dh hm (off:=off) hr h1 p1.2 r1 ho (by rw[hl];exact Yt (Nat.add_le_add_left hk _) p1.1)
 obtain⟨g',q1,q2,q3,q4,q5⟩:=c3 _ rfl
 rw[hl]at q3
 have hst:=run_storeCells_at P b (off*P.cellsOf e) e news 0 cur w c1 (by simpa using c2) r1.one
 simp only[ZB]at hst
 have hmin:Nat.min (bq y) len=bq y:=ZY hk
 refine⟨g',_,?_,q3,q4,q5⟩
 simp[Builtin.copy_,run_underlying ht,l1,mU h2,hmin,f1,hst,goInt]
def Xb [aa P]{C:aK}{s s1:S}{ops:Array Oper}{i b:Nat}(k:Nat){o:Oper}{t u e:TypeId}{x y:Operand}{r off len m:Nat}{yd:D}{rows news:List (List D)}(z9:iX P C ops i k o b s s1)
  (hop:o.op = .call { callee:=.builtin .copy,args:=#[x,y],argTypes:=#[t,u] })(ht:P.underlying t=some (.slice e))
  (hx:s1.ev x = .mrow r off len)(hy:s1.ev y=yd)(hr:s1.h r=some ⟨e,rows⟩)
  (hnw:aj yd s1.h=news)(hm:bq yd=m)(hl:news.length=m)(hs:fG P u s1.h yd=true)(hrl : ∀q∈news,q.length=P.cellsOf e)(h0:0<m)(Ch:m<=len)(hlo:off<=rows.length)
  (hk:bG P ro ops (k+1) b { n:=s1.n,t:=s1.put o.dst (.i m),h:=upd s1.h r (some ⟨e,rows.take off++news++rows.drop (off+m)⟩),nx:=s1.nx,ok:=True,e:=s1.e } Q):bG P ro ops i b s Q:=by
 obtain⟨hik,ho,hg,he,hok,hd⟩:=z9
 subst hy
 subst hnw
 subst hm
 refine pV (C:=C) k (λd h'=>d = .i (bq (s1.ev y):Nat)/\h'=upd s1.h r (some ⟨e,rows.take off++aj (s1.ev y) s1.h++rows.drop (off+bq (s1.ev y))⟩)) hik ho hg (λc e=>by rw[hop]at e;cases e) he hok hd (λB g a w hst _=>?_) (λd h'⟨hy,hh⟩=>by subst hy;subst hh;exact hk)
 have hv:=dH hst x
 rw[hx]at hv
 obtain⟨g',w',q1,q2,q3,q4⟩:=Zfh (u:=u) hst.mem ht hr hv (dH hst y) hl hs hrl h0 Ch hlo o.type
 refine⟨_,_,⟨rfl,rfl⟩,_,g',w',.inl ?_,.v _,q2,q3,λr hr=>.inl (q4 r hr)⟩
 obtain⟨od,oo,nu,op,oa,og⟩:=o
 simp only at hop
 subst hop
 simp[Go.BigFrame.execOp_builtin,Go.BigFrame.builtin_copy,q1]
def WR [aa P]{C:aK}{s s1:S}{ops:Array Oper}{i b:Nat}(k:Nat){o:Oper}(d:D)(v:Value)(hik:i<=k)(ho:ops[k]? = some o)(hg:o.guard=none)(hdef : ∀c,o.op ≠ .defer c)
  (he:bN P (words P) C ops.toList b i ((ops.toList.drop i).take (k-i)) s=s1)(hok:s1.ok)(hd:cu s1.n o.dst=true)
  (hrun : ∀(B:bS)(g:Mem)(a:Act)(w:World),St P B s1 g a w->(execOp a.eval o).run P w = .ok (.value v) w/\ag w g d v)
  (hk:bG P ro ops (k+1) b { n:=s1.n,t:=s1.put o.dst d,h:=s1.h,nx:=s1.nx,ok:=True,e:=s1.e } Q):bG P ro ops i b s Q :=
 pV (C:=C) k (λd' h'=>d'=d/\h'=s1.h) hik ho hg hdef he hok hd (λB g a w hst _=>by
  obtain⟨h1,h2⟩:=hrun B g a w hst;exact⟨_,_,⟨rfl,rfl⟩,v,g,w,.inl h1,h2,hst.mem,aB.refl _ _,λr hr=>.inl hr⟩) (λd' h'⟨hy,hh⟩=>by subst hy;subst hh;exact hk)
section
variable [aa P] {C : aK} {s s1 : S} {ops : Array Oper} {i b : Nat}
end
section
variable [aa P] {C : aK} {s s1 : S} {ops : Array Oper} {i b : Nat}
end
section
variable [aa P] (C : aK) {s s1 : S} {ops : Array Oper} {i b : Nat} {o : Oper} (k : Nat)
def Zdb{t u e:TypeId}{x y:Operand}{r off len m:Nat}{yd:D}{rows news:List (List D)}(hk:bG P ro ops (k+1) b { n:=s1.n,t:=s1.put o.dst (.i m),h:=upd s1.h r (some ⟨e,rows.take off++news++rows.drop (off+m)⟩),nx:=s1.nx,ok:=True,e:=s1.e } Q)
  (z9:iX P C ops i k o b s s1:=by exact pos)(hop:o.op = .call { callee:=.builtin .copy,args:=#[x,y],argTypes:=#[t,u] }:=by exact rfl)(ht:P.underlying t=some (.slice e):=by kernel_rfl)
  (hx:s1.ev x = .mrow r off len:=by simp only[go_sem,ff];first|done|exact rfl)(hy:s1.ev y=yd:=by simp only[go_sem,ff];first|done|exact rfl)(hr:s1.h r=some ⟨e,rows⟩:=by simp only[go_sem,ff];first|done|exact rfl)(hnw:aj yd s1.h=news:=by simp only[aj,go_sem,ff];first|done|exact rfl)(hm:bq yd=m:=by first|rfl|(simp only[bq,go_sem,ff];done)|(simp[bq];done)|(simp[bq];omega))(hl:news.length=m:=by first|(simp only[go_sem,ff];done)|(simp;done)|(simp;omega))(hs:fG P u s1.h yd=true:=by simp only[go_sem,ff])
  (hrl : ∀q∈news,q.length=P.cellsOf e:=by simp only[go_sem,ff])(h0:0<m:=by first|omega|(simp;done)|(simp;omega))(Ch:m<=len:=by first|omega|(simp;done)|(simp;omega))(hlo:off<=rows.length:=by first|omega|(simp;done)|(simp;omega)):bG P ro ops i b s Q:=Xb k z9 hop ht hx hy hr hnw hm hl hs hrl h0 Ch hlo hk
end
theorem dw_to [aa P]{c:Code}{s:S}(fx:List (Nat×D))(h2:H)(n2 nx2:Nat)(e2:Env)(h:DW P ro c Q { n:=n2,t:=tab fx,h:=h2,nx:=nx2,e:=e2 })(hfx:fx.map (λp=>s.t p.1)=fx.map Prod.snd:=by rfl)(hh:s.h=h2:=by rfl)(hn:s.n=n2:=by rfl)(hx:s.nx=nx2:=by rfl)(he:s.e=e2:=by rfl):DW P ro c Q s:=by
 subst hh
 subst hn
 subst hx
 subst he
 have key : ∀l:List (Nat×D),l.map (λp=>s.t p.1)=l.map Prod.snd -> ∀p∈l,s.t p.1=p.2:=by
  intro l
  induction l with
  | nil=>intro _ p hp;cases hp
  | cons q l ih =>
   intro e p hp;simp only[X9,Yy]at e
   rcases Yz.1 hp with rfl|hp
   . exact e.1
   exact ih e.2 p hp
 exact Kb fx s.h s.nx (λp hp=>Or.inl (key fx hfx p hp)) (λ_=>.inl rfl) (X4 _) h
def WY [aa P]{C:aK}{s s1:S}{ops:Array Oper}{i b:Nat}(k:Nat){o:Oper}{t t':TypeId}{x y:Operand}{q:IntKind}{m n v:Int}(hv:q.wrap (m*n)=v)(z9:iX P C ops i k o b s s1)
  (hop:o.op = .binOp .mul t x y t')(hq:q.signed=false)
  (hx:s1.ev x = .v (.int q m))(hy:s1.ev y = .v (.int q n))
  (hk:bG P ro ops (k+1) b { n:=s1.n,t:=s1.put o.dst (.v (.int q v)),h:=s1.h,nx:=s1.nx,ok:=True,e:=s1.e } Q):bG P ro ops i b s Q:=by
 obtain⟨hik,ho,hg,he,hok,hd⟩:=z9
 refine WR (C:=C) k (.v (.int q v)) (.int q v) hik ho hg (λc e=>by rw[hop]at e;cases e) he hok hd (λB g a w hst=>?_) hk
 have h1:=dH hst x
 rw[hx]at h1
 have h1:=h1.v_inv
 have h2:=dH hst y
 rw[hy]at h2
 have h2:=h2.v_inv
 refine⟨?_,.v _⟩
 obtain⟨od,oo,nu,op,oa,og⟩:=o
 simp only at hop
 subst hop
 simp[execOp,h1,h2,eqGuard,binOp,Op.intArith,hv]
section
variable [aa P] (C : aK) {s s1 : S} {ops : Array Oper} {i b : Nat} {o : Oper} (k : Nat)
def gmulu{t t':TypeId}{x y:Operand}{q:IntKind}{m n v:Int}(hv:q.wrap (m*n)=v)(hk:bG P ro ops (k+1) b { n:=s1.n,t:=s1.put o.dst (.v (.int q v)),h:=s1.h,nx:=s1.nx,ok:=True,e:=s1.e } Q)
  (z9:iX P C ops i k o b s s1:=by exact pos)(hop:o.op = .binOp .mul t x y t':=by exact rfl)(hq:q.signed=false:=by rfl)
  (hx:s1.ev x = .v (.int q m):=by simp only[go_sem,ff];first|done|exact rfl)(hy:s1.ev y = .v (.int q n):=by simp only[go_sem,ff];first|done|exact rfl):bG P ro ops i b s Q:=WY k hv z9 hop hq hx hy hk
end
def WX [aa P]{C:aK}{s s1:S}{ops:Array Oper}{i b:Nat}(k:Nat){o:Oper}{x:Operand}{r j off:Nat}(hik:i<=k)(ho:ops[k]? = some o)(hg:o.guard=none)(hop:o.op = .nilCheck x)
  (he:bN P (words P) C ops.toList b i ((ops.toList.drop i).take (k-i)) s=s1)(hok:s1.ok)(hd:cu s1.n o.dst=true)(hx:s1.ev x = .mptr r j off)
  (hk:bG P ro ops (k+1) b { n:=s1.n,t:=s1.put o.dst (.mptr r j off),h:=s1.h,nx:=s1.nx,ok:=True,e:=s1.e } Q):bG P ro ops i b s Q:=by
 refine pV (C:=C) k (λd' h'=>d' = .mptr r j off/\h'=s1.h) hik ho hg (λc e=>by rw[hop]at e;cases e) he hok hd (λB g a w hst _=>?_) (λd h'⟨hy,hh⟩=>by subst hy;subst hh;exact hk)
 have h1:=dH hst x
 rw[hx]at h1
 have h2:=h1
 generalize hv:a.eval x=v at h2
 cases h2 with|mptr _ _ _ _ fV _ _ =>
 obtain⟨p,rfl⟩:=fV
 refine⟨_,_,⟨rfl,rfl⟩,_,g,w,.inl ?_,h1,hst.mem,aB.refl _ _,λr hr=>.inl hr⟩
 obtain⟨od,oo,nu,op,oa,og⟩:=o
 simp only at hop
 subst hop
 simp[execOp,hv]
def WS [aa P]{C:aK}{s s1:S}{ops:Array Oper}{i b:Nat}(k:Nat){o:Oper}{t e:TypeId}{x y:Operand}{r:Nat}{c d:D}(hik:i<=k)(ho:ops[k]? = some o)(hg:o.guard=none)(hop:o.op = .store t x y)
  (he:bN P (words P) C ops.toList b i ((ops.toList.drop i).take (k-i)) s=s1)(hok:s1.ok)(hd:cu s1.n o.dst=true)(hx:s1.ev x = .mptr r 0 0)(hy:s1.ev y=d)(hr:s1.h r=some ⟨e,[[c]]⟩)(ht:P.cellsOf t=1)(hc:d.cells=[d])(h1:d.one=true)
  (hk:bG P ro ops (k+1) b { n:=s1.n,t:=s1.put o.dst (.v undef),h:=upd s1.h r (some ⟨e,[[d]]⟩),nx:=s1.nx,ok:=True,e:=s1.e } Q):bG P ro ops i b s Q:=by
 have Ca:(fO P t (.mptr r 0 0) d s1.h).1=upd s1.h r (some ⟨e,[[d]]⟩):=by
  unfold fO;simp only[hr,hc];rfl
 refine pV (C:=C) k (λd' h'=>d' = .v undef/\h'=upd s1.h r (some ⟨e,[[d]]⟩)) hik ho hg (λc e=>by rw[hop]at e;cases e) he hok hd (λB g a w hst _=>?_) (λd h'⟨hy,hh⟩=>by subst hy;subst hh;exact hk)
 have q1:=dH hst x
 rw[hx]at q1
 have q2:=dH hst y
 rw[hy]at q2
 obtain⟨g',w',k1,k2,k3,k4⟩:=Md (t:=t) hst.mem q1 q2 (by unfold fO;simp only[hr,hc];exact⟨by simp[ht],om,by simp,by simp,by simp[h1]⟩)
 rw[Ca]at k2
 refine⟨_,_,⟨rfl,rfl⟩,undef,g',w',.inr ⟨?_,rfl⟩,.v _,k2,k3,λr hr=>.inl (k4 r hr)⟩
 obtain⟨od,oo,nu,op,oa,og⟩:=o
 simp only at hop
 subst hop
 simp[execOp,k1]
section
variable [aa P] (C : aK) {s s1 : S} {ops : Array Oper} {i b : Nat} {o : Oper} (k : Nat)
def gnilc{x:Operand}{r j off:Nat}(hk:bG P ro ops (k+1) b { n:=s1.n,t:=s1.put o.dst (.mptr r j off),h:=s1.h,nx:=s1.nx,ok:=True,e:=s1.e } Q)
  (hik:i<=k:=by omega)(ho:ops[k]? = some o:=by exact pK rfl)(hg:o.guard=none:=by exact rfl)(hop:o.op = .nilCheck x:=by exact rfl)(he:bN P (words P) C ops.toList b i ((ops.toList.drop i).take (k-i)) s=s1:=by first|rfl|(simp only[Yv,Yj,YC,Y1,S.put,Zu,Nat.reduceSub,go_sem,ff];first|done|exact rfl))(hok:s1.ok:=by(try simp only[go_sem,ff]);all_goals exact ok0)(hd:cu s1.n o.dst=true:=by(try simp only[go_sem,ff]);all_goals (first|done|rfl|decide|simp))(hx:s1.ev x = .mptr r j off:=by first|rfl|(simp only[go_sem,ff];first|done|exact rfl)):bG P ro ops i b s Q:=WX k hik ho hg hop he hok hd hx hk
def gst1{t e:TypeId}{x y:Operand}{r:Nat}{c d:D}(hk:bG P ro ops (k+1) b { n:=s1.n,t:=s1.put o.dst (.v undef),h:=upd s1.h r (some ⟨e,[[d]]⟩),nx:=s1.nx,ok:=True,e:=s1.e } Q)
  (hik:i<=k:=by omega)(ho:ops[k]? = some o:=by exact pK rfl)(hg:o.guard=none:=by exact rfl)(hop:o.op = .store t x y:=by exact rfl)(he:bN P (words P) C ops.toList b i ((ops.toList.drop i).take (k-i)) s=s1:=by first|rfl|(simp only[Yv,Yj,YC,Y1,S.put,Zu,Nat.reduceSub,go_sem,ff];first|done|exact rfl))(hok:s1.ok:=by(try simp only[go_sem,ff]);all_goals exact ok0)(hd:cu s1.n o.dst=true:=by(try simp only[go_sem,ff]);all_goals (first|done|rfl|decide|simp))(hx:s1.ev x = .mptr r 0 0:=by first|rfl|(simp only[go_sem,ff];first|done|exact rfl))(hy:s1.ev y=d:=by first|rfl|(simp only[go_sem,ff];first|done|exact rfl))(hr:s1.h r=some ⟨e,[[c]]⟩:=by first|(simp only[bK];done)|(simp only[go_sem,ff];first|done|exact rfl))(ht:P.cellsOf t=1:=by kernel_rfl)(hc:d.cells=[d]:=by rfl)(h1:d.one=true:=by rfl):bG P ro ops i b s Q:=WS k hik ho hg hop he hok hd hx hy hr ht hc h1 hk
def gend(C:aK)(hq:Q .normal s.clear)(hi:i=ops.size:=by rfl)(hok:s.ok:=by trivial)(hn:s.nx=b+ops.size:=by rfl):bG P ro ops i b s Q:=by
 subst hi
 exact DD (C:=C) (X4 _) (by rw[List.drop_of_length_le (by simp)];rfl) hok hn hq
end
end Go.DL
namespace Go.DL
variable [Dr]
open Go.RowKit
variable {P : Program} {C : aK} {B : bS}
section
variable [aa P] (C : aK) {ro : Option Nat} {Q : Exit -> S -> Prop} {s sq : S} {ops : Array Oper} {id : Nat} {y : Code}
end
end Go.DL
namespace Go.DL
variable [Dr]
open Go.RowKit
theorem UV{h:H}{r:Nat}{a b:Option ax}:upd (upd h r a) r b=upd h r b:=by
 funext q
 unfold upd
 split<;>rfl
variable {P : Program} {C : aK} {B : bS}
structure DrawL(C:aK)(ops:Array Oper)(k1 k3 k2:Nat):Prop where
 lt:k1<k3
 le3:k3<=k2
 le:k2<=ops.size
 back : ∀(i:Nat)o,ops.toList[i]? = some o -> ∀e∈o.after.toList,Region.binds .any e=true->e.on<i
 ord : ∀i,k2<=i->i<ops.size -> ∀j,j<i->((dX ops.toList []).getD i 0).testBit j=true
 quiet : ∀(i:Nat)o,i<k3->i≠k1->((dX ops.toList []).getD k1 0).testBit i=false->ops.toList[i]? = some o->pX C o=true
 wait : ∀i,k3<=i->i<k2->((dX ops.toList []).getD i 0).testBit k1=true
 comm : ∀(i j:Nat)x y,i<k2->j<i->i≠k1->j≠k1->ops.toList[j]? = some x->ops.toList[i]? = some y->((dX ops.toList []).getD i 0).testBit j=true\/j5 C ops.toList x y=true
 call : ∀(i:Nat)x y,i<k3->i≠k1->ops.toList[i]? = some x->ops.toList[k1]? = some y->((dX ops.toList []).getD k1 0).testBit i=true\/gK ops.toList x y=true
 late : ∀(i j:Nat)x y,i<=j->j<k3->i≠k1->j≠k1->ops.toList[i]? = some x->ops.toList[j]? = some y -> ∀z∈looks ops.toList x,y.dst≠some z
section
variable [aa P] (C : aK) {ro : Option Nat} {Q : Exit -> S -> Prop} {s sq : S} {ops : Array Oper} {id : Nat} {y : Code}
end
end Go.DL
namespace Go.Proofs.YtdcenbhgholncaaGreatDoor
open Go.Proofs.Tryz
open Go.DL Go.Str Go.Rec Go.Cmp Go.Zon
set_option maxRecDepth 10000
variable [Dr]

@[go_sem]theorem sgd_snoc{l:List Sgd}{x:Sgd}:(l++[x]).map Sgd.d=l.map Sgd.d++[[.v (.string (bs x.set.name)),.i x.set.ty,.i x.set.life,.l (x.set.data.map Dat.d),.l (x.sigs.map RSig.d)]]:=by simp[Sgd.d]



end Go.Proofs.YtdcenbhgholncaaGreatDoor
namespace Go.DL
variable [Dr]
open Go.RowKit
variable {P : Program}
def Gm{α:Type}{ds:List D}{us:Array α}{i:Nat}{d:D}(hn:ds.length=us.size)(h:ds[i]? = some d):∃u,us[i]? = some u:=by
 have:=(X0.1 h).1
 exact⟨us[i]'(by omega),Zg _⟩
theorem ag.shrink{w w':World}{g g' g2:Mem}(hM:g2.M=g'.M)(hI:g2.I=g'.I)(hU : ∀r,g.U r->g2.U r){d:D}{x:Value}(h:ag w' g' d x):∀{y:Value},ag w g d y->ag w' g2 d x:=by
 induction h with
 | v x=>intro y _;exact .v x
 | agg ds vs hn _ ih =>
  intro y k
  cases k with
  | agg _ us hn2 h2=>exact .agg ds vs hn λi d x h1 h3=>by obtain⟨u,hu⟩:=Gm hn2 h1;exact ih i d x h1 h3 (h2 i d u h1 hu)
 | tuple ds vs hn _ ih =>
  intro y k
  cases k with
  | tuple _ us hn2 h2=>exact .tuple ds vs hn λi d x h1 h3=>by obtain⟨u,hu⟩:=Gm hn2 h1;exact ih i d x h1 h3 (h2 i d u h1 hu)
 | iface t d x _ ih =>
  intro y k
  cases k with
  | iface _ _ _ h2=>exact .iface t d x (ih h2)
 | empty full a cap hf hm=>intro y _;exact .empty full a cap hf hm
 | list full rows ad cap size cv hi hl hf hm hs hc _ ih =>
  intro y k;refine .list full rows ad cap size cv (by rw[hI];exact hi) hl hf hm hs hc λi j r d h1 h2=>?_
  cases k with
  | empty=>simp at h1
  | list _ _ _ _ _ cv2 _ _ _ _ _ _ hr2=>exact ih i j r d h1 h2 (hr2 i j r d h1 h2)
 | eptr cs p cv hi hc _ ih =>
  intro y k
  cases k with
  | eptr _ p2 cv2 _ _ hr2=>exact .eptr cs p cv (by rw[hI];exact hi) hc λj d h1=>ih j d h1 (hr2 j d h1)
 | mrow r off len x hx hu h =>
  intro y k
  cases k with
  | mrow _ _ _ _ _ hu2 _=>exact .mrow r off len x hx (hU r hu2) (by rw[hM];exact h)
 | mptr r i off x hx hu h =>
  intro y k
  cases k with
  | mptr _ _ _ _ _ hu2 _=>exact .mptr r i off x hx (hU r hu2) (by rw[hM];exact h)
 | mp r x hx hu h =>
  intro y k
  cases k with
  | mp _ _ _ hu2 _=>exact .mp r x hx (hU r hu2) (by rw[hM];exact h)
 | fmap kv b es aV hi hb hn _ ih =>
  intro y k
  cases k with
  | fmap _ b2 es2 clk2 _ _ hn2 h2 =>
   exact .fmap kv b es aV (by rw[hI];exact hi) hb hn λi d x h1 h3=>by
    have hlt:i<(ik es2).length:=by rw[<-hn2];exact(X0.1 h1).1
    exact ih i d x h1 h3 (h2 i d _ h1 (X6 hlt))
 | fn f first aP fs cs hf hc _ _ ih1 ih2 =>
  intro y k
  cases k with
  | fn _ _ _ fs2 cs2 hf2 hc2 q1 q2 =>
   exact .fn f first aP fs cs hf hc (λi d x h1 h3=>by obtain⟨u,hu⟩:=Gm hf2 h1;exact ih1 i d x h1 h3 (q1 i d u h1 hu)) λi d x h1 h3=>by obtain⟨u,hu⟩:=Gm hc2 h1;exact ih2 i d x h1 h3 (q2 i d u h1 hu)
 | cond b d x _ hf ih =>
  intro y k
  cases k with
  | cond _ _ y ht2 _=>exact .cond b d x (λe=>ih e (ht2 e)) hf
 | junk x=>intro y _;exact .junk x
theorem Zfc [aa P]{f:FuncId}{args:List D}{h:H}{res:D}(hnr:res.nr=true)(hc : ∀n,dS P f args h n (λd h' n'=>d=res/\h'=h/\n<=n')):∀b,Ct P f args h b res h:=λb=>by
 refine⟨(hc 0).1,λw g vs n hm hU hb hr=>?_⟩
 refine((hc n).2 w g vs hm hU hr).mono ?_
 rintro e w' ⟨v,g',d,h',n',⟨rfl,rfl,_⟩,he,hv,hm',mono,qo⟩
 let g2:Mem:={ M:=g'.M,U:=g.U,I:=g'.I }
 have hused : ∀r,g'.M r≠none->g.U r:=λr hr=>by
  cases hh:h' r with
  | none=>exact absurd (hm'.dead r hh) hr
  | some bl =>
   obtain⟨blk,c,h1,_⟩:=hm.blk r bl hh;exact hm.used r (by rw[h1];exact λq=>by cases q)
 refine⟨v,g2,he,hv.clean hnr λ_ h=>h,⟨hm'.dead,λr bl hr=>?_,hm'.inj,hused,hm'.imm,hm'.gr⟩,⟨mono.os,mono.tape,mono.output,mono.size,mono.drawn,λ_ h=>h,mono.M,mono.new,mono.I,mono.inew,mono.same⟩,λr hr=>.inl hr⟩
 obtain⟨blk,c,h1,h2,h3,h4,h5⟩:=hm'.blk r bl hr
 refine⟨blk,c,h1,h2,h3,h4,?_⟩
 rcases h5 with h5|⟨b2,cur,rfl,h6,h7,h8,h9⟩
 . exact .inl h5
 refine .inr ⟨b2,cur,rfl,h6,h7,h8,λi row hi=>⟨(h9 i row hi).1,λj d hd=>?_⟩⟩
 obtain⟨u,k3,k4,k5⟩:=(h9 i row hi).2 j d hd
 refine⟨u,k3,k4,?_⟩
 obtain⟨blk0,c0,m1,m2,m3,m4,m5⟩:=hm.blk r bl hr
 rcases m5 with⟨_,m5⟩|⟨b3,cur0,rfl,m6,m7,m8,m9⟩
 . have:i<bl.rows.length:=(X0.1 hi).1;omega
 obtain⟨u0,_,_,q5⟩:=(m9 i row hi).2 j d hd
 exact ag.shrink (w:=w) (g:=g) (g':=g') (g2:=g2) rfl rfl (λ_ h=>h) k5 q5
end Go.DL
namespace Go.DL
variable [Dr]
open Go.RowKit
variable {P : Program} {ro : Option Nat} {Q : Exit -> S -> Prop}
def Xo [aa P]{t e:TypeId}{m:Nat}{a:Addr}{w:World}(ht:P.underlying t=some (.array m e))(hs:P.cellsOf e=1)(h0:0<m):(Instr.sliceAt t (.pointer (some a)) none none none).run P w = .ok (.slice (some a) m m) w:=by
 have h2:=mU (P:=P) (w:=w) (t:=e) (by omega:0<P.cellsOf e)
 have h4:a.add 0=a:=rfl
 simp[Instr.sliceAt,Instr.sureAddr,Instr.sliceBounds,run_underlying ht,h2,h4]
theorem WT [aa P]{C:aK}{s s1:S}{ops:Array Oper}{i b:Nat}(k:Nat){o:Oper}{t e:TypeId}{x:Operand}{r m:Nat}{row:List D}{rty:TypeId}(z9:iX P C ops i k o b s s1)
  (hop:o.op = .slice t x none none none)(ht:P.underlying t=some (.array m e))(h1:P.cellsOf e=1)(hx:s1.ev x = .mptr r 0 0)(hr:s1.h r=some ⟨rty,[row]⟩)(hm:row.length=m)(h0:0<m)(hmx:m<=1000000)(hv : ∀d∈row,∃x:Value,d = .v x/\x.oneCell'=true)
  (hk:bG P ro ops (k+1) b { n:=s1.n,t:=s1.put o.dst (.list true (row.map λd=>[d])),h:=upd s1.h r none,nx:=s1.nx,ok:=True,e:=s1.e } Q):bG P ro ops i b s Q:=by
 obtain⟨hik,ho,hg,he,hok,hd⟩:=z9
 have hn:bV row=true:=by
  clear hm hr hk
  induction row with
  | nil=>rfl
  | cons d l ih =>
   obtain⟨x,rfl,_⟩:=hv d (by simp)
   simp only[bV,D.nr,Zl];exact ih λd hd=>hv d (List.mem_cons_of_mem _ hd)
 refine pV (C:=C) k (λd h'=>d = .list true (row.map λd=>[d])/\h'=upd s1.h r none) hik ho hg (λc e=>by rw[hop]at e;cases e) he hok hd (λB g a w hst hbk=>?_) (λd h'⟨hy,hh⟩=>by subst hy;subst hh;exact hk)
 have qm:=dH hst x
 rw[hx]at qm
 have hp:=Qw hst.mem hr hn qm
 generalize gy:a.eval x=vx at qm hp
 cases hp with|eptr _ p cv hI hc hrr =>
 have mono:=yS g r w
 have hrun:=Xo (P:=P) (w:=w) (a:=p) ht h1 h0
 refine⟨_,_,⟨rfl,rfl⟩,.slice (some p) m m,jX g r,w,.inl ?_,?_,Ah hst.mem r,mono,λq hq=>.inl hq⟩
 .
  obtain⟨od,oo,nu,op,oa,og⟩:=o;simp only at hop;subst hop
  simp[execOp,gy,hrun]
 have hl:(row.map λd=>[d]).length=m:=by simpa using hm
 rw[<-hl]
 refine .list true _ p _ 1 (λi _=>cv i) hI (X4 _) (λ_=>rfl) (by rw[hl];simp only[maxLen];omega) (λr hr=>?_) (λi j r d h1 h2=>?_) (λi j r d h1 h2=>?_)
 . obtain⟨d,_,rfl⟩:=Yi.1 hr;rfl
 .
  obtain⟨d',h3,rfl⟩:=fA h1;have:j=0:=by
   cases j with
   | zero=>rfl
   | succ j=>simp at h2
  subst this;obtain rfl:d'=d:=by simpa using h2
  obtain⟨y,rfl,hy⟩:=hv d' (X7 h3);refine⟨by simpa using hc i _ h3,?_⟩
  rw[(hrr i _ h3).v_inv];exact hy
 obtain⟨d',h3,rfl⟩:=fA h1
 have:j=0:=by
  cases j with
  | zero=>rfl
  | succ j=>simp at h2
 subst this
 obtain rfl:d'=d:=by simpa using h2
 exact hrr i _ h3
theorem HM.more [aa P]{h:H}{g:Mem}{w w':World}(hm:HM P h g w)(e1:w'.os=w.os)(e2:w'.tape=w.tape)(e3:w'.output=w.output)(e4:w'.heap.size=w.heap.size+1)(e5:w.drawn<=w'.drawn)(e6 : ∀j,j<w.heap.size->w'.heap[j]? = w.heap[j]?) :
  HM P h { g with I:=λb=>g.I b\/b=w.heap.size } w'/\aB g { g with I:=λb=>g.I b\/b=w.heap.size } w w':=by
 have mono:aB g { g with I:=λb=>g.I b\/b=w.heap.size } w w' :=
  ⟨e1,e2,e3,om,λ_=>e5,λ_ h=>h,λ_ _=>.inl rfl,λr b c s h=>.inl ⟨r,c,s,h⟩,λ_ h=>.inl h,λb h=>by rcases h with h|rfl;exact .inl h;exact .inr (.inl (X4 _)),λb hb _=>e6 b hb⟩
 refine⟨⟨hm.dead,λr bl hr=>?_,hm.inj,hm.used,λb hb=>?_,hm.gr.later (hm.kept mono)⟩,mono⟩
 .
  obtain⟨blk,c,h1,h2,h3,h4,h5⟩:=hm.blk r bl hr;refine⟨blk,c,h1,h2,h3,h4,?_⟩
  rcases h5 with h5|⟨b,cur,rfl,h6,h7,h8,h9⟩
  . exact .inl h5
  have hlt:=(lT hm h1).1;refine .inr ⟨b,cur,rfl,by rw[e6 b hlt];exact h6,h7,λhI=>?_,λi row hi=>?_⟩
  .
   rcases hI with hI|hI
   . exact h8 hI
   omega
  obtain⟨k1,k2⟩:=h9 i row hi;refine⟨k1,λj d hd=>?_⟩
  obtain⟨u,k3,k4,k5⟩:=k2 j d hd;exact⟨u,k3,k4,k5.later hm mono⟩
 rcases hb with hb|rfl
 . have:=hm.imm b hb;omega
 omega
def vQ(b:UInt8):List D:=[.v (.int .u8 b.toNat)]
theorem Xd [aa P]{C:aK}{s s1:S}{ops:Array Oper}{i b:Nat}(k:Nat){o:Oper}{src dst e:TypeId}{x:Operand}{u:TypeDesc}{sb:ByteArray}(z9:iX P C ops i k o b s s1)
  (hop:o.op = .convert src dst x)(hs:P.underlying src=some u)(hd2:P.underlying dst=some (.slice e))(he2:P.underlying e=some (.int .u8))(hx:s1.ev x = .v (.string sb))(hl:sb.size<=1000000)
  (hk:bG P ro ops (k+1) b { n:=s1.n,t:=s1.put o.dst (.list false (sb.data.toList.map vQ)),h:=s1.h,nx:=s1.nx,ok:=True,e:=s1.e } Q):bG P ro ops i b s Q:=by
 obtain⟨hik,ho,hg,he,hok,hd⟩:=z9
 refine pV (C:=C) k (λd h'=>d = .list false (sb.data.toList.map vQ)/\h'=s1.h) hik ho hg (λc e=>by rw[hop]at e;cases e) he hok hd (λB g a w hst hbk=>?_) (λd h'⟨hy,hh⟩=>by subst hy;subst hh;exact hk)
 have qm:=dH hst x
 rw[hx]at qm
 have qm:=qm.v_inv
 have hrun:=Go.Lib.run_convert_string_bytes w src dst e sb hs hd2 he2
 have hsz:=Go.Lib.bytesWorld_size w e sb
 obtain⟨m1,m2⟩:=hst.mem.more (w':=Go.Lib.bytesWorld w e sb) (by unfold Go.Lib.bytesWorld Go.World.freeze;split<;>rfl) (by unfold Go.Lib.bytesWorld Go.World.freeze;split<;>rfl) (by unfold Go.Lib.bytesWorld Go.World.freeze;split<;>rfl) hsz (by unfold Go.Lib.bytesWorld Go.World.freeze;split<;>exact Nat.le_succ _) (λj hj=>Go.Lib.bytesWorld_at_old w e sb j hj)
 refine⟨_,_,⟨rfl,rfl⟩,.slice (some ⟨w.heap.size,0,none⟩) sb.size (grownCap w sb.size 0 e),_,Go.Lib.bytesWorld w e sb,.inl ?_,?_,m1,m2,λq hq=>.inl hq⟩
 .
  obtain⟨od,oo,nu,op,oa,og⟩:=o;simp only at hop;subst hop
  simp[execOp,qm,hrun]
 have hll:(sb.data.toList.map vQ).length=sb.size:=by simp
 have hcap:grownCap w sb.size 0 e<=maxLen:=grownCap_le_maxLen _ _ _ _ (by simp only[maxLen];omega)
 have hge:=grownCap_ge w sb.size 0 e
 refine(congrArg (λz=>ag (Go.Lib.bytesWorld w e sb) _ _ (Value.slice (some ⟨w.heap.size,0,none⟩) z (grownCap w sb.size 0 e))) hll).mp ?_
 refine .list false _ ⟨w.heap.size,0,none⟩ _ 1 (λi _=>.int .u8 (sb.data.toList.getD i 0).toNat) (.inr rfl) (by rw[hll];exact hge) (λq=>by cases q) hcap (λr hr=>?_) (λi j r d h1 h2=>?_) (λi j r d h1 h2=>?_)
 . obtain⟨d,_,rfl⟩:=Yi.1 hr;rfl
 .
  obtain⟨d',h3,rfl⟩:=fA h1;have:j=0:=by
   cases j with
   | zero=>rfl
   | succ j=>simp[vQ]at h2
  subst this;have hi:i<sb.size:=by have:=(X0.1 h3).1;simpa using this
  refine⟨?_,rfl⟩;have:=Go.Lib.bytesWorld_cell w e sb i hi;rw[kT]
  simpa using this
 obtain⟨d',h3,rfl⟩:=fA h1
 have:j=0:=by
  cases j with
  | zero=>rfl
  | succ j=>simp[vQ]at h2
 subst this
 have e9:sb.data.toList.getD i 0=d':=by simp[List.getD,h3]
 rw[e9]
 obtain rfl:D.v (.int .u8 d'.toNat)=d:=by simpa[vQ]using h2
 exact .v _
section
variable [aa P] (C : aK) {s s1 : S} {ops : Array Oper} {i b : Nat} (k : Nat) {o : Oper}
def Zc5{t e rty:TypeId}{x:Operand}{r m:Nat}{row:List D}(hk:bG P ro ops (k+1) b { n:=s1.n,t:=s1.put o.dst (.list true (row.map λd=>[d])),h:=upd s1.h r none,nx:=s1.nx,ok:=True,e:=s1.e } Q)(hm:row.length=m)(hv : ∀d∈row,∃x:Value,d = .v x/\x.oneCell'=true)
  (z9:iX P C ops i k o b s s1:=by exact pos)(hop:o.op = .slice t x none none none:=by exact rfl)(ht:P.underlying t=some (.array m e):=by kernel_rfl)(h1:P.cellsOf e=1:=by kernel_rfl)(hx:s1.ev x = .mptr r 0 0:=by simp only[go_sem,ff];first|done|exact rfl)(hr:s1.h r=some ⟨rty,[row]⟩:=by simp only[go_sem,ff];first|done|exact rfl)(h0:0<m:=by omega)(hmx:m<=1000000:=by omega):bG P ro ops i b s Q :=
 WT k z9 hop ht h1 hx hr hm h0 hmx hv hk
def gconv{src dst e:TypeId}{x:Operand}{u:TypeDesc}{sb:ByteArray}(hk:bG P ro ops (k+1) b { n:=s1.n,t:=s1.put o.dst (.list false (sb.data.toList.map vQ)),h:=s1.h,nx:=s1.nx,ok:=True,e:=s1.e } Q)(hl:sb.size<=1000000)
  (hs:P.underlying src=some u:=by kernel_rfl)(hd2:P.underlying dst=some (.slice e):=by kernel_rfl)(he2:P.underlying e=some (.int .u8):=by kernel_rfl)
  (z9:iX P C ops i k o b s s1:=by exact pos)(hop:o.op = .convert src dst x:=by exact rfl)(hx:s1.ev x = .v (.string sb):=by simp only[go_sem,ff];first|done|exact rfl):bG P ro ops i b s Q :=
 Xd k z9 hop hs hd2 he2 hx hl hk
end
end Go.DL
namespace Go.Proofs.YtdcenbhgholncaaGreatDoor
open Go.Proofs.Tryz
open Go.DL Go.Str Go.Rec Go.Zon Go.Cmp Go.Jn Go.RowKit
set_option maxRecDepth 10000
variable [Dr]

end Go.Proofs.YtdcenbhgholncaaGreatDoor
namespace Go.Zon
open Go.DL

end Go.Zon
namespace Go.Proofs.YtdcenbhgholncaaGreatDoor
open Go.Proofs.Tryz
open Go.DL Go.Str Go.Rec Go.Cmp Go.Zon
set_option maxRecDepth 10000
variable [Dr]

@[go_sem]theorem ofV_map{o:Option Nat}:kI (.map o) = .v (.map o):=by cases o<;>rfl
@[go_sem]theorem mapTo_0{l:List Sgd}:IV l 0=[]:=rfl


end Go.Proofs.YtdcenbhgholncaaGreatDoor
namespace Go.DL
variable [Dr]
open Go.RowKit
variable {P : Program}
def K7(cf:List D->List D->Int)(rows:List (List D)):Prop:=rows.Pairwise λx y=>¬cf y x<0
structure SwoOn(cf:List D->List D->Int)(rows:List (List D)):Prop where
 irrefl : ∀x∈rows,¬cf x x<0
 trans : ∀x∈rows,∀y∈rows,∀z∈rows,cf x y<0->cf y z<0->cf x z<0
 ntrans : ∀x∈rows,∀y∈rows,∀z∈rows,¬cf x y<0 -> ¬cf y z<0 -> ¬cf x z<0
def G6(enc:Nat->List Value)(k:Nat)(w:World)(b m:Nat)(d:Array Nat)(os:Array Obj)(i:Nat)(hi:i<w.heap.size)(hb:i≠b):(Go.Proofs.sortWorldK enc k w b 0 m d os).heap[i]? = w.heap[i]? := by
 unfold Go.Proofs.sortWorldK Go.Sort.putRowK Go.Sort.putRow Go.Sort.mapBlock Go.Sort.grow
 simp only[Go.Sort.ahead]
 rw[Array.getElem?_append_left (by simpa using hi),Array.getElem?_modify,XW (Ne.symm hb)]
def VY(enc:Nat->List Value)(k:Nat)(w:World)(b m:Nat)(d:Array Nat)(os:Array Obj){cur:Array Value}{ty:TypeId}(hb:w.heap[b]? = some (.cells cur ty (0,0))) :
  (Go.Proofs.sortWorldK enc k w b 0 m d os).heap[b]? = some (.cells (Go.Sort.putCells id 0 (Go.Sort.flatK enc k d) cur) ty (0,0)):=by
 have hi:b<w.heap.size:=(Yb.1 hb).1
 unfold Go.Proofs.sortWorldK Go.Sort.putRowK Go.Sort.putRow Go.Sort.mapBlock Go.Sort.grow
 simp only[Go.Sort.ahead]
 rw[Array.getElem?_append_left (by simpa using hi),Array.getElem?_modify,XY rfl,hb]
 rfl
theorem Mr(enc:Nat->List Value)(k:Nat)(w:World)(b m:Nat)(d:Array Nat)(os:Array Obj):(Go.Proofs.sortWorldK enc k w b 0 m d os).heap.size=w.heap.size+os.size:=by
 unfold Go.Proofs.sortWorldK Go.Sort.putRowK Go.Sort.putRow Go.Sort.mapBlock Go.Sort.grow
 simp[Go.Sort.ahead]
def Zgc{w w':World}(h : @xI drT w w'):∃q os,w'=Go.Sort.grow (w.drewN q) os:=by
 refine⟨w'.drawn-w.drawn,w'.heap.extract w.heap.size w'.heap.size,?_⟩
 obtain⟨h1,h2,h3,h4,h5,h6⟩:=h
 have h5:=h5 trivial
 have hh:w'.heap=w.heap++w'.heap.extract w.heap.size w'.heap.size:=by
  apply Array.ext_getElem?
  intro i
  by_cases hi:i<w.heap.size
  . rw[Array.getElem?_append_left hi,h6 i hi]
  rw[Array.getElem?_append_right (by omega),Array.getElem?_extract]
  by_cases hj:i<w'.heap.size
  .
   rw[XY (by omega)]
   congr 1
   omega
  rw[XW (by omega),Array.getElem?_eq_none (by omega)]
 cases w'
 cases w
 simp only at h1 h2 h3 h5 hh
 simp only[Go.Sort.grow,World.drewN,World.mk.injEq]
 refine⟨hh,h2,?_,h1,h3⟩
 omega
def VW [aa P]{ρ:Go.Shelf.Ren}(L:Go.Proofs.SlLaysF0.n6 P ρ){fS ty:Nat}(hfS:ρ.f 6=fS)(hty:ρ.t 24=ty)(aE : ∀w,(isAgg ty).run P w = .ok true w)(zE : ∀w,(Go.sizeOf ty).run P w = .ok (P.cellsOf ty) w)
  {r nf g:Nat}{rows:List (List D)}{h:H}{aP:List D}(cf:List D->List D->Int)(hbS:jy P fS=true)(hr:h r=some ⟨ty,rows⟩)(hnr:bg rows=true)(hcn:aP.all D.nr=true)(hmax:rows.length<4611686018427387904)
  (hcmp:letI:Dr:=drT;∀x∈rows,∀y∈rows,PureCt P g ([.agg x,.agg y]++aP) (.i (cf x y)))(hO:SwoOn cf rows) :
  dS P fS [.mrow r 0 rows.length,.fn (.func g) [] aP] h nf (λd h' n'=>d = .tuple []/\n'=nf /\ ∃rows',rows'.Perm rows/\K7 cf rows'/\h'=upd h r (some ⟨ty,rows'⟩)):=by
 refine⟨hbS,λw gm vs hm hU hrs=>?_⟩
 obtain⟨x,vs1,rfl,hx,h1⟩:=hrs.of_cons
 obtain⟨f,vs2,rfl,hf,h2⟩:=h1.of_cons
 rw[h2.of_nil]
 cases hf with|fn _ _ _ fs cs l1 l2 r1 r2 =>
 have hfs:fs = #[]:=Zc (by simpa using l1.symm)
 subst hfs
 cases hx with|mrow _ _ _ _ _ hUr hv =>
 obtain⟨blk,c,q1,q2,q3,q4,q5⟩:=hm.blk r _ hr
 obtain⟨v1,v2⟩:=hv _ _ _ q1
 by_cases hne:rows=[]
 .
  subst hne;have hx' : ∃p cap,x = .slice p 0 cap:=by
   rcases v2 with⟨_,a,rfl⟩|⟨_,b,_,rfl⟩
   . exact⟨a,0,rfl⟩
   exact⟨_,_,rfl⟩
  obtain⟨p,cap,rfl⟩:=hx';have key:=Go.Proofs.AnyF.slices_SortFunc_none L p cap (.func (.func g) #[] cs) w;rw[hfS]at key;refine callsIn_wide.2 (key.mono ?_);rintro e w' ⟨rfl,rfl⟩;refine⟨_,gm,_,h,nf,⟨rfl,rfl,[],.refl _,.nil,?_⟩,rfl,.mk_tuple (vs:=#[]) .nil,hm,aB.refl _ _,hU⟩
  funext i
  unfold upd
  split
  . rename_i e;subst e;exact hr
  rfl
 have hn0:0<rows.length:=YV.2 hne
 rcases q5 with⟨_,q5⟩|⟨b,cur,rfl,q6,q7,q8,q9⟩
 . simp only at q3;omega
 have q6:=q6.cells v1.2
 have q7:=q7 v1.2
 have q4:=v1.2
 rcases v2 with⟨e0,a,rfl⟩|⟨hc0,b',hb',rfl⟩
 . simp only at q3;omega
 cases hb'
 have hbw:b<w.heap.size:=(Yb.1 q6).1
 generalize hk:P.cellsOf ty=k at *
 simp only at q3
 let ix:Nat->Nat:=λi=>if i<rows.length then i else 0
 have hix : ∀i,ix i<rows.length:=λi=>by simp only[ix];split<;>assumption
 have EU : ∀i,i<rows.length->ix i=i:=λi hi=>by simp only[ix];rw[XY hi]
 let enc:Nat->List Value:=λi=>(List.range k).map λj=>cur.getD (ix i*k+j) undef
 have Jq : ∀i,(enc i).length=k:=λi=>by simp[enc]
 have hrow : ∀i,i<rows.length->(rows.getD i []).length=k /\ ∀(j:Nat)d,(rows.getD i [])[j]? = some d->(enc i)[j]? = some (cur.getD (i*k+j) undef)/\cur[i*k+j]? = some (cur.getD (i*k+j) undef)/\(cur.getD (i*k+j) undef).oneCell'=true/\ag w gm d (cur.getD (i*k+j) undef):=by
  intro i hi;have e1:rows[i]? = some (rows.getD i []):=by simp[List.getD,hi]
  obtain⟨p1,p2⟩:=q9 i _ e1;simp only[hk]at p1 p2;refine⟨p1,λj d hd=>?_⟩
  obtain⟨u,u1,u2,u3⟩:=p2 j d hd;have e2:cur.getD (i*k+j) undef=u:=by simp[Y4,u1]
  have hj:j<k:=by rw[<-p1];exact(X0.1 hd).1
  rw[e2];refine⟨by simp[enc,hj,EU i hi];rw[<-e2];simp[Y4],u1,u2,u3⟩
 have Qh : ∀i,enc i=enc (ix i):=λi=>by simp only[enc];rw[EU (ix i) (hix i)]
 have hone : ∀i,∀v∈enc i,v.oneCell'=true:=by
  intro i v hv;rw[Qh]at hv;obtain⟨j,hj⟩:=YG hv;have hjk:j<k:=by rw[<-Jq (ix i)];exact(X0.1 hj).1
  obtain⟨p1,p2⟩:=hrow (ix i) (hix i);have hd:(rows.getD (ix i) [])[j]? = some ((rows.getD (ix i) [])[j]'(by omega)):=by simp
  obtain⟨u1,_,u2,_⟩:=p2 j _ hd;rw[u1]at hj
  cases hj
  exact u2
 let rw':Nat->List D:=λi=>rows.getD (ix i) []
 have hmem : ∀i,rw' i∈rows:=λi=>by
  have:rw' i=rows[ix i]'(hix i):=by simp[rw',List.getD,hix i]
  rw[this];exact Yp _
 let cn:Nat->Nat->Int:=λi j=>cf (rw' i) (rw' j)
 have hswo:Go.Sort.SWO (Go.Proofs.ltOf cn):=by
  refine⟨λx=>?_,λx y z p1 p2=>?_,λx y z p1 p2=>?_⟩
  . simp only[Go.Proofs.ltOf,cn,X3];exact hO.irrefl _ (hmem x)
  . simp only[Go.Proofs.ltOf,cn,XV]at *;exact hO.trans _ (hmem x) _ (hmem y) _ (hmem z) p1 p2
  simp only[Go.Proofs.ltOf,cn,X3]at *;exact hO.ntrans _ (hmem x) _ (hmem y) _ (hmem z) p1 p2
 let d:Array Nat:=Array.range rows.length
 have hds:d.size=rows.length:=by simp[d]
 have hdg : ∀i,i<rows.length->d[i]! = i:=λi hi=>by simp[d,hi]
 have ZcN : ∀t,t<rows.length*k->t / k<rows.length/\t % k<k:=λt ht=>⟨Nat.div_lt_of_lt_mul (by rw[Zx];exact ht),Nat.mod_lt _ q2⟩
 have hget : ∀i j,i<rows.length->j<k->(enc i)[j]! = cur.getD (i*k+j) undef:=by
  intro i j hi hj;obtain⟨p1,p2⟩:=hrow i hi;have hd:(rows.getD i [])[j]? = some ((rows.getD i [])[j]'(by omega)):=by simp
  rw[List.getElem!_eq_getElem?_getD,(p2 j _ hd).1];rfl
 have hH:Go.Sort.HoldsK enc k w b 0 d:=by
  intro t ht;simp only[Go.Sort.size_flatK,hds]at ht;rw[Go.Sort.get_flatK _ _ _ _ (by rw[hds];exact ht)]
  obtain⟨t1,t2⟩:=ZcN t ht;rw[hdg _ t1,hget _ _ t1 t2];have e:t / k*k+t % k=t:=by rw[Zx];exact Nat.div_add_mod t k
  rw[e,Nat.zero_add];have hlt:t<cur.size:=by rw[q7];exact Y5 ht (YT k q3)
  refine⟨?_,?_⟩
  . simp[World.cell?,q6,hlt,id,Y4]
  simp[World.frozen?,q6]
 have hcl:Go.Proofs.CmpLays P g cs enc k cn b 0 d.size w:=by
  intro m os dk hdk x y;obtain⟨hbd,_,hct⟩:=hcmp _ (hmem x) _ (hmem y);have hW:=Mr enc k w b m dk os;have hI : ∀b',gm.I b'->b'<(Go.Proofs.sortWorldK enc k w b 0 m dk os).heap.size:=λb' hb'=>by rw[hW];have:=hm.imm b' hb';omega
  have hrep : ∀{d:D}{v:Value},d.nr=true->ag w gm d v->ag (Go.Proofs.sortWorldK enc k w b 0 m dk os) (gq gm.I) d v:=by
   intro d v hd hv;have h1:=ag.clean (g':=gq gm.I) hv hd (λb hb=>hb)
   refine ag.mono (g:=gq gm.I) (g':=gq gm.I) (λb' hb'=>⟨hb',?_⟩) (λ_ h=>h) (λ_ h=>.inl rfl) h1
   exact G6 enc k w b m dk os b' (hm.imm b' hb') (λe=>q8 (e▸hb'))
  have hagg : ∀i,ag (Go.Proofs.sortWorldK enc k w b 0 m dk os) (gq gm.I) (.agg (rw' i)) (.agg (enc i).toArray):=by
   intro i;rw[Qh i];obtain⟨p1,p2⟩:=hrow (ix i) (hix i);refine .mk_agg ⟨by rw[p1,Jq],λj d v e1 e2=>?_⟩
   obtain⟨u1,_,_,u4⟩:=p2 j d e1;rw[u1]at e2
   cases e2
   exact hrep (o6 (BA hnr (hmem i)) (X7 e1)) u4
  have hargs:aG (Go.Proofs.sortWorldK enc k w b 0 m dk os) (gq gm.I) ([.agg (rw' x),.agg (rw' y)]++aP) ([.agg (enc x).toArray,.agg (enc y).toArray]++cs.toList):=by
   refine aG.append (.cons (hagg x) (.cons (hagg y) .nil)) ⟨by simpa using l2,λi d v e1 e2=>?_⟩
   exact hrep (Yg.1 hcn d (X7 e1)) (r2 i d v e1 (by simpa using e2))
  have:=callsIn_wide.1 (hct _ gm.I _ hI (hm.gr.later λb' hb'=>⟨hb',G6 enc k w b m dk os b' (hm.imm b' hb') (λe=>q8 (e▸hb'))⟩) hargs)
  have ea:([.agg (enc x).toArray,.agg (enc y).toArray]++cs.toList:List Value).toArray = #[.agg (enc x).toArray,.agg (enc y).toArray]++cs:=by apply Zh;simp
  rw[ea]at this;refine this.mono ?_;rintro e w' ⟨v,rfl,hb,hv⟩;refine⟨?_,Zgc hb⟩;rw[hv.v_inv]
 have key:=Go.Proofs.AnyQ.slices_SortFunc L k (by rw[hty];exact aE) (by rw[hty];exact zE) enc Jq hone cn hswo g cs b 0 c d w (λargs w=>y7 (hcmp _ (hmem 0) _ (hmem 0)).1 args w) hcl hH hbw (by rw[hds];exact hmax)
 rw[hfS,hds]at key
 have ev:(Value.slice (some ⟨b,0*k,Option.none⟩) rows.length (c-0))=Value.slice (some ⟨b,0,Option.none⟩) rows.length c:=by simp
 rw[ev]
 refine callsIn_wide.2 (key.mono ?_)
 rintro e w' ⟨rfl,d',n',os,hperm,hsort,rfl⟩
 obtain⟨hsz,_,hpm⟩:=hperm
 rw[hds]at hsz
 have hex : ∀a:Array Nat,a.size=rows.length->a.extract 0 rows.length=a:=λa ha=>by rw[<-ha];exact Array.extract_size
 rw[hex d' hsz,hex d hds]at hpm
 have hlt' : ∀i,i<rows.length->d'[i]! < rows.length:=by
  intro i hi;have h1:d'[i]! ∈ d'.toList:=by
   rw[getElem!_pos d' i (by omega)]
   simp
  have:=hpm.mem_iff.1 h1
  simpa[d]using this
 let rows':List (List D):=d'.toList.map rw'
 have hrows:d.toList.map rw'=rows:=by
  apply List.ext_getElem?
  intro i
  by_cases hi:i<rows.length
  . simp[d,hi,rw',EU i hi,List.getD]
  simp[d,hi]
 have hP:rows'.Perm rows:=by rw[<-hrows];exact hpm.map rw'
 have hS:K7 cf rows':=by
  unfold K7;rw[Za];intro i j hi hj hij;have hj':j<rows.length:=by simpa[rows',hsz]using hj
  have:=hsort i j (Yl _) hij hj';simp only[Go.Proofs.ltOf,cn,X3]at this;rw[getElem!_pos d' i (by omega),getElem!_pos d' j (by omega)]at this
  simpa[rows']using this
 have hl':rows'.length=rows.length:=by simp[rows',hsz]
 have hput:=hm.put (h':=upd h r (some ⟨ty,rows'⟩)) (w':=Go.Proofs.sortWorldK enc k w b 0 n' d' os) r b c ⟨ty,rows'⟩ (Go.Sort.putCells id 0 (Go.Sort.flatK enc k d') cur)
  (.inr (by simp only[hk];exact q1)) (bK _ _ _) (λr' hr'=>.inl (aL _ _ _ _ hr')) (.inr ⟨r,c,_,q1,.inl rfl⟩) (VY enc k w b n' d' os q6) (by simp[Go.Sort.putCells,q7,hk]) (by simp only[hk];exact q2)
  (by simp only[hl'];exact q3) q4 (by
   intro i row hi;have hil:i<rows.length:=by rw[<-hl'];exact(X0.1 hi).1
   have e1:row=rows.getD (d'[i]!) []:=by
    simp only[rows',Ym]at hi;rw[getElem!_pos d' i (by omega)]
    have:d'.toList[i]? = some d'[i]:=by simp
    rw[this]at hi;simp only[YP,XU]at hi;rw[<-hi];simp only[rw'];rw[EU _ (by have:=hlt' i hil;rwa [getElem!_pos d' i (by omega)]at this)]
   obtain⟨p1,p2⟩:=hrow _ (hlt' i hil);rw[<-e1]at p1 p2;simp only[hk];refine⟨p1,λj dd hd=>?_⟩
   have hjk:j<k:=by rw[<-p1];exact(X0.1 hd).1
   obtain⟨u1,u2,u3,u4⟩:=p2 j dd hd;have hbound:i*k+j<rows.length*k:=by
    have:=YT k (show i+1<=rows.length from hil)
    rw[Ze,Nat.one_mul]at this;omega
   have hcs:i*k+j<cur.size:=by rw[q7];exact Y5 hbound (YT k q3)
   refine⟨_,?_,u3,u4⟩;have hdiv:(i*k+j) / k=i:=by rw[Zx,Nat.mul_add_div q2,Nat.div_eq_of_lt hjk];rfl
   have hmod:(i*k+j) % k=j:=by rw[Zx,ZP,Zy hjk]
   simp only[Go.Sort.putCells,Array.getElem?_mapIdx,Zg hcs,YP];rw[XY ⟨Yl _,by simp only[Go.Sort.size_flatK,hsz];omega⟩,Nat.sub_zero,Go.Sort.get_flatK _ _ _ _ (by rw[hsz];exact hbound),hdiv,hmod,hget _ _ (hlt' i hil) hjk]
   rfl)
  ⟨rfl,rfl,rfl,by rw[Mr];omega,λi hi hne=>G6 enc k w b n' d' os i hi (λe=>hne (by rw[e]))⟩ (by unfold Go.Proofs.sortWorldK Go.Sort.putRowK Go.Sort.putRow Go.Sort.mapBlock Go.Sort.grow Go.Sort.ahead;exact ZH _ _)
 obtain⟨g',g1,g2,g3,g4,g5⟩:=hput
 exact⟨_,g',_,_,nf,⟨rfl,rfl,rows',hP,hS,rfl⟩,rfl,.mk_tuple (vs:=#[]) .nil,g4,g5,λr' hr'=>by
  rcases(g2 r').1 hr' with h|h
  . exact hU _ h
  subst h;exact hU _ hUr⟩
end Go.DL
namespace Go.Proofs.YtdcenbhgholncaaGreatDoor
open Go.Proofs.Tryz
open Go.DL Go.Str Go.Rec Go.Cmp Go.Zon
set_option maxRecDepth 10000
variable [Dr]

end Go.Proofs.YtdcenbhgholncaaGreatDoor
namespace Go.Zon
open Go.DL Go.Str Go.Rec Go.Cmp
def JE{α:Type}(p:α->Bool)(d:α):List α->α×Bool
 | []=>(d,false)
 | x::l=>if p x then(x,true)else JE p d l
def skN:aD:=⟨0,0⟩
structure Fck where
 s:Sgd
 g:RSig
 deriving Inhabited
structure Fsg where
 zn:Str
 at_:Int
 dr:Int
 ks:List aD
 s:Sgd
 deriving Inhabited
def chkP(f:Fck)(k:aD):Bool:=ZfF f.s.set f.g k
def fitP(f:Fsg)(g:RSig):Bool:=decide (g.zone=f.zn)&&decide (g.frm<=f.at_-f.dr)&&decide (f.at_+f.dr<=g.unt)&&(JE (chkP ⟨f.s,g⟩) skN f.ks).2
def U2(a d:Int):Bool:=aW a 0 10000000&&aW d 0 1000
def We(s:Sgd)(zn:Str)(ks:List aD)(a d:Int):Bool:=U2 a d&&(JE (fitP ⟨zn,a,d,ks,s⟩) G9 s.sigs).2
def kX:D->Str
 | .eptr [.v (.string b)]=>b.data.toList
 | _=>[]
@[go_sem]theorem stE_e{s:Str}:kX (.eptr [.v (.string (bs s))])=s:=by simp[kX,bs]
def fck_eta{f:Fck}:(⟨f.s,f.g⟩:Fck)=f:=rfl
def fsg_eta{f:Fsg}:(⟨f.zn,f.at_,f.dr,f.ks,f.s⟩:Fsg)=f:=rfl
def Zg5{f:Bool}{k k':IntKind}{a b:Int}:xO (.list f [[.v (.int k a),.v (.int k' b)]])=[⟨a,b⟩]:=rfl
attribute[go_sem]fck_eta fsg_eta Zg5
def TP(s:Sgd)(c:Str)(b:Bool):Bool:=b&&(decide (s.set.ty=1)||(decide (s.set.ty=2)&&decide (s.set.name=c)))
structure TsLaw(x:Zon)(A:eH)(ks:List aD)(a d:Int):Prop where
 cut : ∀k,k<A.sets.length->fZ x A.sets[k]!.set.name=((bE x A.sets[k]!.set.name).1,(bE x A.sets[k]!.set.name).2,0)
 un : ∀k,k<A.sets.length->TP A.sets[k]! (bE x A.sets[k]!.set.name).1 (bE x A.sets[k]!.set.name).2=true->A.sets[k]!.sigs=[]
 sg : ∀k,k<A.sets.length->TP A.sets[k]! (bE x A.sets[k]!.set.name).1 (bE x A.sets[k]!.set.name).2=false -> ∀j,j<ks.length->We A.sets[k]! x.apex [ks[j]!] a d=true
 len:A.sets.length<=1000000
 sigs : ∀k,k<A.sets.length->A.sets[k]!.sigs.length<=1000
open Go.Jn
structure AllOk(z:Zon)(ks:List aD)(f u:Int):Prop where
 eq:(allR z ks f u).1=zB z (eB ks) f u
 ok:aN z=true
 sok:aN (zB z (eB ks) f u)=true
 dup:rX ks=false
 sg : ∀i,i<z.sets.length->jO (aO z) i=true -> ∀k∈eB ks,(gF z.sets[i]!.set z.apex k f u).2=0
def oQ{l:List Sgd}{ps:List Int}(hp : ∀i,i<ps.length->ps[i]! < (l.length:Int)):∀s∈dF l ps,s∈l :=
 Ie l ps hp ps.length (X4 _)
def U0{v:Vw}(k:Nat):∀s∈(cB v k).1.sets,s∈v.z.sets:=by
 have P:=jN v.z.sets
 have C:=lK v.z.sets
 have N : ∀s∈([]:List Sgd),s∈v.z.sets:=λs h=>by cases h
 unfold cB
 split
 .
  dsimp only
  split
  . exact N
  exact oQ (H7 _ _ _ _)
 . exact oQ (BL (P _))
 . exact oQ (BL (P _))
 .
  dsimp only
  split
  . exact oQ (yx (P _) (C _))
  exact N
 . exact oQ (yx (P _) (C _))
 . exact oQ (yx (P _) (C _))
 dsimp only
 split
 . exact N
 exact oQ (yw (P _) (C _) (C _))
def Zbp{v:Vw}:∀s∈(wP v).sets,s∈v.z.sets:=by
 refine oQ (yw (jN _ _) (lK _ _) ?_)
 split
 . omega
 exact lK _ _
theorem go_in{z:Zon}{q:Qst}:∀f k,∀s∈(iL z q f k).sets,s∈z.sets
 | 0,k=>Zbp (v:=fF z q k)
 | f+1,k=>by
  unfold iL
  split
  . exact U0 (v:=fF z q k) k
  exact go_in f (k+1)
theorem Zgt{z:Zon}{q:Qst}(hf:jf z.sets):(fK z q).1.sets.length<=1000000:=by
 have L : ∀(l:List Sgd)(ps:List Int),ps.length<=1000000->(dF l ps).length<=1000000:=λl ps h=>Yt (Ig l ps ps.length) h
 have R:(wo z.sets (bE z q.name).1).length<=1000000:=by
  unfold wo;refine Yt (H8 _ _ _ _) ?_
  by_cases h:(aC z.sets ⟨(bE z q.name).1,2⟩).toNat<z.sets.length
  . have:=(hf.2 _ h).1;omega
  rw[getElem!_neg z.sets _ h];exact(by decide:2+(default:Sgd).set.data.length<=1000000)
 have T : ∀k,(cB (fF z q k) k).1.sets.length<=1000000:=by
  intro k;unfold cB
  split
  .
   dsimp only
   split
   . simp
   exact L _ _ R
  . exact L _ _ (by simp)
  . exact L _ _ (by simp)
  .
   dsimp only
   split
   . exact L _ _ (by simp)
   simp
  . exact L _ _ (by simp)
  . exact L _ _ (by simp)
  dsimp only
  split
  . simp
  exact L _ _ (by simp)
 have G : ∀f k,(iL z q f k).sets.length<=1000000:=by
  intro f
  induction f with
  | zero=>intro k;exact L _ _ (by simp)
  | succ f ih =>
   intro k;unfold iL
   split
   . exact T k
   exact ih (k+1)
 unfold fK
 repeat' split
 . simp
 . simp
 . simp
 exact G 7 0
def Ze4{z:Zon}(hO:j6 z){c:Str}(hc:fq z c):eX z.sets ⟨c,2⟩=true/\c≠z.apex:=by
 obtain⟨i,hi,h1,h2,rfl⟩:=hc
 have hm:=dw hi
 have h3:=O3 hO.ord hm
 have h4:=Cv (q:=⟨z.sets[i]!.set.name,2⟩) hO.ord hO.nms (hO.nms _ hm)
 have h5:z.sets[i]!.q=⟨z.sets[i]!.set.name,2⟩:=by show(⟨_,_⟩:Qst)=_;rw[h1]
 rw[h5]at h3
 rw[h3]at h4
 refine⟨?_,h2⟩
 by_cases e:eX z.sets ⟨z.sets[i]!.set.name,2⟩=true
 . exact e
 rw[XW e]at h4;cases h4
def ZcX{z:Zon}(hO:j6 z){n:Str}(hn:ah n=true)(h:eX z.sets ⟨n,2⟩=true)(hne:n≠z.apex):fq z n:=by
 have h4:=Cv (q:=⟨n,2⟩) hO.ord hO.nms hn
 rw[XY h]at h4
 obtain⟨hm,hq⟩:=IR h4
 obtain⟨i,hi,e⟩:=fw.1 hm
 have hq:(⟨z.sets[i]!.set.name,z.sets[i]!.set.ty⟩:Qst)=⟨n,2⟩:=by
  have:z.sets[i]! = z.sets[eY z.sets ⟨n,2⟩]! := by first|exact e|exact e.symm
  rw[this];exact hq
 injection hq with q1 q2
 exact⟨i,hi,q2,by rw[q1];exact hne,q1⟩
def LK{n:Str}(hn:ah n=true)(hr:n≠[46]):aI n (fQ n):=by
 unfold aI
 rw[(nk hn hr).2]
 exact List.dropLast_prefix _
theorem Kr{z:Zon}(hO:j6 z){c:Str}(hc:fq z c):∀f n,ah n=true->aI n c->(ay n).length<f->(mG z f n).2=true
 | 0,n,_,_,h=>by omega
 | f+1,n,hn,hu,hl=>by
  obtain⟨h1,h2⟩:=Ze4 hO hc;obtain⟨i,hi,_,_,hci⟩:=hc;have hca:aI c z.apex:=hci▸hO.und _ (dw hi);rw[mG]
  by_cases e:n=z.apex
  . subst e;exact absurd (xL hca hu) h2
  rw[XW e]
  by_cases e2:eX z.sets ⟨n,2⟩=true
  . rw[XY e2]
  rw[XW e2];have hne:n≠c:=λq=>e2 (q▸h1)
  obtain⟨hr,hu2⟩:=uh hn hu hne;refine Kr hO ⟨i,hi,by assumption,by assumption,hci⟩ f _ (nk hn hr).1 hu2 ?_
  have h6:(ay (fQ n)).length=(ay n).length-1:=by rw[(nk hn hr).2,List.length_dropLast]
  have h7:0<(ay n).length:=by
   rcases Nat.eq_zero_or_pos (ay n).length with q|q
   .
    exfalso
    have h8:ay n=[]:=Yf q;have h9:aI c n:=by unfold aI;rw[h8];exact List.nil_prefix
    exact hne (xL hu h9)
   exact q
  omega
noncomputable def cO(s:RSet)(t:Int):Bool:=xB .i64 s.data[0]!.n (xy t) != 0
noncomputable def dE(s:RSet)(n:Str):Bool:=!(cO s 2 && !cO s 4)||(n==s.name || !bC n s.name)
noncomputable def mV(s:RSet)(t:Int):Bool:=!cO s t && !cO s 3
def dz(a:Str)(s:RSet)(n:Str):Bool:=if !bC n a||decide (0<=eG s.name n)then false else s.data[0]!.t==a||decide (eG n s.data[0]!.t<0)
def bW(a:Str)(s:RSet):Bool:=if !decide (s.ty=8) || !bC s.name a then false else s.data.all λd=>bC d.t a
theorem AQ{α:Type}[Inhabited α]{p:α->Bool}{l:List α}{k:Nat}(hk:k<l.length):(l.drop k).all p=(p l[k]! && (l.drop (k+1)).all p):=by
 rw[Yn hk,List.all_cons,<-getElem!_pos l k hk]
end Go.Zon
namespace Go.Zon
open Go.DL Go.Str Go.Rec Go.Cmp Go.Jn
theorem Uw(x:BitVec 64):IntKind.i64.wrap x.toNat=x.toInt:=by
 have h:=x.isLt
 rw[BitVec.toInt_eq_toNat_cond]
 by_cases h1:(x.toNat:Int) % 2^64>=2^63
 .
  have e:IntKind.i64.wrap x.toNat=(x.toNat:Int) % 2^64-2^64:=XY (by exact YE h1)
  rw[e]
  split<;>omega
 have e:IntKind.i64.wrap x.toNat=(x.toNat:Int) % 2^64:=XW (by
  have h2:=YI h1;intro h3;have h3:decide ((x.toNat:Int) % 2^64>=2^63)=true:=h3;rw[h2]at h3
  cases h3)
 rw[e]
 split<;>omega
theorem Ej(x:BitVec 64):BitVec.ofInt 64 (IntKind.i64.wrap x.toNat)=x:=by
 rw[Uw,BitVec.ofInt_toInt]
def gb(v:Int)(t:Nat):Bool:=(BitVec.ofInt 64 v).getLsbD t
theorem yR(a b:Int)(t:Nat):gb (qa .i64 a b) t=(gb a t||gb b t):=by
 rw[Ef]
 unfold gb wL
 rw[show BitVec.ofInt 64 (IntKind.i64.wrap ((BitVec.ofInt IntKind.i64.bits a ||| BitVec.ofInt IntKind.i64.bits b).toNat))=BitVec.ofInt 64 a ||| BitVec.ofInt 64 b from Ej _]
 exact BitVec.getLsbD_or
def Zdc(a b:Int)(t:Nat):gb (zb .i64 a b) t=(gb a t&&gb b t):=by
 unfold gb zb
 rw[show BitVec.ofInt 64 (IntKind.i64.wrap ((BitVec.ofInt IntKind.i64.bits a &&& BitVec.ofInt IntKind.i64.bits b).toNat))=BitVec.ofInt 64 a &&& BitVec.ofInt 64 b from Ej _]
 exact BitVec.getLsbD_and
theorem JB(a b:Int){t:Nat}(ht:t<64):gb (CY .i64 a b) t=(gb a t && !gb b t):=by
 rw[K5]
 unfold gb CZ
 rw[show BitVec.ofInt 64 (IntKind.i64.wrap ((BitVec.ofInt IntKind.i64.bits a &&& ~~~ BitVec.ofInt IntKind.i64.bits b).toNat))=BitVec.ofInt 64 a &&& ~~~ BitVec.ofInt 64 b from Ej _]
 rw[BitVec.getLsbD_and,BitVec.getLsbD_not,YE ht,Zl]
theorem Qu(t:Nat):gb 0 t=false:=by simp[gb]
theorem Zgu(a b:Int):(xB .i64 a b≠0)↔∃t,t<64/\gb a t=true/\gb b t=true:=by
 rw[KZ]
 constructor
 .
  intro h;refine YR λhn=>h ?_
  have h1:BitVec.ofInt 64 a &&& BitVec.ofInt 64 b=0#64:=by
   apply BitVec.eq_of_getLsbD_eq
   intro i hi;rw[BitVec.getLsbD_and,BitVec.getLsbD_zero]
   cases h2:(BitVec.ofInt 64 a).getLsbD i&&(BitVec.ofInt 64 b).getLsbD i with
   | false=>rfl
   | true =>
    rw[XT]at h2;exact absurd ⟨i,hi,h2.1,h2.2⟩ hn
  unfold zb;rw[show(BitVec.ofInt IntKind.i64.bits a &&& BitVec.ofInt IntKind.i64.bits b)=0#64 from h1]
  rfl
 rintro⟨t,ht,h1,h2⟩ h3
 have:=Zdc a b t
 rw[h3,h1,h2,Qu]at this
 cases this
def Cr(t i:Nat)(ht:t<64):gb (IntKind.i64.wrap (1*2^(min (t:Int).toNat 64))) i=decide (i=t):=by
 have h1:(1*2^(min (t:Int).toNat 64):Int)=((BitVec.twoPow 64 t).toNat:Int):=by
  rw[BitVec.toNat_twoPow,Int.toNat_natCast,ZY (by omega),Zy (Nat.pow_lt_pow_right (by omega) ht)]
  simp
 unfold gb
 rw[h1,Ej,BitVec.getLsbD_twoPow]
 simp only[ht,decide_true,Zl]
 rw[YS,XV,XV]
 omega
theorem JC(t i:Nat)(ht:t<64):gb (xy t) i=decide (i=t):=by rw[KS];exact Cr t i ht
def Zgv(a:Int){t:Nat}(ht:t<64):(xB .i64 a (xy t) != 0)=gb a t:=by
 rw[YS,ZE,Zgu]
 constructor
 . rintro⟨i,hi,h1,h2⟩;rw[JC t i ht,XV]at h2;rw[<-h2];exact h1
 intro h
 exact⟨t,ht,h,by rw[JC t t ht];exact YE rfl⟩
theorem Ju(s:RSet){t:Nat}(ht:t<64):cO s t=gb s.data[0]!.n t:=Zgv _ ht
theorem Zbu{m:TM}{n x:Str}{v:Int}:gL (uE m n v) x=if n=x then v else gL m x:=by
 induction m with
 | nil=>simp[uE,gL]
 | cons p m ih =>
  unfold uE
  by_cases h:p.1=n
  .
   rw[XY h];simp only[gL]
   by_cases e:n=x
   . rw[XY e,XY e]
   rw[XW e,XW e,XW (λe2=>e (h▸e2))]
  rw[XW h];simp only[gL,ih]
  by_cases e:p.1=x
  . rw[XY e,XY e,XW (λe2=>h (e.trans e2.symm))]
  rw[XW e,XW e]
theorem FD{P:Nat->Prop}{k:Nat}:(∃j,j<k+1/\P j)↔(∃j,j<k/\P j)\/P k:=by
 constructor
 .
  rintro⟨j,h1,h2⟩
  by_cases e:j=k
  . subst e;exact .inr h2
  exact .inl ⟨j,om,h2⟩
 rintro (⟨j,h1,h2⟩|h)
 . exact⟨j,om,h2⟩
 exact⟨k,om,h⟩
theorem GG{l:List Sgd}(hl : ∀i,i<l.length->1<=l[i]!.set.ty/\l[i]!.set.ty<=8)(n:Str)(t:Nat):∀k,k<=l.length->(gb (gL (lU l k) n) t=true↔∃j,j<k/\l[j]!.set.name=n/\l[j]!.set.ty=t)
 | 0,_=>⟨λh=>by rw[show gL (lU l 0) n=0 from rfl,Qu]at h;exact absurd h Bool.noConfusion,λ⟨j,h,_⟩=>by omega⟩
 | k+1,hk=>by
  have ih:=GG hl n t k (by omega)
  rw[FD,<-ih,<-LM,Zbu]
  by_cases e:l[k]!.set.name=n
  .
   rw[XY e,yR,X8,e];obtain⟨h1,h2⟩:=hl k om;obtain⟨m,hm⟩:∃m:Nat,l[k]!.set.ty=m:=⟨l[k]!.set.ty.toNat,om⟩;rw[hm,JC m t (by omega),XV]
   refine or_congr Iff.rfl ⟨λh=>⟨rfl,om⟩,λh=>by have:=h.2;omega⟩
  rw[XW e];exact⟨.inl,λh=>h.elim id λh=>absurd h.1 e⟩
def Zc0(a:Str)(t:TM)(n:Str):gb (nP a t n) 8=true:=by
 have e1:gb 256 8=true:=(Cr 8 8 om).trans (by decide)
 have e2:gb 2 8=false:=(Cr 1 8 om).trans (by decide)
 unfold nP
 split
 . rw[JB _ _ (by omega),yR,e1,e2];simp
 rw[yR,e1];simp
def ZcZ{a:Str}{t:TM}{n:Str}{i:Nat}(hi:i<64)(h8:i≠8)(h:gb (nP a t n) i=true):gb (gL t n) i=true:=by
 have e1:gb 256 i=false:=(Cr 8 i om).trans (YI h8)
 unfold nP at h
 split at h
 . rw[JB _ _ hi,yR,e1,ZA,XT]at h;exact h.1
 rw[yR,e1,ZA]at h
 exact h
def ZcY{a:Str}{t:TM}{n:Str}{i:Nat}(hi:i<64)(h1:i≠1)(h:gb (gL t n) i=true):gb (nP a t n) i=true:=by
 have e2:gb 2 i=false:=(Cr 1 i om).trans (YI h1)
 unfold nP
 split
 . rw[JB _ _ hi,yR,e2,h];rfl
 rw[yR,h];rfl
theorem pG{a b:Str}(ha:ah a=true)(hb:ah b=true):eG a b=bH a b:=by
 unfold eG;rw[ha,hb];exact Eu a b
def UY(n:Str):aI n [46]:=by
 unfold aI;rw[show ay [46]=[]by decide];exact List.nil_prefix
def LJ{s z:Str}(hs:ah s=true)(hz:ah z=true)(h:aI s z)(hne:s≠z)(hr:z≠[46]):z.length<s.length:=by
 have h1:=(zi hs hz).2 h
 unfold under at h1
 simp only[X8,Yx,XT,XV]at h1
 rcases h1 with(h1|h1)|h1
 . exact absurd h1 hne
 . exact absurd h1 hr
 exact h1.1.1
theorem ZbB{n:Str}(h:ah n=true):0<n.length:=by
 cases n with
 | nil=>rw[BI]at h;cases h
 | cons=>simp
def Ey{a b c:Str}(h:bH a b<=0)(k:bH b c<=0):bH a c<=0:=gD.tr _ _ _ h k
def OP{a b c:Str}(h:bH a b<0)(k:bH b c<=0):bH a c<0:=gD.lt_le h k
theorem IG{a b:Str}(h:bH a b<=0)(hn:a≠b):bH a b<0:=by
 by_cases e:bH a b=0
 . exact absurd (zP e) hn
 omega
def OO{a b:Str}(h:bH a b<0):a≠b:=by rintro rfl;rw[gD.self]at h;omega
def Zbt(a b:Str):bH a b<=0\/bH b a<0:=by have:=gD.anti a b;omega
def Ex{a b:Str}(h:bH a b<0)(k:bH b a<=0):False:=by have:=gD.anti a b;omega
theorem Mj{p:Nat->Bool}{n:Nat}(mono : ∀i j,i<=j->j<n->p i=true->p j=true):(∀k,k<Bd p n->p k=false) /\ ∀k,Bd p n<=k->k<n->p k=true:=by
 have e : ∀k,(if p k then(0:Int)else -1)<0↔p k=false:=by
  intro k
  by_cases h:p k=true
  . rw[XY h,h];simp
  rw[XW h];simp[h]
 have h:=TD (λk=>if p k then(0:Int)else -1) n (λi j hij hj hc=>by
  have hc:=(e j).1 hc;refine(e i).2 ?_
  cases q:p i with
  | false=>rfl
  | true=>rw[mono i j hij hj q]at hc;cases hc) n 0 n (by omega) (Yl _) (X4 _) (λk hk=>absurd hk (Nat.not_lt_zero _)) (λk h1 h2=>absurd h2 (by omega))
 refine⟨λk hk=>(e k).1 (h.1 k hk),λk h1 h2=>?_⟩
 have:=h.2 k h1 h2
 cases q:p k with
 | true=>rfl
 | false=>exact absurd ((e k).2 q) this
theorem Nz{l:List Sgd}{q:Qst}:∀k,k<=l.length->(∃j,j<k/\l[j]!.q=q)->(lD (l8 l k) q).isSome=true
 | 0,_,⟨j,h,_⟩=>by omega
 | k+1,hk,⟨j,h,e⟩=>by
  rw[l8,Jh]
  by_cases e2:l[k]!.q=q
  . rw[XY e2];rfl
  rw[XW e2];refine Nz k om ⟨j,?_,e⟩
  by_cases e3:j=k
  . subst e3;exact absurd e e2
  omega
theorem D7{l:List Sgd}{q:Qst}:0<=aC l q↔∃s∈l,s.q=q:=by
 constructor
 . intro h;obtain⟨h1,h2⟩:=H9 h;exact⟨_,dw h1,h2⟩
 rintro⟨s,hs,rfl⟩
 obtain⟨j,hj,rfl⟩:=fw.1 hs
 have:=Nz (q:=l[j]!.q) l.length (X4 _) ⟨j,hj,rfl⟩
 unfold aC
 cases e:lD (l8 l l.length) l[j]!.q with
 | none=>rw[e]at this;cases this
 | some i =>
  obtain⟨j2,rfl,_⟩:=D6 l _ _ (X4 _) i e
  simp
theorem SE(l:List Sgd):∀k,(mH l k = -1 /\ ∀j,j<k->l[j]!.set.ty≠8) \/ ∃i:Nat,mH l k=i/\i<k/\l[i]!.set.ty=8 /\ ∀j,i<j->j<k->l[j]!.set.ty≠8
 | 0=>.inl ⟨rfl,λj h=>by omega⟩
 | k+1=>by
  unfold mH
  by_cases e:l[k]!.set.ty=8
  . rw[XY e];exact .inr ⟨k,rfl,om,e,λj h1 h2=>by omega⟩
  rw[XW e]
  rcases SE l k with⟨h1,h2⟩|⟨i,h1,h2,h3,h4⟩
  .
   refine .inl ⟨h1,λj hj=>?_⟩
   by_cases q:j=k
   . subst q;exact e
   exact h2 j om
  refine .inr ⟨i,h1,om,h3,λj a b=>?_⟩
  by_cases q:j=k
  . subst q;exact e
  exact h4 j a om
section
variable {z : Zon} (O : j6 z)
include O
def Zda{n:Str}(hn:ah n=true):∀i j,i<=j->j<z.sets.length->decide (0<=eG z.sets[i]!.set.name n)=true->decide (0<=eG z.sets[j]!.set.name n)=true:=by
 intro i j hij hj h
 rw[XV]at h ⊢
 rw[pG (O.nms _ (dw (by omega))) hn]at h
 rw[pG (O.nms _ (dw hj)) hn]
 have h1:=oU O hij hj
 have h2:=gD.anti z.sets[i]!.set.name n
 have h3:=gD.anti z.sets[j]!.set.name n
 have h4:=Ey (a:=n) (b:=z.sets[i]!.set.name) (c:=z.sets[j]!.set.name) (by omega) h1
 omega
def Zc4{n:Str}(hn:ah n=true):∀i j,i<=j->j<z.sets.length->decide (0<eG z.sets[i]!.set.name n)=true->decide (0<eG z.sets[j]!.set.name n)=true:=by
 intro i j hij hj h
 rw[XV]at h ⊢
 rw[pG (O.nms _ (dw (by omega))) hn]at h
 rw[pG (O.nms _ (dw hj)) hn]
 have h1:=oU O hij hj
 have h2:=gD.anti z.sets[i]!.set.name n
 have h3:=gD.anti z.sets[j]!.set.name n
 have h4:=OP (a:=n) (b:=z.sets[i]!.set.name) (c:=z.sets[j]!.set.name) (by omega) h1
 omega
def yX{n:Str}(hn:ah n=true):bZ z.sets n=true↔∃s∈z.sets,aI s.set.name n:=by
 have S:=Mj (p:=λi=>decide (0<=eG z.sets[i]!.set.name n)) (Zda O hn)
 have S1 : ∀k,k<nQ z.sets n->decide (0<=eG z.sets[k]!.set.name n)=false:=S.1
 have S2 : ∀k,nQ z.sets n<=k->k<z.sets.length->decide (0<=eG z.sets[k]!.set.name n)=true:=S.2
 unfold bZ
 rw[XT,XV]
 constructor
 . rintro⟨h1,h2⟩;exact⟨_,dw h1,(kW (O.nms _ (dw h1)) hn).1 h2⟩
 rintro⟨s,hs,hu⟩
 obtain⟨i,hi,rfl⟩:=fw.1 hs
 have hle:=ui hu
 have h1:nQ z.sets n<=i:=by
  refine Nat.le_of_not_lt λhlt=>?_
  have q:=S1 i hlt;rw[X3,pG (O.nms _ (dw hi)) hn]at q;have:=gD.anti n z.sets[i]!.set.name;omega
 have h2:nQ z.sets n<z.sets.length:=by omega
 have h3:=S2 _ (X4 _) h2
 rw[XV,pG (O.nms _ (dw h2)) hn]at h3
 have h4:=gD.anti z.sets[nQ z.sets n]!.set.name n
 exact⟨h2,(kW (O.nms _ (dw h2)) hn).2 (zk hu om (oU O h1 hi))⟩
def Zfe{n:Str}(hn:ah n=true)(hex : ∃s∈z.sets,s.set.ty=8/\bH s.set.name n<=0):∃i:Nat,bJ z.sets n=i/\i<z.sets.length/\z.sets[i]!.set.ty=8/\bH z.sets[i]!.set.name n<=0 /\ ∀s∈z.sets,s.set.ty=8->bH s.set.name n<=0->bH s.set.name z.sets[i]!.set.name<=0:=by
 have S:=Mj (p:=λi=>decide (0<eG z.sets[i]!.set.name n)) (Zc4 O hn)
 have S1 : ∀k,k<mO z.sets n->decide (0<eG z.sets[k]!.set.name n)=false:=S.1
 have S2 : ∀k,mO z.sets n<=k->k<z.sets.length->decide (0<eG z.sets[k]!.set.name n)=true:=S.2
 have hul:mO z.sets n<=z.sets.length:=Bc _ _
 have key : ∀j,j<z.sets.length->(j<mO z.sets n↔bH z.sets[j]!.set.name n<=0):=by
  intro j hj
  constructor
  . intro h;have q:=S1 j h;rw[X3,pG (O.nms _ (dw hj)) hn]at q;omega
  intro h;refine Nat.lt_of_not_le λhle=>?_
  have q:=S2 j hle hj;rw[XV,pG (O.nms _ (dw hj)) hn]at q;omega
 obtain⟨s,hs,h1,h2⟩:=hex
 obtain⟨j,hj,rfl⟩:=fw.1 hs
 have hju:=(key j hj).2 h2
 unfold bJ
 rcases SE z.sets (mO z.sets n)with⟨a,b⟩|⟨i,a,b,c,d⟩
 . exact absurd h1 (b j hju)
 have hi:i<z.sets.length:=by omega
 refine⟨i,a,hi,c,(key i hi).1 b,λs hs k1 k2=>?_⟩
 obtain⟨m,hm,rfl⟩:=fw.1 hs
 have hmu:=(key m hm).2 k2
 exact oU O (Nat.le_of_not_lt λq=>d m q hmu k1) hi
omit O in
def La(z:Zon)(n:Str):Prop:=∀c,fq z c->aI n c->c=n
def wJ{k:Nat}(hk:k<z.sets.length):mi (aO z) k↔La z z.sets[k]!.set.name:=by
 have B:=CV O hk
 show((iK z)[k]! = []\/(iK z)[k]! = z.sets[k]!.set.name)↔_
 rcases B with⟨h1,h2⟩|⟨h1,h2⟩
 . exact⟨λ_ c hc hu=>absurd hu (h2 c hc),λ_=>.inl h1⟩
 constructor
 .
  rintro (h|h)
  . exact absurd h h1
  intro c hc hu;have k:=Dn h2 hc hu;rw[h]at k;exact xL k hu
 intro h
 exact .inr (h _ h2.1 h2.2.1)
theorem Es : ∀k,k<=z.sets.length->sj bH (bF (aO z) k)/\(∀n∈bF (aO z) k,∃j,j<k/\mi (aO z) j/\z.sets[j]!.set.name=n)/\(∀j,j<k->mi (aO z) j->z.sets[j]!.set.name∈bF (aO z) k)
 | 0,_=>⟨.nil,λn h=>(by cases h),λj h=>by omega⟩
 | k+1,hk=>by
  obtain⟨a,b,c⟩:=Es k om
  by_cases ho:mi (aO z) k
  .
   by_cases hl:(bF (aO z) k).length=0\/(bF (aO z) k)[(bF (aO z) k).length-1]! ≠ z.sets[k]!.set.name
   .
    rw[zO ho hl];refine⟨Zn.2 ⟨a,ZZ _ _,λx hx y hy=>?_⟩,λn hn=>?_,λj hj hoj=>?_⟩
    .
     rw[Yd.1 hy];obtain⟨j,hj,_,e1⟩:=b x hx;have h0:=oU O (show j<=k by omega) (by omega)
     rw[e1]at h0;refine IG h0 λe=>?_
     have hne:bF (aO z) k≠[]:=λq=>by rw[q]at hx;cases hx
     rcases hl with hl|hl
     . exact hne (List.length_eq_zero_iff.1 hl)
     rcases NH a hx with q|q
     . exact hl (q.symm.trans e)
     obtain⟨j2,hj2,_,e2⟩:=b _ (BO hne);have h5:=oU O (show j2<=k by omega) (by omega)
     rw[e2]at h5;have h6:=OP q h5;exact OO h6 e
    .
     rcases Yo.1 hn with h|h
     . obtain⟨j,h1,h2⟩:=b n h;exact⟨j,om,h2⟩
     exact⟨k,om,ho,(Yd.1 h).symm⟩
    by_cases e:j=k
    . subst e;exact List.mem_append_right _ (Yd.2 rfl)
    exact ZC _ (c j om hoj)
   rw[zN hl];refine⟨a,λn hn=>?_,λj hj hoj=>?_⟩
   . obtain⟨j,h1,h2⟩:=b n hn;exact⟨j,om,h2⟩
   by_cases e:j=k
   .
    subst e;have h7:=not_or.1 hl;have hne:bF (aO z) j≠[]:=λq=>h7.1 (by rw[q];rfl)
    have h6:=BO hne;rw[Decidable.not_not.1 h7.2]at h6;exact h6
   exact c j om hoj
  rw[Et ho];refine⟨a,λn hn=>?_,λj hj hoj=>?_⟩
  . obtain⟨j,h1,h2⟩:=b n hn;exact⟨j,om,h2⟩
  by_cases e:j=k
  . subst e;exact absurd hoj ho
  exact c j om hoj
omit O in
def Zbq(x:Lay)(k:Nat):bF x k <+: bF x (k+1):=by
 by_cases ho:mi x k
 .
  by_cases hl:(bF x k).length=0\/(bF x k)[(bF x k).length-1]! ≠ x.z.sets[k]!.set.name
  . rw[zO ho hl];exact List.prefix_append _ _
  rw[zN hl];exact List.prefix_rfl
 rw[Et ho];exact List.prefix_rfl
omit O in
theorem OJ(x:Lay){j:Nat}:∀k,j<=k->bF x j <+: bF x k
 | 0,h=>by rw[Nat.le_zero.1 h];exact List.prefix_rfl
 | k+1,h=>by
  by_cases e:j=k+1
  . rw[e];exact List.prefix_rfl
  exact(OJ x k om).trans (Zbq x k)
omit O in
def ZaI{α:Type}[Inhabited α]{a b:List α}(h:a <+: b){i:Nat}(hi:i<a.length):a[i]! = b[i]! := by
 obtain⟨r,rfl⟩:=h
 rw[getElem!_pos a i hi,getElem!_pos (a++r) i (by rw[Yr];omega),List.getElem_append_left hi]
omit O in
def OL{x:Lay}{k:Nat}(ho:mi x k):bF x (k+1)≠[]/\(bF x (k+1))[(bF x (k+1)).length-1]! = x.z.sets[k]!.set.name:=by
 by_cases hl:(bF x k).length=0\/(bF x k)[(bF x k).length-1]! ≠ x.z.sets[k]!.set.name
 .
  rw[zO ho hl];refine⟨by simp,?_⟩
  rw[Yr,List.length_singleton,Nat.add_sub_cancel,getElem!_pos _ _ (by simp),List.getElem_append_right (X4 _)]
  simp
 rw[zN hl]
 have h7:=not_or.1 hl
 exact⟨λq=>h7.1 (by rw[q];rfl),Decidable.not_not.1 h7.2⟩
def Open(z:Zon)(k:Nat):Prop:=0<k/\k<z.sets.length/\z.sets[k]!.set.name=z.sets[k-1]!.set.name/\mi (aO z) (k-1)
theorem Tq{nx:List RSet}(hlen:nx.length=(aT z).length)(hnm : ∀i,i<nx.length->nx[i]!.name=(aT z)[i]!):∀k,k<=z.sets.length->((Open z k->(bB z.sets nx k).2+1=(bF (aO z) k).length)/\(¬Open z k->(bB z.sets nx k).2=(bF (aO z) k).length))
 | 0,_=>⟨λh=>absurd h.1 om,λ_=>rfl⟩
 | k+1,hk=>by
  obtain⟨ih1,ih2⟩:=Tq hlen hnm k om;have hk1:k<z.sets.length:=by omega
  have hpre:=OJ (aO z) z.sets.length hk;have hnlen:(bF (aO z) (k+1)).length<=(aT z).length:=hpre.length_le
  by_cases ho:mi (aO z) k
  .
   obtain⟨hne,hlast⟩:=OL ho;have hpos:=YV.2 hne;have ht:(bB z.sets nx k).2+1=(bF (aO z) (k+1)).length:=by
    by_cases hop:Open z k
    .
     rw[ih1 hop,zN];obtain⟨p1,p2,p3,p4⟩:=hop;obtain⟨q1,q2⟩:=OL p4;rw[show k-1+1=k by omega]at q1 q2
     have:=YV.2 q1;intro h
     rcases h with h|h
     . omega
     exact h (q2.trans p3.symm)
    have hl:(bF (aO z) k).length=0\/(bF (aO z) k)[(bF (aO z) k).length-1]! ≠ (aO z).z.sets[k]!.set.name:=by
     by_cases e:(bF (aO z) k).length=0
     . exact .inl e
     right
     intro e2;have hne2:bF (aO z) k≠[]:=λq=>e (by rw[q];rfl)
     obtain⟨j,hj,hoj,e3⟩:=(Es O k om).2.1 _ (BO hne2);have e4:z.sets[j]!.set.name=z.sets[k]!.set.name:=e3.trans e2;have e5:=Od O (show j<=k-1 by omega) (show k-1<=k by omega) hk1 e4
     refine hop ⟨om,hk1,e5.symm,(wJ O om).2 ?_⟩;rw[e5];exact(wJ O hk1).1 ho
    rw[ih2 hop,zO ho hl]
    simp
   by_cases hg:k+1<z.sets.length/\z.sets[k+1]!.set.name=z.sets[k]!.set.name
   . rw[CR hg];exact⟨λ_=>ht,λh=>absurd ⟨om,hg.1,by rw[Nat.add_sub_cancel];exact hg.2,by rw[Nat.add_sub_cancel];exact ho⟩ h⟩
   have hb:(bB z.sets nx k).2<nx.length/\nx[(bB z.sets nx k).2]!.name=z.sets[k]!.set.name:=by
    refine⟨om,?_⟩;rw[hnm _ (by omega)]
    have h9:=ZaI hpre (i:=(bF (aO z) (k+1)).length-1) (by omega)
    rw[hlast]at h9;rw[show(bB z.sets nx k).2=(bF (aO z) (k+1)).length-1 by omega]
    exact h9.symm
   rw[F9 hg hb];refine⟨λh=>absurd ⟨h.2.1,?_⟩ hg,λ_=>ht⟩
   have:=h.2.2.1;rw[Nat.add_sub_cancel]at this;exact this
  have hno : ¬Open z k:=λ⟨p1,p2,p3,p4⟩=>ho ((wJ O hk1).2 (by rw[p3];exact(wJ O (by omega)).1 p4))
  have ht:=ih2 hno;rw[Et ho];have yI : ¬Open z (k+1):=λ⟨p1,p2,p3,p4⟩=>ho (by rw[Nat.add_sub_cancel]at p4;exact p4)
  refine⟨λh=>absurd h yI,λ_=>?_⟩
  by_cases hg:k+1<z.sets.length/\z.sets[k+1]!.set.name=z.sets[k]!.set.name
  . rw[CR hg];exact ht
  rw[F8 hg]
  . exact ht
  rintro⟨h1,h2⟩;rw[hnm _ h1]at h2;have h3:(aT z)[(bB z.sets nx k).2]! ∈ aT z:=dw om;obtain⟨j,hj,hoj,e⟩:=(Es O z.sets.length (X4 _)).2.1 _ h3;exact ho ((wJ O hk1).2 (by rw[<-h2,<-e];exact(wJ O hj).1 hoj))
def ZfE{nx:List RSet}(hlen:nx.length=(aT z).length)(hnm : ∀i,i<nx.length->nx[i]!.name=(aT z)[i]!):(bB z.sets nx z.sets.length).2=(aT z).length :=
 (Tq O hlen hnm z.sets.length (X4 _)).2 λh=>absurd h.2.1 om
end
theorem Tp(l:List Sgd)(nx:List RSet):∀k s,s∈(bB l nx k).1↔(∃j,j<k/\s=l[j]!) \/ ∃j,j<(bB l nx k).2/\s=⟨nx[j]!,[]⟩
 | 0,s=>⟨λh=>(by cases h),λh=>by rcases h with⟨j,h,_⟩|⟨j,h,_⟩<;>exact absurd h (Nat.not_lt_zero _)⟩
 | k+1,s=>by
  have ih:=Tp l nx k s;rw[FD]
  by_cases hg:k+1<l.length/\l[k+1]!.set.name=l[k]!.set.name
  .
   rw[CR hg];simp only[Yo,Yd,ih]
   grind
  by_cases hb:(bB l nx k).2<nx.length/\nx[(bB l nx k).2]!.name=l[k]!.set.name
  .
   rw[F9 hg hb];simp only[Yo,Yd,ih,FD]
   grind
  rw[F8 hg hb];simp only[Yo,Yd,ih]
  grind
end Go.Zon
namespace Go.Zon
open Go.DL Go.Str Go.Rec Go.Cmp Go.Jn
theorem anc : ∀(k:Nat)(n:Str)(r:List Str),ah n=true->r <+: ay n->r.length+k=(ay n).length -> ∃e,ah e=true/\ay e=r
 | 0,n,r,hn,h,hl=>⟨n,hn,(List.IsPrefix.eq_of_length h om).symm⟩
 | k+1,n,r,hn,h,hl=>by
  have hr:n≠[46]:=λq=>by
   rw[q,show ay [46]=[]by decide]at hl
   simp at hl
  obtain⟨h1,h2⟩:=nk hn hr;refine anc k (fQ n) r h1 ?_ ?_
  . rw[h2];exact List.prefix_of_prefix_length_le h (List.dropLast_prefix _) (by rw[List.length_dropLast];omega)
  rw[h2,List.length_dropLast];omega
def iI:List Str->List Str->List Str
 | x::xs,y::ys=>if x=y then x::iI xs ys else[]
 | _,_=>[]
theorem Az : ∀a b:List Str,iI a b <+: a
 | [],b=>by unfold iI;exact List.prefix_rfl
 | x::xs,[]=>by unfold iI;exact List.nil_prefix
 | x::xs,y::ys=>by
  unfold iI
  split
  . exact List.cons_prefix_cons.2 ⟨rfl,Az xs ys⟩
  exact List.nil_prefix
theorem S9 : ∀a b:List Str,iI a b <+: b
 | [],b=>by unfold iI;exact List.nil_prefix
 | x::xs,[]=>by unfold iI;exact List.prefix_rfl
 | x::xs,y::ys=>by
  unfold iI
  split
  .
   rename_i e
   exact List.cons_prefix_cons.2 ⟨e,S9 xs ys⟩
  exact List.nil_prefix
theorem Ta : ∀e a b:List Str,e <+: a->e <+: b->e <+: iI a b
 | [],_,_,_,_=>List.nil_prefix
 | z::e,[],b,h,_=>by simp at h
 | z::e,x::xs,[],_,h=>by simp at h
 | z::e,x::xs,y::ys,h,k=>by
  obtain⟨h1,h2⟩:=List.cons_prefix_cons.1 h;obtain⟨k1,k2⟩:=List.cons_prefix_cons.1 k;unfold iI;rw[XY (h1.symm.trans k1)];exact List.cons_prefix_cons.2 ⟨h1,Ta e xs ys h2 k2⟩
def fJ(a b:Str):Str:=if iI (ay a) (ay b)=[]then[46]else dB (iI (ay a) (ay b)).reverse
theorem CL{a:Str}(ha:ah a=true)(b:Str):ah (fJ a b)=true/\ay (fJ a b)=iI (ay a) (ay b):=by
 have hl:=(Az (ay a) (ay b)).length_le
 obtain⟨e,he,hr⟩:=anc ((ay a).length-(iI (ay a) (ay b)).length) a _ ha (Az (ay a) (ay b)) om
 have:fJ a b=e:=by
  unfold fJ
  by_cases h:iI (ay a) (ay b)=[]
  . rw[XY h];rw[h]at hr;exact qV (by rw[hr];decide)
  rw[XW h,<-hr];have hne:e≠[46]:=λq=>h (by rw[<-hr,q];decide)
  unfold ay;rw[XW hne,jK,List.reverse_reverse];exact rG e
 rw[this]
 exact⟨he,hr⟩
def SS{a:Str}(ha:ah a=true)(b:Str):aI a (fJ a b):=by
 unfold aI;rw[(CL ha b).2];exact Az _ _
def SN{a:Str}(ha:ah a=true)(b:Str):aI b (fJ a b):=by
 unfold aI;rw[(CL ha b).2];exact S9 _ _
def SQ{a b e:Str}(ha:ah a=true)(h:aI a e)(k:aI b e):aI (fJ a b) e:=by
 unfold aI;rw[(CL ha b).2];exact Ta _ _ _ h k
def j4(n:Str)(s:RSet):Str:=if(fJ n s.name).length<(fJ n s.data[0]!.t).length\/fJ n s.name=[46]then fJ n s.data[0]!.t else fJ n s.name
def Q5{n:Str}(hn:ah n=true)(s:RSet):ah (j4 n s)=true/\aI n (j4 n s)/\(j4 n s=fJ n s.name\/j4 n s=fJ n s.data[0]!.t)/\aI (j4 n s) (fJ n s.name)/\aI (j4 n s) (fJ n s.data[0]!.t):=by
 have a1:=(CL hn s.name).1
 have b1:=(CL hn s.data[0]!.t).1
 have a2:=SS hn s.name
 have b2:=SS hn s.data[0]!.t
 unfold j4
 by_cases h:(fJ n s.name).length<(fJ n s.data[0]!.t).length\/fJ n s.name=[46]
 .
  rw[XY h];refine⟨b1,b2,.inr rfl,?_,ko _⟩
  rcases h with h|h
  .
   rcases A9 a2 b2 with q|q
   .
    by_cases e:fJ n s.name=fJ n s.data[0]!.t
    . rw[e]at h;omega
    by_cases e2:fJ n s.data[0]!.t=[46]
    . have:=ZbB a1;rw[e2,List.length_singleton]at h;omega
    have:=LJ a1 b1 q e e2;omega
   exact q
  rw[h];exact UY _
 rw[XW h]
 refine⟨a1,a2,.inl rfl,ko _,?_⟩
 obtain⟨h1,h2⟩:=not_or.1 h
 rcases A9 a2 b2 with q|q
 . exact q
 by_cases e:fJ n s.data[0]!.t=fJ n s.name
 . rw[e];exact ko _
 have:=LJ b1 a1 q e h2
 omega
theorem UH{e:Str}(he:ah e=true)(h:(gM (gJ e)).2=0):ah (kg e)=true/\ay (kg e)=ay e++[[42]]:=by
 have hne:gJ e≠[]:=by simp[gJ]
 unfold gM at h
 rw[XW hne]at h
 split at h
 . cases h
 rename_i h1
 split at h
 . cases h
 rename_i h2
 split at h
 . cases h
 rename_i h3
 have hW:kg e=dB (gJ e):=by unfold kg gM;rw[XW hne,XW h1,XW h2,XW h3]
 have hs:split (dB (gJ e))=gJ e:=by
  unfold gJ aM
  by_cases q:e=[46]
  . rw[XY q];decide
  rw[XW q,qQ];obtain⟨p,r,hp⟩:∃p r,split e=p::r:=by
   cases h:split e with
   | nil=>exact absurd h (qP e)
   | cons p r=>exact⟨p,r,rfl⟩
  have:dB ([42]::split e)=[42]++46::e:=by
   rw[hp]
   show[42]++46::dB (p::r)=_
   rw[<-hp,rG]
  rw[this,Bf];rfl
 have hnr:dB (gJ e)≠[46]:=λq=>by
  rw[q,show split [46]=[[],[]]by decide]at hs
  unfold gJ at hs
  injection hs with h1 _
  cases h1
 rw[hW]
 constructor
 . unfold ah;rw[XW hnr,XW h3,qQ,hs,XT];exact⟨by simpa using h2,YE om⟩
 unfold ay
 rw[XW hnr,jK,hs]
 unfold gJ aM
 by_cases q:e=[46]
 . rw[XY q,XY q];rfl
 rw[XW q,XW q,qQ,List.reverse_cons,jK]
def VA{W m:Str}{r:List Str}(hW:ay W=r++[[42]])(hm:ah m=true)(hu:aI m W):m=W:=by
 obtain⟨t,ht⟩:=hu
 by_cases e:t=[]
 . rw[e,YZ]at ht;exact qV ht.symm
 exfalso
 have hr:m≠[46]:=λq=>by
  rw[q,hW,show ay [46]=[]by decide]at ht
  simp at ht
 obtain⟨_,_,h3⟩:=EB hm hr
 have hs:split m=t.reverse++[42]::r.reverse:=by
  have h1:ay m=(split m).reverse:=by unfold ay;rw[XW hr,jK]
  rw[h1,hW]at ht;have h2:=congrArg List.reverse ht;rw[List.reverse_reverse]at h2;rw[<-h2]
  simp
 have h4:=h3 t.length (by rw[hs];simp)
 unfold fP at h4
 have h5:(split m)[t.length]! = [42]:=by
  rw[hs,getElem!_pos _ _ (by simp),List.getElem_append_right (by simp)]
  simp
 have h6:decide (t.length=0)=false:=YI λq=>e (List.length_eq_zero_iff.1 q)
 have h7:dN [42]=false:=by unfold dN;rw[dY (k:=0) (by decide) (by decide)];rfl
 rw[h5,h6,h7]at h4
 cases h4
theorem KM{z:Zon}(O:j6 z)(hA:bZ z.sets z.apex=true):∀f n,ah n=true->aI n z.apex->(ay n).length<f->ah (gP z n)=true/\aI n (gP z n)/\aI (gP z n) z.apex/\bZ z.sets (gP z n)=true /\ ∀e,ah e=true->aI n e->bZ z.sets e=true->aI (gP z n) e
 | 0,n,_,_,h=>by omega
 | f+1,n,hn,hu,hl=>by
  by_cases h:n=z.apex\/bZ z.sets n=true
  .
   rw[Tn h];refine⟨hn,ko _,hu,?_,λe _ k _=>k⟩
   rcases h with h|h
   . rw[h];exact hA
   exact h
  obtain⟨h1,h2⟩:=not_or.1 h;have h2:bZ z.sets n=false:=by simpa using h2
  obtain⟨c1,c2⟩:=KL hn hu h1 h2;obtain⟨hr,hu2⟩:=uh hn hu h1;obtain⟨a,b,c,d,g⟩:=KM O hA f (fQ n) (nk hn hr).1 hu2 om;rw[c1];refine⟨a,sw (LK hn hr) b,c,d,λe he k1 k2=>?_⟩
  have hne:n≠e:=λq=>by rw[<-q,h2]at k2;cases k2
  exact g e he (uh hn k1 hne).2 k2
theorem cut_at{z:Zon}(O:j6 z):∀f n,ah n=true->aI n z.apex->(mG z f n).2=true->fq z (mG z f n).1/\aI n (mG z f n).1
 | 0,n,_,_,h=>by cases h
 | f+1,n,hn,hu,h=>by
  rw[mG]at h ⊢
  by_cases e:n=z.apex
  . rw[XY e]at h;cases h
  rw[XW e]at h ⊢
  by_cases e2:eX z.sets ⟨n,2⟩=true
  . rw[XY e2];exact⟨ZcX O hn e2 e,ko _⟩
  rw[XW e2]at h ⊢;obtain⟨hr,hu2⟩:=uh hn hu e;obtain⟨k1,k2⟩:=cut_at O f _ (nk hn hr).1 hu2 h;exact⟨k1,sw (LK hn hr) k2⟩
structure Da(p c:Zon)(ns:List Str):Prop where
 pz:aN p=true
 cz:aN c=true
 apex:c.apex=p.apex
 no8 : ∀s∈p.sets,s.set.ty≠8
 mem : ∀s,s∈c.sets↔s∈p.sets \/ ∃j,j<ns.length/\s=⟨aY p ns j,[]⟩
 ord:sj bH ns
 src : ∀n∈ns,∃s∈p.sets,s.set.name=n
 own : ∀s∈p.sets,La p s.set.name->s.set.name∈ns
theorem IJ{p:Zon}{ns:List Str}{j:Nat}(hj:j<ns.length):(nextF p ns)[j]! = aY p ns j:=by
 unfold nextF
 rw[getElem!_pos _ _ (by rw[YY,List.length_range];exact hj),List.getElem_map,List.getElem_range]
def ZfD{z:Zon}(h:(dW z).2=0)(hc:aN (dW z).1=true):Da (plainOf z) (dW z).1 (aT (plainOf z))/\(dW z).1.apex=z.apex:=by
 unfold dW at h hc ⊢
 split at h
 . cases h
 rename_i h1
 split at h
 . cases h
 rename_i h2
 split at h
 . cases h
 rename_i h3
 rw[XW h1,XW h2,XW h3]at hc ⊢
 have hp:aN (plainOf z)=true:=by simpa using h2
 have O:=Db hp
 have hlen:(nextF (plainOf z) (aT (plainOf z))).length=(aT (plainOf z)).length:=by
  unfold nextF;rw[YY,List.length_range]
 have hE:=ZfE O hlen (λi hi=>by rw[IJ (by omega)];rfl)
 obtain⟨N1,N2,N3⟩:=Es O (plainOf z).sets.length (X4 _)
 refine⟨⟨hp,hc,rfl,λs hs=>?_,λs=>?_,N1,λn hn=>?_,λs hs ho=>?_⟩,rfl⟩
 .
  have:=(YJ.1 hs).2
  simpa using this
 .
  show s∈(bB (plainOf z).sets (nextF (plainOf z) (aT (plainOf z))) (plainOf z).sets.length).1↔_
  rw[Tp,hE,fw];refine or_congr ⟨λ⟨j,a,b⟩=>⟨j,a,b.symm⟩,λ⟨j,a,b⟩=>⟨j,a,b.symm⟩⟩ ⟨λ⟨j,a,b⟩=>⟨j,a,by rw[b,IJ a]⟩,λ⟨j,a,b⟩=>⟨j,a,by rw[b,IJ a]⟩⟩
 . obtain⟨j,hj,_,e⟩:=N2 n hn;exact⟨_,dw hj,e⟩
 obtain⟨j,hj,rfl⟩:=fw.1 hs
 exact N3 j hj ((wJ O hj).2 ho)
def nA(ns:List Str)(j:Nat):Str:=ns[(j+1) % ns.length]!
def vG(p:Zon)(n:Str):Prop:=∀c,fq p c -> ¬aI n c
structure xH(ns:List Str)(j:Nat)(n:Str):Prop where
 lt:j<ns.length
 le:bH ns[j]! n<=0
 max : ∀k,k<ns.length->bH ns[k]! n<=0->k<=j
section
variable {p c : Zon} {ns : List Str} (K : Da p c ns)
include K
def tV:j6 c:=Db K.cz
theorem lh:j6 p:=Db K.pz
theorem rz{j:Nat}(hj:j<ns.length):ah ns[j]! = true/\aI ns[j]! p.apex:=by
 obtain⟨s,hs,e⟩:=K.src _ (dw hj)
 rw[<-e]
 exact⟨(lh K).nms s hs,(lh K).und s hs⟩
def ym{i j:Nat}(hij:i<j)(hj:j<ns.length):bH ns[i]! ns[j]! < 0:=vT K.ord hij hj
def yn{j:Nat}(hj:j<ns.length):(⟨aY p ns j,[]⟩:Sgd)∈c.sets:=(K.mem _).2 (.inr ⟨j,hj,rfl⟩)
def Ih{s:Sgd}(h:s∈p.sets):s∈c.sets:=(K.mem s).2 (.inl h)
def AC{s:Sgd}(h:s∈c.sets)(h8:s.set.ty=8):∃j,j<ns.length/\s=⟨aY p ns j,[]⟩:=by
 rcases(K.mem s).1 h with h|h
 . exact absurd h8 (K.no8 s h)
 exact h
def c_p{s:Sgd}(h:s∈c.sets)(h8:s.set.ty≠8):s∈p.sets:=by
 rcases(K.mem s).1 h with h|⟨j,_,rfl⟩
 . exact h
 exact absurd rfl h8
def NI : ∃s∈p.sets,s.set.name=p.apex/\s.set.ty=4:=by
 have O:=lh K
 have h1:mK p=true:=by have h:=K.pz;unfold aN at h;simp only[XT]at h;exact h.1.1.1.1.2
 have hf:eX p.sets ⟨p.apex,4⟩=true:=by
  unfold mK at h1;rw[XT]at h1;exact(fe _ _ _).1 h1.1 0 (X4 _) om
 have e1:=Cv O.ord O.nms (q:=⟨p.apex,4⟩) O.apex
 rw[XY hf]at e1
 obtain⟨hm,hq⟩:=IR e1
 refine⟨_,hm,?_,?_⟩
 . exact congrArg Qst.name hq
 exact congrArg Qst.ty hq
def p_fit{s:Sgd}(h:s∈p.sets):s.set.ty=4->s.set.name=p.apex:=by
 have h1:mK p=true:=by have h:=K.pz;unfold aN at h;simp only[XT]at h;exact h.1.1.1.1.2
 obtain⟨j,hj,rfl⟩:=fw.1 h
 unfold mK at h1
 rw[XT]at h1
 have h2:=(fe _ _ _).1 h1.2 j (Yl _) hj
 intro h4
 unfold mr fits at h2
 rw[h4]at h2
 simpa using h2
def ZaZ:La p p.apex:=by
 intro c' hc hu
 obtain⟨i,hi,_,h2,rfl⟩:=hc
 exact xL ((lh K).und _ (dw hi)) hu
def En:0<ns.length/\ns[0]! = p.apex:=by
 obtain⟨s,hs,e,_⟩:=NI K
 have h1:=K.own s hs (by rw[e];exact ZaZ K)
 rw[e]at h1
 obtain⟨j,hj,e2⟩:=fw.1 h1
 refine⟨om,?_⟩
 by_cases e3:j=0
 . rw[<-e3];exact e2
 exfalso
 have h2:=ym K (show 0<j by omega) hj
 rw[e2]at h2
 exact Ex h2 (ui (rz K (show 0<ns.length by omega)).2)
def Iy{j:Nat}(hj:j<ns.length):ah (nA ns j)=true/\aI (nA ns j) p.apex /\ ∃k,k<ns.length/\nA ns j=ns[k]! := by
 have h:(j+1) % ns.length<ns.length:=Nat.mod_lt _ om
 exact⟨(rz K h).1,(rz K h).2,_,h,rfl⟩
omit K in
theorem El{j:Nat}(hj:j+1<ns.length):nA ns j=ns[j+1]! := by unfold nA;rw[Zy hj]
theorem Za9{j:Nat}(hj:j<ns.length)(h : ¬j+1<ns.length):nA ns j=p.apex:=by
 unfold nA
 rw[show j+1=ns.length by omega,Nat.mod_self]
 exact(En K).2
omit K in
def OT{j:Nat}:(aY p ns j).name=ns[j]! /\ (aY p ns j).ty=8/\(aY p ns j).data=[⟨nA ns j,nP p.apex (lU p.sets p.sets.length) ns[j]!,0⟩]:=⟨rfl,rfl,rfl⟩
omit K in
theorem BF{j:Nat}:(aY p ns j).data[0]!.t=nA ns j:=rfl
def Kt{n:Str}:fq c n↔fq p n:=by
 constructor
 . rintro⟨i,hi,h1,h2,rfl⟩;have:=c_p K (dw hi) om;obtain⟨j,hj,e⟩:=fw.1 this;exact⟨j,hj,by rw[e];exact h1,by rw[e,<-K.apex];exact h2,by rw[e]⟩
 rintro⟨i,hi,h1,h2,rfl⟩
 obtain⟨j,hj,e⟩:=fw.1 (Ih K (dw hi))
 exact⟨j,hj,by rw[e];exact h1,by rw[e,K.apex];exact h2,by rw[e]⟩
omit K in
def Ze3{n:Str}(h:fq p n):(∃s∈p.sets,s.set.name=n/\s.set.ty=2)/\n≠p.apex:=by
 obtain⟨i,hi,h1,h2,rfl⟩:=h
 exact⟨⟨_,dw hi,rfl,h1⟩,h2⟩
omit K in
theorem has_8(j:Nat):cO (aY p ns j) 8=true:=by
 rw[show(8:Int)=((8:Nat):Int)from rfl,Ju _ (by omega)]
 exact Zc0 _ _ _
def E8{j t:Nat}(ht:t<64)(h8:t≠8)(h:cO (aY p ns j) t=true):∃s∈p.sets,s.set.name=ns[j]! /\ s.set.ty=t:=by
 rw[Ju _ ht]at h
 have h1:=ZcZ ht h8 h
 obtain⟨i,hi,h2⟩:=(GG (λi hi=>GH (lh K) hi) _ t _ (X4 _)).1 h1
 exact⟨_,dw hi,h2⟩
def Qm{j t:Nat}(ht:t<64)(h1:t≠1){s:Sgd}(hs:s∈p.sets)(hn:s.set.name=ns[j]!)(hy:s.set.ty=t):cO (aY p ns j) t=true:=by
 rw[Ju _ ht]
 obtain⟨i,hi,rfl⟩:=fw.1 hs
 exact ZcY ht h1 ((GG (λi hi=>GH (lh K) hi) _ t _ (X4 _)).2 ⟨i,hi,hn,hy⟩)
def SC{j:Nat}(h2:cO (aY p ns j) 2=true)(h4:cO (aY p ns j) 4=false):fq p ns[j]! := by
 obtain⟨s,hs,e1,e2⟩:=E8 K (t:=2) om om h2
 obtain⟨i,hi,e3⟩:=fw.1 hs
 refine⟨i,hi,by rw[e3];exact e2,?_,by rw[e3];exact e1⟩
 rw[e3,e1]
 intro e
 obtain⟨s2,hs2,f1,f2⟩:=NI K
 have:=Qm K (j:=j) (t:=4) om om hs2 (f1.trans e.symm) f2
 rw[show((4:Nat):Int)=4 from rfl,h4]at this
 cases this
theorem Za8{j:Nat}(h:fq p ns[j]!):cO (aY p ns j) 2=true/\cO (aY p ns j) 4=false:=by
 obtain⟨⟨s,hs,e1,e2⟩,hne⟩:=Ze3 h
 refine⟨Qm K (t:=2) om om hs e1 e2,?_⟩
 cases q:cO (aY p ns j) 4 with
 | false=>rfl
 | true =>
  obtain⟨s2,hs2,f1,f2⟩:=E8 K (t:=4) om om q;exact absurd (f1▸p_fit K hs2 f2) hne
def FW{n:Str}(h:fq p n):n∈ns:=by
 obtain⟨i,hi,h1,h2,rfl⟩:=h
 have O:=lh K
 refine K.own _ (dw hi) ?_
 have hc:cutAt (aO p) i=true:=by
  have h:=K.pz;unfold aN at h;simp only[XT]at h;exact(fe _ _ _).1 h.1.1.2 i (Yl _) hi
 refine(wJ O hi).1 ?_
 show(iK p)[i]! = []\/(iK p)[i]! = p.sets[i]!.set.name
 have hc:(if(iK p)[i]! = []then !decide (p.sets[i]!.set.ty=6)else if(iK p)[i]! = p.sets[i]!.set.name then decide (p.sets[i]!.set.ty=2)||decide (p.sets[i]!.set.ty=6)||decide (p.sets[i]!.set.ty=8)||decide (p.sets[i]!.set.ty=1)else decide (p.sets[i]!.set.ty=1))=true:=hc
 by_cases a:(iK p)[i]! = []
 . exact .inl a
 by_cases b:(iK p)[i]! = p.sets[i]!.set.name
 . exact .inr b
 rw[XW a,XW b,h1]at hc
 exact absurd hc (by decide)
def CK{n:Str}(hn:ah n=true)(hu:aI n p.apex):∃j,xH ns j n /\ ∃i:Nat,bJ c.sets n=i/\i<c.sets.length/\c.sets[i]! = ⟨aY p ns j,[]⟩:=by
 obtain⟨h0,e0⟩:=En K
 obtain⟨i,h1,h2,h3,h4,h5⟩:=Zfe (tV K) hn ⟨_,yn K h0,rfl,by show bH ns[0]! n<=0;rw[e0];exact ui hu⟩
 obtain⟨j,hj,e⟩:=AC K (dw h2) h3
 refine⟨j,⟨hj,?_,λk hk hle=>?_⟩,i,h1,h2,e⟩
 . rw[e]at h4;exact h4
 have h6:=h5 _ (yn K hk) rfl hle
 rw[e]at h6
 have h6:bH ns[k]! ns[j]! <= 0:=h6
 exact Nat.le_of_not_lt λq=>Ex (ym K q hk) h6
omit K in
theorem SG{j:Nat}{n:Str}(C:xH ns j n)(h:j+1<ns.length):bH n ns[j+1]! < 0:=by
 rcases Zbt ns[j+1]! n with q|q
 . have:=C.max _ h q;omega
 exact q
def Kw{j:Nat}{n:Str}(C:xH ns j n)(hn:ah n=true)(hu:aI n p.apex)(hne:ns[j]! ≠ n):dz p.apex (aY p ns j) n=true:=by
 obtain⟨k1,k2⟩:=rz K C.lt
 unfold dz
 rw[(kW hn (lh K).apex).2 hu,BF]
 show(if(!true||decide (0<=eG ns[j]! n))=true then _ else _)=true
 rw[pG k1 hn,YI (by have:=IG C.le hne;omega),XW (by decide)]
 by_cases h:j+1<ns.length
 . rw[El h,pG hn (rz K h).1,YE (SG C h),Bool.or_true]
 rw[Za9 K C.lt h]
 simp
omit K in
def SI{k:Nat}{n:Str}(hn:ah n=true)(h:ns[k]! = n):dz p.apex (aY p ns k) n=false:=by
 unfold dz
 show(if(!bC n p.apex||decide (0<=eG ns[k]! n))=true then _ else _)=false
 rw[h,pG hn hn,gD.self,YE (Int.le_refl _),Bool.or_true,XY rfl]
theorem Zfg{j k:Nat}{n:Str}(C:xH ns j n)(hn:ah n=true)(hk:k<ns.length)(hne:k≠j):dz p.apex (aY p ns k) n=false:=by
 obtain⟨k1,k2⟩:=rz K hk
 unfold dz
 rw[BF]
 show(if(!bC n p.apex||decide (0<=eG ns[k]! n))=true then _ else _)=false
 split
 . rfl
 rename_i h
 rw[Bool.not_eq_true,Ya,X3,pG k1 hn]at h
 have h1:=C.max k hk (by omega)
 have h2:k+1<ns.length:=by have:=C.lt;omega
 rw[El h2,pG hn (rz K h2).1,Ya]
 obtain⟨h0,e0⟩:=En K
 have h3:bH ns[k+1]! n<=0:=by
  refine Ey (b:=ns[j]!) ?_ C.le
  by_cases e:k+1=j
  . rw[e,gD.self];exact Int.le_refl _
  have:=ym K (show k+1<j by omega) C.lt;omega
 constructor
 .
  rw[YM];intro e;have h4:=ym K (show 0<k+1 by omega) h2
  rw[e0,e]at h4;exact OO h4 rfl
 have:=gD.anti ns[k+1]! n
 exact YI om
theorem Dx{j:Nat}{n:Str}(hj:j<ns.length)(hn:ah n=true)(h:vG p n\/ns[j]! = n):dE (aY p ns j) n=true:=by
 unfold dE
 show(!(cO (aY p ns j) 2 && !cO (aY p ns j) 4)||(n==ns[j]! || !bC n ns[j]!))=true
 cases h2:cO (aY p ns j) 2 with
 | false=>rfl
 | true =>
  cases h4:cO (aY p ns j) 4 with
  | true=>rfl
  | false =>
   rcases h with h|h
   .
    have h5:=h _ (SC K h2 h4);have h6:bC n ns[j]! = false:=by
     cases q:bC n ns[j]! with
     | false=>rfl
     | true=>exact absurd ((kW hn (rz K hj).1).1 q) h5
    rw[h6];simp
   rw[h];simp
def NT{n e:Str}(h:vG p n)(hu:aI n e)(hx : ∃s∈c.sets,aI s.set.name e):∃j,j<ns.length/\aI ns[j]! e:=by
 obtain⟨s,hs,hse⟩:=hx
 by_cases h8:s.set.ty=8
 . obtain⟨j,hj,rfl⟩:=AC K hs h8;exact⟨j,hj,hse⟩
 obtain⟨i,hi,rfl⟩:=fw.1 (c_p K hs h8)
 have B:=CV (lh K) hi
 rcases B with⟨h1,h2⟩|⟨h1,h2⟩
 .
  obtain⟨j,hj,e1⟩:=fw.1 (K.own _ (dw hi) λc' hc hu'=>absurd hu' (h2 c' hc))
  exact⟨j,hj,by rw[e1];exact hse⟩
 rcases A9 hse h2.2.1 with q|q
 . exact absurd (sw hu q) (h _ h2.1)
 obtain⟨j,hj,e1⟩:=fw.1 (FW K h2.1)
 exact⟨j,hj,by rw[e1];exact q⟩
def near{n e:Str}{j m:Nat}(C:xH ns j n)(hu:aI n e)(hm:m<ns.length)(hme:aI ns[m]! e):aI ns[j]! e\/(j+1<ns.length/\aI ns[j+1]! e):=by
 by_cases h:m<=j
 .
  left
  refine zk hu ?_ C.le;refine Ey (ui hme) ?_
  by_cases q:m=j
  . rw[q,gD.self];exact Int.le_refl _
  have:=ym K (show m<j by omega) C.lt;omega
 have h2:j+1<ns.length:=by omega
 refine .inr ⟨h2,zk hme ?_ ?_⟩
 . exact Ey (ui hu) (by have:=SG C h2;omega)
 by_cases q:j+1=m
 . rw[q,gD.self];exact Int.le_refl _
 have:=ym K (show j+1<m by omega) hm;omega
def TU:bZ c.sets c.apex=true:=by
 obtain⟨h0,e0⟩:=En K
 exact(yX (tV K) (tV K).apex).2 ⟨_,yn K h0,by show aI ns[0]! c.apex;rw[e0,K.apex];exact ko _⟩
theorem Q6{n:Str}{j:Nat}(hn:ah n=true)(hu:aI n p.apex)(C:xH ns j n)(hB:vG p n):j4 n (aY p ns j)=gP c n:=by
 have Oc:=tV K
 obtain⟨a1,a2,a3,a4,a5⟩:=Q5 hn (aY p ns j)
 obtain⟨b1,b2,b3,b4,b5⟩:=KM Oc (TU K) _ n hn (by rw[K.apex];exact hu) (Nat.lt_succ_self _)
 rw[BF]at a3 a5
 have a3:j4 n (aY p ns j)=fJ n ns[j]! \/ j4 n (aY p ns j)=fJ n (nA ns j):=a3
 have a4:aI (j4 n (aY p ns j)) (fJ n ns[j]!):=a4
 refine xL ?_ (b5 _ a1 a2 ?_)
 .
  obtain⟨m,hm,hme⟩:=NT K hB b2 ((yX Oc b1).1 b4)
  rcases near K C b2 hm hme with q|⟨q1,q2⟩
  . exact sw a4 (SQ hn b2 q)
  rw[<-El q1]at q2;exact sw a5 (SQ hn b2 q2)
 rcases a3 with q|q
 . exact(yX Oc a1).2 ⟨_,yn K C.lt,by rw[q];exact SN hn ns[j]!⟩
 obtain⟨_,_,k,hk,e⟩:=Iy K C.lt
 exact(yX Oc a1).2 ⟨_,yn K hk,by rw[q,e];exact SN hn ns[k]!⟩
end
end Go.Zon
namespace Go.Zon
open Go.DL Go.Str Go.Rec Go.Cmp Go.Jn
def xD(t:Int):Bool:=decide (t=6)||decide (t=8)
noncomputable def gW(a:Str)(q:Qst)(s:RSet):Bool:=(s.name==q.name&&mV s q.ty&&(xD q.ty || !(cO s 2 && !cO s 4)))||(dz a s q.name&&bC s.data[0]!.t q.name)
noncomputable def u7(a:Str)(q:Qst)(nx:List RSet):List RSet->Int
 | []=>0
 | s::l=>if(gM (gJ (j4 q.name s))).2≠0 then 6
  else if(nx.any λt=>t.name==kg (j4 q.name s)&&mV t q.ty)then 5
  else if(nx.any λt=>dE t (kg (j4 q.name s))&&dz a t (kg (j4 q.name s)))then 6
  else u7 a q nx l
noncomputable def ji(a:Str)(q:Qst)(l:List RSet):List RSet:=(l.filter (bW a)).filter λs=>dE s q.name
noncomputable def jg(a:Str)(q:Qst)(l:List RSet):Int×Int :=
 if(ah a && !dD a)=false\/eO q=false then(0,1)
 else if l.all di=false then(0,1)
 else if bC q.name a=false\/(q.name=a/\q.ty=6)then(0,0)
 else if(ji a q l).any (gW a q)then(5,0)
 else(u7 a q (l.filter (bW a)) ((ji a q l).filter λs=>dz a s q.name),0)
structure Gd(a:Str)(q:Qst)(l:List RSet):Prop where
 ap:(ah a && !dD a)=true
 q:eO q=true
 ok:l.all di=true
def ZeP{a:Str}{q:Qst}{l:List RSet}(g:Gd a q l):(jg a q l).2=0:=by
 unfold jg
 rw[XW (by rw[g.ap,g.q];simp),XW (by rw[g.ok];simp)]
 repeat' split
 all_goals rfl
def xN{a:Str}{q:Qst}{l:List RSet}{s:RSet}:s∈ji a q l↔s∈l/\bW a s=true/\dE s q.name=true:=by
 unfold ji
 rw[YJ,YJ,and_assoc]
def Sa{a:Str}{q:Qst}{l:List RSet}(g:Gd a q l)(h : ∀s∈l,dE s q.name=true->gW a q s=false/\dz a s q.name=false):(jg a q l).1=0:=by
 unfold jg
 rw[XW (by rw[g.ap,g.q];simp),XW (by rw[g.ok];simp)]
 split
 . rfl
 rw[XW]
 .
  have:(ji a q l).filter (λs=>dz a s q.name)=[]:=by
   rw[List.filter_eq_nil_iff];intro s hs;obtain⟨h1,_,h2⟩:=xN.1 hs;rw[(h s h1 h2).2];exact Bool.noConfusion
  rw[this];rfl
 rw[Zz]
 rintro⟨s,hs,e⟩
 obtain⟨h1,_,h2⟩:=xN.1 hs
 rw[(h s h1 h2).1]at e
 cases e
def R9{a:Str}{q:Qst}{l:List RSet}(g:Gd a q l)(hu:bC q.name a=true)(hx : ¬(q.name=a/\q.ty=6)){s:RSet}(hs:s∈l)(h1:bW a s=true)(h2:dE s q.name=true)(h3:gW a q s=true):(jg a q l).1=5:=by
 unfold jg
 rw[XW (by rw[g.ap,g.q];simp),XW (by rw[g.ok];simp),XW (by rw[hu];simp[hx]),XY]
 rw[Zz]
 exact⟨s,xN.2 ⟨hs,h1,h2⟩,h3⟩
theorem R8{a:Str}{q:Qst}{l:List RSet}(g:Gd a q l)(hu:bC q.name a=true)(hx : ¬(q.name=a/\q.ty=6))(h:(ji a q l).any (gW a q)=false):(jg a q l).1=u7 a q (l.filter (bW a)) ((ji a q l).filter λs=>dz a s q.name):=by
 unfold jg
 rw[XW (by rw[g.ap,g.q];simp),XW (by rw[g.ok];simp),XW (by rw[hu];simp[hx]),XW (by rw[h];simp)]
def ZeQ{a:Str}{q:Qst}{l:List RSet}(g:Gd a q l)(hu:bC q.name a=true)(hx : ¬(q.name=a/\q.ty=6))(h:(ji a q l).any (gW a q)=true):(jg a q l).1=5:=by
 unfold jg
 rw[XW (by rw[g.ap,g.q];simp),XW (by rw[g.ok];simp),XW (by rw[hu];simp[hx]),XY h]
theorem Qr{a:Str}{q:Qst}{nx L:List RSet}{s:RSet}(h:s∈L)(ha : ∀t∈L,t=s):∃L',u7 a q nx L=u7 a q nx (s::L'):=by
 cases L with
 | nil=>cases h
 | cons t L'=>rw[ha t (.head _)];exact⟨L',rfl⟩
theorem NB{l:List Sgd}{ps:List Int}{s:Sgd}:∀k,k<=ps.length->(s∈kF l ps k↔∃i,i<k/\0<=ps[i]! /\ s=l[ps[i]!.toNat]!)
 | 0,_=>⟨λh=>(by cases h),λ⟨i,h,_⟩=>by omega⟩
 | k+1,hk=>by
  have ih:=NB (l:=l) (ps:=ps) (s:=s) k (by omega)
  rw[FD,<-ih]
  by_cases h:ps[k]! < 0\/ps[k]! ∈ ps.take k
  .
   rw[Ic h];refine⟨.inl,λh2=>h2.elim id λ⟨h3,h4⟩=>?_⟩
   rcases h with h|h
   . omega
   obtain⟨i,hi,e⟩:=YN h;rw[Y7]at hi;rw[List.getElem_take]at e;have e2:ps[i]! = ps[k]! := by rw[getElem!_pos ps i (by omega)];exact e
   exact ih.2 ⟨i,om,by rw[e2];exact h3,by rw[e2];exact h4⟩
  rw[Ib h,Yo,Yd];have h1:0<=ps[k]! := by have:=(not_or.1 h).1;omega
  exact or_congr Iff.rfl ⟨λe=>⟨h1,e⟩,λe=>e.2⟩
def x8{l:List Sgd}{ps:List Int}{s:Sgd}:s∈dF l ps↔∃x∈ps,0<=x/\s=l[x.toNat]! := by
 unfold dF
 rw[NB _ (X4 _)]
 constructor
 . rintro⟨i,hi,h⟩;exact⟨_,by rw[getElem!_pos ps i hi];exact Yp hi,h⟩
 rintro⟨x,hx,h⟩
 obtain⟨i,hi,e⟩:=YN hx
 have e2:ps[i]! = x:=by rw[getElem!_pos ps i hi];exact e
 exact⟨i,hi,by rw[e2];exact h⟩
def dL(l:List Sgd):List RSet:=(l.filter λs=>decide (s.set.ty=8)).map Sgd.set
def uD{l:List Sgd}{s:RSet}:s∈dL l↔∃x∈l,x.set.ty=8/\x.set=s:=by
 unfold dL
 rw[Yi]
 constructor
 . rintro⟨x,h,e⟩;obtain⟨h1,h2⟩:=YJ.1 h;exact⟨x,h1,Y3 h2,e⟩
 rintro⟨x,h1,h2,e⟩
 exact⟨x,YJ.2 ⟨h1,YE h2⟩,e⟩
theorem Jz{l:List Sgd}{c:Str}{ds:List Dat}{x:Int}:∀k,x∈pg l c ds k -> ∃t,x=aC l ⟨t,1⟩
 | 0,h=>by cases h
 | k+1,h=>by
  unfold pg at h
  split at h
  .
   rcases Yo.1 h with h|h
   . exact Jz k h
   exact⟨_,Yd.1 h⟩
  exact Jz k h
def Ny{l:List Sgd}{q:Qst}{s:Sgd}(h:0<=aC l q)(e:s=l[(aC l q).toNat]!):s.q=q:=by rw[e];exact(H9 h).2
def Zaf{l:List Sgd}{cut:Str}{s:Sgd}(h:s∈dF l (wo l cut))(h8:s.set.ty=8):s.set.name=cut:=by
 obtain⟨x,hx,h0,e⟩:=x8.1 h
 unfold wo jb at hx
 have key : ∀n t,x=aC l ⟨n,t⟩->s.set.name=n/\t=8:=by
  intro n t hq;rw[hq]at h0 e;have h1:=Ny h0 e;exact⟨congrArg Qst.name h1,(congrArg Qst.ty h1).symm.trans h8⟩
 rcases Yo.1 hx with hx|hx
 .
  rcases Yz.1 hx with hx|hx
  . exact(key _ _ hx).1
  have hx:=Yd.1 hx;unfold ww at hx
  split at hx
  . exact(key _ _ hx).1
  exact(key _ _ hx).1
 obtain⟨t,ht⟩:=Jz _ hx
 have:=(key _ _ ht).2
 omega
section
variable {p c : Zon} {ns : List Str} (K : Da p c ns)
include K
def yQ{q:Qst}(hq:eO q=true){l:List Sgd}(hl : ∀s∈l,s∈c.sets):Gd p.apex q (dL l):=by
 refine⟨?_,hq,Yg.2 λs hs=>?_⟩
 . rw[(lh K).apex,(lh K).wild];rfl
 obtain⟨x,hx,_,rfl⟩:=uD.1 hs
 exact(iB _).2 ((tV K).ok x (hl x hx))
def Iz{l:List Sgd}(hl : ∀s∈l,s∈c.sets){s:RSet}(h:s∈dL l):∃j,j<ns.length/\s=aY p ns j:=by
 obtain⟨x,hx,h8,rfl⟩:=uD.1 h
 obtain⟨j,hj,rfl⟩:=AC K (hl x hx) h8
 exact⟨j,hj,rfl⟩
def BG{j:Nat}(hj:j<ns.length):bW p.apex (aY p ns j)=true:=by
 obtain⟨k1,k2⟩:=rz K hj
 obtain⟨m1,m2,_⟩:=Iy K hj
 have A:=(lh K).apex
 unfold bW
 have h1:bC (aY p ns j).name p.apex=true:=(kW k1 A).2 k2
 have h2:bC (nA ns j) p.apex=true:=(kW m1 A).2 m2
 rw[h1,XW (by simp[OT.2.1])]
 rw[OT.2.2]
 simp only[List.all_cons,List.all_nil,Bool.and_true]
 exact h2
theorem MB{j:Nat}{t:Int}(ht:1<=t/\t<=8)(hj:j<ns.length)(hn : ∀s∈c.sets,s.q≠⟨ns[j]!,t⟩)(h3:(∃s∈c.sets,s.q=⟨ns[j]!,3⟩)->t=8):mV (aY p ns j) t=true:=by
 obtain⟨m,rfl⟩:∃m:Nat,t=m:=⟨t.toNat,om⟩
 have h8:m≠8:=by
  rintro rfl;exact hn _ (yn K hj) rfl
 have a1:cO (aY p ns j) m=false:=by
  cases q:cO (aY p ns j) m with
  | false=>rfl
  | true =>
   obtain⟨s,hs,e1,e2⟩:=E8 K om h8 q;exact absurd (show s.q=_ by unfold Sgd.q;rw[e1,e2]) (hn s (Ih K hs))
 have a2:cO (aY p ns j) 3=false:=by
  cases q:cO (aY p ns j) 3 with
  | false=>rfl
  | true =>
   obtain⟨s,hs,e1,e2⟩:=E8 K (t:=3) om om q;have:=h3 ⟨s,Ih K hs,by unfold Sgd.q;rw[e1,e2];rfl⟩
   omega
 unfold mV
 rw[a1,a2];rfl
def OG{n:Str}(hn:ah n=true)(h:(bE c n).2=false):vG p n:=by
 intro c' hc hu
 have:=Kr (tV K) ((Kt K).2 hc) ((ay n).length+1) n hn hu (Nat.lt_succ_self _)
 unfold bE at h
 rw[h]at this
 cases this
def Je{n:Str}(hn:ah n=true)(hu:aI n p.apex)(h:(bE c n).2=true):fq p (bE c n).1/\aI n (bE c n).1:=by
 obtain⟨h1,h2⟩:=cut_at (tV K) _ n hn (by rw[K.apex];exact hu) h
 exact⟨(Kt K).1 h1,h2⟩
def SH{j m:Nat}{n:Str}(C:xH ns j n)(hm:m<ns.length)(e:ns[m]! = n):ns[j]! = n:=by
 have h1:=C.max m hm (by rw[e,gD.self];exact Int.le_refl _)
 by_cases q:m=j
 . rw[<-q];exact e
 exfalso
 have h2:=ym K (show m<j by omega) C.lt
 rw[e]at h2
 exact Ex h2 C.le
theorem Em{m:Nat}{n:Str}(hn:ah n=true)(hm:m<ns.length)(hu:aI ns[m]! n):bZ c.sets n=true :=
 (yX (tV K) hn).2 ⟨_,yn K hm,hu⟩
end
end Go.Zon
namespace Go.Zon
open Go.DL Go.Str Go.Rec Go.Cmp Go.Jn
def fD:List Str->List Str->Int->Int
 | x::xs,y::ys,s=>if x=y then fD xs ys ((if 0<s then s+1 else s)+x.length)else s
 | _,_,s=>s
def y5(a b:Str):Str:=if fD (ay a) (ay b) 0=0 then[46]else a.drop ((a.length:Int)-fD (ay a) (ay b) 0).toNat
def nU(a b:Str):Str:=if ah a&&ah b then y5 a b else[]
theorem com_1{more:Bool}{rest r2:Str}{s:Int}(h:(!more)=true):fD (gX rest) (pl more r2) s=s:=by
 cases more with
 | true=>cases h
 | false=>rw[ky];rfl
theorem com_2{more:Bool}{rest r2:Str}{s:Int}(h:(!more)=false)(k:rest.drop (bz rest 46+1).toNat≠lg more r2):fD (gX rest) (pl more r2) s=s:=by
 cases more with
 | false=>cases h
 | true=>rw[ky,D8,fD,XW k]
theorem com_3{more:Bool}{rest r2:Str}{s:Int}(h:(!more)=false)(k:rest.drop (bz rest 46+1).toNat=lg more r2):fD (gX rest) (pl more r2) s=fD (if bz rest 46<0 then[]else gX (rest.take (bz rest 46).toNat)) (pl (kE more r2) (kD more r2)) ((if 0<s then s+1 else s)+(rest.drop (bz rest 46+1).toNat).length):=by
 cases more with
 | false=>cases h
 | true=>rw[ky,D8,fD,XY k]
theorem KA{b:List Str}{s:Int}:fD [] b s=s:=by unfold fD;rfl
theorem SY : ∀(a b:List Str)(s:Int),0<=s->s<=fD a b s
 | [],b,s,h=>by rw[KA];exact Int.le_refl _
 | x::xs,[],s,h=>by simp[fD]
 | x::xs,y::ys,s,h=>by
  unfold fD
  split
  .
   have h1:=SY xs ys ((if 0<s then s+1 else s)+x.length) (by split<;>omega)
   have h2:s<=(if 0<s then s+1 else s):=by split<;>omega
   omega
  exact Int.le_refl _
def oh:List Str->Int->Int
 | [],s=>s
 | x::xs,s=>oh xs ((if 0<s then s+1 else s)+x.length)
theorem KD : ∀(a b:List Str)(s:Int),fD a b s=oh (iI a b) s
 | [],b,s=>by simp[fD,iI,oh]
 | x::xs,[],s=>by simp[fD,iI,oh]
 | x::xs,y::ys,s=>by
  unfold fD iI
  by_cases e:x=y
  . rw[XY e,XY e,oh];exact KD xs ys _
  rw[XW e,XW e,oh]
theorem L8 : ∀(r:List Str)(x:Str)(s:Int),oh (r++[x]) s=(if 0<oh r s then oh r s+1 else oh r s)+x.length
 | [],x,s=>rfl
 | y::r,x,s=>by rw[XX,oh,oh];exact L8 r x _
theorem GU : ∀(r:List Str),(∀x∈r,0<x.length)->oh r.reverse 0=(dB r).length/\(r≠[]->0<(dB r).length)
 | [],_=>⟨rfl,λh=>absurd rfl h⟩
 | x::r,h=>by
  obtain⟨ih,ih2⟩:=GU r λy hy=>h y (List.mem_cons_of_mem _ hy)
  have hx:=h x (.head _);rw[List.reverse_cons,L8,ih]
  cases r with
  | nil=>simp[dB];omega
  | cons p q =>
   have:=ih2 (by simp)
   rw[XY (by omega)]
   constructor
   .
    show _=((x++46::dB (p::q)).length:Int)
    rw[Yr,YA];omega
   intro _
   show 0<(x++46::dB (p::q)).length
   rw[Yr,YA];omega
def Po{a:Str}(ha:ah a=true):∀x∈ay a,0<x.length:=by
 intro x hx
 by_cases hr:a=[46]
 . rw[hr,show ay [46]=[]by decide]at hx;cases hx
 obtain⟨_,_,h3⟩:=EB ha hr
 have e:ay a=(split a).reverse:=by unfold ay;rw[XW hr,jK]
 rw[e,List.mem_reverse]at hx
 obtain⟨i,hi,e2⟩:=YN hx
 have h4:=h3 i hi
 unfold fP at h4
 rw[getElem!_pos _ i hi,e2,X8,XT,Yx]at h4
 rcases h4 with h4|h4
 . unfold dN at h4;simp only[XT,XV]at h4;omega
 rw[h4.2];decide
theorem SV{a b:Str}(ha:ah a=true):y5 a b=fJ a b:=by
 unfold y5 fJ
 rw[KD]
 have hl:=Az (ay a) (ay b)
 generalize iI (ay a) (ay b)=r at hl
 have hp : ∀x∈r.reverse,0<x.length:=λx hx=>Po ha x (hl.subset (List.mem_reverse.1 hx))
 obtain⟨j1,j2⟩:=GU r.reverse hp
 rw[List.reverse_reverse]at j1
 rw[j1]
 by_cases hr:r=[]
 . subst hr;rfl
 have hne:r.reverse≠[]:=by simpa using hr
 have h0:=j2 hne
 rw[XW (by omega),XW hr]
 have har:a≠[46]:=λq=>by
  rw[q,show ay [46]=[]by decide]at hl
  exact hr (List.prefix_nil.1 hl)
 obtain⟨t,ht⟩:=hl
 have e:ay a=(split a).reverse:=by unfold ay;rw[XW har,jK]
 have hs:split a=t.reverse++r.reverse:=by rw[<-List.reverse_append,ht,e,List.reverse_reverse]
 have hj:=rG a
 rw[hs]at hj
 by_cases htn:t=[]
 .
  subst htn;have hj:dB r.reverse=a:=by simpa using hj
  rw[hj];have:((a.length:Int)-(a.length:Nat)).toNat=0:=by omega
  rw[this];rfl
 rw[EK _ _ (by simpa using htn) hne]at hj
 have hlen:=congrArg List.length hj
 rw[Yr,YA]at hlen
 have:((a.length:Int)-(dB r.reverse).length).toNat=(dB t.reverse).length+1:=by omega
 rw[this,<-hj,List.drop_append,List.drop_of_length_le (by omega)]
 rw[show(dB t.reverse).length+1-(dB t.reverse).length=1 by omega]
 rfl
def FX{a b:Str}(ha:ah a=true):0<=fD (ay a) (ay b) 0/\fD (ay a) (ay b) 0<=a.length:=by
 refine⟨SY _ _ _ (Int.le_refl _),?_⟩
 rw[KD]
 have hl:=Az (ay a) (ay b)
 generalize iI (ay a) (ay b)=r at hl
 have hp : ∀x∈r.reverse,0<x.length:=λx hx=>Po ha x (hl.subset (List.mem_reverse.1 hx))
 obtain⟨j1,j2⟩:=GU r.reverse hp
 rw[List.reverse_reverse]at j1
 rw[j1]
 by_cases har:a=[46]
 .
  rw[har,show ay [46]=[]by decide]at hl
  rw[List.prefix_nil.1 hl];simp[dB]
 obtain⟨t,ht⟩:=hl
 have e:ay a=(split a).reverse:=by unfold ay;rw[XW har,jK]
 have hs:split a=t.reverse++r.reverse:=by rw[<-List.reverse_append,ht,e,List.reverse_reverse]
 have hj:=rG a
 rw[hs]at hj
 by_cases htn:t=[]
 .
  subst htn;have hj:dB r.reverse=a:=by simpa using hj
  rw[hj];exact Int.le_refl _
 by_cases hrn:r.reverse=[]
 . rw[hrn];simp[dB]
 rw[EK _ _ (by simpa using htn) hrn]at hj
 have hlen:=congrArg List.length hj
 rw[Yr,YA]at hlen
 omega
theorem rY{a b:Str}(ha:ah a=true)(hb:ah b=true):nU a b=y5 a b:=by unfold nU;rw[ha,hb];rfl
theorem xn{a b:Str}(h:fD (ay a) (ay b) 0=0):y5 a b=[46]:=XY h
theorem KC{a b:Str}{s:Int}(h:fD (ay a) (ay b) 0=s)(k : ¬s=0):y5 a b=a.drop ((a.length:Int)-s).toNat:=by
 unfold y5
 rw[h,XW k]
def Zfp{a b:Str}(h:a=[46]):fD (ay a) (ay b) 0=0:=by
 rw[h,show ay [46]=[]by decide,KA]
def NA(more:Bool)(rest:Str):(lg more rest).length<=rest.length:=by
 unfold lg
 split
 . simp
 simp
theorem Zfq{more:Bool}{rest r2:Str}{s:Int}(h:(!more||rest.drop (bz rest 46+1).toNat != lg more r2)=true):fD (gX rest) (pl more r2) s=s:=by
 cases e:more with
 | false=>exact com_1 rfl
 | true =>
  rw[e]at h;exact com_2 rfl (by simpa using h)
theorem Kz{more:Bool}{rest r2:Str}{s:Int}(h:(!more||rest.drop (bz rest 46+1).toNat != lg more r2)=false):fD (gX rest) (pl more r2) s=fD (if bz rest 46<0 then[]else gX (rest.take (bz rest 46).toNat)) (pl (kE more r2) (kD more r2)) ((if 0<s then s+1 else s)+(rest.drop (bz rest 46+1).toNat).length):=by
 rw[Ya]at h
 exact com_3 h.1 (by simpa using h.2)
def SX{more:Bool}{rest r2:Str}{s:Int}(h:(!more||rest.drop (bz rest 46+1).toNat != lg more r2)=false)(d:bz rest 46<0):fD (gX rest) (pl more r2) s=(if 0<s then s+1 else s)+(rest.drop (bz rest 46+1).toNat).length:=by
 rw[Kz h,XY d,KA]
def iH(p:RSet->Bool)(l:List RSet)(k:Nat):List RSet:=(l.take k).filter p
@[go_sem]theorem fltTo_0{p:RSet->Bool}{l:List RSet}:iH p l 0=[]:=rfl
theorem JR(p:RSet->Bool)(l:List RSet):iH p l l.length=l.filter p:=by unfold iH;rw[Zq]
def JQ(p:RSet->Bool)(l:List RSet)(k:Nat):(iH p l k).length<=k:=by
 unfold iH
 exact Yt (List.length_filter_le _ _) (by rw[Y7];omega)
theorem QI{p:RSet->Bool}{l:List RSet}{k:Nat}(hk:k<l.length):iH p l (k+1)=iH p l k++[l[k]!].filter p:=by
 unfold iH
 rw[zm! hk,List.filter_append]
theorem Zdk{p:RSet->Bool}{l:List RSet}{k:Nat}(hk:k<l.length)(h:p l[k]! = true):iH p l (k+1)=iH p l k++[l[k]!]:=by rw[QI hk,List.filter_cons,h];rfl
def JP{p:RSet->Bool}{l:List RSet}{k:Nat}(hk:k<l.length)(h:p l[k]! = false):iH p l (k+1)=iH p l k:=by rw[QI hk,List.filter_cons,h];simp
def JO{p:RSet->Bool}{l:List RSet}{k:Nat}(hk:k<l.length)(h:p l[k]! = true):(iH p l (k+1)).map RSet.d=(iH p l k).map RSet.d++[[.v (.string (bs l[k]!.name)),.i l[k]!.ty,.i l[k]!.life,.l (l[k]!.data.map Dat.d)]]/\(iH p l (k+1)).length=(iH p l k).length+1:=by
 rw[Zdk hk h]
 exact⟨by rw[YQ];rfl,by simp⟩
def qW:D->Qst
 | .eptr cs=>Qst.of cs
 | _=>default
@[go_sem]theorem qsE_e{cs:List D}:qW (.eptr cs)=dM (.agg cs):=rfl
def tZ(n:Str):List Str:=[42]::(if ah n then aM n else[])
def UD(n:Str):[D.v (.string (bs [42]))]::(if ah n=true then aM n else[]).map sR=(tZ n).map sR:=rfl
theorem Lp(n:Str):(tZ n).length=1+(if ah n=true then aM n else[]).length:=by rw[tZ,YA];omega
def UA(n:Str):List.take (1+(if ah n=true then aM n else[]).length) ((tZ n).map sR)=(tZ n).map sR:=Yh (by rw[YY,Lp];exact X4 _)
def UB(n:Str):(if ah n=true then aM n else[]).length<=100:=by
 by_cases h:ah n=true
 . rw[XY h];have h1:=(Ea n).2;have h2:=fT h;omega
 rw[XW h];simp
def dU(n:Str):Str×Bool:=((gM (tZ n)).1,decide ((gM (tZ n)).2=0))
def eQ(n:Str)(s:RSet):Str:=if(nU n s.name).length<(nU n s.data[0]!.t).length\/nU n s.name=[46]then nU n s.data[0]!.t else nU n s.name
noncomputable def qM(q:Qst)(w:Str)(nx:List RSet):Bool:=nx.any λt=>t.name==w&&mV t q.ty
noncomputable def si(a:Str)(w:Str)(nx:List RSet):Bool:=nx.any λt=>dE t w&&dz a t w
noncomputable def jh(a:Str)(q:Qst)(nx:List RSet):List RSet->Int
 | []=>0
 | s::l=>if(dU (eQ q.name s)).2=false then 6
  else if qM q (dU (eQ q.name s)).1 nx=true then 5
  else if si a (dU (eQ q.name s)).1 nx=true then 6
  else jh a q nx l
noncomputable def iV(a:Str)(q:Qst)(l:List RSet):Int×Int :=
 if(ah a && !dD a)=false\/eO q=false then(0,1)
 else if l.all di=false then(0,1)
 else if bC q.name a=false\/(q.name=a/\q.ty=6)then(0,0)
 else if(ji a q l).any (gW a q)then(5,0)
 else(jh a q (l.filter (bW a)) ((ji a q l).filter λs=>dz a s q.name),0)
section
variable {a : Str} {q : Qst} {nl cv : List RSet} {k : Nat}
theorem Gi(hk:k<cv.length):jh a q nl (cv.drop k)=if(dU (eQ q.name cv[k]!)).2=false then 6
  else if qM q (dU (eQ q.name cv[k]!)).1 nl=true then 5
  else if si a (dU (eQ q.name cv[k]!)).1 nl=true then 6
  else jh a q nl (cv.drop (k+1)):=by
 rw[Yn hk,jh,<-getElem!_pos cv k hk]
theorem Zf9(hk:k<cv.length)(h:(!(dU (eQ q.name cv[k]!)).2)=true):jh a q nl (cv.drop k)=6:=by
 rw[Gi hk,XY (by simpa using h)]
theorem Zga(hk:k<cv.length)(h:(!(dU (eQ q.name cv[k]!)).2)=false)(h2:qM q (dU (eQ q.name cv[k]!)).1 nl=true):jh a q nl (cv.drop k)=5:=by
 rw[Gi hk,XW (by simpa using h),XY h2]
theorem Zf8(hk:k<cv.length)(h:(!(dU (eQ q.name cv[k]!)).2)=false)(h2:qM q (dU (eQ q.name cv[k]!)).1 nl=false)(h3:si a (dU (eQ q.name cv[k]!)).1 nl=true):jh a q nl (cv.drop k)=6:=by
 rw[Gi hk,XW (by simpa using h),XW (by rw[h2];exact Bool.noConfusion),XY h3]
theorem TG(hk:k<cv.length)(h:(!(dU (eQ q.name cv[k]!)).2)=false)(h2:qM q (dU (eQ q.name cv[k]!)).1 nl=false)(h3:si a (dU (eQ q.name cv[k]!)).1 nl=false):jh a q nl (cv.drop k)=jh a q nl (cv.drop (k+1)):=by
 rw[Gi hk,XW (by simpa using h),XW (by rw[h2];exact Bool.noConfusion),XW (by rw[h3];exact Bool.noConfusion)]
theorem Zf7:jh a q nl (cv.drop cv.length)=0:=by rw[Zr];rfl
variable {w : Str} {m : Nat}
theorem TY(hm:m<nl.length):qM q w (nl.drop m)=((nl[m]!.name==w&&mV nl[m]! q.ty)||qM q w (nl.drop (m+1))):=by
 unfold qM
 rw[Yn hm,List.any_cons,<-getElem!_pos nl m hm]
theorem TZ(hm:m<nl.length):si a w (nl.drop m)=((dE nl[m]! w&&dz a nl[m]! w)||si a w (nl.drop (m+1))):=by
 unfold si
 rw[Yn hm,List.any_cons,<-getElem!_pos nl m hm]
def Zgq:qM q w (nl.drop nl.length)=false:=by rw[Zr];rfl
def Zgr:si a w (nl.drop nl.length)=false:=by rw[Zr];rfl
theorem TW{p:RSet->Bool}{l:List RSet}(hm:m<l.length):(l.drop m).any p=(p l[m]! || (l.drop (m+1)).any p):=by
 rw[Yn hm,List.any_cons,<-getElem!_pos l m hm]
end
def xG(l:List RSet):Prop:=∀i,i<l.length->0<l[i]!.data.length/\l[i]!.data.length<=1000000
def ZeG{l:List RSet}(h:l.all di=true):xG l:=λi hi=>by
 have h1:=(iB _).1 (Yg.1 h l[i]! (by rw[getElem!_pos l i hi];exact Yp hi))
 have:=h1.len
 omega
def Kg{l:List RSet}{p:RSet->Bool}(h:xG l):xG (l.filter p):=λi hi=>by
 have h1:(l.filter p)[i]! ∈ l:=(YJ.1 (by rw[getElem!_pos _ i hi];exact Yp hi)).1
 obtain⟨j,hj,e⟩:=YN h1
 have:=h j hj
 rw[getElem!_pos l j hj,e]at this
 exact this
def den_1{a:Str}{q:Qst}{l:List RSet}(c1:(!(ah a && !dD a) || !eO q)=true):iV a q l=(0,1):=by
 unfold iV
 rw[X8,X5,X5]at c1
 exact XY c1
def den_g{a:Str}{q:Qst}(c1:(!(ah a && !dD a) || !eO q)=false):(ah a && !dD a)=true/\eO q=true:=by
 rw[Ya]at c1
 exact⟨by simpa using c1.1,by simpa using c1.2⟩
def ZaB{q:Qst}(h:eO q=true):0<=q.ty/\q.ty<=62:=by
 unfold eO at h
 rw[XT]at h
 have:=je.1 h.2
 omega
theorem all_no{l:List RSet}{k:Nat}(hk:k<l.length)(h:(!di l[k]!)=true):(l.drop k).all di=false:=by
 rw[AQ hk,show di l[k]! = false by simpa using h];rfl
theorem TV{l:List RSet}{p:RSet->Bool}{m:Nat}(hm:m<l.length)(h:p l[m]! = true):(l.drop m).any p=true:=by
 rw[TW hm,h];rfl
theorem den_2{a:Str}{q:Qst}{l:List RSet}(h1:(ah a && !dD a)=true)(h2:eO q=true)(h3:l.all di=false):iV a q l=(0,1):=by
 unfold iV
 rw[XW (by rw[h1,h2];simp),XY h3]
theorem den_3{a:Str}{q:Qst}{l:List RSet}(h1:(ah a && !dD a)=true)(h2:eO q=true)(h3:l.all di=true)(c:(!bC q.name a||(q.name==a&&q.ty==6))=true):iV a q l=(0,0):=by
 unfold iV
 rw[XW (by rw[h1,h2];simp),XW (by rw[h3];simp),XY (by simpa using c)]
theorem Sb{a:Str}{q:Qst}{l:List RSet}(h1:(ah a && !dD a)=true)(h2:eO q=true)(h3:l.all di=true)(c:(!bC q.name a||(q.name==a&&q.ty==6))=false):iV a q l=if(ji a q l).any (gW a q)then(5,0)else(jh a q (l.filter (bW a)) ((ji a q l).filter λs=>dz a s q.name),0):=by
 unfold iV
 rw[XW (by rw[h1,h2];simp),XW (by rw[h3];simp),XW (λh=>by
  have:(!bC q.name a||(q.name==a&&q.ty==6))=true:=by simpa using h
  rw[c]at this;cases this)]
theorem Sc{a:Str}{q:Qst}{l:List RSet}(h1:(ah a && !dD a)=true)(h2:eO q=true)(h3:l.all di=true)(c:(!bC q.name a||(q.name==a&&q.ty==6))=false)(h:(ji a q l).any (gW a q)=true):iV a q l=(5,0):=by
 rw[Sb h1 h2 h3 c,XY h]
theorem den_5{a:Str}{q:Qst}{l:List RSet}(h1:(ah a && !dD a)=true)(h2:eO q=true)(h3:l.all di=true)(c:(!bC q.name a||(q.name==a&&q.ty==6))=false)(h:(ji a q l).any (gW a q)=false):iV a q l=(jh a q (l.filter (bW a)) ((ji a q l).filter λs=>dz a s q.name),0):=by
 rw[Sb h1 h2 h3 c,XW (by rw[h];exact Bool.noConfusion)]
theorem Wv{a:Str}{q:Qst}{s:RSet}(h:(s.name==q.name&&mV s q.ty&&(q.ty==6||q.ty==8 || !(cO s 2 && !cO s 4)))=true):gW a q s=true:=by
 unfold gW xD
 rw[X8]
 left
 simpa using h
theorem Wu{a:Str}{q:Qst}{s:RSet}(h2:(dz a s q.name&&bC s.data[0]!.t q.name)=true):gW a q s=true:=by
 unfold gW
 rw[h2,Bool.or_true]
theorem Wt{a:Str}{q:Qst}{s:RSet}(h:(s.name==q.name&&mV s q.ty&&(q.ty==6||q.ty==8 || !(cO s 2 && !cO s 4)))=false)(h2:(dz a s q.name&&bC s.data[0]!.t q.name)=false):gW a q s=false:=by
 unfold gW xD
 rw[h2,ZA]
 rw[<-h]
 simp only[Bool.beq_eq_decide_eq]
def ZdB{n:Str}{s:RSet}(hn:ah n=true)(h1:ah s.name=true)(h2:ah s.data[0]!.t=true):eQ n s=j4 n s:=by
 unfold eQ j4 nU
 rw[hn,h1,h2]
 simp only[ZQ,Zw]
 rw[SV hn,SV hn]
theorem UC{n:Str}(hn:ah n=true):dU n=(kg n,decide ((gM (gJ n)).2=0)):=by
 unfold dU tZ kg gJ
 rw[XY hn]
theorem TH{a:Str}{q:Qst}{nx:List RSet}(hq:ah q.name=true):∀l:List RSet,(∀s∈l,ah s.name=true/\ah s.data[0]!.t=true)->jh a q nx l=u7 a q nx l
 | [],_=>rfl
 | s::l,h=>by
  obtain⟨h1,h2⟩:=h s (.head _);have he:eQ q.name s=j4 q.name s:=ZdB hq h1 h2;have hen:=(Q5 hq s).1;unfold jh u7 qM si;rw[he,UC hen,TH hq l λs hs=>h s (List.mem_cons_of_mem _ hs)]
  simp only[X3]
theorem ZeR(a:Str)(q:Qst)(l:List RSet):iV a q l=jg a q l:=by
 unfold iV jg
 split
 . rfl
 rename_i h1
 split
 . rfl
 rename_i h2
 split
 . rfl
 split
 . rfl
 have hq:ah q.name=true:=by
  have:=(not_or.1 h1).2;have:eO q=true:=by simpa using this
  unfold eO at this;rw[XT]at this;exact this.1
 rw[TH hq]
 intro s hs
 obtain⟨k1,k2,_⟩:=xN.1 (YJ.1 hs).1
 have hok:di s=true:=by
  have:l.all di=true:=by simpa using h2
  exact Yg.1 this s k1
 have hS:=(iB _).1 hok
 refine⟨hS.name,?_⟩
 unfold bW at k2
 split at k2
 . cases k2
 have hd:s.data[0]! ∈ s.data:=by
  have:=hS.len.1;rw[getElem!_pos s.data 0 (by omega)]
  exact Yp _
 have:=Yg.1 k2 _ hd
 unfold bC at this
 simp only[XT]at this
 exact this.1.1
end Go.Zon
namespace Go
section
variable {F : Fence} {n : Nat} {P : Program} {Q : Exit -> Act -> World -> Prop} {a : Act} {w : World}
def Exit.calm(Q:Exit->Act->World->Prop):Exit->Act->World->Prop
 | .goto _,_,_=>False
 | e,a,w=>Q e a w
theorem Uz{c:Code}(h:c.wpIn F n P (Exit.calm Q) a w):(Code.scope c).wpIn F n P Q a w:=by
 intro b k cs hro hb hr
 have h0:(lone (b.atR a (.code (.scope c)::k)) cs w).fenced P F:=fenced_calm hb hr rfl
 have s1:step P (lone (b.atR a (.code (.scope c)::k)) cs w) = .next (lone (b.atR a (.code c :: .inScope c::k)) cs w):=step_lone_go (by simp[stepG,stepG.exec,Frame.atR])
 obtain⟨e,a₁,w₁,hq,harr⟩:=h b (.inScope c::k) cs hro hb hr
 have s2:step P (lone (b.atR a₁ (.inScope c::k)) cs w₁) = .next (lone (b.atR a₁ k) cs w₁):=step_lone_go (by simp[stepG,stepG.exec,Frame.atR])
 cases e with
 | normal=>exact⟨.normal,a₁,w₁,hq,.head h0 s1 (StepsIn.trans harr (.one (fenced_calm hb hr rfl) s2))⟩
 | exit id =>
  have hx:exitTo id (.inScope c::k)=exitTo id k:=by simp[exitTo]
  exact⟨_,a₁,w₁,hq,λk' hk=>.head h0 s1 (harr.1 k' (by rw[hx];exact hk)),λhr' hk=>let⟨k₁,h1,h2⟩:=harr.2 hr' (by rw[hx];exact hk);⟨k₁,h1,.head h0 s1 h2⟩⟩
 | goto l=>exact hq.elim
 | ret=>exact⟨_,a₁,w₁,hq,.of_steps (.one h0 s1) harr⟩
 | panic ch=>exact⟨_,a₁,w₁,hq,.of_steps (.one h0 s1) harr⟩
 | outgrown=>exact⟨_,a₁,w₁,hq,.of_steps (.one h0 s1) harr⟩
end
namespace DL
variable [Dr]
variable {P : Program} {ro : Option Nat} {Q : Exit -> S -> Prop} {s : S}
def noGo(Q:Exit->S->Prop):Exit->S->Prop
 | .goto _,_=>False
 | e,s=>Q e s
theorem Zee [aa P]{c:Code}(h:DW P ro c (noGo Q) s):DW P ro (.scope c) Q s:=by
 intro B g a w hs hU
 refine Uz (wpIn_mono (h B g a w hs hU) ?_)
 rintro e a' w' ⟨s',g',hq,r⟩
 cases e with
 | goto l=>exact hq.elim
 | _=>exact⟨s',g',hq,r⟩
def Zel [aa P]{l:Nat}(h:Q .normal s):DW P ro (.label l) Q s:=λ_ g _ _ hs hU=>wpIn_label ⟨s,g,h,hs,bQ.refl _ _ _,hU,rfl⟩
end DL
end Go
namespace Go.Zon
open Go.DL Go.Str Go.Rec Go.Cmp Go.Jn
section
variable {p c : Zon} {ns : List Str} (K : Da p c ns) {q : Qst} (hn : ah q.name = true) (ht : 1 <= q.ty /\ q.ty <= 8) (hq : eO q = true) (hu : aI q.name p.apex) (hx : ¬(q.name = p.apex /\ q.ty = 6))
include K hn ht hq hu
omit ht in
def U6(h:qL (fF c q 0)=false):(jg p.apex q (dL (dF c.sets (wo c.sets (bE c q.name).1)))).1=0:=by
 have hl : ∀s∈dF c.sets (wo c.sets (bE c q.name).1),s∈c.sets:=oQ (H7 _ _ _ _)
 unfold qL at h
 rw[Ya]at h
 obtain⟨h1,h2⟩:=h
 have h1:(!(bE c q.name).2)=false:=h1
 have h1:(bE c q.name).2=true:=by simpa using h1
 have h2:(q.name==(bE c q.name).1&&(q.ty==6||q.ty==8))=false:=h2
 obtain⟨b1,b2⟩:=Je K hn hu h1
 refine Sa (yQ K hq hl) λs hs hsp=>?_
 obtain⟨x,hx2,h8,rfl⟩:=uD.1 hs
 have BX:=Zaf hx2 h8
 obtain⟨j,hj,rfl⟩:=AC K (hl x hx2) h8
 have BX:ns[j]! = (bE c q.name).1:=BX
 obtain⟨c1,c2⟩:=Za8 K (j:=j) (by rw[BX];exact b1)
 have hsp:(!(cO (aY p ns j) 2 && !cO (aY p ns j) 4)||(q.name==ns[j]! || !bC q.name ns[j]!))=true:=hsp
 have hU:bC q.name ns[j]! = true:=(kW hn (rz K hj).1).2 (by rw[BX];exact b2)
 rw[c1,c2,hU]at hsp
 have rM:q.name=ns[j]! := by simpa using hsp
 have hv:dz p.apex (aY p ns j) q.name=false:=SI hn rM.symm
 refine⟨?_,hv⟩
 unfold gW
 rw[show dz p.apex (aY p ns j) q.name=false from hv,show cO (aY p ns j) 2=true from c1,show cO (aY p ns j) 4=false from c2]
 have ha:xD q.ty=false:=by
  rw[<-BX,<-rM]at h2;unfold xD
  simpa using h2
 rw[ha];simp
omit ht hu in
def Va:(jg p.apex q (dL (dF c.sets [aC c.sets q]))).1=0:=by
 have hl : ∀s∈dF c.sets [aC c.sets q],s∈c.sets:=oQ (BL (jN _ _))
 refine Sa (yQ K hq hl) λs hs hsp=>?_
 obtain⟨x,hx2,h8,rfl⟩:=uD.1 hs
 obtain⟨i,hi,h0,e⟩:=x8.1 hx2
 rw[Yd.1 hi]at h0 e
 have BV:=Ny h0 e
 obtain⟨j,hj,rfl⟩:=AC K (hl x hx2) h8
 have e1:ns[j]! = q.name:=congrArg Qst.name BV
 have e2:q.ty=8:=(congrArg Qst.ty BV).symm
 have hv:dz p.apex (aY p ns j) q.name=false:=SI hn e1
 refine⟨?_,hv⟩
 unfold gW mV
 rw[show dz p.apex (aY p ns j) q.name=false from hv,e2,show cO (aY p ns j) 8=true from has_8 j]
 simp
include hx
theorem U8(h0:qL (fF c q 0)=true)(h1 : ¬0<=aC c.sets q)(h2 : ¬(0<=aC c.sets ⟨q.name,3⟩/\q.ty≠8))(h3:bZ c.sets q.name=true):(jg p.apex q (dL (dF c.sets [aC c.sets ⟨c.apex,4⟩,bJ c.sets q.name]))).1=5:=by
 have Oc:=tV K
 have hl : ∀s∈dF c.sets [aC c.sets ⟨c.apex,4⟩,bJ c.sets q.name],s∈c.sets:=oQ (yx (jN _ _) (lK _ _))
 have hU:bC q.name p.apex=true:=(kW hn (lh K).apex).2 hu
 obtain⟨j,C,i,i1,i2,i3⟩:=CK K hn hu
 have hin:aY p ns j∈dL (dF c.sets [aC c.sets ⟨c.apex,4⟩,bJ c.sets q.name]):=by
  refine uD.2 ⟨⟨aY p ns j,[]⟩,x8.2 ⟨bJ c.sets q.name,by simp,by omega,?_⟩,rfl,rfl⟩
  rw[i1,Int.toNat_natCast];exact i3.symm
 have at1:(bE c q.name).2=true->q.name=(bE c q.name).1/\xD q.ty=true:=by
  intro hb;unfold qL at h0;have h0:(!(bE c q.name).2||(q.name==(bE c q.name).1&&(q.ty==6||q.ty==8)))=true:=h0
  rw[hb]at h0;unfold xD
  simpa using h0
 have hno : ∀s∈c.sets,s.q≠q:=λs hs e=>h1 (D7.2 ⟨s,hs,e⟩)
 by_cases e:ns[j]! = q.name
 .
  refine R9 (yQ K hq hl) hU hx hin (BG K C.lt) (Dx K C.lt hn (.inr e)) ?_;have hs:mV (aY p ns j) q.ty=true:=by
   refine MB K ht C.lt (λs hs e2=>hno s hs (by rw[e2,e])) λ⟨s,hs,e2⟩=>?_
   refine YR λh8=>h2 ⟨D7.2 ⟨s,hs,by rw[e2,e]⟩,h8⟩
  have ha:(xD q.ty || !(cO (aY p ns j) 2 && !cO (aY p ns j) 4))=true:=by
   cases a2:cO (aY p ns j) 2 with
   | false=>simp
   | true =>
    cases a4:cO (aY p ns j) 4 with
    | true=>simp
    | false =>
     have hc:=SC K a2 a4;rw[e]at hc;have hb:=Kr Oc ((Kt K).2 hc) ((ay q.name).length+1) q.name hn (ko _) (Nat.lt_succ_self _);rw[(at1 hb).2];rfl
  unfold gW;rw[hs,ha,show(aY p ns j).name=q.name from e]
  simp
 .
  have hB:vG p q.name:=by
   refine OG K hn ?_
   cases hb:(bE c q.name).2 with
   | false=>rfl
   | true =>
    obtain⟨b1,_⟩:=Je K hn hu hb;rw[<-(at1 hb).1]at b1;obtain⟨m,hm,e2⟩:=fw.1 (FW K b1);exact absurd (SH K C hm e2) e
  refine R9 (yQ K hq hl) hU hx hin (BG K C.lt) (Dx K C.lt hn (.inl hB)) ?_;obtain⟨m,hm,hmu⟩:=NT K hB (ko _) ((yX Oc hn).1 h3);have hv:=Kw K C hn hu e;have hw:bC (nA ns j) q.name=true:=by
   rcases near K C (ko _) hm hmu with w|⟨w1,w2⟩
   . have h4:=ui w;have h5:=IG C.le e;exact(Ex h5 h4).elim
   . rw[El w1];exact(kW (rz K w1).1 hn).2 w2
  unfold gW;rw[hv,BF,hw]
  simp
omit ht hq hx in
theorem LV(h0:qL (fF c q 0)=true)(h3:bZ c.sets q.name=false):vG p q.name:=by
 refine OG K hn ?_
 cases hb:(bE c q.name).2 with
 | false=>rfl
 | true =>
  have h0:(!(bE c q.name).2||(q.name==(bE c q.name).1&&(q.ty==6||q.ty==8)))=true:=h0
  rw[hb]at h0;have e:q.name=(bE c q.name).1:=by
   simp only[Bool.not_true,Bool.false_or,XT,Yx]at h0;exact h0.1
  obtain⟨b1,_⟩:=Je K hn hu hb;rw[<-e]at b1;obtain⟨m,hm,e2⟩:=fw.1 (FW K b1);rw[Em K hn hm (by rw[e2];exact ko _)]at h3
  cases h3
omit ht hq hx in
def LW(hB:vG p q.name)(h3:bZ c.sets q.name=false){l:List Sgd}(hl : ∀s∈l,s∈c.sets){j:Nat}(C:xH ns j q.name)(hin:aY p ns j∈dL l):aY p ns j∈(ji p.apex q (dL l)).filter (λs=>dz p.apex s q.name) /\ ∀t∈(ji p.apex q (dL l)).filter (λs=>dz p.apex s q.name),t=aY p ns j:=by
 have hne:ns[j]! ≠ q.name:=λe=>by
  rw[Em K hn C.lt (by rw[e];exact ko _)]at h3
  cases h3
 constructor
 . exact YJ.2 ⟨xN.2 ⟨hin,BG K C.lt,Dx K C.lt hn (.inl hB)⟩,Kw K C hn hu hne⟩
 .
  intro t hm;obtain⟨t1,t2⟩:=YJ.1 hm;obtain⟨k,hk,rfl⟩:=Iz K hl (xN.1 t1).1
  by_cases e:k=j
  . rw[e]
  .
   rw[Zfg K C hn hk e]at t2
   cases t2
omit ht hq hx in
def LU(hB:vG p q.name)(he:(gM (gJ (gP c q.name))).2=0):ah (bI c q.name)=true/\aI (bI c q.name) p.apex/\(∀c',fq p c'->aI (bI c q.name) c'->c'=bI c q.name)/\(bZ c.sets (bI c q.name)=true -> ∃m,m<ns.length/\ns[m]! = bI c q.name):=by
 have Oc:=tV K
 obtain⟨b1,b2,b3,b4,b5⟩:=KM Oc (TU K) _ q.name hn (by rw[K.apex];exact hu) (Nat.lt_succ_self _)
 obtain⟨w1,w2⟩:=UH b1 he
 have hW:bI c q.name=kg (gP c q.name):=rfl
 rw[hW]
 have hWe:aI (kg (gP c q.name)) (gP c q.name):=by unfold aI;rw[w2];exact List.prefix_append _ _
 have hcut : ∀c',fq p c'->aI (kg (gP c q.name)) c'->c'=kg (gP c q.name):=by
  intro c' hc hu'
  rcases A9 hWe hu' with r|r
  . exact absurd (sw b2 r) (hB c' hc)
  .
   obtain⟨t,ht⟩:=hu';obtain⟨t2,ht2⟩:=r;rw[w2,<-ht2,YW]at ht;have h4:=List.append_cancel_left ht
   by_cases e:t2=[]
   .
    exfalso
    rw[e,YZ]at ht2;have:c'=gP c q.name:=qV ht2.symm;exact hB c' hc (by rw[this];exact b2)
   .
    have h5:=congrArg List.length h4;have h6:=YV.2 e
    simp at h5
    have h7:t=[]:=List.length_eq_zero_iff.1 (by omega)
    rw[h7,YZ]at h4;exact qV (by rw[w2,<-ht2,h4])
 refine⟨w1,sw hWe (by rw[<-K.apex];exact b3),hcut,λhex=>?_⟩
 obtain⟨s,hs,hsu⟩:=(yX Oc w1).1 hex
 have hsn:=VA w2 (Oc.nms s hs) hsu
 by_cases h8:s.set.ty=8
 . obtain⟨m,hm,rfl⟩:=AC K hs h8;exact⟨m,hm,hsn⟩
 .
  obtain⟨m,hm,e⟩:=fw.1 (K.own s (c_p K hs h8) (by rw[hsn];exact hcut))
  exact⟨m,hm,by rw[e,hsn]⟩
theorem U5(h0:qL (fF c q 0)=true)(h3:bZ c.sets q.name=false)(h4 : ¬0<=aC c.sets ⟨bI c q.name,q.ty⟩)(h5 : ¬(0<=aC c.sets ⟨bI c q.name,3⟩/\q.ty≠8))(h6:bI c q.name≠[])(h7:bZ c.sets (bI c q.name)=true):(jg p.apex q (dL (dF c.sets [aC c.sets ⟨c.apex,4⟩,bJ c.sets q.name,bJ c.sets (bI c q.name)]))).1=5:=by
 have hl : ∀s∈dF c.sets [aC c.sets ⟨c.apex,4⟩,bJ c.sets q.name,bJ c.sets (bI c q.name)],s∈c.sets:=oQ (yw (jN _ _) (lK _ _) (lK _ _))
 have hU:bC q.name p.apex=true:=(kW hn (lh K).apex).2 hu
 have hB:=LV K hn hu h0 h3
 have he:(gM (gJ (gP c q.name))).2=0:=YR λh=>h6 (PD h)
 obtain⟨w1,w2,w3,w4⟩:=LU K hn hu hB he
 obtain⟨m,hm,em⟩:=w4 h7
 obtain⟨j,C,i,i1,i2,i3⟩:=CK K hn hu
 obtain⟨j2,C2,i',k1,k2,k3⟩:=CK K w1 w2
 have hin:aY p ns j∈dL (dF c.sets [aC c.sets ⟨c.apex,4⟩,bJ c.sets q.name,bJ c.sets (bI c q.name)]):=by
  refine uD.2 ⟨⟨aY p ns j,[]⟩,x8.2 ⟨bJ c.sets q.name,by simp,by omega,?_⟩,rfl,rfl⟩
  rw[i1,Int.toNat_natCast];exact i3.symm
 have hin2:aY p ns j2∈dL (dF c.sets [aC c.sets ⟨c.apex,4⟩,bJ c.sets q.name,bJ c.sets (bI c q.name)]):=by
  refine uD.2 ⟨⟨aY p ns j2,[]⟩,x8.2 ⟨bJ c.sets (bI c q.name),by simp,by omega,?_⟩,rfl,rfl⟩
  rw[k1,Int.toNat_natCast];exact k3.symm
 have g:=yQ K hq hl
 cases ha:(ji p.apex q (dL (dF c.sets [aC c.sets ⟨c.apex,4⟩,bJ c.sets q.name,bJ c.sets (bI c q.name)]))).any (gW p.apex q)with
 | true=>exact ZeQ g hU hx ha
 | false =>
  rw[R8 g hU hx ha];obtain⟨d1,d2⟩:=LW K hn hu hB h3 hl C hin;obtain⟨L,eL⟩:=Qr (a:=p.apex) (q:=q) (nx:=(dL (dF c.sets [aC c.sets ⟨c.apex,4⟩,bJ c.sets q.name,bJ c.sets (bI c q.name)])).filter (bW p.apex)) d1 d2;rw[eL,u7,Q6 K hn hu C hB,XW (by rw[he];simp),XY]
  rw[Zz];have e2:=SH K C2 hm em;refine⟨aY p ns j2,YJ.2 ⟨hin2,BG K C2.lt⟩,?_⟩;have hs:mV (aY p ns j2) q.ty=true:=by
   refine MB K ht C2.lt (λs hs e3=>h4 (D7.2 ⟨s,hs,by rw[e3,e2]⟩)) λ⟨s,hs,e3⟩=>?_
   exact YR λh8=>h5 ⟨D7.2 ⟨s,hs,by rw[e3,e2]⟩,h8⟩
  rw[hs,Bool.and_true,Yx];exact e2
omit ht in
theorem U7(h0:qL (fF c q 0)=true)(h3:bZ c.sets q.name=false)(h6 : ¬(bI c q.name≠[]/\bZ c.sets (bI c q.name)=true)):(jg p.apex q (dL (dF c.sets [aC c.sets ⟨c.apex,4⟩,bJ c.sets q.name,if bI c q.name=[]then -1 else bJ c.sets (bI c q.name)]))).1=6:=by
 have hl : ∀s∈dF c.sets [aC c.sets ⟨c.apex,4⟩,bJ c.sets q.name,if bI c q.name=[]then -1 else bJ c.sets (bI c q.name)],s∈c.sets:=by
  refine oQ (yw (jN _ _) (lK _ _) ?_)
  split
  . omega
  . exact lK _ _
 have hU:bC q.name p.apex=true:=(kW hn (lh K).apex).2 hu
 have hB:=LV K hn hu h0 h3
 obtain⟨j,C,i,i1,i2,i3⟩:=CK K hn hu
 have hin:aY p ns j∈dL (dF c.sets [aC c.sets ⟨c.apex,4⟩,bJ c.sets q.name,if bI c q.name=[]then -1 else bJ c.sets (bI c q.name)]):=by
  refine uD.2 ⟨⟨aY p ns j,[]⟩,x8.2 ⟨bJ c.sets q.name,by simp,by omega,?_⟩,rfl,rfl⟩
  rw[i1,Int.toNat_natCast];exact i3.symm
 have g:=yQ K hq hl
 have hno : ∀k,k<ns.length -> ¬aI ns[k]! q.name:=λk hk hku=>by
  rw[Em K hn hk hku]at h3;cases h3
 have ha:(ji p.apex q (dL (dF c.sets [aC c.sets ⟨c.apex,4⟩,bJ c.sets q.name,if bI c q.name=[]then -1 else bJ c.sets (bI c q.name)]))).any (gW p.apex q)=false:=by
  rw[List.any_eq_false];intro s hs;obtain⟨k,hk,rfl⟩:=Iz K hl (xN.1 hs).1;unfold gW;rw[BF];have e1:((aY p ns k).name==q.name)=false:=YM.2 λe=>hno k hk (by rw[show ns[k]! = q.name from e];exact ko _)
  have e2:bC (nA ns k) q.name=false:=by
   cases w:bC (nA ns k) q.name with
   | false=>rfl
   | true =>
    obtain⟨m1,_,m,hm,em⟩:=Iy K hk;have w:=(kW m1 hn).1 w;rw[em]at w;exact absurd w (hno m hm)
  rw[e1,e2];simp
 rw[R8 g hU hx ha]
 obtain⟨d1,d2⟩:=LW K hn hu hB h3 hl C hin
 obtain⟨L,eL⟩:=Qr (a:=p.apex) (q:=q) (nx:=(dL (dF c.sets [aC c.sets ⟨c.apex,4⟩,bJ c.sets q.name,if bI c q.name=[]then -1 else bJ c.sets (bI c q.name)])).filter (bW p.apex)) d1 d2
 rw[eL,u7,Q6 K hn hu C hB]
 by_cases he:(gM (gJ (gP c q.name))).2=0
 .
  rw[XW (by rw[he];simp)]
  obtain⟨w1,w2,w3,w4⟩:=LU K hn hu hB he;have hwn:bI c q.name≠[]:=λe=>by rw[e,BI]at w1;cases w1
  have hwx:bZ c.sets (bI c q.name)=false:=by
   cases w:bZ c.sets (bI c q.name)with
   | false=>rfl
   | true=>exact absurd ⟨hwn,w⟩ h6
  have yI : ∀k,k<ns.length->ns[k]! ≠ bI c q.name:=λk hk e=>by
   rw[Em K w1 hk (by rw[e];exact ko _)]at hwx;cases hwx
  obtain⟨j2,C2,i',k1,k2,k3⟩:=CK K w1 w2;have hin2:aY p ns j2∈dL (dF c.sets [aC c.sets ⟨c.apex,4⟩,bJ c.sets q.name,if bI c q.name=[]then -1 else bJ c.sets (bI c q.name)]):=by
   refine uD.2 ⟨⟨aY p ns j2,[]⟩,x8.2 ⟨bJ c.sets (bI c q.name),by rw[XW hwn];simp,by omega,?_⟩,rfl,rfl⟩
   rw[k1,Int.toNat_natCast];exact k3.symm
  rw[XW,XY]
  .
   rw[Zz];refine⟨aY p ns j2,YJ.2 ⟨hin2,BG K C2.lt⟩,?_⟩;have hBW:vG p (bI c q.name):=by
    intro c' hc hu';have e:=w3 c' hc hu';rw[e]at hc;obtain⟨m,hm,em⟩:=fw.1 (FW K hc);exact yI m hm em
   have s1:=Dx K C2.lt w1 (.inl hBW);have s2:=Kw K C2 w1 w2 (yI j2 C2.lt);rw[show kg (gP c q.name)=bI c q.name from rfl,s1,s2]
   rfl
  . rw[Bool.not_eq_true,List.any_eq_false];intro s hs;obtain⟨k,hk,rfl⟩:=Iz K hl (YJ.1 hs).1;have:((aY p ns k).name==kg (gP c q.name))=false:=YM.2 (yI k hk);rw[this];simp
 . rw[XY he]
end
def Uh(a:Str)(q:Qst)(A:eH):Prop:=(jg a q (dL A.sets)).2=0/\((A.kind=5\/A.kind=6)->(jg a q (dL A.sets)).1=A.kind)/\(¬(A.kind=5\/A.kind=6)->(jg a q (dL A.sets)).1=0\/A.kind=3\/A.kind=2)
theorem Vb{p c:Zon}{ns:List Str}(K:Da p c ns){q:Qst}(hq:eO q=true)(hu:aI q.name p.apex)(hx : ¬(q.name=p.apex/\q.ty=6)):Uh p.apex q (CX c q):=by
 have hn:ah q.name=true:=by unfold eO at hq;rw[XT]at hq;exact hq.1
 have ht:1<=q.ty/\q.ty<=8:=by unfold eO at hq;rw[XT]at hq;exact je.1 hq.2
 refine⟨ZeP (yQ K hq (go_in 7 0)),?_⟩
 unfold CX
 have W : ∀k,¬k<=3->fF c q k=⟨c,q,(bE c q.name).1,(bE c q.name).2,bI c q.name⟩:=λk h=>by unfold fF;rw[XW h]
 by_cases t0:qL (fF c q 0)=true
 case neg =>
  have t0:qL (fF c q 0)=false:=by simpa using t0
  rw[iL,GM t0,XY rfl];exact⟨λh=>(by rcases h with h|h<;>cases h),λ_=>.inl (U6 K hn hq hu t0)⟩
 rw[iL,GL t0,XW Bool.noConfusion]
 rw[iL]
 by_cases t1:0<=aC c.sets q
 .
  rw[XY (show(cB (fF c q 1) 1).2=true from YE t1)]
  exact⟨λh=>(by rcases h with h|h<;>cases h),λ_=>.inl (Va K hn hq)⟩
 rw[XW (show ¬(cB (fF c q 1) 1).2=true by rw[show(cB (fF c q 1) 1).2=false from YI t1];exact Bool.noConfusion)]
 rw[iL]
 by_cases t2:(cB (fF c q 2) 2).2=true
 . rw[XY t2];exact⟨λh=>(by rcases h with h|h<;>cases h),λ_=>.inr (.inl rfl)⟩
 rw[XW t2,iL]
 have t2 : ¬(0<=aC c.sets ⟨q.name,3⟩/\q.ty≠8):=λ⟨a,b⟩=>t2 (by
  show(decide (0<=aC c.sets ⟨q.name,3⟩) && !decide (q.ty=8))=true
  rw[YE a,YI b];rfl)
 by_cases t3:bZ c.sets q.name=true
 .
  rw[show cB (fF c q 3) 3=_ from Dm (v:=fF c q 3) t3,XY rfl]
  exact⟨λ_=>U8 K hn ht hq hu hx t0 t1 t2 t3,λh=>absurd (.inl rfl) h⟩
 have t3:bZ c.sets q.name=false:=by simpa using t3
 rw[show cB (fF c q 3) 3=_ from GK (v:=fF c q 3) t3,XW Bool.noConfusion,iL]
 rw[W 4 (by omega)]
 by_cases t4:0<=aC c.sets ⟨bI c q.name,q.ty⟩
 .
  rw[XY (by exact YE t4)]
  exact⟨λh=>(by rcases h with h|h<;>cases h),λ_=>.inr (.inr rfl)⟩
 rw[XW (by intro h;exact t4 (Y3 h)),iL,W 5 (by omega)]
 by_cases t5:0<=aC c.sets ⟨bI c q.name,3⟩/\q.ty≠8
 .
  rw[XY (by show(decide (0<=aC c.sets ⟨bI c q.name,3⟩) && !decide (q.ty=8))=true;rw[YE t5.1,YI t5.2];rfl)]
  exact⟨λh=>(by rcases h with h|h<;>cases h),λ_=>.inr (.inl rfl)⟩
 rw[XW (by
  intro h;have h:(decide (0<=aC c.sets ⟨bI c q.name,3⟩) && !decide (q.ty=8))=true:=h;simp only[XT,XV,X5,X3]at h;exact t5 h),iL,W 6 (by omega)]
 by_cases t6:bI c q.name≠[]/\bZ c.sets (bI c q.name)=true
 .
  rw[GJ (by
   show(bI c q.name==[] || !bZ c.sets (bI c q.name))=false
   rw[t6.2,YM.2 t6.1];rfl),XY rfl]
  exact⟨λ_=>U5 K hn ht hq hu hx t0 t3 t4 t5 t6.1 t6.2,λh=>absurd (.inl rfl) h⟩
 rw[GI (by
   show(bI c q.name==[] || !bZ c.sets (bI c q.name))=true
   rw[X8,Yx,X5]
   by_cases e:bI c q.name=[]
   . exact .inl e
   .
    right
    cases w:bZ c.sets (bI c q.name)with
    | false=>rfl
    | true=>exact absurd ⟨e,w⟩ t6),XW Bool.noConfusion,iL,W 7 (by omega)]
 exact⟨λ_=>U7 K hn hq hu hx t0 t3 t6,λh=>absurd (.inr rfl) h⟩
def U9{z:Zon}{q:Qst}(e:(dW z).2=0)(f:(fK (dW z).1 q).2=0)(hk:(fK (dW z).1 q).1.kind≠7)(hx : ¬(q.name=z.apex/\q.ty=6)):Uh z.apex q (fK (dW z).1 q).1:=by
 unfold fK at f hk ⊢
 split at f
 . cases f
 rename_i h1
 split at f
 .
  rename_i h2
  rw[XW h1,XY h2]at hk;exact absurd rfl hk
 rename_i h2
 split at f
 .
  rename_i h3
  exact absurd f h3
 rename_i h3
 rw[XW h1,XW h2,XW h3]
 have h1:aW q.ty 1 8=true:=by simpa using h1
 have h3:(fZ (dW z).1 q.name).2.2=0:=YR h3
 unfold fZ at h2 h3
 split at h3
 case isFalse=>cases h3
 rename_i h4
 rw[XT]at h4
 rw[XY (by rw[h4.1,h4.2];rfl)]at h2
 split at h3
 case isFalse=>cases h3
 rename_i h5
 obtain⟨K,ha⟩:=ZfD e h4.2
 rw[ha]at h5
 have hz:z.apex=(plainOf z).apex:=rfl
 rw[hz]at h5 hx ⊢
 exact Vb K (by unfold eO;rw[h4.1,h1];rfl) ((zi h4.1 (lh K).apex).1 h5) hx
end Go.Zon
namespace Go.Zon
open Go.DL Go.Str Go.Rec Go.Cmp Go.Jn
structure Ud(a:Str)(q:Qst)(A:eH):Prop where
 g:(iV a q (dL A.sets)).2=0
 k5:(A.kind=5\/A.kind=6)->(iV a q (dL A.sets)).1=A.kind
 k0 : ¬(A.kind=5\/A.kind=6)->(iV a q (dL A.sets)).1=0\/A.kind=3\/A.kind=2
 len:A.sets.length<=1000000
def Zgs{z:Zon}{q:Qst}(f:(fK z q).2=0)(hk:(fK z q).1.kind≠7):aN z=true:=by
 unfold fK at f hk
 split at f
 . cases f
 rename_i h1
 split at f
 .
  rename_i h2
  rw[XW h1,XY h2]at hk;exact absurd rfl hk
 rename_i h2
 split at f
 .
  rename_i h3
  exact absurd f h3
 rename_i h3
 have h3:(fZ z q.name).2.2=0:=YR h3
 unfold fZ at h3
 split at h3
 .
  rename_i h4
  rw[XT]at h4;exact h4.2
 cases h3
def Vd{z:Zon}{q:Qst}(e:(dW z).2=0)(f:(fK (dW z).1 q).2=0)(hk:(fK (dW z).1 q).1.kind≠7)(hx : ¬(q.name=z.apex/\q.ty=6)):Ud z.apex q (fK (dW z).1 q).1:=by
 obtain⟨h1,h2,h3⟩:=U9 e f hk hx
 rw[<-ZeR]at h1 h2 h3
 exact⟨h1,h2,h3,Zgt (De (Zgs f hk))⟩
def td_g{z:Zon}{q:Qst}(e:(dW z).2=0)(c:((fK (dW z).1 q).2 != 0||(fK (dW z).1 q).1.kind==7||(q.name==z.apex&&q.ty==6))=false):Ud z.apex q (fK (dW z).1 q).1:=by
 rw[Ya,Ya]at c
 refine Vd e (by simpa using c.1.1) (by simpa using c.1.2) λh=>?_
 rw[h.1,h.2]at c
 simp at c
def lm(l:List Sgd)(k:Nat):List RSet:=dL (l.take k)
@[go_sem]theorem nxTo_0{l:List Sgd}:lm l 0=[]:=rfl
def Zbe(l:List Sgd):lm l l.length=dL l:=by unfold lm;rw[Zq]
def Ox(l:List Sgd):(dL l).length<=l.length:=by
 unfold dL
 rw[YY]
 exact List.length_filter_le _ _
def Zbd(l:List Sgd)(k:Nat):(lm l k).length<=k:=by
 unfold lm
 exact Yt (Ox _) (by rw[Y7];omega)
theorem Ot{l:List Sgd}{k:Nat}(hk:k<l.length):lm l (k+1)=lm l k++dL [l[k]!]:=by
 unfold lm dL
 rw[zm! hk,List.filter_append,YQ]
def Zba{l:List Sgd}{k:Nat}(hk:k<l.length)(h:l[k]!.set.ty=8):(lm l (k+1)).map RSet.d=(lm l k).map RSet.d++[[.v (.string (bs l[k]!.set.name)),.i l[k]!.set.ty,.i l[k]!.set.life,.l (l[k]!.set.data.map Dat.d)]]/\(lm l (k+1)).length=(lm l k).length+1:=by
 have e:dL [l[k]!]=[l[k]!.set]:=by unfold dL;rw[List.filter_cons,XY (YE h)];rfl
 rw[Ot hk,e]
 refine⟨?_,by simp⟩
 rw[YQ]
 rfl
def nx_no{l:List Sgd}{k:Nat}(hk:k<l.length)(h : ¬l[k]!.set.ty=8):lm l (k+1)=lm l k:=by
 have e:dL [l[k]!]=[]:=by unfold dL;rw[List.filter_cons,XW (by simpa using h)];rfl
 rw[Ot hk,e,YZ]
end Go.Zon
namespace Go.DL
variable [Dr]
open Go.RowKit Go.ChangeShapes Go.WideShapes
variable {P : Program}
def K8(Q:TypeId->List D->Prop):List Field->List D->Prop
 | [],ds=>ds=[]
 | f::fs,ds=>∃a b,ds=a++b/\Q f.type a/\K8 Q fs b
def Sh(P:Program)[aa P]:Nat->TypeId->List D->Prop
 | 0,_,_=>False
 | k+1,t,ds=>match P.underlying t with
  | some .bool=>∃b,ds=[.v (.bool b)]
  | some (.int q)=>∃n,ds=[.v (.int q n)]/\(Lit.int q n).wf=true
  | some .string=>∃s,ds=[.v (.string s)]/\s.size<=maxLen
  | some (.slice e)=>∃rows,ds=[.list false rows] /\ ∀r∈rows,Sh P k e r
  | some (.struct fs)=>K8 (Sh P k) fs.toList ds
  | _=>False
def vV(P:Program)[aa P]:Nat->TypeId->Bool
 | 0,_=>false
 | k+1,t=>match P.underlying t with
  | some .bool|some (.int _)|some .string=>true
  | some (.slice e)=>decide (0<P.cellsOf e)&&decide (e<P.types.size)&&vV P k e
  | some (.struct fs)=>fs.toList.all λf=>decide (f.type<P.types.size)&&vV P k f.type
  | _=>false
def tX(w:World)(g:Mem)(ds:List D)(cs:List Value):Prop:=aG w g ds cs /\ ∀v∈cs,v.oneCell'=true
theorem tX.nil{w:World}{g:Mem}:tX w g [] []:=⟨.nil,λv h=>by cases h⟩
def tX.one{w:World}{g:Mem}{d:D}{v:Value}(h:ag w g d v)(h1:v.oneCell'=true):tX w g [d] [v] :=
 ⟨.cons h .nil,λu hu=>by rw[Yd]at hu;subst hu;exact h1⟩
def tX.append{w:World}{g:Mem}{ds es:List D}{cs us:List Value}(h:tX w g ds cs)(k:tX w g es us):tX w g (ds++es) (cs++us) :=
 ⟨h.1.append k.1,λv hv=>(Yo.1 hv).elim (h.2 v) (k.2 v)⟩
def Tv{w:World}{a:Addr}{v:Value}(h:w.cell? a=some v):a.block<w.heap.size:=by
 unfold World.cell? at h
 split at h
 . rename_i c _ _ hb;exact(Yb.1 hb).1
 cases h
theorem ZfN{w:World}{base:Nat}{a:Addr}{n:Nat}{cs:List Value}(h:w.cells? base a n=some cs):cs.length=n /\ ∀j,j<n->w.cell? (a.add j)=cs[j]? := by
 unfold World.cells? at h
 split at h
 .
  have key : ∀(l:List Nat)(cs:List Value),l.mapM (λi=>w.cell? (a.add i))=some cs->cs.length=l.length /\ ∀(j i:Nat),l[j]? = some i->w.cell? (a.add i)=cs[j]? := by
   intro l
   induction l with
   | nil=>intro cs h;simp at h;subst h;exact⟨rfl,λj i h=>by simp at h⟩
   | cons i l ih =>
    intro cs h;rw[List.mapM_cons]at h
    cases hc:w.cell? (a.add i)with
    | none=>rw[hc]at h;simp at h
    | some v =>
     rw[hc]at h;simp only[Option.bind_eq_bind,Option.bind_some]at h
     cases hr:l.mapM (λi=>w.cell? (a.add i))with
     | none=>rw[hr]at h;simp at h
     | some r =>
      rw[hr]at h
      simp at h
      subst h;obtain⟨h1,h2⟩:=ih r hr;refine⟨by simp[h1],λj i' hj=>?_⟩
      cases j with
      | zero=>simp at hj;subst hj;simpa using hc
      | succ j=>simp at hj;simpa using h2 j i' hj
  obtain⟨h1,h2⟩:=key _ _ h;exact⟨by simpa using h1,λj hj=>h2 j j (by simp[hj])⟩
 cases h
theorem GR{α:Type}(l:List α)(m n:Nat):(l.drop m).take n++(l.drop (m+n))=l.drop m:=by
 rw[<-Z8];exact ZR n (l.drop m)
theorem reads [aa P]{H:Type}{enc:TypeId×Value->H}{w:World}{base:Nat}{spare:Nat->Bool}{held:Bool}(hl:laidOutB P=true) :
  ∀(k:Nat)(t:TypeId)(cs:List Value)(fuel:Nat)(x:DataW H×List MemPlace),t<P.types.size->vV P k t=true->DataW.trod enc P w base spare held fuel t cs=some x ->
   ∃ds,Sh P k t ds/\tX w (gq λb=>b<w.heap.size) ds cs:=by
 intro k
 induction k with
 | zero=>intro t cs fuel x _ h;cases h
 | succ k ih =>
  intro t cs fuel x htl hs hr;unfold vV at hs;unfold Sh
  split at hs
  .
   rename_i hu
   obtain⟨b,rfl,_⟩:=DataW.trod_bool hu hr;exact⟨_,⟨b,rfl⟩,.one (.v _) rfl⟩
  .
   rename_i q hu
   obtain⟨n,rfl,_,hw⟩:=DataW.trod_int hu hr;exact⟨_,⟨n,rfl,hw⟩,.one (.v _) rfl⟩
  .
   rename_i hu
   obtain⟨s,rfl,_,hw⟩:=DataW.trod_string hu hr;exact⟨_,⟨s,rfl,hw⟩,.one (.v _) rfl⟩
  .
   rename_i e hu
   simp only[XT,XV]at hs;obtain⟨⟨hpos,hel⟩,hs⟩:=hs
   rcases DataW.trod_slice hu hr with⟨rfl,_⟩|⟨a,len,cap,elems,rest,n,_,rfl,_,_,hlc,hcm,hlen,hrd,_,_⟩
   . exact⟨_,⟨[],rfl,λr h=>by cases h⟩,.one (.empty false none 0 (λh=>by cases h) (by simp[maxLen])) rfl⟩
   have hrow : ∀i,i<len -> ∃ds,Sh P k e ds/\ds.length=P.cellsOf e /\ ∀(j:Nat)d,ds[j]? = some d -> ∃v,w.cell? (a.add (i*P.cellsOf e+j))=some v/\v.oneCell'=true/\ag w (gq λb=>b<w.heap.size) d v:=by
    intro i hi;have h1:=hrd i hi;have h2:elems[i]? = some (elems[i]'(by omega)):=X6 _
    rw[h2]at h1;rw[Option.bind_eq_some_iff]at h1;obtain⟨cs',hc,ht⟩:=h1;obtain⟨hcl,hcg⟩:=ZfN hc;obtain⟨ds,hsh,⟨hrl,hrr⟩,ho⟩:=ih e cs' n _ hel hs ht;refine⟨ds,hsh,by rw[hrl,hcl],λj d hd=>?_⟩
    have hj:j<cs'.length:=by rw[<-hrl];exact(X0.1 hd).1
    have hcj:=hcg j (by omega)
    rw[add_add']at hcj;have hg:cs'[j]? = some (cs'[j]'hj):=X6 _;exact⟨cs'[j]'hj,by rw[hcj,hg],ho _ (Yp _),hrr j d _ hd hg⟩
   have hch : ∃rows:List (List D),rows.length=len /\ ∀i r,rows[i]? = some r->Sh P k e r/\r.length=P.cellsOf e /\ ∀(j:Nat)d,r[j]? = some d -> ∃v,w.cell? (a.add (i*P.cellsOf e+j))=some v/\v.oneCell'=true/\ag w (gq λb=>b<w.heap.size) d v:=by
    refine⟨(List.range len).map λi=>if h:i<len then Classical.choose (hrow i h)else[],by simp,λi r hr=>?_⟩
    rw[Ym]at hr
    by_cases hi:i<len
    . rw[List.getElem?_range hi]at hr;simp only[YP,XU]at hr;rw[dif_pos hi]at hr;subst hr;exact Zd (hrow i hi)
    rw[Zt (by simpa using hi)]at hr;cases hr
   obtain⟨rows,hrl,hrr⟩:=hch;refine⟨_,⟨rows,rfl,λr h=>by obtain⟨i,hi⟩:=YG h;exact(hrr i r hi).1⟩,.one ?_ rfl⟩
   cases hz:len with
   | zero =>
    subst hz;have:rows=[]:=Yf hrl;subst this;exact .empty false _ _ (λh=>by cases h) hcm
   | succ m =>
    rw[<-hz,<-hrl];have hcv : ∀i j,∃u,∀row d,rows[i]? = some row->row[j]? = some d->w.cell? (a.add (i*P.cellsOf e+j))=some u/\u.oneCell'=true/\ag w (gq λb=>b<w.heap.size) d u:=by
     intro i j
     by_cases hh : ∃row d,rows[i]? = some row/\row[j]? = some d
     .
      obtain⟨row,d,q1,q2⟩:=hh;obtain⟨u,q3⟩:=(hrr i row q1).2.2 j d q2;refine⟨u,λrow' d' q1' q2'=>?_⟩
      rw[q1]at q1';cases q1'
      rw[q2]at q2';cases q2'
      exact q3
     exact⟨undef,λrow d q1 q2=>absurd ⟨row,d,q1,q2⟩ hh⟩
    have hcs : ∀i j row d,rows[i]? = some row->row[j]? = some d->w.cell? (a.add (i*P.cellsOf e+j))=some (Classical.choose (hcv i j))/\(Classical.choose (hcv i j)).oneCell'=true/\ag w (gq λb=>b<w.heap.size) d (Classical.choose (hcv i j)):=λi j row d h1 h2=>Zd (hcv i j) row d h1 h2
    refine .list false rows a cap (P.cellsOf e) (λi j=>Classical.choose (hcv i j)) ?_ om (λh=>by cases h) hcm (λr hr=>?_) (λi j r d h1 h2=>⟨(hcs i j r d h1 h2).1,(hcs i j r d h1 h2).2.1⟩) λi j r d h1 h2=>(hcs i j r d h1 h2).2.2
    .
     show a.block<w.heap.size
     have h0:rows[0]? = some (rows[0]'(by omega)):=X6 _
     obtain⟨_,q2,q3⟩:=hrr 0 _ h0;have h1:(rows[0]'(by omega))[0]? = some ((rows[0]'(by omega))[0]'(by omega)):=X6 _
     obtain⟨v,hv,_⟩:=q3 0 _ h1;have:=Tv hv;rwa [block_add]at this
    obtain⟨i,hi⟩:=YG hr;exact(hrr i r hi).2.1
  .
   rename_i fs hu
   obtain⟨xs,n,_,_,hcl,hxl,hf⟩:=DataW.trod_struct hu hr;obtain⟨_,hsum,hoff⟩:=kid_struct hl htl hu;simp only[Yg,XT,XV]at hs;have key : ∀(fl:List Field)(i off:Nat),fs.toList.drop i=fl->off=((fs.toList.take i).map λf=>P.cellsOf f.type).sum -> ∃ds,K8 (Sh P k) fl ds/\tX w (gq λb=>b<w.heap.size) ds (cs.drop off):=by
    intro fl
    induction fl with
    | nil =>
     intro i off hd ho;have hil:fs.toList.length<=i:=by
      have:=congrArg List.length hd;simp only[Zj,ZJ]at this;omega
     have:off=cs.length:=by rw[hcl,hsum,ho,Yh hil]
     rw[this,Zr];exact⟨[],rfl,.nil⟩
    | cons f fl ihf =>
     intro i off hd ho;have hil:i<fs.toList.length:=by
      have:=congrArg List.length hd;simp only[Zj,YA]at this;omega
     have hfi:fs.toList[i]? = some f:=by
      have:(fs.toList.drop i)[0]? = some f:=by rw[hd];rfl
      simpa using this
     have hofs:=hoff i f hfi;have hxi:xs[i]? = some (xs[i]'(by rw[hxl];simpa using hil)):=X6 _
     have hrd:=hf i f (by simpa using hfi)
     rw[hxi,hofs,<-ho]at hrd;have hmem:=X7 hfi;obtain⟨ds1,h1,h2⟩:=ih f.type _ n _ (hs f hmem).1 (hs f hmem).2 hrd;have htk:fs.toList.take (i+1)=fs.toList.take i++[f]:=by rw[ZK,hfi];rfl
     obtain⟨ds2,h3,h4⟩:=ihf (i+1) (off+P.cellsOf f.type) (by rw[<-Z8,hd];rfl) (by rw[htk,YQ,List.sum_append,<-ho];simp)
     refine⟨ds1++ds2,⟨ds1,ds2,rfl,h1,h3⟩,?_⟩;rw[<-GR cs off (P.cellsOf f.type)];exact h2.append h4
   obtain⟨ds,h1,h2⟩:=key fs.toList 0 0 rfl (by simp)
   exact⟨ds,h1,by simpa using h2⟩
  cases hs
def xR:Nat:=12
def ShV(P:Program)[aa P](t:TypeId)(x:D):Prop:=match P.underlying t with
 | some (.struct _)=>∃cs,x = .agg cs/\Sh P xR t cs
 | _=>Sh P xR t [x]
def ShArgs(P:Program)[aa P]:List TypeId->List D->Prop
 | [],xs=>xs=[]
 | t::ts,xs=>∃x ys,xs=x::ys/\ShV P t x/\ShArgs P ts ys
theorem readV [aa P]{H:Type}{enc:TypeId×Value->H}{w:World}{spare:Nat->Bool}{held:Bool}{b0:Nat}{t:TypeId}{v:Value}{d:DataW H}{ps:List MemPlace}(hl:laidOutB P=true)(htl:t<P.types.size)(hs:vV P xR t=true)(hv:Value.okWide P w .any b0 t v)(h:DataW.Trod enc P w 0 spare held t v d ps) :
  ∃x,ShV P t x/\ag w (gq λb=>b<w.heap.size) x v:=by
 obtain⟨fuel,h⟩:=h
 obtain⟨ds,h1,h2⟩:=reads hl xR t v.cells.toList fuel _ htl hs h
 have one:v.cells = #[v]->ShV P t (ds.headD .junk)/\ag w (gq λb=>b<w.heap.size) (ds.headD .junk) v\/(∃fs,P.underlying t=some (.struct fs)):=by
  intro hc;rw[hc]at h2;have hlen:ds.length=1:=h2.1.1
  match ds,hlen with
  | [x],_ =>
   by_cases hst : ∃fs,P.underlying t=some (.struct fs)
   . exact .inr hst
   refine .inl ⟨?_,h2.1.head⟩;unfold ShV
   split
   . rename_i fs hu;exact absurd ⟨fs,hu⟩ hst
   exact h1
 unfold xR vV at hs
 split at hs
 .
  rename_i hu
  obtain⟨b,rfl⟩:=okWide_bool hu hv
  rcases one rfl with h|⟨fs,h⟩
  . exact⟨_,h⟩
  rw[hu]at h;cases h
 .
  rename_i q hu
  obtain⟨n,rfl⟩:=okWide_int hu hv
  rcases one rfl with h|⟨fs,h⟩
  . exact⟨_,h⟩
  rw[hu]at h;cases h
 .
  rename_i hu
  obtain⟨s,rfl⟩:=okWide_string hu hv
  rcases one rfl with h|⟨fs,h⟩
  . exact⟨_,h⟩
  rw[hu]at h;cases h
 .
  rename_i e hu
  obtain⟨a,len,cap,rfl⟩:=okWide_slice hu hv
  rcases one rfl with h|⟨fs,h⟩
  . exact⟨_,h⟩
  rw[hu]at h;cases h
 .
  rename_i fs hu
  obtain⟨cs,rfl,_⟩:=okWide_struct hu hv;refine⟨.agg ds,?_,.mk_agg ?_⟩
  . unfold ShV;rw[hu];exact⟨ds,rfl,h1⟩
  have:(Value.agg cs).cells=cs:=rfl;rw[this]at h2;exact h2.1
 cases hs
theorem readAll [aa P]{H:Type}{enc:TypeId×Value->H}{w:World}{spare:Nat->Bool}{held:Bool}{b0:Nat}(hl:laidOutB P=true):∀(ts:List TypeId)(vs:List Value)(ds:List (DataW H))(ps:List MemPlace),(∀t∈ts,t<P.types.size/\vV P xR t=true) ->
  (∀(j:Nat)t v,ts[j]? = some t->vs[j]? = some v->Value.okWide P w .any b0 t v)->DataW.TrodAll enc P w 0 spare held ts vs ds ps -> ∃xs,ShArgs P ts xs/\aG w (gq λb=>b<w.heap.size) xs vs
 | [],[],[],_,_,_,_=>⟨[],rfl,.nil⟩
 | t::ts,v::vs,d::ds,ps,ht,hv,⟨p,q,h1,h2,_⟩=>by
  obtain⟨x,hx1,hx2⟩:=readV hl (ht t (by simp)).1 (ht t (by simp)).2 (hv 0 t v rfl rfl) h1
  obtain⟨xs,hy1,hy2⟩:=readAll hl ts vs ds q (λt' h=>ht t' (by simp[h])) (λj t' v' e1 e2=>hv (j+1) t' v' (by simpa using e1) (by simpa using e2)) h2
  exact⟨x::xs,⟨x,xs,rfl,hx1,hy1⟩,.cons hx2 hy2⟩
theorem Zgb{W W':World}(hb:xI W W')(may:MemPlace->Prop):W.keptBut W' may:=by
 refine⟨hb.os,hb.output,λi hi=>?_⟩
 rw[hb.block i hi]
 cases h:W.heap[i]? with
 | none=>trivial
 | some o =>
  cases o<;>first
   | exact⟨rfl,rfl,rfl,λ_ _=>rfl⟩
   | exact .inr ⟨rfl,rfl⟩
   | rfl
theorem LQ [aa P]{H:Type}{enc:TypeId×Value->H}{W W':World}(hl:laidOutB P=true)(hb:xI W W'):∀(ts:List TypeId)(vs:List Value)(ds:List (DataW H))(ps:List MemPlace),(∀t∈ts,P.readableRec t=true/\t<P.types.size) ->
  DataW.TrodAll enc P W 0 (λ_=>true) true ts vs ds ps->(∀x∈ps,x.block<W.heap.size) -> ∀sp:Nat->Bool,(∀x∈ps,sp x.block=true)->DataW.TrodAll enc P W' 0 sp true ts vs ds ps
 | [],[],[],_,_,h,_,_,_=>h
 | t::ts,v::vs,d::ds,ps,ht,⟨p,q,h1,h2,e⟩,hlt,sp,hsp=>by
  subst e;have hbe:Below W.heap.size W W':=⟨hb.os,hb.tape,hb.output,hb.size,hb.block⟩;exact⟨p,q,WideElems.Trod_stays hl (ht t (by simp)).1 (ht t (by simp)).2 h1 (λx hx=>hbe.same (hlt x (ZC _ hx))) (λx hx=>hsp x (ZC _ hx)),
   LQ hl hb ts vs ds q (λt' h=>ht t' (by simp[h])) h2 (λx hx=>hlt x (List.mem_append_right _ hx)) sp (λx hx=>hsp x (List.mem_append_right _ hx)),rfl⟩
theorem law_contract_g [aa P]{H:Type}{enc:TypeId×Value->H}{f:FuncId}{fn:Func}{s:ChangeSpec}{tb:TypeId}{apart fresh handsOn again:Bool}(hl:laidOutB P=true)(hvars:s.vars=[])(hrt:fn.resultTypes = #[tb])(Qk:P.underlying tb=some .bool)
  (EQ:(fn.params.toList.all λt=>P.readableRec t&&decide (t<P.types.size)&&vV P xR t)=true)
  (hfn : ∀ds:List (DataW H),ds.length=fn.params.toList.length->s.fn H ds={ results:=[.lit (.bool true)],args:=ds })
  (hct : ∀xs:List D,ShArgs P fn.params.toList xs->PureCt P f xs (.b true)) :
  ∀(W:World)(base:Nat)(args:Array Value)(ds gs:List (DataW H))(before:List MemPlace),Gr P (λb=>b<W.heap.size) W->(∀(j:Nat)t v,fn.params[j]? = some t->args[j]? = some v->Value.okWide P W .any base t v) ->
   DataW.Whole enc P fn.params.toList s.vars apart W args.toList ds gs before ->
   Calls P f args W λe W'=>∃v,e = .returned v/\s.post enc P fn apart fresh handsOn again W args v W':=by
 intro W base args ds gs before hgr hval hW
 simp only[Yg,XT,XV]at EQ
 have hW':=hW
 obtain⟨p,q,hA,hV,hpq,hfz,hnd⟩:=hW
 rw[hvars]at hV
 obtain⟨rfl,rfl⟩:gs=[]/\q=[]:=by
  cases gs with
  | nil=>exact⟨rfl,hV⟩
  | cons g gs=>exact False.elim hV
 rw[YZ]at hpq
 obtain⟨xs,hx1,hx2⟩:=readAll hl _ _ _ _ (λt ht=>⟨(EQ t ht).1.2,(EQ t ht).2⟩) (λj t v h1 h2=>hval j t v (by simpa using h1) (by simpa using h2)) hA
 obtain⟨_,_,hct⟩:=hct xs hx1
 have hlen : ∀{ts:List TypeId}{vs:List Value}{ds:List (DataW H)}{ps:List MemPlace},DataW.TrodAll enc P W 0 (λ_=>true) true ts vs ds ps->ds.length=ts.length:=by
  intro ts
  induction ts with
  | nil=>intro vs ds ps h;cases vs<;>cases ds<;>first|rfl|exact False.elim h
  | cons t ts ih =>
   intro vs ds ps h
   cases vs<;>cases ds<;>first|exact False.elim h|skip
   obtain⟨_,_,_,h2,_⟩:=h
   simp[ih h2]
 have hres:=hfn ds (hlen hA)
 have:=callsIn_wide.1 (hct W (λb=>b<W.heap.size) _ (λb h=>h) hgr hx2)
 have ea:args.toList.toArray=args:=by simp
 rw[ea]at this
 refine this.mono ?_
 rintro e W' ⟨v,rfl,hb,hv⟩
 rw[hv.v_inv]
 refine⟨_,rfl,?_⟩
 have hlt : ∀x∈before,x.block<W.heap.size:=λx hx=>hW'.lt x hx
 have hsp : ∀sp:Nat->Bool,(∀x∈before,sp x.block=true)->DataW.TrodAll enc P W' 0 sp true fn.params.toList args.toList ds before:=by
  intro sp h;rw[hpq]at h hlt ⊢;exact LQ hl hb _ _ _ _ (λt ht=>(EQ t ht).1) hA hlt sp h
 have hfn':s.fn H (ds++[])={ results:=[.lit (.bool true)],args:=ds }:=by rw[YZ];exact hres
 have hrs : ∀(b:Nat)(sp:Nat->Bool)(hd:Bool),DataW.TrodAll enc P W' b sp hd fn.resultTypes.toList ((Value.bool true).resultList fn.resultTypes.size) [.lit (.bool true)] []:=by
  intro b sp hd;rw[hrt];exact trodAll_cons_mk (shut_bool Qk _) trodAll_mk0
 have hold : ∀x∈before,(λb=>decide (b<W.heap.size)) x.block=true:=λx hx=>by simpa using hlt x hx
 have hvs : ∀sp:Nat->Bool,DataW.TrodVars enc P W' sp s.vars [] []:=λsp=>by rw[hvars];exact rfl
 have hfz' : ∀x∈before,∀b off,x=MemPlace.cell b off->W'.frozen? ⟨b,off,none⟩=false:=by
  intro x hx b off e;subst e;have hbl:b<W.heap.size:=hlt _ hx;have e2:W'.frozen? ⟨b,off,none⟩=W.frozen? ⟨b,off,none⟩:=World.frozen?_of_block (hb.block b hbl);rw[e2];exact hfz b off hx
 unfold ChangeSpec.post
 refine⟨ds,[],before,[],before,[],hW',?_,?_,?_,World.keptBut_mono (λx hx=>⟨hx,.inr (.inl hx)⟩) (Zgb hb (· ∈ before)),λ_=>⟨?_,?_⟩⟩
 . rw[hfn'];exact hrs _ _ _
 . rw[hfn'];exact hsp _ hold
 . rw[hfn'];exact hvs _
 . exact ok_one hrt rfl (okWide_bool_mk Qk _)
 refine⟨_,[],([]++before)++[],⟨[]++before,[],trodAll_append (hsp _ λ_ _=>rfl) (hrs _ _ _),hvs _,rfl,?_,?_⟩,?_⟩
 . intro b off hx;exact hfz' _ (by simpa using hx) b off rfl
 .
  intro ha
  simpa using hnd ha
 intro x hx _
 simpa using hx
end Go.DL
namespace Go.DL
open Go.RowKit Go.ChangeShapes Go.WideShapes
variable {P : Program}
def litV:Lit->Value
 | .bool b=>.bool b
 | .int k n=>.int k n
 | .string s=>.string ⟨s.toArray⟩
 | _=>undef
def wS{H:Type}:Nat->DataW H->List Value
 | 0,_=>[]
 | k+1,d=>match d with
  | .lit l=>[litV l]
  | .agg ds=>ds.flatMap (wS k)
  | _=>[]
def BM(P:Program):Nat->TypeId->Bool
 | 0,_=>false
 | k+1,t=>match P.underlying t with
  | some .bool|some (.int _)|some .string=>true
  | some (.array _ e)=>decide (e<P.types.size)&&BM P k e
  | some (.struct fs)=>fs.toList.all λf=>decide (f.type<P.types.size)&&BM P k f.type
  | _=>false
theorem lits{H:Type}{enc:TypeId×Value->H}{w:World}{base:Nat}{spare:Nat->Bool}{held:Bool}(hl:laidOutB P=true) :
  ∀(k:Nat)(t:TypeId)(cs:List Value)(fuel:Nat)(x:DataW H×List MemPlace),t<P.types.size->BM P k t=true->DataW.trod enc P w base spare held fuel t cs=some x->cs=wS k x.1:=by
 intro k
 induction k with
 | zero=>intro t cs fuel x _ h;cases h
 | succ k ih =>
  intro t cs fuel x htl hs hr;unfold BM at hs
  split at hs
  .
   rename_i hu
   obtain⟨b,rfl,rfl⟩:=DataW.trod_bool hu hr;rfl
  .
   rename_i q hu
   obtain⟨n,rfl,rfl,_⟩:=DataW.trod_int hu hr;rfl
  .
   rename_i hu
   obtain⟨s,rfl,rfl,_⟩:=DataW.trod_string hu hr
   show[Value.string s]=[Value.string ⟨s.data.toList.toArray⟩]
   simp
  .
   rename_i n e hu
   simp only[XT,XV]at hs;obtain⟨xs,m,_,rfl,hcl,hxl,hel⟩:=DataW.trod_array hu hr;obtain⟨_,hcn⟩:=kid_array hl htl hu;have key : ∀(j i:Nat),i+j=n->cs.drop (i*P.cellsOf e)=((xs.drop i).map (·.1)).flatMap (wS k):=by
    intro j
    induction j with
    | zero =>
     intro i hi;have hi':i=n:=by omega
     subst hi';rw[<-hcn,<-hcl,Zr,<-hxl,Zr];rfl
    | succ j ihj =>
     intro i hi;have hlt:i<xs.length:=by omega
     have h1:=hel i (by omega)
     rw[X6 hlt]at h1;have h2:=ih e _ m _ hs.1 hs.2 h1;have h3:=ihj (i+1) (by omega)
     have e1:(i+1)*P.cellsOf e=i*P.cellsOf e+P.cellsOf e:=by rw[Nat.succ_mul]
     rw[e1]at h3;rw[Yn hlt,X9,Z6,<-h3,<-h2];exact(GR cs _ _).symm
   have:=key n 0 om
   simpa[wS]using this
  .
   rename_i fs hu
   obtain⟨xs,n,_,rfl,hcl,hxl,hf⟩:=DataW.trod_struct hu hr;obtain⟨_,hsum,hoff⟩:=kid_struct hl htl hu;simp only[Yg,XT,XV]at hs;have hxl':xs.length=fs.toList.length:=by simpa using hxl
   have key : ∀(j i:Nat),i+j=fs.toList.length->cs.drop ((fs.toList.take i).map λf=>P.cellsOf f.type).sum=((xs.drop i).map (·.1)).flatMap (wS k):=by
    intro j
    induction j with
    | zero =>
     intro i hi;have hi':i=fs.toList.length:=by omega
     subst hi';rw[Zq,<-hsum,<-hcl,Zr,<-hxl',Zr];rfl
    | succ j ihj =>
     intro i hi;have hlt:i<fs.toList.length:=by omega
     have P9:i<xs.length:=by omega
     have hfi:fs.toList[i]? = some fs.toList[i]:=X6 hlt;have h1:=hf i fs.toList[i] (by simp)
     rw[hoff i _ hfi,X6 P9]at h1;have hm:=hs _ (Yp hlt);have h2:=ih _ _ n _ hm.1 hm.2 h1;have h3:=ihj (i+1) (by omega)
     have htk:fs.toList.take (i+1)=fs.toList.take i++[fs.toList[i]]:=by rw[ZK,hfi];rfl
     rw[htk,YQ,List.sum_append]at h3;simp only[X9,Yw,List.sum_cons,List.sum_nil,ZB]at h3;rw[Yn P9,X9,Z6,<-h3,<-h2];exact(GR cs _ _).symm
   have:=key fs.toList.length 0 om
   simpa[wS]using this
  cases hs
theorem laid_one [aa P]{nm:String}{d:DataW Unit}{W:World}{g:Nat}{t:TypeId}{k:Nat}{cells:List Value}(hl:laidOutB P=true)(hplain:([(nm,d)].all λx=>x.2.handleName?.isNone)=true)
  (hg:P.globalNamed nm=some g)(ht:(P.globals[g]?).map (·.type)=some t)(htl:t<P.types.size)(hb:BM P k t=true)(hc:wS k d=cells)(hgl : ∀x cs,aa.tab P x=some cs->x=g/\cs=cells)(hsz:0<cells.length)
  (h:laidMetH P [(nm,d)] W):Gr P (λb=>b<W.heap.size) W:=by
 rw[MakeChecks.laidMetH_plain _ _ _ hplain]at h
 obtain⟨ps,⟨g0,t0,cs,fuel,p,q,hg0,ht0,hv,hd,_,_⟩,_,_⟩:=h
 obtain rfl:=ZX (hg.symm.trans hg0)
 obtain rfl:=ZX (ht.symm.trans ht0)
 have hcs:=lits hl k t _ _ _ htl hb hd
 rw[show wS k (d,p).1=cells from hc]at hcs
 intro x cs' hx
 obtain⟨rfl,rfl⟩:=hgl x cs' hx
 have hcell:=λj=>World.var?_cell hg0 hv j
 have hj : ∀(j:Nat)v,cs'[j]? = some v->W.cell? ⟨x,j,none⟩=some v:=by
  intro j v hv';rw[hcell j];obtain⟨l⟩:=cs;simp only at hcs;subst hcs
  simp[hv']
 refine⟨?_,hj⟩
 have h0:cs'[0]? = some (cs'[0]'hsz):=X6 hsz
 have:=Tv (hj 0 _ h0)
 exact this
end Go.DL
namespace Go.Proofs.YtdcenbhgholncaaGreatDoor
open Go.Proofs.Tryz
open Go.DL Go.Str Go.Rec Go.Zon Go.Jn
noncomputable def Dg:aK where
 pure:=λ_=>true
 pf:=λk xs=>match k,xs with
  | 288,[x0,x1]=>.i (bz (ai x0) (aQ x1))
  | 247,[x0,x1]=>.i (bz (ai x0) (aQ x1))
  | 209,[x0]=>.b (dN (ai x0))
  | 175,[x0]=>.b (dN (ai x0))
  | 174,[x0]=>.list false ((gV (ai x0)).map sR)
  | 102,[x0]=>.b (ah (ai x0))
  | 133,[x0]=>.b (ah (ai x0))
  | 50,[x0]=>.b (ah (ai x0))
  | 148,[x0]=>.list false ((aM (ai x0)).map sR)
  | 270,[x0,x1]=>.i (Go.Lib.compareBytes (ai x0) (ai x1))
  | 227,[x0,x1]=>.i (Go.Lib.compareBytes (ai x0) (ai x1))
  | 183,[x0,x1]=>.i (bH (ai x0) (ai x1))
  | 181,[x0,x1]=>.tuple [.i (if ah (ai x0)&&ah (ai x1)then ig (ai x0) (ai x1)else 0),.i (if ah (ai x0)&&ah (ai x1)then 0 else 11)]
  | 166,[x0,x1]=>.tuple [.i (if ah (ai x0)&&ah (ai x1)then ig (ai x0) (ai x1)else 0),.i (if ah (ai x0)&&ah (ai x1)then 0 else 11)]
  | 140,[x0,x1,x2]=>.b (aW (aQ x0) (aQ x1) (aQ x2))
  | 249,[x0,x1,x2]=>.b (aW (aQ x0) (aQ x1) (aQ x2))
  | 176,[x0,x1,x2]=>.b (aW (aQ x0) (aQ x1) (aQ x2))
  | 122,[x0]=>.b ((aQ x0) != (aQ x0))
  | 250,[x0]=>.b ((ai x0) != (ai x0))
  | 37,[x0,x1]=>.i (cmpI (aQ x0) (aQ x1))
  | 213,[x0,x1]=>.i (qJ (ai x0) (ai x1))
  | 196,[x0,x1]=>.b (uP (ai x0) (ai x1))
  | 123,[x0,x1]=>.b (uP (ai x0) (ai x1))
  | 141,[x0]=>.b (dD (ai x0))
  | 178,[x0]=>.b (dD (ai x0))
  | 212,[x0]=>.b (rP (ai x0))
  | 236,[x0]=>.b (rP (ai x0))
  | 180,[x0,x1]=>.b (less (pF x0) (pF x1))
  | 142,[x0,x1]=>.b (kM (Hm x0) (pF x1))
  | 179,[x0,x1]=>.b (lc (aQ x0) (pF x1))
  | 158,[x0]=>.i (qb (nN x0) 0)
  | 143,[x0,x1]=>.i (kN (pF x0) (pF x1))
  | 62,[x0]=>.b (di (set1 x0))
  | 104,[x0]=>.b (di (set1 x0))
  | 177,[x0]=>.b (xP (aQ x0))
  | 106,[x0,x1]=>.i (oG (set1 x0) (set1 x1))
  | 235,[x0,x1]=>.b (qR (set1 x0) (set1 x1))
  | 124,[x0]=>.tuple [.list false ((nV (set1 x0)).1.map bD),.i (nV (set1 x0)).2]
  | 210,[x0,x1]=>.b (sW (ai x0) (ai x1))
  | 134,[x0,x1]=>.b (sW (ai x0) (ai x1))
  | 51,[x0,x1]=>.tuple [.b (bC (ai x0) (ai x1)),.i (if ah (ai x0)&&ah (ai x1)then 0 else 11)]
  | 105,[x0,x1]=>.b (jU (ai x0) (ai x1))
  | 103,[x0]=>.b (vP (ai x0))
  | 138,[x0,x1,x2,x3]=>.i (qC ⟨(ai x0),(aQ x1)⟩ ⟨(ai x2),(aQ x3)⟩)
  | 184,[x0,x1]=>.b (fits (aQ x0) (AL x1))
  | 108,[x0,x1]=>.b (fits (aQ x0) (AL x1))
  | 185,[x0,x1]=>.b (jJ (sI x0) (ai x1))
  | 111,[x0,x1]=>.b (jJ (sI x0) (ai x1))
  | 151,[x0]=>.b (eO (dM x0))
  | 173,[x0,x1]=>.b (ut (mY x0) (mY x1))
  | 101,[x0,x1]=>.b (xS (lX x0) (lX x1))
  | 137,[x0,x1]=>.i (qC (mY x0).q (dM x1))
  | 136,[x0,x1,.fn (.func 137) [] []]=>.tuple [.i (eY (lX x0) (dM x1)),.b (eX (lX x0) (dM x1))]
  | 53,[x0,x1]=>.tuple [.i (eY (aS x0).sets (dM x1)),.b (eX (aS x0).sets (dM x1))]
  | 112,[x0]=>.b (ordered (aS x0))
  | 113,[x0]=>.b (mK (aS x0))
  | 115,[x0]=>.b (pM (qh x0))
  | 116,[x0]=>.b (kQ (qh x0))
  | 117,[x0]=>.b (uS (qh x0))
  | 118,[x0]=>.b (xc (qh x0))
  | 114,[x0]=>.agg (aO (aS x0)).d
  | 27,[x0]=>.b (aN (aS x0))
  | 232,[x0]=>.tuple [.i (if aN (aS x0)then uq (aS x0)else 0),.i (if aN (aS x0)then 0 else 1)]
  | 107,[x0,x1]=>.i (vC (aS x0).sets (dM x1))
  | 22,[x0]=>.b (ma (aS x0))
  | 23,[x0]=>.b (sD (aS x0))
  | 24,[x0]=>.b (mP (aS x0))
  | 237,[x0]=>.list false ((fC (aS x0)).map sR)
  | 182,[x0]=>.list false ((bL (aS x0)).map sR)
  | 109,[x0]=>.list false ((fE (aS x0)).map sR)
  | 25,[x0]=>.b (rQ (aS x0))
  | 110,[x0]=>.list false ((yc (aS x0)).map bR)
  | 26,[x0]=>.b (tF (aS x0))
  | 7,[x0]=>.b (pW (aS x0))
  | 6,[x0]=>.b (Cw (aS x0))
  | 39,[x0]=>.list false ((Aw x0).map Dat.d)
  | 119,[x0]=>.list false ((sI x0).map RSig.d)
  | 152,[x0]=>.agg (mY x0).d
  | 77,[x0,x1]=>.tuple [.agg (mD (aS x0) (dM x1)).1.d,.b (mD (aS x0) (dM x1)).2.1,.i (mD (aS x0) (dM x1)).2.2]
  | 135,[x0,x1]=>.i (ixF (ai x0) (aQ x1))
  | 246,[x0,x1]=>.v (.string (bs (dB (sG x0))))
  | 52,[x0]=>.tuple [.v (.string (bs (l9 (ai x0)))),.i (if ah (ai x0)then(if(ai x0)=[46]then 4 else 0)else 11)]
  | 206,[x0]=>.tuple [.list false ((if ah (ai x0)then aM (ai x0)else[]).map sR),.i (if ah (ai x0)then 0 else 11)]
  | 207,[x0]=>.tuple [.v (.string (bs (gM (sG x0)).1)),.i (gM (sG x0)).2]
  | 12,[x0,x1]=>.tuple [.v (.string (bs (fZ (aS x0) (ai x1)).1)),.b (fZ (aS x0) (ai x1)).2.1,.i (fZ (aS x0) (ai x1)).2.2]
  | 30,[x0]=>.tuple [.list false ((if aN (aS x0)then aT (aS x0)else[]).map sR),.i (if aN (aS x0)then 0 else 1)]
  | 204,[x0,x1]=>.i (eG (ai x0) (ai x1))
  | 127,[x0,x1]=>.b (bC (ai x0) (ai x1))
  | 126,[x0,x1,x2]=>.i (aC (iM x0).z.sets ⟨(ai x1),(aQ x2)⟩)
  | 130,[x0]=>.i (aC (iM x0).z.sets ⟨(iM x0).z.apex,4⟩)
  | 203,[x0,x1,x2]=>.b (decide (0<=eG (uf x1).z.sets[(aQ x0).toNat]!.set.name (uk x2)))
  | 245,[x0,x1,x2]=>.b (decide (0<eG (uf x1).z.sets[(aQ x0).toNat]!.set.name (uk x2)))
  | 202,[x0,x1]=>.i ((srS (x1):Nat):Int)
  | 129,[x0,x1]=>.b (bZ (iM x0).z.sets (ai x1))
  | 205,[x0,x1]=>.fn (.func 244) [] [.eptr [.eptr (iM x0).d],.eptr [.v (.string (bs (ai x1)))]]
  | 131,[x0,x1]=>.i (bJ (iM x0).z.sets (ai x1))
  | 132,[x0]=>.v (.string (bs (bI (iM x0).z (iM x0).q.name)))
  | 243,[x0,x1]=>.i (uL (nN x0) (aQ x1))
  | 201,[x0,x1]=>.b (decide ((aQ x1)∈(nN x0)))
  | 128,[x0,x1,x2]=>.agg (⟨(aQ x1),dF (iM x0).z.sets (nN x2),[]⟩:eH).d
  | 11,[x0,x1]=>.tuple [.agg (fK (aS x0) (dM x1)).1.d,.i (fK (aS x0) (dM x1)).2]
  | 29,[x0]=>.b (!decide ((mY x0).set.ty=8))
  | 28,[x0,.fn (.func 29) [] []]=>.list false ((aX (lX x0)).map Sgd.d)
  | 32,[x0]=>.agg (mY x0).d
  | 31,[x0,x1]=>.list false ((nextF (aS x0) (sG x1)).map RSet.d)
  | 9,[x0]=>.tuple [.agg (dW (aS x0)).1.d,.i (dW (aS x0)).2]
  | 34,[x0]=>.b (vU (oq x0))
  | 33,[x0,x1]=>.b (pQ (aQ x0) (aQ x1))
  | 125,[x0,x1,x2,x3,x4]=>.v (.int .u64 ((zo (AJ x0) (ai x1) (oq x2) (aQ x3) (aQ x4):Nat):Int))
  | 40,[x0,x1,x2,x3,x4]=>.tuple [.agg (gF (set1 x0) (ai x1) (oq x2) (aQ x3) (aQ x4)).1.d,.i (gF (set1 x0) (ai x1) (oq x2) (aQ x3) (aQ x4)).2]
  | 36,[x0,x1]=>.i (Go.Rec.cmpI (oq x0).n (oq x1).n)
  | 38,[x0]=>.list false ((kG (aO (aS x0)) (aS x0).sets.length).map bR)
  | 10,[x0,x1,x2,x3]=>.tuple [.agg (allR (aS x0) (xO x1) (aQ x2) (aQ x3)).1.d,.i (allR (aS x0) (xO x1) (aQ x2) (aQ x3)).2]
  | 21,[x0,x1]=>.b (Bi (za x0) (za x1))
  | 5,[]=>.b true
  | 63,[x0,x1]=>.b (bC (ai x0) (ai x1))
  | 145,[x0,x1]=>.i (eG (ai x0) (ai x1))
  | 144,[x0,x1]=>.b (cO (set1 x0) (aQ x1))
  | 70,[x0]=>.b (cO (set1 x0) 2 && !cO (set1 x0) 4)
  | 69,[x0,x1]=>.b (mV (set1 x0) (aQ x1))
  | 68,[x0,x1]=>.b (dE (set1 x0) (ai x1))
  | 66,[x0,x1]=>.b (bW (ai x0) (set1 x1))
  | 71,[x0,x1,x2]=>.b (dz (ai x0) (set1 x1) (ai x2))
  | 139,[x0]=>.b (dD (ai x0))
  | 60,[x0]=>.b (ah (ai x0) && !dD (ai x0))
  | 61,[x0]=>.b (eO (dM x0))
  | 65,[x0,x1]=>.b (bW (kX x1) (set1 x0))
  | 67,[x0,x1]=>.b (dE (set1 x0) (qW x1).name)
  | 72,[x0,x1,x2]=>.b (dz (kX x1) (set1 x0) (qW x2).name)
  | 64,[x0,.fn (.func 65) [] [x1]]=>.list false (((lY x0).filter (bW (kX x1))).map RSet.d)
  | 64,[x0,.fn (.func 67) [] [x1]]=>.list false (((lY x0).filter λs=>dE s (qW x1).name).map RSet.d)
  | 64,[x0,.fn (.func 72) [] [x1,x1b]]=>.list false (((lY x0).filter λs=>dz ((kX x1,qW x1b)).1 s ((kX x1,qW x1b)).2.name).map RSet.d)
  | 215,[x0,x1]=>.tuple [.v (.string (bs (nU (ai x0) (ai x1)))),.i (if ah (ai x0)&&ah (ai x1)then 0 else 11)]
  | 216,[x0]=>.tuple [.v (.string (bs (dU (ai x0)).1)),.b (dU (ai x0)).2]
  | 146,[x0]=>.fn (.func 214) [] [.eptr [.v (.string (bs (ai x0)))]]
  | 214,[x0,x1]=>.tuple [.v (.string (bs (dU (eQ (kX x1) (set1 x0))).1)),.b (dU (eQ (kX x1) (set1 x0))).2]
  | 73,[x0,x1,x2,x3]=>.i (jh (ai x0) (dM x1) (lY x2) (lY x3))
  | 14,[x0,x1,x2]=>.tuple [.i (iV (ai x0) (dM x1) (lY x2)).1,.i (iV (ai x0) (dM x1) (lY x2)).2]
  | 4,[x0,x1]=>.b true
  | _,_=>.junk
@[go_sem]theorem dgp{k:FuncId}:Dg.pure k=true:=rfl
@[go_sem]theorem dgg1{x0 x1:D}:Dg.pf 288 [x0,x1] = .i (bz (ai x0) (aQ x1))/\Dg.pf 247 [x0,x1] = .i (bz (ai x0) (aQ x1))/\Dg.pf 270 [x0,x1] = .i (Go.Lib.compareBytes (ai x0) (ai x1))/\Dg.pf 227 [x0,x1] = .i (Go.Lib.compareBytes (ai x0) (ai x1))/\Dg.pf 183 [x0,x1] = .i (bH (ai x0) (ai x1))/\Dg.pf 181 [x0,x1] = .tuple [.i (if ah (ai x0)&&ah (ai x1)then ig (ai x0) (ai x1)else 0),.i (if ah (ai x0)&&ah (ai x1)then 0 else 11)]/\Dg.pf 166 [x0,x1] = .tuple [.i (if ah (ai x0)&&ah (ai x1)then ig (ai x0) (ai x1)else 0),.i (if ah (ai x0)&&ah (ai x1)then 0 else 11)]/\Dg.pf 37 [x0,x1] = .i (cmpI (aQ x0) (aQ x1))/\Dg.pf 213 [x0,x1] = .i (qJ (ai x0) (ai x1))/\Dg.pf 196 [x0,x1] = .b (uP (ai x0) (ai x1))/\Dg.pf 123 [x0,x1] = .b (uP (ai x0) (ai x1))/\Dg.pf 180 [x0,x1] = .b (less (pF x0) (pF x1))/\Dg.pf 142 [x0,x1] = .b (kM (Hm x0) (pF x1))/\Dg.pf 179 [x0,x1] = .b (lc (aQ x0) (pF x1))/\Dg.pf 143 [x0,x1] = .i (kN (pF x0) (pF x1))/\Dg.pf 106 [x0,x1] = .i (oG (set1 x0) (set1 x1))/\Dg.pf 235 [x0,x1] = .b (qR (set1 x0) (set1 x1))/\Dg.pf 210 [x0,x1] = .b (sW (ai x0) (ai x1))/\Dg.pf 134 [x0,x1] = .b (sW (ai x0) (ai x1))/\Dg.pf 51 [x0,x1] = .tuple [.b (bC (ai x0) (ai x1)),.i (if ah (ai x0)&&ah (ai x1)then 0 else 11)]/\Dg.pf 105 [x0,x1] = .b (jU (ai x0) (ai x1))/\Dg.pf 184 [x0,x1] = .b (fits (aQ x0) (AL x1))/\Dg.pf 108 [x0,x1] = .b (fits (aQ x0) (AL x1))/\Dg.pf 185 [x0,x1] = .b (jJ (sI x0) (ai x1))/\Dg.pf 111 [x0,x1] = .b (jJ (sI x0) (ai x1))/\Dg.pf 173 [x0,x1] = .b (ut (mY x0) (mY x1))/\Dg.pf 101 [x0,x1] = .b (xS (lX x0) (lX x1))/\Dg.pf 137 [x0,x1] = .i (qC (mY x0).q (dM x1))/\Dg.pf 136 [x0,x1,.fn (.func 137) [] []] = .tuple [.i (eY (lX x0) (dM x1)),.b (eX (lX x0) (dM x1))]/\Dg.pf 53 [x0,x1] = .tuple [.i (eY (aS x0).sets (dM x1)),.b (eX (aS x0).sets (dM x1))]/\Dg.pf 107 [x0,x1] = .i (vC (aS x0).sets (dM x1))/\Dg.pf 77 [x0,x1] = .tuple [.agg (mD (aS x0) (dM x1)).1.d,.b (mD (aS x0) (dM x1)).2.1,.i (mD (aS x0) (dM x1)).2.2]/\Dg.pf 135 [x0,x1] = .i (ixF (ai x0) (aQ x1))/\Dg.pf 246 [x0,x1] = .v (.string (bs (dB (sG x0))))/\Dg.pf 12 [x0,x1] = .tuple [.v (.string (bs (fZ (aS x0) (ai x1)).1)),.b (fZ (aS x0) (ai x1)).2.1,.i (fZ (aS x0) (ai x1)).2.2]/\Dg.pf 204 [x0,x1] = .i (eG (ai x0) (ai x1))/\Dg.pf 127 [x0,x1] = .b (bC (ai x0) (ai x1))/\Dg.pf 202 [x0,x1] = .i ((srS (x1):Nat):Int)/\Dg.pf 129 [x0,x1] = .b (bZ (iM x0).z.sets (ai x1))/\Dg.pf 205 [x0,x1] = .fn (.func 244) [] [.eptr [.eptr (iM x0).d],.eptr [.v (.string (bs (ai x1)))]]:=by and_intros<;>rfl
@[go_sem]theorem dgg2{x0 x1:D}:Dg.pf 131 [x0,x1] = .i (bJ (iM x0).z.sets (ai x1))/\Dg.pf 243 [x0,x1] = .i (uL (nN x0) (aQ x1))/\Dg.pf 201 [x0,x1] = .b (decide ((aQ x1)∈(nN x0)))/\Dg.pf 11 [x0,x1] = .tuple [.agg (fK (aS x0) (dM x1)).1.d,.i (fK (aS x0) (dM x1)).2]/\Dg.pf 31 [x0,x1] = .list false ((nextF (aS x0) (sG x1)).map RSet.d)/\Dg.pf 33 [x0,x1] = .b (pQ (aQ x0) (aQ x1))/\Dg.pf 36 [x0,x1] = .i (Go.Rec.cmpI (oq x0).n (oq x1).n)/\Dg.pf 21 [x0,x1] = .b (Bi (za x0) (za x1))/\Dg.pf 63 [x0,x1] = .b (bC (ai x0) (ai x1))/\Dg.pf 145 [x0,x1] = .i (eG (ai x0) (ai x1))/\Dg.pf 144 [x0,x1] = .b (cO (set1 x0) (aQ x1))/\Dg.pf 69 [x0,x1] = .b (mV (set1 x0) (aQ x1))/\Dg.pf 68 [x0,x1] = .b (dE (set1 x0) (ai x1))/\Dg.pf 66 [x0,x1] = .b (bW (ai x0) (set1 x1))/\Dg.pf 65 [x0,x1] = .b (bW (kX x1) (set1 x0))/\Dg.pf 67 [x0,x1] = .b (dE (set1 x0) (qW x1).name)/\Dg.pf 64 [x0,.fn (.func 65) [] [x1]] = .list false (((lY x0).filter (bW (kX x1))).map RSet.d)/\Dg.pf 64 [x0,.fn (.func 67) [] [x1]] = .list false (((lY x0).filter λs=>dE s (qW x1).name).map RSet.d)/\Dg.pf 215 [x0,x1] = .tuple [.v (.string (bs (nU (ai x0) (ai x1)))),.i (if ah (ai x0)&&ah (ai x1)then 0 else 11)]/\Dg.pf 214 [x0,x1] = .tuple [.v (.string (bs (dU (eQ (kX x1) (set1 x0))).1)),.b (dU (eQ (kX x1) (set1 x0))).2]/\Dg.pf 4 [x0,x1] = .b true:=by and_intros<;>rfl
@[go_sem]theorem dgg3{x0:D}:Dg.pf 209 [x0] = .b (dN (ai x0))/\Dg.pf 175 [x0] = .b (dN (ai x0))/\Dg.pf 174 [x0] = .list false ((gV (ai x0)).map sR)/\Dg.pf 102 [x0] = .b (ah (ai x0))/\Dg.pf 133 [x0] = .b (ah (ai x0))/\Dg.pf 50 [x0] = .b (ah (ai x0))/\Dg.pf 148 [x0] = .list false ((aM (ai x0)).map sR)/\Dg.pf 122 [x0] = .b ((aQ x0) != (aQ x0))/\Dg.pf 250 [x0] = .b ((ai x0) != (ai x0))/\Dg.pf 141 [x0] = .b (dD (ai x0))/\Dg.pf 178 [x0] = .b (dD (ai x0))/\Dg.pf 212 [x0] = .b (rP (ai x0))/\Dg.pf 236 [x0] = .b (rP (ai x0))/\Dg.pf 158 [x0] = .i (qb (nN x0) 0)/\Dg.pf 62 [x0] = .b (di (set1 x0))/\Dg.pf 104 [x0] = .b (di (set1 x0))/\Dg.pf 177 [x0] = .b (xP (aQ x0))/\Dg.pf 124 [x0] = .tuple [.list false ((nV (set1 x0)).1.map bD),.i (nV (set1 x0)).2]/\Dg.pf 103 [x0] = .b (vP (ai x0))/\Dg.pf 151 [x0] = .b (eO (dM x0))/\Dg.pf 112 [x0] = .b (ordered (aS x0))/\Dg.pf 113 [x0] = .b (mK (aS x0))/\Dg.pf 115 [x0] = .b (pM (qh x0))/\Dg.pf 116 [x0] = .b (kQ (qh x0))/\Dg.pf 117 [x0] = .b (uS (qh x0))/\Dg.pf 118 [x0] = .b (xc (qh x0))/\Dg.pf 114 [x0] = .agg (aO (aS x0)).d/\Dg.pf 27 [x0] = .b (aN (aS x0))/\Dg.pf 232 [x0] = .tuple [.i (if aN (aS x0)then uq (aS x0)else 0),.i (if aN (aS x0)then 0 else 1)]/\Dg.pf 22 [x0] = .b (ma (aS x0))/\Dg.pf 23 [x0] = .b (sD (aS x0))/\Dg.pf 24 [x0] = .b (mP (aS x0))/\Dg.pf 237 [x0] = .list false ((fC (aS x0)).map sR)/\Dg.pf 182 [x0] = .list false ((bL (aS x0)).map sR)/\Dg.pf 109 [x0] = .list false ((fE (aS x0)).map sR)/\Dg.pf 25 [x0] = .b (rQ (aS x0))/\Dg.pf 110 [x0] = .list false ((yc (aS x0)).map bR)/\Dg.pf 26 [x0] = .b (tF (aS x0))/\Dg.pf 7 [x0] = .b (pW (aS x0))/\Dg.pf 6 [x0] = .b (Cw (aS x0)):=by and_intros<;>rfl
@[go_sem]theorem dgg4{x0:D}:Dg.pf 39 [x0] = .list false ((Aw x0).map Dat.d)/\Dg.pf 119 [x0] = .list false ((sI x0).map RSig.d)/\Dg.pf 152 [x0] = .agg (mY x0).d/\Dg.pf 52 [x0] = .tuple [.v (.string (bs (l9 (ai x0)))),.i (if ah (ai x0)then(if(ai x0)=[46]then 4 else 0)else 11)]/\Dg.pf 206 [x0] = .tuple [.list false ((if ah (ai x0)then aM (ai x0)else[]).map sR),.i (if ah (ai x0)then 0 else 11)]/\Dg.pf 207 [x0] = .tuple [.v (.string (bs (gM (sG x0)).1)),.i (gM (sG x0)).2]/\Dg.pf 30 [x0] = .tuple [.list false ((if aN (aS x0)then aT (aS x0)else[]).map sR),.i (if aN (aS x0)then 0 else 1)]/\Dg.pf 130 [x0] = .i (aC (iM x0).z.sets ⟨(iM x0).z.apex,4⟩)/\Dg.pf 132 [x0] = .v (.string (bs (bI (iM x0).z (iM x0).q.name)))/\Dg.pf 29 [x0] = .b (!decide ((mY x0).set.ty=8))/\Dg.pf 28 [x0,.fn (.func 29) [] []] = .list false ((aX (lX x0)).map Sgd.d)/\Dg.pf 32 [x0] = .agg (mY x0).d/\Dg.pf 9 [x0] = .tuple [.agg (dW (aS x0)).1.d,.i (dW (aS x0)).2]/\Dg.pf 34 [x0] = .b (vU (oq x0))/\Dg.pf 38 [x0] = .list false ((kG (aO (aS x0)) (aS x0).sets.length).map bR)/\Dg.pf 70 [x0] = .b (cO (set1 x0) 2 && !cO (set1 x0) 4)/\Dg.pf 139 [x0] = .b (dD (ai x0))/\Dg.pf 60 [x0] = .b (ah (ai x0) && !dD (ai x0))/\Dg.pf 61 [x0] = .b (eO (dM x0))/\Dg.pf 216 [x0] = .tuple [.v (.string (bs (dU (ai x0)).1)),.b (dU (ai x0)).2]/\Dg.pf 146 [x0] = .fn (.func 214) [] [.eptr [.v (.string (bs (ai x0)))]]:=by and_intros<;>rfl
@[go_sem]theorem dgg5{x0 x1 x2:D}:Dg.pf 140 [x0,x1,x2] = .b (aW (aQ x0) (aQ x1) (aQ x2))/\Dg.pf 249 [x0,x1,x2] = .b (aW (aQ x0) (aQ x1) (aQ x2))/\Dg.pf 176 [x0,x1,x2] = .b (aW (aQ x0) (aQ x1) (aQ x2))/\Dg.pf 126 [x0,x1,x2] = .i (aC (iM x0).z.sets ⟨(ai x1),(aQ x2)⟩)/\Dg.pf 203 [x0,x1,x2] = .b (decide (0<=eG (uf x1).z.sets[(aQ x0).toNat]!.set.name (uk x2)))/\Dg.pf 245 [x0,x1,x2] = .b (decide (0<eG (uf x1).z.sets[(aQ x0).toNat]!.set.name (uk x2)))/\Dg.pf 128 [x0,x1,x2] = .agg (⟨(aQ x1),dF (iM x0).z.sets (nN x2),[]⟩:eH).d/\Dg.pf 71 [x0,x1,x2] = .b (dz (ai x0) (set1 x1) (ai x2))/\Dg.pf 72 [x0,x1,x2] = .b (dz (kX x1) (set1 x0) (qW x2).name)/\Dg.pf 14 [x0,x1,x2] = .tuple [.i (iV (ai x0) (dM x1) (lY x2)).1,.i (iV (ai x0) (dM x1) (lY x2)).2]:=by and_intros<;>rfl
@[go_sem]theorem dgg6{x0 x1 x2 x3:D}:Dg.pf 138 [x0,x1,x2,x3] = .i (qC ⟨(ai x0),(aQ x1)⟩ ⟨(ai x2),(aQ x3)⟩)/\Dg.pf 10 [x0,x1,x2,x3] = .tuple [.agg (allR (aS x0) (xO x1) (aQ x2) (aQ x3)).1.d,.i (allR (aS x0) (xO x1) (aQ x2) (aQ x3)).2]/\Dg.pf 73 [x0,x1,x2,x3] = .i (jh (ai x0) (dM x1) (lY x2) (lY x3)):=by and_intros<;>rfl
@[go_sem]theorem dgg7{x0 x1 x2 x3 x4:D}:Dg.pf 125 [x0,x1,x2,x3,x4] = .v (.int .u64 ((zo (AJ x0) (ai x1) (oq x2) (aQ x3) (aQ x4):Nat):Int))/\Dg.pf 40 [x0,x1,x2,x3,x4] = .tuple [.agg (gF (set1 x0) (ai x1) (oq x2) (aQ x3) (aQ x4)).1.d,.i (gF (set1 x0) (ai x1) (oq x2) (aQ x3) (aQ x4)).2]:=by and_intros<;>rfl
def dgg8:Dg.pf 5 [] = .b true:=rfl
def dgf64bb{x0 x1 x1b:D}:Dg.pf 64 [x0,.fn (.func 72) [] [x1,x1b]] = .list false (((lY x0).filter λs=>dz ((kX x1,qW x1b)).1 s ((kX x1,qW x1b)).2.name).map RSet.d):=rfl
attribute[go_sem]dgg8 dgf64bb
noncomputable def vI:aK:={ Dg with bs:=true }
def dgB_p{k:FuncId}:vI.pure k=Dg.pure k:=rfl
def dgB_f{k:FuncId}{xs:List D}:vI.pf k xs=Dg.pf k xs:=rfl
def dgB_b:vI.bs=true:=rfl
def dg_b:Dg.bs=false:=rfl
def dg_c:Dg.cf=false:=rfl
def dgB_c:vI.cf=false:=rfl
def dg_s:Dg.dp=false:=rfl
def dgB_s:vI.dp=false:=rfl
attribute[go_sem]dgB_p dgB_f dgB_b dg_b dg_c dgB_c dg_s dgB_s
noncomputable def jH:aK:={ Dg with pure:=λk=>k != 128 }
def dgL_p128:jH.pure 128=false:=rfl
def dgL_p126:jH.pure 126=true:=rfl
def dgL_p130:jH.pure 130=true:=rfl
def dgL_p131:jH.pure 131=true:=rfl
def dgL_p129:jH.pure 129=true:=rfl
def dgL_p132:jH.pure 132=true:=rfl
def dgL_f{k:FuncId}{xs:List D}:jH.pf k xs=Dg.pf k xs:=rfl
def dgL_bs:jH.bs=false:=rfl
def dgL_cf:jH.cf=false:=rfl
def dgL_dp:jH.dp=false:=rfl
attribute[go_sem]dgL_p128 dgL_p126 dgL_p130 dgL_p131 dgL_p129 dgL_p132 dgL_f dgL_bs dgL_cf dgL_dp
set_option maxRecDepth 10000
variable [Dr]
def Zca(s:Str)(c:Int)(hs:s.length<=9223372036854775806):PureCt prog 288 [.v (.string (bs s)),.v (.int .u8 c)] (.i (bz s c)):=by
 rw[bz]
 refine oO func288 λff=>?_
 unfold f288
 refine ae Dg ?_
 refine wA Dg ?_
 refine lq (Nat×Nat) [0,1] (λ⟨k,nx⟩=>(k<=s.length/\jR s c s.length=jR s c k,k,[(5,.i ((k:Int)-1))],[],nx)) (s.length,_) ?_
 rintro⟨k,nx⟩ ⟨hk,hv⟩
 simp only[XX,XZ]
 refine oT Dg ?_ ?_ (hq:=rfl)<;>intro c1
 .
  have hk2:0<k:=by have h7:(0:Int)<=(k:Int)-1:=(by simpa using c1);omega
  have e1:((k:Int)-1).toNat=k-1:=by omega
  have ff:=qA @e1 ff;refine wD ?_;refine wE Dg ?_ ?_<;>intro c2
  . exact fr Dg (k:=by rw[hv,Pk hk2,XY c2];congr 2;omega)
  refine wC Dg ?_;exact ak (k-1,_) (h1:=⟨iv,(by(try dsimp only);rw[hv,Pk hk2,if_neg c2])⟩)
 have hk2:k=0:=by have h7 : ¬(0:Int)<=(k:Int)-1:=(by simpa using c1);omega
 refine aR ?_
 exact fr Dg (k:=by rw[hv,hk2];rfl)
def BN(s:Str)(c:Int)(hs:s.length<=9223372036854775806):PureCt prog 247 [.v (.string (bs s)),.v (.int .u8 c)] (.i (bz s c)):=by
 refine oO func247 λff=>?_
 unfold f247
 refine ae Dg ?_
 exact ft Dg (hok:=oF (Zca _ _ hs))
def PQ(s:Str):PureCt prog 209 [.v (.string (bs s))] (.b (dN s)):=by
 rw[Zcb]
 refine oO func209 λff=>?_
 unfold f209
 have e1:((s.length:Int)-1).toNat=s.length-1:=by omega
 have ff:=qA @e1 ff
 refine ae Dg ?_
 refine oK Dg ?_ ?_<;>intro c1
 . exact fr Dg (k:=by(repeat' split)<;>first|rfl|(exfalso;omega))
 refine wA Dg ?_
 refine lq (Nat×Nat) [0,27] (λ⟨k,nx⟩=>(k<=s.length/\aF s.length (uC s) 0=aF s.length (uC s) k,s.length-k,[(28,.i k)],[],nx)) (0,_) ?_
 rintro⟨k,nx⟩ ⟨hk,hv⟩
 simp only[XX,XZ]
 refine wH Dg ?_ ?_<;>intro c2
 .
  have hk2:k<s.length:=by simpa using c2
  refine wB ?_;refine oC Dg ?_;refine wE Dg ?_ ?_<;>intro c3
  . exact fr Dg (k:=by have h8:uC s k=false:=(by simp only[uC,nX,Ya,YH,X3];omega);rw[hv,fM,XY hk2,h8];(repeat' split)<;>rfl)
  refine wC Dg ?_;exact ak (k+1,_) (h1:=⟨iv,(by(try dsimp only);have h8:uC s k=true:=(by simp only[uC,nX,Bool.or_eq_true,Bool.and_eq_true,decide_eq_true_eq];omega);rw[hv,fM,if_pos hk2,h8];rfl)⟩)
 refine aR ?_
 exact fr Dg (k:=by rw[hv,fM,XW (by omega),XW (by omega),XW (by omega),XW (by omega),XW (by omega)])
def M3(s:Str)(hs:s.length<=9223372036854775806):PureCt prog 175 [.v (.string (bs s))] (.b (dN s)):=by
 rw[dN]
 refine oO func175 λff=>?_
 unfold f175
 refine ae Dg ?_
 refine wA Dg ?_
 refine lq (Nat×Nat) [0] (λ⟨k,nx⟩=>(k<=s.length/\aF s.length (mf s) 0=aF s.length (mf s) k,s.length-k,[(3,.i k)],[],nx)) (0,_) ?_
 rintro⟨k,nx⟩ ⟨hk,hv⟩
 simp only[XX,XZ]
 refine oT Dg ?_ ?_<;>intro c1
 .
  have hk2:k<s.length:=by simpa using c1
  refine wD ?_;refine oC Dg ?_;refine wE Dg ?_ ?_<;>intro c2
  . exact fr Dg (k:=by have h8:mf s k=false:=(by simp only[mf,nX,Ya,YH,X3];omega);rw[hv,fM,XY hk2,h8];rfl)
  refine wC Dg ?_;exact ak (k+1,_) (h1:=⟨iv,(by(try dsimp only);have h8:mf s k=true:=(by simp only[mf,nX,Bool.or_eq_true,Bool.and_eq_true,decide_eq_true_eq];omega);rw[hv,fM,if_pos hk2,h8];rfl)⟩)
 refine aR ?_
 exact fr Dg (k:=by rw[hv,fM,XW (by omega)];congr 2;rw[YS];simp only[XT,XV,Zl];omega)
def MQ(s:Str)(hs:s.length<=1000):PureCt prog 174 [.v (.string (bs s))] (.l ((gV s).map sR)):=by
 rw[gV]
 refine oO func174 λff=>?_
 unfold f174
 refine ae Dg ?_
 refine ae vI ?_
 refine wA Dg ?_
 refine lq (Nat×(List Str)×Nat×Nat) [0] (λ⟨k,out,r,nx⟩=>(k<=s.length/\1<=out.length/\out.length<=k+1/\(∀x∈out,x.length<=k)/\sH s 0 [[]]=sH s k out/\r<nx,s.length-k,[(3,.mrow r 0 out.length),(4,.i k)],[(r,⟨9,out.map sR⟩)],nx)) (0,[[]],1,_) ?_ (hA:=⟨iv,(by first|(simp)|(dsimp only;simp)),(by first|(simp)|(dsimp only;simp)),(by first|(simp)|(dsimp only;simp)),rfl,iv⟩)
 rintro⟨k,out,r,nx⟩ ⟨hk,ho1,ho,hl,hv,hr⟩
 simp only[XX,XZ]
 have ff:=qA @hr ff
 refine oT Dg ?_ ?_<;>intro c1
 .
  have hk2:k<s.length:=by simpa using c1
  have hk3:out.length-1<out.length:=by omega
  have e1:((out.length:Int)-1).toNat=out.length-1:=by omega
  have e5:((k:Int)+1).toNat=k+1:=by omega
  have hl3:out[out.length-1]!.length<=k:=hl _ (by rw[getElem!_pos out _ hk3];exact Yp _)
  have ff:=qE @e1 @e5 (iy hk3) (Za4 hk2) ff;refine wD ?_;refine wE Dg ?_ ?_<;>intro c2
  . have e2:=VN (out:=out) (c:=s.getD k 0) c2;refine aA Dg ?_;refine aA Dg ?_;exact ak (k+1,out++[[]],(nx+10),_) (h1:=⟨iv,(by first|(simp)|(dsimp only;simp)),(by first|(simp;omega)|(dsimp only;simp;omega)),(by(try dsimp only);intro x hx;rcases List.mem_append.1 hx with h|h;exact Nat.le_succ_of_le (hl x h);simp at h;subst h;exact Nat.zero_le _),(by(try dsimp only);rw[hv,Bg,if_pos hk2,e2]),iv⟩) (h3:=by(try simp only[go_sem,ff]);all_goals (first|done|(simp[sR];done)|(simp[sR];omega)|((repeat' (with_reducible apply And.intro))<;>first|(left;simp[sR];done)|(right;simp[go_sem,sR];done)))) (h4:=by(try simp only[go_sem,ff]);all_goals (first|done|(simp[sR];done)|(simp[sR];omega)|((repeat' (with_reducible apply And.intro))<;>first|(left;simp[sR];done)|(right;simp[go_sem,sR];done)))) (h5:=by(try simp only[go_sem,ff]);all_goals (first|done|(simp[sR];done)|(simp[sR];omega)|((repeat' (with_reducible apply And.intro))<;>first|(left;simp[sR];done)|(right;simp[go_sem,sR];done))))
  have e2:=VP (out:=out) (c:=s.getD k 0) c2;refine aA Dg ?_;refine aA Dg ?_;exact ak (k+1,out.set (out.length-1) (out[out.length-1]! ++ [s.getD k 0]),r,_) (h1:=⟨iv,(by first|(simp;omega)|(dsimp only;simp;omega)),(by first|(simp;omega)|(dsimp only;simp;omega)),(by(try dsimp only);intro x hx;rcases List.mem_or_eq_of_mem_set hx with h|h;exact Nat.le_succ_of_le (hl x h);subst h;rw[List.length_append];exact Nat.succ_le_succ hl3),(by(try dsimp only);rw[hv,Bg,if_pos hk2,e2]),iv⟩) (h3:=by(try simp only[go_sem,ff]);all_goals (first|done|(simp[sR];done)|(simp[sR];omega)|((repeat' (with_reducible apply And.intro))<;>first|(left;simp[sR];done)|(right;simp[go_sem,sR];done)))) (h4:=by(try simp only[go_sem,ff]);all_goals (first|done|(simp[sR];done)|(simp[sR];omega)|((repeat' (with_reducible apply And.intro))<;>first|(left;simp[sR];done)|(right;simp[go_sem,sR];done)))) (h5:=by(try simp only[go_sem,ff]);all_goals (first|done|(simp[sR];done)|(simp[sR];omega)|((repeat' (with_reducible apply And.intro))<;>first|(left;simp[sR];done)|(right;simp[go_sem,sR];done))))
 refine aR ?_
 exact fr Dg (K:=1) (k:=by rw[hv,Bg,XW (by omega)])
def qU(s:Str):PureCt prog 102 [.v (.string (bs s))] (.b (ah s)):=by
 rw[ah]
 refine oO func102 λff=>?_
 unfold f102
 refine ae Dg ?_
 refine oK Dg ?_ ?_<;>intro c1
 . exact fr Dg (k:=by rw[XY c1])
 refine oK Dg ?_ ?_<;>intro c2
 . exact fr Dg (k:=by rw[XW c1,XY (by omega)])
 refine ae Dg ?_ (hok:=ic @MQ)
 refine wA Dg ?_
 refine lq (Nat×Nat) [3] (λ⟨k,nx⟩=>(k<=(gV s).length/\aF (gV s).length (fP (gV s)) 0=aF (gV s).length (fP (gV s)) k,(gV s).length-k,[(4,.i k)],[],nx)) (0,_) ?_
 rintro⟨k,nx⟩ ⟨hk,hv⟩
 simp only[XX,XZ]
 have hsl:=VQ s k
 have hsn:=(Dw s).2
 refine oT Dg ?_ ?_<;>intro c3
 .
  have hk2:k<(gV s).length:=by simpa using c3
  have ff:=qA (iy hk2) ff;refine wD ?_;refine ae Dg ?_ (hok:=ic @M3);refine wE Dg (λc4=>?_) (λc4=>?_) (hok:=oS (k:=by refine⟨λ_=>⟨om,om⟩,λh1 _=>⟨h1,λh3=>by rw[h1,h3];rfl⟩⟩))
  . exact fr Dg (k:=by rw[XW c1,XW (by omega),hv,fM,XY hk2,ZaW c4.1 (by first|exact c4.2|(rcases c4.2 with h|h;exact .inl (by omega);exact .inr h))];rfl)
  refine wC Dg ?_;exact ak (k+1,_) (h1:=⟨iv,(by(try dsimp only);rw[hv,fM,if_pos hk2,ZaV (by first|exact c4|(rcases c4 with h|h;exact .inl h;exact .inr ⟨om,h.2⟩))];rfl)⟩)
 refine aR ?_
 exact fr Dg (k:=by rw[XW c1,XW (by omega),hv,fM,XW (by omega),Zl];congr 2;exact ZV.2 (by omega))
def zC(s:Str)(hs:s.length<=1000):PureCt prog 148 [.v (.string (bs s))] (.l ((aM s).map sR)):=by
 rw[aM]
 refine oO func148 λff=>?_
 unfold f148
 refine ae Dg ?_
 refine oK Dg ?_ ?_<;>intro c1
 . exact fr Dg (k:=by rw[XY c1];rfl)
 exact fr Dg (hok:=oF (MQ _ hs)) (k:=by rw[XW c1])
theorem Gg:jy prog 208=true:=by kernel_rfl
theorem sF(s:Str):PureCt prog 133 [.v (.string (bs s))] (.b (ah s)):=by
 refine oO func133 λff=>?_
 unfold f133
 refine ae Dg ?_
 refine oK Dg ?_ ?_<;>intro c1
 . exact fr Dg (k:=by rw[ah,XY c1])
 refine oK Dg ?_ ?_<;>intro c3
 . exact fr Dg (k:=by rw[ah,XW c1,XY (by omega)])
 refine ae Dg ?_
 refine wA Dg ?_
 refine Am (by simp only[go_sem,ff]) ev func208 rfl Gg (by simp[f208]) rfl (λl rL hp ha hb hn=>?_)
 unfold f208
 refine oK Dg ?_ ?_<;>intro d0
 . exact absurd d0 c1
 refine ae Dg ?_
 refine dO ?_
 refine lq (Str×Nat×Bool×Nat) [1] (λ⟨rest,n,wild,nx⟩=>(n<=8/\rest.length<=s.length/\7<nx/\ah s=mM (gX rest) n wild,rest.length,[(4,.v (.string (bs rest)))],[(0,⟨4,[[.b false]]⟩),(6,⟨3,[[.i n]]⟩),(7,⟨4,[[.b wild]]⟩)],nx)) (s,0,false,_) ?_ (hA:=⟨oW,(by first|(first|omega|(simp;omega))|(dsimp only;first|omega|(simp;omega))),iv,(by(try dsimp only);rw[OZ,if_neg c1,if_neg (by omega)])⟩)
 rintro⟨rest,n,wild,nx⟩ ⟨hn8,hl,hx,hv⟩
 simp only[XX,XZ]
 have hL:=zZ rest 46
 have n0:0<nx:=by omega
 have n6:6<nx:=by omega
 have n7:7<nx:=by omega
 refine dO ?_
 refine ae Dg ?_ (hok:=ic @BN)
 refine aU ?_
 refine aU ?_
 refine Cz (C:=Dg) (r:=rL) 5 (pK rfl) rfl rfl rfl (by simp only[YC,Y1,go_sem,ff];exact rfl) ?_ ev (by first|(simp only[go_sem,ff];done)|(simp only[go_sem,ff];exact rfl)) (by simp only[go_sem,ff]) ev (by rw[hp];rfl) (by rw[hp,hn];show ∀p∈[13],p<30;decide) ?_
 .
  try simp only[go_sem,ff]
  all_goals (first|done|(repeat' (with_reducible apply And.intro))<;>first|omega|(with_reducible assumption)|(intros;omega)|(intros;simp only[XV,X3,X8,XT,Ya,X5,Yk]at *;omega)|(simp_all;done)|(simp_all;omega))
 rw[ha,hb,hp,hn]
 show DW _ _ _ _ { n:=_,t:=lZ _ [13] _,h:=_,nx:=_ }
 simp only[zz,zw]
 refine aA Dg ?_
 refine⟨rfl,?_⟩
 refine dO ?_
 refine ae Dg ?_
 refine oM Dg ?_ ?_ (hq:=rfl)<;>intro c9
 .
  refine ae Dg ?_;refine iA ?_;refine⟨rfl,false,some .ret,⟨rfl,rfl⟩,⟨_,_,_,_,_,_⟩,by simp only[Yv,Yj,S.put,go_sem,ff];exact rfl,?_,?_⟩
  .
   try simp only[go_sem,ff]
   all_goals (first|done|(repeat' (with_reducible apply And.intro))<;>first|omega|(with_reducible assumption)|(intros;omega)|(intros;simp only[XV,X3,X8,XT,Ya,X5,Yk]at *;omega)|(simp_all;done)|(simp_all;omega))
  try simp only[gG]
  refine ce ?_ ?_ (hq:=rfl)<;>intro d3
  . refine iA ?_;refine⟨.inr rfl,some .ret,rfl,?_⟩;exact fin 0 (hr:=oS (k:=by first|(rw[hv,ky,LB c9];done)|(rw[hv,ky,LA c9 c12])))
  simp at d3
 have c9b:=Zft c9
 refine ae Dg ?_
 refine wG Dg (λc12=>?_) (λc12=>?_) (hok:=ic @PQ) (hq:=rfl)
 .
  refine ae Dg ?_;refine iA ?_;refine⟨rfl,false,some .ret,⟨rfl,rfl⟩,⟨_,_,_,_,_,_⟩,by simp only[Yv,Yj,S.put,go_sem,ff];exact rfl,?_,?_⟩
  .
   try simp only[go_sem,ff]
   all_goals (first|done|(repeat' (with_reducible apply And.intro))<;>first|omega|(with_reducible assumption)|(intros;omega)|(intros;simp only[XV,X3,X8,XT,Ya,X5,Yk]at *;omega)|(simp_all;done)|(simp_all;omega))
  try simp only[gG]
  refine ce ?_ ?_ (hq:=rfl)<;>intro d3
  . refine iA ?_;refine⟨.inr rfl,some .ret,rfl,?_⟩;exact fin 0 (hr:=oS (k:=by first|(rw[hv,ky,LB c9];done)|(rw[hv,ky,LA c9 c12])))
  simp at d3
 refine fB ?_
 refine⟨rfl,true,none,⟨rfl,rfl⟩,⟨_,_,_,_,_,_⟩,by simp only[Yv,Yj,S.put,go_sem,ff];exact rfl,?_,?_⟩
 .
  try simp only[go_sem,ff]
  all_goals (first|done|(repeat' (with_reducible apply And.intro))<;>first|omega|(with_reducible assumption)|(intros;omega)|(intros;simp only[XV,X3,X8,XT,Ya,X5,Yk]at *;omega)|(simp_all;done)|(simp_all;omega))
 try simp only[gG]
 refine cd ?_ ?_<;>intro d3
 . refine iA ?_;refine⟨.inr rfl,none,rfl,?_⟩;exact fr Dg (k:=by rw[hv,ky,Lx c9 c12,XY d3];rfl)
 refine wC Dg ?_
 exact ak (rest.take (bz rest 46).toNat,n+1,((rest.drop (bz rest 46+1).toNat)==[42]),_) (h1:=⟨oW,(by first|(first|omega|(simp;omega))|(dsimp only;first|omega|(simp;omega))),iv,(by(try dsimp only);rw[hv,ky,Lx c9 c12,if_neg d3])⟩) (h2:=by show(_:Nat)<_;(simp;omega))
def sO(s:Str):PureCt prog 50 [.v (.string (bs s))] (.b (ah s)):=by
 refine oO func50 λff=>?_
 unfold f50
 refine ae Dg ?_
 exact ft Dg (hok:=oF (sF _))
open Go.RowKit
def ZfA:Go.Shelf.Ren:={ f:=λx=>match x with|213=>270|265=>296|n=>n,t:=λx=>match x with|3=>3|9=>9|n=>n,g:=λn=>n }
def ZfB:Go.Proofs.Lays.n213 prog ZfA:={
 mixed:=mix
 f213:=func270.trans (by kernel_rfl)
 f265:=func296.trans (by kernel_rfl)
 t3:=underlying3
 a3:=Tryz.isAgg3
 z3:=Tryz.sizeOf3
 v3:=Tryz.zeroValue3
 t9:=underlying9
 a9:=Tryz.isAgg9
 z9:=Tryz.sizeOf9
 v9:=Tryz.zeroValue9 }
def Zfz(a b:Str):PureCt prog 270 [.v (.string (bs a)),.v (.string (bs b))] (.i (Go.Lib.compareBytes a b)):=by
 refine⟨by kernel_rfl,by simp[D.nr],λw I vs hI hg hr=>?_⟩
 obtain⟨x,l,rfl,h1,h2⟩:=hr.of_cons
 obtain⟨y,l,rfl,h3,h4⟩:=h2.of_cons
 rw[h4.of_nil,h1.v_inv,h3.v_inv]
 have:=Go.Proofs.Any.bytealg_CompareString ZfB (bs a) (bs b) w
 refine callsIn_wide.2 (this.mono ?_)
 rintro e w' ⟨rfl,rfl⟩
 refine⟨_,rfl,⟨rfl,rfl,rfl,X4 _,λ_=>X4 _,λ_ _=>rfl⟩,?_⟩
 rw[kR,kR]
 exact .v _
def Zfy(a:Str)(b:Str):PureCt prog 227 [.v (.string (bs a)),.v (.string (bs b))] (.i (Go.Lib.compareBytes a b)):=by
 refine oO func227 λff=>?_
 unfold f227
 refine ae Dg ?_
 exact ft Dg (hok:=oF (Zfz _ _))
def Nr(s:Str)(h:H)(n:Nat):dS prog 226 [.v (.string (bs s))] h n (λd h' n'=>d = .fn (.func 269) [] [.mptr (n+5) 0 0,.mptr (n+4) 0 0]/\h'=upd (upd h (n+4) (some ⟨9,[[.v (.string (bs s))]]⟩)) (n+5) (some ⟨4,[[.b (s != [46])]]⟩)/\n'=n+10):=by
 refine oP func226 λhnone ff=>?_
 unfold f226
 have ff:=qA (nH (n+4) (n+5)) ff
 refine oD Dg ?_
 exact oN (gN (upd (upd h (n+4) (some ⟨9,[[.v (.string (bs s))]]⟩)) (n+5) (some ⟨4,[[.b (s != [46])]]⟩)) (hr:=by(try simp only[go_sem,ff]);all_goals (exact⟨rfl,rfl,rfl⟩)) (hh:=by intro q;left;by_cases e1:q=n+5<;>by_cases e2:q=n+4<;>simp[upd,e1,e2]))
def Nt(more:Bool)(rest:Str)(m r:Nat)(h:H)(n:Nat)(hm:h m=some ⟨4,[[.b more]]⟩)(hr:h r=some ⟨9,[[.v (.string (bs rest))]]⟩)(hmr:m≠r)(hl:rest.length<=1000):dS prog 269 [.mptr m 0 0,.mptr r 0 0] h n (λd h' n'=>d = .tuple [.v (.string (bs (lg more rest))),.b more]/\h'=upd (upd h m (some ⟨4,[[.b (kE more rest)]]⟩)) r (some ⟨9,[[.v (.string (bs (kD more rest)))]]⟩)/\n<=n'):=by
 refine oP func269 λhnone ff=>?_
 unfold f269
 have hrm:r≠m:=λe=>hmr e.symm
 have hL:=zZ rest 46
 have ff:=qE @hm @hr @hmr @hrm ff
 refine ae Dg ?_
 refine oK Dg ?_ ?_<;>intro c1
 . refine ae Dg ?_;exact oN (gN (upd (upd h m (some ⟨4,[[.b (kE more rest)]]⟩)) r (some ⟨9,[[.v (.string (bs (kD more rest)))]]⟩)) (hr:=oS (k:=by first|exact ZH _ _|(refine⟨?_,ZH _ _⟩;simp_all [lg]))) (hh:=by intro q;left;by_cases e1:q=r<;>by_cases e2:q=m<;>simp_all [upd,kE,kD]<;>(rw[XW (by omega)])))
 refine ae Dg ?_ (hok:=ic @BN)
 refine ae Dg ?_
 refine aU ?_
 refine wE Dg ?_ ?_<;>intro c2
 . refine aA Dg ?_;refine ae Dg ?_;exact oN (gN (upd (upd h m (some ⟨4,[[.b (kE more rest)]]⟩)) r (some ⟨9,[[.v (.string (bs (kD more rest)))]]⟩)) (hr:=oS (k:=by first|exact ZH _ _|(refine⟨?_,ZH _ _⟩;simp_all [lg]))) (hh:=by intro q;left;by_cases e1:q=r<;>by_cases e2:q=m<;>simp_all [upd,kE,kD]<;>(rw[XW (by omega)])))
 refine aA Dg ?_
 refine ae Dg ?_
 exact oN (gN (upd (upd h m (some ⟨4,[[.b (kE more rest)]]⟩)) r (some ⟨9,[[.v (.string (bs (kD more rest)))]]⟩)) (hr:=oS (k:=by first|exact ZH _ _|(refine⟨?_,ZH _ _⟩;simp_all [lg]))) (hh:=by intro q;left;by_cases e1:q=r<;>by_cases e2:q=m<;>simp_all [upd,kE,kD]<;>(rw[XW (by omega)])))
def Ez(a:Str)(b:Str):PureCt prog 166 [.v (.string (bs a)),.v (.string (bs b))] (.tuple [.i (if ah a&&ah b then ig a b else 0),.i (if ah a&&ah b then 0 else 11)]):=by
 refine oO func166 λff=>?_
 unfold f166
 refine oC Dg ?_
 refine oM Dg (λc1=>?_) (λc1=>?_) (hok:=oS (k:=by first|done|(simp only[sF,and_true,implies_true];done)|((repeat' (with_reducible apply And.intro))<;>first|(intros;exact sF _))))
 . exact fr Dg (K:=1) (k:=by(have e:(ah a&&ah b)=false:=by revert c1;cases ah a<;>cases ah b<;>simp);rw[e];rfl)
 refine oK Dg ?_ ?_<;>intro c2
 . exact fr Dg (K:=1) (k:=by rw[c1.1,c1.2,ig,XY c2];rfl)
 refine aU (ib Dg 1 (hct:=by exact Nr b _ _) (hk:=?_))
 rintro res h2 n2 ⟨rfl,rfl,rfl⟩
 refine gZ Dg ?_
 refine ae Dg ?_
 refine wA Dg ?_
 refine Am (by simp only[go_sem,ff]) ev func208 rfl Gg (by simp[f208]) rfl (λl rL hp ha hb hn=>?_)
 unfold f208
 refine oK Dg ?_ ?_<;>intro d0
 . refine iA ?_;refine⟨.inr rfl,none,rfl,?_⟩;exact fr Dg (K:=1) (k:=by first|(rw[c1.1,c1.2,ig,XW c2,hv,KH c11 c14,XY d3];rfl)|(rw[c1.1,c1.2,ig,XW c2,d0];rfl))
 refine ae Dg ?_
 refine dO ?_
 refine lq (Str×Bool×Str×Nat) [1] (λ⟨rest,more,iC,nx⟩=>(rest.length<=60/\iC.length<=60/\30<nx/\qK (ay a) (ay b)=qK (gX rest) (pl more iC),rest.length,[(4,.v (.string (bs rest)))],[(0,⟨3,[[.i 0]]⟩),(1,⟨31,[[.i 0]]⟩),(22,⟨9,[[.v (.string (bs iC))]]⟩),(23,⟨4,[[.b more]]⟩),(30,⟨281,[[.fn (.func 269) [] [.mptr 23 0 0,.mptr 22 0 0]]]⟩)],nx)) (a,(b != [46]),b,_) ?_ (hA:=⟨(fT c1.1),(fT c1.2),iv,(by(try dsimp only);rw[M0 b,ay,if_neg d0])⟩)
 rintro⟨rest,more,iC,nx⟩ ⟨hl,hl2,hx,hv⟩
 simp only[XX,XZ]
 have hL:=zZ rest 46
 have n0:0<nx:=by omega
 have n1:1<nx:=by omega
 have n22:22<nx:=by omega
 have n23:23<nx:=by omega
 refine dO ?_
 refine ae Dg ?_ (hok:=ic @BN)
 refine aU ?_
 refine aU ?_
 refine Cz (C:=Dg) (r:=rL) 5 (pK rfl) rfl rfl rfl (by simp only[YC,Y1,go_sem,ff];exact rfl) ?_ ev (by first|(simp only[go_sem,ff];done)|(simp only[go_sem,ff];exact rfl)) (by simp only[go_sem,ff]) ev (by rw[hp];rfl) (by rw[hp,hn];show ∀p∈[32],p<46;decide) ?_
 .
  try simp only[go_sem,ff]
  all_goals (first|done|(repeat' (with_reducible apply And.intro))<;>first|omega|(with_reducible assumption)|(intros;omega)|(intros;simp only[XV,X3,X8,XT,Ya,X5,Yk]at *;omega)|(simp_all;done)|(simp_all;omega))
 rw[ha,hb,hp,hn]
 show DW _ _ _ _ { n:=_,t:=lZ _ [32] _,h:=_,nx:=_ }
 simp only[zz,zw]
 refine aA Dg ?_
 refine⟨rfl,?_⟩
 refine dO ?_
 refine aU (ib Dg 1 (hct:=by exact Nt more iC 23 22 _ _ rfl rfl (by decide) om) (hk:=?_))
 rintro res h2 n2 ⟨rfl,rfl,hn2⟩
 refine gZ Dg ?_
 refine oM Dg (λc11=>?_) (λc11=>?_) (hq:=rfl)
 .
  refine ae Dg ?_;refine iA ?_;refine⟨rfl,false,some .ret,⟨rfl,rfl⟩,⟨_,_,_,_,_,_⟩,by simp only[Yv,Yj,S.put,go_sem,ff];exact rfl,?_,?_⟩
  .
   try simp only[go_sem,ff]
   all_goals (first|done|(repeat' (with_reducible apply And.intro))<;>first|omega|(with_reducible assumption)|(intros;omega)|(intros;simp only[XV,X3,X8,XT,Ya,X5,Yk]at *;omega)|(simp_all;done)|(simp_all;omega))
  try simp only[gG]
  refine ce ?_ ?_ (hq:=rfl)<;>intro d3
  . refine iA ?_;refine⟨.inr rfl,some .ret,rfl,?_⟩;exact fin 1 (hr:=oS (k:=by first|(rw[c1.1,c1.2,ig,XW c2,hv,F3 c11];done)|(rw[c1.1,c1.2,ig,XW c2,hv,F3 c11];rfl)|(rw[c1.1,c1.2,ig,XW c2,hv,Tg c11 c14];rfl)))
  simp at d3
 refine ae Dg ?_ (hok:=oF (Zfy _ _))
 refine wG Dg (λc14=>?_) (λc14=>?_) (hq:=rfl)
 .
  refine ae Dg ?_;refine iA ?_;refine⟨rfl,false,some .ret,⟨rfl,rfl⟩,⟨_,_,_,_,_,_⟩,by simp only[Yv,Yj,S.put,go_sem,ff];exact rfl,?_,?_⟩
  .
   try simp only[go_sem,ff]
   all_goals (first|done|(repeat' (with_reducible apply And.intro))<;>first|omega|(with_reducible assumption)|(intros;omega)|(intros;simp only[XV,X3,X8,XT,Ya,X5,Yk]at *;omega)|(simp_all;done)|(simp_all;omega))
  try simp only[gG]
  refine ce ?_ ?_ (hq:=rfl)<;>intro d3
  . refine iA ?_;refine⟨.inr rfl,some .ret,rfl,?_⟩;exact fin 1 (hr:=oS (k:=by first|(rw[c1.1,c1.2,ig,XW c2,hv,F3 c11];done)|(rw[c1.1,c1.2,ig,XW c2,hv,F3 c11];rfl)|(rw[c1.1,c1.2,ig,XW c2,hv,Tg c11 c14];rfl)))
  simp at d3
 refine fB ?_
 refine⟨rfl,true,none,⟨rfl,rfl⟩,⟨_,_,_,_,_,_⟩,by simp only[Yv,Yj,S.put,go_sem,ff];exact rfl,?_,?_⟩
 .
  try simp only[go_sem,ff]
  all_goals (first|done|(repeat' (with_reducible apply And.intro))<;>first|omega|(with_reducible assumption)|(intros;omega)|(intros;simp only[XV,X3,X8,XT,Ya,X5,Yk]at *;omega)|(simp_all;done)|(simp_all;omega))
 try simp only[gG]
 refine cd ?_ ?_<;>intro d3
 . refine iA ?_;refine⟨.inr rfl,none,rfl,?_⟩;exact fr Dg (K:=1) (k:=by first|(rw[c1.1,c1.2,ig,XW c2,hv,KH c11 c14,XY d3];rfl)|(rw[c1.1,c1.2,ig,XW c2,d0];rfl))
 refine wC Dg ?_
 exact ak (rest.take (bz rest 46).toNat,kE more iC,kD more iC,_) (h1:=⟨(by first|(first|omega|(simp;omega))|(dsimp only;first|omega|(simp;omega))),(by(try dsimp only);first|omega|(have:=Ia more iC;omega)),iv,(by(try dsimp only);rw[hv,KH c11 c14,if_neg d3])⟩) (h2:=by show(_:Nat)<_;(simp;omega))
def Hu(a:Str)(b:Str)(ha:a.length<=1000)(hb:b.length<=1000):PureCt prog 183 [.v (.string (bs a)),.v (.string (bs b))] (.i (bH a b)):=by
 rw[Zbr]
 refine oO func183 λff=>?_
 unfold f183
 have hl:=(Ea a).2
 have hm:=(Ea b).2
 refine ae Dg ?_
 refine ae Dg ?_ (hok:=oF (zC _ ha))
 refine ae Dg ?_ (hok:=oF (zC _ hb))
 refine wA Dg ?_
 refine lq (Nat×Nat) [5,6] (λ⟨k,nx⟩=>(1<=k/\k<=(aM a).length+1/\wK (aM a) (aM b) 1=wK (aM a) (aM b) k,(aM a).length+1-k,[(7,.i k)],[],nx)) (1,_) ?_
 rintro⟨k,nx⟩ ⟨hk,hk1,hv⟩
 simp only[XX,XZ]
 refine oT Dg ?_ ?_ (hq:=rfl)<;>intro c1
 .
  have hk2:k<=(aM a).length/\k<=(aM b).length:=by simp only[XT,XV]at c1;omega
  have e1:(((aM a).length:Int)-k).toNat=(aM a).length-k:=by omega
  have e2:(((aM b).length:Int)-k).toNat=(aM b).length-k:=by omega
  have g1:(aM a).length-k<(aM a).length:=by omega
  have g2:(aM b).length-k<(aM b).length:=by omega
  have ff:=qE @e1 @e2 (iy g1) (iy g2) ff;refine wD ?_;refine oC Dg ?_;refine oM Dg ?_ ?_ (hq:=rfl)<;>intro c2
  . exact fr Dg (k:=by rw[hv,yg,XY hk2,XY c2])
  refine wG Dg ?_ ?_ (hq:=rfl)<;>intro c3
  . exact fr Dg (k:=by rw[hv,yg,XY hk2,XW (by rw[c2];simp),XY c3])
  refine wC Dg ?_;exact ak (k+1,_) (h1:=⟨iv,iv,(by(try dsimp only);rw[hv,yg,if_pos hk2,if_neg (by rw[c2];simp),if_neg (by rw[c3];simp)])⟩)
 have hk2 : ¬(k<=(aM a).length/\k<=(aM b).length):=by simp only[YH,X3]at c1;omega
 refine aR ?_
 refine oK Dg ?_ ?_<;>intro c4
 . exact fr Dg (k:=by rw[hv,yg,XW hk2,XY (by omega)])
 refine oK Dg ?_ ?_<;>intro c5
 . exact fr Dg (k:=by rw[hv,yg,XW hk2,XW (by omega),XY (by omega)])
 exact fr Dg (k:=by rw[hv,yg,XW hk2,XW (by omega),XW (by omega)])
def XR(a:Str)(b:Str):PureCt prog 181 [.v (.string (bs a)),.v (.string (bs b))] (.tuple [.i (if ah a&&ah b then ig a b else 0),.i (if ah a&&ah b then 0 else 11)]):=by
 refine oO func181 λff=>?_
 unfold f181
 refine ae Dg ?_
 refine ae Dg ?_ (hok:=oF (qU _))
 refine ae Dg ?_ (hok:=oF (qU _))
 refine oM Dg ?_ ?_<;>intro c1
 .
  have e:(ah a&&ah b)=false:=by revert c1;cases ah a<;>cases ah b<;>simp
  exact fr Dg (K:=1) (k:=by rw[e];rfl)
 have e:(ah a&&ah b)=true:=by rw[c1.1,c1.2];rfl
 have la:=fT c1.1
 have lb:=fT c1.2
 exact fr Dg (K:=1) (hok:=ic @Hu) (k:=by rw[e,Eu];rfl)
def Dj(x:Int)(lo:Int)(hi:Int):PureCt prog 140 [.i x,.i lo,.i hi] (.b (aW x lo hi)):=by
 refine oO func140 λff=>?_
 unfold f140
 refine ae Dg ?_
 exact ft Dg
theorem GA(x:Int)(lo:Int)(hi:Int):PureCt prog 249 [.v (.int .u8 x),.v (.int .u8 lo),.v (.int .u8 hi)] (.b (aW x lo hi)):=by
 refine oO func249 λff=>?_
 unfold f249
 refine ae Dg ?_
 exact ft Dg
def vW(x:Int)(lo:Int)(hi:Int):PureCt prog 176 [.i x,.i lo,.i hi] (.b (aW x lo hi)):=by
 refine oO func176 λff=>?_
 unfold f176
 refine ae Dg ?_
 exact ft Dg
def OY(x:Int):PureCt prog 122 [.i x] (.b (x != x)):=by
 refine oO func122 λff=>?_
 unfold f122
 refine ae Dg ?_
 exact ft Dg
def OX(x:Str):PureCt prog 250 [.v (.string (bs x))] (.b (x != x)):=by
 refine oO func250 λff=>?_
 unfold f250
 refine ae Dg ?_
 exact ft Dg
def FZ(x:Int)(y:Int):PureCt prog 37 [.i x,.i y] (.i (cmpI x y)):=by
 refine oO func37 λff=>?_
 unfold f37
 refine ae Dg ?_
 refine ae Dg ?_ (hok:=oS (k:=by have h:=OY x;simp only[bne_self_eq_false]at h;exact h))
 refine ae Dg ?_ (hok:=oS (k:=by have h:=OY y;simp only[bne_self_eq_false]at h;exact h))
 refine oM Dg ?_ ?_<;>intro c1
 . simp at c1
 refine oM Dg ?_ ?_<;>intro c2
 . simp at c2
 refine oK Dg ?_ ?_<;>intro c3
 . exact fr Dg (k:=by simp only[cmpI,qJ,rD];first|(simp_all;done)|((repeat' split)<;>first|rfl|omega))
 refine oK Dg ?_ ?_<;>intro c4
 . exact fr Dg (k:=by simp only[cmpI,qJ,rD];first|(simp_all;done)|((repeat' split)<;>first|rfl|omega))
 exact fr Dg (k:=by simp only[cmpI,qJ,rD];first|(simp_all;done)|((repeat' split)<;>first|rfl|omega))
def Zfu(x:Str)(y:Str):PureCt prog 213 [.v (.string (bs x)),.v (.string (bs y))] (.i (qJ x y)):=by
 refine oO func213 λff=>?_
 unfold f213
 refine ae Dg ?_
 refine ae Dg ?_ (hok:=oS (k:=by have h:=OX x;simp only[bne_self_eq_false]at h;exact h))
 refine ae Dg ?_ (hok:=oS (k:=by have h:=OX y;simp only[bne_self_eq_false]at h;exact h))
 refine oM Dg ?_ ?_<;>intro c1
 . simp at c1
 refine oM Dg ?_ ?_<;>intro c2
 . simp at c2
 refine oK Dg ?_ ?_<;>intro c3
 . exact fr Dg (k:=by simp only[cmpI,qJ,rD];first|(simp_all;done)|((repeat' split)<;>first|rfl|omega))
 refine oK Dg ?_ ?_<;>intro c4
 . exact fr Dg (k:=by simp only[cmpI,qJ,rD];first|(simp_all;done)|((repeat' split)<;>first|rfl|omega))
 exact fr Dg (k:=by simp only[cmpI,qJ,rD];first|(simp_all;done)|((repeat' split)<;>first|rfl|omega))
def ZcU(s:Str)(p:Str):PureCt prog 196 [.v (.string (bs s)),.v (.string (bs p))] (.b (uP s p)):=by
 refine oO func196 λff=>?_
 unfold f196
 refine ae Dg ?_
 exact fr Dg (k:=by have e:decide ((p.length:Int)<=s.length)=decide (p.length<=s.length):=ZV.2 (by omega);rw[uP,e])
def E5(s:Str)(p:Str):PureCt prog 123 [.v (.string (bs s)),.v (.string (bs p))] (.b (uP s p)):=by
 refine oO func123 λff=>?_
 unfold f123
 refine ae Dg ?_
 exact ft Dg (hok:=ic @ZcU)
def PP(s:Str):PureCt prog 141 [.v (.string (bs s))] (.b (dD s)):=by
 refine oO func141 λff=>?_
 unfold f141
 refine ae Dg ?_
 exact fr Dg (hok:=ic @E5) (k:=by rw[vO])
def vX(s:Str):PureCt prog 178 [.v (.string (bs s))] (.b (dD s)):=by
 refine oO func178 λff=>?_
 unfold f178
 refine ae Dg ?_
 exact fr Dg (k:=by rw[dD];congr 2;rw[YS];simp only[XT,XV,Yx];omega)
def Zcr(s:Str):PureCt prog 212 [.v (.string (bs s))] (.b (rP s)):=by
 rw[rP]
 refine oO func212 λff=>?_
 unfold f212
 have e1:((s.length:Int)-1).toNat=s.length-1:=by omega
 have ff:=qA @e1 ff
 refine ae Dg ?_
 have hin:aW (s.length:Int) 1 40=true->(1:Int)<=s.length/\(s.length:Int)<=40:=by intro h;simp only[aW,XT,XV]at h;exact h
 refine oK Dg (λc1=>?_) (λc1=>?_) (hok:=oS (k:=by refine⟨⟨⟨Dj _ _ _,λh=>by have:=hin h;omega⟩,λh=>?_⟩,λh=>?_⟩<;>(rw[Ya,Yk]at h;have:=hin h.1;omega)))
 .
  try simp only[aW,XT,YH,XV,X3]at c1
  exact fr Dg (k:=by(repeat' split)<;>first|rfl|(exfalso;omega))
 try simp only[aW,XT,YH,XV,X3]at c1
 refine wA Dg ?_
 refine lq (Nat×Nat) [0,23] (λ⟨k,nx⟩=>(k<=s.length/\aF s.length (pq s) 0=aF s.length (pq s) k,s.length-k,[(24,.i k)],[],nx)) (0,_) ?_
 rintro⟨k,nx⟩ ⟨hk,hv⟩
 simp only[XX,XZ]
 refine wH Dg ?_ ?_<;>intro c2
 .
  have hk2:k<s.length:=by simpa using c2
  refine wB ?_;refine oC Dg ?_;refine wE Dg (λc3=>?_) (λc3=>?_) (hok:=oS (k:=by first|done|(simp only[GA,and_true,implies_true];done)|((repeat' (with_reducible apply And.intro))<;>first|(intros;exact GA _ _ _)|(intros;simp_all;done))))
  . exact fr Dg (k:=by have h8:pq s k=false:=(by simp only[pq,nX,Ya,YH,X3];(try simp only[aW,XT,YH,XV,X3]at c3);omega);rw[hv,fM,XY hk2,h8];(repeat' split)<;>rfl)
  refine wC Dg ?_;exact ak (k+1,_) (h1:=⟨iv,(by(try dsimp only);have h8:pq s k=true:=(by simp only[pq,nX,Bool.or_eq_true,Bool.and_eq_true,decide_eq_true_eq];(try simp only[aW,Bool.and_eq_true,Bool.and_eq_false_iff,decide_eq_true_eq,decide_eq_false_iff_not]at c3);omega);rw[hv,fM,if_pos hk2,h8];rfl)⟩)
 refine aR ?_
 exact fr Dg (k:=by rw[hv,fM,XW (by omega),XW (by omega),XW (by omega),XW (by omega),XW (by omega)])
def Xt(s:Str):PureCt prog 236 [.v (.string (bs s))] (.b (rP s)):=by
 rw[rP]
 refine oO func236 λff=>?_
 unfold f236
 have e1:((s.length:Int)-1).toNat=s.length-1:=by omega
 have ff:=qA @e1 ff
 refine oC Dg ?_
 refine oK Dg ?_ ?_<;>intro c1
 . exact fr Dg (k:=by(repeat' split)<;>first|rfl|(exfalso;omega))
 refine wA Dg ?_
 refine lq (Nat×Nat) [0,3] (λ⟨k,nx⟩=>(k<=s.length/\aF s.length (pq s) 0=aF s.length (pq s) k,s.length-k,[(4,.i k)],[],nx)) (0,_) ?_
 rintro⟨k,nx⟩ ⟨hk,hv⟩
 simp only[XX,XZ]
 refine oT Dg ?_ ?_<;>intro c2
 .
  have hk2:k<s.length:=by simpa using c2
  refine wD ?_;refine ae Dg ?_;refine wE Dg ?_ ?_<;>intro c3
  . exact fr Dg (k:=by have h8:pq s k=false:=(by simp only[pq,nX,Ya,YH,X3];(try simp only[aW,XT,YH,XV,X3]at c3);omega);rw[hv,fM,XY hk2,h8];(repeat' split)<;>rfl)
  refine wC Dg ?_;exact ak (k+1,_) (h1:=⟨iv,(by(try dsimp only);have h8:pq s k=true:=(by simp only[pq,nX,Bool.or_eq_true,Bool.and_eq_true,decide_eq_true_eq];(try simp only[aW,Bool.and_eq_true,Bool.and_eq_false_iff,decide_eq_true_eq,decide_eq_false_iff_not]at c3);omega);rw[hv,fM,if_pos hk2,h8];rfl)⟩)
 refine aR ?_
 exact fr Dg (k:=by rw[hv,fM,XW (by omega),XW (by omega),XW (by omega),XW (by omega),XW (by omega)])
def Zaa(a:Dat)(b:Dat):PureCt prog 180 [.agg a.d,.agg b.d] (.b (less a b)):=by
 rw[less]
 refine oO func180 λff=>?_
 unfold f180
 refine ae Dg ?_
 refine oM Dg ?_ ?_ (hq:=rfl)<;>intro c1
 . exact fr Dg (k:=by rw[XY c1];rfl)
 refine oM Dg ?_ ?_ (hq:=rfl)<;>intro c2
 . exact fr Dg (k:=by rw[XW (by rw[c1];simp),XY c2])
 exact fr Dg (k:=by rw[XW (by rw[c1];simp),XW (by rw[c2];simp)])
def Tf(l:List Int):PureCt prog 158 [.l (l.map iR)] (.i (qb l 0)):=by
 refine oO func158 λff=>?_
 unfold f158
 refine Zek 0 rfl λhlen=>?_
 simp only[YY,maxLen]at hlen
 refine oC Dg ?_
 refine wA Dg ?_
 refine lq (Nat×Nat) [3,6,7] (λ⟨k,nx⟩=>(k<=l.length/\qb l 0=qb l k,l.length-k,[(8,.i k)],[],nx)) (0,_) ?_
 rintro⟨k,nx⟩ ⟨hk,hv⟩
 simp only[XX,XZ]
 refine wH Dg ?_ ?_<;>intro c1
 .
  have hk2:k<l.length:=by simpa using c1
  have ff:=qA (Fe hk2) ff;refine wB ?_;refine ae Dg ?_;refine wG Dg ?_ ?_ (hq:=rfl)<;>intro c2
  . exact fr Dg (k:=by rw[hv,yh,XY hk2,XY c2])
  refine wC Dg ?_;exact ak (k+1,_) (h1:=⟨iv,(by(try dsimp only);rw[hv,yh,if_pos hk2,if_neg (by rw[c2];simp)])⟩)
 refine aR ?_
 exact fr Dg (k:=by rw[hv,yh,XW (by omega)])
def Zfv(a:Dat)(b:Dat):PureCt prog 143 [.agg a.d,.agg b.d] (.i (kN a b)):=by
 refine oO func143 λff=>?_
 unfold f143
 refine ae Dg ?_
 exact fr Dg (hok:=oJ Zfu FZ (Tf [_,_,_])) (k:=by rw[<-Za1];try rfl)
def Xu(k:Int):PureCt prog 177 [.i k] (.b (xP k)):=by
 refine oO func177 λff=>?_
 unfold f177
 refine ae Dg ?_
 exact fr Dg (k:=by first|rfl|(unfold xP;simp))
def UQ(r:su)(d:Dat)(hr:r.even=true->0<=r.n0):PureCt prog 142 [.agg r.d,.agg d.d] (.b (kM r d)):=by
 refine oO func142 λff=>?_
 unfold f142
 refine ae Dg ?_
 refine oK Dg (λc1=>?_) (λc1=>?_) (hok:=oS (k:=by first|trivial|(repeat' with_reducible apply And.intro)<;>first|(intros;exact Dj _ _ _)|(intro h;simp only[XT,X5,Ya,Yk,je]at h;have:=hr h.2;omega)|(intros;simp_all;done)))
 . exact fr Dg (k:=by rcases c1 with(h|h)|⟨h1,h2⟩<;>simp[kM, *])
 refine wA Dg ?_
 refine wE Dg ?_ ?_<;>intro c2
 . exact fr Dg (hok:=oI sO PP) (k:=by obtain⟨⟨h1,h2⟩,h3⟩:=c1;rcases h3 with h3|h3<;>simp[kM,vR, *])
 refine wE Dg ?_ ?_<;>intro c3
 . exact fr Dg (hok:=oF (sO _)) (k:=by obtain⟨⟨h1,h2⟩,h3⟩:=c1;rcases h3 with h3|h3<;>simp[kM,vR, *])
 refine wE Dg ?_ ?_<;>intro c4
 . exact fr Dg (hok:=oF (Zcr _)) (k:=by obtain⟨⟨h1,h2⟩,h3⟩:=c1;rcases h3 with h3|h3<;>simp[kM,vR, *])
 refine fB ?_
 exact fr Dg (k:=by obtain⟨⟨h1,h2⟩,h3⟩:=c1;rcases h3 with h3|h3<;>simp[kM,vR, *]<;>cases d.t<;>rfl)
def Zan(k:Int)(d:Dat):PureCt prog 179 [.i k,.agg d.d] (.b (lc k d)):=by
 refine oO func179 λff=>?_
 unfold f179
 refine ae Dg ?_
 refine wA Dg ?_
 refine wE Dg ?_ ?_<;>intro c1
 . exact fr Dg (hok:=oS (k:=by first|trivial|(repeat' with_reducible apply And.intro)<;>first|(intros;exact vW _ _ _)|(intros;exact qU _)|(intros;exact vX _)|(intro h;simp only[XT,je]at h;omega)|omega)) (k:=by simp[lc, *])
 refine oL Dg ?_ ?_<;>intro c2
 .
  refine cd ?_ ?_<;>intro c3
  . exact fr Dg (hok:=oS (k:=by first|trivial|(repeat' with_reducible apply And.intro)<;>first|(intros;exact vW _ _ _)|(intros;exact qU _)|(intros;exact vX _)|(intro h;simp only[XT,je]at h;omega)|omega)) (k:=by simp[lc, *])
  exact absurd c2 c3
 refine aA Dg ?_
 refine cd ?_ ?_<;>intro c4
 . exact fr Dg (hok:=oS (k:=by first|trivial|(repeat' with_reducible apply And.intro)<;>first|(intros;exact vW _ _ _)|(intros;exact qU _)|(intros;exact vX _)|(intro h;simp only[XT,je]at h;omega)|omega)) (k:=by simp[lc, *])
 refine wE Dg ?_ ?_<;>intro c5
 . exact fr Dg (hok:=oS (k:=by first|trivial|(repeat' with_reducible apply And.intro)<;>first|(intros;exact vW _ _ _)|(intros;exact qU _)|(intros;exact vX _)|(intro h;simp only[XT,je]at h;omega)|omega)) (k:=by simp[lc, *])
 refine wE Dg ?_ ?_<;>intro c6
 . exact fr Dg (hok:=ic @Xt) (k:=by simp[lc, *])
 refine oL Dg ?_ ?_<;>intro c7
 .
  refine cd ?_ ?_<;>intro c8
  . exact fr Dg (hok:=oS (k:=by first|trivial|(repeat' with_reducible apply And.intro)<;>first|(intros;exact vW _ _ _)|(intros;exact qU _)|(intros;exact vX _)|(intro h;simp only[XT,je]at h;omega)|omega)) (k:=by simp[lc, *])
  exact absurd c7 c8
 refine aA Dg ?_
 refine cd ?_ ?_<;>intro c9
 . exact fr Dg (hok:=oS (k:=by first|trivial|(repeat' with_reducible apply And.intro)<;>first|(intros;exact vW _ _ _)|(intros;exact qU _)|(intros;exact vX _)|(intro h;simp only[XT,je]at h;omega)|omega)) (k:=by simp[lc, *])
 refine wE Dg (λc10=>?_) (λc10=>?_)
 . exact fr Dg (hok:=oS (k:=by first|trivial|(repeat' with_reducible apply And.intro)<;>first|(intros;exact vW _ _ _)|(intros;exact qU _)|(intros;exact vX _)|(intro h;simp only[XT,je]at h;omega)|omega)) (k:=by simp[lc, *])
 refine fB ?_
 exact fr Dg (k:=by simp[lc, *])
open Go.Cmp
def Xq{k:Nat}(h1:1<=k)(h8:k<=8):∃rest:List D,∀hh,fU prog (.v (.pointer (some ⟨0,k*8,none⟩))) hh=(gp k).d++rest:=by
 refine⟨(rulesTab.drop (k*8+8)).map D.v,λhh=>?_⟩
 rw[Zb5,glob0]
 have:k=1\/k=2\/k=3\/k=4\/k=5\/k=6\/k=7\/k=8:=by omega
 rcases this with e|e|e|e|e|e|e|e<;>subst e<;>rfl
def DF(s:RSet):PureCt prog 62 [.agg s.d] (.b (di s)):=by
 refine oO func62 λff=>?_
 unfold f62
 refine ae Dg ?_
 refine oK Dg ?_ ?_ (hok:=oa2 @sO @Dj)<;>intro c1
 . exact fr Dg (k:=by rcases c1 with(h|h)|h<;>simp[di,h])
 refine oK Dg ?_ ?_ (hok:=oF (Dj _ _ _))<;>intro c2
 . exact fr Dg (k:=by simp[di,c2])
 have hty:=je.1 c1.1.2
 obtain⟨rest,hld⟩:=Xq (k:=s.ty.toNat) om om
 have ff:=qA @hld ff
 refine ae Dg ?_ (hok:=oS (k:=by first|done|omega|((repeat' (with_reducible apply And.intro))<;>first|omega|rfl)))
 refine oK Dg (λc3=>?_) (λc3=>?_) (hok:=oS (k:=by first|trivial|(repeat' with_reducible apply And.intro)<;>first|(intros;exact PP _)|(intros;simp_all;done)|(intros;by_cases hq:(gp s.ty.toNat).single=true<;>simp_all)))
 . exact fr Dg (k:=by rcases c3 with⟨h1,h2⟩|⟨h1,h2⟩<;>simp[di,h1,h2])
 refine wA Dg ?_
 refine lq (Nat×Nat) [1,3,50,51] (λ⟨k,nx⟩=>(k<=s.data.length/\27<nx/\aF s.data.length (lJ s.ty.toNat s.data) 0=aF s.data.length (lJ s.ty.toNat s.data) k,s.data.length-k,[(52,.i k)],[(0,⟨41,[s.d]⟩),(27,⟨208,[(gp s.ty.toNat).d]⟩)],nx)) (0,_) ?_
 rintro⟨k,nx⟩ ⟨hk,hx,hv⟩
 simp only[XX,XZ]
 have n0:0<nx:=by omega
 have ff:=qB @hx @n0 ff
 refine wH Dg ?_ ?_<;>intro c4
 .
  have hk2:k<s.data.length:=by simpa using c4
  have ff:=qA (mq hk2) ff;refine wB ?_;refine ae Dg ?_;have hl8:=je.1 c2;have e1:((k:Int)-1).toNat=k-1:=by omega
  have hk1:k-1<s.data.length:=by omega
  have ff:=qB @e1 (mq hk1) ff;refine wE Dg (λc5=>?_) (λc5=>?_) (hok:=oS (k:=by first|trivial|(repeat' with_reducible apply And.intro)<;>first|(intros;exact UQ _ _ (Xr _))|(intros;exact Zfv _ _)|(intros;simp_all;done)|(intro h;simp only[XT,XV]at h;have:=h.2;omega)))
  . exact fr Dg (k:=by rw[Hf c1 c2 c3,hv,fM,XY hk2,Sj c5];rfl)
  refine wC Dg ?_;exact ak (k+1,_) (h1:=⟨iv,iv,(by(try dsimp only);rw[hv,fM,if_pos hk2,Si c5];rfl)⟩)
 refine aR ?_
 exact fr Dg (k:=by rw[Hf c1 c2 c3,hv,fM,XW (by omega)])
def XA(s:RSet):PureCt prog 104 [.agg s.d] (.b (di s)):=by
 refine oO func104 λff=>?_
 unfold f104
 refine oC Dg ?_
 refine oK Dg ?_ ?_ (hok:=oa3 @qU @vW @Xu)<;>intro c1
 . exact fr Dg (k:=by rw[WM c1])
 refine oM Dg ?_ ?_ (hok:=ic @vX) (hq:=rfl)<;>intro c2
 .
  rw[Lt _ c1.1.1.1.2]at c2
  try simp only[XV,X3,X8,XT,Ya,X5,Yk,YH,Yx,YM,ZE,ZW,ne_eq]at c2
  exact fr Dg (k:=by rw[WL c2])
 rw[Lt _ c1.1.1.1.2]at c2
 try simp only[XV,X3,X8,XT,Ya,X5,Yk,YH,Yx,YM,ZE,ZW,ne_eq]at c2
 refine wA Dg ?_
 refine lq (Nat×Nat) [1,3] (λ⟨k,nx⟩=>(k<=s.data.length/\0<nx/\aF s.data.length (lJ s.ty.toNat s.data) 0=aF s.data.length (lJ s.ty.toNat s.data) k,s.data.length-k,[(4,.i k)],[(0,⟨41,[s.d]⟩)],nx)) (0,_) ?_
 rintro⟨k,nx⟩ ⟨hk,hx,hv⟩
 simp only[XX,XZ]
 have ff:=qA @hx ff
 refine oT Dg ?_ ?_<;>intro c3
 .
  have hk2:k<s.data.length:=by simpa using c3
  have ff:=qA (mq hk2) ff;refine wD ?_;have hl8:=je.1 c1.1.2;have e1:((k:Int)-1).toNat=k-1:=by omega
  have hk1:k-1<s.data.length:=by omega
  have ff:=qB @e1 (mq hk1) ff;refine wE Dg ?_ ?_ (hok:=oa2 @Zan @Zaa)<;>intro c4
  . exact fr Dg (k:=by rw[MJ c1 c2,hv,fM,XY hk2,Ze0 c1.1.1.1.2 c4];rfl)
  refine wC Dg ?_;exact ak (k+1,_) (h1:=⟨iv,iv,(by(try dsimp only);rw[hv,fM,if_pos hk2,ZeY c1.1.1.1.2 c4];rfl)⟩)
 refine aR ?_
 exact fr Dg (k:=by rw[MJ c1 c2,hv,fM,XW (by omega)])
def XQ(a:RSet)(b:RSet):PureCt prog 106 [.agg a.d,.agg b.d] (.i (oG a b)):=by
 refine oO func106 λff=>?_
 unfold f106
 refine ae Dg ?_
 refine ae Dg ?_ (hok:=oF (XR _ _))
 refine oK Dg ?_ ?_<;>intro c1
 . exact fr Dg (k:=by simp only[oG,ku,wQ,Go.Rec.cmpI];simp_all<;>(repeat' split)<;>omega)
 refine oK Dg ?_ ?_<;>intro c2
 . exact fr Dg (k:=by simp only[oG,ku,wQ,Go.Rec.cmpI];simp_all<;>(repeat' split)<;>omega)
 refine oK Dg ?_ ?_<;>intro c3
 . exact fr Dg (k:=by simp only[oG,ku,wQ,Go.Rec.cmpI];simp_all<;>(repeat' split)<;>omega)
 exact fr Dg (k:=by simp only[oG,ku,wQ,Go.Rec.cmpI];simp_all<;>(repeat' split)<;>omega)
def Xz(a:RSet)(b:RSet)(ha:a.data.length<=100000):PureCt prog 235 [.agg a.d,.agg b.d] (.b (qR a b)):=by
 refine oO func235 λff=>?_
 unfold f235
 refine ae Dg ?_
 refine oK Dg ?_ ?_<;>intro c1
 . exact fr Dg (k:=by rw[Xk c1])
 refine wA Dg ?_
 refine lq (Nat×Nat) [2,3] (λ⟨k,nx⟩=>(k<=a.data.length/\1<nx/\(∀i,i<k->a.data[i]! = b.data[i]!),a.data.length-k,[(5,.i k)],[(0,⟨41,[a.d]⟩),(1,⟨41,[b.d]⟩)],nx)) (0,_) ?_ (hA:=⟨iv,iv,(by first|(intro i hi;omega)|(dsimp only;intro i hi;omega))⟩)
 rintro⟨k,nx⟩ ⟨hk,hx,hv⟩
 simp only[XX,XZ]
 have n0:0<nx:=by omega
 have ff:=qB @hx @n0 ff
 refine oT Dg ?_ ?_<;>intro c2
 .
  have hk2:k<a.data.length:=by simpa using c2
  have hk3:k<b.data.length:=by have:=c1.2;omega
  have ff:=qB (mq hk2) (mq hk3) ff;refine wD ?_;refine wG Dg ?_ ?_ (hq:=rfl)<;>intro c3
  . exact fr Dg (k:=by rw[Xl (Ze1 c3)])
  refine wC Dg ?_;exact ak (k+1,_) (h1:=⟨iv,iv,(by(try dsimp only);intro i hi;by_cases e:i=k;subst e;exact ZeZ c3;exact hv i om)⟩)
 refine aR ?_
 exact fr Dg (k:=by rw[Xj c1 λi hi=>hv i (by omega)])
@[go_sem]theorem all_bD{t:Str}:(∀r∈t.map bD,r.length=1)=True:=by
 apply eq_true
 intro r hr
 obtain⟨x,_,rfl⟩:=Yi.1 hr
 rfl
theorem XC(b t:Str):(b.map bD++[[.v (.int .u8 ((nE t.length).toNat:Int))]])++t.map bD=(b++gI t).map bD:=by
 simp[gI,bD]
theorem zl(t:Str):(gI t).length=t.length+1:=rfl
theorem ZeA{l:List Dat}{k:Nat}(h:k<l.length):l.drop k=l[k]! :: l.drop (k+1):=by
 rw[Yn h,getElem!_pos l k h]
theorem take8(m:Int){k:Nat}(h:k<8):(dI m).take (k+1)=(dI m).take k++[mI (uN m) (56-8*k)]:=by
 have:k=0\/k=1\/k=2\/k=3\/k=4\/k=5\/k=6\/k=7:=by omega
 rcases this with e|e|e|e|e|e|e|e<;>subst e<;>rfl
def Oy(m:Int)(s:Nat)(hs:s<=56):IntKind.u8.wrap ((IntKind.u64.wrap m).fdiv (2^(min s 64)))=((mI (uN m) s).toNat:Int):=by
 have e1:IntKind.u64.wrap m=(uN m:Int):=by rw[IntKind.wrap_u64];unfold uN;omega
 rw[e1,IntKind.wrap_u8,ZY (by omega),ZfU]
 rw[Int.fdiv_eq_ediv_of_nonneg _ (by exact_mod_cast Yl _)]
 norm_cast
def TT(b t:Str)(r:Nat)(h:H)(n:Nat)(hr:h r=some ⟨5,b.map bD⟩)(hl:b.length<=1000000)(ht:t.length<=1000000):dS prog 197 [.mrow r 0 b.length,.v (.string (bs t))] h n (λd h' n'=>∃r',d = .mrow r' 0 (b++gI t).length/\h'=upd (upd h r none) r' (some ⟨5,(b++gI t).map bD⟩)/\n<=r'/\r'<n'):=by
 refine oP func197 λhnone ff=>?_
 unfold f197
 have hrn:r<n:=by rcases Zv r n with q|q;exact q;rw[hnone r q]at hr;cases hr
 have ff:=qB @hr @hrn ff
 refine oD Dg ?_
 exact oN (gN (upd (upd h r none) (n+10) (some ⟨5,(b++gI t).map bD⟩)) (hr:=oS (k:=by exact⟨n+10,by simp[gI];omega,rfl,om,om⟩)) (hh:=by rw[<-XC];exact Qy (r1:=n+6) (.inr (hnone _ (by omega)))))
def Gn(b:Str)(m:Int)(r:Nat)(h:H)(n:Nat)(hr:h r=some ⟨5,b.map bD⟩)(hl:b.length<=1000000):dS prog 198 [.mrow r 0 b.length,.i m] h n (λd h' n'=>∃r',d = .mrow r' 0 (b++dI m).length/\h'=upd (upd h r none) r' (some ⟨5,(b++dI m).map bD⟩)/\n<=r'/\r'<n'):=by
 refine oP func198 λhnone ff=>?_
 unfold f198
 have hrn:r<n:=by rcases Zv r n with q|q;exact q;rw[hnone r q]at hr;cases hr
 have ff:=qB @hr @hrn ff
 refine ae Dg ?_
 refine wA Dg ?_
 refine zW (Nat×Nat×Nat) [1] (λ⟨k,r1,nx⟩=>(k<=8/\(r1=r/\k=0\/n<=r1)/\r1<nx/\n<=nx,9-k,[(0,.mrow r1 0 (b.length+k)),(5,.i (56-8*k))],upd (upd h r none) r1 (some ⟨5,(b++(dI m).take k).map bD⟩),nx)) (0,r,_) ?_ (sU:=by simp only[Y1,YZ];exact Zdi hr)
 rintro⟨k,r1,nx⟩ ⟨hk,h1,hx,hn⟩
 simp only[XX,XZ]
 have ff:=qA @hx ff
 refine oT Dg ?_ ?_ (hq:=rfl)<;>intro c1
 .
  have hk2:k<8:=by have:(0:Int)<=56-8*(k:Int):=(by simpa using c1);omega
  have e1:(56-8*(k:Int)).toNat=56-8*k:=by omega
  have e2:=Oy m (56-8*k) (by omega)
  have ff:=qB @e1 @e2 ff;refine wD ?_;refine aA Dg ?_ (hok:=by(try simp only[go_sem,ff,pJ,Y7,Yr]);all_goals (exact ok0))
  refine aA Dg ?_;refine ak (k+1,(nx+9),_) (h5:=?_);rw[take8 m hk2,<-YW,YQ,YQ];exact Qy (h1.imp (λq=>q.1) λq=>hnone _ q)
 have hk3:k=8:=by have : ¬(0:Int)<=56-8*(k:Int):=(by simpa using c1);omega
 subst hk3
 refine aR ?_
 refine ae Dg ?_
 exact oN (gN (upd (upd h r none) r1 (some ⟨5,(b++dI m).map bD⟩)) (hr:=oS (k:=by exact⟨r1,by simp[pJ],rfl,om,om⟩)))
def Zao(s:RSet):PureCt prog 124 [.agg s.d] (.tuple [.l ((nV s).1.map bD),.i (nV s).2]):=by
 refine oO func124 λff=>?_
 unfold f124
 refine ae Dg ?_
 refine oK Dg ?_ ?_ (hok:=oF (DF _))<;>intro c1
 . exact fr Dg (K:=2) (k:=by simp[nV,c1])
 have hs:=(iB s).1 c1
 have hl8:=hs.len
 have hn60:=fT hs.name
 refine ae Dg ?_
 refine uX 4 5 (by simp only[go_sem,ff]) (by simp only[go_sem,ff]) ?_
 refine aU (ib Dg 3 (hct:=by exact TT [] s.name 7 _ _ rfl (by simp) om) (hk:=?_))
 rintro res h2 n2 ⟨r1,rfl,rfl,ar1,br1⟩
 dsimp only at ar1 br1
 have z1r1:(0=r1)=False:=ZT om
 have z2r1:(r1=0)=False:=ZT om
 have pr1:0<n2:=by omega
 have ff:=qE @z1r1 @z2r1 @br1 @pr1 ff
 refine gZ Dg ?_
 refine Ap [1,4] [(0,⟨41,[s.d]⟩),(r1,⟨5,(gI s.name).map bD⟩)] (by simp only[X9,Yw,go_sem,ff];exact rfl) (by first|(simp only[go_sem,ff];done)|(simp[go_sem,ff];done)) ?_
 refine aU (ib Dg 3 (hct:=by exact Gn (gI s.name) s.ty r1 _ _ (by simp only[go_sem,z1r1,z2r1]) (by simp only[Yr,zl,pJ];omega)) (hk:=?_))
 rintro res h2 n2 ⟨r2,rfl,rfl,ar2,br2⟩
 dsimp only at ar2 br2
 have z1r2:(0=r2)=False:=ZT om
 have z2r2:(r2=0)=False:=ZT om
 have pr2:0<n2:=by omega
 have ff:=qE @z1r2 @z2r2 @br2 @pr2 ff
 refine gZ Dg ?_
 refine Ap [1,4] [(0,⟨41,[s.d]⟩),(r2,⟨5,(gI s.name++dI s.ty).map bD⟩)] (by simp only[X9,Yw,go_sem,ff];exact rfl) (by first|(simp only[go_sem,ff];done)|(simp[go_sem,ff];done)) ?_
 refine aU (ib Dg 3 (hct:=by exact Gn (gI s.name++dI s.ty) s.life r2 _ _ (by simp only[go_sem,z1r2,z2r2]) (by simp only[Yr,zl,pJ];omega)) (hk:=?_))
 rintro res h2 n2 ⟨r3,rfl,rfl,ar3,br3⟩
 dsimp only at ar3 br3
 have pr3:0<n2:=by omega
 have ff:=qD (nH 0 r3) @br3 @pr3 ff
 refine gZ Dg ?_
 refine Ap [1,4] [(0,⟨41,[s.d]⟩),(r3,⟨5,(gI s.name++dI s.ty++dI s.life).map bD⟩)] (by simp only[X9,Yw,go_sem,ff];exact rfl) (by first|(simp only[go_sem,ff];done)|(simp[go_sem,ff];done)) ?_
 refine ae Dg ?_ (hok:=by(try simp only[go_sem,ff,zl,pJ,Yr]);all_goals (exact ok0))
 refine wA Dg ?_
 refine lq (Nat×Str×Nat×Nat) [30,31] (λ⟨k,out,r,nx⟩=>(k<=s.data.length/\r<nx/\out.length<=1000+k*300/\out++(s.data.drop k).flatMap Ay=zA s,s.data.length-k,[(4,.mrow r 0 out.length),(32,.i k)],[(r,⟨5,(out).map bD⟩)],nx)) (0,gI s.name++dI s.ty++dI s.life++[nE s.data.length],(n2+11),_) ?_ (hA:=⟨iv,iv,(by first|(simp[gI,pJ];omega)|(dsimp only;simp[gI,pJ];omega)),(by first|(simp[zA])|(dsimp only;simp[zA]))⟩)
 rintro⟨k,out,r,nx⟩ ⟨hk,hr,ho,hv⟩
 simp only[XX,XZ]
 have ff:=qA @hr ff
 refine wH Dg ?_ ?_<;>intro c2
 .
  have hk2:k<s.data.length:=by simpa using c2
  have hd:=(Sk hs.ty (hs.dat _ (Yp hk2))).2.1;rw[<-getElem!_pos s.data k hk2]at hd;have ff:=qA (mq hk2) ff;refine wB ?_;refine ae Dg ?_;refine aU (ib Dg 3 (hct:=by exact TT out s.data[k]!.t r _ _ (by simp only[go_sem,hr]) om om) (hk:=?_))
  rintro res h2 n2 ⟨q1,rfl,rfl,aq1,bq1⟩;dsimp only at aq1 bq1;have z1q1:(nx+3=q1)=False:=eq_false om;have z2q1:(q1=nx+3)=False:=eq_false om;have pq1:nx+3<n2:=by omega
  have ff:=qE @z1q1 @z2q1 @bq1 @pq1 ff;refine gZ Dg ?_;refine Ap [4,6,30,31,32] [((nx+3),⟨91,[s.data[k]!.d]⟩),(q1,⟨5,(out++gI s.data[k]!.t).map bD⟩)] (by simp only[X9,Yw,go_sem,ff];exact rfl) (by first|(simp only[go_sem,ff];done)|(simp[go_sem,ff];done)) ?_
  refine aU (ib Dg 3 (hct:=by exact Gn (out++gI s.data[k]!.t) s.data[k]!.n q1 _ _ (by simp only[go_sem,z1q1,z2q1]) (by simp only[Yr,zl,pJ];omega)) (hk:=?_))
  rintro res h2 n2 ⟨q2,rfl,rfl,aq2,bq2⟩;dsimp only at aq2 bq2;have z1q2:(nx+3=q2)=False:=eq_false om;have z2q2:(q2=nx+3)=False:=eq_false om;have pq2:nx+3<n2:=by omega
  have ff:=qE @z1q2 @z2q2 @bq2 @pq2 ff;refine gZ Dg ?_;refine Ap [4,6,30,31,32] [((nx+3),⟨91,[s.data[k]!.d]⟩),(q2,⟨5,(out++gI s.data[k]!.t++dI s.data[k]!.n).map bD⟩)] (by simp only[X9,Yw,go_sem,ff];exact rfl) (by first|(simp only[go_sem,ff];done)|(simp[go_sem,ff];done)) ?_
  refine ib Dg 3 (hct:=by exact Gn (out++gI s.data[k]!.t++dI s.data[k]!.n) s.data[k]!.m q2 _ _ (by simp only[go_sem,z1q2,z2q2]) (by simp only[Yr,zl,pJ];omega)) (hk:=?_)
  rintro res h2 n2 ⟨q3,rfl,rfl,aq3,bq3⟩;dsimp only at aq3 bq3;have pq3:nx+3<n2:=by omega
  have ff:=qD (nH (nx+3) q3) @bq3 @pq3 ff;refine gZ Dg ?_;refine Ap [4,30,31,32] [(q3,⟨5,(out++gI s.data[k]!.t++dI s.data[k]!.n++dI s.data[k]!.m).map bD⟩)] (by simp only[X9,Yw,go_sem,ff];exact rfl) (by first|(simp only[go_sem,ff];done)|(simp[go_sem,ff];done)) ?_
  refine aA Dg ?_;exact ak (k+1,out++gI s.data[k]!.t++dI s.data[k]!.n++dI s.data[k]!.m,q3,_) (h1:=⟨iv,iv,(by(try dsimp only);simp only[List.length_append,zl,pJ];omega),(by(try dsimp only);rw[<-hv,ZeA hk2];simp[Ay])⟩)
 refine aR ?_
 exact fr Dg (K:=2) (k:=by rw[YU (by omega)]at hv;simp at hv;simp[nV,c1,hv])
def Zc9{l:Str}{n:Nat}(h:n<l.length):(l.map bD).getD n []=[.v (.int .u8 ((l.getD n 0).toNat:Int))]:=by
 simp[List.getD,h,bD]
def ZeK{d:Nat}{c:UInt8}(h:d<18446744073709551616):IntKind.u64.wrap (Gy .u64 (d:Int) (IntKind.u64.wrap (c.toNat:Int))*1099511628211)=((eZ d c:Nat):Int):=by
 have hc:=c.toNat_lt
 have e0:IntKind.u64.wrap (c.toNat:Int)=(c.toNat:Int):=by rw[IntKind.wrap_u64];omega
 have e1:(BitVec.ofInt 64 (d:Int) ^^^ BitVec.ofInt 64 (c.toNat:Int)).toNat=d ^^^ c.toNat:=by
  rw[BitVec.toNat_xor,BitVec.ofInt_natCast,BitVec.ofInt_natCast,BitVec.toNat_ofNat,BitVec.toNat_ofNat,Zy (by omega),Zy (by omega)]
 have e2:d ^^^ c.toNat<2^64:=Nat.xor_lt_two_pow om om
 have e3:Gy .u64 (d:Int) (c.toNat:Int)=IntKind.u64.wrap ((BitVec.ofInt 64 (d:Int) ^^^ BitVec.ofInt 64 (c.toNat:Int)).toNat:Int):=rfl
 rw[e0,e3,e1,IntKind.wrap_u64,IntKind.wrap_u64]
 unfold eZ
 omega
def Au(l:Str){d:Nat}(h:d<18446744073709551616):l.foldl eZ d<18446744073709551616:=by
 rcases List.eq_nil_or_concat l with e|⟨p,z,e⟩
 . subst e;exact h
 rw[e,List.concat_eq_append,Y8,YB,ZI]
 unfold eZ
 omega
def ZeL{b:Str}{d k:Nat}(h:k<b.length):(b.take (k+1)).foldl eZ d=eZ ((b.take k).foldl eZ d) (b.getD k 0):=by
 have e:b[k]?.toList=[b.getD k 0]:=by simp[List.getD,X6 h]
 rw[ZK,Y8,e,YB,ZI]
theorem FP(b:Str)(d:Nat)(h:H)(n W:Nat)(hW:h W=some ⟨256,[[.v (.int .u64 ((d:Nat):Int))]]⟩)(hd:d<18446744073709551616)(hb:b.length<=1000000000000):dS prog 200 [.mptr W 0 0,.l (b.map bD)] h n (λx h' n'=>h'=upd h W (some ⟨256,[[.v (.int .u64 ((b.foldl eZ d:Nat):Int))]]⟩)/\n<=n'):=by
 refine oP func200 λhnone ff=>?_
 unfold f200
 refine ae Dg ?_
 refine dO ?_
 refine zW (Nat×Nat) [0,6,7] (λ⟨k,nx⟩=>(k<=b.length/\n<=nx/\W<nx,b.length-k,[(8,.i k)],upd h W (some ⟨256,[[.v (.int .u64 (((b.take k).foldl eZ d:Nat):Int))]]⟩),nx)) (0,_) ?_ (hA:=⟨iv,iv,(by(try dsimp only);rcases Nat.lt_or_ge W n with q|q;omega;rw[hnone W q]at hW;cases hW)⟩) (sU:=by intro q;left;show upd h W (some ⟨256,[[.v (.int .u64 ((d:Nat):Int))]]⟩) q=h q;by_cases e:q=W;subst e;rw[bK];exact hW.symm;rw[aL _ _ _ _ e])
 rintro⟨k,nx⟩ ⟨hk,hn,hWx⟩
 simp only[XX,XZ]
 refine wF Dg ?_ ?_<;>intro c1
 .
  have hk2:k<b.length:=by omega
  have hst:=ZeL (d:=d) hk2;have hdl:=Au (b.take k) hd;have hds:=ZeK (c:=b.getD k 0) hdl;have ff:=qA (Zc9 hk2) ff;refine wB ?_;refine ae Dg ?_;refine sgr ?_;refine gmulu Dg 7 hds ?_;refine gnilc Dg 8 (r:=W) (j:=0) (off:=0) ?_;refine gst1 Dg 9 ?_;refine gend Dg ?_;refine dw_to [(8,.i k),(0,.mptr W 0 0),(6,.l (b.map bD)),(7,.i b.length)] (upd h W (some ⟨256,[[.v (.int .u64 ((eZ ((b.take k).foldl eZ d) (b.getD k 0):Nat):Int))]]⟩)) _ (nx+14) .tt ?_ (hh:=by show upd (upd h W _) W _=_;rw[UV];rfl)
  refine aA Dg ?_;refine ak (k+1,_) (h5:=?_);rw[hst];exact yz _
 have hk3:k=b.length:=by omega
 subst hk3
 refine aR ?_
 exact gN (upd h W (some ⟨256,[[.v (.int .u64 ((b.foldl eZ d:Nat):Int))]]⟩)) (hr:=oS (k:=by first|omega|exact⟨rfl,om⟩)) (hh:=by rw[Zq];exact yz _)
def ZcT(s:Str)(p:Str)(hs:s.length<=1000000):PureCt prog 210 [.v (.string (bs s)),.v (.string (bs p))] (.b (sW s p)):=by
 refine oO func210 λff=>?_
 unfold f210
 have e1:((s.length:Int)-p.length).toNat=s.length-p.length:=by omega
 have ff:=qA @e1 ff
 refine ae Dg ?_
 exact fr Dg (k:=by simp[sW])
def ZcS(s:Str)(p:Str)(hs:s.length<=1000000):PureCt prog 134 [.v (.string (bs s)),.v (.string (bs p))] (.b (sW s p)):=by
 refine oO func134 λff=>?_
 unfold f134
 refine ae Dg ?_
 exact ft Dg (hok:=oF (ZcT _ _ hs))
def wO(s:Str)(z:Str):PureCt prog 51 [.v (.string (bs s)),.v (.string (bs z))] (.tuple [.b (bC s z),.i (if ah s&&ah z then 0 else 11)]):=by
 refine oO func51 λff=>?_
 unfold f51
 refine ae Dg ?_
 refine oK Dg ?_ ?_ (hok:=oH sF)<;>intro c1
 . exact fr Dg (K:=1) (k:=by first|(simp_all [bC,under];done)|(simp;simp only[bC,under];grind))
 refine oK Dg ?_ ?_<;>intro c2
 . exact fr Dg (K:=1) (k:=by first|(simp_all [bC,under];done)|(simp;simp only[bC,under];grind))
 have hn:=fT c1.1
 have hm:=fT c1.2
 have e1:((s.length:Int)-z.length-1).toNat=s.length-z.length-1:=by omega
 have ff:=qA @e1 ff
 exact fr Dg (K:=1) (hok:=ic @ZcS) (k:=by first|(simp_all [bC,under];done)|(simp;simp only[bC,under];grind))
def MO(s:Str)(hs:s.length<=1000):PureCt prog 103 [.v (.string (bs s))] (.b (vP s)):=by
 refine oO func103 λff=>?_
 unfold f103
 refine ae Dg ?_
 refine ae Dg ?_ (hok:=ic @zC)
 rcases hps:aM s with _|⟨p0,ps⟩
 . have ff:=qA @hps ff;exact fr Dg (k:=by simp[vP,hps])
 have ff:=qA @hps ff
 exact fr Dg (k:=by simp[vP,hps])
def Lj(a:Str)(s:Int)(b:Str)(t:Int):PureCt prog 138 [.v (.string (bs a)),.i s,.v (.string (bs b)),.i t] (.i (qC ⟨a,s⟩ ⟨b,t⟩)):=by
 refine oO func138 λff=>?_
 unfold f138
 refine ae Dg ?_
 refine oK Dg ?_ ?_<;>intro c1
 . refine ae Dg ?_ (hok:=oF (Ez _ _));exact fr Dg (k:=by simp[qC, *])
 exact fr Dg (hok:=ic @FZ) (k:=by simp[qC, *])
def QM(t:Int)(a:Bool):PureCt prog 184 [.i t,.b a] (.b (fits t a)):=by
 refine oO func184 λff=>?_
 unfold f184
 refine ae Dg ?_
 refine wA Dg ?_
 refine oL Dg ?_ ?_<;>intro c1
 .
  refine cd ?_ ?_<;>intro c2
  . exact fr Dg (k:=by simp_all [fits])
  refine oL Dg ?_ ?_<;>intro c3
  .
   refine cd ?_ ?_<;>intro c4
   . exact fr Dg (k:=by simp_all [fits])
   refine fB ?_;exact fr Dg (k:=by simp_all [fits])
  refine aA Dg ?_;refine cd ?_ ?_<;>intro c5
  . exact fr Dg (k:=by simp_all [fits])
  refine fB ?_;exact fr Dg (k:=by simp_all [fits])
 refine aA Dg ?_
 refine cd ?_ ?_<;>intro c6
 . exact fr Dg (k:=by simp_all [fits])
 refine oL Dg ?_ ?_<;>intro c7
 .
  refine cd ?_ ?_<;>intro c8
  . exact fr Dg (k:=by simp_all [fits])
  refine fB ?_;exact fr Dg (k:=by simp_all [fits])
 refine aA Dg ?_
 refine cd ?_ ?_<;>intro c9
 . exact fr Dg (k:=by simp_all [fits])
 refine fB ?_
 exact fr Dg (k:=by simp_all [fits])
def XB(t:Int)(a:Bool):PureCt prog 108 [.i t,.b a] (.b (fits t a)):=by
 refine oO func108 λff=>?_
 unfold f108
 refine ae Dg ?_
 refine oK Dg ?_ ?_<;>intro c1
 . exact fr Dg (k:=by simp;simp only[fits];grind)
 exact fr Dg (k:=by simp;simp only[fits];grind)
def Uj(q:Qst):PureCt prog 151 [.agg q.d] (.b (eO q)):=by
 refine oO func151 λff=>?_
 unfold f151
 refine ae Dg ?_
 exact fr Dg (hok:=oH sO) (k:=by simp[eO,aW,Zp])
def xW(s:Str)(z:Str)(hs:s.length<=1000)(hz:z.length<=1000):PureCt prog 105 [.v (.string (bs s)),.v (.string (bs z))] (.b (jU s z)):=by
 refine oO func105 λff=>?_
 unfold f105
 refine ae Dg ?_
 refine ae Dg ?_ (hok:=oF (zC _ hs))
 refine ae Dg ?_ (hok:=oF (zC _ hz))
 refine oK Dg ?_ ?_<;>intro c1
 . exact fr Dg (k:=by simp[jU];omega)
 have hp:=NF s
 have hq:=NF z
 refine wA Dg ?_
 refine lq (Nat×Nat) [5,6] (λ⟨k,nx⟩=>(k<=(aM z).length/\aF (aM z).length (uJ (aM s) (aM z)) 0=aF (aM z).length (uJ (aM s) (aM z)) k,(aM z).length-k,[(7,.i k)],[],nx)) (0,_) ?_
 rintro⟨k,nx⟩ ⟨hk,hv⟩
 simp only[XX,XZ]
 refine oT Dg ?_ ?_<;>intro c2
 .
  have hk2:k<(aM z).length:=by simpa using c2
  have hk3:(aM s).length-(aM z).length+k<(aM s).length:=by omega
  have e1:(((aM s).length:Int)-(aM z).length+k).toNat=(aM s).length-(aM z).length+k:=by omega
  have ff:=qD @e1 (iy hk2) (iy hk3) ff;refine wD ?_;refine wE Dg ?_ ?_<;>intro c3
  . exact fr Dg (k:=by have hF:(uJ (aM s) (aM z)) k=false:=(by simp only[uJ];grind);simp only[jU];rw[hv,dY hk2 hF];try simp)
  refine wC Dg ?_;have h8:(uJ (aM s) (aM z)) k=true:=by simp only[uJ];grind
  exact ak (k+1,_) (h1:=⟨iv,(by(try dsimp only);rw[hv,bO hk2 h8])⟩)
 refine aR ?_
 exact fr Dg (k:=by simp only[jU];rw[hv,jE (by omega)];simp;omega)
def Lg(l:List RSig)(a:Str):PureCt prog 185 [.l (l.map RSig.d),.v (.string (bs a))] (.b (jJ l a)):=by
 refine oO func185 λff=>?_
 unfold f185
 refine ae Dg ?_
 refine oK Dg ?_ ?_<;>intro c1
 . exact fr Dg (k:=by simp[jJ];omega)
 refine wA Dg ?_
 refine lq (Nat×Nat) [0,1,10,11] (λ⟨k,nx⟩=>(k<=l.length/\aF l.length (jk a l) 0=aF l.length (jk a l) k,l.length-k,[(12,.i k)],[],nx)) (0,_) ?_
 rintro⟨k,nx⟩ ⟨hk,hv⟩
 simp only[XX,XZ]
 refine wH Dg ?_ ?_<;>intro c2
 .
  have hk2:k<l.length:=by simpa using c2
  have h0:0<l.length:=by omega
  have hk1:k-1<l.length:=by omega
  have e1:((k:Int)-1).toNat=k-1:=by omega
  have ff:=qE (w9 hk2) (w9 h0) (w9 hk1) @e1 ff;refine wB ?_;refine ae Dg ?_;refine oK Dg ?_ ?_<;>intro c3
  . exact fr Dg (k:=by have hF:(jk a l) k=false:=(by simp only[jk,aW];grind);simp only[jJ];rw[hv,dY hk2 hF];try simp)
  refine oK Dg ?_ ?_<;>intro c4
  . exact fr Dg (k:=by have hF:(jk a l) k=false:=(by simp only[jk,aW];grind);simp only[jJ];rw[hv,dY hk2 hF];try simp)
  refine wE Dg ?_ ?_<;>intro c5
  . exact fr Dg (k:=by have hF:(jk a l) k=false:=(by simp only[jk,aW];grind);simp only[jJ];rw[hv,dY hk2 hF];try simp)
  refine wC Dg ?_;have h8:(jk a l) k=true:=by simp only[jk,aW];grind
  exact ak (k+1,_) (h1:=⟨iv,(by(try dsimp only);rw[hv,bO hk2 h8])⟩)
 refine aR ?_
 exact fr Dg (k:=by simp only[jJ];rw[hv,jE (by omega)];simp;omega)
def Xv(l:List RSig)(a:Str):PureCt prog 111 [.l (l.map RSig.d),.v (.string (bs a))] (.b (jJ l a)):=by
 refine oO func111 λff=>?_
 unfold f111
 refine ae Dg ?_
 refine oK Dg ?_ ?_<;>intro c1
 . exact fr Dg (k:=by simp[jJ];omega)
 refine wA Dg ?_
 refine lq (Nat×Nat) [0,1] (λ⟨k,nx⟩=>(k<=l.length/\aF l.length (jk a l) 0=aF l.length (jk a l) k,l.length-k,[(5,.i k)],[],nx)) (0,_) ?_
 rintro⟨k,nx⟩ ⟨hk,hv⟩
 simp only[XX,XZ]
 refine oT Dg ?_ ?_<;>intro c2
 .
  have hk2:k<l.length:=by simpa using c2
  have h0:0<l.length:=by omega
  have hk1:k-1<l.length:=by omega
  have e1:((k:Int)-1).toNat=k-1:=by omega
  have ff:=qE (w9 hk2) (w9 h0) (w9 hk1) @e1 ff;refine wD ?_;refine ae Dg ?_;refine oK Dg ?_ ?_<;>intro c3
  . exact fr Dg (k:=by have hF:(jk a l) k=false:=(by simp only[jk,aW];grind);simp only[jJ];rw[hv,dY hk2 hF];try simp)
  refine wE Dg ?_ ?_<;>intro c4
  . exact fr Dg (k:=by have hF:(jk a l) k=false:=(by simp only[jk,aW];grind);simp only[jJ];rw[hv,dY hk2 hF];try simp)
  refine wC Dg ?_;have h8:(jk a l) k=true:=by simp only[jk,aW];grind
  exact ak (k+1,_) (h1:=⟨iv,(by(try dsimp only);rw[hv,bO hk2 h8])⟩)
 refine aR ?_
 exact fr Dg (k:=by simp only[jJ];rw[hv,jE (by omega)];simp;omega)
end Go.Proofs.YtdcenbhgholncaaGreatDoor
